/- Layer 27's records as bytes: the walks of audit.Encode, audit.Decode, the reference's Record, and the law's same. -/
import Derived.Test.YtkjgieehiimiiaaProg
import Derived.Test.YtkjgieehiimiiaaBase
import Derived.Deep.RegionHeld3
import Derived.Deep.RegionLaw
import Derived.Deep.QuietTactic
import Derived.BigQuiet
import Derived.Handy
namespace Go.Proofs.Ytkjgieehiimiiaa
open Go.RowKit

theorem info_u8 : (Try.prog.info? 5).map (fun i => (i.zero, i.size, i.bytes)) = some (some (.int .u8 0), 1, 1) := by kernel_rfl

/-- A record as bytes. -/
def encB (s f t : Nat) (l : List UInt8) : List UInt8 :=
  [UInt8.ofNat (s % 256), UInt8.ofNat (s / 256 % 256), UInt8.ofNat (s / 65536 % 256), UInt8.ofNat (s / 16777216), UInt8.ofNat f, UInt8.ofNat t, UInt8.ofNat l.length] ++ l

theorem encB_head (s f t : Nat) (l : List UInt8) (hs : s < 4294967296) (hf : f < 256) (ht : t < 256) (hl : l.length < 256) :
    (#[Value.int .u8 ((s : Int) % 256), .int .u8 ((s : Int) / 256 % 256), .int .u8 ((s : Int) / 65536 % 256), .int .u8 ((s : Int) / 16777216), .int .u8 f, .int .u8 t, .int .u8 l.length] : Array Value).toList ++ bvs l = bvs (encB s f t l) := by
  simp only [encB, bvs, List.map_append, List.map_cons, List.map_nil]
  rw [bv_ofNat (show s % 256 < 256 by omega), bv_ofNat (show s / 256 % 256 < 256 by omega), bv_ofNat (show s / 65536 % 256 < 256 by omega), bv_ofNat (show s / 16777216 < 256 by omega), bv_ofNat hf, bv_ofNat ht, bv_ofNat hl]
  simp
theorem encB_length (s f t : Nat) (l : List UInt8) : (encB s f t l).length = 7 + l.length := by simp [encB]; omega

set_option maxHeartbeats 400000 in
theorem encode_ok (s f t : Nat) (A : Option Addr) (n c : Nat) (l : List UInt8) (w : World) (hs : s < 4294967296) (hf : f < 256) (ht : t < 256) (hn : n ≤ 128)
    (hr : Rd w w.heap.size 1 A n (bvs l)) :
    Calls Try.prog 9 #[.agg #[.int .u32 s, .int .u8 f, .int .u8 t, .slice A n c]] w fun e w' => ∃ A' c', e = .returned (.tuple #[.slice A' (7 + n) c', .int .i64 0]) ∧
      w'.ownsRow w.heap.size 5 1 (.slice A' (7 + n) c') (7 + n) (bvs (encB s f t l)) ∧ Below w.heap.size w w' := by
  have h : (n : Int) ≤ 128 := by omega
  have hl : l.length = n := by have := hr.1; simpa [bvs] using this
  obtain ⟨i0, hi0, hz0, hz1, hz2⟩ := info_parts info_u8
  have HE := hide (encB_head s f t l hs hf ht (by omega))
  rw [hl] at HE
  clear hl
  go_enter Try.func9, Try.ntmps9
  go_wp2_with (at_builtin; refine wpList_append_rd _ rfl (.tmp 32) (.tmp 34) 23 rfl w.heap.size 5 i0 (.int .u8 0) 1 1 Try.underlying23 hi0 hz0 hz1 hz2 rfl (by decide) (.slice (some ⟨w.heap.size + 1, 0, none⟩) 7 7) 7 _ rfl (own_lit rfl (by simp) (by simp) (by simp [maxLen]) rfl) w.heap.size A n c (bvs l) rfl ((hr.alloc (Nat.le_refl _) _).alloc (by simp) _) (bvs_one l) (by simp only [maxLen]; omega) (by omega) (by simp; omega) ?_; intro v' w' hown hg hnil hat)
  obtain ⟨A', c', rfl, hc1, hc2, _⟩ := own_form hown
  go_ret2
  refine ⟨A', c', rfl, ?_, ?_⟩
  · rw [← HE.out]; exact hown
  · exact (((Below.refl _ _).alloc (Nat.le_refl _) _).alloc (by simp) _).grown hg (by simp; omega) (by simp [Value.ownBlock])

set_option maxHeartbeats 400000 in
theorem encode_long (s f t : Nat) (A : Option Addr) (n c : Nat) (w : World) (hn : 128 < n) :
    Calls Try.prog 9 #[.agg #[.int .u32 s, .int .u8 f, .int .u8 t, .slice A n c]] w fun e w' => e = .returned (.tuple #[.slice none 0 0, .int .i64 8]) ∧ Below w.heap.size w w' := by
  have h : (128 : Int) < n := by omega
  go_enter Try.func9, Try.ntmps9
  go_wp2
  go_ret2
  exact ⟨rfl, (Below.refl _ _).alloc (Nat.le_refl _) _⟩

set_option maxHeartbeats 400000 in
theorem record_ok (s f t : Nat) (A : Option Addr) (n c : Nat) (l : List UInt8) (w : World) (hs : s < 4294967296) (hf : f < 256) (ht : t < 256) (hn : n ≤ 128)
    (hr : Rd w w.heap.size 1 A n (bvs l)) :
    Calls Try.prog 12 #[.int .u32 s, .int .u8 f, .int .u8 t, .slice A n c] w fun e w' => ∃ A' c', e = .returned (.slice A' (7 + n) c') ∧
      w'.ownsRow w.heap.size 5 1 (.slice A' (7 + n) c') (7 + n) (bvs (encB s f t l)) ∧ Below w.heap.size w w' := by
  have h : (n : Int) ≤ 128 := by omega
  have hl : l.length = n := by have := hr.1; simpa [bvs] using this
  obtain ⟨i0, hi0, hz0, hz1, hz2⟩ := info_parts info_u8
  have HE := hide (encB_head s f t l hs hf ht (by omega))
  rw [hl] at HE
  clear hl
  go_enter Try.func12, Try.ntmps12
  go_wp2_with (at_builtin; refine wpList_append_rd _ rfl (.tmp 30) (.tmp 31) 23 rfl w.heap.size 5 i0 (.int .u8 0) 1 1 Try.underlying23 hi0 hz0 hz1 hz2 rfl (by decide) (.slice (some ⟨w.heap.size, 0, none⟩) 7 7) 7 _ rfl (own_lit rfl (by simp) (by simp) (by simp [maxLen]) rfl) w.heap.size A n c (bvs l) rfl (hr.alloc (Nat.le_refl _) _) (bvs_one l) (by simp only [maxLen]; omega) (by omega) (by simp) ?_; intro v' w' hown hg hnil hat)
  obtain ⟨A', c', rfl, hc1, hc2, _⟩ := own_form hown
  go_ret
  refine ⟨A', c', rfl, ?_, ?_⟩
  · rw [← HE.out]; exact hown
  · exact ((Below.refl _ _).alloc (Nat.le_refl _) _).grown hg (by simp) (by simp [Value.ownBlock])

/-! ### Decode -/

theorem decode_short (A : Option Addr) (n c : Nat) (w : World) (hn : n < 7) :
    Calls Try.prog 10 #[.slice A n c] w fun e w' => e = .returned (.tuple #[.agg #[.int .u32 0, .int .u8 0, .int .u8 0, .slice none 0 0], .int .i64 0, .int .i64 28]) ∧ Below w.heap.size w w' := by
  have h : (n : Int) < 7 := by omega
  go_enter Try.func10, Try.ntmps10
  go_wp2
  go_returns
  exact ⟨rfl, ((Below.refl _ _).alloc (Nat.le_refl _) _)⟩

set_option maxHeartbeats 400000 in
theorem decode_form (A : Option Addr) (n c : Nat) (l : List UInt8) (w : World) (hn : 7 ≤ n) (hr : Rd w w.heap.size 1 A n (bvs l)) (hm : n < 1000000) (hx : 128 < (l.getD 6 0).toNat ∨ n < 7 + (l.getD 6 0).toNat) :
    Calls Try.prog 10 #[.slice A n c] w fun e w' => e = .returned (.tuple #[.agg #[.int .u32 0, .int .u8 0, .int .u8 0, .slice none 0 0], .int .i64 0, .int .i64 28]) ∧ Below w.heap.size w w' := by
  obtain ⟨b, o, rfl, hb, hc⟩ := hr.byte (i := 6) (by omega)
  have h : (7 : Int) ≤ n := by omega
  have c6 := hc 6 (by omega)
  have hlt := (l.getD 6 0).toNat_lt
  generalize (l.getD 6 0).toNat = k at c6 hx hlt
  clear hc hr
  rcases hx with hx | hx
  · have hx' : (128 : Int) < k := by omega
    go_enter Try.func10, Try.ntmps10
    go_wp2
    go_returns
    exact ⟨rfl, ((Below.refl _ _).alloc (Nat.le_refl _) _)⟩
  · have hx' : (n : Int) < 7 + k := by omega
    by_cases hk : 128 < k
    · have hx'' : (128 : Int) < k := by omega
      go_enter Try.func10, Try.ntmps10
      go_wp2
      go_returns
      exact ⟨rfl, ((Below.refl _ _).alloc (Nat.le_refl _) _)⟩
    · have hx'' : (k : Int) ≤ 128 := by omega
      go_enter Try.func10, Try.ntmps10
      go_wp2
      go_returns
      exact ⟨rfl, ((Below.refl _ _).alloc (Nat.le_refl _) _)⟩

theorem or_add (a b k : Nat) (ha : a < 2 ^ k) : a ||| b * 2 ^ k = a + b * 2 ^ k := by
  rw [Nat.add_comm, Nat.mul_comm, Nat.two_pow_add_eq_or_of_lt ha, Nat.or_comm]

theorem le32 (a b c d : Nat) (ha : a < 256) (hb : b < 256) (hc : c < 256) (hd : d < 256) :
    bits BinOp.or IntKind.u32 (bits BinOp.or IntKind.u32 (bits BinOp.or IntKind.u32 (a : Int) ((b : Int) * 256)) ((c : Int) * 65536)) ((d : Int) * 16777216) = ((a + b * 256 + c * 65536 + d * 16777216 : Nat) : Int) := by
  have e1 : (b : Int) * 256 = ((b * 256 : Nat) : Int) := by omega
  have e2 : (c : Int) * 65536 = ((c * 65536 : Nat) : Int) := by omega
  have e3 : (d : Int) * 16777216 = ((d * 16777216 : Nat) : Int) := by omega
  have o1 := or_add a b 8 (by omega)
  have o2 := or_add (a + b * 256) c 16 (by omega)
  have o3 := or_add (a + b * 256 + c * 65536) d 24 (by omega)
  simp only [Nat.reducePow] at o1 o2 o3
  rw [e1, e2, e3, u32_or_nat _ _ (by omega) (by omega), o1, u32_or_nat _ _ (by omega) (by omega), o2, u32_or_nat _ _ (by omega) (by omega), o3]

/-- What Decode leaves of a record that is whole. -/
def DecOk (w : World) (l : List UInt8) (e : Ending) (w' : World) : Prop :=
  ∃ A' c', e = .returned (.tuple #[.agg #[.int .u32 (((l.getD 0 0).toNat + (l.getD 1 0).toNat * 256 + (l.getD 2 0).toNat * 65536 + (l.getD 3 0).toNat * 16777216 : Nat) : Int), .int .u8 (l.getD 4 0).toNat, .int .u8 (l.getD 5 0).toNat,
      .slice A' (l.getD 6 0).toNat c'], .int .i64 (7 + (l.getD 6 0).toNat), .int .i64 0]) ∧
    w'.ownsRow w.heap.size 5 1 (.slice A' (l.getD 6 0).toNat c') (l.getD 6 0).toNat (bvs ((l.drop 7).take (l.getD 6 0).toNat)) ∧ Below w.heap.size w w'

set_option maxHeartbeats 1000000 in
theorem decode_ok (A : Option Addr) (n c : Nat) (l : List UInt8) (w : World) (hn : 7 ≤ n) (hr : Rd w w.heap.size 1 A n (bvs l)) (hm : n < 1000000) (hnc : n ≤ c) (hx : (l.getD 6 0).toNat ≤ 128) (hx2 : 7 + (l.getD 6 0).toNat ≤ n) :
    Calls Try.prog 10 #[.slice A n c] w (DecOk w l) := by
  have hr2 := (hr.cut (k := 7) (by omega) hnc).take (m := (l.getD 6 0).toNat) (by omega)
  obtain ⟨b, o, rfl, hb, hc⟩ := hr.byte (i := 6) (by omega)
  have hA : (if c = 7 then (some ⟨b, o, none⟩ : Option Addr) else (some ⟨b, o, none⟩ : Option Addr).map (·.add (7 * 1))) = if c = 7 then (some ⟨b, o, none⟩ : Option Addr) else some ⟨b, o + 7, none⟩ := by simp [Addr.add]
  rw [hA] at hr2
  clear hA
  simp only [Nat.mul_one, bvs_drop, bvs_take] at hr2
  have h : (7 : Int) ≤ n := by omega
  have c0 := hc 0 (by omega)
  rw [Nat.add_zero] at c0
  have c1 := hc 1 (by omega)
  have c2 := hc 2 (by omega)
  have c3 := hc 3 (by omega)
  have c4 := hc 4 (by omega)
  have c5 := hc 5 (by omega)
  have c6 := hc 6 (by omega)
  have h0 := (l.getD 0 0).toNat_lt
  have h1 := (l.getD 1 0).toNat_lt
  have h2 := (l.getD 2 0).toNat_lt
  have h3 := (l.getD 3 0).toNat_lt
  have h4 := (l.getD 4 0).toNat_lt
  have h5 := (l.getD 5 0).toNat_lt
  have h6 := (l.getD 6 0).toNat_lt
  have HD : Hid (DecOk w l = DecOk w l) := rfl
  conv at HD => arg 1; rhs; unfold DecOk
  generalize (l.getD 0 0).toNat = k0 at c0 h0 HD
  generalize (l.getD 1 0).toNat = k1 at c1 h1 HD
  generalize (l.getD 2 0).toNat = k2 at c2 h2 HD
  generalize (l.getD 3 0).toNat = k3 at c3 h3 HD
  generalize (l.getD 4 0).toNat = k4 at c4 h4 HD
  generalize (l.getD 5 0).toNat = k5 at c5 h5 HD
  generalize (l.getD 6 0).toNat = k at c6 hx hx2 h6 hr2 HD
  generalize (l.drop 7).take k = l7 at hr2 HD
  have L32 := hide (le32 k0 k1 k2 k3 h0 h1 h2 h3)
  have hx' : (k : Int) ≤ 128 := by omega
  have hx'' : (7 : Int) + k ≤ n := by omega
  have g1 : (1 : Int) < n := by omega
  have g2 : (2 : Int) < n := by omega
  have g3 : (3 : Int) < n := by omega
  have g4 : (4 : Int) < n := by omega
  have g5 : (5 : Int) < n := by omega
  have g0 : 0 < n := by omega
  have w0 : IntKind.u32.wrap (k0 : Int) = k0 := IntWalk.u32_in _ (by omega)
  have w1 : IntKind.u32.wrap (k1 : Int) = k1 := IntWalk.u32_in _ (by omega)
  have w2 : IntKind.u32.wrap (k2 : Int) = k2 := IntWalk.u32_in _ (by omega)
  have w3 : IntKind.u32.wrap (k3 : Int) = k3 := IntWalk.u32_in _ (by omega)
  have m1 : IntKind.u32.wrap ((k1 : Int) * 256) = k1 * 256 := IntWalk.u32_in _ (by omega)
  have m2 : IntKind.u32.wrap ((k2 : Int) * 65536) = k2 * 65536 := IntWalk.u32_in _ (by omega)
  have m3 : IntKind.u32.wrap ((k3 : Int) * 16777216) = k3 * 16777216 := IntWalk.u32_in _ (by omega)
  have m7 : IntKind.i64.wrap (7 + (k : Int)) = 7 + k := IntWalk.i64_in _ (by omega)
  have n7 : (0 : Int) ≤ 7 + (k : Int) := by omega
  have n8 : (7 : Int) ≤ 7 + (k : Int) := by omega
  have n9 : (7 : Int) + (k : Int) ≤ c := by omega
  clear hc hr hm hn
  obtain ⟨i0, hi0, hz0, hz1, hz2⟩ := info_parts info_u8
  go_enter Try.func10, Try.ntmps10
  go_wp2
  go_region_held3 (fun w' => w'.cell? ⟨b, o, none⟩ = some (.int .u8 k0) ∧ w'.cell? ⟨b, o + 1, none⟩ = some (.int .u8 k1) ∧ w'.cell? ⟨b, o + 2, none⟩ = some (.int .u8 k2) ∧ w'.cell? ⟨b, o + 3, none⟩ = some (.int .u8 k3) ∧ w'.cell? ⟨b, o + 4, none⟩ = some (.int .u8 k4) ∧ w'.cell? ⟨b, o + 5, none⟩ = some (.int .u8 k5)) (go_keep) ((fail))
  rename_i hheld
  clear hheld
  go_wp2
  go_region_law ((refine step_append_rd _ (by rfl) (.tmp 55) (.tmp 59) 23 (by rfl) (w.heap.size + 2) 5 i0 (.int .u8 0) 1 1 Try.underlying23 hi0 hz0 hz1 hz2 rfl (by decide) (.slice none 0 0) 0 [] (by rfl) (World.ownsRow_nil _ _ _ _) w.heap.size (if c = 7 then (some ⟨b, o, none⟩ : Option Addr) else some ⟨b, o + 7, none⟩) k (c - 7) (bvs l7) (by simp [Act.eval]; omega) (((hr2.alloc (Nat.le_refl _) _).alloc (by simp) _).drew) (bvs_one _) (by simp only [maxLen]; omega) (by omega) (by simp) ?_; intro v' w' hown hg hnil hat; obtain ⟨A', c', rfl, hcc, hcm, hn0⟩ := own_form hown; have hb' := grown_none hg; obtain ⟨hc', hf'⟩ := bcell hb'; have hz : w.heap.size + 1 < w'.heap.size := (by have := hb'.size; simp at this; omega); have hz0 : w.heap.size < w'.heap.size := (by omega); clear hnil hat hn0 hcc hcm hg; generalize (if c = 7 then (some ⟨b, o, none⟩ : Option Addr) else some ⟨b, o + 7, none⟩) = A7 at *))
  clear c0 c1 c2 c3 c4 c5 c6
  go_wp2
  rw [HD.out]
  have B0 : Blk w' w.heap.size 25 #[.int .u32 0, .int .u8 0, .int .u8 0, .slice none 0 0] := (((Blk.new w 25 _).alloc _).drew.drew).below hb' (by simp; omega)
  have B1 := ((((B0.far (p := ⟨w.heap.size + 1, 3, none⟩) (by simp) (.slice A' k c')).set_ 0 (.int .u32 ((k0 + k1 * 256 + k2 * 65536 + k3 * 16777216 : Nat) : Int))).set_ 1 (.int .u8 k4)).set_ 2 (.int .u8 k5)).set_ 3 (.slice A' k c')
  simp only [L32.out]
  have HB : Below w.heap.size w w' := Below.trans ((((Below.refl _ _).alloc (Nat.le_refl _) _).alloc (by simp) _).drew.drew) (hb'.mono (by simp; omega))
  refine bodyPost_ret (results_run3 rfl (ResV.struct rfl B1 Try.underlying25 (by kernel_rfl)) rfl rfl) rfl ?_
  refine ⟨A', c', rfl, ?_, ?_⟩
  · have h2 := hown
    rw [Nat.zero_add, List.nil_append] at h2
    have h3 := ownsRow_setCell_below (ownsRow_setCell_below (ownsRow_setCell_below (ownsRow_setCell_below (ownsRow_setCell_below h2 (a := ⟨w.heap.size + 1, 3, none⟩) (by simp) (.slice A' k c'))
      (a := ⟨w.heap.size, 0, none⟩) (by simp) (.int .u32 ((k0 + k1 * 256 + k2 * 65536 + k3 * 16777216 : Nat) : Int))) (a := ⟨w.heap.size, 1, none⟩) (by simp) (.int .u8 k4)) (a := ⟨w.heap.size, 2, none⟩) (by simp) (.int .u8 k5)) (a := ⟨w.heap.size, 3, none⟩) (by simp) (.slice A' k c')
    exact own_mono h3 (by omega)
  · exact ((((HB.setCell (by simp) _).setCell (by simp) _).setCell (by simp) _).setCell (by simp) _).setCell (by simp) _

/-! ### the law's own functions -/

set_option maxHeartbeats 400000 in
theorem same_yes (s f t : Int) (A A2 : Option Addr) (n c n2 c2 : Nat) (l : List UInt8) (w : World) (h1 : Rd w w.heap.size 1 A n (bvs l)) (h2 : Rd w w.heap.size 1 A2 n2 (bvs l)) :
    Calls Try.prog 11 #[.agg #[.int .u32 s, .int .u8 f, .int .u8 t, .slice A n c], .agg #[.int .u32 s, .int .u8 f, .int .u8 t, .slice A2 n2 c2]] w
      fun e w' => e = .returned (.bool true) ∧ Below w.heap.size w w' := by
  have k1 : ∀ o1 o2, (convert 23 9 (.slice A n c)).run Try.prog ((w.alloc o1).alloc o2) = .ok (.string (str l)) ((w.alloc o1).alloc o2) :=
    fun o1 o2 => run_string_rd _ _ _ Try.underlying23 Try.underlying5 Try.underlying9 ((h1.alloc (Nat.le_refl _) o1).alloc (by simp) o2)
  have k2 : ∀ o1 o2, (convert 23 9 (.slice A2 n2 c2)).run Try.prog ((w.alloc o1).alloc o2) = .ok (.string (str l)) ((w.alloc o1).alloc o2) :=
    fun o1 o2 => run_string_rd _ _ _ Try.underlying23 Try.underlying5 Try.underlying9 ((h2.alloc (Nat.le_refl _) o1).alloc (by simp) o2)
  go_enter Try.func11, Try.ntmps11
  go_wp2
  go_ret
  exact ⟨by simp, ((Below.refl _ _).alloc (Nat.le_refl _) _).alloc (by simp) _⟩

/-! ### what was encoded, decoded -/

theorem encB_6 (s f t : Nat) (l r : List UInt8) (hl : l.length ≤ 128) : ((encB s f t l ++ r).getD 6 0).toNat = l.length := by
  simp [encB]; omega
theorem decOk_enc {w : World} {s f t : Nat} {l r : List UInt8} {e : Ending} {w' : World} (hs : s < 4294967296) (hf : f < 256) (ht : t < 256) (hl : l.length ≤ 128) (h : DecOk w (encB s f t l ++ r) e w') :
    ∃ A' c', e = .returned (.tuple #[.agg #[.int .u32 s, .int .u8 f, .int .u8 t, .slice A' l.length c'], .int .i64 (7 + l.length), .int .i64 0]) ∧
      w'.ownsRow w.heap.size 5 1 (.slice A' l.length c') l.length (bvs l) ∧ Below w.heap.size w w' := by
  unfold DecOk at h
  rw [encB_6 s f t l r hl] at h
  obtain ⟨A', c', he, ho, hb⟩ := h
  have e0 : ((encB s f t l ++ r).getD 0 0).toNat = s % 256 := by simp [encB]
  have e1 : ((encB s f t l ++ r).getD 1 0).toNat = s / 256 % 256 := by simp [encB]
  have e2 : ((encB s f t l ++ r).getD 2 0).toNat = s / 65536 % 256 := by simp [encB]
  have e3 : ((encB s f t l ++ r).getD 3 0).toNat = s / 16777216 := by simp [encB]; omega
  have e4 : ((encB s f t l ++ r).getD 4 0).toNat = f := by simp [encB]; omega
  have e5 : ((encB s f t l ++ r).getD 5 0).toNat = t := by simp [encB]; omega
  have es : s % 256 + s / 256 % 256 * 256 + s / 65536 % 256 * 65536 + s / 16777216 * 16777216 = s := by omega
  rw [e0, e1, e2, e3, e4, e5, es] at he
  have e7 : ((encB s f t l ++ r).drop 7).take l.length = l := by simp [encB]
  rw [e7] at ho
  exact ⟨A', c', he, ho, hb⟩

theorem decode_enc (s f t : Nat) (l r : List UInt8) (A : Option Addr) (n c : Nat) (w : World) (hs : s < 4294967296) (hf : f < 256) (ht : t < 256) (hl : l.length ≤ 128) (hr : Rd w w.heap.size 1 A n (bvs (encB s f t l ++ r))) (hm : n < 1000000) (hnc : n ≤ c) :
    Calls Try.prog 10 #[.slice A n c] w fun e w' => ∃ A' c', e = .returned (.tuple #[.agg #[.int .u32 s, .int .u8 f, .int .u8 t, .slice A' l.length c'], .int .i64 (7 + l.length), .int .i64 0]) ∧
      w'.ownsRow w.heap.size 5 1 (.slice A' l.length c') l.length (bvs l) ∧ Below w.heap.size w w' := by
  have hn : n = 7 + l.length + r.length := by have := hr.1; rw [bvs_length, List.length_append, encB_length] at this; omega
  exact (decode_ok A n c _ w (by omega) hr hm hnc (by rw [encB_6 s f t l r hl]; exact hl) (by rw [encB_6 s f t l r hl]; omega)).mono fun e w' h => decOk_enc hs hf ht hl h

theorem decode_prefix (s f t : Nat) (l : List UInt8) (A : Option Addr) (m c : Nat) (w : World) (hl : l.length ≤ 128) (hm : m < 7 + l.length) (hr : Rd w w.heap.size 1 A m (bvs ((encB s f t l).take m))) :
    Calls Try.prog 10 #[.slice A m c] w fun e w' => e = .returned (.tuple #[.agg #[.int .u32 0, .int .u8 0, .int .u8 0, .slice none 0 0], .int .i64 0, .int .i64 28]) ∧ Below w.heap.size w w' := by
  by_cases h7 : m < 7
  · exact decode_short A m c w h7
  · refine decode_form A m c _ w (by omega) hr (by omega) (.inr ?_)
    have h6 := encB_6 s f t l [] hl
    rw [List.append_nil] at h6
    have : ((encB s f t l).take m).getD 6 0 = (encB s f t l).getD 6 0 := by
      simp only [List.getD_eq_getElem?_getD, List.getElem?_take]
      rw [if_pos (by omega)]
    rw [this, h6]
    exact hm

/-- Bytes that were decoded, encoded again. -/
theorem enc_dec (l : List UInt8) (h : 7 + (l.getD 6 0).toNat ≤ l.length) (hk : (l.getD 6 0).toNat ≤ 128) :
    encB ((l.getD 0 0).toNat + (l.getD 1 0).toNat * 256 + (l.getD 2 0).toNat * 65536 + (l.getD 3 0).toNat * 16777216) (l.getD 4 0).toNat (l.getD 5 0).toNat ((l.drop 7).take (l.getD 6 0).toNat) = l.take (7 + (l.getD 6 0).toNat) := by
  match l, h with
  | a :: b :: c :: d :: e :: f :: g :: r, h =>
    have ha := a.toNat_lt
    have hb := b.toNat_lt
    have hc := c.toNat_lt
    have hd := d.toNat_lt
    have hg : (List.take g.toNat r).length = g.toNat := by simp at h ⊢; omega
    simp only [List.getD_cons_zero, List.getD_cons_succ, List.drop_succ_cons, List.drop_zero, encB, hg] at *
    have e0 : (a.toNat + b.toNat * 256 + c.toNat * 65536 + d.toNat * 16777216) % 256 = a.toNat := by omega
    have e1 : (a.toNat + b.toNat * 256 + c.toNat * 65536 + d.toNat * 16777216) / 256 % 256 = b.toNat := by omega
    have e2 : (a.toNat + b.toNat * 256 + c.toNat * 65536 + d.toNat * 16777216) / 65536 % 256 = c.toNat := by omega
    have e3 : (a.toNat + b.toNat * 256 + c.toNat * 65536 + d.toNat * 16777216) / 16777216 = d.toNat := by omega
    rw [e0, e1, e2, e3, Nat.add_comm 7]
    simp

end Go.Proofs.Ytkjgieehiimiiaa

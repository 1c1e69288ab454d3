/- AuditLists: records, one behind the other, as long as there is room: all of them, in order: for every input the law returns true, and its arguments read as they did. -/
import Derived.Test.YthmkgohfeahdhaaGreatProg
import Derived.Test.YthmkgohfeahdhaaGreatMKit
import Derived.Deep.RegionHeld3
import Derived.Deep.RegionLaw
import Derived.Deep.QuietTactic
import Derived.BigQuiet
import Derived.Handy
import Derived.Test.YthmkgohfeahdhaaGreatMRfa
import Derived.Test.YthmkgohfeahdhaaGreatMFib
import Derived.Test.YthmkgohfeahdhaaGreatMFsd
import Derived.Test.YthmkgohfeahdhaaGreatMArg
import Derived.Test.YthmkgohfeahdhaaGreatMCfa
import Derived.Deep.Slices
import Derived.Deep.Fields
import Derived.Deep.Strs
import Derived.Test.YthmkgohfeahdhaaGreatRows
import Derived.WalkKit
import Derived.ProofKit
import Derived.OpenShut
import Derived.ShutString
import Derived.ChangeOld
import Derived.Below
import Derived.Lib.SmallJoins
namespace Go.Proofs.YthmkgohfeahdhaaGreat
open Go.RowKit
set_option maxRecDepth 100000

theorem info_u8 : (Tryz.prog.info? 5).map (fun i => (i.zero, i.size, i.bytes)) = some (some (.int .u8 0), 1, 1) := by kernel_rfl

/-- A record as bytes. -/
def encB (s f t : Nat) (l : List UInt8) : List UInt8 :=
  [UInt8.ofNat (s % 256), UInt8.ofNat (s / 256 % 256), UInt8.ofNat (s / 65536 % 256), UInt8.ofNat (s / 16777216), UInt8.ofNat f, UInt8.ofNat t, UInt8.ofNat l.length] ++ l

theorem encB_head (s f t : Nat) (l : List UInt8) (hs : s < 4294967296) (hf : f < 256) (ht : t < 256) (hl : l.length < 256) :
    (#[Value.int .u8 ((s : Int) % 256), .int .u8 ((s : Int) / 256 % 256), .int .u8 ((s : Int) / 65536 % 256), .int .u8 ((s : Int) / 16777216), .int .u8 f, .int .u8 t, .int .u8 l.length] : Array Value).toList ++ bvs l = bvs (encB s f t l) := by
  simp only [encB, bvs, List.map_append, List.map_cons, List.map_nil]
  rw [bv_ofNat (show s % 256 < 256 by omega), bv_ofNat (show s / 256 % 256 < 256 by omega), bv_ofNat (show s / 65536 % 256 < 256 by omega), bv_ofNat (show s / 16777216 < 256 by omega), bv_ofNat hf, bv_ofNat ht, bv_ofNat hl]
  simp
theorem encB_length (s f t : Nat) (l : List UInt8) : (encB s f t l).length = 7 + l.length := by simp [encB]; omega

set_option maxHeartbeats 400000 in
theorem au_encode_ok (s f t : Nat) (A : Option Addr) (n c : Nat) (l : List UInt8) (w : World) (hs : s < 4294967296) (hf : f < 256) (ht : t < 256) (hn : n ≤ 128)
    (hr : Rd w w.heap.size 1 A n (bvs l)) :
    Calls Tryz.prog 77 #[.agg #[.int .u32 s, .int .u8 f, .int .u8 t, .slice A n c]] w fun e w' => ∃ A' c', e = .returned (.tuple #[.slice A' (7 + n) c', .int .i64 0]) ∧
      w'.ownsRow w.heap.size 5 1 (.slice A' (7 + n) c') (7 + n) (bvs (encB s f t l)) ∧ Below w.heap.size w w' := by
  have h : (n : Int) ≤ 128 := by omega
  have hl : l.length = n := by have := hr.1; simpa [bvs] using this
  obtain ⟨i0, hi0, hz0, hz1, hz2⟩ := info_parts info_u8
  have HE := hide (encB_head s f t l hs hf ht (by omega))
  rw [hl] at HE
  clear hl
  go_enter Tryz.func77, Tryz.ntmps77
  go_wp2_with (at_builtin; refine wpList_append_rd _ rfl (.tmp 32) (.tmp 34) 24 rfl w.heap.size 5 i0 (.int .u8 0) 1 1 Tryz.underlying24 hi0 hz0 hz1 hz2 rfl (by decide) (.slice (some ⟨w.heap.size + 1, 0, none⟩) 7 7) 7 _ rfl (own_lit rfl (by simp) (by simp) (by simp [maxLen]) rfl) w.heap.size A n c (bvs l) rfl ((hr.alloc (Nat.le_refl _) _).alloc (by simp) _) (bvs_one l) (by simp only [maxLen]; omega) (by omega) (by simp; omega) ?_; intro v' w' hown hg hnil hat)
  obtain ⟨A', c', rfl, hc1, hc2, _⟩ := own_form hown
  go_ret2
  refine ⟨A', c', rfl, ?_, ?_⟩
  · rw [← HE.out]; exact hown
  · exact (((Below.refl _ _).alloc (Nat.le_refl _) _).alloc (by simp) _).grown hg (by simp; omega) (by simp [Value.ownBlock])

set_option maxHeartbeats 400000 in
theorem au_encode_long (s f t : Nat) (A : Option Addr) (n c : Nat) (w : World) (hn : 128 < n) :
    Calls Tryz.prog 77 #[.agg #[.int .u32 s, .int .u8 f, .int .u8 t, .slice A n c]] w fun e w' => e = .returned (.tuple #[.slice none 0 0, .int .i64 8]) ∧ Below w.heap.size w w' := by
  have h : (128 : Int) < n := by omega
  go_enter Tryz.func77, Tryz.ntmps77
  go_wp2
  go_ret2
  exact ⟨rfl, (Below.refl _ _).alloc (Nat.le_refl _) _⟩

set_option maxHeartbeats 400000 in
theorem au_record_ok (s f t : Nat) (A : Option Addr) (n c : Nat) (l : List UInt8) (w : World) (hs : s < 4294967296) (hf : f < 256) (ht : t < 256) (hn : n ≤ 128)
    (hr : Rd w w.heap.size 1 A n (bvs l)) :
    Calls Tryz.prog 24 #[.int .u32 s, .int .u8 f, .int .u8 t, .slice A n c] w fun e w' => ∃ A' c', e = .returned (.slice A' (7 + n) c') ∧
      w'.ownsRow w.heap.size 5 1 (.slice A' (7 + n) c') (7 + n) (bvs (encB s f t l)) ∧ Below w.heap.size w w' := by
  have h : (n : Int) ≤ 128 := by omega
  have hl : l.length = n := by have := hr.1; simpa [bvs] using this
  obtain ⟨i0, hi0, hz0, hz1, hz2⟩ := info_parts info_u8
  have HE := hide (encB_head s f t l hs hf ht (by omega))
  rw [hl] at HE
  clear hl
  go_enter Tryz.func24, Tryz.ntmps24
  go_wp2_with (at_builtin; refine wpList_append_rd _ rfl (.tmp 30) (.tmp 31) 24 rfl w.heap.size 5 i0 (.int .u8 0) 1 1 Tryz.underlying24 hi0 hz0 hz1 hz2 rfl (by decide) (.slice (some ⟨w.heap.size, 0, none⟩) 7 7) 7 _ rfl (own_lit rfl (by simp) (by simp) (by simp [maxLen]) rfl) w.heap.size A n c (bvs l) rfl (hr.alloc (Nat.le_refl _) _) (bvs_one l) (by simp only [maxLen]; omega) (by omega) (by simp) ?_; intro v' w' hown hg hnil hat)
  obtain ⟨A', c', rfl, hc1, hc2, _⟩ := own_form hown
  go_ret
  refine ⟨A', c', rfl, ?_, ?_⟩
  · rw [← HE.out]; exact hown
  · exact ((Below.refl _ _).alloc (Nat.le_refl _) _).grown hg (by simp) (by simp [Value.ownBlock])

/-! ### Decode -/

theorem au_decode_short (A : Option Addr) (n c : Nat) (w : World) (hn : n < 7) :
    Calls Tryz.prog 88 #[.slice A n c] w fun e w' => e = .returned (.tuple #[.agg #[.int .u32 0, .int .u8 0, .int .u8 0, .slice none 0 0], .int .i64 0, .int .i64 28]) ∧ Below w.heap.size w w' := by
  have h : (n : Int) < 7 := by omega
  go_enter Tryz.func88, Tryz.ntmps88
  go_wp2
  go_returns
  exact ⟨rfl, ((Below.refl _ _).alloc (Nat.le_refl _) _)⟩

set_option maxHeartbeats 400000 in
theorem au_decode_form (A : Option Addr) (n c : Nat) (l : List UInt8) (w : World) (hn : 7 ≤ n) (hr : Rd w w.heap.size 1 A n (bvs l)) (hm : n < 1000000) (hx : 128 < (l.getD 6 0).toNat ∨ n < 7 + (l.getD 6 0).toNat) :
    Calls Tryz.prog 88 #[.slice A n c] w fun e w' => e = .returned (.tuple #[.agg #[.int .u32 0, .int .u8 0, .int .u8 0, .slice none 0 0], .int .i64 0, .int .i64 28]) ∧ Below w.heap.size w w' := by
  obtain ⟨b, o, rfl, hb, hc⟩ := hr.byte (i := 6) (by omega)
  have h : (7 : Int) ≤ n := by omega
  have c6 := hc 6 (by omega)
  have hlt := (l.getD 6 0).toNat_lt
  generalize (l.getD 6 0).toNat = k at c6 hx hlt
  clear hc hr
  rcases hx with hx | hx
  · have hx' : (128 : Int) < k := by omega
    go_enter Tryz.func88, Tryz.ntmps88
    go_wp2
    go_returns
    exact ⟨rfl, ((Below.refl _ _).alloc (Nat.le_refl _) _)⟩
  · have hx' : (n : Int) < 7 + k := by omega
    by_cases hk : 128 < k
    · have hx'' : (128 : Int) < k := by omega
      go_enter Tryz.func88, Tryz.ntmps88
      go_wp2
      go_returns
      exact ⟨rfl, ((Below.refl _ _).alloc (Nat.le_refl _) _)⟩
    · have hx'' : (k : Int) ≤ 128 := by omega
      go_enter Tryz.func88, Tryz.ntmps88
      go_wp2
      go_returns
      exact ⟨rfl, ((Below.refl _ _).alloc (Nat.le_refl _) _)⟩

theorem au_or_add (a b k : Nat) (ha : a < 2 ^ k) : a ||| b * 2 ^ k = a + b * 2 ^ k := by
  rw [Nat.add_comm, Nat.mul_comm, Nat.two_pow_add_eq_or_of_lt ha, Nat.or_comm]

theorem au_le32 (a b c d : Nat) (ha : a < 256) (hb : b < 256) (hc : c < 256) (hd : d < 256) :
    bits BinOp.or IntKind.u32 (bits BinOp.or IntKind.u32 (bits BinOp.or IntKind.u32 (a : Int) ((b : Int) * 256)) ((c : Int) * 65536)) ((d : Int) * 16777216) = ((a + b * 256 + c * 65536 + d * 16777216 : Nat) : Int) := by
  have e1 : (b : Int) * 256 = ((b * 256 : Nat) : Int) := by omega
  have e2 : (c : Int) * 65536 = ((c * 65536 : Nat) : Int) := by omega
  have e3 : (d : Int) * 16777216 = ((d * 16777216 : Nat) : Int) := by omega
  have o1 := au_or_add a b 8 (by omega)
  have o2 := au_or_add (a + b * 256) c 16 (by omega)
  have o3 := au_or_add (a + b * 256 + c * 65536) d 24 (by omega)
  simp only [Nat.reducePow] at o1 o2 o3
  rw [e1, e2, e3, u32_or_nat _ _ (by omega) (by omega), o1, u32_or_nat _ _ (by omega) (by omega), o2, u32_or_nat _ _ (by omega) (by omega), o3]

/-- What Decode leaves of a record that is whole. -/
def DecOk (w : World) (l : List UInt8) (e : Ending) (w' : World) : Prop :=
  ∃ A' c', e = .returned (.tuple #[.agg #[.int .u32 (((l.getD 0 0).toNat + (l.getD 1 0).toNat * 256 + (l.getD 2 0).toNat * 65536 + (l.getD 3 0).toNat * 16777216 : Nat) : Int), .int .u8 (l.getD 4 0).toNat, .int .u8 (l.getD 5 0).toNat,
      .slice A' (l.getD 6 0).toNat c'], .int .i64 (7 + (l.getD 6 0).toNat), .int .i64 0]) ∧
    w'.ownsRow w.heap.size 5 1 (.slice A' (l.getD 6 0).toNat c') (l.getD 6 0).toNat (bvs ((l.drop 7).take (l.getD 6 0).toNat)) ∧ Below w.heap.size w w'

set_option maxHeartbeats 1000000 in
theorem au_decode_ok (A : Option Addr) (n c : Nat) (l : List UInt8) (w : World) (hn : 7 ≤ n) (hr : Rd w w.heap.size 1 A n (bvs l)) (hm : n < 1000000) (hnc : n ≤ c) (hx : (l.getD 6 0).toNat ≤ 128) (hx2 : 7 + (l.getD 6 0).toNat ≤ n) :
    Calls Tryz.prog 88 #[.slice A n c] w (DecOk w l) := by
  have hr2 := (hr.cut (k := 7) (by omega) hnc).take (m := (l.getD 6 0).toNat) (by omega)
  obtain ⟨b, o, rfl, hb, hc⟩ := hr.byte (i := 6) (by omega)
  have hA : (if c = 7 then (some ⟨b, o, none⟩ : Option Addr) else (some ⟨b, o, none⟩ : Option Addr).map (·.add (7 * 1))) = if c = 7 then (some ⟨b, o, none⟩ : Option Addr) else some ⟨b, o + 7, none⟩ := by simp [Addr.add]
  rw [hA] at hr2
  clear hA
  simp only [Nat.mul_one, bvs_drop, bvs_take] at hr2
  have h : (7 : Int) ≤ n := by omega
  have c0 := hc 0 (by omega)
  rw [Nat.add_zero] at c0
  have c1 := hc 1 (by omega)
  have c2 := hc 2 (by omega)
  have c3 := hc 3 (by omega)
  have c4 := hc 4 (by omega)
  have c5 := hc 5 (by omega)
  have c6 := hc 6 (by omega)
  have h0 := (l.getD 0 0).toNat_lt
  have h1 := (l.getD 1 0).toNat_lt
  have h2 := (l.getD 2 0).toNat_lt
  have h3 := (l.getD 3 0).toNat_lt
  have h4 := (l.getD 4 0).toNat_lt
  have h5 := (l.getD 5 0).toNat_lt
  have h6 := (l.getD 6 0).toNat_lt
  have HD : Hid (DecOk w l = DecOk w l) := rfl
  conv at HD => arg 1; rhs; unfold DecOk
  generalize (l.getD 0 0).toNat = k0 at c0 h0 HD
  generalize (l.getD 1 0).toNat = k1 at c1 h1 HD
  generalize (l.getD 2 0).toNat = k2 at c2 h2 HD
  generalize (l.getD 3 0).toNat = k3 at c3 h3 HD
  generalize (l.getD 4 0).toNat = k4 at c4 h4 HD
  generalize (l.getD 5 0).toNat = k5 at c5 h5 HD
  generalize (l.getD 6 0).toNat = k at c6 hx hx2 h6 hr2 HD
  generalize (l.drop 7).take k = l7 at hr2 HD
  have L32 := hide (au_le32 k0 k1 k2 k3 h0 h1 h2 h3)
  have hx' : (k : Int) ≤ 128 := by omega
  have hx'' : (7 : Int) + k ≤ n := by omega
  have g1 : (1 : Int) < n := by omega
  have g2 : (2 : Int) < n := by omega
  have g3 : (3 : Int) < n := by omega
  have g4 : (4 : Int) < n := by omega
  have g5 : (5 : Int) < n := by omega
  have g0 : 0 < n := by omega
  have w0 : IntKind.u32.wrap (k0 : Int) = k0 := IntWalk.u32_in _ (by omega)
  have w1 : IntKind.u32.wrap (k1 : Int) = k1 := IntWalk.u32_in _ (by omega)
  have w2 : IntKind.u32.wrap (k2 : Int) = k2 := IntWalk.u32_in _ (by omega)
  have w3 : IntKind.u32.wrap (k3 : Int) = k3 := IntWalk.u32_in _ (by omega)
  have m1 : IntKind.u32.wrap ((k1 : Int) * 256) = k1 * 256 := IntWalk.u32_in _ (by omega)
  have m2 : IntKind.u32.wrap ((k2 : Int) * 65536) = k2 * 65536 := IntWalk.u32_in _ (by omega)
  have m3 : IntKind.u32.wrap ((k3 : Int) * 16777216) = k3 * 16777216 := IntWalk.u32_in _ (by omega)
  have m7 : IntKind.i64.wrap (7 + (k : Int)) = 7 + k := IntWalk.i64_in _ (by omega)
  have n7 : (0 : Int) ≤ 7 + (k : Int) := by omega
  have n8 : (7 : Int) ≤ 7 + (k : Int) := by omega
  have n9 : (7 : Int) + (k : Int) ≤ c := by omega
  clear hc hr hm hn
  obtain ⟨i0, hi0, hz0, hz1, hz2⟩ := info_parts info_u8
  go_enter Tryz.func88, Tryz.ntmps88
  go_wp2
  go_region_held3 (fun w' => w'.cell? ⟨b, o, none⟩ = some (.int .u8 k0) ∧ w'.cell? ⟨b, o + 1, none⟩ = some (.int .u8 k1) ∧ w'.cell? ⟨b, o + 2, none⟩ = some (.int .u8 k2) ∧ w'.cell? ⟨b, o + 3, none⟩ = some (.int .u8 k3) ∧ w'.cell? ⟨b, o + 4, none⟩ = some (.int .u8 k4) ∧ w'.cell? ⟨b, o + 5, none⟩ = some (.int .u8 k5)) (go_keep) ((fail))
  rename_i hheld
  clear hheld
  go_wp2
  go_region_law ((refine step_append_rd _ (by rfl) (.tmp 55) (.tmp 59) 24 (by rfl) (w.heap.size + 2) 5 i0 (.int .u8 0) 1 1 Tryz.underlying24 hi0 hz0 hz1 hz2 rfl (by decide) (.slice none 0 0) 0 [] (by rfl) (World.ownsRow_nil _ _ _ _) w.heap.size (if c = 7 then (some ⟨b, o, none⟩ : Option Addr) else some ⟨b, o + 7, none⟩) k (c - 7) (bvs l7) (by simp [Act.eval]; omega) (((hr2.alloc (Nat.le_refl _) _).alloc (by simp) _).drew) (bvs_one _) (by simp only [maxLen]; omega) (by omega) (by simp) ?_; intro v' w' hown hg hnil hat; obtain ⟨A', c', rfl, hcc, hcm, hn0⟩ := own_form hown; have hb' := grown_none hg; obtain ⟨hc', hf'⟩ := bcell hb'; have hz : w.heap.size + 1 < w'.heap.size := (by have := hb'.size; simp at this; omega); have hz0 : w.heap.size < w'.heap.size := (by omega); clear hnil hat hn0 hcc hcm hg; generalize (if c = 7 then (some ⟨b, o, none⟩ : Option Addr) else some ⟨b, o + 7, none⟩) = A7 at *))
  clear c0 c1 c2 c3 c4 c5 c6
  go_wp2
  rw [HD.out]
  have B0 : Blk w' w.heap.size 51 #[.int .u32 0, .int .u8 0, .int .u8 0, .slice none 0 0] := (((Blk.new w 51 _).alloc _).drew.drew).below hb' (by simp; omega)
  have B1 := ((((B0.far (p := ⟨w.heap.size + 1, 3, none⟩) (by simp) (.slice A' k c')).set_ 0 (.int .u32 ((k0 + k1 * 256 + k2 * 65536 + k3 * 16777216 : Nat) : Int))).set_ 1 (.int .u8 k4)).set_ 2 (.int .u8 k5)).set_ 3 (.slice A' k c')
  simp only [L32.out]
  have HB : Below w.heap.size w w' := Below.trans ((((Below.refl _ _).alloc (Nat.le_refl _) _).alloc (by simp) _).drew.drew) (hb'.mono (by simp; omega))
  refine bodyPost_ret (results_run3 rfl (ResV.struct rfl B1 Tryz.underlying51 (by kernel_rfl)) rfl rfl) rfl ?_
  refine ⟨A', c', rfl, ?_, ?_⟩
  · have h2 := hown
    rw [Nat.zero_add, List.nil_append] at h2
    have h3 := ownsRow_setCell_below (ownsRow_setCell_below (ownsRow_setCell_below (ownsRow_setCell_below (ownsRow_setCell_below h2 (a := ⟨w.heap.size + 1, 3, none⟩) (by simp) (.slice A' k c'))
      (a := ⟨w.heap.size, 0, none⟩) (by simp) (.int .u32 ((k0 + k1 * 256 + k2 * 65536 + k3 * 16777216 : Nat) : Int))) (a := ⟨w.heap.size, 1, none⟩) (by simp) (.int .u8 k4)) (a := ⟨w.heap.size, 2, none⟩) (by simp) (.int .u8 k5)) (a := ⟨w.heap.size, 3, none⟩) (by simp) (.slice A' k c')
    exact own_mono h3 (by omega)
  · exact ((((HB.setCell (by simp) _).setCell (by simp) _).setCell (by simp) _).setCell (by simp) _).setCell (by simp) _

/-! ### the law's own functions -/

set_option maxHeartbeats 400000 in
theorem au_same_yes (s f t : Int) (A A2 : Option Addr) (n c n2 c2 : Nat) (l : List UInt8) (w : World) (h1 : Rd w w.heap.size 1 A n (bvs l)) (h2 : Rd w w.heap.size 1 A2 n2 (bvs l)) :
    Calls Tryz.prog 29 #[.agg #[.int .u32 s, .int .u8 f, .int .u8 t, .slice A n c], .agg #[.int .u32 s, .int .u8 f, .int .u8 t, .slice A2 n2 c2]] w
      fun e w' => e = .returned (.bool true) ∧ Below w.heap.size w w' := by
  have k1 : ∀ o1 o2, (convert 24 9 (.slice A n c)).run Tryz.prog ((w.alloc o1).alloc o2) = .ok (.string (str l)) ((w.alloc o1).alloc o2) :=
    fun o1 o2 => run_string_rd _ _ _ Tryz.underlying24 Tryz.underlying5 Tryz.underlying9 ((h1.alloc (Nat.le_refl _) o1).alloc (by simp) o2)
  have k2 : ∀ o1 o2, (convert 24 9 (.slice A2 n2 c2)).run Tryz.prog ((w.alloc o1).alloc o2) = .ok (.string (str l)) ((w.alloc o1).alloc o2) :=
    fun o1 o2 => run_string_rd _ _ _ Tryz.underlying24 Tryz.underlying5 Tryz.underlying9 ((h2.alloc (Nat.le_refl _) o1).alloc (by simp) o2)
  go_enter Tryz.func29, Tryz.ntmps29
  go_wp2
  go_ret
  exact ⟨by simp, ((Below.refl _ _).alloc (Nat.le_refl _) _).alloc (by simp) _⟩

/-! ### what was encoded, decoded -/

theorem encB_6 (s f t : Nat) (l r : List UInt8) (hl : l.length ≤ 128) : ((encB s f t l ++ r).getD 6 0).toNat = l.length := by
  simp [encB]; omega
theorem au_decOk_enc {w : World} {s f t : Nat} {l r : List UInt8} {e : Ending} {w' : World} (hs : s < 4294967296) (hf : f < 256) (ht : t < 256) (hl : l.length ≤ 128) (h : DecOk w (encB s f t l ++ r) e w') :
    ∃ A' c', e = .returned (.tuple #[.agg #[.int .u32 s, .int .u8 f, .int .u8 t, .slice A' l.length c'], .int .i64 (7 + l.length), .int .i64 0]) ∧
      w'.ownsRow w.heap.size 5 1 (.slice A' l.length c') l.length (bvs l) ∧ Below w.heap.size w w' := by
  unfold DecOk at h
  rw [encB_6 s f t l r hl] at h
  obtain ⟨A', c', he, ho, hb⟩ := h
  have e0 : ((encB s f t l ++ r).getD 0 0).toNat = s % 256 := by simp [encB]
  have e1 : ((encB s f t l ++ r).getD 1 0).toNat = s / 256 % 256 := by simp [encB]
  have e2 : ((encB s f t l ++ r).getD 2 0).toNat = s / 65536 % 256 := by simp [encB]
  have e3 : ((encB s f t l ++ r).getD 3 0).toNat = s / 16777216 := by simp [encB]; omega
  have e4 : ((encB s f t l ++ r).getD 4 0).toNat = f := by simp [encB]; omega
  have e5 : ((encB s f t l ++ r).getD 5 0).toNat = t := by simp [encB]; omega
  have es : s % 256 + s / 256 % 256 * 256 + s / 65536 % 256 * 65536 + s / 16777216 * 16777216 = s := by omega
  rw [e0, e1, e2, e3, e4, e5, es] at he
  have e7 : ((encB s f t l ++ r).drop 7).take l.length = l := by simp [encB]
  rw [e7] at ho
  exact ⟨A', c', he, ho, hb⟩

theorem au_decode_enc (s f t : Nat) (l r : List UInt8) (A : Option Addr) (n c : Nat) (w : World) (hs : s < 4294967296) (hf : f < 256) (ht : t < 256) (hl : l.length ≤ 128) (hr : Rd w w.heap.size 1 A n (bvs (encB s f t l ++ r))) (hm : n < 1000000) (hnc : n ≤ c) :
    Calls Tryz.prog 88 #[.slice A n c] w fun e w' => ∃ A' c', e = .returned (.tuple #[.agg #[.int .u32 s, .int .u8 f, .int .u8 t, .slice A' l.length c'], .int .i64 (7 + l.length), .int .i64 0]) ∧
      w'.ownsRow w.heap.size 5 1 (.slice A' l.length c') l.length (bvs l) ∧ Below w.heap.size w w' := by
  have hn : n = 7 + l.length + r.length := by have := hr.1; rw [bvs_length, List.length_append, encB_length] at this; omega
  exact (au_decode_ok A n c _ w (by omega) hr hm hnc (by rw [encB_6 s f t l r hl]; exact hl) (by rw [encB_6 s f t l r hl]; omega)).mono fun e w' h => au_decOk_enc hs hf ht hl h

theorem au_decode_prefix (s f t : Nat) (l : List UInt8) (A : Option Addr) (m c : Nat) (w : World) (hl : l.length ≤ 128) (hm : m < 7 + l.length) (hr : Rd w w.heap.size 1 A m (bvs ((encB s f t l).take m))) :
    Calls Tryz.prog 88 #[.slice A m c] w fun e w' => e = .returned (.tuple #[.agg #[.int .u32 0, .int .u8 0, .int .u8 0, .slice none 0 0], .int .i64 0, .int .i64 28]) ∧ Below w.heap.size w w' := by
  by_cases h7 : m < 7
  · exact au_decode_short A m c w h7
  · refine au_decode_form A m c _ w (by omega) hr (by omega) (.inr ?_)
    have h6 := encB_6 s f t l [] hl
    rw [List.append_nil] at h6
    have : ((encB s f t l).take m).getD 6 0 = (encB s f t l).getD 6 0 := by
      simp only [List.getD_eq_getElem?_getD, List.getElem?_take]
      rw [if_pos (by omega)]
    rw [this, h6]
    exact hm

/-- Bytes that were decoded, encoded again. -/
theorem au_enc_dec (l : List UInt8) (h : 7 + (l.getD 6 0).toNat ≤ l.length) (hk : (l.getD 6 0).toNat ≤ 128) :
    encB ((l.getD 0 0).toNat + (l.getD 1 0).toNat * 256 + (l.getD 2 0).toNat * 65536 + (l.getD 3 0).toNat * 16777216) (l.getD 4 0).toNat (l.getD 5 0).toNat ((l.drop 7).take (l.getD 6 0).toNat) = l.take (7 + (l.getD 6 0).toNat) := by
  match l, h with
  | a :: b :: c :: d :: e :: f :: g :: r, h =>
    have ha := a.toNat_lt
    have hb := b.toNat_lt
    have hc := c.toNat_lt
    have hd := d.toNat_lt
    have hg : (List.take g.toNat r).length = g.toNat := by simp at h ⊢; omega
    simp only [List.getD_cons_zero, List.getD_cons_succ, List.drop_succ_cons, List.drop_zero, encB, hg] at *
    have e0 : (a.toNat + b.toNat * 256 + c.toNat * 65536 + d.toNat * 16777216) % 256 = a.toNat := by omega
    have e1 : (a.toNat + b.toNat * 256 + c.toNat * 65536 + d.toNat * 16777216) / 256 % 256 = b.toNat := by omega
    have e2 : (a.toNat + b.toNat * 256 + c.toNat * 65536 + d.toNat * 16777216) / 65536 % 256 = c.toNat := by omega
    have e3 : (a.toNat + b.toNat * 256 + c.toNat * 65536 + d.toNat * 16777216) / 16777216 = d.toNat := by omega
    rw [e0, e1, e2, e3, Nat.add_comm 7]
    simp

end Go.Proofs.YthmkgohfeahdhaaGreat
namespace Go.Proofs.YthmkgohfeahdhaaGreat
open Go.RowKit
set_option linter.unusedSimpArgs false
set_option linter.unusedVariables false

/-- a node as it is meant, wherever it lies -/
structure RC where
  kind : UInt8
  links : Nat
  gen : UInt16
  l : List UInt8
  ps : List EntV
def RNd.core (n : RNd) : RC := ⟨n.kind, n.links, n.gen, n.l, n.ps⟩
theorem info_rrec : ∃ i, Tryz.prog.info? 344 = some i ∧ i.zero = some (.agg #[.int .u8 0, .int .u16 0, .int .u16 0, .int .i64 0]) ∧ i.size = 4 ∧ i.bytes = 16 := by
  have h : (Tryz.prog.info? 344).map (fun i => (i.zero, i.size, i.bytes)) = some (some (.agg #[.int .u8 0, .int .u16 0, .int .u16 0, .int .i64 0]), 4, 16) := by kernel_rfl
  cases hi : Tryz.prog.info? 344 with
  | none => rw [hi] at h; cases h
  | some i =>
    rw [hi] at h
    simp only [Option.map_some, Option.some.injEq, Prod.mk.injEq] at h
    exact ⟨i, rfl, h.1, h.2.1, h.2.2⟩
theorem info_entry : ∃ i, Tryz.prog.info? 125 = some i ∧ i.zero = some (.agg #[.string ByteArray.empty, .int .u16 0]) ∧ i.size = 2 ∧ i.bytes = 24 := by
  have h : (Tryz.prog.info? 125).map (fun i => (i.zero, i.size, i.bytes)) = some (some (.agg #[.string ByteArray.empty, .int .u16 0]), 2, 24) := by kernel_rfl
  cases hi : Tryz.prog.info? 125 with
  | none => rw [hi] at h; cases h
  | some i =>
    rw [hi] at h
    simp only [Option.map_some, Option.some.injEq, Prod.mk.injEq] at h
    exact ⟨i, rfl, h.1, h.2.1, h.2.2⟩
theorem build_rgroup2 (w : World) (A : Option Addr) (n c : Nat) (b : Int) : (Instr.build 47 #[(1, .slice A n c), (2, .int .i64 b)]).run Tryz.prog w = .ok (.agg #[.slice none 0 0, .slice A n c, .int .i64 b]) w := by kernel_rfl
/-- a node with other places -/
def RNd.withP (n : RNd) (P : Option Addr) (ps : List EntV) (pc : Nat) : RNd := { n with P := P, ps := ps, pc := pc }
theorem flat2_one (l : List EntV) : ∀ u ∈ flat2 l, u.oneCell' = true := by
  intro u hu
  simp only [flat2, List.mem_flatMap] at hu
  obtain ⟨e, _, hu⟩ := hu
  simp only [EntV.cells, List.mem_cons, List.not_mem_nil, or_false] at hu
  rcases hu with rfl | rfl <;> rfl
set_option maxRecDepth 100000 in
set_option maxHeartbeats 4000000 in
theorem rcopy_ok (w : World) {nb cN tc : Nat} {L : List RNd} {T : Option Addr} (b : Int) (hR : Row5 w nb L cN) (hS : Small L) (hL : 1 ≤ L.length) :
    Calls Tryz.prog 22 #[.agg #[.slice (some ⟨nb, 0, none⟩) L.length cN, .slice T 0 tc, .int .i64 b]] w fun e w' => ∃ nb' cN' T' tc' L', e = .returned (.agg #[.slice (some ⟨nb', 0, none⟩) L.length cN', .slice T' 0 tc', .int .i64 b]) ∧ L'.map RNd.core = L.map RNd.core ∧ Row5 w' nb' L' cN' ∧ w.heap.size ≤ nb' ∧ Below w.heap.size w w' := by
  obtain ⟨r0, hr0, r1, r2, r3⟩ := info_rrec
  have HRI := hide (And.intro hr0 (And.intro r1 (And.intro r2 r3)))
  obtain ⟨N, hN⟩ : ∃ N, L.length = N := ⟨_, rfl⟩
  have HR := hide hR
  have HS := hide hS
  have HN := hide hN
  have hN200 : N ≤ 200 := by have := hS.1; omega
  rw [hN] at hL ⊢
  clear hR hS hN hr0 r1 r2 r3
  go_enter Tryz.func22, Tryz.ntmps22
  go_upto_region 1 with (first | ((with_reducible refine at_alloc 47 ?_); refine wpList_alloc_as rfl 47 rfl _ (zero_group _) ?_) | fail)
  refine at_world (fun W => ∃ p rb, p = w.heap.size ∧ w.heap.size ≤ rb ∧ rb = w.heap.size + 1 ∧ Below w.heap.size w W ∧ Blk W p 47 #[.slice (some ⟨nb, 0, none⟩) N cN, .slice T 0 tc, .int .i64 b] ∧ Blk W rb 47 #[.slice none 0 0, .slice none 0 0, .int .i64 0]) ⟨_, _, rfl, by omega, rfl, ((Below.refl _ _).alloc (Nat.le_refl _) _).alloc (by simp) _, (Blk.new _ _ _).alloc _, by have := Blk.new (w.alloc (.cells #[.slice (some ⟨nb, 0, none⟩) N cN, .slice T 0 tc, .int .i64 b] 47)) 47 #[.slice none 0 0, .slice none 0 0, .int .i64 0]; rwa [World.size_alloc] at this⟩ (fun w1 hw1 => ?_)
  obtain ⟨p, rb, hp, hrw, hrb, hb1, hP, hRB⟩ := hw1
  simp only [World.size_alloc, Act.put, List.setIfInBounds_toArray, List.set_cons_zero, List.set_cons_succ]
  rw [← hrb, ← hp]
  have HB1 := hide hb1
  have HP1 := hide hP
  have HRB1 := hide hRB
  have HPW := hide (show w.heap.size ≤ p ∧ w.heap.size ≤ rb ∧ p ≠ rb from by omega)
  have HPL := hide (show p < w1.heap.size from hP.lt)
  clear hp hrw hrb hb1 hP hRB
  go_upto_region 1 with (fail)
  go_cut [3] from 6 to 12 (fun x3 wx => ∃ ob AT cT, x3 = .pointer (some ⟨ob, 0, none⟩) ∧ Hid (Below w1.heap.size w1 wx) ∧ Hid (Blk wx ob 47 #[.slice none 0 0, .slice AT (0 + 0) cT, .int .i64 b]) ∧ Hid (Blk wx p 47 #[.slice (some ⟨nb, 0, none⟩) N cN, .slice T 0 tc, .int .i64 b]) ∧ Hid (w1.heap.size ≤ ob))
  case first =>
    refine wp_region_tree (.q 1 (.q 2 (.q 4 (.q 5 (.br 0 (.br 3 (.q 6 (.x 7 (.x 8 .nil))) 7 (.x 3 (.q 6 (.x 8 .nil)))) 7 (.x 0 (.x 3 (.q 6 (.x 8 .nil))))))))) (fun W => Blk W p 47 #[.slice (some ⟨nb, 0, none⟩) N cN, .slice T 0 tc, .int .i64 b]) (by kernel_rfl) (by kernel_rfl) HP1.out.drew ?_
    iterate 4 (refine wpT_q (v := ?_) (by simp only [List.getElem?_toArray, List.getElem?_cons_succ, List.getElem?_cons_zero]; try rfl) (by rfl) (fun W hW => ?_) ?_; rotate_left; (focus ((have z1 := hW.cell 1; have z2 := hW.cell 2; have zl := hW.lt; go_simp); try with_reducible rfl)); try simp only [Act.put, List.setIfInBounds_toArray, List.set_cons_zero, List.set_cons_succ])
    refine at_world (fun W => Below w1.heap.size w1 W) (Below.refl _ _).drew (fun w1d hbx => ?_)
    have HBw1d := hide hbx
    have HPw1d := hide (HP1.out.below hbx HP1.out.lt)
    clear hbx
    refine wpT_br ?_ ?_
    · refine wpT_x (by simp only [List.getElem?_toArray, List.getElem?_cons_succ, List.getElem?_cons_zero]; try rfl) (by rfl) (fun K hK => ?_)
      go_simp
      refine hK (fun W => Blk W p 47 #[.slice (some ⟨nb, 0, none⟩) N cN, .slice T 0 tc, .int .i64 b]) _ _ (fun _ h => h) (HPw1d.out.alloc _) ?_
      clear hK K
      try simp only [Act.put, List.setIfInBounds_toArray, List.set_cons_zero, List.set_cons_succ]
      refine at_world (fun W => ∃ tb, tb = w1d.heap.size ∧ Below w1d.heap.size w1d W ∧ W.ownsRow w1.heap.size 344 4 (.slice (some ⟨tb, 0, none⟩) 0 0) 0 []) ⟨_, rfl, (Below.refl _ _).alloc (Nat.le_refl _) _, own_lit rfl rfl HBw1d.out.size (by simp [maxLen]) rfl⟩ (fun a1 h9 => ?_)
      obtain ⟨tb, htb, hbx, ho9⟩ := h9
      rw [← htb]
      have HBa1 := hide (HBw1d.out.trans (hbx.mono HBw1d.out.size))
      have HPa1 := hide (HPw1d.out.below hbx HPw1d.out.lt)
      have HOa1 := hide ho9
      clear hbx ho9 htb
      refine wpT_br ?_ ?_
      · refine wpT_x (by simp only [List.getElem?_toArray, List.getElem?_cons_succ, List.getElem?_cons_zero]; try rfl) (by rfl) (fun K hK => ?_)
        refine wp_append_rd a1 (.tmp 6) (.tmp 8) 45 (by rfl) w1.heap.size 344 r0 (.agg #[.int .u8 0, .int .u16 0, .int .u16 0, .int .i64 0]) 4 16 Tryz.underlying45 HRI.out.1 HRI.out.2.1 HRI.out.2.2.1 HRI.out.2.2.2 rfl (by decide) (.slice (some ⟨tb, 0, none⟩) 0 0) 0 [] (by first | rfl | simp [Act.eval]) HOa1.out 0 T 0 tc [] (by first | rfl | simp [Act.eval]) (Rd.nil _ _ _ _) (by simp) (by simp [maxLen]) (by omega) HBa1.out.size ?_
        intro v9 a2 hown hg9 _ hat
        obtain ⟨AT, cT, rfl, _, _, _⟩ := own_form hown
        have hb9 : Below w1.heap.size a1 a2 := ⟨hg9.os, hg9.tape, hg9.output, hg9.size, fun k hk => hg9.block k (by have := HBa1.out.size; omega) (fun e => by have := (own_block_ge HOa1.out e.symm).1; omega)⟩
        have hp9 : Blk a2 p 47 #[.slice (some ⟨nb, 0, none⟩) N cN, .slice T 0 tc, .int .i64 b] := HPa1.out.grown hg9 (fun e => row_not_blk HOa1.out HPa1.out (by decide) e.symm)
        refine hK (fun W => Blk W p 47 #[.slice (some ⟨nb, 0, none⟩) N cN, .slice T 0 tc, .int .i64 b]) _ _ (fun _ h => h) hp9 ?_
        clear hK K
        try simp only [Act.put, List.setIfInBounds_toArray, List.set_cons_zero, List.set_cons_succ]
        have HBa2 := hide (HBa1.out.trans hb9)
        have HPa2 := hide hp9
        have HOa2 := hide hown
        clear hown hg9 hat hb9 hp9
        refine wpT_q (v := .agg #[.slice none 0 0, .slice AT (0 + 0) cT, .int .i64 b]) (by simp only [List.getElem?_toArray, List.getElem?_cons_succ, List.getElem?_cons_zero]; try rfl) (by rfl) (fun W hW => exec_build 47 #[(1, .tmp 9), (2, .tmp 11)] rfl #[(1, .slice AT (0 + 0) cT), (2, .int .i64 b)] (by simp only [List.map_toArray, List.map_cons, List.map_nil]; rfl) _ (build_rgroup2 _ _ _ _ _)) ?_
        try simp only [Act.put, List.setIfInBounds_toArray, List.set_cons_zero, List.set_cons_succ]
        refine wpT_x (by simp only [List.getElem?_toArray, List.getElem?_cons_succ, List.getElem?_cons_zero]; try rfl) (by rfl) (fun K hK => ?_)
        go_simp
        refine hK (fun W => Blk W p 47 #[.slice (some ⟨nb, 0, none⟩) N cN, .slice T 0 tc, .int .i64 b]) _ _ (fun _ h => h) (HPa2.out.alloc _) ?_
        clear hK K
        try simp only [Act.put, List.setIfInBounds_toArray, List.set_cons_zero, List.set_cons_succ]
        refine at_world (fun W => ∃ ob, ob = a2.heap.size ∧ Below a2.heap.size a2 W ∧ Blk W ob 47 #[.slice none 0 0, .slice none 0 0, .int .i64 0]) ⟨_, rfl, (Below.refl _ _).alloc (Nat.le_refl _) _, Blk.new _ _ _⟩ (fun a3 h9 => ?_)
        obtain ⟨ob, hob, hbx, hl9⟩ := h9
        rw [← hob]
        have HBa3 := hide (HBa2.out.trans (hbx.mono HBa2.out.size))
        have HPa3 := hide (HPa2.out.below hbx HPa2.out.lt)
        have HOa3 := hide (own_below HOa2.out hbx)
        have HQa3 := hide hl9
        have HOW := hide (show w1.heap.size ≤ ob from by have := HBa2.out.size; omega)
        have HNE := hide (show p ≠ ob from by have := HPa2.out.lt; omega)
        clear hbx hl9 hob
        refine wpT_x (by simp only [List.getElem?_toArray, List.getElem?_cons_succ, List.getElem?_cons_zero]; try rfl) (by rfl) (fun K hK => ?_)
        refine wp_store_blk 47 (.tmp 3) (.tmp 12) rfl ob _ _ #[.slice none 0 0, .slice AT (0 + 0) cT, .int .i64 b] (by rfl) (by first | rfl | simp [Act.eval]) HQa3.out (size_rgroup _ _ _) rfl (by simp [Value.oneCell']) (fun hB9 => ?_)
        have hp9 : Blk (a3.setRow ob #[.slice none 0 0, .slice AT (0 + 0) cT, .int .i64 b]) p 47 #[.slice (some ⟨nb, 0, none⟩) N cN, .slice T 0 tc, .int .i64 b] := HPa3.out.setRow_far (by exact HNE.out) _
        refine hK (fun W => Blk W p 47 #[.slice (some ⟨nb, 0, none⟩) N cN, .slice T 0 tc, .int .i64 b]) _ _ (fun _ h => h) hp9 ?_
        have HFB := hide (below_setRow HBa3.out HOW.out #[.slice none 0 0, .slice AT (0 + 0) cT, .int .i64 b])
        have HFQ := hide hB9
        have HFP := hide hp9
        clear hK K hB9 hp9
        try simp only [Act.put, List.setIfInBounds_toArray, List.set_cons_zero, List.set_cons_succ]
        refine wpT_nil ?_
        go_wp2
        go_meet
        case rel => exact ⟨ob, AT, cT, rfl, HFB, HFQ, HFP, HOW⟩
      · refine wpT_x (by simp only [List.getElem?_toArray, List.getElem?_cons_succ, List.getElem?_cons_zero]; try rfl) (by rfl) (fun K hK => ?_)
        go_simp
        refine hK (fun W => Blk W p 47 #[.slice (some ⟨nb, 0, none⟩) N cN, .slice T 0 tc, .int .i64 b]) _ _ (fun _ h => h) (HPa1.out.alloc _) ?_
        clear hK K
        try simp only [Act.put, List.setIfInBounds_toArray, List.set_cons_zero, List.set_cons_succ]
        refine at_world (fun W => ∃ ob, ob = a1.heap.size ∧ Below a1.heap.size a1 W ∧ Blk W ob 47 #[.slice none 0 0, .slice none 0 0, .int .i64 0]) ⟨_, rfl, (Below.refl _ _).alloc (Nat.le_refl _) _, Blk.new _ _ _⟩ (fun b2 h9 => ?_)
        obtain ⟨ob, hob, hbx, hl9⟩ := h9
        rw [← hob]
        have HBb2 := hide (HBa1.out.trans (hbx.mono HBa1.out.size))
        have HPb2 := hide (HPa1.out.below hbx HPa1.out.lt)
        have HOb2 := hide (own_below HOa1.out hbx)
        have HQb2 := hide hl9
        have HOW := hide (show w1.heap.size ≤ ob from by have := HBa1.out.size; omega)
        have HNE := hide (show p ≠ ob from by have := HPa1.out.lt; omega)
        clear hbx hl9 hob
        refine wpT_x (by simp only [List.getElem?_toArray, List.getElem?_cons_succ, List.getElem?_cons_zero]; try rfl) (by rfl) (fun K hK => ?_)
        refine wp_append_rd b2 (.tmp 6) (.tmp 8) 45 (by rfl) w1.heap.size 344 r0 (.agg #[.int .u8 0, .int .u16 0, .int .u16 0, .int .i64 0]) 4 16 Tryz.underlying45 HRI.out.1 HRI.out.2.1 HRI.out.2.2.1 HRI.out.2.2.2 rfl (by decide) (.slice (some ⟨tb, 0, none⟩) 0 0) 0 [] (by first | rfl | simp [Act.eval]) HOb2.out 0 T 0 tc [] (by first | rfl | simp [Act.eval]) (Rd.nil _ _ _ _) (by simp) (by simp [maxLen]) (by omega) HBb2.out.size ?_
        intro v9 b3 hown hg9 _ hat
        obtain ⟨AT, cT, rfl, _, _, _⟩ := own_form hown
        have hb9 : Below w1.heap.size b2 b3 := ⟨hg9.os, hg9.tape, hg9.output, hg9.size, fun k hk => hg9.block k (by have := HBb2.out.size; omega) (fun e => by have := (own_block_ge HOb2.out e.symm).1; omega)⟩
        have hp9 : Blk b3 p 47 #[.slice (some ⟨nb, 0, none⟩) N cN, .slice T 0 tc, .int .i64 b] := HPb2.out.grown hg9 (fun e => row_not_blk HOb2.out HPb2.out (by decide) e.symm)
        refine hK (fun W => Blk W p 47 #[.slice (some ⟨nb, 0, none⟩) N cN, .slice T 0 tc, .int .i64 b]) _ _ (fun _ h => h) hp9 ?_
        clear hK K
        try simp only [Act.put, List.setIfInBounds_toArray, List.set_cons_zero, List.set_cons_succ]
        have HBb3 := hide (HBb2.out.trans hb9)
        have HPb3 := hide hp9
        have HQb3 := hide (HQb2.out.grown hg9 (fun e => row_not_blk HOb2.out HQb2.out (by decide) e.symm))
        have HOb3 := hide hown
        clear hown hg9 hat hb9 hp9
        refine wpT_q (v := .agg #[.slice none 0 0, .slice AT (0 + 0) cT, .int .i64 b]) (by simp only [List.getElem?_toArray, List.getElem?_cons_succ, List.getElem?_cons_zero]; try rfl) (by rfl) (fun W hW => exec_build 47 #[(1, .tmp 9), (2, .tmp 11)] rfl #[(1, .slice AT (0 + 0) cT), (2, .int .i64 b)] (by simp only [List.map_toArray, List.map_cons, List.map_nil]; rfl) _ (build_rgroup2 _ _ _ _ _)) ?_
        try simp only [Act.put, List.setIfInBounds_toArray, List.set_cons_zero, List.set_cons_succ]
        refine wpT_x (by simp only [List.getElem?_toArray, List.getElem?_cons_succ, List.getElem?_cons_zero]; try rfl) (by rfl) (fun K hK => ?_)
        refine wp_store_blk 47 (.tmp 3) (.tmp 12) rfl ob _ _ #[.slice none 0 0, .slice AT (0 + 0) cT, .int .i64 b] (by rfl) (by first | rfl | simp [Act.eval]) HQb3.out (size_rgroup _ _ _) rfl (by simp [Value.oneCell']) (fun hB9 => ?_)
        have hp9 : Blk (b3.setRow ob #[.slice none 0 0, .slice AT (0 + 0) cT, .int .i64 b]) p 47 #[.slice (some ⟨nb, 0, none⟩) N cN, .slice T 0 tc, .int .i64 b] := HPb3.out.setRow_far (by exact HNE.out) _
        refine hK (fun W => Blk W p 47 #[.slice (some ⟨nb, 0, none⟩) N cN, .slice T 0 tc, .int .i64 b]) _ _ (fun _ h => h) hp9 ?_
        have HFB := hide (below_setRow HBb3.out HOW.out #[.slice none 0 0, .slice AT (0 + 0) cT, .int .i64 b])
        have HFQ := hide hB9
        have HFP := hide hp9
        clear hK K hB9 hp9
        try simp only [Act.put, List.setIfInBounds_toArray, List.set_cons_zero, List.set_cons_succ]
        refine wpT_nil ?_
        go_wp2
        go_meet
        case rel => exact ⟨ob, AT, cT, rfl, HFB, HFQ, HFP, HOW⟩
    · refine wpT_x (by simp only [List.getElem?_toArray, List.getElem?_cons_succ, List.getElem?_cons_zero]; try rfl) (by rfl) (fun K hK => ?_)
      go_simp
      refine hK (fun W => Blk W p 47 #[.slice (some ⟨nb, 0, none⟩) N cN, .slice T 0 tc, .int .i64 b]) _ _ (fun _ h => h) (HPw1d.out.alloc _) ?_
      clear hK K
      try simp only [Act.put, List.setIfInBounds_toArray, List.set_cons_zero, List.set_cons_succ]
      refine at_world (fun W => ∃ ob, ob = w1d.heap.size ∧ Below w1d.heap.size w1d W ∧ Blk W ob 47 #[.slice none 0 0, .slice none 0 0, .int .i64 0]) ⟨_, rfl, (Below.refl _ _).alloc (Nat.le_refl _) _, Blk.new _ _ _⟩ (fun c1 h9 => ?_)
      obtain ⟨ob, hob, hbx, hl9⟩ := h9
      rw [← hob]
      have HBc1 := hide (HBw1d.out.trans (hbx.mono HBw1d.out.size))
      have HPc1 := hide (HPw1d.out.below hbx HPw1d.out.lt)
      have HQc1 := hide hl9
      have HOW := hide (show w1.heap.size ≤ ob from by have := HBw1d.out.size; omega)
      have HNE := hide (show p ≠ ob from by have := HPw1d.out.lt; omega)
      clear hbx hl9 hob
      refine wpT_x (by simp only [List.getElem?_toArray, List.getElem?_cons_succ, List.getElem?_cons_zero]; try rfl) (by rfl) (fun K hK => ?_)
      go_simp
      refine hK (fun W => Blk W p 47 #[.slice (some ⟨nb, 0, none⟩) N cN, .slice T 0 tc, .int .i64 b]) _ _ (fun _ h => h) (HPc1.out.alloc _) ?_
      clear hK K
      try simp only [Act.put, List.setIfInBounds_toArray, List.set_cons_zero, List.set_cons_succ]
      refine at_world (fun W => ∃ tb, tb = c1.heap.size ∧ Below c1.heap.size c1 W ∧ W.ownsRow w1.heap.size 344 4 (.slice (some ⟨tb, 0, none⟩) 0 0) 0 []) ⟨_, rfl, (Below.refl _ _).alloc (Nat.le_refl _) _, own_lit rfl rfl HBc1.out.size (by simp [maxLen]) rfl⟩ (fun c2 h9 => ?_)
      obtain ⟨tb, htb, hbx, ho9⟩ := h9
      rw [← htb]
      have HBc2 := hide (HBc1.out.trans (hbx.mono HBc1.out.size))
      have HPc2 := hide (HPc1.out.below hbx HPc1.out.lt)
      have HQc2 := hide (HQc1.out.below hbx HQc1.out.lt)
      have HOc2 := hide ho9
      clear hbx ho9 htb
      refine wpT_x (by simp only [List.getElem?_toArray, List.getElem?_cons_succ, List.getElem?_cons_zero]; try rfl) (by rfl) (fun K hK => ?_)
      refine wp_append_rd c2 (.tmp 6) (.tmp 8) 45 (by rfl) w1.heap.size 344 r0 (.agg #[.int .u8 0, .int .u16 0, .int .u16 0, .int .i64 0]) 4 16 Tryz.underlying45 HRI.out.1 HRI.out.2.1 HRI.out.2.2.1 HRI.out.2.2.2 rfl (by decide) (.slice (some ⟨tb, 0, none⟩) 0 0) 0 [] (by first | rfl | simp [Act.eval]) HOc2.out 0 T 0 tc [] (by first | rfl | simp [Act.eval]) (Rd.nil _ _ _ _) (by simp) (by simp [maxLen]) (by omega) HBc2.out.size ?_
      intro v9 c3 hown hg9 _ hat
      obtain ⟨AT, cT, rfl, _, _, _⟩ := own_form hown
      have hb9 : Below w1.heap.size c2 c3 := ⟨hg9.os, hg9.tape, hg9.output, hg9.size, fun k hk => hg9.block k (by have := HBc2.out.size; omega) (fun e => by have := (own_block_ge HOc2.out e.symm).1; omega)⟩
      have hp9 : Blk c3 p 47 #[.slice (some ⟨nb, 0, none⟩) N cN, .slice T 0 tc, .int .i64 b] := HPc2.out.grown hg9 (fun e => row_not_blk HOc2.out HPc2.out (by decide) e.symm)
      refine hK (fun W => Blk W p 47 #[.slice (some ⟨nb, 0, none⟩) N cN, .slice T 0 tc, .int .i64 b]) _ _ (fun _ h => h) hp9 ?_
      clear hK K
      try simp only [Act.put, List.setIfInBounds_toArray, List.set_cons_zero, List.set_cons_succ]
      have HBc3 := hide (HBc2.out.trans hb9)
      have HPc3 := hide hp9
      have HQc3 := hide (HQc2.out.grown hg9 (fun e => row_not_blk HOc2.out HQc2.out (by decide) e.symm))
      have HOc3 := hide hown
      clear hown hg9 hat hb9 hp9
      refine wpT_q (v := .agg #[.slice none 0 0, .slice AT (0 + 0) cT, .int .i64 b]) (by simp only [List.getElem?_toArray, List.getElem?_cons_succ, List.getElem?_cons_zero]; try rfl) (by rfl) (fun W hW => exec_build 47 #[(1, .tmp 9), (2, .tmp 11)] rfl #[(1, .slice AT (0 + 0) cT), (2, .int .i64 b)] (by simp only [List.map_toArray, List.map_cons, List.map_nil]; rfl) _ (build_rgroup2 _ _ _ _ _)) ?_
      try simp only [Act.put, List.setIfInBounds_toArray, List.set_cons_zero, List.set_cons_succ]
      refine wpT_x (by simp only [List.getElem?_toArray, List.getElem?_cons_succ, List.getElem?_cons_zero]; try rfl) (by rfl) (fun K hK => ?_)
      refine wp_store_blk 47 (.tmp 3) (.tmp 12) rfl ob _ _ #[.slice none 0 0, .slice AT (0 + 0) cT, .int .i64 b] (by rfl) (by first | rfl | simp [Act.eval]) HQc3.out (size_rgroup _ _ _) rfl (by simp [Value.oneCell']) (fun hB9 => ?_)
      have hp9 : Blk (c3.setRow ob #[.slice none 0 0, .slice AT (0 + 0) cT, .int .i64 b]) p 47 #[.slice (some ⟨nb, 0, none⟩) N cN, .slice T 0 tc, .int .i64 b] := HPc3.out.setRow_far (by exact HNE.out) _
      refine hK (fun W => Blk W p 47 #[.slice (some ⟨nb, 0, none⟩) N cN, .slice T 0 tc, .int .i64 b]) _ _ (fun _ h => h) hp9 ?_
      have HFB := hide (below_setRow HBc3.out HOW.out #[.slice none 0 0, .slice AT (0 + 0) cT, .int .i64 b])
      have HFQ := hide hB9
      have HFP := hide hp9
      clear hK K hB9 hp9
      try simp only [Act.put, List.setIfInBounds_toArray, List.set_cons_zero, List.set_cons_succ]
      refine wpT_nil ?_
      go_wp2
      go_meet
      case rel => exact ⟨ob, AT, cT, rfl, HFB, HFQ, HFP, HOW⟩
  case rest =>
    obtain ⟨ob, AT, cT, rfl, HB, HQ, HP, HOW⟩ := hcut
    have HNE := hide (show p ≠ ob ∧ rb ≠ ob from by have := HOW.out; have := HPL.out; have := HRB1.out.lt; omega)
    have HRBx := hide (HRB1.out.below HB.out HRB1.out.lt)
    have HBx := hide (HB1.out.trans (HB.out.mono HB1.out.size))
    have HOWx := hide (Nat.le_trans HB1.out.size HOW.out)
    clear HB1 HP1 HRI r0 HB HOW
    go_wp2_with fail
    go_loopg [4] N (fun gh x4 wr => ∃ (k : Nat) (A5 : Option Addr) (c5 : Nat) (L' : List RNd), k ≤ N ∧ gh = N - k ∧ x4 = .int .i64 (k : Int) ∧ Hid (Below w.heap.size w wr) ∧ Hid (Blk wr p 47 #[.slice (some ⟨nb, 0, none⟩) N cN, .slice T 0 tc, .int .i64 b]) ∧ Hid (Blk wr ob 47 #[.slice A5 k c5, .slice AT (0 + 0) cT, .int .i64 b]) ∧
        Hid (wr.ownsRow w.heap.size 62 5 (.slice A5 k c5) k (flat5 L')) ∧ Hid (L'.length = k ∧ L'.map RNd.core = (L.take k).map RNd.core ∧ ∀ n ∈ L', n.At wr) ∧ Hid (Blk wr rb 47 #[.slice none 0 0, .slice none 0 0, .int .i64 0]))
    case atStart => exact ⟨0, none, 0, [], Nat.zero_le _, rfl, rfl, HBx, HP, HQ, hide (World.ownsRow_nil _ _ _ _), hide ⟨rfl, rfl, fun n hn => by cases hn⟩, HRBx⟩
    case round =>
      clear HBx HP HQ
      obtain ⟨k, A5, c5, L', hk, hgh, rfl, HB, HP, HQ, HO, HL, HRB⟩ := hrel
      have HGH := hide hgh
      clear hgh
      have c0 := HP.out.cell 0
      have pl := HP.out.lt
      rcases Nat.lt_or_ge k N with hlt | hge
      · have t1 : decide ((k : Int) < (N : Int)) = true := by simp; omega
        have t1' : (k : Int) < (N : Int) := by omega
        obtain ⟨n, hn⟩ : ∃ n, L[k]? = some n := ⟨_, List.getElem?_eq_getElem (by rw [HN.out]; exact hlt)⟩
        have hRr := HR.out.below HB.out
        have hrg := hRr.range hn
        have hat := hRr.all n (List.mem_of_getElem? hn)
        have hsm := HS.out.2 n (List.mem_of_getElem? hn)
        have HRG := hide hrg
        have HAT := hide hat
        have HSM := hide hsm
        have HNK := hide hn
        have nbl := hRr.lt
        clear hRr hrg hat hsm hn
        go_upto_region 6 with (first | ((with_reducible refine at_load 62 (.tmp 23) ?_); refine wpList_load_mid rfl 62 (.tmp 23) rfl nb (k * 5) (by rfl) n.cells _ HRG.out Tryz.underlying62 rfl (size_rnode n) ?_) | ((with_reducible refine at_alloc 62 ?_); refine wpList_alloc_as rfl 62 rfl _ (zero_rnode _) ?_) | ((with_reducible refine at_store 62 (.tmp 5) (.tmp 24) ?_); refine wpList_store_blk rfl 62 (.tmp 5) (.tmp 24) rfl wr.heap.size _ _ _ (by rfl) (by rfl) (Blk.new _ _ _) (size_rnode n) rfl (rnode_one n) (fun _ => ?_)) | fail)
        refine at_world (fun W => ∃ q, q = wr.heap.size ∧ Below wr.heap.size wr W ∧ Blk W q 62 n.cells.toArray) ⟨_, rfl, below_setRow ((Below.refl _ _).alloc (Nat.le_refl _) _) (Nat.le_refl _) _, (Blk.new _ _ _).setRow_same _⟩ (fun w2 hw2 => ?_)
        obtain ⟨q, hq, hb2, hQ2⟩ := hw2
        rw [← hq]
        have HB2 := hide (HB.out.trans (hb2.mono HB.out.size))
        have HP2 := hide (HP.out.below hb2 HP.out.lt)
        have HQ2 := hide (HQ.out.below hb2 HQ.out.lt)
        have HRB2 := hide (HRB.out.below hb2 HRB.out.lt)
        have HO2 := hide (own_below HO.out hb2)
        have HN2 := hide hQ2
        have HAL := hide (show ∀ m ∈ L', m.At w2 from fun m hm => ⟨own_below (HL.out.2.2 m hm).b hb2, own_below (HL.out.2.2 m hm).p hb2⟩)
        have HA2 := hide (show n.At w2 from ⟨own_below HAT.out.b hb2, own_below HAT.out.p hb2⟩)
        have HQW := hide (show w.heap.size ≤ q ∧ p ≠ q ∧ ob ≠ q ∧ rb ≠ q from ⟨by have := HB.out.size; omega, by have := HP.out.lt; omega, by have := HQ.out.lt; omega, by have := HRB.out.lt; omega⟩)
        have HGQ := hide (show ∀ g, (Value.slice A5 k c5).ownBlock = some g → g ≠ q from fun g hg => by have := (own_block_ge HO.out hg).2; omega)
        obtain ⟨i0, hi0, i1, i2, i3⟩ := info_byte
        have HI := hide (And.intro hi0 (And.intro i1 (And.intro i2 i3)))
        have q3 := hQ2.cell 3
        have ql := hQ2.lt
        rw [show n.cells.toArray[3]? = some (.slice n.A n.l.length n.c) from rfl] at q3
        have hrd : Rd w2 w2.heap.size 1 n.A n.l.length (bvs n.l) := Rd.of_own HA2.out.b
        have hl6 : n.l.length ≤ 60000 := HSM.out.1
        obtain ⟨nl, hnl⟩ : ∃ nl, n.l.length = nl := ⟨_, rfl⟩
        rw [hnl] at hrd q3 hl6
        have HRD := hide hrd
        have HNL := hide hnl
        have HLZ := hide hl6
        clear hq hb2 hQ2 HB HP HQ HRB HO HAT HRG hi0 i1 i2 i3 nbl c0 pl hrd hnl hl6
        go_upto_region 7 with (first | (at_builtin; refine wpList_append_rd _ rfl (.tmp 25) (.tmp 27) 24 rfl w2.heap.size 5 i0 (.int .u8 0) 1 1 Tryz.underlying24 HI.out.1 HI.out.2.1 HI.out.2.2.1 HI.out.2.2.2 rfl (by decide) (.slice (some ⟨w2.heap.size, 0, none⟩) 0 0) 0 _ rfl (own_lit rfl (by simp) (by simp) (by simp [maxLen]) rfl) w2.heap.size n.A nl n.c (bvs n.l) rfl (HRD.out.alloc (by simp) _) (bvs_one _) (by have := HLZ.out; simp only [maxLen]; omega) (by have := HLZ.out; omega) (by simp) ?_; intro v5 w5 hown5 hg5 hnil5 hat5; obtain ⟨A6, c6, rfl, hnc5, _, _⟩ := own_form hown5; have hb5 : Below w2.heap.size w2 w5 := (((Below.refl _ _).alloc (Nat.le_refl _) _).grown hg5 (by simp) (by simp [Value.ownBlock])); rw [Nat.zero_add, List.nil_append] at hown5; have f3 := (hb5.frozen (p := ⟨q, 3, none⟩) ql).trans (HN2.out.frozen 3); have cc3 := (hb5.cell (p := ⟨q, 3, none⟩) ql).trans q3; have m6 := Nat.lt_of_lt_of_le ql hb5.size; clear hg5 hnil5 hat5) | fail)
        have hN6 := (HN2.out.below hb5 HN2.out.lt).set_ 3 (.slice A6 nl c6)
        have hcs6 : n.cells.toArray.setIfInBounds 3 (.slice A6 nl c6) = (n.with A6 n.l c6).cells.toArray := by
          have h1 : (n.with A6 n.l c6).cells = [.int .u8 (n.kind.toNat : Int), .int .i64 (n.links : Int), .int .u16 (n.gen.toNat : Int), .slice A6 n.l.length c6, .slice n.P n.ps.length n.pc] := rfl
          rw [h1, HNL.out]; rfl
        rw [hcs6] at hN6
        have htq : Tch w2.heap.size (· = q) w2 (w5.setCell ⟨q, 3, none⟩ (.slice A6 nl c6)) := (Tch.of_below hb5).trans (Tch.setCell fun _ => rfl)
        have hb6 : Below w.heap.size w (w5.setCell ⟨q, 3, none⟩ (.slice A6 nl c6)) := (HB2.out.trans (hb5.mono HB2.out.size)).setCell HQW.out.1 _
        have hav : ∀ (t : TypeId) g cur, t ≠ 62 → Blk w2 g t cur → ¬ g = q := fun t g cur ht hB e => by subst e; exact hB.ne HN2.out ht rfl
        have hat6 : ∀ m : RNd, m.At w2 → m.At (w5.setCell ⟨q, 3, none⟩ (.slice A6 nl c6)) := fun m hm => hm.tch htq (fun g cur hB => hav _ g cur (by decide) hB) (fun g cur hB => hav _ g cur (by decide) hB)
        have hown6 : (w5.setCell ⟨q, 3, none⟩ (.slice A6 nl c6)).ownsRow 0 5 1 (.slice A6 nl c6) nl (bvs n.l) := by
          have h1 := own_mono hown5 (Nat.zero_le w2.heap.size)
          refine own_from h1 (Tch.setCell (S := (· = q)) (B := w5.heap.size) fun _ => rfl) (fun g cur hB e => ?_)
          subst e
          exact hB.ne (HN2.out.below hb5 HN2.out.lt) (by decide) rfl
        have hor6 : (w5.setCell ⟨q, 3, none⟩ (.slice A6 nl c6)).ownsRow w.heap.size 62 5 (.slice A5 k c5) k (flat5 L') := own_keep HO2.out fun g hg => by
          have h1 := (own_block_ge HO2.out hg).2
          have h2 : g ≠ q := HGQ.out g hg
          exact htq.block g h1 h2
        refine at_world (fun W => Below w.heap.size w W ∧ Blk W p 47 #[.slice (some ⟨nb, 0, none⟩) N cN, .slice T 0 tc, .int .i64 b] ∧ Blk W ob 47 #[.slice A5 k c5, .slice AT (0 + 0) cT, .int .i64 b] ∧ Blk W rb 47 #[.slice none 0 0, .slice none 0 0, .int .i64 0] ∧
            W.ownsRow w.heap.size 62 5 (.slice A5 k c5) k (flat5 L') ∧ Blk W q 62 (n.with A6 n.l c6).cells.toArray ∧ (∀ m ∈ L', m.At W) ∧ (n.with A6 n.l c6).At W)
          ⟨hb6, HP2.out.tch htq HP2.out.lt HQW.out.2.1, HQ2.out.tch htq HQ2.out.lt HQW.out.2.2.1, HRB2.out.tch htq HRB2.out.lt HQW.out.2.2.2, hor6, hN6, fun m hm => hat6 m (HAL.out m hm), ⟨by
            show (w5.setCell ⟨q, 3, none⟩ (.slice A6 nl c6)).ownsRow 0 5 1 (.slice A6 n.l.length c6) n.l.length (bvs n.l)
            rw [HNL.out]; exact hown6, (hat6 n HA2.out).p⟩⟩ (fun w3 hw3 => ?_)
        obtain ⟨k1, k2, k3, k4, k5, k6, k7, k8⟩ := hw3
        have HB3 := hide k1
        have HP3 := hide k2
        have HQ3 := hide k3
        have HRB3 := hide k4
        have HO3 := hide k5
        have HN3 := hide k6
        have HAL3 := hide k7
        have HA3 := hide k8
        clear k1 k2 k3 k4 k5 k6 k7 k8 hb6 htq hav hat6 hown6 hor6 hN6 hcs6 cc3 f3 m6 hb5 hown5 q3 ql HB2 HP2 HQ2 HRB2 HO2 HN2 HAL HA2 HRD HI i0
        obtain ⟨n6, hn6⟩ : ∃ n6, n.with A6 n.l c6 = n6 := ⟨_, rfl⟩
        have h6ps : n6.ps = n.ps := by rw [← hn6]; rfl
        rw [hn6] at HN3 HA3
        obtain ⟨e0, he0, ee1, ee2, ee3⟩ := info_entry
        have HE := hide (And.intro he0 (And.intro ee1 (And.intro ee2 ee3)))
        have q3 := HN3.out.cell 4
        have ql := HN3.out.lt
        rw [show n6.cells.toArray[4]? = some (.slice n6.P n6.ps.length n6.pc) from rfl] at q3
        have hrd : Rd w3 w3.heap.size 2 n6.P n6.ps.length (flat2 n6.ps) := Rd.of_own HA3.out.p
        have hl6 : n6.ps.length ≤ 3000 := by rw [h6ps]; exact HSM.out.2
        obtain ⟨pl, hpl⟩ : ∃ pl, n6.ps.length = pl := ⟨_, rfl⟩
        rw [hpl] at hrd q3 hl6
        have HRD := hide hrd
        have HPLn := hide hpl
        have HLZ2 := hide hl6
        have HN6 := hide hn6
        clear he0 ee1 ee2 ee3 hrd hpl hl6 h6ps hn6
        go_upto_region 8 with (first | (at_builtin; refine wpList_append_rd _ rfl (.tmp 30) (.tmp 32) 60 rfl w3.heap.size 125 e0 (.agg #[.string ByteArray.empty, .int .u16 0]) 2 24 Tryz.underlying60 HE.out.1 HE.out.2.1 HE.out.2.2.1 HE.out.2.2.2 rfl (by decide) (.slice (some ⟨w3.heap.size, 0, none⟩) 0 0) 0 _ rfl (own_lit rfl (by simp) (by simp) (by simp [maxLen]) rfl) w3.heap.size n6.P pl n6.pc (flat2 n6.ps) rfl (HRD.out.alloc (by simp) _) (flat2_one _) (by have := HLZ2.out; simp only [maxLen]; omega) (by have := HLZ2.out; omega) (by simp) ?_; intro v5 w5 hown5 hg5 hnil5 hat5; obtain ⟨A7, c7, rfl, hnc5, _, _⟩ := own_form hown5; have hb5 : Below w3.heap.size w3 w5 := (((Below.refl _ _).alloc (Nat.le_refl _) _).grown hg5 (by simp) (by simp [Value.ownBlock])); rw [Nat.zero_add, List.nil_append] at hown5; have f3 := (hb5.frozen (p := ⟨q, 4, none⟩) ql).trans (HN3.out.frozen 4); have cc3 := (hb5.cell (p := ⟨q, 4, none⟩) ql).trans q3; have m6 := Nat.lt_of_lt_of_le ql hb5.size; clear hg5 hnil5 hat5) | fail)
        have hN7 := (HN3.out.below hb5 HN3.out.lt).set_ 4 (.slice A7 pl c7)
        have hcs7 : n6.cells.toArray.setIfInBounds 4 (.slice A7 pl c7) = (n6.withP A7 n6.ps c7).cells.toArray := by
          have h1 : (n6.withP A7 n6.ps c7).cells = [.int .u8 (n6.kind.toNat : Int), .int .i64 (n6.links : Int), .int .u16 (n6.gen.toNat : Int), .slice n6.A n6.l.length n6.c, .slice A7 n6.ps.length c7] := rfl
          rw [h1, HPLn.out]; rfl
        rw [hcs7] at hN7
        have htq : Tch w3.heap.size (· = q) w3 (w5.setCell ⟨q, 4, none⟩ (.slice A7 pl c7)) := (Tch.of_below hb5).trans (Tch.setCell fun _ => rfl)
        have hb6 : Below w.heap.size w (w5.setCell ⟨q, 4, none⟩ (.slice A7 pl c7)) := (HB3.out.trans (hb5.mono HB3.out.size)).setCell HQW.out.1 _
        have hav : ∀ (t : TypeId) g cur, t ≠ 62 → Blk w3 g t cur → ¬ g = q := fun t g cur ht hB e => by subst e; exact hB.ne HN3.out ht rfl
        have hat6 : ∀ m : RNd, m.At w3 → m.At (w5.setCell ⟨q, 4, none⟩ (.slice A7 pl c7)) := fun m hm => hm.tch htq (fun g cur hB => hav _ g cur (by decide) hB) (fun g cur hB => hav _ g cur (by decide) hB)
        have hown6 : (w5.setCell ⟨q, 4, none⟩ (.slice A7 pl c7)).ownsRow 0 125 2 (.slice A7 pl c7) pl (flat2 n6.ps) := by
          have h1 := own_mono hown5 (Nat.zero_le w3.heap.size)
          refine own_from h1 (Tch.setCell (S := (· = q)) (B := w5.heap.size) fun _ => rfl) (fun g cur hB e => ?_)
          subst e
          exact hB.ne (HN3.out.below hb5 HN3.out.lt) (by decide) rfl
        have hor6 : (w5.setCell ⟨q, 4, none⟩ (.slice A7 pl c7)).ownsRow w.heap.size 62 5 (.slice A5 k c5) k (flat5 L') := own_keep HO3.out fun g hg => by
          have h1 := (own_block_ge HO3.out hg).2
          have h2 : g ≠ q := HGQ.out g hg
          exact htq.block g h1 h2
        refine at_world (fun W => Below w.heap.size w W ∧ Blk W p 47 #[.slice (some ⟨nb, 0, none⟩) N cN, .slice T 0 tc, .int .i64 b] ∧ Blk W ob 47 #[.slice A5 k c5, .slice AT (0 + 0) cT, .int .i64 b] ∧ Blk W rb 47 #[.slice none 0 0, .slice none 0 0, .int .i64 0] ∧
            W.ownsRow w.heap.size 62 5 (.slice A5 k c5) k (flat5 L') ∧ Blk W q 62 (n6.withP A7 n6.ps c7).cells.toArray ∧ (∀ m ∈ L', m.At W) ∧ (n6.withP A7 n6.ps c7).At W)
          ⟨hb6, HP3.out.tch htq HP3.out.lt HQW.out.2.1, HQ3.out.tch htq HQ3.out.lt HQW.out.2.2.1, HRB3.out.tch htq HRB3.out.lt HQW.out.2.2.2, hor6, hN7, fun m hm => hat6 m (HAL3.out m hm), ⟨(hat6 n6 HA3.out).b, by
            show (w5.setCell ⟨q, 4, none⟩ (.slice A7 pl c7)).ownsRow 0 125 2 (.slice A7 n6.ps.length c7) n6.ps.length (flat2 n6.ps)
            rw [HPLn.out]; exact hown6⟩⟩ (fun w4 hw4 => ?_)
        obtain ⟨k1, k2, k3, k4, k5, k6, k7, k8⟩ := hw4
        have HB4 := hide k1
        have HP4 := hide k2
        have HQ4 := hide k3
        have HRB4 := hide k4
        have HO4 := hide k5
        have HN4 := hide k6
        have HAL4 := hide k7
        have HA4 := hide k8
        clear k1 k2 k3 k4 k5 k6 k7 k8 hb6 htq hav hat6 hown6 hor6 hN7 hcs7 cc3 f3 m6 hb5 hown5 q3 ql HB3 HP3 HQ3 HRB3 HO3 HN3 HAL3 HA3 HRD HE e0
        obtain ⟨n7, hn7⟩ : ∃ n7, n6.withP A7 n6.ps c7 = n7 := ⟨_, rfl⟩
        have hcore : n7.core = n.core := by rw [← hn7, ← HN6.out]; rfl
        rw [hn7] at HN4 HA4
        have HCO := hide hcore
        obtain ⟨j0, hj0, j1, j2, j3⟩ := info_rnode
        have HJ := hide (And.intro hj0 (And.intro j1 (And.intro j2 j3)))
        have o0 := HQ4.out.cell 0
        have ol := HQ4.out.lt
        have e1 : IntKind.i64.wrap ((k : Int) + 1) = (k : Int) + 1 := IntWalk.i64_in _ (by omega)
        have hk6 : k ≤ 1000000 := by omega
        have hn4 : Blk w4 q 62 #[.int .u8 (n7.kind.toNat : Int), .int .i64 (n7.links : Int), .int .u16 (n7.gen.toNat : Int), .slice n7.A n7.l.length n7.c, .slice n7.P n7.ps.length n7.pc] := HN4.out
        have HN4' := hide hn4
        clear hn4
        have hone : ∀ u ∈ n7.cells, u.oneCell' = true := fun u hu => by
          have := rnode_one n7
          rw [Array.all_eq_true_iff_forall_mem] at this
          exact this u (by simpa using hu)
        have ofz := HQ4.out.frozen 0
        clear hcore hn7 hj0 j1 j2 j3
        go_upto_region 4 with (first | ((with_reducible refine at_load 62 (.tmp 5) ?_); refine wpList_load_blk rfl 62 (.tmp 5) rfl q _ _ _ (by rfl) HN4'.out Tryz.underlying62 rfl (size_rnode n7) ?_) | (at_builtin; refine wpList_append_one rfl (.tmp 36) (.tmp 38) 44 rfl w.heap.size 62 j0 (.agg RNd.zero.cells.toArray) 5 72 Tryz.underlying44 HJ.out.1 HJ.out.2.1 HJ.out.2.2.1 HJ.out.2.2.2 rfl (by decide) A5 c5 k (flat5 L') n7.cells w4 rfl HO4.out rfl rfl rfl hone hk6 (by decide) HB4.out.size ?_; intro A8 c8 w5 hown5 hg5 hb5 hat5; have hoc := hg5.cell o0 (fun e => row_not_blk HO4.out HQ4.out (by decide) e.symm); have hof := (World.frozen?_of_block (a := ⟨ob, 0, none⟩) (hg5.block ob ol (fun e => row_not_blk HO4.out HQ4.out (by decide) e.symm))).trans ofz; have hol := Nat.lt_of_lt_of_le ol hg5.size) | fail)
        have hbX := HB4.out.trans (hb5.mono (Nat.le_refl _))
        have hbF := hbX.setCell (p := ⟨ob, 0, none⟩) (by exact HOWx.out) (.slice A8 (k + 1) c8)
        have htb : Tch w4.heap.size (fun g => (Value.slice A5 k c5).ownBlock = some g ∨ g = ob) w4 (w5.setCell ⟨ob, 0, none⟩ (.slice A8 (k + 1) c8)) :=
          (Tch.grown hg5 (Nat.le_refl _) (fun g hg _ => .inl hg)).trans (Tch.setCell fun _ => .inr rfl)
        have hav : ∀ (t : TypeId) g cur, t ≠ 62 → t ≠ 47 → Blk w4 g t cur → ¬ ((Value.slice A5 k c5).ownBlock = some g ∨ g = ob) := fun t g cur h1 h2 hB h => by
          rcases h with h | rfl
          · exact row_not_blk HO4.out hB h1 h
          · exact hB.ne HQ4.out h2 rfl
        have hatm : ∀ m : RNd, m.At w4 → m.At (w5.setCell ⟨ob, 0, none⟩ (.slice A8 (k + 1) c8)) := fun m hm => hm.tch htb (fun g cur hB => hav _ g cur (by decide) (by decide) hB) (fun g cur hB => hav _ g cur (by decide) (by decide) hB)
        have hpq : ∀ x cs, x ≠ ob → Blk w4 x 47 cs → Blk (w5.setCell ⟨ob, 0, none⟩ (.slice A8 (k + 1) c8)) x 47 cs := fun x cs hx hB => hB.tch htb hB.lt (fun h => by
          rcases h with h | h
          · exact row_not_blk HO4.out hB (by decide) h
          · exact hx h)
        have hobn := (HQ4.out.grown hg5 (fun e => row_not_blk HO4.out HQ4.out (by decide) e.symm)).set_ 0 (.slice A8 (k + 1) c8)
        have hown8 : (w5.setCell ⟨ob, 0, none⟩ (.slice A8 (k + 1) c8)).ownsRow w.heap.size 62 5 (.slice A8 (k + 1) c8) (k + 1) (flat5 (L' ++ [n7])) := by
          have e5 : flat5 L' ++ n7.cells = flat5 (L' ++ [n7]) := by simp [flat5]
          rw [e5] at hown5
          refine own_keep hown5 fun g hg => Below.heap_setCell _ _ _ _ (fun e => ?_)
          have hob5 := HQ4.out.grown hg5 (fun e => row_not_blk HO4.out HQ4.out (by decide) e.symm)
          exact row_not_blk hown5 hob5 (by decide) (by rw [hg]; exact congrArg some e)
        obtain ⟨hl1, hl2, hl3⟩ := HL.out
        have HFIN : Hid ((L' ++ [n7]).length = k + 1 ∧ (L' ++ [n7]).map RNd.core = (L.take (k + 1)).map RNd.core) := hide ⟨by rw [List.length_append, hl1]; rfl, by
          rw [List.map_append, hl2, List.take_add_one, HNK.out, List.map_append]
          simp [HCO.out]⟩
        have HF1 := hide hbF
        have HF2 := hide (hpq p _ HNE.out.1 HP4.out)
        have HF3 : Hid (Blk (w5.setCell ⟨ob, 0, none⟩ (.slice A8 (k + 1) c8)) ob 47 #[.slice A8 (k + 1) c8, .slice AT (0 + 0) cT, .int .i64 b]) := hide hobn
        have HF4 := hide hown8
        have HF5 := hide (show ∀ m ∈ L' ++ [n7], m.At (w5.setCell ⟨ob, 0, none⟩ (.slice A8 (k + 1) c8)) from fun m hm => by
          rcases List.mem_append.1 hm with hm | hm
          · exact hatm m (HAL4.out m hm)
          · rw [List.mem_singleton.1 hm]; exact hatm n7 HA4.out)
        have HF6 := hide (hpq rb _ HNE.out.2 HRB4.out)
        clear hbX hbF htb hav hatm hpq hobn hown8 hl1 hl2 hl3 hoc hof hol o0 ol ofz hone hk6 hown5 hg5 hb5 hat5 HB4 HP4 HQ4 HRB4 HO4 HN4 HN4' HAL4 HA4 hlt HL
        go_wp2
        go_roundg (N - (k + 1))
        case rel => exact ⟨k + 1, A8, c8, L' ++ [n7], by omega, rfl, by first | rfl | go_num, HF1, HF2, HF3, HF4, hide ⟨HFIN.out.1, HFIN.out.2, HF5.out⟩, HF6⟩
        case measure => have := HGH.out; omega
      · have hkn : k = N := by omega
        subst hkn
        have t1 : decide ((k : Int) < (k : Int)) = false := by simp
        obtain ⟨hl1, hl2, hl3⟩ := HL.out
        have hsz := size_rgroup (.slice A5 k c5) (.slice AT (0 + 0) cT) (.int .i64 b)
        have htk : L.take k = L := List.take_of_length_le (by rw [HN.out]; exact Nat.le_refl _)
        rw [htk] at hl2
        obtain ⟨g5, hA5, hg5⟩ : ∃ g, A5 = some ⟨g, 0, none⟩ ∧ w.heap.size ≤ g := by
          obtain ⟨A', c', he, _⟩ := own_form HO.out
          rcases HO.out.2 with ⟨h0, h1⟩ | ⟨g, cap, cur, hv, hg, _⟩
          · omega
          · simp only [Value.slice.injEq] at hv; exact ⟨g, hv.1, hg⟩
        subst hA5
        have hrow : Row5 wr g5 L' c5 := ⟨by rw [hl1]; exact own_mono HO.out (Nat.zero_le _), hl3⟩
        have HF := hide (And.intro hl2 (And.intro hrow hg5))
        have HRBW := hide HPW.out.2.1
        clear hl1 hl2 hl3 htk hrow hg5 hge hk hL HL
        go_wp2_with (first | ((with_reducible refine at_load 47 (.tmp 3) ?_); refine wpList_load_blk rfl 47 (.tmp 3) rfl ob _ _ _ (by rfl) HQ.out Tryz.underlying47 rfl hsz ?_) | ((with_reducible refine at_store 47 (.tmp 2) (.tmp 41) ?_); refine wpList_store_blk rfl 47 (.tmp 2) (.tmp 41) rfl rb _ _ _ (by rfl) (by rfl) HRB.out hsz rfl (by simp [Value.oneCell']) (fun hB7 => ?_)) | ((with_reducible refine at_end ?_); refine bodyPost_ret (v := .agg #[.slice (some ⟨g5, 0, none⟩) k c5, .slice AT (0 + 0) cT, .int .i64 b]) (results_run1 rfl (ResV.row rfl hB7 Tryz.underlying47 rfl hsz)) rfl ⟨g5, c5, AT, cT, L', rfl, HF.out.1, ?_, HF.out.2.2, below_setRow HB.out HRBW.out _⟩) | fail)
        exact HF.out.2.1.tch (Tch.setRow (S := (· = rb)) (fun _ => rfl)) (fun g cur hB e => by subst e; exact HRB.out.ne hB (by decide) rfl) (fun g cur hB e => by subst e; exact HRB.out.ne hB (by decide) rfl) (fun g cur hB e => by subst e; exact HRB.out.ne hB (by decide) rfl)
end Go.Proofs.YthmkgohfeahdhaaGreat
namespace Go.Proofs.YthmkgohfeahdhaaGreat
open Go.RowKit
set_option linter.unusedSimpArgs false
set_option linter.unusedVariables false

/-- a record, as it lies -/
structure RecV where
  s : Nat
  f : Nat
  t : Nat
  A : Option Addr
  l : List UInt8
  c : Nat
structure RecV.Ok (r : RecV) : Prop where
  s : r.s < 4294967296
  f : r.f < 256
  t : r.t < 256
def RecV.cells (r : RecV) : List Value := [.int .u32 (r.s : Int), .int .u8 (r.f : Int), .int .u8 (r.t : Int), .slice r.A r.l.length r.c]
def RecV.core (r : RecV) : Nat × Nat × Nat × List UInt8 := (r.s, r.f, r.t, r.l)
def RecV.enc (r : RecV) : List UInt8 := encB r.s r.f r.t r.l
def flat4 (L : List RecV) : List Value := L.flatMap RecV.cells
def encs (L : List RecV) : List UInt8 := L.flatMap RecV.enc
theorem flat4_length (L : List RecV) : (flat4 L).length = L.length * 4 := by
  induction L with
  | nil => rfl
  | cons n r ih => unfold flat4 at ih ⊢; rw [List.flatMap_cons, List.length_append, ih, List.length_cons]; simp [RecV.cells]; omega
theorem flat4_get : ∀ {L : List RecV} {k j : Nat} {n : RecV}, L[k]? = some n → j < 4 → (flat4 L)[k * 4 + j]? = n.cells[j]?
  | [], k, j, n, h, _ => by simp at h
  | a :: r, 0, j, n, h, hj => by
    obtain rfl : a = n := by simpa using h
    unfold flat4
    rw [List.flatMap_cons, Nat.zero_mul, Nat.zero_add, List.getElem?_append_left (by simp [RecV.cells]; omega)]
  | a :: r, k + 1, j, n, h, hj => by
    have := flat4_get (L := r) (k := k) (j := j) (n := n) (by simpa using h) hj
    unfold flat4 at this ⊢
    rw [List.flatMap_cons, List.getElem?_append_right (by simp [RecV.cells]; omega), ← this]
    congr 1
    simp [RecV.cells]; omega
theorem encs_append (a b : List RecV) : encs (a ++ b) = encs a ++ encs b := by simp [encs]
theorem enc_length (r : RecV) : r.enc.length = 7 + r.l.length := encB_length _ _ _ _
def rec0 : Array Value := #[.int .u32 0, .int .u8 0, .int .u8 0, .slice none 0 0]
theorem zero_rec (w : World) : (zeroValue 51).run Tryz.prog w = .ok (.agg rec0) w := by kernel_rfl
theorem build_rec (w : World) : (Instr.build 51 #[]).run Tryz.prog w = .ok (.agg rec0) w := by kernel_rfl
theorem rec0_one : rec0.all (·.oneCell') = true := by simp [rec0, Value.oneCell']
theorem size_rec0 : (Tryz.prog.info? 51).map (·.size) = some rec0.size := by kernel_rfl
theorem size_rec (r : RecV) : (Tryz.prog.info? 51).map (·.size) = some r.cells.toArray.size := by
  have : (Tryz.prog.info? 51).map (·.size) = some 4 := by kernel_rfl
  rw [this]; rfl
theorem rec_one (r : RecV) : r.cells.toArray.all (·.oneCell') = true := by simp [RecV.cells, Value.oneCell']
theorem info_rec : ∃ i, Tryz.prog.info? 51 = some i ∧ i.zero = some (.agg rec0) ∧ i.size = 4 ∧ i.bytes = 32 := by
  have h : (Tryz.prog.info? 51).map (fun i => (i.zero, i.size, i.bytes)) = some (some (.agg rec0), 4, 32) := by kernel_rfl
  cases hi : Tryz.prog.info? 51 with
  | none => rw [hi] at h; cases h
  | some i =>
    rw [hi] at h
    simp only [Option.map_some, Option.some.injEq, Prod.mk.injEq] at h
    exact ⟨i, rfl, h.1, h.2.1, h.2.2⟩
/-- what comes of bytes written at a file's end -/
def EndRes (w w' : World) (i : Ids) (s : Sto) (gg : Nat) (g : GeoN) (lab : Int) (G : GS) (num sz : Nat) (l d : List UInt8) (e : Ending) : Prop :=
  (e = .returned (.int .i64 10) ∧ g.blocks + nkeys (blks sz) < G.cnt g.blocks + nkeys (blks (sz + d.length)) ∧ ∃ s' G', GAt w' i s' gg g lab G' ∧ Stay s s' g ∧ Tch w.heap.size i.own w w') ∨
  (e = .returned (.int .i64 0) ∧ ∃ s' G' κ', GAt w' i s' gg g lab G' ∧ FileAt G' g.blocks (G'.nd num) (blks (sz + d.length)) κ' (sz + d.length) (fun j => (l ++ d).getD j 0) ∧ (G'.nd num).size.toNat = sz + d.length ∧ (G'.nd num).kind = (G.nd num).kind ∧ (G'.nd num).links = (G.nd num).links ∧
    G'.cnt g.blocks + nkeys (blks sz) = G.cnt g.blocks + nkeys (blks (sz + d.length)) ∧ Stay s s' g ∧ Tch w.heap.size i.own w w')
theorem FileAt.congr {G : GS} {m c len : Nat} {n : NodeV} {κ : Nat → Nat} {f f' : Nat → UInt8} (h : FileAt G m n c κ len f) (hf : ∀ j, j < len → f j = f' j) : FileAt G m n c κ len f' :=
  ⟨h.tree, h.cle, h.fit, fun j hj => (h.byte j hj).trans (hf j hj)⟩
theorem over_end {l d : List UInt8} {j : Nat} (hj : j < l.length + d.length) : over (fun j => l.getD j 0) l.length d d.length j = (l ++ d).getD j 0 := by
  unfold over
  by_cases h : l.length ≤ j
  · rw [if_pos ⟨h, hj⟩, List.getD_eq_getElem?_getD, List.getD_eq_getElem?_getD, List.getElem?_append_right h]
  · rw [if_neg (by omega)]
    show l.getD j 0 = _
    rw [List.getD_eq_getElem?_getD, List.getD_eq_getElem?_getD, List.getElem?_append_left (by omega)]
section
variable {w w' : World} {i : Ids} {s : Sto} {gg : Nat} {g : GeoN} {lab : Int} {G : GS}
theorem write_end {num cap sz : Nat} {A : Option Addr} {l d : List UInt8} {κ : Nat → Nat} (h : GAt w i s gg g lab G) (hK0 : s.In []) (h1 : 1 ≤ num) (h2 : num ≤ g.nodes) (hb5 : g.blocks ≤ 512) (hk : (G.nd num).kind = 1) (hl0 : (G.nd num).links ≠ 0) (hl : l.length = sz) (hsz : (G.nd num).size.toNat = sz)
    (hf : FileAt G g.blocks (G.nd num) (blks sz) κ sz (fun j => l.getD j 0)) (hlen : sz + d.length ≤ 16384) (hd : d.length ≤ 700) (hc : d.length ≤ cap) (hR : Rd w w.heap.size 1 A d.length (bvs d)) (hA : ∀ b, A = some b → ¬ i.own b.block) :
    Calls Tryz.prog 33 #[.pointer (some ⟨gg, 0, none⟩), .int .i64 (num : Int), .int .i64 (sz : Int), .slice A d.length cap] w fun e w' => EndRes w w' i s gg g lab G num sz l d e := by
  have hblk : max (blks sz) (blks (sz + d.length)) = blks (sz + d.length) := by unfold blks; omega
  have hwr := write_file (num := num) (off := sz) (cap := cap) (c := blks sz) (sz := sz) (κ := κ) (f := fun j => l.getD j 0) (K0 := []) (data := d) (A := A) h hK0 h1 h2 hb5 (by rw [hk]; decide) hsz hf (Nat.le_refl _) hlen (by omega) hc hR hA
    (by unfold blks; omega) (by rw [hblk, List.length_nil]; unfold blks; split <;> omega) (Nat.le_refl _) (fun n' hs hd' => check_grow hs hk hl0 (by rw [hsz]; omega))
  rw [hblk, show max sz (sz + d.length) = sz + d.length from by omega] at hwr
  refine hwr.mono ?_
  rintro e w' (⟨he, hno, s', G', k1, k2, k3⟩ | ⟨he, s', G', κ', k1, k2, k3, k4, k5, -, -, k6, -, k7, k8⟩)
  · exact .inl ⟨he, hno, s', G', k1, k2, k3⟩
  · exact .inr ⟨he, s', G', κ', k1, k2.congr (fun j hj => by subst hl; exact over_end hj), k3, k4, k5, k6, k7, k8⟩
set_option maxRecDepth 100000 in
set_option maxHeartbeats 2000000 in
/-- one record more -/
theorem aappend_ok {sz : Nat} {r : RecV} {l : List UInt8} {κ : Nat → Nat} (h : GAt w i s gg g lab G) (hK0 : s.In []) (h2 : 3 ≤ g.nodes) (hb5 : g.blocks ≤ 512) (hk : (G.nd 3).kind = 1) (hl0 : (G.nd 3).links ≠ 0) (hl : l.length = sz) (hsz : (G.nd 3).size.toNat = sz)
    (hf : FileAt G g.blocks (G.nd 3) (blks sz) κ sz (fun j => l.getD j 0)) (hlen : sz + 7 + r.l.length ≤ 16384) (hr : r.Ok) (hn : r.l.length ≤ 128) (hR : Rd w w.heap.size 1 r.A r.l.length (bvs r.l)) :
    Calls Tryz.prog 25 #[.pointer (some ⟨gg, 0, none⟩), .agg r.cells.toArray] w fun e w' => EndRes w w' i s gg g lab G 3 sz l r.enc e := by
  have hdir := h.gok.dir 3
  obtain ⟨nl, hnl⟩ : ∃ nl, r.l.length = nl := ⟨_, rfl⟩
  have hcs : r.cells.toArray = #[.int .u32 (r.s : Int), .int .u8 (r.f : Int), .int .u8 (r.t : Int), .slice r.A nl r.c] := by rw [← hnl]; rfl
  rw [hcs]
  rw [hnl] at hR hn hlen
  have H := hide h
  have HR := hide hR
  have HK := hide (And.intro hK0 (And.intro h2 (And.intro hb5 (And.intro hk (And.intro hl0 (And.intro hl hsz))))))
  have HF := hide hf
  have HO := hide hr
  have HL := hide (And.intro hlen (And.intro hn hnl))
  have HD := hide hdir
  have hszz : (sz : Int) ≤ 16384 := by omega
  clear h hR hK0 h2 hb5 hk hl0 hl hf hr hlen hn hnl hdir hcs
  go_enter Tryz.func25, Tryz.ntmps25
  go_wp2_with fail
  have hb0 : Below w.heap.size w (w.alloc (.cells #[.int .u32 (r.s : Int), .int .u8 (r.f : Int), .int .u8 (r.t : Int), .slice r.A nl r.c] 51)) := (Below.refl _ _).alloc (Nat.le_refl _) _
  refine (au_encode_ok r.s r.f r.t r.A nl r.c r.l _ HO.out.s HO.out.f HO.out.t HL.out.2.1 ((HR.out.below hb0).more hb0.size)).mono ?_
  rintro e w1 ⟨A1, c1, rfl, hown1, hb1⟩
  have hb01 : Below w.heap.size w w1 := hb0.trans (hb1.mono hb0.size)
  have HA1 := hide (H.out.below hb01)
  have HT1 := hide (Tch.of_below (S := i.own) hb01)
  have HO1 := hide (own_mono hown1 (show w.heap.size ≤ _ from hb0.size))
  clear hb0 hown1 hb1 hb01
  go_wp2_with fail
  have hnd := gs_node' HA1.out (show 1 ≤ 3 by omega) HK.out.2.1
  rw [show ((3 : Nat) : Int) = 3 from rfl] at hnd
  obtain ⟨n0, hn0⟩ : ∃ n0, G.nd 3 = n0 := ⟨_, rfl⟩
  rw [hn0] at hnd HD
  have HN0 := hide hn0
  have HND := hide hnd
  clear hnd hn0
  refine HND.out.mono ?_
  rintro e w2 ⟨rfl, ha2, ht2⟩
  have HA2 := hide ha2
  have HT2 := hide (HT1.out.trans (ht2.mono HT1.out.size fun _ _ h => h))
  have HO2 := hide (own_tch HO1.out ht2 (fun k hk => H.out.tx.other_new hk))
  clear ha2 ht2 HND HA1 HT1 HO1
  go_upto_region 5 with (first | ((with_reducible refine at_alloc 130 ?_); refine wpList_alloc_as rfl 130 rfl _ (zero_node _) ?_) | ((with_reducible refine at_store 130 (.tmp 7) (.tmp 19) ?_); refine wpList_store_blk rfl 130 (.tmp 7) (.tmp 19) rfl w2.heap.size _ _ _ (by rfl) (by rfl) (Blk.new _ _ _) (size_nodeOf HD.out) (by rw [List.size_toArray, List.size_toArray, NodeV.cells_length HD.out]; rfl) (NodeV.cells_one _) (fun _ => ?_)) | fail)
  refine at_world (fun W => ∃ q, q = w2.heap.size ∧ Below w2.heap.size w2 W ∧ Blk W q 130 n0.cells.toArray) ⟨_, rfl, below_setRow ((Below.refl _ _).alloc (Nat.le_refl _) _) (Nat.le_refl _) _, (Blk.new _ _ _).setRow_same _⟩ (fun w3 hw3 => ?_)
  obtain ⟨q, hq, hb3, hQ3⟩ := hw3
  rw [← hq]
  have HA3 := hide (HA2.out.below hb3)
  have HT3 := hide (HT2.out.trans ((Tch.of_below hb3).mono HT2.out.size fun _ _ h => h))
  have HO3 := hide (own_below HO2.out hb3)
  have q3 := (hQ3.cell 3).trans (node_cells_at n0).2.2.2
  have ql := hQ3.lt
  have hsz2 : n0.size.toNat = sz := by rw [← HN0.out]; exact HK.out.2.2.2.2.2.2
  rw [hsz2] at q3
  have e1 : IntKind.i64.wrap (sz : Int) = (sz : Int) := IntWalk.i64_in _ (by omega)
  have hel : r.enc.length = 7 + nl := by rw [enc_length, HL.out.2.2]
  have hcap := own_le_cap HO3.out
  have hwr := write_end (num := 3) (cap := c1) (sz := sz) (A := A1) (l := l) (d := r.enc) (κ := κ) HA3.out HK.out.1 (by omega) HK.out.2.1 HK.out.2.2.1 HK.out.2.2.2.1 HK.out.2.2.2.2.1 HK.out.2.2.2.2.2.1 HK.out.2.2.2.2.2.2 HF.out (by rw [hel]; have := HL.out; omega) (by rw [hel]; have := HL.out; omega) (by rw [hel]; exact hcap)
    (by rw [hel]; exact Rd.of_own HO3.out) (fun b hb => by
      subst hb
      exact H.out.tx.other_new (own_block_ge HO3.out (g := b.block) rfl).1)
  rw [hel, show ((3 : Nat) : Int) = 3 from rfl] at hwr
  have HWR := hide hwr
  clear hq hb3 hQ3 hsz2 hel hcap hwr hsz
  go_wp2_with fail
  refine HWR.out.mono ?_
  rintro e w4 hres
  have HF4 : Hid (EndRes w w4 i s gg g lab G 3 sz l r.enc e) := hide (by
    rcases hres with ⟨he, hno, s', G', k1, k2, k3⟩ | ⟨he, s', G', κ', k1, k2, k3, k4, k5, k6, k7, k8⟩
    · exact .inl ⟨he, hno, s', G', k1, k2, HT3.out.trans (k3.mono HT3.out.size fun _ _ h => h)⟩
    · exact .inr ⟨he, s', G', κ', k1, k2, k3, k4, k5, k6, k7, HT3.out.trans (k8.mono HT3.out.size fun _ _ h => h)⟩)
  obtain ⟨x, hx⟩ : ∃ x : Int, e = .returned (.int .i64 x) := by
    rcases hres with ⟨he, _⟩ | ⟨he, _⟩
    · exact ⟨10, he⟩
    · exact ⟨0, he⟩
  clear hres HWR
  subst hx
  go_wp2
  go_returns
  exact HF4.out
set_option maxRecDepth 100000 in
/-- a record that is too long -/
theorem aappend_long {r : RecV} (hn : 128 < r.l.length) (A : Value) (w : World) :
    Calls Tryz.prog 25 #[A, .agg r.cells.toArray] w fun e w' => e = .returned (.int .i64 8) ∧ Below w.heap.size w w' := by
  obtain ⟨nl, hnl⟩ : ∃ nl, r.l.length = nl := ⟨_, rfl⟩
  have hcs : r.cells.toArray = #[.int .u32 (r.s : Int), .int .u8 (r.f : Int), .int .u8 (r.t : Int), .slice r.A nl r.c] := by rw [← hnl]; rfl
  rw [hcs]
  rw [hnl] at hn
  have HN := hide hn
  clear hnl hcs hn
  go_enter Tryz.func25, Tryz.ntmps25
  go_wp2_with fail
  have hb0 : Below w.heap.size w (w.alloc (.cells #[.int .u32 (r.s : Int), .int .u8 (r.f : Int), .int .u8 (r.t : Int), .slice r.A nl r.c] 51)) := (Below.refl _ _).alloc (Nat.le_refl _) _
  refine (au_encode_long r.s r.f r.t r.A nl r.c _ HN.out).mono ?_
  rintro e w1 ⟨rfl, hb1⟩
  have HF := hide (hb0.trans (hb1.mono hb0.size))
  clear hb0 hb1
  go_wp2
  go_returns
  exact ⟨rfl, HF.out⟩
end
end Go.Proofs.YthmkgohfeahdhaaGreat
namespace Go.Proofs.YthmkgohfeahdhaaGreat
open Go.RowKit
set_option linter.unusedSimpArgs false
set_option linter.unusedVariables false

/-- a record's bytes lie in a row of their own -/
def RecV.Own (w : World) (r : RecV) : Prop := w.ownsRow 0 5 1 (.slice r.A r.l.length r.c) r.l.length (bvs r.l)
theorem flat4_append (a b : List RecV) : flat4 (a ++ b) = flat4 a ++ flat4 b := by simp [flat4]
theorem flat4_one (L : List RecV) : ∀ u ∈ flat4 L, u.oneCell' = true := by
  intro u hu
  simp only [flat4, List.mem_flatMap] at hu
  obtain ⟨e, _, hu⟩ := hu
  simp only [RecV.cells, List.mem_cons, List.not_mem_nil, or_false] at hu
  rcases hu with rfl | rfl | rfl | rfl <;> rfl
theorem encs_cons (r : RecV) (L : List RecV) : encs (r :: L) = r.enc ++ encs L := rfl
/-- an address lies in a row of bytes -/
def BT (w : World) (A : Option Addr) : Prop := ∀ b, A = some b → ∃ cur, Blk w b.block 5 cur
theorem BT.of_own {w : World} {B n c sz : Nat} {A : Option Addr} {xs : List Value} (h : w.ownsRow B 5 sz (.slice A n c) n xs) : BT w A := fun b hb => by
  subst hb
  rcases h.2 with ⟨h0, _⟩ | ⟨g, cap, cur, hv, _, hh, _⟩
  · cases h0
  · simp only [Value.slice.injEq, Option.some.injEq] at hv
    obtain ⟨rfl, _⟩ := hv
    exact ⟨cur, hh⟩
theorem BT.tch {w w' : World} {A : Option Addr} {S : Nat → Prop} (h : BT w A) (ht : Tch w.heap.size S w w') (hS : ∀ g cur, Blk w g 5 cur → ¬ S g) : BT w' A := fun b hb => by
  obtain ⟨cur, hB⟩ := h b hb
  exact ⟨cur, hB.tch ht hB.lt (hS _ _ hB)⟩
theorem BT.below {w w' : World} {A : Option Addr} (h : BT w A) (hb : Below w.heap.size w w') : BT w' A := h.tch (Tch.of_below (S := fun _ => False) hb) (fun _ _ _ h => h)
theorem BT.slA {w : World} {A : Option Addr} {c l : Nat} (h : BT w A) : BT w (slA A c l) := fun b hb => by
  unfold Go.Proofs.YthmkgohfeahdhaaGreat.slA at hb
  split at hb
  · exact h b hb
  · cases A with
    | none => cases hb
    | some a =>
      simp only [Option.map_some, Option.some.injEq] at hb
      obtain ⟨cur, hB⟩ := h a rfl
      have : b.block = a.block := by rw [← hb]; unfold Addr.add; split <;> rfl
      rw [this]
      exact ⟨cur, hB⟩
theorem Rd.keepT {w w' : World} {B n : Nat} {A : Option Addr} {xs : List Value} {S : Nat → Prop} (h : Rd w B 1 A n xs) (hA : BT w A) (ht : Tch w.heap.size S w w') (hS : ∀ g cur, Blk w g 5 cur → ¬ S g) : Rd w' w'.heap.size 1 A n xs :=
  ⟨h.1, fun hn => by
    obtain ⟨b, o, e, hb, hc⟩ := h.2 hn
    obtain ⟨cur, hB⟩ := hA _ e
    refine ⟨b, o, e, Nat.lt_of_lt_of_le hB.lt ht.size, fun j u hu => ?_⟩
    exact (World.cell?_of_block (w := w) (a := ⟨b, o + j, none⟩) (ht.block b hB.lt (hS _ _ hB))).trans (hc j u hu)⟩
/-- what a list of records is -/
def ListR (w w' : World) (i : Ids) (s : Sto) (gg : Nat) (g : GeoN) (lab : Int) (G : GS) (rs rs' : List RecV) (Ao : Option Addr) (co : Nat) : Prop :=
  rs'.map RecV.core = rs.map RecV.core ∧ w'.ownsRow w.heap.size 51 4 (.slice Ao rs.length co) rs.length (flat4 rs') ∧ (∀ r ∈ rs', r.Own w') ∧ GAt w' i s gg g lab G ∧ Tch w.heap.size i.own w w'
section
variable {w w' : World} {i : Ids} {s : Sto} {gg : Nat} {g : GeoN} {lab : Int} {G : GS}
set_option maxRecDepth 100000 in
set_option maxHeartbeats 4000000 in
theorem alist_ok {sz : Nat} {rs : List RecV} {κ : Nat → Nat} (h : GAt w i s gg g lab G) (h2 : 3 ≤ g.nodes) (hk : (G.nd 3).kind ≠ 0) (hl : (encs rs).length = sz) (hsz : (G.nd 3).size.toNat = sz)
    (hf : FileAt G g.blocks (G.nd 3) (blks sz) κ sz (fun j => (encs rs).getD j 0)) (hlen : sz ≤ 16384) (hr : ∀ r ∈ rs, r.Ok ∧ r.l.length ≤ 128) (hrn : rs.length ≤ 1000) :
    Calls Tryz.prog 27 #[.pointer (some ⟨gg, 0, none⟩)] w fun e w' => ∃ Ao co rs', e = .returned (.tuple #[.slice Ao rs.length co, .int .i64 0]) ∧ ListR w w' i s gg g lab G rs rs' Ao co := by
  have hdir := h.gok.dir 3
  have hnd := gs_node' h (show 1 ≤ 3 by omega) h2
  rw [show ((3 : Nat) : Int) = 3 from rfl] at hnd
  obtain ⟨n0, hn0⟩ : ∃ n0, G.nd 3 = n0 := ⟨_, rfl⟩
  rw [hn0] at hnd hdir
  have H := hide h
  have HND := hide hnd
  have HN0 := hide hn0
  have HD := hide hdir
  have HK := hide (And.intro h2 (And.intro hk (And.intro hl hsz)))
  have HF := hide hf
  have HR := hide (And.intro hr hrn)
  have HL := hide hlen
  clear h hnd hn0 hdir h2 hk hl hf hr hrn
  obtain ⟨z0, hz0, z1, z2, z3⟩ := info_rec
  have HZ := hide (And.intro hz0 (And.intro z1 (And.intro z2 z3)))
  clear hz0 z1 z2 z3
  go_enter Tryz.func27, Tryz.ntmps27
  go_wp2_with fail
  refine HND.out.mono ?_
  rintro e w1 ⟨rfl, ha1, ht1⟩
  have HA1 := hide ha1
  have HT1 := hide ht1
  clear ha1 ht1 HND
  go_upto_region 2 with (first | ((with_reducible refine at_alloc 130 ?_); refine wpList_alloc_as rfl 130 rfl _ (zero_node _) ?_) | ((with_reducible refine at_store 130 (.tmp 4) (.tmp 14) ?_); refine wpList_store_blk rfl 130 (.tmp 4) (.tmp 14) rfl w1.heap.size _ _ _ (by rfl) (by rfl) (Blk.new _ _ _) (size_nodeOf HD.out) (by rw [List.size_toArray, List.size_toArray, NodeV.cells_length HD.out]; rfl) (NodeV.cells_one _) (fun _ => ?_)) | fail)
  refine at_world (fun W => ∃ q, q = w1.heap.size ∧ Below w1.heap.size w1 W ∧ Blk W q 130 n0.cells.toArray) ⟨_, rfl, below_setRow ((Below.refl _ _).alloc (Nat.le_refl _) _) (Nat.le_refl _) _, (Blk.new _ _ _).setRow_same _⟩ (fun w2 hw2 => ?_)
  obtain ⟨q, hq, hb2, hQ2⟩ := hw2
  rw [← hq]
  have HA2 := hide (HA1.out.below hb2)
  have HT2 := hide (HT1.out.trans ((Tch.of_below hb2).mono HT1.out.size fun _ _ h => h))
  have q3 := (hQ2.cell 3).trans (node_cells_at n0).2.2.2
  have ql := hQ2.lt
  have hsz2 : n0.size.toNat = sz := by rw [← HN0.out]; exact HK.out.2.2.2
  rw [hsz2] at q3
  have e1 : IntKind.i64.wrap (sz : Int) = (sz : Int) := IntWalk.i64_in _ (by omega)
  have hrd := read_file (num := 3) (off := 0) (many := sz) (en := sz) (c := blks sz) (sz := sz) (κ := κ) (f := fun j => (encs rs).getD j 0) HA2.out (by omega) HK.out.1 HK.out.2.1 HK.out.2.2.2 HF.out (by omega) (by omega) HL.out (by have := HL.out; omega)
  have hmap : (List.range sz).map (fun k => (encs rs).getD (0 + k) 0) = encs rs := by
    have hlen := HK.out.2.2.1
    apply List.ext_getElem?
    intro j
    rw [List.getElem?_map]
    by_cases hj : j < sz
    · rw [List.getElem?_range hj, List.getElem?_eq_getElem (by rw [hlen]; exact hj), Option.map_some, List.getD_eq_getElem?_getD, Nat.zero_add, List.getElem?_eq_getElem (by rw [hlen]; exact hj)]
      rfl
    · rw [List.getElem?_eq_none (by simpa using hj), List.getElem?_eq_none (by rw [hlen]; omega)]
      rfl
  rw [Nat.sub_zero, hmap, show ((3 : Nat) : Int) = 3 from rfl, show ((0 : Nat) : Int) = 0 from rfl] at hrd
  have HRD := hide hrd
  clear hq hb2 hQ2 hsz2 hmap hrd hsz hlen HA1 HT1
  go_wp2_with fail
  refine HRD.out.mono ?_
  rintro e w3 ⟨A3, c3, rfl, hr3, ha3, ht3, -, hc3, hown3⟩
  have HBT3 := hide (BT.of_own hown3)
  have HA3 := hide ha3
  have HT3 := hide (HT2.out.trans (ht3.mono HT2.out.size fun _ _ h => h))
  have HR3 := hide (And.intro hr3 hc3)
  clear hr3 ha3 ht3 hc3 hown3 HRD HA2 HT2 q3 ql e1
  go_upto_region 8 with (fail)
  go_loopg [6, 7] rs.length (fun gh x6 x7 wr => ∃ (k nb cb : Nat) (Ab Ao : Option Addr) (co : Nat) (rs' : List RecV), k ≤ rs.length ∧ gh = rs.length - k ∧ x6 = .slice Ab nb cb ∧ x7 = .slice Ao k co ∧ Hid (GAt wr i s gg g lab G) ∧ Hid (Tch w.heap.size i.own w wr) ∧ Hid (Rd wr wr.heap.size 1 Ab nb (bvs (encs (rs.drop k))) ∧ nb ≤ cb) ∧ Hid (BT wr Ab) ∧
      Hid (wr.ownsRow w.heap.size 51 4 (.slice Ao k co) k (flat4 rs')) ∧ Hid (rs'.length = k ∧ rs'.map RecV.core = (rs.take k).map RecV.core ∧ ∀ r ∈ rs', r.Own wr))
  case atStart => exact ⟨0, sz, c3, A3, none, 0, [], Nat.zero_le _, rfl, rfl, rfl, HA3, HT3, HR3, HBT3, hide (World.ownsRow_nil _ _ _ _), hide ⟨rfl, rfl, fun r hr => by cases hr⟩⟩
  case round =>
    clear HA3 HT3 HR3 HBT3
    obtain ⟨k, nb, cb, Ab, Ao, co, rs', hk, hgh, rfl, rfl, HA, HT, HB, HBT, HO, HS⟩ := hrel
    have HGH := hide hgh
    clear hgh
    have hbl : (encs (rs.drop k)).length = nb := by have := HB.out.1.1; rw [bvs_length] at this; omega
    rcases Nat.lt_or_ge k rs.length with hlt | hge
    · obtain ⟨r, hrk⟩ : ∃ r, rs[k]? = some r := ⟨_, List.getElem?_eq_getElem hlt⟩
      have hdrop : rs.drop k = r :: rs.drop (k + 1) := by
        rw [List.drop_eq_getElem_cons hlt]
        rw [List.getElem?_eq_getElem hlt] at hrk
        rw [Option.some.inj hrk]
      obtain ⟨hrok, hr128⟩ := HR.out.1 r (List.mem_of_getElem? hrk)
      have hB := HB.out.1
      rw [hdrop, encs_cons] at hB hbl
      rw [List.length_append, enc_length] at hbl
      have hnb : 7 ≤ nb ∧ nb ≤ 16384 + 7 := by
        have := HK.out.2.2.1
        have h2 : (encs (rs.drop k)).length ≤ (encs rs).length := by
          have h3 : encs rs = encs (rs.take k) ++ encs (rs.drop k) := by rw [← encs_append, List.take_append_drop]
          rw [h3, List.length_append]; omega
        rw [hdrop, encs_cons, List.length_append, enc_length] at h2
        have := HL.out
        omega
      have t1 : decide ((0 : Int) < (nb : Int)) = true := by simp; omega
      have t1' : (0 : Int) < (nb : Int) := by omega
      have hdec := au_decode_enc r.s r.f r.t r.l (encs (rs.drop (k + 1))) Ab nb cb wr hrok.s hrok.f hrok.t hr128 hB (by omega) HB.out.2
      have HDEC := hide hdec
      have HRK := hide (And.intro hrk (And.intro hbl (And.intro hB hr128)))
      have HLT := hide hlt
      clear hdec hB hbl hnb hdrop hrok hr128 hrk hlt
      go_wp2_with fail
      refine HDEC.out.mono ?_
      rintro e w4 ⟨A4, c4, rfl, hown4, hb4⟩
      obtain ⟨nl, hnl⟩ : ∃ nl, r.l.length = nl := ⟨_, rfl⟩
      rw [hnl] at hown4 ⊢
      have HA4 := hide (HA.out.below hb4)
      have HT4 := hide (HT.out.trans ((Tch.of_below hb4).mono HT.out.size fun _ _ h => h))
      have HO4 := hide (own_below HO.out hb4)
      have HW4 := hide (own_mono hown4 (Nat.zero_le _))
      have HS4 := hide (show ∀ r ∈ rs', r.Own w4 from fun r hr => own_below (HS.out.2.2 r hr) hb4)
      have HB4 := hide ((HRK.out.2.2.1.below hb4).more hb4.size)
      have HNL := hide hnl
      have HBT4 := hide (HBT.out.below hb4)
      clear hown4 hb4 hnl HDEC HA HT HO HBT
      obtain ⟨r4, hr4⟩ : ∃ r4 : RecV, (⟨r.s, r.f, r.t, A4, r.l, c4⟩ : RecV) = r4 := ⟨_, rfl⟩
      have hcs4 : #[Value.int .u32 (r.s : Int), .int .u8 (r.f : Int), .int .u8 (r.t : Int), .slice A4 nl c4] = r4.cells.toArray := by rw [← hr4, ← HNL.out]; rfl
      have HR4 := hide (And.intro hr4 hcs4)
      clear hr4 hcs4
      go_upto_region 10 with (fail)
      refine at_world (fun W => ∃ q, q = w4.heap.size ∧ Below w4.heap.size w4 W ∧ Blk W q 51 #[.int .u32 (r.s : Int), .int .u8 (r.f : Int), .int .u8 (r.t : Int), .slice A4 nl c4]) ⟨_, rfl, (Below.refl _ _).alloc (Nat.le_refl _) _, Blk.new _ _ _⟩ (fun w5 hw5 => ?_)
      obtain ⟨q, hq, hb5, hQ5⟩ := hw5
      rw [← hq]
      have HA5 := hide (HA4.out.below hb5)
      have HT5 := hide (HT4.out.trans ((Tch.of_below hb5).mono HT4.out.size fun _ _ h => h))
      have HO5 := hide (own_below HO4.out hb5)
      have HW5 := hide (own_below HW4.out hb5)
      have HS5 := hide (show ∀ r ∈ rs', r.Own w5 from fun r hr => own_below (HS4.out r hr) hb5)
      have HB5 := hide ((HB4.out.below hb5).more hb5.size)
      have HQ5 := hide hQ5
      have HBT5 := hide (HBT4.out.below hb5)
      have HGQ := hide (show ∀ g, (Value.slice Ao k co).ownBlock = some g → g ≠ q from fun g hg => by have := (own_block_ge HO4.out hg).2; omega)
      have hlo : 7 + nl ≤ nb := by have := HRK.out.2.1; rw [HNL.out] at this; omega
      have HLO := hide hlo
      have hnlz : (nl : Int) ≤ 128 := by have := HRK.out.2.2.2; rw [HNL.out] at this; omega
      have e5 : IntKind.i64.wrap (7 + (nl : Int)) = ((7 + nl : Nat) : Int) := by rw [IntWalk.i64_in _ (by omega)]; omega
      have e6 : (7 + (nl : Int)) = ((7 + nl : Nat) : Int) := by omega
      obtain ⟨lo, hlo2⟩ : ∃ lo, 7 + nl = lo := ⟨_, rfl⟩
      rw [hlo2] at e5 e6
      rw [e6]
      have HLO2 := hide hlo2
      have hlz : (lo : Int) ≤ 135 := by omega
      clear hq hb5 hQ5 HA4 HT4 HO4 HW4 HS4 HB4 hlo hlo2 e6
      go_upto_region 12 with (fail)
      refine wp_region_ord [0, 1, 4, 5, 6, 2, 3, 7, 8] [0, 0, 0, 0, 0, 1, 1, 0, 0] (fun W => Blk W q 51 #[.int .u32 (r.s : Int), .int .u8 (r.f : Int), .int .u8 (r.t : Int), .slice A4 nl c4]) (by kernel_rfl) (by kernel_rfl) HQ5.out.drew ?_
      iterate 1 (refine wpOrd_q (v := ?_) (by rfl) (fun W hW => ?_) ?_; rotate_left; (focus (go_simp; try with_reducible rfl)); try simp only [Act.put, List.setIfInBounds_toArray, List.set_cons_zero, List.set_cons_succ])
      refine wpOrd_q (v := .agg #[.int .u32 (r.s : Int), .int .u8 (r.f : Int), .int .u8 (r.t : Int), .slice A4 nl c4]) (by rfl) (fun W hW => exec_load_blk 51 (.tmp 8) rfl q _ _ _ rfl hW Tryz.underlying51 rfl size_rec0) ?_
      try simp only [Act.put, List.setIfInBounds_toArray, List.set_cons_zero, List.set_cons_succ]
      iterate 2 (refine wpOrd_q (v := ?_) (by rfl) (fun W hW => ?_) ?_; rotate_left; (focus (go_simp; try with_reducible rfl)); try simp only [Act.put, List.setIfInBounds_toArray, List.set_cons_zero, List.set_cons_succ])
      refine wpOrd_q (v := .slice (slA Ab cb lo) (nb - lo) (cb - lo)) (by rfl) (fun W hW => exec_slice_from 24 5 (.tmp 46) (.tmp 47) rfl Ab nb cb lo .i64 rfl rfl Tryz.underlying24 (by kernel_rfl) (by have := HLO.out; have := HLO2.out; omega)) ?_
      try simp only [Act.put, List.setIfInBounds_toArray, List.set_cons_zero, List.set_cons_succ]
      refine at_world (fun W => Below w5.heap.size w5 W) (Below.refl _ _).drew (fun w6 hb6 => ?_)
      have HA6 := hide (HA5.out.below hb6)
      have HT6 := hide (HT5.out.trans ((Tch.of_below hb6).mono HT5.out.size fun _ _ h => h))
      have HO6 := hide (own_below HO5.out hb6)
      have HW6 := hide (own_below HW5.out hb6)
      have HS6 := hide (show ∀ r ∈ rs', r.Own w6 from fun r hr => own_below (HS5.out r hr) hb6)
      have HB6 := hide ((HB5.out.below hb6).more hb6.size)
      have HQ6 := hide (HQ5.out.below hb6 HQ5.out.lt)
      have HBT6 := hide (HBT5.out.below hb6)
      clear hb6 HA5 HT5 HO5 HW5 HS5 HB5 HQ5
      refine wpOrd_x (by rfl) (fun KK hKK => ?_)
      go_simp
      refine hKK _ _ _ (fun _ h => h) (HQ6.out.alloc _) ?_
      clear hKK KK
      try simp only [Act.put, List.setIfInBounds_toArray, List.set_cons_zero, List.set_cons_succ]
      refine at_world (fun W => ∃ tb, tb = w6.heap.size ∧ Below w6.heap.size w6 W ∧ W.ownsRow 0 51 4 (.slice (some ⟨tb, 0, none⟩) 1 1) 1 [.int .u32 (r.s : Int), .int .u8 (r.f : Int), .int .u8 (r.t : Int), .slice A4 nl c4]) ⟨_, rfl, (Below.refl _ _).alloc (Nat.le_refl _) _, own_lit rfl rfl (Nat.zero_le _) (by simp [maxLen]) rfl⟩ (fun w7 h7 => ?_)
      obtain ⟨tb, htb, hb7, hlit⟩ := h7
      rw [← htb]
      have HA7 := hide (HA6.out.below hb7)
      have HT7 := hide (HT6.out.trans ((Tch.of_below hb7).mono HT6.out.size fun _ _ h => h))
      have HO7 := hide (own_below HO6.out hb7)
      have HW7 := hide (own_below HW6.out hb7)
      have HS7 := hide (show ∀ r ∈ rs', r.Own w7 from fun r hr => own_below (HS6.out r hr) hb7)
      have HB7 := hide ((HB6.out.below hb7).more hb7.size)
      have HQ7 := hide (HQ6.out.below hb7 HQ6.out.lt)
      have HLIT := hide hlit
      have HBT7 := hide (HBT6.out.below hb7)
      clear hb7 hlit htb HA6 HT6 HO6 HW6 HS6 HB6 HQ6
      refine wpOrd_x (by rfl) (fun KK hKK => ?_)
      have hk1000 : k ≤ 1000 := by have := HR.out.2; have := HLT.out; omega
      refine wp_append_rd w7 (.tmp 42) (.tmp 44) 27 (by rfl) w.heap.size 51 z0 (.agg rec0) 4 32 Tryz.underlying27 HZ.out.1 HZ.out.2.1 HZ.out.2.2.1 HZ.out.2.2.2 rfl (by decide) (.slice Ao k co) k (flat4 rs') (by rfl) HO7.out w7.heap.size (some ⟨tb, 0, none⟩) 1 1 _ (by rfl) (Rd.of_own HLIT.out) (by simp [Value.oneCell']) (by simp only [maxLen]; omega) (by omega) HT7.out.size ?_
      intro v9 w8 hown hg9 _ hat
      obtain ⟨Ao', co', rfl, _, _, _⟩ := own_form hown
      have htg : Tch w7.heap.size (fun g => (Value.slice Ao k co).ownBlock = some g) w7 w8 := Tch.grown hg9 (Nat.le_refl _) (fun g hg _ => hg)
      have hown_ge : ∀ g, (Value.slice Ao k co).ownBlock = some g → w.heap.size ≤ g := fun g hg => (own_block_ge HO7.out hg).1
      have hq8 : Blk w8 q 51 #[.int .u32 (r.s : Int), .int .u8 (r.f : Int), .int .u8 (r.t : Int), .slice A4 nl c4] := HQ7.out.grown hg9 (fun e => HGQ.out q e.symm rfl)
      refine hKK _ _ _ (fun _ h => h) hq8 ?_
      clear hKK KK
      try simp only [Act.put, List.setIfInBounds_toArray, List.set_cons_zero, List.set_cons_succ]
      have hav : ∀ (t : TypeId) g cur, t ≠ 51 → Blk w7 g t cur → ¬ (Value.slice Ao k co).ownBlock = some g := fun t g cur ht hB => row_not_blk HO7.out hB ht
      have hll := H.out.tx.log.log.lt
      have hgg := H.out.gp.lt
      have HA8 := hide (HA7.out.apart htg (fun g hg => ⟨fun ho => H.out.tx.other_new (hown_ge g hg) ho, by have := hown_ge g hg; omega, by have := hown_ge g hg; omega⟩))
      have HT8 := hide (HT7.out.trans (htg.mono HT7.out.size (fun g hk hg => by have := hown_ge g hg; omega)))
      have HS8 := hide (show ∀ r ∈ rs', r.Own w8 from fun r hr => own_from (HS7.out r hr) htg (fun g cur hB => hav _ g cur (by decide) hB))
      have HW8 := hide (own_from HW7.out htg (fun g cur hB => hav _ g cur (by decide) hB))
      have hpart := HB7.out.part HB.out.2 (lo := lo) (hi := nb) (by have := HLO.out; have := HLO2.out; omega) (Nat.le_refl _)
      have hdr : ((r.enc ++ encs (rs.drop (k + 1))).drop lo).take (nb - lo) = encs (rs.drop (k + 1)) := by
        have hel : r.enc.length = lo := by rw [enc_length, HNL.out]; exact HLO2.out
        rw [← hel, List.drop_left, List.take_of_length_le]
        have := HRK.out.2.1
        rw [HNL.out] at this
        have := HLO2.out
        omega
      have hpart2 : Rd w7 w7.heap.size 1 (slA Ab cb lo) (nb - lo) (bvs (encs (rs.drop (k + 1)))) := by rw [← hdr]; exact hpart
      have HB8 := hide (And.intro (hpart2.keepT HBT7.out.slA htg (fun g cur hB => hav _ g cur (by decide) hB)) (show nb - lo ≤ cb - lo from by have := HB.out.2; omega))
      have HBT8 := hide (HBT7.out.slA.tch htg (fun g cur hB => hav _ g cur (by decide) hB) (A := slA Ab cb lo))
      have hfl : flat4 rs' ++ [.int .u32 (r.s : Int), .int .u8 (r.f : Int), .int .u8 (r.t : Int), .slice A4 nl c4] = flat4 (rs' ++ [r4]) := by
        rw [flat4_append]
        congr 1
        have := HR4.out.2
        have h2 : flat4 [r4] = r4.cells := by simp [flat4]
        rw [h2]
        exact congrArg Array.toList this
      rw [hfl] at hown
      have HO8 := hide hown
      have hcore : (rs' ++ [r4]).map RecV.core = (rs.take (k + 1)).map RecV.core := by
        rw [List.map_append, HS.out.2.1, List.take_add_one, HRK.out.1, List.map_append]
        simp [← HR4.out.1, RecV.core]
      have HC8 := hide (And.intro (show (rs' ++ [r4]).length = k + 1 by rw [List.length_append, HS.out.1]; rfl) hcore)
      have HF8 := hide (show ∀ x ∈ rs' ++ [r4], x.Own w8 from fun x hx => by
        rcases List.mem_append.1 hx with hx | hx
        · exact HS8.out x hx
        · rw [List.mem_singleton.1 hx]
          have := HW8.out
          rw [← HNL.out] at this
          rw [← HR4.out.1]
          exact this)
      clear hown hg9 hat htg hown_ge hq8 hav hll hgg hpart hdr hpart2 hfl hcore HS8 HW8 HA7 HT7 HO7 HW7 HS7 HB7 HQ7 HLIT HBT7
      iterate 2 (refine wpOrd_q (v := ?_) (by rfl) (fun W hW => ?_) ?_; rotate_left; (focus (go_simp; try with_reducible rfl)); try simp only [Act.put, List.setIfInBounds_toArray, List.set_cons_zero, List.set_cons_succ])
      refine wpOrd_nil ?_
      go_wp2
      go_roundg (rs.length - (k + 1))
      case rel => exact ⟨k + 1, nb - lo, cb - lo, slA Ab cb lo, Ao', co', rs' ++ [r4], by have := HLT.out; omega, rfl, rfl, rfl, HA8, HT8, HB8, HBT8, HO8, hide ⟨HC8.out.1, HC8.out.2, HF8.out⟩⟩
      case measure => have := HGH.out; have := HLT.out; omega
    · have hkn : k = rs.length := by omega
      have hnb : nb = 0 := by
        rw [List.drop_of_length_le hge] at hbl
        exact hbl.symm
      subst hnb
      have hco := HS.out.2.1
      rw [hkn, List.take_length] at hco
      have HC := hide hco
      subst hkn
      clear hbl hge hk hco
      go_wp2
      go_returns
      exact ⟨Ao, co, rs', rfl, HC.out, HO.out, HS.out.2.2, HA.out, HT.out⟩
end
end Go.Proofs.YthmkgohfeahdhaaGreat
namespace Go.Proofs.YthmkgohfeahdhaaGreat
open Go.RowKit
set_option linter.unusedSimpArgs false
set_option linter.unusedVariables false

theorem rec_range {w : World} {B n co : Nat} {Ao : Option Addr} {L : List RecV} (h : w.ownsRow B 51 4 (.slice Ao n co) n (flat4 L)) (hn : 0 < n) : ∃ g, Ao = some ⟨g, 0, none⟩ ∧ g < w.heap.size ∧ ∀ (k : Nat) (r : RecV), L[k]? = some r → w.rangeAt g (k * 4) r.cells := by
  obtain ⟨g, hA, _, hlt, hc⟩ := own_base h hn
  refine ⟨g, hA, hlt, fun k r hk j v hj => ?_⟩
  have hj4 : j < 4 := by have := (List.getElem?_eq_some_iff.1 hj).1; simpa [RecV.cells] using this
  have := flat4_get hk hj4
  exact hc _ _ (this.trans hj)
section
variable {w w' : World} {i : Ids} {s : Sto} {gg : Nat} {g : GeoN} {lab : Int} {G : GS}
set_option maxRecDepth 100000 in
set_option maxHeartbeats 1000000 in
theorem afind_in {rs : List RecV} {k : Nat} {r : RecV} (h : GAt w i s gg g lab G) (hl : ∀ W, GAt W i s gg g lab G → Calls Tryz.prog 27 #[.pointer (some ⟨gg, 0, none⟩)] W fun e w' => ∃ Ao co rs', e = .returned (.tuple #[.slice Ao rs.length co, .int .i64 0]) ∧ ListR W w' i s gg g lab G rs rs' Ao co)
    (hk : rs[k]? = some r) (hrn : rs.length ≤ 1000) :
    Calls Tryz.prog 28 #[.pointer (some ⟨gg, 0, none⟩), .int .i64 (k : Int)] w fun e w' => ∃ r' : RecV, e = .returned (.tuple #[.agg r'.cells.toArray, .int .i64 0]) ∧ r'.core = r.core ∧ r'.Own w' ∧ GAt w' i s gg g lab G ∧ Tch w.heap.size i.own w w' := by
  have hkl : k < rs.length := (List.getElem?_eq_some_iff.1 hk).1
  have H := hide h
  have HL := hide hl
  have HK := hide (And.intro hk hrn)
  obtain ⟨n, hn⟩ : ∃ n, rs.length = n := ⟨_, rfl⟩
  have HN := hide hn
  rw [hn] at hkl
  clear h hl hk hrn hn
  go_enter Tryz.func28, Tryz.ntmps28
  go_upto_region 1 with (first | ((with_reducible refine at_alloc 51 ?_); refine wpList_alloc_as rfl 51 rfl _ (zero_rec _) ?_) | fail)
  refine at_world (fun W => ∃ p, p = w.heap.size ∧ Below w.heap.size w W ∧ Blk W p 51 rec0) ⟨_, rfl, (Below.refl _ _).alloc (Nat.le_refl _) _, Blk.new _ _ _⟩ (fun w1 hw1 => ?_)
  obtain ⟨p, hp, hb1, hP⟩ := hw1
  rw [← hp]
  have HPO := hide (show ¬ i.own p from H.out.tx.other_new (Nat.le_of_eq hp.symm))
  have HPW := hide (show w.heap.size ≤ p from Nat.le_of_eq hp.symm)
  have HB := hide (And.intro hb1 hP)
  have HA1 := hide (H.out.below hb1)
  clear hp hb1 hP
  go_wp2_with fail
  refine (HL.out w1 HA1.out).mono ?_
  rintro e w2 ⟨Ao, co, rs', rfl, hco, hown, hrs, ha2, ht2⟩
  rw [HN.out] at hown ⊢
  have HP2 := hide (HB.out.2.tch ht2 HB.out.2.lt HPO.out)
  have HT2 := hide ((Tch.of_below (S := i.own) HB.out.1).trans (ht2.mono HB.out.1.size fun _ _ h => h))
  have HA2 := hide ha2
  obtain ⟨gr, rfl, hgl, hrg⟩ := rec_range hown (by omega)
  have hlen : rs'.length = n := by have := congrArg List.length hco; simpa [HN.out] using this
  obtain ⟨r', hr'⟩ : ∃ r', rs'[k]? = some r' := ⟨_, List.getElem?_eq_getElem (by rw [hlen]; exact hkl)⟩
  have hcr : r'.core = r.core := by
    have h1 : (rs'.map RecV.core)[k]? = some r'.core := by rw [List.getElem?_map, hr']; rfl
    have h2 : (rs.map RecV.core)[k]? = some r.core := by rw [List.getElem?_map, HK.out.1]; rfl
    rw [hco, h2] at h1
    exact (Option.some.inj h1).symm
  have HRG := hide (hrg k r' hr')
  have HF := hide (And.intro hcr (hrs r' (List.mem_of_getElem? hr')))
  have t1 : decide ((k : Int) < 0) = false := by simp
  have t2 : decide (n ≤ k) = false := by simp; omega
  have t2' : decide ((n : Int) ≤ (k : Int)) = false := by simp; omega
  have hkz : (k : Int) < (n : Int) := by omega
  clear hco hown hrs ha2 ht2 hrg hlen hr' hcr HB HA1
  go_wp2_with (first | ((with_reducible refine at_load 51 (.tmp 30) ?_); refine wpList_load_mid rfl 51 (.tmp 30) rfl gr (k * 4) (by rfl) r'.cells _ HRG.out Tryz.underlying51 rfl (size_rec r') ?_) | ((with_reducible refine at_store 51 (.tmp 4) (.tmp 31) ?_); refine wpList_store_blk rfl 51 (.tmp 4) (.tmp 31) rfl p _ _ _ (by rfl) (by rfl) HP2.out (size_rec r') rfl (rec_one r') (fun hB3 => ?_)) | ((with_reducible refine at_end ?_); refine bodyPost_ret (v := .tuple #[.agg r'.cells.toArray, .int .i64 0]) (results_run2 rfl (ResV.row rfl hB3 Tryz.underlying51 rfl (size_rec r')) rfl) rfl ⟨r', rfl, HF.out.1, ?_, ?_, HT2.out.trans (Tch.setRow fun hlt => absurd hlt (by have := HPW.out; omega))⟩) | fail)
  · have ht : Tch w2.heap.size (· = p) w2 (w2.setRow p r'.cells.toArray) := Tch.setRow fun _ => rfl
    exact own_from HF.out.2 ht (fun g cur hB e => by subst e; exact HP2.out.ne hB (by decide) rfl)
  · have ht : Tch w2.heap.size (· = p) w2 (w2.setRow p r'.cells.toArray) := Tch.setRow fun _ => rfl
    exact HA2.out.apart ht (fun k hk => by subst hk; exact ⟨HPO.out, HP2.out.ne HA2.out.tx.log.log (by decide), HP2.out.ne HA2.out.gp (by decide)⟩)
set_option maxRecDepth 100000 in
set_option maxHeartbeats 1000000 in
theorem afind_out {rs : List RecV} {k : Int} (h : GAt w i s gg g lab G) (hl : ∀ W, GAt W i s gg g lab G → Calls Tryz.prog 27 #[.pointer (some ⟨gg, 0, none⟩)] W fun e w' => ∃ Ao co rs', e = .returned (.tuple #[.slice Ao rs.length co, .int .i64 0]) ∧ ListR W w' i s gg g lab G rs rs' Ao co)
    (hk : k < 0 ∨ (rs.length : Int) ≤ k) :
    Calls Tryz.prog 28 #[.pointer (some ⟨gg, 0, none⟩), .int .i64 k] w fun e w' => e = .returned (.tuple #[.agg rec0, .int .i64 3]) ∧ GAt w' i s gg g lab G ∧ Tch w.heap.size i.own w w' := by
  have H := hide h
  have HL := hide hl
  obtain ⟨n, hn⟩ : ∃ n, rs.length = n := ⟨_, rfl⟩
  have HN := hide hn
  rw [hn] at hk
  clear h hl hn
  go_enter Tryz.func28, Tryz.ntmps28
  go_upto_region 1 with (first | ((with_reducible refine at_alloc 51 ?_); refine wpList_alloc_as rfl 51 rfl _ (zero_rec _) ?_) | fail)
  refine at_world (fun W => ∃ p, p = w.heap.size ∧ Below w.heap.size w W ∧ Blk W p 51 rec0) ⟨_, rfl, (Below.refl _ _).alloc (Nat.le_refl _) _, Blk.new _ _ _⟩ (fun w1 hw1 => ?_)
  obtain ⟨p, hp, hb1, hP⟩ := hw1
  rw [← hp]
  have HPO := hide (show ¬ i.own p from H.out.tx.other_new (Nat.le_of_eq hp.symm))
  have HPW := hide (show w.heap.size ≤ p from Nat.le_of_eq hp.symm)
  have HB := hide (And.intro hb1 hP)
  have HA1 := hide (H.out.below hb1)
  clear hp hb1 hP
  go_wp2_with fail
  refine (HL.out w1 HA1.out).mono ?_
  rintro e w2 ⟨Ao, co, rs', rfl, -, -, -, ha2, ht2⟩
  rw [HN.out]
  have HP2 := hide (HB.out.2.tch ht2 HB.out.2.lt HPO.out)
  have HT2 := hide ((Tch.of_below (S := i.own) HB.out.1).trans (ht2.mono HB.out.1.size fun _ _ h => h))
  have HA2 := hide ha2
  have HFA : Hid (∀ cs, GAt (w2.setRow p cs) i s gg g lab G) := hide (fun cs => by
    have ht : Tch w2.heap.size (· = p) w2 (w2.setRow p cs) := Tch.setRow fun _ => rfl
    exact HA2.out.apart ht (fun k hk => by subst hk; exact ⟨HPO.out, HP2.out.ne HA2.out.tx.log.log (by decide), HP2.out.ne HA2.out.gp (by decide)⟩))
  clear ha2 ht2 HB HA1
  by_cases h0 : k < 0
  · have t1 : decide (k < 0) = true := by simpa using h0
    clear hk h0
    go_wp2_with (first | ((with_reducible refine at_build 51 #[] ?_); refine wpList_zero_as rfl 51 rfl _ (build_rec _) ?_) | ((with_reducible refine at_store 51 (.tmp 4) (.tmp 27) ?_); refine wpList_store_blk rfl 51 (.tmp 4) (.tmp 27) rfl p _ _ _ (by rfl) (by rfl) HP2.out size_rec0 rfl rec0_one (fun hB3 => ?_)) | ((with_reducible refine at_end ?_); refine bodyPost_ret (v := .tuple #[.agg rec0, .int .i64 3]) (results_run2 rfl (ResV.row rfl hB3 Tryz.underlying51 rfl size_rec0) rfl) rfl ⟨rfl, HFA.out _, HT2.out.trans (Tch.setRow fun hlt => absurd hlt (by have := HPW.out; omega))⟩) | fail)
  · have t1 : decide (k < 0) = false := by simpa using h0
    have t2 : decide ((n : Int) ≤ k) = true := by simp; omega
    clear hk h0
    go_wp2_with (first | ((with_reducible refine at_build 51 #[] ?_); refine wpList_zero_as rfl 51 rfl _ (build_rec _) ?_) | ((with_reducible refine at_store 51 (.tmp 4) (.tmp 27) ?_); refine wpList_store_blk rfl 51 (.tmp 4) (.tmp 27) rfl p _ _ _ (by rfl) (by rfl) HP2.out size_rec0 rfl rec0_one (fun hB3 => ?_)) | ((with_reducible refine at_end ?_); refine bodyPost_ret (v := .tuple #[.agg rec0, .int .i64 3]) (results_run2 rfl (ResV.row rfl hB3 Tryz.underlying51 rfl size_rec0) rfl) rfl ⟨rfl, HFA.out _, HT2.out.trans (Tch.setRow fun hlt => absurd hlt (by have := HPW.out; omega))⟩) | fail)
end
end Go.Proofs.YthmkgohfeahdhaaGreat
namespace Go.Proofs.YthmkgohfeahdhaaGreat
open Go.RowKit
set_option linter.unusedSimpArgs false
set_option linter.unusedVariables false

set_option maxRecDepth 100000 in
set_option maxHeartbeats 800000 in
theorem awake27 (w : World) : Calls Tryz.prog 14 #[] w fun e w' => e = .returned (.bool true) ∧ Below w.heap.size w w' := by
  have kc := fun (w : World) (C : Array Value) (n c : Nat) => Lib.run_convert_bytes_const (P := Tryz.prog) w 24 5 C n c Tryz.underlying24 Tryz.underlying5
  go_enter Tryz.func14, Tryz.ntmps14
  go_wp2_with fail
  clear kc
  refine (au_encode_ok 3 1 0 (some ⟨w.heap.size, 0, none⟩) 1 1 [120] _ (by omega) (by omega) (by omega) (by omega) ((Rd.lit (w := w) (xs := bvs [120]) rfl rfl rfl rfl).more (by simp))).mono ?_
  rintro e w1 ⟨A', c', rfl, hown, hb⟩
  have k : (convert 24 9 (.slice A' (7 + 1) c')).run Tryz.prog w1 = .ok (.string ⟨#[3, 0, 0, 0, 1, 0, 1, 120]⟩) w1 := run_string_rd _ _ _ Tryz.underlying24 Tryz.underlying5 Tryz.underlying9 (Rd.of_own hown)
  go_wp2
  go_ret
  exact ⟨rfl, Below.trans ((Below.refl _ _).alloc (Nat.le_refl _) _) (hb.mono (by simp))⟩
/-- the document's nodes, those of a group of so many, the third one's bytes known; wherever they lie -/
def LCore (nodes : Nat) (l : List UInt8) : List RC := ((rnewL nodes).map RNd.core).set 3 ⟨1, 1, 1, l, []⟩
theorem LCore_start {nodes : Nat} (h : 3 ≤ nodes) : (rnewL nodes).map RNd.core = LCore nodes [] := by
  unfold LCore
  symm
  have h3 : ((rnewL nodes).map RNd.core)[3]? = some ⟨1, 1, 1, [], []⟩ := by
    unfold rnewL
    rw [List.getElem?_map, List.getElem?_set_self (by simp; omega)]
    rfl
  apply List.ext_getElem?
  intro j
  rw [List.getElem?_set]
  split
  · rename_i e; subst e
    rw [h3, if_pos (by rw [List.length_map, rnewL_length]; omega)]
  · rfl
theorem core_used {tn : Nat} {L L' : List RNd} (h : L.map RNd.core = L'.map RNd.core) : ∀ k, usedTo tn L k = usedTo tn L' k
  | 0 => rfl
  | k + 1 => by
    rw [usedTo, usedTo, core_used h k]
    congr 1
    split
    · rfl
    · have hk : (L[k]?).map RNd.core = (L'[k]?).map RNd.core := by
        have := congrArg (·[k]?) h
        simpa [List.getElem?_map] using this
      cases h1 : L[k]? with
      | none => rw [h1] at hk; cases h2 : L'[k]? with
        | none => rfl
        | some b => rw [h2] at hk; cases hk
      | some a => rw [h1] at hk; cases h2 : L'[k]? with
        | none => rw [h2] at hk; cases hk
        | some b =>
          rw [h2] at hk
          simp only [Option.map_some, Option.some.injEq, RNd.core, RC.mk.injEq] at hk
          simp only [useN, RNd.size]
          rw [hk.1, hk.2.2.2.1, hk.2.2.2.2]
theorem core_three {nodes : Nat} {l : List UInt8} {L : List RNd} (h : L.map RNd.core = LCore nodes l) (h3 : 3 ≤ nodes) : ∃ n, L[3]? = some n ∧ n.kind = 1 ∧ n.l = l ∧ n.links = 1 ∧ n.gen = 1 ∧ n.ps = [] := by
  have hk := congrArg (·[3]?) h
  simp only [List.getElem?_map, LCore] at hk
  rw [List.getElem?_set_self (by rw [List.length_map, rnewL_length]; omega)] at hk
  cases h1 : L[3]? with
  | none => rw [h1] at hk; cases hk
  | some a =>
    rw [h1] at hk
    simp only [Option.map_some, Option.some.injEq, RNd.core, RC.mk.injEq] at hk
    exact ⟨a, rfl, hk.1, hk.2.2.2.1, hk.2.1, hk.2.2.1, hk.2.2.2.2⟩
theorem core_len {nodes : Nat} {l : List UInt8} {L : List RNd} (h : L.map RNd.core = LCore nodes l) : L.length = nodes + 1 := by
  have := congrArg List.length h
  simpa [LCore, rnewL_length] using this
theorem core_put {nodes : Nat} {l l' : List UInt8} {L : List RNd} {n : RNd} {A' : Option Addr} {c' : Nat} (h : L.map RNd.core = LCore nodes l) (h3 : 3 ≤ nodes) (hn : L[3]? = some n) : (L.set 3 (n.with A' l' c')).map RNd.core = LCore nodes l' := by
  obtain ⟨n', hn', k1, k2, k3, k4, k5⟩ := core_three h h3
  rw [hn] at hn'
  cases hn'
  rw [List.map_set, h]
  unfold LCore
  rw [List.set_set]
  congr 1
  show RC.mk n.kind n.links n.gen l' n.ps = _
  rw [k1, k3, k4, k5]
theorem core_small {nodes : Nat} {l : List UInt8} {L : List RNd} (h : L.map RNd.core = LCore nodes l) (h128 : nodes ≤ 128) (hl : l.length ≤ 60000) : Small L := by
  refine ⟨by rw [core_len h]; omega, fun n hn => ?_⟩
  have : n.core ∈ LCore nodes l := by rw [← h]; exact List.mem_map_of_mem hn
  rcases List.mem_or_eq_of_mem_set this with hm | hm
  · obtain ⟨m, hm, e⟩ := List.mem_map.1 hm
    have hz : m.l = [] ∧ m.ps = [] := by
      unfold rnewL at hm
      rcases List.mem_or_eq_of_mem_set hm with hm | rfl
      · rcases List.mem_or_eq_of_mem_set hm with hm | rfl
        · rcases List.mem_or_eq_of_mem_set hm with hm | rfl
          · rw [(List.mem_replicate.1 hm).2]; exact ⟨rfl, rfl⟩
          · exact ⟨rfl, rfl⟩
        · exact ⟨rfl, rfl⟩
      · exact ⟨rfl, rfl⟩
    simp only [RNd.core, RC.mk.injEq] at e
    rw [← e.2.2.2.1, ← e.2.2.2.2, hz.1, hz.2]
    simp
  · simp only [RNd.core, RC.mk.injEq] at hm
    rw [hm.2.2.2.1, hm.2.2.2.2]
    exact ⟨hl, Nat.zero_le _⟩
theorem rnew_used {nodes : Nat} (h3 : 3 ≤ nodes) : ∀ k, usedTo 0 (rnewL nodes) k = 0
  | 0 => rfl
  | k + 1 => by
    rw [usedTo, rnew_used h3 k]
    split
    · rfl
    · cases h1 : (rnewL nodes)[k]? with
      | none => rfl
      | some a =>
        simp only
        have hm : a ∈ rnewL nodes := List.mem_of_getElem? h1
        have hz : a.l = [] ∧ a.ps = [] := by
          unfold rnewL at hm
          rcases List.mem_or_eq_of_mem_set hm with hm | rfl
          · rcases List.mem_or_eq_of_mem_set hm with hm | rfl
            · rcases List.mem_or_eq_of_mem_set hm with hm | rfl
              · rw [(List.mem_replicate.1 hm).2]; exact ⟨rfl, rfl⟩
              · exact ⟨rfl, rfl⟩
            · exact ⟨rfl, rfl⟩
          · exact ⟨rfl, rfl⟩
        unfold useN RNd.size
        rw [hz.1, hz.2]
        simp only [List.length_nil, Nat.mul_zero, ite_self]
        split <;> rfl
theorem core_need {nodes : Nat} {l : List UInt8} {L : List RNd} (h : L.map RNd.core = LCore nodes l) (h3 : 3 ≤ nodes) : usedTo 0 L L.length = need2 l.length := by
  have hs : (rnewL nodes)[3]? = some (RNd.own 1) := by unfold rnewL; rw [List.getElem?_set_self (by simp; omega)]
  have hc : L.map RNd.core = ((rnewL nodes).set 3 ((RNd.own 1).with none l 0)).map RNd.core := by
    rw [h]; exact (core_put (L := rnewL nodes) (LCore_start h3) h3 hs).symm
  rw [core_used hc]
  have hu := usedTo_set (tn := 0) (n' := (RNd.own 1).with none l 0) (by omega) hs L.length
  rw [core_len h, if_pos (by omega), if_pos (by omega), rnew_used h3] at hu
  rw [core_len h]
  have h2 : useN 0 3 (RNd.own 1) = 0 := by decide
  have h4 : useN 0 3 ((RNd.own 1).with none l 0) = need2 l.length := by
    unfold useN
    rw [if_neg (show ¬ ((RNd.own 1).with none l 0).kind = 0 from (by decide : ¬ (1 : UInt8) = 0)), if_neg (by omega)]
    rfl
  rw [h2, h4] at hu
  omega
theorem gr_reset {w : World} {mb nb cN tc blocks nb2 cN2 tc2 N : Nat} {L L2 : List RNd} {T T2 : Option Addr} (hG : GrAt w mb nb L cN T 0 tc blocks) (hR : Row5 w nb2 L2 cN2) (hl : L2.length = N) :
    GrAt (w.setRow mb #[.slice (some ⟨nb2, 0, none⟩) N cN2, .slice T2 0 tc2, .int .i64 (blocks : Int)]) mb nb2 L2 cN2 T2 0 tc2 blocks :=
  ⟨by rw [hl]; exact hG.m.setRow_same _, hR.tch (Tch.setRow (S := (· = mb)) (fun _ => rfl)) (fun g cur hB e => by subst e; exact hG.m.ne hB (by decide) rfl) (fun g cur hB e => by subst e; exact hG.m.ne hB (by decide) rfl) (fun g cur hB e => by subst e; exact hG.m.ne hB (by decide) rfl)⟩
theorem log_reset {w : World} {ii : Ids} {s : Sto} {gg mb : Nat} {g : GeoN} {lab : Int} {G : GS} {cs cs2 : Array Value} (ha : GAt w ii s gg g lab G) (hB : Blk w mb 47 cs) : LogAt (w.setRow mb cs2) ii.ll ii.dd ii.rr s.D :=
  (ha.apart (Tch.setRow (S := (· = mb)) (c := cs2) (fun _ => rfl)) (fun k hk => by subst hk; exact ⟨ha.tx.other hB (by decide) (by decide) (by decide), hB.ne ha.tx.log.log (by decide), hB.ne ha.gp (by decide)⟩)).tx.log
theorem own_reset {w : World} {B n mb : Nat} {v : Value} {xs : List Value} {cs cs2 : Array Value} (h : w.ownsRow B 51 4 v n xs) (hB : Blk w mb 47 cs) : (w.setRow mb cs2).ownsRow B 51 4 v n xs :=
  own_keep h fun g hg => setRow_other w mb g cs2 (fun e => by subst e; exact row_not_blk h hB (by decide) hg)
theorem encs_le : ∀ {L : List RecV}, (∀ r ∈ L, r.l.length ≤ 128) → (encs L).length ≤ 135 * L.length
  | [], _ => Nat.le_refl _
  | r :: L, h => by
    have h1 := encs_le (L := L) fun x hx => h x (by simp [hx])
    have h2 := h r (by simp)
    rw [encs_cons, List.length_append, enc_length, List.length_cons]
    omega
theorem GrAt.avoid_a {w : World} {mb nb cN tn tc blocks : Nat} {L : List RNd} {T : Option Addr} {i : Ids} {s : Sto} {gg : Nat} {g : GeoN} {lab : Int} {G : GS} (h : GrAt w mb nb L cN T tn tc blocks) (ha : GAt w i s gg g lab G) : ∀ k, k = nb → ¬ i.own k ∧ k ≠ i.ll ∧ k ≠ gg := by
  rintro k rfl
  obtain ⟨cur, hB, _⟩ := h.r.blk
  exact ⟨ha.tx.other hB (by decide) (by decide) (by decide), hB.ne ha.tx.log.log (by decide), hB.ne ha.gp (by decide)⟩
theorem own_txr {w w' : World} {i : Ids} {s : Sto} {B n : Nat} {v : Value} {xs : List Value} (h : w.ownsRow B 51 4 v n xs) (hx : TxAt w i s) (ht : Tch w.heap.size i.own w w') : w'.ownsRow B 51 4 v n xs :=
  own_keep h fun g hg => by
    rcases h.2 with ⟨rfl, _⟩ | ⟨g', cap, cur, rfl, _, hh, _⟩
    · cases hg
    · have e : g' = g := by simpa [Value.ownBlock] using hg
      subst e
      exact ht.block g' (Array.getElem?_eq_some_iff.1 hh).1 (hx.other hh (by decide) (by decide) (by decide))
theorem row_blk {w : World} {B n sz g : Nat} {e : TypeId} {v : Value} {xs : List Value} (h : w.ownsRow B e sz v n xs) (hg : v.ownBlock = some g) : ∃ cur, Blk w g e cur := by
  rcases h.2 with ⟨rfl, _⟩ | ⟨g', cap, cur, rfl, _, hh, _⟩
  · cases hg
  · have e : g' = g := by simpa [Value.ownBlock] using hg
    subst e
    exact ⟨cur, hh⟩
theorem core_cells {r r' : RecV} (h : r'.core = r.core) : r'.cells = [.int .u32 (r.s : Int), .int .u8 (r.f : Int), .int .u8 (r.t : Int), .slice r'.A r.l.length r'.c] ∧ r'.l = r.l := by
  obtain ⟨s, f, t, A, l, c⟩ := r'
  simp only [RecV.core, Prod.mk.injEq] at h
  obtain ⟨rfl, rfl, rfl, rfl⟩ := h
  exact ⟨rfl, rfl⟩
theorem rangeAt_below {w w' : World} {b o : Nat} {cs : List Value} (h : w.rangeAt b o cs) (hb : b < w.heap.size) (ht : Below w.heap.size w w') : w'.rangeAt b o cs := fun j v hj =>
  (World.cell?_of_block (w := w) (a := ⟨b, o + j, none⟩) (ht.block b hb)).trans (h j v hj)
section
variable {m : UInt8} {H : List UInt8} {A : Option Addr} {n c : Nat} {T : List UInt8} {w : World}
set_option maxRecDepth 100000 in
set_option maxHeartbeats 4000000 in
theorem lists_all (hH : H.length = 25) (hT : Rd w w.heap.size 1 A n (bvs T)) (hnm : n ≤ 9223372036854775807) (lab : Nat) (hlab : lab < 256) {A2 : Option Addr} {n2 c2 : Nat} {rs : List RecV} (hr2 : Rd w w.heap.size 4 A2 n2 (flat4 rs)) (hrn : rs.length = n2)
    (hro : ∀ r ∈ rs, r.Ok ∧ Rd w w.heap.size 1 r.A r.l.length (bvs r.l)) :
    Calls Tryz.prog 3 #[.agg (szCells m H A n c), .int .u8 (lab : Int), .slice A2 n2 c2] w fun e w' => e = .returned (.bool true) ∧ Below w.heap.size w w' := by
  have hsz : (szCells m H A n c).size = 27 := szCells_size hH
  have HRS := hide (And.intro hr2 (And.intro hrn hro))
  clear hr2 hrn hro
  go_enter Tryz.func3, Tryz.ntmps3
  go_upto_region 1 with (fail)
  refine at_world (fun W => ∃ bx, bx = w.heap.size ∧ Below w.heap.size w W ∧ Blk W bx 26 (szCells m H A n c)) ⟨_, rfl, (Below.refl _ _).alloc (Nat.le_refl _) _, Blk.new _ _ _⟩ (fun w1 h1 => ?_)
  obtain ⟨bx, hbx, hb1, hX1⟩ := h1
  rw [← hbx]
  have hS : ((Tryz.prog.info? 26).map (·.size)) = some (szCells m H A n c).size := by rw [hsz]; kernel_rfl
  have HS := hide hS
  have HB1 := hide hb1
  have HX1 := hide hX1
  clear hbx hX1 hS hsz hb1
  go_wp2_with fail
  refine (awake27 w1).mono ?_
  rintro e w2 ⟨rfl, hb2⟩
  have HX2 := hide (HX1.out.below hb2 HX1.out.lt)
  have HB2 := hide (HB1.out.trans (hb2.mono HB1.out.size))
  have HT2 := hide ((hT.below HB2.out).more HB2.out.size)
  have HH := hide (And.intro hH hnm)
  clear hb2 HX1 HB1 hT hH hnm
  go_wp2_with (first | (refine wpList_load_row rfl 26 (.tmp 3) (by rfl) bx (by rfl) 26 (szCells m H A n c) (0, 0) _ HX2.out Tryz.underlying26 rfl HS.out ?_) | fail)
  refine (size_conf (w := w2) HH.out.1 HT2.out HH.out.2).mono ?_
  rintro e w3 ⟨cc, K, tb, nb0, lb, B1, B2, B3, d1, d2, d3, rfl, hb3, hin, hK⟩
  obtain ⟨nn, hsf⟩ := sz_facts (m := m) (H := H) hin.ok
  have hF := hsf.cf hin.ok
  have hfr := fresh_all (w := w3) hin hF hsf.five
  have HIN := hide hin
  have HF := hide hF
  have HB3 := hide (HB2.out.trans (hb3.mono HB2.out.size))
  have hR2 := hsf.two
  have hR5 := hsf.five
  generalize szRegs m H = R at *
  clear hin hK hF hb3 HX2 HB2 HT2 HS HH hsf
  go_wp2_with fail
  refine hfr.mono ?_
  rintro e w4 ⟨i, D, rfl, hx, hDn, hall, hown, hll, hb4⟩
  have HIN4 := hide (HIN.out.below hb4)
  have HB4 := hide (HB3.out.trans (hb4.mono HB3.out.size))
  have HL4 := hide hx.log
  have HDR := hide (And.intro (hown i.dd (.inr (.inr (.inl rfl)))) (hown i.rr (.inr (.inr (.inr rfl)))))
  have HW34 := hide hb4
  have HALL := hide (And.intro hDn hall)
  clear hx hown hll hb4 hfr hDn hall
  go_wp2_with fail
  refine (len_ok HIN4.out).mono ?_
  rintro e w_ ⟨rfl, hw_⟩
  have hw_ := hw_.symm
  subst hw_
  have e1 : ((lab : Int)).tmod (R.length : Int) = ((lab % R.length : Nat) : Int) := by rw [Int.tmod_eq_emod_of_nonneg (by omega)]; omega
  have hz : ((R.length : Int) == 0) = false := by rw [beq_eq_false_iff_ne]; omega
  have hk : lab % R.length < R.length := Nat.mod_lt _ (by omega)
  obtain ⟨v, r, hv, hr, hgo, hval, hbl, hnd, g4, g512, n4, n128⟩ := HF.out.geo _ hk
  have his := HALL.out.2 _ v hv
  generalize lab % R.length = lk at *
  go_wp2_with fail
  have hreg := reg_ok HIN4.out hr
  rw [← hbl, ← hnd] at hreg
  have hop := fun (W : World) (hW : ConfIn w2.heap.size W cc R K tb nb0 lb B1 B2 B3 d1 d2 d3) (tt : Nat) => gopen_yes (tt := tt) hW hv hval
  generalize hu : geoN v = u at *
  have HOP := hide hop
  have HREG := hide hreg
  have HGO := hide (And.intro hgo (And.intro g4 (And.intro g512 (And.intro n4 n128))))
  have HIS := hide his
  have HNN := hide (And.intro HALL.out.1 (And.intro HF.out.ge HF.out.le))
  clear hop hreg hv hr hgo hval hbl hnd g4 g512 n4 n128 his e1 hz hk hu HF HALL hR2 hR5
  refine HREG.out.mono ?_
  rintro e w5 ⟨rfl, hb5⟩
  have HB5 := hide (HB4.out.trans (hb5.mono HB4.out.size))
  have HL5 := hide (HL4.out.below hb5)
  have HW45 := hide hb5
  clear hb5 HIN4 HL4 HREG
  go_upto_region 7 with (fail)
  refine at_world (fun W => ∃ rg, rg = w5.heap.size ∧ rg < W.heap.size ∧ W.cell? ⟨rg, 3, none⟩ = some (.int .i64 (u.blocks : Int)) ∧ W.cell? ⟨rg, 4, none⟩ = some (.int .i64 (u.nodes : Int)) ∧ Below w4.heap.size w4 W ∧ LogAt W i.ll i.dd i.rr D) ⟨_, rfl, by simp, (Blk.new w5 _ _).cell 3, (Blk.new w5 _ _).cell 4, HW45.out.alloc HW45.out.size _, HL5.out.below ((Below.refl _ _).alloc (Nat.le_refl _) _)⟩ (fun w6 h6 => ?_)
  obtain ⟨rg, hrg, rgl, y2, y3, hb6, hL6⟩ := h6
  rw [← hrg]
  have HB6 := hide hb6
  have HL6 := hide hL6
  have hnw := rnew_ok w6 (nodes := u.nodes) (u.blocks : Int) (by have := HGO.out; omega) (by have := HGO.out; omega)
  have HNW := hide hnw
  clear hrg hb6 hL6 HL5 HB5 HW45 hnw
  go_wp2_with fail
  refine HNW.out.mono ?_
  rintro e w7 ⟨nb, rfl, hr7, hnb, hb7⟩
  have HR7 := hide hr7
  have HB7 := hide (HB6.out.trans (hb7.mono HB6.out.size))
  have HL7 := hide (HL6.out.below hb7)
  have HNB := hide (show w4.heap.size ≤ nb from Nat.le_trans HB6.out.size hnb)
  have hszg := size_rgroup (.slice (some ⟨nb, 0, none⟩) (u.nodes + 1) (u.nodes + 1)) (.slice none 0 0) (.int .i64 (u.blocks : Int))
  clear hr7 hnb hb7 HNW HB6 HL6 y2 y3 rgl
  go_upto_region 9 with (fail)
  refine at_world (fun W => ∃ mb, mb = w7.heap.size ∧ Below w4.heap.size w4 W ∧ GrAt W mb nb (rnewL u.nodes) (u.nodes + 1) none 0 0 u.blocks ∧ LogAt W i.ll i.dd i.rr D) ⟨_, rfl, HB7.out.alloc HB7.out.size _, ⟨by rw [rnewL_length]; exact Blk.new _ _ _, HR7.out.below ((Below.refl _ _).alloc (Nat.le_refl _) _)⟩, HL7.out.below ((Below.refl _ _).alloc (Nat.le_refl _) _)⟩ (fun w8 h8 => ?_)
  obtain ⟨mb, hmb, hb8, hg8, hl8⟩ := h8
  rw [← hmb]
  have HB8 := hide hb8
  have HG8 := hide hg8
  have HMB0 := hide (show w4.heap.size ≤ mb from by have := HB7.out.size; omega)
  have HL8 := hide hl8
  clear hmb hb8 hg8 hl8 HR7 HB7 HL7 hszg
  go_upto_block 0 with (fail)
  go_cut [15, 16, 17, 18, 19, 20, 21, 22, 23] from 63 to 123 (fun x15 x16 x17 x18 x19 x20 x21 x22 x23 wc => ∃ (Dk : List BlkV) (G : GS) (κ : Nat → Nat) (ws : List RecV) (Aw : Option Addr) (cw : Nat), x15 = .slice Aw ws.length cw ∧ Hid (Tch w4.heap.size (fun x => x = i.dd ∨ x = i.rr) w4 wc) ∧ Hid (LogAt wc i.ll i.dd i.rr Dk) ∧ Hid (Dk.length = nn ∧ Sto.Is ⟨Dk, [], 0⟩ u G ∧ G.Ok ∧ G.cnt u.blocks = need2 (encs ws).length) ∧ Hid (FileAt G u.blocks (G.nd 3) (blks (encs ws).length) κ (encs ws).length (fun j => (encs ws).getD j 0) ∧ (G.nd 3).size.toNat = (encs ws).length ∧ (G.nd 3).kind = 1 ∧ (G.nd 3).links ≠ 0) ∧
      Hid (wc.ownsRow w4.heap.size 51 4 (.slice Aw ws.length cw) ws.length (flat4 ws)) ∧ Hid ((∀ r ∈ ws, r.Ok ∧ r.l.length ≤ 128 ∧ r ∈ rs) ∧ ws.length ≤ 31))
  case first =>
    have HZ0 := hide (show FileAt GS.fresh u.blocks (GS.fresh.nd 3) (blks 0) (fun _ => 0) 0 (fun j => ([] : List UInt8).getD j 0) from file_empty _ _ rfl (fresh_slot 1))
    go_wp2_with fail
    go_loopg [15, 63] n2 (fun gh x15 x63 wr => ∃ (k : Nat) (Dk : List BlkV) (G : GS) (κ : Nat → Nat) (ws : List RecV) (Aw : Option Addr) (cw : Nat) (L : List RNd) (nb cN tc : Nat) (T : Option Addr), k ≤ n2 ∧ gh = n2 - k ∧ x63 = .int .i64 (k : Int) ∧ x15 = .slice Aw ws.length cw ∧ Hid (Tch w4.heap.size (fun x => x = i.dd ∨ x = i.rr) w4 wr) ∧ Hid (LogAt wr i.ll i.dd i.rr Dk) ∧ Hid (Dk.length = nn ∧ Sto.Is ⟨Dk, [], 0⟩ u G ∧ G.Ok ∧ G.cnt u.blocks = need2 (encs ws).length) ∧ Hid (FileAt G u.blocks (G.nd 3) (blks (encs ws).length) κ (encs ws).length (fun j => (encs ws).getD j 0) ∧ (G.nd 3).size.toNat = (encs ws).length ∧ (G.nd 3).kind = 1 ∧ (G.nd 3).links ≠ 0) ∧
      Hid (wr.ownsRow w4.heap.size 51 4 (.slice Aw ws.length cw) ws.length (flat4 ws)) ∧ Hid (∀ r ∈ ws, r.Ok ∧ r.l.length ≤ 128 ∧ r ∈ rs) ∧
        Hid (GrAt wr mb nb L cN T 0 tc u.blocks ∧ L.map RNd.core = LCore u.nodes (encs ws) ∧ w4.heap.size ≤ nb) ∧ Hid (ws.length ≤ k ∧ k ≤ 31))
    case atStart => exact ⟨0, D, GS.fresh, fun _ => 0, [], none, 0, rnewL u.nodes, nb, u.nodes + 1, 0, none, Nat.zero_le _, rfl, rfl, rfl, hide (Tch.of_below HB8.out), HL8, hide ⟨HNN.out.1, HIS.out, GS.fresh_ok, fresh_cnt _⟩, hide ⟨HZ0.out, rfl, rfl, by decide⟩, hide (World.ownsRow_nil _ _ _ _), hide (fun r hr => by cases hr), hide ⟨HG8.out, LCore_start (by have := HGO.out; omega), HNB.out⟩, hide ⟨Nat.zero_le _, by omega⟩⟩
    case round =>
      obtain ⟨k, Dk, G, κ, ws, Aw, cw, L, nb, cN, tc, T, hk, hgh, rfl, rfl, HT, HL, HI, HF, HO, HWS, HG, HK⟩ := hrel
      have HGH := hide hgh
      clear hgh
      have HBr : Hid (Below w3.heap.size w3 wr) := hide (HW34.out.trans ((HT.out.mono HW34.out.size (S' := fun _ => False) (fun k hk h => by
        have := HDR.out
        rcases h with h | h <;> omega)).below fun _ _ h => h))
      have HBW := hide (HB3.out.trans (HBr.out.mono HB3.out.size))
      have HEL := hide (show (encs ws).length ≤ 4185 from by have := encs_le (fun r hr => (HWS.out r hr).2.1); have := HK.out; omega)
      rcases Nat.lt_or_ge k n2 with hkl | hkl
      rotate_left
      · have t1 : decide ((k : Int) < (n2 : Int)) = false := by simp; omega
        have t1' : ¬ (k : Int) < (n2 : Int) := by omega
        clear hkl hk
        go_wp2
        go_meet
        case rel => exact ⟨Dk, G, κ, ws, Aw, cw, rfl, HT, HL, HI, HF, HO, hide ⟨HWS.out, by have := HK.out; omega⟩⟩
      · have t1 : decide ((k : Int) < (n2 : Int)) = true := by simp; omega
        have t1' : (k : Int) < (n2 : Int) := by omega
        have e64 : IntKind.i64.wrap ((k : Int) + 1) = (k : Int) + 1 := IntWalk.i64_in _ (by have := HK.out; omega)
        obtain ⟨r, hr⟩ : ∃ r, rs[k]? = some r := ⟨_, List.getElem?_eq_getElem (by rw [HRS.out.2.1]; exact hkl)⟩
        have hrd := HRS.out.1.below HBW.out
        obtain ⟨ba, oa, rfl, hba, hca⟩ := hrd.2 (by omega)
        have hrg : wr.rangeAt ba (oa + k * 4) r.cells := fun j v hj => by
          have hj4 : j < 4 := by have := (List.getElem?_eq_some_iff.1 hj).1; simpa [RecV.cells] using this
          have := hca (k * 4 + j) v ((flat4_get hr hj4).trans hj)
          rw [Nat.add_assoc]; exact this
        have bal : ba < wr.heap.size := Nat.lt_of_lt_of_le hba HBW.out.size
        obtain ⟨nl, hnl⟩ : ∃ nl, r.l.length = nl := ⟨_, rfl⟩
        have hrc : r.cells = [.int .u32 (r.s : Int), .int .u8 (r.f : Int), .int .u8 (r.t : Int), .slice r.A nl r.c] := by rw [← hnl]; rfl
        rw [hrc] at hrg
        obtain ⟨hrok, hrb⟩ := HRS.out.2.2 r (List.mem_of_getElem? hr)
        have HRG := hide hrg
        have HRR := hide (And.intro hr (And.intro hnl (And.intro hrok hrb)))
        have hrsz : (Tryz.prog.info? 51).map (·.size) = some ([Value.int .u32 (r.s : Int), .int .u8 (r.f : Int), .int .u8 (r.t : Int), .slice r.A nl r.c] : List Value).length := size_rec0
        clear hrd hca hrg hrc hrok hrb hr hnl
        go_upto_region 12 with (first | ((with_reducible refine at_load 51 (.tmp 66) ?_); refine wpList_load_mid rfl 51 (.tmp 66) rfl ba (oa + k * 4) (by rfl) [.int .u32 (r.s : Int), .int .u8 (r.f : Int), .int .u8 (r.t : Int), .slice r.A nl r.c] _ HRG.out Tryz.underlying51 rfl hrsz ?_) | fail)
        refine at_world (fun W => ∃ q, q = wr.heap.size ∧ Below wr.heap.size wr W ∧ Blk W q 51 #[.int .u32 (r.s : Int), .int .u8 (r.f : Int), .int .u8 (r.t : Int), .slice r.A nl r.c]) ⟨_, rfl, (Below.refl _ _).alloc (Nat.le_refl _) _, Blk.new _ _ _⟩ (fun w9 h9 => ?_)
        obtain ⟨q, hq, hb9, hQ9⟩ := h9
        rw [← hq]
        have HQ9 := hide hQ9
        have HB9 := hide hb9
        have HBW9 := hide (HBW.out.trans (hb9.mono HBW.out.size))
        have HQW := hide (show w4.heap.size ≤ q from by have := HT.out.size; omega)
        have HT9 := hide (HT.out.trans ((Tch.of_below hb9).mono HT.out.size fun _ _ h => h))
        have HL9 := hide (HL.out.below hb9)
        have HO9 := hide (own_below HO.out hb9)
        have HG9 := hide (HG.out.1.below hb9)
        have z3 := hQ9.cell 3
        have zl := hQ9.lt
        have HQN := hide (show ∀ g, (Value.slice Aw ws.length cw).ownBlock = some g → g ≠ q from fun g hg => by have := (own_block_ge HO.out hg).2; omega)
        clear hq hb9 hQ9 bal hba
        by_cases hbrk : 30 < k ∨ 200 < nl
        · by_cases h30 : 30 < k
          · have t2 : decide ((30 : Int) < (k : Int)) = true := by simp; omega
            clear hbrk h30
            go_wp2
            go_meet
            case rel => exact ⟨Dk, G, κ, ws, Aw, cw, rfl, HT9, HL9, HI, HF, HO9, hide ⟨HWS.out, by have := HK.out; omega⟩⟩
          · have t2 : decide ((30 : Int) < (k : Int)) = false := by simp; omega
            have t3 : decide ((200 : Int) < (nl : Int)) = true := by simp; omega
            clear hbrk h30
            go_wp2
            go_meet
            case rel => exact ⟨Dk, G, κ, ws, Aw, cw, rfl, HT9, HL9, HI, HF, HO9, hide ⟨HWS.out, by have := HK.out; omega⟩⟩
        have t2 : decide ((30 : Int) < (k : Int)) = false := by simp; omega
        have t3 : decide ((200 : Int) < (nl : Int)) = false := by simp; omega
        have HBRK := hide (show k ≤ 30 ∧ nl ≤ 200 from by omega)
        have HD32 := hide (show 32 ≤ Dk.length from by rw [HI.out.1]; exact HNN.out.2.1)
        clear hbrk
        go_wp2_with fail
        refine (begin_ok HL9.out HD32.out).mono ?_
        rintro e w10 ⟨tt, mq, rfl, htt, hmq, hx10, hb10⟩
        obtain ⟨ii, hii⟩ : ∃ ii : Ids, Ids.mk tt mq i.ll i.dd i.rr = ii := ⟨_, rfl⟩
        have htt' : tt = ii.tt := by rw [← hii]
        rw [hii] at hx10
        subst htt'
        have HX10 := hide hx10
        have HB10 := hide hb10
        have HII := hide (And.intro hii (And.intro htt hmq))
        have HOL := hide (show ∀ k, k < w4.heap.size → ii.own k → k = i.dd ∨ k = i.rr from by
          have h0 := HT9.out.size
          rintro k hk (e | e | e | e)
          · omega
          · rw [← hii] at e; simp only at e; omega
          · rw [← hii] at e; exact .inl e
          · rw [← hii] at e; exact .inr e)
        clear hii htt hmq hx10 hb10 z3 zl t1 t1'
        go_wp2_with fail
        refine (HOP.out w10 (HIN.out.below (HBr.out.trans ((HB9.out.trans (HB10.out.mono HB9.out.size)).mono HBr.out.size))) ii.tt).mono ?_
        rintro e w11 ⟨gg, rfl, -, hG11, hb11⟩
        have hug : u.Ok Dk.length := by rw [HI.out.1]; exact HGO.out.1
        have HA11 : Hid (GAt w11 ii ⟨Dk, [], 0⟩ gg u lk G) := hide ⟨HX10.out.below hb11, hG11, hug, HI.out.2.1, HI.out.2.2.1⟩
        have HB11 := hide (HB10.out.trans (hb11.mono HB10.out.size))
        have HBW11 := hide (HBW9.out.trans (HB11.out.mono HBW9.out.size))
        have HT11 := hide (HT9.out.trans ((Tch.of_below HB11.out).mono HT9.out.size fun _ _ h => h))
        have HQ11 := hide (HQ9.out.below HB11.out HQ9.out.lt)
        have HG11 := hide (HG9.out.below HB11.out)
        have HO11 := hide (own_below HO9.out HB11.out)
        have hLlen := core_len HG.out.2.1
        have hszg := size_rgroup (.slice (some ⟨nb, 0, none⟩) L.length cN) (.slice T 0 tc) (.int .i64 (u.blocks : Int))
        have hcp := rcopy_ok (T := T) (tc := tc) w11 (u.blocks : Int) HG11.out.r (core_small HG.out.2.1 HGO.out.2.2.2.2 (by have := HEL.out; omega)) (by rw [hLlen]; omega)
        have HSZ := hide hszg
        have HCP := hide hcp
        have HGM := hide HG11.out.m
        clear hug hG11 hb11 hLlen hszg hcp HX10 HB10
        go_wp2_with (first | ((with_reducible refine at_load 47 (.tmp 14) ?_); refine wpList_load_blk rfl 47 (.tmp 14) rfl mb _ _ _ (by rfl) HGM.out Tryz.underlying47 rfl HSZ.out ?_) | fail)
        refine HCP.out.mono ?_
        rintro e w12 ⟨nb2, cN2, T2, tc2, L2, rfl, hco2, hr2, hnb2, hb12⟩
        have HCO2 := hide (And.intro (hco2.trans HG.out.2.1) (And.intro hr2 (And.intro (show w4.heap.size ≤ nb2 from by have := HT11.out.size; omega) (show nb < nb2 from Nat.lt_of_lt_of_le HG11.out.r.lt hnb2))))
        have HBW12 := hide (HBW11.out.trans (hb12.mono HBW11.out.size))
        have HA12 := hide (HA11.out.below hb12)
        have HT12 := hide (HT11.out.trans ((Tch.of_below hb12).mono HT11.out.size fun _ _ h => h))
        have HQ12 := hide (HQ11.out.below hb12 HQ11.out.lt)
        have HG12 := hide (HG11.out.below hb12)
        have HO12 := hide (own_below HO11.out hb12)
        clear hco2 hr2 hnb2 hb12 HCP HGM HA11 HQ11 HG11 HO11
        go_upto_region 16 with (fail)
        refine at_world (fun W => ∃ ob, ob = w12.heap.size ∧ Below w12.heap.size w12 W ∧ Blk W ob 47 #[.slice (some ⟨nb2, 0, none⟩) L.length cN2, .slice T2 0 tc2, .int .i64 (u.blocks : Int)]) ⟨_, rfl, (Below.refl _ _).alloc (Nat.le_refl _) _, Blk.new _ _ _⟩ (fun w13 h13 => ?_)
        obtain ⟨ob, hob, hb13, hO13⟩ := h13
        rw [← hob]
        have HOB := hide hO13
        have HOBN := hide (show mb ≠ ob from by have := HG12.out.m.lt; omega)
        have HBW13 := hide (HBW12.out.trans (hb13.mono HBW12.out.size))
        have HA13 := hide (HA12.out.below hb13)
        have HT13 := hide (HT12.out.trans ((Tch.of_below hb13).mono HT12.out.size fun _ _ h => h))
        have HQ13 := hide (HQ12.out.below hb13 HQ12.out.lt)
        have HG13 := hide (HG12.out.below hb13)
        have HO13 := hide (own_below HO12.out hb13)
        have HR13 := hide (HCO2.out.2.1.below hb13)
        have k3 := HQ13.out.cell 3
        have kl := HQ13.out.lt
        have HLL2 := hide (show L2.length = L.length from by rw [core_len HCO2.out.1, core_len HG.out.2.1])
        clear hob hb13 hO13 HA12 HT12 HQ12 HG12 HO12
        by_cases hlong : 128 < nl
        · have t4 : decide (nl ≤ 128) = false := by simp; omega
          have t4' : decide ((nl : Int) ≤ 128) = false := by simp; omega
          have hap := aappend_long (r := r) (by rw [HRR.out.2.1]; exact hlong) (.pointer (some ⟨gg, 0, none⟩)) w13
          have hcs : r.cells.toArray = #[.int .u32 (r.s : Int), .int .u8 (r.f : Int), .int .u8 (r.t : Int), .slice r.A nl r.c] := by rw [← HRR.out.2.1]; rfl
          rw [hcs] at hap
          have HAP := hide hap
          clear hap hcs hlong
          go_wp2_with (first | ((with_reducible refine at_load 51 (.tmp 17) ?_); refine wpList_load_blk rfl 51 (.tmp 17) rfl q _ _ _ (by rfl) HQ13.out Tryz.underlying51 rfl size_rec0 ?_) | fail)
          refine HAP.out.mono ?_
          rintro e w14 ⟨rfl, hb14⟩
          have HT14 := hide (HT13.out.trans ((Tch.of_below hb14).mono HT13.out.size fun _ _ h => h))
          have HA14 := hide (HA13.out.below hb14)
          have HG14 := hide (HG13.out.below hb14)
          have HO14 := hide (own_below HO13.out hb14)
          have HOB14 := hide (HOB.out.below hb14 HOB.out.lt)
          have HR14 := hide (HR13.out.below hb14)
          have HMB := hide HG14.out.m
          have hsz1 := size_rgroup (.slice (some ⟨nb2, 0, none⟩) L.length cN2) (.slice T2 0 tc2) (.int .i64 (u.blocks : Int))
          have HSZ1 := hide hsz1
          clear hb14 hsz1 HAP HA13 HG13 HO13 HR13 HQ13 k3 kl t4 t4'
          go_wp2_with (first | ((with_reducible refine at_load 47 (.tmp 21) ?_); refine wpList_load_blk rfl 47 (.tmp 21) rfl ob _ _ _ (by rfl) HOB14.out Tryz.underlying47 rfl HSZ1.out ?_) | ((with_reducible refine at_store 47 (.tmp 14) (.tmp 115) ?_); refine wpList_store_blk rfl 47 (.tmp 14) (.tmp 115) rfl mb _ _ _ (by rfl) (by rfl) HMB.out HSZ1.out rfl (by simp [Value.oneCell']) (fun hM15 => ?_)) | fail)
          go_roundg (n2 - (k + 1))
          case rel => exact ⟨k + 1, Dk, G, κ, ws, Aw, cw, L2, nb2, cN2, tc2, T2, by omega, rfl, by first | rfl | go_num, rfl, hide (HT14.out.trans (Tch.setRow fun h => absurd h (by have := HMB0.out; omega))), hide ((log_reset HA14.out HMB.out).ids HII.out.1), HI, HF, hide (own_reset HO14.out HMB.out), HWS, hide ⟨gr_reset HG14.out HR14.out HLL2.out, HCO2.out.1, HCO2.out.2.2.1⟩, hide ⟨by have := HK.out; omega, by have := HBRK.out; omega⟩⟩
          case measure => have := HGH.out; omega
        · have t4 : decide (nl ≤ 128) = true := by simp; omega
          have t4' : decide ((nl : Int) ≤ 128) = true := by simp; omega
          have hn128 : nl ≤ 128 := by omega
          obtain ⟨n3, hn3, hk3, hl3, -⟩ := core_three HG.out.2.1 (by have := HGO.out; omega)
          obtain ⟨sz, hsz⟩ : ∃ sz, (encs ws).length = sz := ⟨_, rfl⟩
          have hcell : ∀ W, (GrAt W mb nb L cN T 0 tc u.blocks ∧ Blk W q 51 #[.int .u32 (r.s : Int), .int .u8 (r.f : Int), .int .u8 (r.t : Int), .slice r.A nl r.c]) → W.cell? ⟨mb, 0, none⟩ = some (.slice (some ⟨nb, 0, none⟩) L.length cN) ∧ W.cell? ⟨nb, 18, none⟩ = some (.slice n3.A sz n3.c) ∧ mb < W.heap.size ∧ nb < W.heap.size ∧ W.cell? ⟨q, 0, none⟩ = some (.int .u32 (r.s : Int)) ∧ W.cell? ⟨q, 1, none⟩ = some (.int .u8 (r.f : Int)) ∧ W.cell? ⟨q, 2, none⟩ = some (.int .u8 (r.t : Int)) ∧ W.cell? ⟨q, 3, none⟩ = some (.slice r.A nl r.c) ∧ q < W.heap.size := fun W hW =>
            ⟨hW.1.m.cell 0, by rw [← hsz, ← hl3]; exact hW.1.r.cell hn3 (j := 3) (by omega), hW.1.m.lt, hW.1.r.lt, hW.2.cell 0, hW.2.cell 1, hW.2.cell 2, hW.2.cell 3, hW.2.lt⟩
          have HCE := hide hcell
          have HN3 := hide (And.intro hn3 (And.intro hk3 (And.intro hl3 hsz)))
          have HN128 := hide hn128
          have hL3 : (3 : Int) < (L.length : Int) := by rw [core_len HG.out.2.1]; have := HGO.out; omega
          clear hcell hn3 hk3 hl3 hsz hn128 hlong
          go_upto_region 18 with (fail)
          refine wp_region_text [0, 0, 0, 0, 0, 0, 0, 0, 0, 0, 0, 0, 0, 0, 1, 2, 0] (fun W => GrAt W mb nb L cN T 0 tc u.blocks ∧ Blk W q 51 #[.int .u32 (r.s : Int), .int .u8 (r.f : Int), .int .u8 (r.t : Int), .slice r.A nl r.c]) (by kernel_rfl) (by kernel_rfl) ⟨HG13.out.below (Below.refl _ _).drew, HQ13.out.drew⟩ ?_
          iterate 14 (refine wpOrd_q (v := ?_) (by rfl) (fun W hW => ?_) ?_; rotate_left; (focus ((obtain ⟨q1, q2, q3, q4, k0, k1, k2, k3, kl⟩ := HCE.out W hW; go_simp); try with_reducible rfl)); try simp only [Act.put, List.setIfInBounds_toArray, List.set_cons_zero, List.set_cons_succ])
          refine at_world (fun W => Below w13.heap.size w13 W) (Below.refl _ _).drew (fun w14 hb14 => ?_)
          have HBW14 := hide (HBW13.out.trans (hb14.mono HBW13.out.size))
          have HA14 := hide (HA13.out.below hb14)
          have HT14 := hide (HT13.out.trans ((Tch.of_below hb14).mono HT13.out.size fun _ _ h => h))
          have HQ14 := hide (HQ13.out.below hb14 HQ13.out.lt)
          have HG14 := hide (HG13.out.below hb14)
          have HO14 := hide (own_below HO13.out hb14)
          have HOB14 := hide (HOB.out.below hb14 HOB.out.lt)
          have HR14 := hide (HR13.out.below hb14)
          clear hb14 HA13 HT13 HQ13 HG13 HO13 HOB HR13 k3 kl t4 t4'
          have hrb14 : Rd w14 w14.heap.size 1 r.A nl (bvs r.l) := by
            have := (HRR.out.2.2.2.below HBW14.out).more HBW14.out.size
            rw [HRR.out.2.1] at this
            exact this
          have hrec := au_record_ok r.s r.f r.t r.A nl r.c r.l w14 HRR.out.2.2.1.s HRR.out.2.2.1.f HRR.out.2.2.1.t HN128.out hrb14
          have HREC := hide hrec
          clear hrb14 hrec
          refine wpOrd_x (by rfl) (fun KK hKK => ?_)
          go_simp
          refine HREC.out.mono ?_
          rintro e w15 ⟨A15, c15, rfl, hown15, hb15⟩
          refine hKK _ _ _ (fun _ h => h) ⟨HG14.out.below hb15, HQ14.out.below hb15 HQ14.out.lt⟩ ?_
          have HBW15 := hide (HBW14.out.trans (hb15.mono HBW14.out.size))
          have HA15 := hide (HA14.out.below hb15)
          have HT15 := hide (HT14.out.trans ((Tch.of_below hb15).mono HT14.out.size fun _ _ h => h))
          have HQ15 := hide (HQ14.out.below hb15 HQ14.out.lt)
          have HG15 := hide (HG14.out.below hb15)
          have HO15 := hide (own_below HO14.out hb15)
          have HOB15 := hide (HOB14.out.below hb15 HOB14.out.lt)
          have HR15 := hide (HR14.out.below hb15)
          have hel : r.enc.length = 7 + nl := by rw [enc_length, HRR.out.2.1]
          have hsm := core_small HG.out.2.1 HGO.out.2.2.2.2 (by have := HEL.out; omega)
          have hrw := rwrite_ok (k := 3) (off := sz) (cap := c15) (data := r.enc) (A := A15) HG15.out hsm (by omega) HN3.out.1 (by rw [HN3.out.2.1]; decide) (by rw [HN3.out.2.2.1]; have := HN3.out.2.2.2; omega) (by rw [HN3.out.2.2.1, HN3.out.2.2.2]; omega) (by rw [hel]; have := HN3.out.2.2.2; have := HEL.out; have := HN128.out; omega) (by rw [hel]; exact Rd.of_own hown15)
          rw [hel, show ((3 : Nat) : Int) = 3 from rfl] at hrw
          have HEN := hide hel
          have HRW := hide hrw
          clear hown15 hb15 hel hsm hrw HREC HA14 HT14 HQ14 HG14 HO14 HOB14 HR14 hKK KK
          try simp only [Act.put, List.setIfInBounds_toArray, List.set_cons_zero, List.set_cons_succ]
          refine wpOrd_b (by rfl) (fun KK hKK => ?_)
          go_simp
          refine HRW.out.mono ?_
          rintro e w16 ⟨A16, c16, rfl, hg16, ht16⟩
          refine hKK (fun _ => True) _ _ trivial ?_
          obtain ⟨L6, hL6⟩ : ∃ L6, L.set 3 (n3.with A16 (n3.l.take sz ++ r.enc) c16) = L6 := ⟨_, rfl⟩
          have htk : n3.l.take sz = encs ws := by rw [HN3.out.2.2.1, ← HN3.out.2.2.2, List.take_length]
          have hcore6 : L6.map RNd.core = LCore u.nodes (encs ws ++ r.enc) := by rw [← hL6, htk]; exact core_put HG.out.2.1 (by have := HGO.out; omega) HN3.out.1
          have hlen6 : L6.length = L.length := by rw [← hL6, List.length_set]
          have hneed : usedTo 0 L6 L.length = need2 (sz + (7 + nl)) := by
            rw [← hlen6, core_need hcore6 (by have := HGO.out; omega), List.length_append, HN3.out.2.2.2, HEN.out]
          rw [hL6] at hg16 ⊢
          rw [hneed]
          have HG16 := hide hg16
          have HC6 := hide (And.intro hcore6 hlen6)
          have hnbq : nb ≠ q := by
            have h1 := HG15.out.r.blk.choose_spec.1
            exact h1.ne HQ15.out (by decide)
          have hav := HG15.out.avoid_a HA15.out
          have HA16 := hide (HA15.out.apart ht16 hav)
          have HT16 := hide (HT15.out.trans (ht16.mono HT15.out.size fun g hg e => by have := HG.out.2.2; omega))
          have HQ16 := hide (HQ15.out.tch ht16 HQ15.out.lt (fun e => hnbq e.symm))
          have hnbl : ∀ g, (Value.slice Aw ws.length cw).ownBlock = some g → g ≠ nb := fun g hg e => by
            have h1 := HG15.out.r.blk.choose_spec.1
            subst e
            exact row_not_blk HO15.out h1 (by decide) hg
          have HO16 := hide (own_keep HO15.out fun g hg => ht16.block g (own_block_ge HO15.out hg).2 (hnbl g hg))
          have HOB16 := hide (HOB15.out.tch ht16 HOB15.out.lt (fun e => by have h1 := HG15.out.r.blk.choose_spec.1; subst e; exact HOB15.out.ne h1 (by decide) rfl))
          have HBW16 := hide (HBW15.out.trans ((ht16.mono HBW15.out.size (S' := fun _ => False) (fun g hg e => by have := HG.out.2.2; have := HB4.out.size; omega)).below fun _ _ h => h))
          have HR16 : Hid (Row5 w16 nb2 L2 cN2) := hide (by
            have h1 := HG15.out.r.blk.choose_spec.1
            exact ⟨own_keep HR15.out.row fun g hg => ht16.block g (own_block_ge HR15.out.row hg).2 (fun e => by
              have h2 := HCO2.out.2.2.2
              have h3 : nb2 = g := by simpa [Value.ownBlock] using hg
              omega), fun n hn => (HR15.out.all n hn).tch ht16 (fun g cur hB e => hB.ne h1 (by decide) e) (fun g cur hB e => hB.ne h1 (by decide) e)⟩)
          clear hg16 hL6 htk hcore6 hlen6 hneed hnbq hav ht16 hnbl HA15 HT15 HQ15 HG15 HO15 HOB15 HR15 HRW hKK KK
          try simp only [Act.put, List.setIfInBounds_toArray, List.set_cons_zero, List.set_cons_succ]
          iterate 1 (refine wpOrd_q (v := ?_) (by rfl) (fun W hW => ?_) ?_; rotate_left; (focus (go_simp; try with_reducible rfl)); try simp only [Act.put, List.setIfInBounds_toArray, List.set_cons_zero, List.set_cons_succ])
          refine wpOrd_nil ?_
          have hrb16 : Rd w16 w16.heap.size 1 r.A r.l.length (bvs r.l) := (HRR.out.2.2.2.below HBW16.out).more HBW16.out.size
          have hap := aappend_ok (r := r) HA16.out (fun x hx => by simp at hx) (by have := HGO.out; omega) (by have := HGO.out; omega) HF.out.2.2.1 HF.out.2.2.2 HN3.out.2.2.2 (HF.out.2.1.trans HN3.out.2.2.2) (by have h0 := HF.out.1; rw [HN3.out.2.2.2] at h0; exact h0) (by have := HN3.out.2.2.2; have := HEL.out; have := HN128.out; have := HRR.out.2.1; omega) HRR.out.2.2.1 (by rw [HRR.out.2.1]; exact HN128.out) hrb16
          have hcs : r.cells.toArray = #[.int .u32 (r.s : Int), .int .u8 (r.f : Int), .int .u8 (r.t : Int), .slice r.A nl r.c] := by rw [← HRR.out.2.1]; rfl
          rw [hcs] at hap
          have HAP := hide hap
          clear hap hcs hrb16
          by_cases hfull : u.blocks < need2 (sz + (7 + nl))
          · rw [if_pos hfull]
            have HFU := hide hfull
            clear hfull
            go_wp2_with (first | ((with_reducible refine at_load 51 (.tmp 17) ?_); refine wpList_load_blk rfl 51 (.tmp 17) rfl q _ _ _ (by rfl) HQ16.out Tryz.underlying51 rfl size_rec0 ?_) | fail)
            refine HAP.out.mono ?_
            rintro e w17 (⟨rfl, -, s17, G17, ha17, hst17, ht17⟩ | ⟨-, s17, G17, κ17, -, -, -, -, -, hcn, -, -⟩)
            rotate_left
            · exfalso
              have h1 := HI.out.2.2.2
              have h2 := cnt_le_ G17 u.blocks
              have h3 := HFU.out
              rw [HEN.out] at hcn
              rw [HN3.out.2.2.2] at h1
              unfold need2 at h1 h3
              omega
            have HA17 := hide ha17
            have HST := hide hst17
            have HT17 := hide (HT16.out.trans (ht17.mono HT16.out.size HOL.out))
            have HG17 := hide (HG16.out.own HA16.out.tx ht17)
            have HO17 := hide (own_txr HO16.out HA16.out.tx ht17)
            have HOB17 := hide (HOB16.out.tch ht17 HOB16.out.lt (HA16.out.tx.other HOB16.out (by decide) (by decide) (by decide)))
            have HR17 := hide (HR16.out.tch ht17 (fun g cur hB => HA16.out.tx.other hB (by decide) (by decide) (by decide)) (fun g cur hB => HA16.out.tx.other hB (by decide) (by decide) (by decide)) (fun g cur hB => HA16.out.tx.other hB (by decide) (by decide) (by decide)))
            have HMB := hide HG17.out.m
            have hsz1 := size_rgroup (.slice (some ⟨nb2, 0, none⟩) L.length cN2) (.slice T2 0 tc2) (.int .i64 (u.blocks : Int))
            have HSZ1 := hide hsz1
            clear ha17 hst17 ht17 hsz1 HAP HA16 HG16 HO16 HR16 HQ16 HOB16
            go_wp2_with (first | ((with_reducible refine at_load 47 (.tmp 21) ?_); refine wpList_load_blk rfl 47 (.tmp 21) rfl ob _ _ _ (by rfl) HOB17.out Tryz.underlying47 rfl HSZ1.out ?_) | ((with_reducible refine at_store 47 (.tmp 14) (.tmp 115) ?_); refine wpList_store_blk rfl 47 (.tmp 14) (.tmp 115) rfl mb _ _ _ (by rfl) (by rfl) HMB.out HSZ1.out rfl (by simp [Value.oneCell']) (fun hM18 => ?_)) | fail)
            go_roundg (n2 - (k + 1))
            case rel => exact ⟨k + 1, Dk, G, κ, ws, Aw, cw, L2, nb2, cN2, tc2, T2, by omega, rfl, by first | rfl | go_num, rfl, hide (HT17.out.trans (Tch.setRow fun h => absurd h (by have := HMB0.out; omega))), hide ((show s17.D = Dk from HST.out.D) ▸ ((log_reset HA17.out HMB.out).ids HII.out.1)), HI, HF, hide (own_reset HO17.out HMB.out), HWS, hide ⟨gr_reset HG17.out HR17.out (by first | exact HLL2.out | rw [HLL2.out, HC6.out.2]), HCO2.out.1, HCO2.out.2.2.1⟩, hide ⟨by have := HK.out; omega, by have := HBRK.out; omega⟩⟩
            case measure => have := HGH.out; omega
          · rw [if_neg hfull]
            have HFU := hide hfull
            clear hfull
            go_wp2_with (first | ((with_reducible refine at_load 51 (.tmp 17) ?_); refine wpList_load_blk rfl 51 (.tmp 17) rfl q _ _ _ (by rfl) HQ16.out Tryz.underlying51 rfl size_rec0 ?_) | fail)
            refine HAP.out.mono ?_
            rintro e w17 (⟨-, hno, -⟩ | ⟨rfl, s17, G17, κ17, ha17, hf17, hsz17, hk17, hl17, hcn17, hst17, ht17⟩)
            · exfalso
              have h1 := HI.out.2.2.2
              have h3 := HFU.out
              rw [HEN.out] at hno
              rw [HN3.out.2.2.2] at h1
              unfold need2 at h1 h3
              omega
            have HA17 := hide ha17
            have HST := hide hst17
            have henc : encs (ws ++ [r]) = encs ws ++ r.enc := by rw [encs_append, encs_cons, show encs ([] : List RecV) = [] from rfl, List.append_nil]
            have hlen17 : (encs (ws ++ [r])).length = sz + r.enc.length := by rw [henc, List.length_append, HN3.out.2.2.2]
            have HF17 : Hid (FileAt G17 u.blocks (G17.nd 3) (blks (encs (ws ++ [r])).length) κ17 (encs (ws ++ [r])).length (fun j => (encs (ws ++ [r])).getD j 0) ∧ (G17.nd 3).size.toNat = (encs (ws ++ [r])).length ∧ (G17.nd 3).kind = 1 ∧ (G17.nd 3).links ≠ 0) :=
              hide ⟨by rw [hlen17, henc]; exact hf17, hsz17.trans hlen17.symm, hk17.trans HF.out.2.2.1, by rw [hl17]; exact HF.out.2.2.2⟩
            have HCN : Hid (G17.cnt u.blocks = need2 (encs (ws ++ [r])).length) := hide (by
              have h1 := HI.out.2.2.2
              rw [HN3.out.2.2.2] at h1
              rw [hlen17]
              unfold need2 at h1 ⊢
              omega)
            have HT17 := hide (HT16.out.trans (ht17.mono HT16.out.size HOL.out))
            have HG17 := hide (HG16.out.own HA16.out.tx ht17)
            have HO17 := hide (own_txr HO16.out HA16.out.tx ht17)
            have HQ17 := hide (HQ16.out.tch ht17 HQ16.out.lt (HA16.out.tx.other HQ16.out (by decide) (by decide) (by decide)))
            have hcom := commit_ok HA17.out.tx HST.out.bad
            have HCOM := hide hcom
            have HC7 := hide henc
            clear ha17 hf17 hsz17 hk17 hl17 hcn17 hst17 ht17 henc hlen17 hcom HAP HA16 HG16 HO16 HR16 HQ16 HOB16
            go_wp2_with fail
            refine HCOM.out.mono ?_
            rintro e w18 ⟨lp, rfl, hp, hx18, ht18⟩
            have HG18 := hide (HG17.out.own HA17.out.tx ht18)
            have HT18 := hide (HT17.out.trans (ht18.mono HT17.out.size HOL.out))
            have HO18 := hide (own_txr HO17.out HA17.out.tx ht18)
            have hq18 := HQ17.out.tch ht18 HQ17.out.lt (HA17.out.tx.other HQ17.out (by decide) (by decide) (by decide))
            have HQ18 := hide hq18
            have HL18 : Hid (LogAt w18 i.ll i.dd i.rr (commitD s17 lp)) := hide (hx18.log.ids HII.out.1)
            have HI18 : Hid ((commitD s17 lp).length = nn ∧ Sto.Is ⟨commitD s17 lp, [], 0⟩ u G17 ∧ G17.Ok ∧ G17.cnt u.blocks = need2 (encs (ws ++ [r])).length) := hide ⟨by rw [commit_len, HST.out.D]; exact HI.out.1, is_commit HA17.out.is HGO.out.1 HA17.out.tx.ok hp, HA17.out.gok, HCN.out⟩
            have HX18 := hide hx18
            clear hp hx18 ht18 hq18 HCOM HG17 HT17 HO17 HQ17
            obtain ⟨j0, hj0, j1, j2, j3⟩ := info_rec
            have HJ := hide (And.intro hj0 (And.intro j1 (And.intro j2 j3)))
            have hone : ∀ u ∈ ([.int .u32 (r.s : Int), .int .u8 (r.f : Int), .int .u8 (r.t : Int), .slice r.A nl r.c] : List Value), u.oneCell' = true := by simp [Value.oneCell']
            have HONE := hide hone
            have hwl : ws.length ≤ 1000000 := by have := HK.out; have := HBRK.out; omega
            have hws18 := HT18.out.size
            clear j1 j2 j3 hj0 hone
            go_wp2_with (first | ((with_reducible refine at_load 51 (.tmp 17) ?_); refine wpList_load_blk rfl 51 (.tmp 17) rfl q _ _ _ (by rfl) HQ18.out Tryz.underlying51 rfl size_rec0 ?_) | (at_builtin; refine wpList_append_one rfl (.tmp 119) (.tmp 121) 27 rfl w4.heap.size 51 j0 (.agg rec0) 4 32 Tryz.underlying27 HJ.out.1 HJ.out.2.1 HJ.out.2.2.1 HJ.out.2.2.2 rfl (by decide) Aw cw ws.length (flat4 ws) [.int .u32 (r.s : Int), .int .u8 (r.f : Int), .int .u8 (r.t : Int), .slice r.A nl r.c] w18 rfl HO18.out rfl rfl rfl HONE.out hwl (by decide) hws18 ?_; intro A9 c9 w19 hown9 hg9 hb9 hat9) | fail)
            have htb : Tch w18.heap.size (fun g => (Value.slice Aw ws.length cw).ownBlock = some g) w18 w19 := Tch.grown hg9 (Nat.le_refl _) (fun g hg _ => hg)
            have HT19 := hide (HT18.out.trans (htb.mono HT18.out.size fun g hg e => by have := (own_block_ge HO18.out e).1; omega))
            have HL19 : Hid (LogAt w19 i.ll i.dd i.rr (commitD s17 lp)) := hide ((HX18.out.apart htb (fun k hk => by
              obtain ⟨cur, hB⟩ := row_blk HO18.out hk
              exact ⟨HX18.out.other hB (by decide) (by decide) (by decide), hB.ne HX18.out.log.log (by decide)⟩)).log.ids HII.out.1)
            have HG19 : Hid (GrAt w19 mb nb L6 cN T 0 tc u.blocks) := hide ⟨HG18.out.m.tch htb HG18.out.m.lt (fun e => row_not_blk HO18.out HG18.out.m (by decide) e), HG18.out.r.tch htb (fun g cur hB e => row_not_blk HO18.out hB (by decide) e) (fun g cur hB e => row_not_blk HO18.out hB (by decide) e) (fun g cur hB e => row_not_blk HO18.out hB (by decide) e)⟩
            have hcel : [.int .u32 (r.s : Int), .int .u8 (r.f : Int), .int .u8 (r.t : Int), .slice r.A nl r.c] = r.cells := by rw [← HRR.out.2.1]; rfl
            have HO19 : Hid (w19.ownsRow w4.heap.size 51 4 (.slice A9 (ws ++ [r]).length c9) (ws ++ [r]).length (flat4 (ws ++ [r]))) := hide (by
              rw [hcel] at hown9
              rw [flat4_append, show flat4 [r] = r.cells from by simp [flat4], List.length_append]
              exact hown9)
            have HWS9 : Hid (∀ x ∈ ws ++ [r], x.Ok ∧ x.l.length ≤ 128 ∧ x ∈ rs) := hide fun x hx => by
              rcases List.mem_append.1 hx with hx | hx
              · exact HWS.out x hx
              · rw [List.mem_singleton.1 hx]
                exact ⟨HRR.out.2.2.1, by rw [HRR.out.2.1]; exact HN128.out, List.mem_of_getElem? HRR.out.1⟩
            have HC9 : Hid (L6.map RNd.core = LCore u.nodes (encs (ws ++ [r]))) := hide (by rw [HC7.out]; exact HC6.out.1)
            clear hown9 hg9 hb9 hat9 htb hcel
            go_roundg (n2 - (k + 1))
            case rel => exact ⟨k + 1, commitD s17 lp, G17, κ17, ws ++ [r], A9, c9, L6, nb, cN, tc, T, by omega, rfl, by first | rfl | go_num, by simp, HT19, HL19, HI18, HF17, HO19, HWS9, hide ⟨HG19.out, HC9.out, HG.out.2.2⟩, hide ⟨by rw [List.length_append]; have := HK.out; show ws.length + 1 ≤ _; omega, by have := HBRK.out; omega⟩⟩
            case measure => have := HGH.out; omega
  case rest =>
    obtain ⟨Dk, G, κ, ws, Aw, cw, rfl, HT, HL, HI, HF, HO, HWS⟩ := hcut
    have HBr : Hid (Below w3.heap.size w3 wc) := hide (HW34.out.trans ((HT.out.mono HW34.out.size (S' := fun _ => False) (fun k hk h => by
      have := HDR.out
      rcases h with h | h <;> omega)).below fun _ _ h => h))
    have HBW := hide (HB3.out.trans (HBr.out.mono HB3.out.size))
    have HD32 := hide (show 32 ≤ Dk.length from by rw [HI.out.1]; exact HNN.out.2.1)
    clear HG8 HB8 HL8 HNB
    go_wp2_with fail
    refine (begin_ok HL.out HD32.out).mono ?_
    rintro e w10 ⟨tt, mq, rfl, htt, hmq, hx10, hb10⟩
    obtain ⟨ii, hii⟩ : ∃ ii : Ids, Ids.mk tt mq i.ll i.dd i.rr = ii := ⟨_, rfl⟩
    have htt' : tt = ii.tt := by rw [← hii]
    rw [hii] at hx10
    subst htt'
    have HX10 := hide hx10
    have HB10 := hide hb10
    have HOL := hide (show ∀ k, ii.own k → w.heap.size ≤ k from by
      have h0 := HBW.out.size
      have h1 := HDR.out
      have h2 := HB3.out.size
      rintro k (e | e | e | e)
      · omega
      · rw [← hii] at e; simp only at e; omega
      · rw [← hii] at e; simp only at e; omega
      · rw [← hii] at e; simp only at e; omega)
    clear hii htt hmq hx10 hb10 HDR
    go_wp2_with fail
    refine (HOP.out w10 (HIN.out.below (HBr.out.trans (HB10.out.mono HBr.out.size))) ii.tt).mono ?_
    rintro e w11 ⟨gg, rfl, -, hG11, hb11⟩
    have hug : u.Ok Dk.length := by rw [HI.out.1]; exact HGO.out.1
    have HA11 : Hid (GAt w11 ii ⟨Dk, [], 0⟩ gg u lk G) := hide ⟨HX10.out.below hb11, hG11, hug, HI.out.2.1, HI.out.2.2.1⟩
    have HB11 := hide (HB10.out.trans (hb11.mono HB10.out.size))
    have HBW11 := hide (HBW.out.trans (HB11.out.mono HBW.out.size))
    have HO11 := hide (own_below HO.out HB11.out)
    clear hug hG11 hb11 HX10 HB10 HO HT HL
    obtain ⟨N, hN⟩ : ∃ N, ws.length = N := ⟨_, rfl⟩
    have HNW := hide hN
    have hli := fun (W : World) (hW : GAt W ii ⟨Dk, [], 0⟩ gg u lk G) => alist_ok hW (by have := HGO.out; omega) (by rw [HF.out.2.2.1]; decide) rfl HF.out.2.1 HF.out.1 (by have := encs_le (fun r hr => (HWS.out.1 r hr).2.1); have := HWS.out.2; omega) (fun r hr => ⟨(HWS.out.1 r hr).1, (HWS.out.1 r hr).2.1⟩) (by have := HWS.out.2; omega)
    have HLI := hide hli
    rw [hN]
    clear hN hli
    go_wp2_with fail
    refine (HLI.out w11 HA11.out).mono ?_
    rintro e w12 ⟨Ao, co, rs', rfl, hco, hown, hrs', ha12, ht12⟩
    rw [HNW.out] at hown ⊢
    have HA12 := hide ha12
    have HCO := hide (And.intro hco (And.intro hown hrs'))
    have HT12 := hide ht12
    have HO12 := hide (own_txr HO11.out HA11.out.tx ht12)
    clear hco hown hrs' ha12 ht12 HO11 HA11
    go_wp2_with fail
    go_loopg [148] N (fun gh x148 wr => ∃ k : Nat, k ≤ N ∧ gh = N - k ∧ x148 = .int .i64 (k : Int) ∧ Hid (GAt wr ii ⟨Dk, [], 0⟩ gg u lk G) ∧ Hid (Tch w12.heap.size ii.own w12 wr))
    case atStart => exact ⟨0, Nat.zero_le _, rfl, rfl, HA12, hide (Tch.refl _ _ _)⟩
    case round =>
      obtain ⟨k, hk, hgh, rfl, HAr, HTr⟩ := hrel
      have HGH := hide hgh
      clear hgh
      have e64 : IntKind.i64.wrap ((k : Int) + 1) = (k : Int) + 1 := IntWalk.i64_in _ (by have := HWS.out.2; have := HNW.out; omega)
      rcases Nat.lt_or_ge k N with hkl | hkl
      rotate_left
      · have t1 : decide ((k : Int) < (N : Int)) = false := by simp; omega
        have t1' : ¬ (k : Int) < (N : Int) := by omega
        obtain rfl : k = N := by omega
        have hfo := fun (W : World) (hW : GAt W ii ⟨Dk, [], 0⟩ gg u lk G) (x : Int) (hx : x < 0 ∨ ((ws.length : Nat) : Int) ≤ x) => afind_out (k := x) hW HLI.out hx
        have HFO := hide hfo
        clear hkl hk hfo
        go_wp2_with fail
        refine (HFO.out wr HAr.out (k : Int) (by have := HNW.out; omega)).mono ?_
        rintro e w14 ⟨rfl, ha14, ht14⟩
        have HA14 := hide ha14
        have HT14 := hide (HTr.out.trans (ht14.mono HTr.out.size fun _ _ h => h))
        unfold rec0
        clear ha14 ht14
        go_upto_region 40 with fail
        refine at_world (fun W => Below w14.heap.size w14 W) ((Below.refl _ _).alloc (Nat.le_refl _) _) (fun w14' hb14' => ?_)
        have HA14' := hide (HA14.out.below hb14')
        have HT14' := hide (HT14.out.trans ((Tch.of_below hb14').mono HT14.out.size fun _ _ h => h))
        clear hb14'
        go_wp2_with fail
        refine (HFO.out w14' HA14'.out (-1) (by omega)).mono ?_
        rintro e w15 ⟨rfl, ha15, ht15⟩
        have HT15 := hide (HT14'.out.trans (ht15.mono HT14'.out.size fun _ _ h => h))
        unfold rec0
        clear ha15 ht15
        have HFIN : Hid (Below w.heap.size w w15) := hide (HBW11.out.trans (((HT12.out.trans (HT15.out.mono HT12.out.size fun _ _ h => h)).mono HBW11.out.size (S' := fun _ => False) (fun b hb hS => by have := HOL.out b hS; omega)).below fun _ _ h => h))
        go_wp2
        go_ret
        exact ⟨rfl, HFIN.out.alloc HFIN.out.size _⟩
      · have t1 : decide ((k : Int) < (N : Int)) = true := by simp; omega
        have t1' : (k : Int) < (N : Int) := by omega
        obtain ⟨r, hr⟩ : ∃ r, ws[k]? = some r := ⟨_, List.getElem?_eq_getElem (by rw [HNW.out]; exact hkl)⟩
        have hlen : rs'.length = N := by have := congrArg List.length HCO.out.1; simpa [HNW.out] using this
        obtain ⟨g, hg⟩ : ∃ g, rs'[k]? = some g := ⟨_, List.getElem?_eq_getElem (by rw [hlen]; exact hkl)⟩
        have hgr : g.core = r.core := by
          have h1 : (rs'.map RecV.core)[k]? = some g.core := by rw [List.getElem?_map, hg]; rfl
          have h2 : (ws.map RecV.core)[k]? = some r.core := by rw [List.getElem?_map, hr]; rfl
          rw [HCO.out.1, h2] at h1
          exact (Option.some.inj h1).symm
        have hfi := fun (W : World) (hW : GAt W ii ⟨Dk, [], 0⟩ gg u lk G) => afind_in hW HLI.out hr (by have := HWS.out.2; omega)
        have HFI := hide hfi
        have HRK := hide (And.intro hr (And.intro hg hgr))
        clear hfi hr hg hgr hlen hk
        go_wp2_with fail
        refine (HFI.out wr HAr.out).mono ?_
        rintro e w14 ⟨x, rfl, hcx, hox, ha14, ht14⟩
        obtain ⟨nl, hnl⟩ : ∃ nl, r.l.length = nl := ⟨_, rfl⟩
        obtain ⟨cx, lx⟩ := core_cells hcx
        obtain ⟨cg, lg⟩ := core_cells HRK.out.2.2
        have hcr : r.cells = [.int .u32 (r.s : Int), .int .u8 (r.f : Int), .int .u8 (r.t : Int), .slice r.A nl r.c] := by rw [← hnl]; rfl
        rw [hnl] at cx cg
        have ha14' := hide ha14
        have HA14 := hide ha14
        have HT14 := hide (HTr.out.trans (ht14.mono HTr.out.size fun _ _ h => h))
        have HOX : Hid (Rd w14 w14.heap.size 1 x.A nl (bvs r.l)) := hide (by
          have := Rd.of_own hox
          rw [lx, hnl] at this
          exact this)
        have ho14 := own_txr (own_txr HO12.out HA12.out.tx HTr.out) HAr.out.tx ht14
        rw [HNW.out] at ho14
        obtain ⟨bw, rfl, hbw, hrw⟩ := rec_range ho14 (by omega)
        have hg14 := own_txr (own_txr HCO.out.2.1 HA12.out.tx HTr.out) HAr.out.tx ht14
        obtain ⟨bg, rfl, hbg, hrg⟩ := rec_range hg14 (by omega)
        have hrw' := hrw k r HRK.out.1
        have hrg' := hrg k g HRK.out.2.1
        rw [hcr] at hrw'
        rw [cg] at hrg'
        have HRW := hide hrw'
        have HRG := hide hrg'
        have HBD := hide (And.intro hbw hbg)
        have hg0 : Rd w14 w14.heap.size 1 g.A nl (bvs r.l) := by
          have h0 := HCO.out.2.2 g (List.mem_of_getElem? HRK.out.2.1)
          have h1 := own_from (own_from h0 HTr.out (fun b cur hB => HA12.out.tx.other hB (by decide) (by decide) (by decide))) ht14 (fun b cur hB => HAr.out.tx.other hB (by decide) (by decide) (by decide))
          have h2 := Rd.of_own h1
          rw [lg, hnl] at h2
          exact h2
        have HOG := hide hg0
        have hbw14 : Below w.heap.size w w14 := HBW11.out.trans ((((HT12.out.trans (HTr.out.mono HT12.out.size fun _ _ h => h)).trans (ht14.mono (HT12.out.trans (HTr.out.mono HT12.out.size fun _ _ h => h)).size fun _ _ h => h)).mono HBW11.out.size (S' := fun _ => False) (fun b hb hS => by have := HOL.out b hS; omega)).below fun _ _ h => h)
        have hr0 : Rd w14 w14.heap.size 1 r.A nl (bvs r.l) := by
          have h0 := (HRS.out.2.2 r (HWS.out.1 r (List.mem_of_getElem? HRK.out.1)).2.2).2
          rw [hnl] at h0
          exact (h0.below hbw14).more hbw14.size
        have HOR := hide hr0
        clear hnl lx lg hox ha14 ht14 ho14 hg14 hrw hrg hrw' hrg' hbw hbg hg0 hr0 HFI hcx
        rw [cx]
        clear cx cg hcr
        go_upto_region 36 with (fail)
        refine at_world (fun W => ∃ q, q = w14.heap.size ∧ Below w14.heap.size w14 W ∧ Blk W q 51 #[.int .u32 (r.s : Int), .int .u8 (r.f : Int), .int .u8 (r.t : Int), .slice x.A nl x.c]) ⟨_, rfl, (Below.refl _ _).alloc (Nat.le_refl _) _, Blk.new _ _ _⟩ (fun w16 h16 => ?_)
        obtain ⟨q, hq, hb16, hQ⟩ := h16
        rw [← hq]
        have HA16 := hide (HA14.out.below hb16)
        have HT16 := hide (HT14.out.trans ((Tch.of_below hb16).mono HT14.out.size fun _ _ h => h))
        have HRW16 := hide (rangeAt_below HRW.out HBD.out.1 hb16)
        have HRG16 := hide (rangeAt_below HRG.out HBD.out.2 hb16)
        have HOX16 := hide ((HOX.out.below hb16).more hb16.size)
        have HOG16 := hide ((HOG.out.below hb16).more hb16.size)
        have HOR16 := hide ((HOR.out.below hb16).more hb16.size)
        have HBD16 := hide (And.intro (Nat.lt_of_lt_of_le HBD.out.1 hb16.size) (Nat.lt_of_lt_of_le HBD.out.2 hb16.size))
        have HQ16 := hide hQ
        clear hq hb16 hQ HRW HRG HOX HOG HOR HBD HA14 HT14 ha14' hbw14 HAr HTr
        refine wp_region_text [0, 0, 0, 0, 0, 0, 0, 0, 1, 0, 0, 0, 0, 0, 0, 0, 0, 0, 0, 0, 1, 0, 0] (fun W => Below w16.heap.size w16 W) (by kernel_rfl) (by kernel_rfl) (Below.refl _ _).drew ?_
        iterate 3 (refine wpOrd_q (v := ?_) (by rfl) (fun W hW => ?_) ?_; rotate_left; (focus (go_simp; try with_reducible rfl)); try simp only [Act.put, List.setIfInBounds_toArray, List.set_cons_zero, List.set_cons_succ])
        refine wpOrd_q (v := .agg #[.int .u32 (r.s : Int), .int .u8 (r.f : Int), .int .u8 (r.t : Int), .slice x.A nl x.c]) (by rfl) (fun W hW => exec_load_blk 51 (.tmp 29) rfl q _ _ _ rfl (HQ16.out.below hW HQ16.out.lt) Tryz.underlying51 rfl size_rec0) ?_
        try simp only [Act.put, List.setIfInBounds_toArray, List.set_cons_zero, List.set_cons_succ]
        iterate 3 (refine wpOrd_q (v := ?_) (by rfl) (fun W hW => ?_) ?_; rotate_left; (focus (go_simp; try with_reducible rfl)); try simp only [Act.put, List.setIfInBounds_toArray, List.set_cons_zero, List.set_cons_succ])
        refine wpOrd_q (v := .agg #[.int .u32 (r.s : Int), .int .u8 (r.f : Int), .int .u8 (r.t : Int), .slice r.A nl r.c]) (by rfl) (fun W hW => exec_load_mid 51 (.tmp 163) rfl bw _ rfl [.int .u32 (r.s : Int), .int .u8 (r.f : Int), .int .u8 (r.t : Int), .slice r.A nl r.c] _ (rangeAt_below HRW16.out HBD16.out.1 hW) Tryz.underlying51 rfl size_rec0) ?_
        try simp only [Act.put, List.setIfInBounds_toArray, List.set_cons_zero, List.set_cons_succ]
        refine wpOrd_x (by rfl) (fun KK hKK => ?_)
        go_simp
        refine (au_same_yes _ _ _ x.A r.A nl x.c nl r.c r.l _ HOX16.out.drew HOR16.out.drew).mono ?_
        rintro e w17 ⟨rfl, hb17⟩
        have hb17' : Below w16.heap.size w16 w17 := (Below.refl _ _).drew.trans hb17
        refine hKK _ _ _ (fun _ h => h) hb17' ?_
        have HB17 := hide hb17'
        clear hb17 hb17' hKK KK
        try simp only [Act.put, List.setIfInBounds_toArray, List.set_cons_zero, List.set_cons_succ]
        iterate 6 (refine wpOrd_q (v := ?_) (by rfl) (fun W hW => ?_) ?_; rotate_left; (focus (go_simp; try with_reducible rfl)); try simp only [Act.put, List.setIfInBounds_toArray, List.set_cons_zero, List.set_cons_succ])
        refine wpOrd_q (v := .agg #[.int .u32 (r.s : Int), .int .u8 (r.f : Int), .int .u8 (r.t : Int), .slice g.A nl g.c]) (by rfl) (fun W hW => exec_load_mid 51 (.tmp 171) rfl bg _ rfl [.int .u32 (r.s : Int), .int .u8 (r.f : Int), .int .u8 (r.t : Int), .slice g.A nl g.c] _ (rangeAt_below HRG16.out HBD16.out.2 hW) Tryz.underlying51 rfl size_rec0) ?_
        try simp only [Act.put, List.setIfInBounds_toArray, List.set_cons_zero, List.set_cons_succ]
        iterate 3 (refine wpOrd_q (v := ?_) (by rfl) (fun W hW => ?_) ?_; rotate_left; (focus (go_simp; try with_reducible rfl)); try simp only [Act.put, List.setIfInBounds_toArray, List.set_cons_zero, List.set_cons_succ])
        refine wpOrd_q (v := .agg #[.int .u32 (r.s : Int), .int .u8 (r.f : Int), .int .u8 (r.t : Int), .slice r.A nl r.c]) (by rfl) (fun W hW => exec_load_mid 51 (.tmp 175) rfl bw _ rfl [.int .u32 (r.s : Int), .int .u8 (r.f : Int), .int .u8 (r.t : Int), .slice r.A nl r.c] _ (rangeAt_below HRW16.out HBD16.out.1 hW) Tryz.underlying51 rfl size_rec0) ?_
        try simp only [Act.put, List.setIfInBounds_toArray, List.set_cons_zero, List.set_cons_succ]
        refine wpOrd_x (by rfl) (fun KK hKK => ?_)
        go_simp
        refine (au_same_yes _ _ _ g.A r.A nl g.c nl r.c r.l _ ((HOG16.out.below HB17.out).more HB17.out.size) ((HOR16.out.below HB17.out).more HB17.out.size)).mono ?_
        rintro e w18 ⟨rfl, hb18⟩
        have hb18' : Below w16.heap.size w16 w18 := HB17.out.trans (hb18.mono HB17.out.size)
        refine hKK _ _ _ (fun _ h => h) hb18' ?_
        have HB18 := hide hb18'
        clear hb18 hb18' hKK KK
        try simp only [Act.put, List.setIfInBounds_toArray, List.set_cons_zero, List.set_cons_succ]
        iterate 2 (refine wpOrd_q (v := ?_) (by rfl) (fun W hW => ?_) ?_; rotate_left; (focus (go_simp; try with_reducible rfl)); try simp only [Act.put, List.setIfInBounds_toArray, List.set_cons_zero, List.set_cons_succ])
        refine wpOrd_nil ?_
        have HA18 := hide (HA16.out.below HB18.out)
        have HT18 := hide (HT16.out.trans ((Tch.of_below HB18.out).mono HT16.out.size fun _ _ h => h))
        clear HA16 HT16 HB18 HB17 HRW16 HRG16 HOX16 HOG16 HOR16 HBD16 HQ16
        go_wp2_with fail
        go_roundg (N - (k + 1))
        case rel => exact ⟨k + 1, by omega, rfl, by first | rfl | go_num, HA18, HT18⟩
        case measure => have := HGH.out; omega
end
end Go.Proofs.YthmkgohfeahdhaaGreat
namespace Go.Proofs.YthmkgohfeahdhaaGreat
open Go.RowKit Go.ChangeShapes Go.WideShapes Go.ChangeAt Go.Joins Go.Deep
set_option linter.unusedSimpArgs false
set_option linter.unusedVariables false

section
variable {H : Type} {enc : TypeId × Value → H} {P : Program} {w : World} {base : Nat} {held : Bool} {fuel : Nat} {t e eb : TypeId} {v : Value} {r : Reach} {b0 : Nat} {d : DataW H} {ps : List MemPlace}
theorem some_of_get {α : Type} {xs : List α} {n i : Nat} (h : xs.length = n) (hi : i < n) : ∃ y, xs[i]? = some y := ⟨xs[i]'(by omega), List.getElem?_eq_getElem _⟩
theorem flat_len {α : Type} (f : α → List Value) (sz : Nat) (hf : ∀ a, (f a).length = sz) : ∀ l : List α, (l.flatMap f).length = l.length * sz
  | [] => by simp
  | a :: r => by rw [List.flatMap_cons, List.length_append, hf, flat_len f sz hf r, List.length_cons, Nat.add_mul, Nat.one_mul, Nat.add_comm]
/-- a slice of structs of sz cells each -/
theorem open_rows {α : Type} [Inhabited α] (cells : α → List Value) (sz : Nat) (hlen : ∀ a, (cells a).length = sz) (h0 : 0 < sz) (ht : P.underlying t = some (.slice e)) (hC : P.cellsOf e = sz)
    (hel : ∀ (m : Nat) cs (x : DataW H × List MemPlace), cs.length = sz → DataW.trod enc P w base (fun _ => true) held m e cs = some x → ∃ a, cells a = cs)
    (hval : Value.okWide P w r b0 t v) (h : DataW.Trod enc P w base (fun _ => true) held t v d ps) : ∃ (A : Option Addr) (n c : Nat) (L : List α), v = .slice A n c ∧ L.length = n ∧ n ≤ c ∧ c ≤ maxLen ∧ Rd w w.heap.size sz A n (L.flatMap cells) := by
  obtain ⟨A, n, c, rfl⟩ := okWide_slice ht hval
  obtain ⟨fuel, hf⟩ := h
  rcases open_slice ht (by simpa [Value.cells] using hf) with ⟨hcs, _⟩ | ⟨a, len, cap, m, n', D, Pl, hcs, _, hl, hml, hm, _, hx⟩
  · obtain ⟨rfl, rfl, rfl⟩ : A = none ∧ n = 0 ∧ c = 0 := by simpa using hcs
    exact ⟨none, 0, 0, [], rfl, rfl, Nat.le_refl _, Nat.zero_le _, by simp, fun h => absurd h (Nat.lt_irrefl _)⟩
  · obtain ⟨rfl, rfl, rfl⟩ : A = some a ∧ n = len ∧ c = cap := by simpa using hcs
    simp only [if_true] at hm
    subst hm
    obtain ⟨f, hf⟩ := choose_lt (α := α) (n := n) (p := fun i x => ∀ j v, (cells x)[j]? = some v → w.cell? (a.add (i * sz + j)) = some v) (fun i hi => by
      obtain ⟨cs', h1, h2⟩ := hx i (by omega)
      rw [hC] at h1
      obtain ⟨_, hlen', hcell⟩ := World.cells?_some h1
      obtain ⟨x, hx⟩ := hel _ _ _ hlen' h2
      refine ⟨x, fun j v hv => ?_⟩
      have hj : j < sz := by
        rcases Nat.lt_or_ge j sz with h | h
        · exact h
        · rw [List.getElem?_eq_none (by rw [hlen]; exact h)] at hv; cases hv
      have h3 := hcell j hj
      rw [add_add] at h3
      rw [h3, ← hx]
      exact hv)
    have hlL : ((List.range n).map f).length = n := by simp
    refine ⟨some a, n, _, (List.range n).map f, rfl, hlL, hl, hml, ?_, fun hn => ?_⟩
    · rw [flat_len cells sz hlen, hlL]
    have hc0 := hf 0 hn 0 ((cells (f 0))[0]'(by rw [hlen]; exact h0)) (List.getElem?_eq_getElem _)
    have hspot : a.spot = none := by simpa [Addr.add] using World.cell?_spot hc0
    obtain ⟨b, o, spot⟩ := a
    simp only at hspot
    subst hspot
    have hb : b < w.heap.size := by
      have := World.block_lt_of_cell? w _ hc0
      simpa [Addr.add] using this
    refine ⟨b, o, rfl, hb, fun j u hu => ?_⟩
    have hadd : ∀ j, (⟨b, o, none⟩ : Addr).add j = ⟨b, o + j, none⟩ := by intro j; unfold Addr.add; split <;> simp_all
    have hjl : j < n * sz := by
      have := (List.getElem?_eq_some_iff.1 hu).1
      rw [flat_len cells sz hlen, hlL] at this
      exact this
    have hi : j / sz < n := Nat.div_lt_of_lt_mul (by rw [Nat.mul_comm]; exact hjl)
    have hg := flat_get cells sz hlen ((List.range n).map f) (j / sz) (f (j / sz)) (by rw [List.getElem?_map, List.getElem?_range hi]; rfl) (j % sz)
    have hjm : j % sz < (cells (f (j / sz))).length := by rw [hlen]; exact Nat.mod_lt _ h0
    have h4 := hg _ (List.getElem?_eq_getElem hjm)
    have ej : j / sz * sz + j % sz = j := by rw [Nat.mul_comm]; exact Nat.div_add_mod _ _
    rw [ej] at h4
    rw [h4] at hu
    injection hu with hu
    have h5 := hf (j / sz) hi (j % sz) _ (List.getElem?_eq_getElem hjm)
    rw [hadd, ej] at h5
    rw [h5, ← hu]
theorem open_reg_cells {f0 f1 f2 f3 f4 f5 f6 f7 g0 g1 : Field} (he : P.underlying e = some (.struct #[f0, f1, f2, f3, f4, f5, f6, f7]))
    (ho : (f0.offset, P.cellsOf f0.type) = (0, 1) ∧ (f1.offset, P.cellsOf f1.type) = (1, 2) ∧ (f2.offset, P.cellsOf f2.type) = (3, 1) ∧ (f3.offset, P.cellsOf f3.type) = (4, 1) ∧ (f4.offset, P.cellsOf f4.type) = (5, 1) ∧ (f5.offset, P.cellsOf f5.type) = (6, 1) ∧ (f6.offset, P.cellsOf f6.type) = (7, 1) ∧ (f7.offset, P.cellsOf f7.type) = (8, 1))
    (t0 : P.underlying f0.type = some .string) (t1 : P.underlying f1.type = some (.struct #[g0, g1])) (hone : oneCellFields P #[g0, g1] = true) (u0 : P.underlying g0.type = some (.int .u8)) (u1 : P.underlying g1.type = some (.int .u16))
    (t2 : P.underlying f2.type = some (.int .i64)) (t3 : P.underlying f3.type = some (.int .i64)) (t4 : P.underlying f4.type = some (.int .i64)) (t5 : P.underlying f5.type = some (.int .i64)) (t6 : P.underlying f6.type = some (.int .i64)) (t7 : P.underlying f7.type = some (.int .i64))
    (m : Nat) (cs : List Value) (x : DataW H × List MemPlace) (hl : cs.length = 9) (h2 : DataW.trod enc P w base (fun _ => true) held m e cs = some x) : ∃ a : RegV, a.cells = cs := by
  obtain ⟨xs, k, _, _, _, hxl, hfd⟩ := DataW.trod_struct he h2
  obtain ⟨o0, o1, o2, o3, o4, o5, o6, o7⟩ := ho
  simp only [Prod.mk.injEq] at o0 o1 o2 o3 o4 o5 o6 o7
  match cs, hl with
  | [v0, v1, v2, v3, v4, v5, v6, v7, v8], _ =>
    obtain ⟨y0, z0⟩ := some_of_get (i := 0) hxl (by simp)
    obtain ⟨y1, z1⟩ := some_of_get (i := 1) hxl (by simp)
    obtain ⟨y2, z2⟩ := some_of_get (i := 2) hxl (by simp)
    obtain ⟨y3, z3⟩ := some_of_get (i := 3) hxl (by simp)
    obtain ⟨y4, z4⟩ := some_of_get (i := 4) hxl (by simp)
    obtain ⟨y5, z5⟩ := some_of_get (i := 5) hxl (by simp)
    obtain ⟨y6, z6⟩ := some_of_get (i := 6) hxl (by simp)
    obtain ⟨y7, z7⟩ := some_of_get (i := 7) hxl (by simp)
    have q0 := (hfd 0 f0 rfl).trans z0
    have q1 := (hfd 1 f1 rfl).trans z1
    have q2 := (hfd 2 f2 rfl).trans z2
    have q3 := (hfd 3 f3 rfl).trans z3
    have q4 := (hfd 4 f4 rfl).trans z4
    have q5 := (hfd 5 f5 rfl).trans z5
    have q6 := (hfd 6 f6 rfl).trans z6
    have q7 := (hfd 7 f7 rfl).trans z7
    rw [o0.1, o0.2] at q0
    rw [o1.1, o1.2] at q1
    rw [o2.1, o2.2] at q2
    rw [o3.1, o3.2] at q3
    rw [o4.1, o4.2] at q4
    rw [o5.1, o5.2] at q5
    rw [o6.1, o6.2] at q6
    rw [o7.1, o7.2] at q7
    obtain ⟨s, hs, _⟩ := DataW.trod_string t0 q0
    obtain rfl : v0 = .string s := by simpa using hs
    obtain ⟨xs', n', _, _, _, hxl', hfd'⟩ := DataW.trod_struct t1 q1
    obtain ⟨p0, w0⟩ := some_of_get (i := 0) hxl' (by simp)
    obtain ⟨p1, w1⟩ := some_of_get (i := 1) hxl' (by simp)
    have r0 := (hfd' 0 g0 rfl).trans w0
    have r1 := (hfd' 1 g1 rfl).trans w1
    obtain ⟨a0, b0⟩ := hone_of hone 0 g0 rfl
    obtain ⟨a1, b1⟩ := hone_of hone 1 g1 rfl
    rw [a0, b0] at r0
    rw [a1, b1] at r1
    obtain ⟨lv, rfl, hlv⟩ := open_u8_cell (enc := enc) (held := held) u0 r0
    obtain ⟨ct, rfl, hct⟩ := open_u16_cell (enc := enc) (held := held) u1 r1
    obtain ⟨n2, rfl, _⟩ := open_i64_cell (enc := enc) (held := held) t2 q2
    obtain ⟨n3, rfl, _⟩ := open_i64_cell (enc := enc) (held := held) t3 q3
    obtain ⟨n4, rfl, _⟩ := open_i64_cell (enc := enc) (held := held) t4 q4
    obtain ⟨n5, rfl, _⟩ := open_i64_cell (enc := enc) (held := held) t5 q5
    obtain ⟨n6, rfl, _⟩ := open_i64_cell (enc := enc) (held := held) t6 q6
    obtain ⟨n7, rfl, _⟩ := open_i64_cell (enc := enc) (held := held) t7 q7
    refine ⟨⟨s.data.toList, UInt8.ofNat lv, UInt16.ofNat ct, n2, n3, n4, n5, n6, n7⟩, ?_⟩
    have e1 : (UInt8.ofNat lv).toNat = lv := by simp [UInt8.toNat_ofNat']; omega
    have e2 : (UInt16.ofNat ct).toNat = ct := by simp [UInt16.toNat_ofNat']; omega
    simp only [RegV.cells, e1, e2]
theorem open_mark_cells {g0 g1 : Field} (he : P.underlying e = some (.struct #[g0, g1])) (hone : oneCellFields P #[g0, g1] = true) (u0 : P.underlying g0.type = some (.int .u8)) (u1 : P.underlying g1.type = some (.int .u16))
    (m : Nat) (cs : List Value) (x : DataW H × List MemPlace) (hl : cs.length = 2) (h2 : DataW.trod enc P w base (fun _ => true) held m e cs = some x) : ∃ a : MarkV, markCells a = cs := by
  obtain ⟨xs', n', _, _, _, hxl', hfd'⟩ := DataW.trod_struct he h2
  match cs, hl with
  | [v0, v1], _ =>
    obtain ⟨p0, w0⟩ := some_of_get (i := 0) hxl' (by simp)
    obtain ⟨p1, w1⟩ := some_of_get (i := 1) hxl' (by simp)
    have r0 := (hfd' 0 g0 rfl).trans w0
    have r1 := (hfd' 1 g1 rfl).trans w1
    obtain ⟨a0, b0⟩ := hone_of hone 0 g0 rfl
    obtain ⟨a1, b1⟩ := hone_of hone 1 g1 rfl
    rw [a0, b0] at r0
    rw [a1, b1] at r1
    obtain ⟨lv, rfl, hlv⟩ := open_u8_cell (enc := enc) (held := held) u0 r0
    obtain ⟨ct, rfl, hct⟩ := open_u16_cell (enc := enc) (held := held) u1 r1
    refine ⟨(UInt8.ofNat lv, UInt16.ofNat ct), ?_⟩
    have e1 : (UInt8.ofNat lv).toNat = lv := by simp [UInt8.toNat_ofNat']; omega
    have e2 : (UInt16.ofNat ct).toNat = ct := by simp [UInt16.toNat_ofNat']; omega
    simp only [markCells, e1, e2]
end
end Go.Proofs.YthmkgohfeahdhaaGreat
namespace Go.Proofs.YthmkgohfeahdhaaGreat
open Go.RowKit Go.ChangeShapes Go.WideShapes Go.ChangeAt Go.Joins Go.Deep
set_option linter.unusedSimpArgs false
set_option linter.unusedVariables false

section
variable {H : Type} {enc : TypeId × Value → H} {P : Program} {w : World} {base : Nat} {held : Bool} {fuel : Nat} {t e eb : TypeId} {v : Value} {r : Reach} {b0 : Nat} {d : DataW H} {ps : List MemPlace}
/-- a record that may be read -/
abbrev RecIn (w : World) := {a : RecV // a.Ok ∧ Rd w w.heap.size 1 a.A a.l.length (bvs a.l)}
instance : Inhabited (RecIn w) := ⟨⟨⟨0, 0, 0, none, [], 0⟩, ⟨by decide, by decide, by decide⟩, Rd.nil _ _ _ _⟩⟩
theorem open_rec_cells {g0 g1 g2 g3 : Field} (he : P.underlying e = some (.struct #[g0, g1, g2, g3])) (hone : oneCellFields P #[g0, g1, g2, g3] = true)
    (u0 : P.underlying g0.type = some (.int .u32)) (u1 : P.underlying g1.type = some (.int .u8)) (u2 : P.underlying g2.type = some (.int .u8)) (u3 : P.underlying g3.type = some (.slice eb)) (ub : P.underlying eb = some (.int .u8)) (uc : P.cellsOf eb = 1)
    (m : Nat) (cs : List Value) (x : DataW H × List MemPlace) (hl : cs.length = 4) (h2 : DataW.trod enc P w base (fun _ => true) held m e cs = some x) : ∃ a : RecIn w, a.1.cells = cs := by
  obtain ⟨xs', n', _, _, _, hxl', hfd'⟩ := DataW.trod_struct he h2
  match cs, hl with
  | [v0, v1, v2, v3], _ =>
    obtain ⟨p0, w0⟩ := some_of_get (i := 0) hxl' (by simp)
    obtain ⟨p1, w1⟩ := some_of_get (i := 1) hxl' (by simp)
    obtain ⟨p2, w2⟩ := some_of_get (i := 2) hxl' (by simp)
    obtain ⟨p3, w3⟩ := some_of_get (i := 3) hxl' (by simp)
    have r0 := (hfd' 0 g0 rfl).trans w0
    have r1 := (hfd' 1 g1 rfl).trans w1
    have r2 := (hfd' 2 g2 rfl).trans w2
    have r3 := (hfd' 3 g3 rfl).trans w3
    obtain ⟨a0, b0⟩ := hone_of hone 0 g0 rfl
    obtain ⟨a1, b1⟩ := hone_of hone 1 g1 rfl
    obtain ⟨a2, b2⟩ := hone_of hone 2 g2 rfl
    obtain ⟨a3, b3⟩ := hone_of hone 3 g3 rfl
    rw [a0, b0] at r0
    rw [a1, b1] at r1
    rw [a2, b2] at r2
    rw [a3, b3] at r3
    obtain ⟨s, rfl, hs⟩ := open_u32_cell (enc := enc) (held := held) u0 r0
    obtain ⟨f, rfl, hf⟩ := open_u8_cell (enc := enc) (held := held) u1 r1
    obtain ⟨tt, rfl, ht⟩ := open_u8_cell (enc := enc) (held := held) u2 r2
    obtain ⟨A, n, c, l, rfl, hr, hnc⟩ := open_bytes_cell (enc := enc) (held := held) u3 ub uc r3
    have hl : l.length = n := by have := hr.1; simpa [bvs] using this
    subst hl
    exact ⟨⟨⟨s, f, tt, A, l, c⟩, ⟨hs, hf, ht⟩, hr⟩, rfl⟩
theorem open_recs {g0 g1 g2 g3 : Field} (ht : P.underlying t = some (.slice e)) (hC : P.cellsOf e = 4) (he : P.underlying e = some (.struct #[g0, g1, g2, g3])) (hone : oneCellFields P #[g0, g1, g2, g3] = true)
    (u0 : P.underlying g0.type = some (.int .u32)) (u1 : P.underlying g1.type = some (.int .u8)) (u2 : P.underlying g2.type = some (.int .u8)) (u3 : P.underlying g3.type = some (.slice eb)) (ub : P.underlying eb = some (.int .u8)) (uc : P.cellsOf eb = 1)
    (hval : Value.okWide P w r b0 t v) (h : DataW.Trod enc P w base (fun _ => true) held t v d ps) : ∃ (A : Option Addr) (n c : Nat) (L : List RecV), v = .slice A n c ∧ Rd w w.heap.size 4 A n (flat4 L) ∧ L.length = n ∧ ∀ r ∈ L, r.Ok ∧ Rd w w.heap.size 1 r.A r.l.length (bvs r.l) := by
  obtain ⟨A, n, c, L, rfl, hl, _, _, hR⟩ := open_rows (α := RecIn w) (fun a => a.1.cells) 4 (fun _ => rfl) (by decide) ht hC (fun m cs x hl h2 => open_rec_cells he hone u0 u1 u2 u3 ub uc m cs x hl h2) hval h
  refine ⟨A, n, c, L.map (·.1), rfl, ?_, by rw [List.length_map, hl], fun r hr => ?_⟩
  · unfold flat4
    rw [List.flatMap_map]
    exact hR
  · obtain ⟨a, -, rfl⟩ := List.mem_map.1 hr
    exact a.2
end
end Go.Proofs.YthmkgohfeahdhaaGreat
namespace Go.Proofs.YthmkgohfeahdhaaGreat.lawAuditLists
open Go.ChangeShapes Go.WideShapes Go.ChangeAt Go.RowKit Go.Joins
open Go.ChangeMaps (open_string shut_string)
set_option linter.unusedVariables false

theorem own : ownKnob Tryz.prog.godebug = none := by kernel_rfl
theorem laidOut : laidOutB Tryz.prog = true := by kernel_rfl

set_option maxRecDepth 100000 in
theorem lifted (os : Os) (started : os.Started) (H0 : Type) (enc : TypeId × Value → H0) :
    ReturnsInHanded {} Tryz.checked os 3 .any (Rows.auditListsSpec.pre6 enc Tryz.prog Tryz.f3 Rows.auditListsRow.domain false) (Rows.auditListsSpec.post enc Tryz.prog Tryz.f3 false true false false) := by
  refine returnsInHanded_of_change (C := Tryz.checked) own started (by kernel_rfl) Tryz.func3
    (ChangeSpec.witness6 (enc := enc) (C := Tryz.checked) false ⟨#[], #[.agg #[.int .u8 0, .int .u8 0, .int .u8 0, .int .u8 0, .int .u8 0, .int .u8 0, .int .u8 0, .int .u8 0, .int .u8 0, .int .u8 0, .int .u8 0, .int .u8 0, .int .u8 0, .int .u8 0, .int .u8 0, .int .u8 0, .int .u8 0, .int .u8 0, .int .u8 0, .int .u8 0, .int .u8 0, .int .u8 0, .int .u8 0, .int .u8 0, .int .u8 0, .int .u8 0, .slice none 0 0], .int .u8 0, .slice none 0 0], []⟩ 8 (by kernel_rfl) (by kernel_rfl) (by kernel_rfl) (by kernel_rfl)) ?_
  intro W base args ds gs before hval0 hW hcnd _
  have hval : ∀ (j : Nat) t v, Tryz.f3.params[j]? = some t → args[j]? = some v → Value.okWide Tryz.prog W .any base t v := hval0
  have hW' := hW
  obtain ⟨p, q, hA0, hV, rfl, hfz, hnd⟩ := hW
  have hA : DataW.TrodAll enc Tryz.prog W 0 (fun _ => true) true Tryz.f3.params.toList args.toList ds p := hA0
  rw [Tryz.params3] at hA hval
  obtain ⟨v0, vs0, d0, ds0, p0, q0, hargs, rfl, rfl, h0, r0⟩ := trodAll_cons hA
  obtain ⟨v1, vs1, d1, ds1, p1, q1, rfl, rfl, rfl, h1, r1⟩ := trodAll_cons r0
  obtain ⟨v2, vs2, d2, ds2, p2, q2, rfl, rfl, rfl, h2, r2⟩ := trodAll_cons r1
  obtain ⟨rfl, rfl, rfl⟩ := trodAll_nil r2
  obtain rfl : args = #[v0, v1, v2] := by cases args; simp_all
  obtain ⟨rfl, rfl⟩ := trodVars_none hV
  have k0 := h0
  have lt0 : ∀ x ∈ p0, x.block < W.heap.size := by obtain ⟨m, hm⟩ := k0; exact DataW.trod_lt m _ _ _ hm
  have k1 := h1
  have lt1 : ∀ x ∈ p1, x.block < W.heap.size := by obtain ⟨m, hm⟩ := k1; exact DataW.trod_lt m _ _ _ hm
  have k2 := h2
  have lt2 : ∀ x ∈ p2, x.block < W.heap.size := by obtain ⟨m, hm⟩ := k2; exact DataW.trod_lt m _ _ _ hm
  obtain ⟨m, Hs, A, n, c, T, rfl, hH, hT, hnm⟩ := open_size Tryz.underlying26 (by rfl) (by rfl) (by rfl) (by kernel_rfl) (by kernel_rfl) (by kernel_rfl) (by kernel_rfl) Tryz.underlying5 Tryz.underlying23 Tryz.underlying22 Tryz.underlying5 (by kernel_rfl) (by kernel_rfl) Tryz.underlying24 Tryz.underlying5 (by kernel_rfl) (hval 0 26 v0 rfl rfl) h0
  obtain ⟨lab, rfl, hlab⟩ := open_u8 Tryz.underlying5 (hval 1 5 v1 rfl rfl) h1
  obtain ⟨A2, n2, c2, rs, rfl, hr2, hrn, hro⟩ := open_recs Tryz.underlying27 (by kernel_rfl) Tryz.underlying51 (by kernel_rfl) Tryz.underlying49 Tryz.underlying5 Tryz.underlying5 Tryz.underlying24 Tryz.underlying5 (by kernel_rfl) (hval 2 27 v2 rfl rfl) h2
  clear hA0 hval0
  refine (lists_all hH hT hnm lab hlab hr2 hrn hro).mono fun e W' ⟨he, bel⟩ => ?_
  subst he
  exact ⟨_, rfl, _, _, _, [], _, [], hW', trodAll_mk1 (shut_bool Tryz.underlying4 _), (trodAll_cons_mk (Below.trod laidOut (by kernel_rfl) (of_decide_eq_true (by kernel_rfl)) k0 bel lt0) (trodAll_cons_mk (Below.trod laidOut (by kernel_rfl) (of_decide_eq_true (by kernel_rfl)) k1 bel lt1) (trodAll_cons_mk (Below.trod laidOut (by kernel_rfl) (of_decide_eq_true (by kernel_rfl)) k2 bel lt2) trodAll_mk0))), rfl, bel.frame _, fun h => by cases h⟩

theorem over : Rows.auditListsRow.holds Tryz.pinned (OpenSpec.ofChange Rows.auditListsSpec) :=
  OpenClaim.holds_of_wide 3 Tryz.f3 rfl rfl rfl rfl rfl rfl rfl ⟨rfl, rfl, rfl, rfl, rfl⟩ rfl rfl rfl rfl rfl (by kernel_rfl) Tryz.func3 (by kernel_rfl)
    (of_decide_eq_true (by kernel_rfl)) (by unfold Func.isWrapper; first | (rw [if_pos (by decide +kernel)]; kernel_rfl) | (rw [if_neg (by decide +kernel)]; exact ⟨rfl, rfl⟩))
    (fun os started H0 enc _ => lifted os started H0 enc)

theorem proved : Rows.AuditListsSaid := over
#print axioms proved
end Go.Proofs.YthmkgohfeahdhaaGreat.lawAuditLists

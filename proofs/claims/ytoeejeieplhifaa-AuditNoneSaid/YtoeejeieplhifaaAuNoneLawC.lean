/- AuditNone: a nil group, what isn't records: for every input the law returns true, and its arguments read as they did. -/
import Derived.Test.YtoeejeieplhifaaMFia
import Derived.Test.YtoeejeieplhifaaMFsc
import Derived.Test.YtoeejeieplhifaaMFsd
import Derived.Test.YtoeejeieplhifaaRows
import Derived.WalkKit
import Derived.ProofKit
import Derived.OpenShut
import Derived.ShutString
import Derived.ChangeOld
import Derived.Below
import Derived.Lib.SmallJoins
import Derived.Test.YtoeejeieplhifaaMArg
namespace Go.Proofs.Ytoeejeieplhifaa
open Go.RowKit
set_option linter.unusedSimpArgs false
set_option linter.unusedVariables false

theorem info_u8 : (Try.prog.info? 5).map (fun i => (i.zero, i.size, i.bytes)) = some (some (.int .u8 0), 1, 1) := by kernel_rfl

/-- A record as bytes. -/
def encB (s f t : Nat) (l : List UInt8) : List UInt8 :=
  [UInt8.ofNat (s % 256), UInt8.ofNat (s / 256 % 256), UInt8.ofNat (s / 65536 % 256), UInt8.ofNat (s / 16777216), UInt8.ofNat f, UInt8.ofNat t, UInt8.ofNat l.length] ++ l

theorem encB_head (s f t : Nat) (l : List UInt8) (hs : s < 4294967296) (hf : f < 256) (ht : t < 256) (hl : l.length < 256) :
    (#[Value.int .u8 ((s : Int) % 256), .int .u8 ((s : Int) / 256 % 256), .int .u8 ((s : Int) / 65536 % 256), .int .u8 ((s : Int) / 16777216), .int .u8 f, .int .u8 t, .int .u8 l.length] : Array Value).toList ++ bvs l = bvs (encB s f t l) := by
  simp only [encB, bvs, List.map_append, List.map_cons, List.map_nil]
  rw [bv_ofNat (show s % 256 < 256 by omega), bv_ofNat (show s / 256 % 256 < 256 by omega), bv_ofNat (show s / 65536 % 256 < 256 by omega), bv_ofNat (show s / 16777216 < 256 by omega), bv_ofNat hf, bv_ofNat ht, bv_ofNat hl]
  simp
theorem encB_length (s f t : Nat) (l : List UInt8) : (encB s f t l).length = 7 + l.length := by simp [encB]; omega

set_option maxRecDepth 100000 in
set_option maxHeartbeats 800000 in
theorem aenc_ok (s f t : Nat) (A : Option Addr) (n c : Nat) (l : List UInt8) (w : World) (hs : s < 4294967296) (hf : f < 256) (ht : t < 256) (hn : n ≤ 128)
    (hr : Rd w w.heap.size 1 A n (bvs l)) :
    Calls Try.prog 75 #[.agg #[.int .u32 s, .int .u8 f, .int .u8 t, .slice A n c]] w fun e w' => ∃ A' c', e = .returned (.tuple #[.slice A' (7 + n) c', .int .i64 0]) ∧
      w'.ownsRow w.heap.size 5 1 (.slice A' (7 + n) c') (7 + n) (bvs (encB s f t l)) ∧ Below w.heap.size w w' := by
  have h : (n : Int) ≤ 128 := by omega
  have hl : l.length = n := by have := hr.1; simpa [bvs] using this
  obtain ⟨i0, hi0, hz0, hz1, hz2⟩ := info_parts info_u8
  have HE := hide (encB_head s f t l hs hf ht (by omega))
  rw [hl] at HE
  clear hl
  go_enter Try.func75, Try.ntmps75
  go_wp2_with (at_builtin; refine wpList_append_rd _ rfl (.tmp 32) (.tmp 34) 24 rfl w.heap.size 5 i0 (.int .u8 0) 1 1 Try.underlying24 hi0 hz0 hz1 hz2 rfl (by decide) (.slice (some ⟨w.heap.size + 1, 0, none⟩) 7 7) 7 _ rfl (own_lit rfl (by simp) (by simp) (by simp [maxLen]) rfl) w.heap.size A n c (bvs l) rfl ((hr.alloc (Nat.le_refl _) _).alloc (by simp) _) (bvs_one l) (by simp only [maxLen]; omega) (by omega) (by simp; omega) ?_; intro v' w' hown hg hnil hat)
  obtain ⟨A', c', rfl, hc1, hc2, _⟩ := own_form hown
  go_ret2
  refine ⟨A', c', rfl, ?_, ?_⟩
  · rw [← HE.out]; exact hown
  · exact (((Below.refl _ _).alloc (Nat.le_refl _) _).alloc (by simp) _).grown hg (by simp; omega) (by simp [Value.ownBlock])

set_option maxRecDepth 100000 in
theorem decode_short (A : Option Addr) (n c : Nat) (w : World) (hn : n < 7) :
    Calls Try.prog 76 #[.slice A n c] w fun e w' => e = .returned (.tuple #[.agg #[.int .u32 0, .int .u8 0, .int .u8 0, .slice none 0 0], .int .i64 0, .int .i64 28]) ∧ Below w.heap.size w w' := by
  have h : (n : Int) < 7 := by omega
  go_enter Try.func76, Try.ntmps76
  go_wp2
  go_returns
  exact ⟨rfl, ((Below.refl _ _).alloc (Nat.le_refl _) _)⟩

set_option maxRecDepth 100000 in
set_option maxHeartbeats 800000 in
theorem awake27 (w : World) : Calls Try.prog 40 #[] w fun e w' => e = .returned (.bool true) ∧ Below w.heap.size w w' := by
  have kc := fun (w : World) (C : Array Value) (n c : Nat) => Lib.run_convert_bytes_const (P := Try.prog) w 24 5 C n c Try.underlying24 Try.underlying5
  go_enter Try.func40, Try.ntmps40
  go_wp2_with fail
  clear kc
  refine (aenc_ok 3 1 0 (some ⟨w.heap.size, 0, none⟩) 1 1 [120] _ (by omega) (by omega) (by omega) (by omega) ((Rd.lit (w := w) (xs := bvs [120]) rfl rfl rfl rfl).more (by simp))).mono ?_
  rintro e w1 ⟨A', c', rfl, hown, hb⟩
  have k : (convert 24 9 (.slice A' (7 + 1) c')).run Try.prog w1 = .ok (.string ⟨#[3, 0, 0, 0, 1, 0, 1, 120]⟩) w1 := run_string_rd _ _ _ Try.underlying24 Try.underlying5 Try.underlying9 (Rd.of_own hown)
  go_wp2
  go_ret
  exact ⟨rfl, Below.trans ((Below.refl _ _).alloc (Nat.le_refl _) _) (hb.mono (by simp))⟩
end Go.Proofs.Ytoeejeieplhifaa
namespace Go.Proofs.Ytoeejeieplhifaa
open Go.RowKit
set_option linter.unusedSimpArgs false
set_option linter.unusedVariables false

def rec0 : Array Value := #[.int .u32 0, .int .u8 0, .int .u8 0, .slice none 0 0]
theorem zero_rec (w : World) : (zeroValue 100).run Try.prog w = .ok (.agg rec0) w := by kernel_rfl
theorem build_rec (w : World) : (Instr.build 100 #[]).run Try.prog w = .ok (.agg rec0) w := by kernel_rfl
theorem rec0_one : rec0.all (·.oneCell') = true := by simp [rec0, Value.oneCell']
theorem size_rec : (Try.prog.info? 100).map (·.size) = some rec0.size := by kernel_rfl
set_option maxRecDepth 100000 in
theorem list_nil (w : World) : Calls Try.prog 41 #[.pointer none] w fun e w' => e = .returned (.tuple #[.slice none 0 0, .int .i64 1]) ∧ Below w.heap.size w w' := by
  go_enter Try.func41, Try.ntmps41
  go_wp2_with fail
  refine (none_node w 3).mono ?_
  rintro e w1 ⟨rfl, hb1⟩
  have HB := hide hb1
  clear hb1
  go_upto_region 2 with (first | ((with_reducible refine at_alloc 52 ?_); refine wpList_alloc_as rfl 52 rfl _ (zero_node _) ?_) | ((with_reducible refine at_store 52 (.tmp 4) (.tmp 14) ?_); refine wpList_store_blk rfl 52 (.tmp 4) (.tmp 14) rfl w1.heap.size _ _ _ (by rfl) (by rfl) (Blk.new _ _ _) (size_nodeOf (n := NodeV.zero) rfl) rfl (NodeV.cells_one NodeV.zero) (fun _ => ?_)) | fail)
  refine at_world (fun W => Below w.heap.size w W) (below_setRow (HB.out.alloc HB.out.size _) HB.out.size _) (fun w2 h2 => ?_)
  have H := hide h2
  clear h2
  go_wp2
  go_returns
  exact ⟨rfl, H.out⟩
set_option maxRecDepth 100000 in
theorem find_nil (w : World) (k : Int) : Calls Try.prog 42 #[.pointer none, .int .i64 k] w fun e w' => e = .returned (.tuple #[.agg rec0, .int .i64 1]) ∧ Below w.heap.size w w' := by
  go_enter Try.func42, Try.ntmps42
  go_upto_region 1 with (first | ((with_reducible refine at_alloc 100 ?_); refine wpList_alloc_as rfl 100 rfl _ (zero_rec _) ?_) | fail)
  refine at_world (fun W => ∃ p, p = w.heap.size ∧ Below w.heap.size w W ∧ Blk W p 100 rec0) ⟨_, rfl, (Below.refl _ _).alloc (Nat.le_refl _) _, Blk.new _ _ _⟩ (fun w1 hw1 => ?_)
  obtain ⟨p, hp, hb1, hP⟩ := hw1
  rw [← hp]
  have hwp : w.heap.size ≤ p := Nat.le_of_eq hp.symm
  have HB := hide (And.intro hb1 hP)
  clear hp hb1 hP
  go_wp2_with fail
  refine (list_nil w1).mono ?_
  rintro e w2 ⟨rfl, hb2⟩
  have HP := hide (HB.out.2.below hb2 HB.out.2.lt)
  have HB2 := hide (HB.out.1.trans (hb2.mono HB.out.1.size))
  clear hb2 HB
  go_wp2_with (first | ((with_reducible refine at_build 100 #[] ?_); refine wpList_zero_as rfl 100 rfl _ (build_rec _) ?_) | ((with_reducible refine at_store 100 (.tmp 4) (.tmp 16) ?_); refine wpList_store_blk rfl 100 (.tmp 4) (.tmp 16) rfl p _ _ _ (by rfl) (by rfl) HP.out size_rec rfl rec0_one (fun hB3 => ?_)) | ((with_reducible refine at_end ?_); refine bodyPost_ret (v := .tuple #[.agg rec0, .int .i64 1]) (results_run2 rfl (ResV.row rfl hB3 Try.underlying100 rfl size_rec) rfl) rfl ⟨rfl, below_setRow HB2.out hwp _⟩) | fail)
set_option maxRecDepth 100000 in
theorem append_nil (s f t : Nat) (A : Option Addr) (n c : Nat) (l : List UInt8) (w : World) (hs : s < 4294967296) (hf : f < 256) (ht : t < 256) (hn : n ≤ 128) (hr : Rd w w.heap.size 1 A n (bvs l)) :
    Calls Try.prog 43 #[.pointer none, .agg #[.int .u32 s, .int .u8 f, .int .u8 t, .slice A n c]] w fun e w' => e = .returned (.int .i64 1) ∧ Below w.heap.size w w' := by
  go_enter Try.func43, Try.ntmps43
  go_wp2_with fail
  have hb0 : Below w.heap.size w (w.alloc (.cells #[.int .u32 s, .int .u8 f, .int .u8 t, .slice A n c] 100)) := (Below.refl _ _).alloc (Nat.le_refl _) _
  refine (aenc_ok s f t A n c l _ hs hf ht hn ((hr.below hb0).more hb0.size)).mono ?_
  rintro e w1 ⟨A1, c1, rfl, -, hb1⟩
  have HB := hide (hb0.trans (hb1.mono hb0.size))
  clear hb1 hb0
  go_wp2_with fail
  refine (none_node w1 3).mono ?_
  rintro e w2 ⟨rfl, hb2⟩
  have HB2 := hide (HB.out.trans (hb2.mono HB.out.size))
  clear hb2 HB
  go_upto_region 5 with (first | ((with_reducible refine at_alloc 52 ?_); refine wpList_alloc_as rfl 52 rfl _ (zero_node _) ?_) | ((with_reducible refine at_store 52 (.tmp 7) (.tmp 19) ?_); refine wpList_store_blk rfl 52 (.tmp 7) (.tmp 19) rfl w2.heap.size _ _ _ (by rfl) (by rfl) (Blk.new _ _ _) (size_nodeOf (n := NodeV.zero) rfl) rfl (NodeV.cells_one NodeV.zero) (fun _ => ?_)) | fail)
  refine at_world (fun W => Below w.heap.size w W) (below_setRow (HB2.out.alloc HB2.out.size _) HB2.out.size _) (fun w3 h3 => ?_)
  have H := hide h3
  clear h3
  go_wp2
  go_returns
  exact ⟨rfl, H.out⟩
section
variable {w w' : World} {i : Ids} {s : Sto} {gg : Nat} {g : GeoN} {lab : Int} {G : GS}
set_option maxRecDepth 100000 in
set_option maxHeartbeats 800000 in
/-- a group whose bytes are too few for one -/
theorem list_short {n : NodeV} {sz : Nat} (h : GAt w i s gg g lab G) (h3 : 3 ≤ g.nodes) (hn : G.nd 3 = n) (hk : n.kind ≠ 0) (hsz : n.size.toNat = sz) (h1 : 1 ≤ sz) (h6 : sz ≤ 6) (hr : Rdy G g.blocks n 0) :
    Calls Try.prog 41 #[.pointer (some ⟨gg, 0, none⟩)] w fun e w' => e = .returned (.tuple #[.slice none 0 0, .int .i64 28]) ∧ GAt w' i s gg g lab G ∧ Tch w.heap.size i.own w w' := by
  have hdir : n.dir.length = 6 := by rw [← hn]; exact h.gok.dir 3
  have hnd := gs_node' h (by omega) h3
  rw [hn] at hnd
  have HND := hide hnd
  have HR := hide hr
  have HN := hide (And.intro hn (And.intro hk (And.intro hsz hdir)))
  clear hnd hr hn hk hsz hdir
  go_enter Try.func41, Try.ntmps41
  go_wp2_with fail
  refine HND.out.mono ?_
  rintro e w1 ⟨rfl, ha1, ht1⟩
  have HA1 := hide ha1
  have HT1 := hide ht1
  clear ha1 ht1 HND
  go_upto_region 2 with (first | ((with_reducible refine at_alloc 52 ?_); refine wpList_alloc_as rfl 52 rfl _ (zero_node _) ?_) | ((with_reducible refine at_store 52 (.tmp 4) (.tmp 14) ?_); refine wpList_store_blk rfl 52 (.tmp 4) (.tmp 14) rfl w1.heap.size _ _ _ (by rfl) (by rfl) (Blk.new _ _ _) (size_nodeOf HN.out.2.2.2) (by rw [List.size_toArray, List.size_toArray, NodeV.cells_length HN.out.2.2.2]; rfl) (NodeV.cells_one _) (fun _ => ?_)) | fail)
  refine at_world (fun W => ∃ q, q = w1.heap.size ∧ Below w1.heap.size w1 W ∧ Blk W q 52 n.cells.toArray) ⟨_, rfl, below_setRow ((Below.refl _ _).alloc (Nat.le_refl _) _) (Nat.le_refl _) _, (Blk.new _ _ _).setRow_same _⟩ (fun w2 h2 => ?_)
  obtain ⟨q, hq, hb2, hB2⟩ := h2
  rw [← hq]
  have HA2 := HA1.out.below hb2
  have c3 := hB2.cell 3
  have pl := hB2.lt
  have e3 : n.cells.toArray[3]? = some (.int .u32 (sz : Int)) := by rw [← HN.out.2.2.1]; rfl
  rw [e3] at c3
  have HT2 := hide (HT1.out.trans ((Tch.of_below hb2).mono HT1.out.size fun _ _ h => h))
  have hrd := read_walk (num := 3) (off := 0) (many := sz) (en := sz) (n := n) HA2 (by omega) h3 HN.out.1 HN.out.2.1 (by omega) (by omega) (by rw [HN.out.2.2.1]; omega) (by rw [HN.out.2.2.1]; omega) (fun b _ hb => by
    obtain rfl : b = 0 := by omega
    exact HR.out)
  rw [Nat.sub_zero, show ((3 : Nat) : Int) = 3 from rfl, show ((0 : Nat) : Int) = 0 from rfl] at hrd
  have HRD := hide hrd
  have e4 : IntKind.i64.wrap (sz : Int) = (sz : Int) := IntWalk.i64_in _ (by omega)
  clear hrd HA2 hb2 hB2 hq e3 HR HA1 HT1
  go_wp2_with fail
  refine HRD.out.mono ?_
  rintro e w3 ⟨A3, c3', rfl, -, ha3, ht3, -⟩
  have HA3 := hide ha3
  have HT3 := hide (HT2.out.trans (ht3.mono HT2.out.size fun _ _ h => h))
  clear ha3 ht3 HRD HT2 c3 pl e4
  go_upto_region 8 with (fail)
  go_loopg [6, 7] 1 (fun gh x6 x7 wr => gh = 1 ∧ x6 = .slice A3 sz c3' ∧ x7 = .slice none 0 0 ∧ Hid (GAt wr i s gg g lab G) ∧ Hid (Tch w.heap.size i.own w wr))
  case atStart => exact ⟨rfl, rfl, rfl, HA3, HT3⟩
  case round =>
    obtain ⟨hgh, rfl, rfl, HA, HT⟩ := hrel
    have hp : (0 : Int) < (sz : Int) := by omega
    have hp2 : decide ((0 : Int) < (sz : Int)) = true := by simp; omega
    go_wp2_with fail
    refine (decode_short A3 sz c3' wr (by omega)).mono ?_
    rintro e w4 ⟨rfl, hb4⟩
    have HA4 := hide (HA.out.below hb4)
    have HT4 := hide (HT.out.trans ((Tch.of_below hb4).mono HT.out.size fun _ _ h => h))
    clear hb4 HA HT hp hp2
    go_upto_region 10 with (first | ((with_reducible refine at_alloc 100 ?_); refine wpList_alloc_as rfl 100 rfl _ (zero_rec _) ?_) | ((with_reducible refine at_store 100 (.tmp 8) (.tmp 36) ?_); refine wpList_store_blk rfl 100 (.tmp 8) (.tmp 36) rfl w4.heap.size _ _ _ (by rfl) (by rfl) (Blk.new _ _ _) size_rec rfl rec0_one (fun _ => ?_)) | fail)
    refine at_world (fun W => Below w4.heap.size w4 W) (below_setRow ((Below.refl _ _).alloc (Nat.le_refl _) _) (Nat.le_refl _) _) (fun w5 h5 => ?_)
    have HA5 := hide (HA4.out.below h5)
    have HT5 := hide (HT4.out.trans ((Tch.of_below h5).mono HT4.out.size fun _ _ h => h))
    clear h5 HA4 HT4
    go_wp2
    go_returns
    exact ⟨rfl, HA5.out, HT5.out⟩
set_option maxRecDepth 100000 in
set_option maxHeartbeats 800000 in
theorem find_short {n : NodeV} {sz : Nat} (k : Int) (h : GAt w i s gg g lab G) (h3 : 3 ≤ g.nodes) (hn : G.nd 3 = n) (hk : n.kind ≠ 0) (hsz : n.size.toNat = sz) (h1 : 1 ≤ sz) (h6 : sz ≤ 6) (hr : Rdy G g.blocks n 0) :
    Calls Try.prog 42 #[.pointer (some ⟨gg, 0, none⟩), .int .i64 k] w fun e w' => e = .returned (.tuple #[.agg rec0, .int .i64 28]) ∧ Tch w.heap.size i.own w w' := by
  have H := hide h
  have HF := hide (fun W (hW : GAt W i s gg g lab G) => list_short hW h3 hn hk hsz h1 h6 hr)
  clear h h3 hn hk hsz h1 h6 hr
  go_enter Try.func42, Try.ntmps42
  go_upto_region 1 with (first | ((with_reducible refine at_alloc 100 ?_); refine wpList_alloc_as rfl 100 rfl _ (zero_rec _) ?_) | fail)
  refine at_world (fun W => ∃ p, p = w.heap.size ∧ Below w.heap.size w W ∧ Blk W p 100 rec0) ⟨_, rfl, (Below.refl _ _).alloc (Nat.le_refl _) _, Blk.new _ _ _⟩ (fun w1 hw1 => ?_)
  obtain ⟨p, hp, hb1, hP⟩ := hw1
  rw [← hp]
  have hpo : ¬ i.own p := H.out.tx.other_new (Nat.le_of_eq hp.symm)
  have hwp : w.heap.size ≤ p := Nat.le_of_eq hp.symm
  have HB := hide (And.intro hb1 hP)
  have HA1 := hide (H.out.below hb1)
  clear hp hb1 hP H
  go_wp2_with fail
  refine (HF.out w1 HA1.out).mono ?_
  rintro e w2 ⟨rfl, -, ht2⟩
  have HP := hide (Blk.tch HB.out.2 ht2 HB.out.2.lt hpo)
  have HT2 := hide ((Tch.of_below (S := i.own) HB.out.1).trans (ht2.mono HB.out.1.size fun _ _ h => h))
  clear ht2 HB
  go_wp2_with (first | ((with_reducible refine at_build 100 #[] ?_); refine wpList_zero_as rfl 100 rfl _ (build_rec _) ?_) | ((with_reducible refine at_store 100 (.tmp 4) (.tmp 16) ?_); refine wpList_store_blk rfl 100 (.tmp 4) (.tmp 16) rfl p _ _ _ (by rfl) (by rfl) HP.out size_rec rfl rec0_one (fun hB3 => ?_)) | ((with_reducible refine at_end ?_); refine bodyPost_ret (v := .tuple #[.agg rec0, .int .i64 28]) (results_run2 rfl (ResV.row rfl hB3 Try.underlying100 rfl size_rec) rfl) rfl ⟨rfl, HT2.out.trans (Tch.setRow fun hlt => absurd hlt (by omega))⟩) | fail)
end
end Go.Proofs.Ytoeejeieplhifaa
namespace Go.Proofs.Ytoeejeieplhifaa
open Go.RowKit
set_option linter.unusedSimpArgs false
set_option linter.unusedVariables false

section
variable {P : Program} {w : World}
theorem run_slice_whole (t e : TypeId) (g n : Nat) (hu : P.underlying t = some (.array n e)) (hs : (P.info? e).map (·.size) = some 1) (hn : 0 < n) :
    (Instr.sliceAt t (.pointer (some ⟨g, 0, none⟩)) none none none).run P w = .ok (.slice (some ⟨g, 0, none⟩) n n) w := by
  cases hq : P.info? e with
  | none => simp [hq] at hs
  | some i =>
    have hi : i.size = 1 := by simpa [hq] using hs
    have h2 : ¬ n = 0 := by omega
    simp [Instr.sliceAt, Instr.sureAddr, run_underlying hu, Instr.sliceBounds, sizeOf, typeInfo, hq, hi, Addr.add_mid, h2, Result.andThen]
end
/-- a node with few bytes -/
def fewN (sz : Nat) : NodeV := { freshN 1 with size := UInt32.ofNat sz, dir := [1, 0, 0, 0, 0, 0] }
def fewG (sz : Nat) (x : BlkV) : GS := ((GS.fresh.take 0).put 0 x).set 3 (fewN sz)
theorem few_nd (sz : Nat) (x : BlkV) : (fewG sz x).nd 3 = fewN sz := by show upd ((GS.fresh.take 0).put 0 x).nd 3 (fewN sz) 3 = fewN sz; exact upd_same _ _ _
theorem few_size {sz : Nat} (h : sz ≤ 6) : (fewN sz).size.toNat = sz := by
  show (UInt32.ofNat sz).toNat = sz
  rw [UInt32.toNat_ofNat', Nat.mod_eq_of_lt (by omega)]
theorem few_check {sz : Nat} (h : sz ≤ 6) : checkN (fewN sz) = true := by
  have : sz = 0 ∨ sz = 1 ∨ sz = 2 ∨ sz = 3 ∨ sz = 4 ∨ sz = 5 ∨ sz = 6 := by omega
  rcases this with rfl | rfl | rfl | rfl | rfl | rfl | rfl <;> decide
theorem few_free {m : Nat} (h : 1 ≤ m) : GS.fresh.free m = some 0 := by
  unfold GS.free
  obtain ⟨k, rfl⟩ : ∃ k, m = k + 1 := ⟨m - 1, by omega⟩
  rw [List.range_succ_eq_map]
  rfl
theorem few_rdy {sz m : Nat} {x : BlkV} (h : 1 ≤ m) : Rdy (fewG sz x) m (fewN sz) 0 := ⟨trivial, Nat.le_refl 1, h⟩
theorem few_cells {sz : Nat} (h : sz ≤ 6) : (((freshN 1).cells.toArray.setIfInBounds 3 (.int .u32 (sz : Int))).setIfInBounds 4 (.int .u16 1)) = (fewN sz).cells.toArray := by
  have : (fewN sz).cells = [.int .u8 1, .int .u8 1, .int .u16 1, .int .u32 ((fewN sz).size.toNat : Int), .int .u16 1, .int .u16 0, .int .u16 0, .int .u16 0, .int .u16 0, .int .u16 0, .int .u16 0, .int .u16 0] := rfl
  rw [this, few_size h]
  rfl
section
variable {m : UInt8} {H : List UInt8} {A : Option Addr} {n c : Nat} {T : List UInt8} {w : World}
set_option maxRecDepth 100000 in
set_option maxHeartbeats 4000000 in
theorem anone_all (hH : H.length = 25) (hT : Rd w w.heap.size 1 A n (bvs T)) (hnm : n ≤ 9223372036854775807) (s0 f0 t0 : Nat) (A1 : Option Addr) (n1 c1 : Nat) (l1 : List UInt8) (k0 : Int) (A2 : Option Addr) (n2 c2 : Nat) (l2 : List UInt8)
    (hs0 : s0 < 4294967296) (hf0 : f0 < 256) (ht0 : t0 < 256) (hr1 : Rd w w.heap.size 1 A1 n1 (bvs l1)) (hr2 : Rd w w.heap.size 1 A2 n2 (bvs l2)) :
    Calls Try.prog 9 #[.agg (szCells m H A n c), .agg #[.int .u32 (s0 : Int), .int .u8 (f0 : Int), .int .u8 (t0 : Int), .slice A1 n1 c1], .int .i64 k0, .slice A2 n2 c2] w fun e w' => e = .returned (.bool true) ∧ Below w.heap.size w w' := by
  have hsz : (szCells m H A n c).size = 27 := szCells_size hH
  go_enter Try.func9, Try.ntmps9
  go_upto_region 1 with (fail)
  obtain ⟨rc, hrc⟩ : ∃ rc : Array Value, #[Value.int .u32 (s0 : Int), .int .u8 (f0 : Int), .int .u8 (t0 : Int), .slice A1 n1 c1] = rc := ⟨_, rfl⟩
  have hrs : rc.size = 4 := by rw [← hrc]; rfl
  refine at_world (fun W => ∃ bx rb, bx = w.heap.size ∧ rb = w.heap.size + 1 ∧ Below w.heap.size w W ∧ Blk W bx 26 (szCells m H A n c) ∧ Blk W rb 100 rc) ⟨_, _, rfl, rfl, ((Below.refl _ _).alloc (Nat.le_refl _) _).alloc (by simp) _, by first | exact (Blk.new _ _ _).alloc _ | exact (Blk.alloc (Blk.new _ _ _) _), by rw [← hrc]; have := Blk.new (w.alloc (.cells (szCells m H A n c) 26)) 100 #[Value.int .u32 (s0 : Int), .int .u8 (f0 : Int), .int .u8 (t0 : Int), .slice A1 n1 c1]; simpa using this⟩ (fun w1 h1 => ?_)
  obtain ⟨bx, rb, hbx, hrb, hb1, hX1, hR1⟩ := h1
  rw [← hrb, ← hbx]
  have hS : ((Try.prog.info? 26).map (·.size)) = some (szCells m H A n c).size := by rw [hsz]; kernel_rfl
  have HS := hide hS
  have HB1 := hide hb1
  have HX1 := hide (And.intro hX1 hR1)
  have HRC := hide (And.intro hrc (show ((Try.prog.info? 100).map (·.size)) = some rc.size from by rw [hrs]; kernel_rfl))
  clear hbx hrb hX1 hR1 hS hsz hb1 hrc hrs
  go_wp2_with fail
  refine (awake27 w1).mono ?_
  rintro e w2 ⟨rfl, hb2⟩
  have HX2 := hide (And.intro (HX1.out.1.below hb2 HX1.out.1.lt) (HX1.out.2.below hb2 HX1.out.2.lt))
  have HB2 := hide (HB1.out.trans (hb2.mono HB1.out.size))
  have HT2 := hide ((hT.below HB2.out).more HB2.out.size)
  have HH := hide (And.intro hH hnm)
  have HRR := hide (And.intro hr1 hr2)
  clear hb2 HX1 HB1 hT hH hnm hr1 hr2
  have y3 := HX2.out.2.cell 3
  have yl := HX2.out.2.lt
  rw [show rc[3]? = some (.slice A1 n1 c1) from by rw [← HRC.out.1]; rfl] at y3
  by_cases hyes : n1 ≤ 128 ∧ n2 ≤ 6 ∧ 1 ≤ n2
  rotate_left
  · rcases Nat.lt_or_ge 128 n1 with h1 | h1
    · have q1 : (128 : Int) < (n1 : Int) := by omega
      have q1' : decide ((128 : Int) < (n1 : Int)) = true := by simp; omega
      go_wp2
      go_returns
      exact ⟨rfl, HB2.out⟩
    · have q1 : ¬ (128 : Int) < (n1 : Int) := by omega
      have q1' : decide ((128 : Int) < (n1 : Int)) = false := by simp; omega
      rcases Nat.lt_or_ge 6 n2 with h2 | h2
      · have q2 : (6 : Int) < (n2 : Int) := by omega
        have q2' : decide ((6 : Int) < (n2 : Int)) = true := by simp; omega
        clear hyes
        go_wp2
        go_returns
        exact ⟨rfl, HB2.out⟩
      · have q2 : ¬ (6 : Int) < (n2 : Int) := by omega
        have q2' : decide ((6 : Int) < (n2 : Int)) = false := by simp; omega
        obtain rfl : n2 = 0 := by omega
        clear hyes
        go_wp2
        go_returns
        exact ⟨rfl, HB2.out⟩
  · obtain ⟨h1, h2, h3⟩ := hyes
    have q1' : decide ((128 : Int) < (n1 : Int)) = false := by simp; omega
    have q2' : decide ((6 : Int) < (n2 : Int)) = false := by simp; omega
    have q3' : ((n2 : Int) == 0) = false := by simp; omega
    go_upto_region 5 with (fail)
    clear q1' q2' q3' y3 yl
    go_wp2_with (first | (refine wpList_load_row rfl 26 (.tmp 4) (by rfl) bx (by rfl) 26 (szCells m H A n c) (0, 0) _ HX2.out.1 Try.underlying26 rfl HS.out ?_) | fail)
    refine (size_conf (w := w2) HH.out.1 HT2.out HH.out.2).mono ?_
    rintro e w3 ⟨cc, K, tb, nb, lb, B1, B2, B3, d1, d2, d3, rfl, hb3, hin, hK⟩
    obtain ⟨n0, hsf⟩ := sz_facts (m := m) (H := H) hin.ok
    have hF := hsf.cf hin.ok
    have hfr := fresh_all (w := w3) hin hF hsf.five
    have HIN := hide hin
    have HF := hide hF
    have HB3 := hide (HB2.out.trans (hb3.mono HB2.out.size))
    have HR3 := hide (HX2.out.2.below hb3 HX2.out.2.lt)
    have hR2 := hsf.two
    generalize szRegs m H = R at *
    clear hin hK hF hb3 HX2 HB2 HT2 HS HH hsf
    go_wp2_with fail
    refine hfr.mono ?_
    rintro e w4 ⟨i, D, rfl, hx, hDn, hall, hown, hll, hb4⟩
    have HIN4 := hide (HIN.out.below hb4)
    have HB4 := hide (HB3.out.trans (hb4.mono HB3.out.size))
    have HR4 := hide (HR3.out.below hb4 HR3.out.lt)
    have HX4 := hide hx
    have HOWN := hide (show ∀ k, i.own k → w.heap.size ≤ k ∧ w3.heap.size ≤ k from fun k hk => ⟨Nat.le_trans HB3.out.size (hown k hk), hown k hk⟩)
    have HRO := hide (show ¬ i.own rb from fun hk => by have := hown _ hk; have := HR3.out.lt; omega)
    obtain ⟨v, r, hv, hr, hgo, hval, hbl, -, g4, g512, n4, n128⟩ := HF.out.geo 0 (by omega)
    have his := hall 0 v hv
    have hop := gopen_yes (tt := i.tt) HIN4.out hv hval
    generalize hu : geoN v = u at *
    rw [show ((0 : Nat) : Int) = 0 from rfl] at hop
    have HOP := hide hop
    have HGO := hide (show u.Ok D.length by rw [hDn]; exact hgo)
    have HN := hide (And.intro g4 (And.intro g512 n4))
    have HIS := hide his
    clear hx hDn hall hown hll hb4 hfr hv hr hgo hval hbl g4 g512 n4 n128 his hop hu hR2 HF HB3 HIN HR3 HIN4
    go_wp2_with fail
    refine HOP.out.mono ?_
    rintro e w5 ⟨gg, rfl, -, hG5, hb5⟩
    have HA5 : Hid (GAt w5 i ⟨D, [], 0⟩ gg u 0 GS.fresh) := hide ⟨HX4.out.below hb5, hG5, HGO.out, HIS.out, GS.fresh_ok⟩
    have HB5 := hide (HB4.out.trans (hb5.mono HB4.out.size))
    have HR5 := hide (HR4.out.below hb5 HR4.out.lt)
    have hnd := gs_node (num := 3) HA5.out (by omega) (by have := HN.out.2.2; omega)
    rw [show GS.fresh.nd 3 = freshN 1 from rfl, show ((3 : Nat) : Int) = 3 from rfl] at hnd
    have HND := hide hnd
    clear hb5 hG5 HOP HX4 HB4 HR4 hnd
    go_wp2_with fail
    refine HND.out.mono ?_
    rintro e w6 ⟨rfl, s6, ha6, hst6, ht6⟩
    have HI6 := hide (hst6.in_ (K := []) (fun x hx => by cases hx))
    have HR6 := hide (Blk.tch HR5.out ht6 HR5.out.lt HRO.out)
    have HA6 := hide ha6
    have HT6 := hide ((Tch.of_below (S := i.own) HB5.out).trans (ht6.mono HB5.out.size fun _ _ h => h))
    clear ha6 hst6 ht6 HND HR5
    go_upto_region 9 with (first | ((with_reducible refine at_alloc 52 ?_); refine wpList_alloc_as rfl 52 rfl _ (zero_node _) ?_) | ((with_reducible refine at_store 52 (.tmp 15) (.tmp 62) ?_); refine wpList_store_blk rfl 52 (.tmp 15) (.tmp 62) rfl w6.heap.size _ _ _ (by rfl) (by rfl) (Blk.new _ _ _) (size_nodeOf (n := freshN 1) rfl) (by rw [List.size_toArray, List.size_toArray, NodeV.cells_length (n := freshN 1) rfl]; rfl) (NodeV.cells_one _) (fun _ => ?_)) | fail)
    refine at_world (fun W => ∃ q, q = w6.heap.size ∧ Below w6.heap.size w6 W ∧ Blk W q 52 (freshN 1).cells.toArray) ⟨_, rfl, below_setRow ((Below.refl _ _).alloc (Nat.le_refl _) _) (Nat.le_refl _) _, (Blk.new _ _ _).setRow_same _⟩ (fun w7 h7 => ?_)
    obtain ⟨q, hq, hb7, hQ7⟩ := h7
    rw [← hq]
    have HA7 := hide (HA6.out.below hb7)
    have HT7 := hide (HT6.out.trans ((Tch.of_below hb7).mono HT6.out.size fun _ _ h => h))
    have HR7 := hide (HR6.out.below hb7 HR6.out.lt)
    have HQO := hide (show ¬ i.own q ∧ w.heap.size ≤ q from ⟨HA6.out.tx.other_new (Nat.le_of_eq hq.symm), by have := HT6.out.size; have := HB5.out.size; omega⟩)
    have HQ7 := hide hQ7
    have HQL := hide (show i.ll < q ∧ gg < q from ⟨by have := HA6.out.tx.log.log.lt; omega, by have := HA6.out.gp.lt; omega⟩)
    have HRQ := hide (show rb ≠ q from by have := HR6.out.lt; omega)
    have htk := gs_take (k := 0) HA7.out (Nat.le_trans (HI6.out.len HA7.out.tx.ok) (by decide)) (few_free (by have := HN.out.1; omega))
    rw [show ((0 + 1 : Nat) : Int) = 1 from rfl] at htk
    have HTK := hide htk
    clear hq hb7 hQ7 HA6 HT6 HR6 htk
    go_wp2_with fail
    refine HTK.out.mono ?_
    rintro e w8 ⟨rfl, s8, ha8, hst8, ht8⟩
    have HI8 := hide (hst8.in_ HI6.out)
    have HQ8 := hide (Blk.tch HQ7.out ht8 HQ7.out.lt HQO.out.1)
    have HR8 := hide (Blk.tch HR7.out ht8 HR7.out.lt HRO.out)
    have HA8 := hide ha8
    have HT8 := hide (HT7.out.trans (ht8.mono HT7.out.size fun _ _ h => h))
    clear ha8 hst8 ht8 HTK HA7 HT7 HR7 HQ7 HI6
    go_upto_region 11 with (first | ((with_reducible refine at_alloc 67 ?_); refine wpList_alloc_as rfl 67 rfl _ (zero_block _) ?_) | fail)
    refine at_world (fun W => ∃ z, z = w8.heap.size ∧ Below w8.heap.size w8 W ∧ Blk W z 67 (bvs zeroB).toArray) ⟨_, rfl, (Below.refl _ _).alloc (Nat.le_refl _) _, Blk.new _ _ _⟩ (fun w9 h9 => ?_)
    obtain ⟨z, hz, hb9, hZ9⟩ := h9
    rw [← hz]
    have HA9 := hide (HA8.out.below hb9)
    have HT9 := hide (HT8.out.trans ((Tch.of_below hb9).mono HT8.out.size fun _ _ h => h))
    have HQ9 := hide (HQ8.out.below hb9 HQ8.out.lt)
    have HR9 := hide (HR8.out.below hb9 HR8.out.lt)
    have HZO := hide (show ¬ i.own z ∧ w8.heap.size ≤ z from ⟨HA8.out.tx.other_new (Nat.le_of_eq hz.symm), Nat.le_of_eq hz.symm⟩)
    have HZN := hide (show z ≠ q ∧ z ≠ rb ∧ w.heap.size ≤ z from ⟨by have := HQ8.out.lt; omega, by have := HR8.out.lt; omega, by have := HT8.out.size; have := HB5.out.size; omega⟩)
    have hBW : Below w.heap.size w w9 := (HT9.out.mono (Nat.le_refl _) (S' := fun _ => False) (fun k hk h => by have := (HOWN.out k h).1; omega)).below fun _ _ h => h
    have hrd := HRR.out.2.below hBW
    have hl2 : l2.length = n2 := by have := HRR.out.2.1; rw [bvs_length] at this; omega
    obtain ⟨bA, o, rfl, hbA, hcA⟩ := hrd.2 (by omega)
    have hrow := run_copy_row (P := Try.prog) w9 24 24 3 5 z 0 64 64 ⟨bA, o, none⟩ n2 c2 (bvs zeroB).toArray 67 (bvs l2) Try.underlying24 (by kernel_rfl) hZ9 (by rw [bvs_length, hl2]; exact (Nat.min_eq_left (by omega)).symm) (fun j v hj => by
      rw [Addr.add_mid]
      exact hcA _ _ hj) (by rw [bvs_length, bvs_size zeroB_length]; omega) (bvs_one _)
    have hcs : (bvs zeroB).take 0 ++ bvs l2 ++ (bvs zeroB).drop (0 + (bvs l2).length) = bvs (l2 ++ zeroB.drop n2) := by
      rw [List.take_zero, List.nil_append, bvs_drop, bvs_length, hl2, Nat.zero_add, ← bvs_append]
    rw [show (bvs zeroB).toArray.toList = bvs zeroB from rfl, hcs] at hrow
    have hx64 : (l2 ++ zeroB.drop n2).length = 64 := by rw [List.length_append, List.length_drop, zeroB_length, hl2]; omega
    generalize l2 ++ zeroB.drop n2 = x at hrow hx64
    have HROW := hide hrow
    have HX64 := hide hx64
    have HZ9 := hide hZ9
    have HA8z := hide (show i.ll < z ∧ gg < z from ⟨by have := HA8.out.tx.log.log.lt; omega, by have := HA8.out.gp.lt; omega⟩)
    clear hz hb9 hZ9 hrd hcA hrow hcs hx64 HA8 HT8 HQ8 HR8
    have hrow := HROW.out
    go_upto_region 12 with (first | ((with_reducible refine at_slice 67 (.tmp 19) none none ?_); refine wpList_run rfl _ (exec_slice 67 (.tmp 19) none none rfl (run_slice_whole 67 5 z 64 Try.underlying67 (by kernel_rfl) (by decide))) ?_) | fail)
    refine at_world (fun W => Tch w9.heap.size (fun k => k = z) w9 W ∧ Blk W z 67 (bvs x).toArray) ⟨Tch.setRow fun _ => rfl, HZ9.out.setRow_same _⟩ (fun w10 h10 => ?_)
    obtain ⟨ht10, hZ10⟩ := h10
    clear hrow
    have hz1 := HZN.out
    have HA10 := hide (HA9.out.apart ht10 fun k hk => by
      subst hk
      have h4 := HA8z.out
      exact ⟨HZO.out.1, by omega, by omega⟩)
    have HQ10 := hide (Blk.tch HQ9.out ht10 HQ9.out.lt (fun e => hz1.1 e.symm))
    have HR10 := hide (Blk.tch HR9.out ht10 HR9.out.lt (fun e => hz1.2.1 e.symm))
    have HT10 : Hid (Below w.heap.size w w10) := hide (Below.trans ((HT9.out.mono (Nat.le_refl _) (S' := fun _ => False) (fun k hk h => by have := (HOWN.out k h).1; omega)).below fun _ _ h => h) ((ht10.mono (by have := HT9.out.size; have := HB5.out.size; omega) (S' := fun _ => False) (fun k hk h => by subst h; omega)).below fun _ _ h => h))
    have HZ10 := hide hZ10
    have hpt := gs_put (k := 0) (b := x) HA10.out (Nat.le_trans (HI8.out.len HA10.out.tx.ok) (by simp)) (by have := HN.out.1; omega) HX64.out
    rw [show ((0 + 1 : Nat) : Int) = 1 from rfl] at hpt
    have HPT := hide hpt
    clear ht10 hZ10 hz1 hpt HA9 HQ9 HR9 HT9 HZ9 HROW
    go_wp2_with (first | ((with_reducible refine at_load 67 (.tmp 19) ?_); refine wpList_load_blk rfl 67 (.tmp 19) rfl z 67 _ _ (by rfl) HZ10.out Try.underlying67 rfl (size_blockOf HX64.out) ?_) | fail)
    refine HPT.out.mono ?_
    rintro e w11 ⟨rfl, s11, ha11, hst11, ht11⟩
    have HI11 := hide (hst11.in_ HI8.out)
    have HQ11 := hide (Blk.tch HQ10.out ht11 HQ10.out.lt HQO.out.1)
    have HR11 := hide (Blk.tch HR10.out ht11 HR10.out.lt HRO.out)
    have HA11 := hide ha11
    have HOWZ := hide (show ∀ k, i.own k → w.heap.size ≤ k from fun k hk => (HOWN.out k hk).1)
    have HT11 := hide (HT10.out.trans ((ht11.mono HT10.out.size (S' := fun _ => False) (fun k hk h => by have := HOWZ.out k h; omega)).below fun _ _ h => h))
    clear ha11 hst11 ht11 HPT HA10 HT10 HR10 HQ10 HI8 HZ10
    have e1 : IntKind.u32.wrap (n2 : Int) = (n2 : Int) := by rw [IntKind.wrap_u32]; omega
    have y3 := HQ11.out.cell 3
    have y4 := HQ11.out.cell 4
    have f3 := HQ11.out.frozen 3
    have f4 := HQ11.out.frozen 4
    have yl := HQ11.out.lt
    rw [show (freshN 1).cells.toArray[3]? = some (.int .u32 0) from rfl] at y3
    rw [show (freshN 1).cells.toArray[4]? = some (.int .u16 0) from rfl] at y4
    have hset := (HQ11.out.set_ 3 (.int .u32 (n2 : Int))).set_ 4 (.int .u16 1)
    rw [few_cells h2] at hset
    have HSET := hide hset
    clear hset
    go_upto_region 14 with (fail)
    refine at_world (fun W => Tch w11.heap.size (fun k => k = q) w11 W ∧ Blk W q 52 (fewN n2).cells.toArray) ⟨(Tch.setCell (S := fun k => k = q) (p := ⟨q, 3, none⟩) fun _ => rfl).trans (Tch.setCell (S := fun k => k = q) (p := ⟨q, 4, none⟩) fun _ => rfl), HSET.out⟩ (fun w12 h12 => ?_)
    obtain ⟨ht12, hQ12⟩ := h12
    have hq0 := HQO.out
    have HA12 := hide (HA11.out.apart ht12 fun k hk => by
      subst hk
      have h4 := HQL.out
      exact ⟨hq0.1, by omega, by omega⟩)
    have HR12 := hide (Blk.tch HR11.out ht12 HR11.out.lt HRQ.out)
    have HT12 := hide (HT11.out.trans ((ht12.mono HT11.out.size (S' := fun _ => False) (fun k hk h => by subst h; omega)).below fun _ _ h => h))
    have HQ12 := hide hQ12
    have hst := gs_set (num := 3) (n := fewN n2) HA12.out (Nat.le_trans (HI11.out.len HA12.out.tx.ok) (by simp)) (by omega) (by have := HN.out.2.2; omega) rfl (few_check h2)
    rw [show ((3 : Nat) : Int) = 3 from rfl, show (((GS.fresh.take 0).put 0 x).set 3 (fewN n2)) = fewG n2 x from rfl] at hst
    have HSE := hide hst
    clear e1 y3 y4 f3 f4 yl HSET ht12 hQ12 hq0 hst HA11 HR11 HT11 HQ11
    go_wp2_with (first | ((with_reducible refine at_load 52 (.tmp 15) ?_); refine wpList_load_blk rfl 52 (.tmp 15) rfl q _ _ _ (by rfl) HQ12.out Try.underlying52 rfl (size_nodeOf (n := fewN n2) rfl) ?_) | fail)
    refine HSE.out.mono ?_
    rintro e w13 ⟨rfl, s13, ha13, -, ht13⟩
    have HA13 := hide ha13
    have HR13 := hide (Blk.tch HR12.out ht13 HR12.out.lt HRO.out)
    have HT13 := hide (HT12.out.trans ((ht13.mono HT12.out.size (S' := fun _ => False) (fun k hk h => by have := HOWZ.out k h; omega)).below fun _ _ h => h))
    have hm1 : 1 ≤ u.blocks ∧ 3 ≤ u.nodes := ⟨by have := HN.out.1; omega, by have := HN.out.2.2; omega⟩
    have HLS := hide (list_short (n := fewN n2) (sz := n2) ha13 hm1.2 (few_nd _ _) (by show (1 : UInt8) ≠ 0; decide) (few_size h2) h3 h2 (few_rdy hm1.1))
    clear ha13 ht13 HSE HA12 HR12 HT12 HQ12
    go_wp2_with fail
    refine HLS.out.mono ?_
    rintro e w14 ⟨rfl, ha14, ht14⟩
    have HR14 := hide (Blk.tch HR13.out ht14 HR13.out.lt HRO.out)
    have HT14 := hide (HT13.out.trans ((ht14.mono HT13.out.size (S' := fun _ => False) (fun k hk h => by have := HOWZ.out k h; omega)).below fun _ _ h => h))
    have HFS := hide (find_short (n := fewN n2) (sz := n2) k0 ha14 hm1.2 (few_nd _ _) (by show (1 : UInt8) ≠ 0; decide) (few_size h2) h3 h2 (few_rdy hm1.1))
    clear ha14 ht14 hm1 HLS HA13 HR13 HT13
    go_wp2_with fail
    refine HFS.out.mono ?_
    rintro e w15 ⟨rfl, ht15⟩
    have HR15 := hide (Blk.tch HR14.out ht15 HR14.out.lt HRO.out)
    have HT15 := hide (HT14.out.trans ((ht15.mono HT14.out.size (S' := fun _ => False) (fun k hk h => by have := HOWZ.out k h; omega)).below fun _ _ h => h))
    clear ht15 HFS HR14 HT14
    go_upto_region 17 with (first | ((with_reducible refine at_alloc 100 ?_); refine wpList_alloc_as rfl 100 rfl _ (zero_rec _) ?_) | ((with_reducible refine at_store 100 (.tmp 23) (.tmp 95) ?_); refine wpList_store_blk rfl 100 (.tmp 23) (.tmp 95) rfl w15.heap.size _ _ _ (by rfl) (by rfl) (Blk.new _ _ _) size_rec rfl rec0_one (fun _ => ?_)) | fail)
    refine at_world (fun W => Below w15.heap.size w15 W) (below_setRow ((Below.refl _ _).alloc (Nat.le_refl _) _) (Nat.le_refl _) _) (fun w16 hb16 => ?_)
    have HR16 := hide (HR15.out.below hb16 HR15.out.lt)
    have HT16 := hide (HT15.out.trans (hb16.mono HT15.out.size))
    clear hb16 HR15 HT15
    go_wp2_with fail
    refine (list_nil w16).mono ?_
    rintro e w17 ⟨rfl, hb17⟩
    have HR17 := hide (HR16.out.below hb17 HR16.out.lt)
    have HT17 := hide (HT16.out.trans (hb17.mono HT16.out.size))
    clear hb17 HR16 HT16
    go_wp2_with fail
    refine (find_nil w17 k0).mono ?_
    rintro e w18 ⟨rfl, hb18⟩
    have HR18 := hide (HR17.out.below hb18 HR17.out.lt)
    have HT18 := hide (HT17.out.trans (hb18.mono HT17.out.size))
    clear hb18 HR17 HT17
    go_upto_region 19 with (first | ((with_reducible refine at_alloc 100 ?_); refine wpList_alloc_as rfl 100 rfl _ (zero_rec _) ?_) | ((with_reducible refine at_store 100 (.tmp 27) (.tmp 104) ?_); refine wpList_store_blk rfl 100 (.tmp 27) (.tmp 104) rfl w18.heap.size _ _ _ (by rfl) (by rfl) (Blk.new _ _ _) size_rec rfl rec0_one (fun _ => ?_)) | fail)
    refine at_world (fun W => Below w18.heap.size w18 W) (below_setRow ((Below.refl _ _).alloc (Nat.le_refl _) _) (Nat.le_refl _) _) (fun w19 hb19 => ?_)
    have HR19 := hide (HR18.out.below hb19 HR18.out.lt)
    have HT19 := hide (HT18.out.trans (hb19.mono HT18.out.size))
    clear hb19 HR18 HT18
    have hR19 := HR19.out
    rw [← HRC.out.1] at hR19
    have y0 := hR19.cell 0
    have y1 := hR19.cell 1
    have y2 := hR19.cell 2
    have y3 := hR19.cell 3
    have yl := hR19.lt
    go_wp2_with fail
    refine (append_nil s0 f0 t0 A1 n1 c1 l1 w19 hs0 hf0 ht0 h1 ((HRR.out.1.below HT19.out).more HT19.out.size)).mono ?_
    rintro e w20 ⟨rfl, hb20⟩
    have HT20 := hide (HT19.out.trans (hb20.mono HT19.out.size))
    clear hb20 y0 y1 y2 y3 yl hR19
    go_wp2
    go_returns
    exact ⟨rfl, HT20.out⟩
end
end Go.Proofs.Ytoeejeieplhifaa
namespace Go.Proofs.Ytoeejeieplhifaa.lawAuditNone
open Go.ChangeShapes Go.WideShapes Go.ChangeAt Go.RowKit Go.Joins
open Go.ChangeMaps (open_string shut_string)
set_option linter.unusedVariables false

theorem own : ownKnob Try.prog.godebug = none := by kernel_rfl
theorem laidOut : laidOutB Try.prog = true := by kernel_rfl

set_option maxRecDepth 100000 in
theorem lifted (os : Os) (started : os.Started) (H0 : Type) (enc : TypeId × Value → H0) :
    ReturnsInHanded {} Try.checked os 9 .any (Rows.auditNoneSpec.pre6 enc Try.prog Try.f9 Rows.auditNoneRow.domain false) (Rows.auditNoneSpec.post enc Try.prog Try.f9 false true false false) := by
  refine returnsInHanded_of_change (C := Try.checked) own started (by kernel_rfl) Try.func9
    (ChangeSpec.witness6 (enc := enc) (C := Try.checked) false ⟨#[], #[.agg #[.int .u8 0, .int .u8 0, .int .u8 0, .int .u8 0, .int .u8 0, .int .u8 0, .int .u8 0, .int .u8 0, .int .u8 0, .int .u8 0, .int .u8 0, .int .u8 0, .int .u8 0, .int .u8 0, .int .u8 0, .int .u8 0, .int .u8 0, .int .u8 0, .int .u8 0, .int .u8 0, .int .u8 0, .int .u8 0, .int .u8 0, .int .u8 0, .int .u8 0, .int .u8 0, .slice none 0 0], .agg #[.int .u32 0, .int .u8 0, .int .u8 0, .slice none 0 0], .int .i64 0, .slice none 0 0], []⟩ 8 (by kernel_rfl) (by kernel_rfl) (by kernel_rfl) (by kernel_rfl)) ?_
  intro W base args ds gs before hval0 hW hcnd _
  have hval : ∀ (j : Nat) t v, Try.f9.params[j]? = some t → args[j]? = some v → Value.okWide Try.prog W .any base t v := hval0
  have hW' := hW
  obtain ⟨p, q, hA0, hV, rfl, hfz, hnd⟩ := hW
  have hA : DataW.TrodAll enc Try.prog W 0 (fun _ => true) true Try.f9.params.toList args.toList ds p := hA0
  rw [Try.params9] at hA hval
  obtain ⟨v0, vs0, d0, ds0, p0, q0, hargs, rfl, rfl, h0, r0⟩ := trodAll_cons hA
  obtain ⟨v1, vs1, d1, ds1, p1, q1, rfl, rfl, rfl, h1, r1⟩ := trodAll_cons r0
  obtain ⟨v2, vs2, d2, ds2, p2, q2, rfl, rfl, rfl, h2, r2⟩ := trodAll_cons r1
  obtain ⟨v3, vs3, d3, ds3, p3, q3, rfl, rfl, rfl, h3, r3⟩ := trodAll_cons r2
  obtain ⟨rfl, rfl, rfl⟩ := trodAll_nil r3
  obtain rfl : args = #[v0, v1, v2, v3] := by cases args; simp_all
  obtain ⟨rfl, rfl⟩ := trodVars_none hV
  have k0 := h0
  have lt0 : ∀ x ∈ p0, x.block < W.heap.size := by obtain ⟨m, hm⟩ := k0; exact DataW.trod_lt m _ _ _ hm
  have k1 := h1
  have lt1 : ∀ x ∈ p1, x.block < W.heap.size := by obtain ⟨m, hm⟩ := k1; exact DataW.trod_lt m _ _ _ hm
  have k2 := h2
  have lt2 : ∀ x ∈ p2, x.block < W.heap.size := by obtain ⟨m, hm⟩ := k2; exact DataW.trod_lt m _ _ _ hm
  have k3 := h3
  have lt3 : ∀ x ∈ p3, x.block < W.heap.size := by obtain ⟨m, hm⟩ := k3; exact DataW.trod_lt m _ _ _ hm
  obtain ⟨m, Hs, A, n, c, T, rfl, hH, hT, hnm⟩ := open_size Try.underlying26 (by rfl) (by rfl) (by rfl) (by kernel_rfl) (by kernel_rfl) (by kernel_rfl) (by kernel_rfl) Try.underlying5 Try.underlying23 Try.underlying22 Try.underlying5 (by kernel_rfl) (by kernel_rfl) Try.underlying24 Try.underlying5 (by kernel_rfl) (hval 0 26 v0 rfl rfl) h0
  obtain ⟨rc0, rc1, rc2, rc3, ry0, ry1, ry2, ry3, rfuel, rfl, _, _, rt0, rt1, rt2, rt3⟩ := open_agg4 Try.underlying100 (by kernel_rfl) (by kernel_rfl) (hval 1 100 v1 rfl rfl) h1
  obtain ⟨s0, rfl, hs0⟩ := open_u32_cell Try.underlying49 rt0
  obtain ⟨f0, rfl, hf0⟩ := open_u8_cell Try.underlying5 rt1
  obtain ⟨t0, rfl, ht0⟩ := open_u8_cell Try.underlying5 rt2
  obtain ⟨A1, n1, c1, l1, rfl, hr1, hnc1⟩ := open_bytes_cell Try.underlying24 Try.underlying5 (by kernel_rfl) rt3
  obtain ⟨kq, rfl, _⟩ := open_i64 Try.underlying3 (hval 2 3 v2 rfl rfl) h2
  obtain ⟨A2, n2, c2, l2, rfl, hr2, hnc2⟩ := open_bytes Try.underlying24 Try.underlying5 (by kernel_rfl) (hval 3 24 v3 rfl rfl) h3
  clear hA0 hval0
  refine (anone_all hH hT hnm s0 f0 t0 A1 n1 c1 l1 kq A2 n2 c2 l2 hs0 hf0 ht0 hr1 hr2).mono fun e W' ⟨he, bel⟩ => ?_
  subst he
  exact ⟨_, rfl, _, _, _, [], _, [], hW', trodAll_mk1 (shut_bool Try.underlying4 _), (trodAll_cons_mk (Below.trod laidOut (by kernel_rfl) (of_decide_eq_true (by kernel_rfl)) k0 bel lt0) (trodAll_cons_mk (Below.trod laidOut (by kernel_rfl) (of_decide_eq_true (by kernel_rfl)) k1 bel lt1) (trodAll_cons_mk (Below.trod laidOut (by kernel_rfl) (of_decide_eq_true (by kernel_rfl)) k2 bel lt2) (trodAll_cons_mk (Below.trod laidOut (by kernel_rfl) (of_decide_eq_true (by kernel_rfl)) k3 bel lt3) trodAll_mk0)))), rfl, bel.frame _, fun h => by cases h⟩

theorem over : Rows.auditNoneRow.holds Try.pinned (OpenSpec.ofChange Rows.auditNoneSpec) :=
  OpenClaim.holds_of_wide 9 Try.f9 rfl rfl rfl rfl rfl rfl rfl ⟨rfl, rfl, rfl, rfl, rfl⟩ rfl rfl rfl rfl rfl (by kernel_rfl) Try.func9 (by kernel_rfl)
    (of_decide_eq_true (by kernel_rfl)) (by unfold Func.isWrapper; first | (rw [if_pos (by decide +kernel)]; kernel_rfl) | (rw [if_neg (by decide +kernel)]; exact ⟨rfl, rfl⟩))
    (fun os started H0 enc _ => lifted os started H0 enc)

theorem proved : Rows.AuditNoneSaid := over
#print axioms proved
end Go.Proofs.Ytoeejeieplhifaa.lawAuditNone

/- Numbers in a node's bytes, walked: put, get. -/
import Derived.Test.YtoeejeieplhifaaFsNodeP
import Derived.Test.YtoeejeieplhifaaFsBits
namespace Go.Proofs.Ytoeejeieplhifaa
open Go.RowKit
set_option linter.unusedSimpArgs false
set_option linter.unusedVariables false

/-- a field of bytes, and a place in it -/
def fcells (bs : List UInt8) (a : Nat) : Array Value := (bvs bs ++ [Value.int .i64 (a : Int)]).toArray
theorem fcells_size {bs : List UInt8} (h : bs.length = 32) (a : Nat) : (fcells bs a).size = 33 := by simp [fcells, bvs_length, h]
theorem fcells_at {bs : List UInt8} (h : bs.length = 32) (a : Nat) : (fcells bs a)[32]? = some (.int .i64 (a : Int)) := by
  rw [fcells, List.getElem?_toArray, List.getElem?_append_right (by rw [bvs_length]; omega), bvs_length, h]
  rfl
theorem fcells_byte {bs : List UInt8} {a j : Nat} (hj : j < bs.length) : (fcells bs a)[j]? = some (bv (bs.getD j 0)) := by
  rw [fcells, List.getElem?_toArray, List.getElem?_append_left (by rw [bvs_length]; exact hj), bvs_get, List.getD_eq_getElem?_getD, List.getElem?_eq_getElem hj]
  rfl
theorem fcells_set {bs : List UInt8} {a j : Nat} (hj : j < bs.length) (x : UInt8) : (fcells bs a).setIfInBounds j (bv x) = fcells (bs.set j x) a := by
  simp only [fcells, List.setIfInBounds_toArray, bvs]
  rw [List.set_append_left _ _ (by simpa using hj), List.map_set]
theorem fcells_move {bs : List UInt8} (h : bs.length = 32) (a b : Nat) : (fcells bs a).setIfInBounds 32 (.int .i64 (b : Int)) = fcells bs b := by
  simp only [fcells, List.setIfInBounds_toArray]
  rw [List.set_append_right _ _ (by rw [bvs_length, h]; omega), bvs_length, h]
  rfl
theorem fcells_all (bs : List UInt8) (a : Nat) : (fcells bs a).all (·.oneCell') = true := by
  refine all_oneCell_toArray fun v hv => ?_
  rcases List.mem_append.1 hv with h | h
  · exact bvs_one bs v h
  · simp at h; subst h; rfl

section
variable {w w' : World} {g : Nat} {bs : List UInt8}
set_option maxRecDepth 100000 in
set_option maxHeartbeats 800000 in
theorem fput_ok {a n k : Nat} (hB : Blk w g 205 (fcells bs a)) (hbs : bs.length = 32) (hk : k ≤ 4) (ha : a + k ≤ 32) (hn : n < 4294967296) :
    Calls Try.prog 99 #[.pointer (some ⟨g, 0, none⟩), .int .u32 (n : Int), .int .i64 (k : Int)] w fun e w' => e = .returned (.tuple #[]) ∧ Blk w' g 205 (fcells (wrB bs a (leB n k)) (a + k)) ∧ Tch w.heap.size (· = g) w w' ∧ w'.heap.size = w.heap.size := by
  have hkz : (k : Int) ≤ 4 := by omega
  have H0 := hide hB
  have HBS := hide hbs
  clear hB hbs
  go_enter Try.func99, Try.ntmps99
  go_wp2_with fail
  go_loopg [1, 7] k (fun gh x1 x7 wr => ∃ j : Nat, gh = k - j ∧ j ≤ k ∧ x1 = .int .u32 ((n / 256 ^ j : Nat) : Int) ∧ x7 = .int .i64 (j : Int) ∧ Hid (Blk wr g 205 (fcells (wrB bs a (leB n j)) (a + j))) ∧ Hid (Tch w.heap.size (· = g) w wr ∧ wr.heap.size = w.heap.size))
  case atStart => exact ⟨0, rfl, Nat.zero_le _, by simp, rfl, by simpa [leB, wrB_nil] using H0, hide ⟨Tch.refl _ _ _, rfl⟩⟩
  case round =>
    obtain ⟨j, hg, hjk, rfl, rfl, HW, HT⟩ := hrel
    have HG := hide hg
    clear hg
    have hwl : (wrB bs a (leB n j)).length = 32 := by rw [wrB_length (by rw [leB_length, HBS.out]; omega)]; exact HBS.out
    rcases Nat.lt_or_ge j k with hj | hj
    · obtain ⟨b1, hb1⟩ : ∃ b1, wrB bs a (leB n j) = b1 := ⟨_, rfl⟩
      have hset : wrB bs a (leB n (j + 1)) = b1.set (a + j) (byteN n j) := by
        rw [leB_succ, wrB_snoc (by rw [leB_length, HBS.out]; omega), leB_length, hb1]
      have hq : n / 256 ^ (j + 1) = n / 256 ^ j / 256 := by rw [Nat.pow_succ, Nat.div_div_eq_div_mul]
      have hbn : byteN n j = UInt8.ofNat (n / 256 ^ j % 256) := rfl
      have hn1 : n / 256 ^ j < 4294967296 := Nat.lt_of_le_of_lt (Nat.div_le_self _ _) hn
      rw [hb1] at HW hwl
      obtain ⟨m, hm⟩ : ∃ m, n / 256 ^ j = m := ⟨_, rfl⟩
      rw [hm] at hq hbn hn1 ⊢
      have HS := hide (And.intro hset (And.intro hq hbn))
      obtain ⟨p, hp⟩ : ∃ p, a + j = p := ⟨_, rfl⟩
      rw [hp] at HW HS
      have HP := hide hp
      have hp32 : (p : Int) < 32 := by omega
      clear hp
      have hl := HW.out.lt
      have c32 := (HW.out.cell 32).trans (fcells_at hwl _)
      have f32 := HW.out.frozen 32
      have HWL := hide hwl
      have e1 : IntKind.u8.wrap (m : Int) = ((m % 256 : Nat) : Int) := by simp [IntKind.wrap, IntKind.signed, IntKind.bits]
      clear hset hq hbn hb1 hm hwl
      go_upto_region 2 with (fail)
      refine wp_region_text [0, 0, 0, 0, 0, 0, 0, 0, 0, 0, 2] (· = wr.drew) (by kernel_rfl) (by kernel_rfl) rfl ?_
      iterate 10 (refine wpOrd_q (v := ?_) (by rfl) (fun W hW => ?_) ?_; rotate_left; (focus ((cases hW; go_simp); try with_reducible rfl)); try simp only [Act.put, List.setIfInBounds_toArray, List.set_cons_zero, List.set_cons_succ])
      rw [show ((m : Int) % 256) = ((m % 256 : Nat) : Int) from by omega, ← bv_ofNat (k := m % 256) (by omega)]
      refine wpOrd_b (by rfl) (fun K hK => ?_)
      refine wp_store_cell 5 (.tmp 18) (.tmp 15) rfl g p _ _ _ (by rfl) (by rfl) HW.out.drew (by rw [fcells_size HWL.out]; omega) rfl (by kernel_rfl) ?_
      refine hK (fun _ => True) _ _ trivial (wpOrd_nil ?_)
      clear hK K
      have hB2 := HW.out.drew.set_ p (bv (UInt8.ofNat (m % 256)))
      rw [fcells_set (by rw [HWL.out]; omega), ← HS.out.2.2, ← HS.out.1] at hB2
      have hT2 : Tch w.heap.size (· = g) w (wr.drew.setCell ⟨g, p, none⟩ (bv (UInt8.ofNat (m % 256)))) := HT.out.1.drew.trans (Tch.setCell (p := ⟨g, p, none⟩) fun _ => rfl)
      have hS2 : (wr.drew.setCell ⟨g, p, none⟩ (bv (UInt8.ofNat (m % 256)))).heap.size = w.heap.size := by simpa using HT.out.2
      refine at_world (fun W => Blk W g 205 (fcells (wrB bs a (leB n (j + 1))) p) ∧ Tch w.heap.size (· = g) w W ∧ W.heap.size = w.heap.size) ⟨by rw [HS.out.2.2] at hB2; exact hB2, hT2, hS2⟩ (fun w2 h2 => ?_)
      clear hB2 hT2 hS2
      obtain ⟨hB2, hT2, hS2⟩ := h2
      have hwl2 : (wrB bs a (leB n (j + 1))).length = 32 := by rw [wrB_length (by rw [leB_length, HBS.out]; omega)]; exact HBS.out
      have H2 := hide (And.intro hB2 (And.intro hT2 hS2))
      have HWL2 := hide hwl2
      clear c32 f32 hl
      have c32 := (H2.out.1.cell 32).trans (fcells_at HWL2.out _)
      have f32 := H2.out.1.frozen 32
      have hl := H2.out.1.lt
      clear hB2 hT2 hS2 hwl2
      go_wp2
      go_roundg (k - (j + 1))
      case rel =>
        refine ⟨j + 1, rfl, by omega, ?_, by go_num, hide ?_, hide ⟨H2.out.2.1.trans (Tch.setCell (p := ⟨g, 32, none⟩) fun _ => rfl), by simpa using H2.out.2.2⟩⟩
        · rw [HS.out.2.1]; go_num
        · have := H2.out.1.set_ 32 (.int .i64 ((p + 1 : Nat) : Int))
          rw [fcells_move HWL2.out] at this
          rw [show a + (j + 1) = p + 1 from by rw [← HP.out]; omega]
          exact this
      case measure => have := HG.out; omega
    · have hjk2 : j = k := by omega
      have HJ := hide hjk2
      clear hjk2
      go_wp2
      go_returns
      have h1 := HJ.out
      subst h1
      exact ⟨rfl, HW.out, HT.out.1, HT.out.2⟩

theorem or_bytes {a b i : Nat} (ha : a < 256 ^ i) (hb : b < 256) (hi : i ≤ 3) : bits BinOp.or IntKind.u32 (a : Int) (((b * 256 ^ i : Nat)) : Int) = ((a + b * 256 ^ i : Nat) : Int) := by
  have hp : 256 ^ i ≤ 256 ^ 3 := Nat.pow_le_pow_right (by decide) hi
  have h4 : a < 4294967296 := by omega
  have h5 : b * 256 ^ i < 4294967296 := by
    have : b * 256 ^ i ≤ 255 * 256 ^ 3 := Nat.mul_le_mul (by omega) hp
    omega
  have h := (bits_nat .u32 32 (by decide) (fun n h0 h1 => by rw [IntKind.wrap_u32]; omega) a (b * 256 ^ i) h4 h5).2
  rw [h]
  have e : 256 ^ i = 2 ^ (8 * i) := by rw [show (256 : Nat) = 2 ^ 8 from rfl, ← Nat.pow_mul]
  rw [e] at ha ⊢
  rw [Nat.or_comm, Nat.add_comm, Nat.mul_comm b]
  rw [← Nat.two_pow_add_eq_or_of_lt ha]

set_option maxRecDepth 100000 in
set_option maxHeartbeats 800000 in
theorem fget_ok {a k : Nat} (hB : Blk w g 205 (fcells bs a)) (hbs : bs.length = 32) (hk : k ≤ 4) (ha : a + k ≤ 32) :
    Calls Try.prog 100 #[.pointer (some ⟨g, 0, none⟩), .int .i64 (k : Int)] w fun e w' => e = .returned (.int .u32 (leN ((bs.drop a).take k) : Int)) ∧ Blk w' g 205 (fcells bs (a + k)) ∧ Tch w.heap.size (· = g) w w' ∧ w'.heap.size = w.heap.size := by
  have hkz : (k : Int) ≤ 4 := by omega
  have H0 := hide hB
  have HBS := hide hbs
  clear hB hbs
  go_enter Try.func100, Try.ntmps100
  go_wp2_with fail
  go_loopg [5, 8] k (fun gh x5 x8 wr => ∃ (j q : Nat), gh = k - j ∧ j ≤ k ∧ x5 = .int .u32 (q : Int) ∧ x8 = .int .i64 (j : Int) ∧ Hid (leN ((bs.drop a).take j) = q) ∧ Hid (Blk wr g 205 (fcells bs (a + j))) ∧ Hid (Tch w.heap.size (· = g) w wr ∧ wr.heap.size = w.heap.size))
  case atStart => exact ⟨0, 0, rfl, Nat.zero_le _, rfl, rfl, hide (by simp [leN]), H0, hide ⟨Tch.refl _ _ _, rfl⟩⟩
  case round =>
    obtain ⟨j, q, hg, hjk, rfl, rfl, HQ, HW, HT⟩ := hrel
    have HG := hide hg
    clear hg
    rcases Nat.lt_or_ge j k with hj | hj
    · obtain ⟨p, hp⟩ : ∃ p, a + j = p := ⟨_, rfl⟩
      rw [hp] at HW
      have hp32 : (p : Int) < 32 := by omega
      have hpl : p < bs.length := by rw [HBS.out]; omega
      have hstep : leN ((bs.drop a).take (j + 1)) = q + (bs.getD p 0).toNat * 256 ^ j := by
        have hl : j < (bs.drop a).length := by rw [List.length_drop, HBS.out]; omega
        rw [List.take_succ_eq_append_getElem hl, leN_snoc, HQ.out, List.length_take, Nat.min_eq_left (by omega), List.getElem_drop]
        congr 2
        rw [List.getD_eq_getElem?_getD, List.getElem?_eq_getElem hpl]
        simp only [Option.getD_some]
        congr 2
      have hq : q < 256 ^ j := by
        have := leN_lt ((bs.drop a).take j)
        rw [HQ.out] at this
        exact Nat.lt_of_lt_of_le this (Nat.pow_le_pow_right (by decide) (by simp; omega))
      have hl := HW.out.lt
      have c32 := (HW.out.cell 32).trans (fcells_at HBS.out _)
      have cp := (HW.out.cell p).trans (fcells_byte (a := p) hpl)
      have f32 := HW.out.frozen 32
      have hv := (bs.getD p 0).toNat_lt
      have HST := hide hstep
      have HP := hide hp
      simp only [bv] at cp
      generalize (bs.getD p 0).toNat = v at cp HST hv
      clear hstep hp hpl
      have e1 : IntKind.u32.wrap (v : Int) = (v : Int) := by rw [IntKind.wrap_u32]; omega
      have e2 : IntKind.i64.wrap (8 * (j : Int)) = 8 * (j : Int) := IntWalk.i64_in _ (by omega)
      have e3 : IntKind.u32.wrap ((v : Int) * 2 ^ (8 * (j : Int)).toNat) = ((v * 256 ^ j : Nat) : Int) := by
        have h1 : (8 * (j : Int)).toNat = 8 * j := by omega
        have h2 : (256 : Nat) ^ j = 2 ^ (8 * j) := by rw [show (256 : Nat) = 2 ^ 8 from rfl, ← Nat.pow_mul]
        have h3 : 256 ^ j ≤ 256 ^ 3 := Nat.pow_le_pow_right (by decide) (by omega)
        have h4 : v * 256 ^ j ≤ 255 * 256 ^ 3 := Nat.mul_le_mul (by omega) h3
        have h5 : ((v * 256 ^ j : Nat) : Int) = (v : Int) * 2 ^ (8 * j) := by rw [h2]; simp
        rw [h1, ← h5, IntKind.wrap_u32]
        omega
      have e4 := or_bytes hq hv (by omega)
      obtain ⟨z, hz⟩ : ∃ z, v * 256 ^ j = z := ⟨_, rfl⟩
      rw [hz] at e3 e4 HST
      obtain ⟨r, hr⟩ : ∃ r, q + z = r := ⟨_, rfl⟩
      rw [hr] at e4 HST
      clear hz hr hq
      go_upto_region 5 with (fail)
      refine wp_region_text [0, 0, 0, 0, 0, 0, 0, 0, 0, 0, 0, 0, 0, 0, 0, 0] (· = wr.drew) (by kernel_rfl) (by kernel_rfl) rfl ?_
      iterate 16 (refine wpOrd_q (v := ?_) (by rfl) (fun W hW => ?_) ?_; rotate_left; (focus ((cases hW; go_simp); try with_reducible rfl)); try simp only [Act.put, List.setIfInBounds_toArray, List.set_cons_zero, List.set_cons_succ])
      refine wpOrd_nil ?_
      go_wp2
      go_roundg (k - (j + 1))
      case rel =>
        refine ⟨j + 1, _, rfl, by omega, rfl, by go_num, HST, hide ?_, hide ⟨HT.out.1.drew.trans (Tch.setCell (p := ⟨g, 32, none⟩) fun _ => rfl), by simpa using HT.out.2⟩⟩
        have := HW.out.drew.set_ 32 (.int .i64 ((p + 1 : Nat) : Int))
        rw [fcells_move HBS.out] at this
        rw [show a + (j + 1) = p + 1 from by rw [← HP.out]; omega]
        exact this
      case measure => have := HG.out; omega
    · have hjk2 : j = k := by omega
      have HJ := hide hjk2
      clear hjk2
      go_wp2
      go_returns
      have h1 := HJ.out
      subst h1
      exact ⟨by rw [HQ.out]; rfl, HW.out, HT.out.1, HT.out.2⟩
end
end Go.Proofs.Ytoeejeieplhifaa

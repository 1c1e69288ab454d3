/- Programs' texts: a line's bytes: numbers of sixteen bits, data, instructions. -/
import Derived.Test.YtmhlokehdjnldaaDoorAsV
import Derived.Test.YtmhlokehdjnldaaDoorOrd
import Derived.Test.YtmhlokehdjnldaaDoorFiSlice
import Derived.OwnWalk
namespace Go.Proofs.YtmhlokehdjnldaaDoor
open Go.RowKit Go.WideMaps
set_option linter.unusedSimpArgs false
set_option linter.unusedVariables false

theorem size_ins (o x y z : Nat) : (Tryd.prog.info? 38).map (·.size) = some (insC o x y z).size := by kernel_rfl
theorem ins_one (o x y z : Nat) : (insC o x y z).all (·.oneCell') = true := by simp [Value.oneCell']
theorem LabsAt.blk {w w' : World} {b : Nat} {L : Lbs} {B : Nat} (h : LabsAt w b L) (hb : Below B w w') (h2 : w.heap.size ≤ B) : LabsAt w' b L := by
  obtain ⟨m, lv, ex, sz, h1, h3⟩ := h
  exact ⟨m, lv, ex, sz, h1.below hb (by have := h1.lt; omega), h3.below hb (by have := h3.lt; omega)⟩

theorem blk_second (w : World) (a b : Array Value) (t : TypeId) : Blk ((w.alloc (.cells a t)).alloc (.cells b t)) (w.heap.size + 1) t b := by
  have := Blk.new (w.alloc (.cells a t)) t b
  rw [World.size_alloc] at this
  exact this
theorem valueA_range {L : Lbs} (hO : LbOk L) {s : List UInt8} {lo hi : Int} (h1 : -1000000 ≤ lo) (h2 : hi ≤ 1000000) : -1000000 ≤ (valueA L s lo hi).1 ∧ (valueA L s lo hi).1 ≤ 1000000 ∧ ((valueA L s lo hi).2 = 0 → lo ≤ (valueA L s lo hi).1 ∧ (valueA L s lo hi).1 ≤ hi) := by
  unfold valueA
  cases hm : mget L s with
  | some n =>
    have := hO.le hm
    simp only
    split <;> simp <;> omega
  | none =>
    simp only
    split
    · simp
    · cases hn : numIn s lo hi with
      | none => simp
      | some n => have := numIn_range hn; simp; omega
/-! ### numbers of sixteen bits -/
/-- an instruction with a number's two bytes -/
def WideAns (L : Lbs) (o x : Nat) (s : List UInt8) (at_ : Nat) (e : Ending) : Prop :=
  ∃ (y z : Nat) (er : Int), e = .returned (.tuple #[.agg (insC o x y z), .int .i64 er]) ∧ er = (wideA L o s at_).2 ∧ (er = 0 → y = ((wideA L o s at_).1 % 256).toNat ∧ z = ((wideA L o s at_).1 / 256 % 256).toNat)
theorem wrap_i16u16 (n : Int) : IntKind.u16.wrap (IntKind.i16.wrap n) = n % 65536 := by
  rw [IntKind.wrap_u16]
  unfold IntKind.wrap
  simp [IntKind.bits, IntKind.signed]
  split <;> omega
set_option maxRecDepth 100000 in
set_option maxHeartbeats 4000000 in
theorem wide16_ok {w : World} {b : Nat} {L : Lbs} (hL : LabsAt w b L) (hO : LbOk L) (o x y z : Nat) (s : ByteArray) (hs : s.size ≤ maxLen) (at_ : Nat) (hat : at_ ≤ 1000000) :
    Calls Tryd.prog 58 #[.pointer (some ⟨b, 0, none⟩), .agg (insC o x y z), .string s, .int .i64 (at_ : Int)] w fun e w' => WideAns L o x s.data.toList at_ e ∧ Below w.heap.size w w' := by
  have hlk : mget (lbV L) (sk s hs) = (mget L s.data.toList).map fun n => .int .i64 (n : Int) := by rw [sk_skey]; exact mget_lbV hO (by rw [← sz]; exact hs)
  have HLK := hide hlk
  have HOO := hide hO
  clear hlk hO
  have hb2 := below2 w (.cells (insC o x y z) 38) (.cells (insC 0 0 0 0) 38)
  go_enter Tryd.func58, Tryd.ntmps58
  go_upto_region 1 with (fail)
  refine at_world (fun W => ∃ p r, p = w.heap.size ∧ r = w.heap.size + 1 ∧ Below w.heap.size w W ∧ Blk W p 38 (insC o x y z) ∧ Blk W r 38 (insC 0 0 0 0)) ⟨_, _, rfl, rfl, hb2, (Blk.new w _ _).alloc _, blk_second _ _ _ _⟩ (fun W hW => ?_)
  obtain ⟨p, r, hp, hr, hB, hP, hR⟩ := hW
  rw [← hr, ← hp]
  have HPR := hide (show p = w.heap.size ∧ r = w.heap.size + 1 from ⟨hp, hr⟩)
  clear hp hr hb2
  obtain ⟨m, lv, ex, sz', hB0, hM⟩ := hL.blk hB (Nat.le_refl _)
  have HLW := hide (show LabsAt W b L from ⟨m, lv, ex, sz', hB0, hM⟩)
  have c1 := hB0.cell 1
  have hlt := hB0.lt
  have HBB := hide hB
  have HP := hide hP
  have HR := hide hR
  have HM := hide hM
  have k0 := hP.cell 0
  have kl := hP.lt
  clear hB hP hR hM hL hB0
  obtain ⟨q, hq⟩ : ∃ q, mget L s.data.toList = q := ⟨_, rfl⟩
  have HLK2 : Hid (mget (lbV L) (sk s hs) = q.map fun n => .int .i64 (n : Int)) := hide (by rw [HLK.out, hq])
  have HV : Hid (wideA L o s.data.toList at_ = match q with
    | some tn => if jumpB o then (if ((tn : Int) - at_) % 4 = 0 then (((tn : Int) - at_ - 4) / 4, 0) else (0, 28)) else valueA L s.data.toList (-32768) 65535
    | none => valueA L s.data.toList (-32768) 65535) := hide (by unfold wideA; rw [hq]; cases q <;> rfl)
  have HQ := hide hq
  clear hq HLK
  cases q with
  | none =>
    go_wp2_with (first | ((with_reducible refine at_look 57 (.tmp 18) (.tmp 19) true ?_); refine wpList_lookup_map rfl 57 (.tmp 18) (.tmp 19) true rfl (sk s hs) (by rfl) (skv_sk s hs).symm HM.out.is strEnc Tryd.underlying57 (z := .int .i64 0) (by kernel_rfl) (.tuple #[.int .i64 0, .bool false]) (lookV_eq HLK2.out) ?_) | fail)
    have HV2 : Hid (wideA L o s.data.toList at_ = valueA L s.data.toList (-32768) 65535) := HV
    refine (value_ok HLW.out HOO.out s hs (-32768) 65535).mono ?_
    rintro e w2 ⟨rfl, rfl⟩
    have hvr := valueA_range HOO.out (s := s.data.toList) (lo := -32768) (hi := 65535) (by decide) (by decide)
    obtain ⟨n, er, hne⟩ : ∃ n er, valueA L s.data.toList (-32768) 65535 = (n, er) := ⟨_, _, rfl⟩
    rw [hne] at hvr HV2
    rw [hne]
    obtain ⟨v, hv⟩ : ∃ v : Nat, (v : Int) = n % 65536 := ⟨(n % 65536).toNat, by omega⟩
    have w6 : IntKind.u16.wrap n = (v : Int) := by rw [IntKind.wrap_u16]; exact hv.symm
    have HF : Hid (wideA L o s.data.toList at_ = (n, er) ∧ (er = 0 → v % 256 = (n % 256).toNat ∧ v / 256 % 256 = (n / 256 % 256).toNat)) := hide ⟨HV2.out, fun _ => ⟨by omega, by omega⟩⟩
    clear hvr hv hne HV2
    go_wp2_with (first | ((with_reducible refine at_load 38 (.tmp 5) ?_); refine wpList_load_blk rfl 38 (.tmp 5) rfl p _ _ _ (by rfl) HP.out Tryd.underlying38 rfl (size_ins _ _ _ _) ?_) | fail)
    refine (setwide_ok o x y z v _).mono ?_
    rintro e w3 ⟨rfl, hb3⟩
    obtain ⟨y2, hy2⟩ : ∃ y2, v % 256 = y2 := ⟨_, rfl⟩
    obtain ⟨z2, hz2⟩ : ∃ z2, v / 256 % 256 = z2 := ⟨_, rfl⟩
    have HF2 := HF.out
    rw [hy2, hz2] at HF2
    rw [hy2, hz2]
    have HF3 := hide HF2
    clear hy2 hz2 HF2 HF
    have HR3 := hide (HR.out.below hb3 HR.out.lt)
    have HB3 := hide (Below.then_ HBB.out HBB.out.size hb3)
    have hwr := hide (show w.heap.size ≤ r by have := HPR.out; omega)
    clear hb3 k0 kl c1 hlt
    go_wp2_with (first | ((with_reducible refine at_store 38 (.tmp 8) (.tmp 63) ?_); refine wpList_store_blk rfl 38 (.tmp 8) (.tmp 63) rfl r _ _ _ (by rfl) (by rfl) HR3.out (size_ins o x y2 z2) (by rfl) (ins_one o x y2 z2) (fun hB4 => ?_)) | ((with_reducible refine at_end ?_); refine bodyPost_ret (v := .tuple #[.agg (insC o x y2 z2), .int .i64 er]) (results_run2 rfl (ResV.row rfl hB4 Tryd.underlying38 rfl (size_ins _ _ _ _)) rfl) rfl ⟨⟨y2, z2, er, rfl, by rw [HF3.out.1], fun h => by rw [HF3.out.1]; exact HF3.out.2 h⟩, below_setRow HB3.out hwr.out _⟩) | fail)
  | some tn =>
    have htn := HOO.out.le HQ.out
    by_cases hj : jumpB o = true
    · have hj' : o ≠ 2 ∧ o ≠ 3 ∧ o ≠ 4 := by simpa [jumpB] using hj
      have u2 : ((o : Int) != 2) = true := by simp; omega
      have u3 : ((o : Int) != 3) = true := by simp; omega
      have u4 : ((o : Int) != 4) = true := by simp; omega
      obtain ⟨d, hd⟩ : ∃ d : Int, d = (tn : Int) - at_ := ⟨_, rfl⟩
      have w1 : IntKind.i64.wrap ((tn : Int) - (at_ : Int)) = d := by rw [IntWalk.i64_in _ (by omega)]; exact hd.symm
      have hdb : -2000000 < d ∧ d < 2000000 := by omega
      have HV2 : Hid (wideA L o s.data.toList at_ = if d % 4 = 0 then ((d - 4) / 4, 0) else (0, 28)) := hide (by rw [HV.out, hd]; show (if jumpB o = true then _ else _) = _; rw [if_pos hj])
      have HD := hide hd
      clear hj hj' hd HV
      by_cases h4 : d % 4 = 0
      · have w2 : d.tmod 4 = 0 := by have : d = 4 * (d / 4) := by omega
                                     rw [this]; exact Int.mul_tmod_right _ _
        obtain ⟨n, hn⟩ : ∃ n : Int, n = (d - 4) / 4 := ⟨_, rfl⟩
        have w3 : IntKind.i64.wrap (d - 4) = d - 4 := IntWalk.i64_in _ (by omega)
        have w4 : (d - 4).tdiv 4 = n := by
          have : d - 4 = 4 * n := by omega
          rw [this]; exact Int.mul_tdiv_cancel_left _ (by decide)
        have w5 : IntKind.i64.wrap n = n := IntWalk.i64_in _ (by omega)
        obtain ⟨v, hv⟩ : ∃ v : Nat, (v : Int) = n % 65536 := ⟨(n % 65536).toNat, by omega⟩
        have w6 : IntKind.u16.wrap (IntKind.i16.wrap n) = (v : Int) := by rw [wrap_i16u16]; omega
        have HF : Hid (wideA L o s.data.toList at_ = (n, 0) ∧ v % 256 = (n % 256).toNat ∧ v / 256 % 256 = (n / 256 % 256).toNat) := hide ⟨by rw [HV2.out, if_pos h4, hn], by omega, by omega⟩
        clear hn hv h4 HV2
        go_wp2_with (first | ((with_reducible refine at_look 57 (.tmp 18) (.tmp 19) true ?_); refine wpList_lookup_map rfl 57 (.tmp 18) (.tmp 19) true rfl (sk s hs) (by rfl) (skv_sk s hs).symm HM.out.is strEnc Tryd.underlying57 (z := .int .i64 0) (by kernel_rfl) (.tuple #[.int .i64 (tn : Int), .bool true]) (lookV_eq HLK2.out) ?_) | ((with_reducible refine at_load 38 (.tmp 5) ?_); refine wpList_load_blk rfl 38 (.tmp 5) rfl p _ _ _ (by rfl) HP.out Tryd.underlying38 rfl (size_ins _ _ _ _) ?_) | fail)
        refine (setwide_ok o x y z v _).mono ?_
        rintro e w3 ⟨rfl, hb3⟩
        obtain ⟨y2, hy2⟩ : ∃ y2, v % 256 = y2 := ⟨_, rfl⟩
        obtain ⟨z2, hz2⟩ : ∃ z2, v / 256 % 256 = z2 := ⟨_, rfl⟩
        have HF2 := HF.out
        rw [hy2, hz2] at HF2
        rw [hy2, hz2]
        have HF3 := hide HF2
        clear hy2 hz2 HF2 HF
        have HR3 := hide (HR.out.below hb3 HR.out.lt)
        have HB3 := hide (Below.then_ HBB.out HBB.out.size hb3)
        have hwr := hide (show w.heap.size ≤ r by have := HPR.out; omega)
        clear hb3 k0 kl c1 hlt
        go_wp2_with (first | ((with_reducible refine at_store 38 (.tmp 8) (.tmp 53) ?_); refine wpList_store_blk rfl 38 (.tmp 8) (.tmp 53) rfl r _ _ _ (by rfl) (by rfl) HR3.out (size_ins o x y2 z2) (by rfl) (ins_one o x y2 z2) (fun hB4 => ?_)) | ((with_reducible refine at_end ?_); refine bodyPost_ret (v := .tuple #[.agg (insC o x y2 z2), .int .i64 0]) (results_run2 rfl (ResV.row rfl hB4 Tryd.underlying38 rfl (size_ins _ _ _ _)) rfl) rfl ⟨⟨y2, z2, 0, rfl, by rw [HF3.out.1], fun _ => by rw [HF3.out.1]; exact HF3.out.2⟩, below_setRow HB3.out hwr.out _⟩) | fail)
      · have w2 : (d.tmod 4 != 0) = true := by
          simp only [bne_iff_ne, ne_eq]
          intro h
          exact h4 (Int.emod_eq_zero_of_dvd (Int.dvd_of_tmod_eq_zero h))
        have HF : Hid (wideA L o s.data.toList at_ = (0, 28)) := hide (by rw [HV2.out, if_neg h4])
        have hwr := hide (show w.heap.size ≤ r by have := HPR.out; omega)
        clear h4 HV2
        go_wp2_with (first | ((with_reducible refine at_look 57 (.tmp 18) (.tmp 19) true ?_); refine wpList_lookup_map rfl 57 (.tmp 18) (.tmp 19) true rfl (sk s hs) (by rfl) (skv_sk s hs).symm HM.out.is strEnc Tryd.underlying57 (z := .int .i64 0) (by kernel_rfl) (.tuple #[.int .i64 (tn : Int), .bool true]) (lookV_eq HLK2.out) ?_) | ((with_reducible refine at_load 38 (.tmp 5) ?_); refine wpList_load_blk rfl 38 (.tmp 5) rfl p _ _ _ (by rfl) HP.out Tryd.underlying38 rfl (size_ins _ _ _ _) ?_) | ((with_reducible refine at_store 38 (.tmp 8) (.tmp 44) ?_); refine wpList_store_blk rfl 38 (.tmp 8) (.tmp 44) rfl r _ _ _ (by rfl) (by rfl) HR.out (size_ins o x y z) (by rfl) (ins_one o x y z) (fun hB4 => ?_)) | ((with_reducible refine at_end ?_); refine bodyPost_ret (v := .tuple #[.agg (insC o x y z), .int .i64 28]) (results_run2 rfl (ResV.row rfl hB4 Tryd.underlying38 rfl (size_ins _ _ _ _)) rfl) rfl ⟨⟨y, z, 28, rfl, by rw [HF.out], fun h => by cases h⟩, below_setRow HBB.out hwr.out _⟩) | fail)
    · have hj' : o = 2 ∨ o = 3 ∨ o = 4 := by
        by_cases h2 : o = 2
        · exact .inl h2
        by_cases h3 : o = 3
        · exact .inr (.inl h3)
        by_cases h4 : o = 4
        · exact .inr (.inr h4)
        exact absurd (by simp [jumpB, h2, h3, h4]) hj
      have HV2 : Hid (wideA L o s.data.toList at_ = valueA L s.data.toList (-32768) 65535) := hide (by rw [HV.out]; show (if jumpB o = true then _ else _) = _; rw [if_neg hj])
      have hpick : (((o : Int) != 2) = false ∧ True) ∨ (((o : Int) != 2) = true ∧ ((o : Int) != 3) = false) ∨ (((o : Int) != 2) = true ∧ ((o : Int) != 3) = true ∧ ((o : Int) != 4) = false) := by
        rcases hj' with rfl | rfl | rfl <;> simp
      clear hj hj' HV
      rcases hpick with ⟨u2, -⟩ | ⟨u2, u3⟩ | ⟨u2, u3, u4⟩ <;>
      ( go_wp2_with (first | ((with_reducible refine at_look 57 (.tmp 18) (.tmp 19) true ?_); refine wpList_lookup_map rfl 57 (.tmp 18) (.tmp 19) true rfl (sk s hs) (by rfl) (skv_sk s hs).symm HM.out.is strEnc Tryd.underlying57 (z := .int .i64 0) (by kernel_rfl) (.tuple #[.int .i64 (tn : Int), .bool true]) (lookV_eq HLK2.out) ?_) | fail)
        refine (value_ok HLW.out HOO.out s hs (-32768) 65535).mono ?_
        rintro e w2 ⟨rfl, rfl⟩
        have hvr := valueA_range HOO.out (s := s.data.toList) (lo := -32768) (hi := 65535) (by decide) (by decide)
        obtain ⟨n, er, hne⟩ : ∃ n er, valueA L s.data.toList (-32768) 65535 = (n, er) := ⟨_, _, rfl⟩
        rw [hne] at hvr HV2
        rw [hne]
        obtain ⟨v, hv⟩ : ∃ v : Nat, (v : Int) = n % 65536 := ⟨(n % 65536).toNat, by omega⟩
        have w6 : IntKind.u16.wrap n = (v : Int) := by rw [IntKind.wrap_u16]; exact hv.symm
        have HF : Hid (wideA L o s.data.toList at_ = (n, er) ∧ (er = 0 → v % 256 = (n % 256).toNat ∧ v / 256 % 256 = (n / 256 % 256).toNat)) := hide ⟨HV2.out, fun _ => ⟨by omega, by omega⟩⟩
        clear hvr hv hne HV2
        go_wp2_with (first | ((with_reducible refine at_load 38 (.tmp 5) ?_); refine wpList_load_blk rfl 38 (.tmp 5) rfl p _ _ _ (by rfl) HP.out Tryd.underlying38 rfl (size_ins _ _ _ _) ?_) | fail)
        refine (setwide_ok o x y z v _).mono ?_
        rintro e w3 ⟨rfl, hb3⟩
        obtain ⟨y2, hy2⟩ : ∃ y2, v % 256 = y2 := ⟨_, rfl⟩
        obtain ⟨z2, hz2⟩ : ∃ z2, v / 256 % 256 = z2 := ⟨_, rfl⟩
        have HF2 := HF.out
        rw [hy2, hz2] at HF2
        rw [hy2, hz2]
        have HF3 := hide HF2
        clear hy2 hz2 HF2 HF
        have HR3 := hide (HR.out.below hb3 HR.out.lt)
        have HB3 := hide (Below.then_ HBB.out HBB.out.size hb3)
        have hwr := hide (show w.heap.size ≤ r by have := HPR.out; omega)
        clear hb3 k0 kl c1 hlt
        go_wp2_with (first | ((with_reducible refine at_store 38 (.tmp 8) (.tmp 63) ?_); refine wpList_store_blk rfl 38 (.tmp 8) (.tmp 63) rfl r _ _ _ (by rfl) (by rfl) HR3.out (size_ins o x y2 z2) (by rfl) (ins_one o x y2 z2) (fun hB4 => ?_)) | ((with_reducible refine at_end ?_); refine bodyPost_ret (v := .tuple #[.agg (insC o x y2 z2), .int .i64 er]) (results_run2 rfl (ResV.row rfl hB4 Tryd.underlying38 rfl (size_ins _ _ _ _)) rfl) rfl ⟨⟨y2, z2, er, rfl, by rw [HF3.out.1], fun h => by rw [HF3.out.1]; exact HF3.out.2 h⟩, below_setRow HB3.out hwr.out _⟩) | fail))

/-! ### rows of words -/
def svs (l : List (List UInt8)) : List Value := l.map fun x => .string ⟨x.toArray⟩
theorem svs_length (l : List (List UInt8)) : (svs l).length = l.length := by simp [svs]
theorem svs_get (l : List (List UInt8)) (i : Nat) : (svs l)[i]? = (l[i]?).map fun x => .string ⟨x.toArray⟩ := by simp [svs]
theorem svs_snoc (l : List (List UInt8)) (x : List UInt8) : svs (l ++ [x]) = svs l ++ [.string ⟨x.toArray⟩] := by simp [svs]
/-- the words of a row, by number -/
theorem rd_words {w : World} {B n : Nat} {A : Option Addr} {l : List (List UInt8)} (h : Rd w B 1 A n (svs l)) (hn : 0 < n) :
    ∃ b o, A = some ⟨b, o, none⟩ ∧ b < B ∧ ∀ i, i < n → w.cell? ⟨b, o + i, none⟩ = some (.string ⟨(wd l i).toArray⟩) := by
  have hl : l.length = n := by have := h.1; simpa [svs] using this
  obtain ⟨b, o, hA, hb, hc⟩ := h.2 hn
  refine ⟨b, o, hA, hb, fun i hi => hc i _ ?_⟩
  rw [svs_get, List.getElem?_eq_getElem (by omega)]
  simp [wd, List.getD_eq_getElem?_getD, List.getElem?_eq_getElem (show i < l.length by omega)]
theorem sa_data (l : List UInt8) : (⟨l.toArray⟩ : ByteArray).data.toList = l := rfl
theorem sa_size (l : List UInt8) : (⟨l.toArray⟩ : ByteArray).size = l.length := by simp [ByteArray.size]

/-! ### how many bytes a line takes -/
def MeasAns (w w' : World) (b : Nat) (r : Except Int (Nat × Option Nat)) (n er : Int) : Prop :=
  match r with
  | .error x => er = x ∧ Below w.heap.size w w'
  | .ok (k, none) => er = 0 ∧ n = k ∧ Below w.heap.size w w'
  | .ok (k, some m) => er = 0 ∧ n = k ∧ m ≤ 32 ∧ w' = w.setCell ⟨b, 2, none⟩ (.int .u8 (m : Int))
theorem meas_err {ws : List (List UInt8)} {x : Int} (h : measA ws = .error x) : x ≠ 0 := by
  unfold measA at h
  split at h
  · split at h
    · split at h
      · injection h with h; subst h; decide
      · cases h
    · injection h with h; subst h; decide
  · split at h
    · cases h
    · split at h
      · cases h
      · split at h
        · split at h
          · cases h
          · injection h with h; subst h; decide
        · split at h
          · injection h with h; subst h; decide
          · cases h
theorem meas_nil {ws : List (List UInt8)} : measA ws ≠ .error 0 := fun h => meas_err h rfl
set_option maxRecDepth 100000 in
set_option maxHeartbeats 4000000 in
theorem measure_ok {w : World} {b : Nat} {lv mp ex sz' : Value} (hB : Blk w b 59 #[lv, mp, ex, sz']) (ws : List (List UInt8)) (A : Option Addr) (cA : Nat) (hr : Rd w w.heap.size 1 A ws.length (svs ws)) (h0 : 0 < ws.length) (hl : ws.length ≤ 100000) :
    Calls Tryd.prog 52 #[.pointer (some ⟨b, 0, none⟩), .slice A ws.length cA] w fun e w' => ∃ n er : Int, e = .returned (.tuple #[.int .i64 n, .int .i64 er]) ∧ MeasAns w w' b (measA ws) n er := by
  obtain ⟨g, o, hA, hg, hw⟩ := rd_words hr h0
  subst hA
  have w0 : w.cell? ⟨g, o, none⟩ = some (.string ⟨(wd ws 0).toArray⟩) := hw 0 h0
  have i0 : (0 : Int) < ws.length := by omega
  have B0 := Below.refl w.heap.size w
  have HW := hide hw
  have HB := hide hB
  clear hw hB hr
  go_enter Tryd.func52, Tryd.ntmps52
  by_cases q1 : wd ws 0 = wExtra
  · have p1 : (wd ws 0 == [101, 120, 116, 114, 97]) = true := by simpa [wExtra] using q1
    have p1' : wd ws 0 = [101, 120, 116, 114, 97] := q1
    by_cases h2 : ws.length = 2
    · have t2 : ((ws.length : Int) != 2) = false := by simp [h2]
      have w1 := HW.out 1 (by omega)
      have i1 : (1 : Int) < ws.length := by omega
      have hm : Hid (measA ws = match numIn (wd ws 1) 0 32 with | none => .error 27 | some n => .ok (0, some n.toNat)) := hide (by unfold measA; rw [if_pos q1, if_pos h2]; cases numIn (wd ws 1) 0 32 <;> rfl)
      clear q1 h2
      go_wp2_with fail
      refine (number_ok ⟨(wd ws 1).toArray⟩ 0 32 _).mono ?_
      rintro e w2 ⟨⟨n, bb, rfl, -, -, hn⟩, rfl⟩
      rw [sa_data] at hn
      cases bb
      · have hv : Hid (measA ws = .error 27) := hide (by rw [hm.out, hn]; rfl)
        clear hn
        go_wp2
        go_returns
        exact ⟨0, 27, rfl, by rw [hv.out]; exact ⟨rfl, B0⟩⟩
      · rw [if_pos rfl] at hn
        obtain ⟨r1, r2⟩ := numIn_range hn
        obtain ⟨k, rfl⟩ : ∃ k : Nat, n = (k : Int) := ⟨n.toNat, by omega⟩
        have hv : Hid (measA ws = .ok (0, some k)) := hide (by rw [hm.out, hn]; rfl)
        have hk : Hid (k ≤ 32) := hide (by omega)
        have w8 : IntKind.u8.wrap (k : Int) = k := by rw [IntKind.wrap_u8']; omega
        have c2 := HB.out.cell 2
        have f2 := HB.out.frozen 2
        have hlt := HB.out.lt
        clear hn r1 r2
        go_wp2
        go_returns
        exact ⟨0, 0, rfl, by rw [hv.out]; exact ⟨rfl, rfl, hk.out, rfl⟩⟩
    · have t2 : ((ws.length : Int) != 2) = true := by simp; omega
      have hv : Hid (measA ws = .error 28) := hide (by unfold measA; rw [if_pos q1, if_neg h2])
      clear q1 h2
      go_wp2
      go_returns
      exact ⟨0, 28, rfl, by rw [hv.out]; exact ⟨rfl, B0⟩⟩
  have p1 : (wd ws 0 == [101, 120, 116, 114, 97]) = false := by simpa [wExtra] using q1
  have p1' : ¬ wd ws 0 = [101, 120, 116, 114, 97] := q1
  by_cases q2 : wd ws 0 = wByte
  · have p2 : (wd ws 0 == [98, 121, 116, 101]) = true := by simpa [wByte] using q2
    have p2' : wd ws 0 = [98, 121, 116, 101] := q2
    have hv : Hid (measA ws = .ok (ws.length - 1, none)) := hide (by unfold measA; rw [if_neg q1, if_pos q2])
    have w8 : IntKind.i64.wrap ((ws.length : Int) - 1) = ((ws.length - 1 : Nat) : Int) := by rw [IntWalk.i64_in _ (by omega)]; omega
    clear q1 q2
    go_wp2
    go_returns
    refine ⟨_, 0, rfl, ?_⟩
    rw [hv.out]
    exact ⟨rfl, by first | rfl | omega | simp, B0⟩
  have p2 : (wd ws 0 == [98, 121, 116, 101]) = false := by simpa [wByte] using q2
  have p2' : ¬ wd ws 0 = [98, 121, 116, 101] := q2
  by_cases q3 : wd ws 0 = wWord
  · have p3 : (wd ws 0 == [119, 111, 114, 100]) = true := by simpa [wWord] using q3
    have p3' : wd ws 0 = [119, 111, 114, 100] := q3
    have hv : Hid (measA ws = .ok (4 * (ws.length - 1), none)) := hide (by unfold measA; rw [if_neg q1, if_neg q2, if_pos q3])
    clear q1 q2 q3
    go_wp2
    go_returns
    refine ⟨_, 0, rfl, ?_⟩
    rw [hv.out]
    exact ⟨rfl, by first | rfl | omega | simp, B0⟩
  have p3 : (wd ws 0 == [119, 111, 114, 100]) = false := by simpa [wWord] using q3
  have p3' : ¬ wd ws 0 = [119, 111, 114, 100] := q3
  by_cases q4 : wd ws 0 = wText
  · have p4 : (wd ws 0 == [116, 101, 120, 116]) = true := by simpa [wText] using q4
    have p4' : wd ws 0 = [116, 101, 120, 116] := q4
    by_cases h2 : ws.length = 2
    · have t2 : ((ws.length : Int) != 2) = false := by simp [h2]
      have w1 := HW.out 1 (by omega)
      have i1 : (1 : Int) < ws.length := by omega
      have hv : Hid (measA ws = .ok ((wd ws 1).length, none)) := hide (by unfold measA; rw [if_neg q1, if_neg q2, if_neg q3, if_pos q4, if_pos h2])
      clear q1 q2 q3 q4 h2
      go_wp2
      go_returns
      refine ⟨_, 0, rfl, ?_⟩
      rw [hv.out]
      exact ⟨rfl, by first | rfl | omega | simp, B0⟩
    · have t2 : ((ws.length : Int) != 2) = true := by simp; omega
      have hv : Hid (measA ws = .error 28) := hide (by unfold measA; rw [if_neg q1, if_neg q2, if_neg q3, if_pos q4, if_neg h2])
      clear q1 q2 q3 q4 h2
      go_wp2
      go_returns
      exact ⟨0, 28, rfl, by rw [hv.out]; exact ⟨rfl, B0⟩⟩
  have p4 : (wd ws 0 == [116, 101, 120, 116]) = false := by simpa [wText] using q4
  have p4' : ¬ wd ws 0 = [116, 101, 120, 116] := q4
  have hm : Hid (measA ws = if opA (wd ws 0) = 0 then .error 32 else .ok (4, none)) := hide (by unfold measA; rw [if_neg q1, if_neg q2, if_neg q3, if_neg q4])
  clear q1 q2 q3 q4
  go_wp2_with fail
  refine (named_ok ⟨(wd ws 0).toArray⟩ _).mono ?_
  rintro e w2 ⟨rfl, hb⟩
  rw [sa_data]
  by_cases h5 : opA (wd ws 0) = 0
  · have t5 : decide (opA (wd ws 0) ≠ 0) = false := by simp [h5]
    have hv : Hid (measA ws = .error 32) := hide (by rw [hm.out, if_pos h5])
    rw [t5]
    clear h5 t5
    go_wp2
    go_returns
    exact ⟨0, 32, rfl, by rw [hv.out]; exact ⟨rfl, hb⟩⟩
  · have t5 : decide (opA (wd ws 0) ≠ 0) = true := by simp [h5]
    have hv : Hid (measA ws = .ok (4, none)) := hide (by rw [hm.out, if_neg h5])
    rw [t5]
    clear h5 t5
    go_wp2
    go_returns
    exact ⟨4, 0, rfl, by rw [hv.out]; exact ⟨rfl, rfl, hb⟩⟩

/-! ### rows of numbers -/
theorem bytesA_take {n : Int} (k : Nat) : ((bytesA n).take k).length ≤ 4 := by simp [bytesA]; omega
/-- what a line of numbers answers -/
def DataAns (r : Except Int (List UInt8)) (B : Nat) (e : Ending) (w' : World) : Prop :=
  ∃ (v : Value) (er : Int), e = .returned (.tuple #[v, .int .i64 er]) ∧ match r with
    | .error x => er = x ∧ x ≠ 0
    | .ok b => er = 0 ∧ w'.ownsRow B 5 1 v b.length (bvs b)
theorem valueA_err (L : Lbs) (s : List UInt8) (lo hi : Int) : 0 ≤ (valueA L s lo hi).2 ∧ (valueA L s lo hi).2 ≤ 27 := by
  unfold valueA
  cases mget L s with
  | some n => simp only; split <;> simp
  | none =>
    simp only
    split
    · simp
    · cases numIn s lo hi <;> simp
def dlo (k : Nat) : Int := if k = 4 then -999999 else -128
def dhi (k : Nat) : Int := if k = 4 then 999999 else 255
/-- numbers as bytes, from the first ones on -/
def dataGo (L : Lbs) (k : Nat) : List UInt8 → List (List UInt8) → Except Int (List UInt8)
  | out, [] => .ok out
  | out, s :: t => if (valueA L s (dlo k) (dhi k)).2 ≠ 0 then .error (valueA L s (dlo k) (dhi k)).2 else dataGo L k (out ++ (bytesA (valueA L s (dlo k) (dhi k)).1).take k) t
theorem dataGo_eq (L : Lbs) (k : Nat) : ∀ (ws : List (List UInt8)) (out : List UInt8), dataGo L k out ws = match dataA L k ws with | .error e => .error e | .ok b => .ok (out ++ b)
  | [], out => by simp [dataGo, dataA]
  | s :: t, out => by
    rw [dataGo, dataA]
    unfold dlo dhi
    by_cases h : (valueA L s (if k = 4 then -999999 else -128) (if k = 4 then 999999 else 255)).2 ≠ 0
    · rw [if_pos h, if_pos h]
    · rw [if_neg h, if_neg h]
      have := dataGo_eq L k t (out ++ (bytesA (valueA L s (if k = 4 then -999999 else -128) (if k = 4 then 999999 else 255)).1).take k)
      rw [this]
      cases dataA L k t with
      | error e => rfl
      | ok b => simp
theorem info_u8 : (Tryd.prog.info? 5).map (fun i => (i.zero, i.size, i.bytes)) = some (some (.int .u8 0), 1, 1) := by kernel_rfl
theorem own_ge {w : World} {base n size : Nat} {e : TypeId} {v : Value} {xs : List Value} (h : w.ownsRow base e size v n xs) {g : Nat} (hv : v.ownBlock = some g) : base ≤ g := by
  rcases h.2 with ⟨rfl, _⟩ | ⟨g', cap, cur, rfl, hb, _⟩
  · cases hv
  · simp only [Value.ownBlock, Option.some.injEq] at hv
    omega
theorem run_slice_arrhi {P : Program} {w : World} (t e : TypeId) (g n h : Nat) (k : IntKind) (hu : P.underlying t = some (.array n e)) (hs : (P.info? e).map (·.size) = some 1) (hl : h ≤ n) (hn : 0 < n) :
    (Instr.sliceAt t (.pointer (some ⟨g, 0, none⟩)) none (some (.int k (h : Int))) none).run P w = .ok (.slice (some ⟨g, 0, none⟩) h n) w := by
  cases hq : P.info? e with
  | none => simp [hq] at hs
  | some i =>
    have hi : i.size = 1 := by simpa [hq] using hs
    have h1 : (h : Int) ≤ (n : Int) := by omega
    have h2 : ¬ n = 0 := by omega
    simp [Instr.sliceAt, Instr.sureAddr, run_underlying hu, Instr.sliceBounds, run_sliceBound, h1, sizeOf, typeInfo, hq, hi, Addr.add, h2, Result.andThen]
theorem size_four : (Tryd.prog.info? 5).map (·.size) = some 1 := by kernel_rfl
theorem wrap_i32u32 {n : Int} (h1 : -1000000 ≤ n) (h2 : n ≤ 1000000) : wrap32 n = n ∧ IntKind.i32.wrap n = n := by
  refine ⟨?_, ?_⟩
  · unfold wrap32; omega
  · rw [IntKind.wrap_i32]; omega
theorem four_bytes {n : Int} {v : Nat} (hv : (v : Int) = n % 4294967296) : (fourC (v % 256) (v / 256 % 256) (v / 65536 % 256) (v / 16777216 % 256)).toList = bvs (bytesA n) := by
  have h0 : byteI n = UInt8.ofNat (v % 256) := by unfold byteI; congr 1; omega
  have h1 : byteI (n / 256) = UInt8.ofNat (v / 256 % 256) := by unfold byteI; congr 1; omega
  have h2 : byteI (n / 65536) = UInt8.ofNat (v / 65536 % 256) := by unfold byteI; congr 1; omega
  have h3 : byteI (n / 16777216) = UInt8.ofNat (v / 16777216 % 256) := by unfold byteI; congr 1; omega
  simp only [bytesA, bvs, List.map_cons, List.map_nil, h0, h1, h2, h3]
  rw [bv_ofNat (show v % 256 < 256 by omega), bv_ofNat (show v / 256 % 256 < 256 by omega), bv_ofNat (show v / 65536 % 256 < 256 by omega), bv_ofNat (show v / 16777216 % 256 < 256 by omega)]
theorem rd_of_blk {w : World} {p : Nat} {t : TypeId} {cs : Array Value} {xs : List Value} (h : Blk w p t cs) (hc : cs.toList = xs) {k : Nat} (hk : k ≤ xs.length) : Rd w w.heap.size 1 (some ⟨p, 0, none⟩) k (xs.take k) := by
  refine ⟨by simp; omega, fun _ => ⟨p, 0, rfl, h.lt, fun j u hj => ?_⟩⟩
  rw [Nat.zero_add, h.cell]
  rw [List.getElem?_take] at hj
  split at hj
  · rw [← hj, ← hc, Array.getElem?_toList]
  · cases hj
set_option maxRecDepth 100000 in
set_option maxHeartbeats 4000000 in
theorem data_ok {w : World} {b : Nat} {L : Lbs} (hL : LabsAt w b L) (hO : LbOk L) (ws : List (List UInt8)) (A : Option Addr) (cA : Nat) (hr : Rd w w.heap.size 1 A ws.length (svs ws)) (hl : ws.length ≤ 100000) (hsz : ∀ x ∈ ws, x.length ≤ maxLen) (k : Nat) (hk : k = 1 ∨ k = 4) :
    Calls Tryd.prog 22 #[.pointer (some ⟨b, 0, none⟩), .slice A ws.length cA, .int .i64 (k : Int)] w fun e w' => DataAns (dataA L k ws) w.heap.size e w' ∧ Below w.heap.size w w' := by
  go_enter Tryd.func22, Tryd.ntmps22
  have hlo : Hid (dlo k = if k = 4 then -999999 else -128) := hide rfl
  obtain ⟨lo, hlo⟩ : ∃ lo, dlo k = lo := ⟨_, rfl⟩
  obtain ⟨hi, hhi⟩ : ∃ hi, dhi k = hi := ⟨_, rfl⟩
  have HLO := hide hlo
  have HHI := hide hhi
  have HK := hide hk
  clear hlo hhi hk
  go_upto_if 17 with (fail)
  go_cut [9, 10] from 9 to 11 (fun x9 x10 wc => x9 = .int .i64 lo ∧ x10 = .int .i64 hi ∧ wc = w)
  case first =>
    rcases HK.out with rfl | rfl
    · go_wp2
      go_meet
      case rel => exact ⟨congrArg (Value.int .i64) HLO.out, congrArg (Value.int .i64) HHI.out, rfl⟩
    · go_wp2
      go_meet
      case rel => exact ⟨congrArg (Value.int .i64) HLO.out, congrArg (Value.int .i64) HHI.out, rfl⟩
  case rest =>
    obtain ⟨rfl, rfl, rfl⟩ := hcut
    obtain ⟨i0, hi0, hz0, hz1, hz2⟩ := info_parts info_u8
    have HR := hide hr
    have HL := hide hL
    have HO := hide hO
    have HSZ := hide hsz
    have HLen := hide hl
    clear hr hL hO hsz
    have HEQ := hide (dataGo_eq L k ws [])
    go_wp2
    go_loopg [8, 20] ws.length (fun g x8 x20 wr => ∃ (j : Nat) (out : List UInt8), j ≤ ws.length ∧ g = ws.length - j ∧ x20 = .int .i64 (j : Nat) ∧ Hid (Below wc.heap.size wc wr) ∧ Hid (wr.ownsRow wc.heap.size 5 1 x8 out.length (bvs out)) ∧ Hid (dataGo L k [] ws = dataGo L k out (ws.drop j)) ∧ Hid (out.length ≤ 4 * j))
    case atStart => exact ⟨0, [], by omega, rfl, rfl, hide (Below.refl _ _), hide (World.ownsRow_nil _ _ _ _), hide rfl, hide (by simp)⟩
    case round =>
      obtain ⟨j, out, hj, hg, rfl, HBr, HOW, HGO, HOL⟩ := hrel
      have HG := hide hg
      clear hg
      by_cases hjn : j < ws.length
      · obtain ⟨g, o, hA, hgb, hw⟩ := rd_words HR.out (by omega)
        subst hA
        have hjz : (j : Int) < (ws.length : Int) := by omega
        have t1 : decide ((j : Int) < (ws.length : Int)) = true := by simpa using hjz
        have wj : wr.cell? ⟨g, o + j, none⟩ = some (.string ⟨(wd ws j).toArray⟩) := (HBr.out.cell (p := ⟨g, o + j, none⟩) hgb).trans (hw j hjn)
        have hgr : g < wr.heap.size := Nat.lt_of_lt_of_le hgb HBr.out.size
        have hdrop : Hid (ws.drop j = wd ws j :: ws.drop (j + 1)) := hide (by
          rw [List.drop_eq_getElem_cons hjn]
          simp [wd, List.getD_eq_getElem?_getD, List.getElem?_eq_getElem hjn])
        have hmem : wd ws j ∈ ws := by unfold wd; rw [List.getD_eq_getElem?_getD, List.getElem?_eq_getElem hjn]; exact List.getElem_mem _
        have hszj : (⟨(wd ws j).toArray⟩ : ByteArray).size ≤ maxLen := by rw [sa_size]; exact HSZ.out _ hmem
        have HLr := hide (HL.out.blk HBr.out (Nat.le_refl _))
        clear hw hmem
        go_wp2_with fail
        refine (value_ok HLr.out HO.out ⟨(wd ws j).toArray⟩ hszj lo hi).mono ?_
        rintro e w2 ⟨rfl, rfl⟩
        rw [sa_data]
        have hlr : -1000000 ≤ lo ∧ hi ≤ 1000000 := by rw [← HLO.out, ← HHI.out]; unfold dlo dhi; split <;> simp
        have hvr := valueA_range HO.out (s := wd ws j) (lo := lo) (hi := hi) hlr.1 hlr.2
        have hve := valueA_err L (wd ws j) lo hi
        have hgo : Hid (dataGo L k out (ws.drop j) = if (valueA L (wd ws j) lo hi).2 ≠ 0 then .error (valueA L (wd ws j) lo hi).2 else dataGo L k (out ++ (bytesA (valueA L (wd ws j) lo hi).1).take k) (ws.drop (j + 1))) := hide (by
          rw [hdrop.out, dataGo, HLO.out, HHI.out])
        obtain ⟨n, er, hne⟩ : ∃ n er, valueA L (wd ws j) lo hi = (n, er) := ⟨_, _, rfl⟩
        rw [hne] at hvr hve hgo
        rw [hne]
        have hn1 := hvr.1
        have hn2 := hvr.2.1
        clear hne hvr hlr wj
        by_cases he : er = 0
        · have hgo2 : Hid (dataGo L k out (ws.drop j) = dataGo L k (out ++ (bytesA n).take k) (ws.drop (j + 1))) := hide (by rw [hgo.out]; exact if_neg (by simp [he]))
          subst he
          obtain ⟨v, hv⟩ : ∃ v : Nat, (v : Int) = n % 4294967296 := ⟨(n % 4294967296).toNat, by omega⟩
          obtain ⟨u1, u2⟩ := wrap_i32u32 (n := n) hn1 hn2
          have u3 : IntKind.u32.wrap n = (v : Int) := by rw [IntKind.wrap_u32']; exact hv.symm
          have HV := hide hv
          clear hv hgo hn1 hn2 hve
          go_wp2_with fail
          refine (bytes_ok v _).mono ?_
          rintro e w3 ⟨rfl, hb3⟩
          have HF := hide (four_bytes HV.out)
          obtain ⟨b0, hb0⟩ : ∃ x, v % 256 = x := ⟨_, rfl⟩
          obtain ⟨b1, hb1⟩ : ∃ x, v / 256 % 256 = x := ⟨_, rfl⟩
          obtain ⟨b2, hb2⟩ : ∃ x, v / 65536 % 256 = x := ⟨_, rfl⟩
          obtain ⟨b4, hb4⟩ : ∃ x, v / 16777216 % 256 = x := ⟨_, rfl⟩
          rw [hb0, hb1, hb2, hb4] at HF
          rw [hb0, hb1, hb2, hb4]
          have HB3 := hide (Below.then_ HBr.out HBr.out.size hb3)
          have HOW3 := hide (own_below HOW.out hb3)
          clear hb0 hb1 hb2 hb4 hb3 u1 u2 u3 HV
          go_upto_region 12 with (fail)
          refine at_world (fun W => ∃ p, p = w3.heap.size ∧ Below wc.heap.size wc W ∧ Blk W p 40 (fourC b0 b1 b2 b4) ∧ W.ownsRow wc.heap.size 5 1 _ out.length (bvs out)) ⟨_, rfl, HB3.out.alloc HB3.out.size _, Blk.new _ _ _, own_below HOW3.out (below1 _ _)⟩ (fun W hW => ?_)
          obtain ⟨p, hp, hBW, hPW, hOW⟩ := hW
          rw [← hp]
          have HBW := hide hBW
          have HPW := hide hPW
          have HOWW := hide hOW
          have hk4 : k ≤ 4 := by rcases HK.out with h | h <;> omega
          have hsl := run_slice_arrhi (P := Tryd.prog) (w := W) 40 5 p 4 k .i64 Tryd.underlying40 size_four hk4 (by omega)
          have hrd := hide (rd_of_blk hPW HF.out (k := k) (by simp [bvs, bytesA]; omega))
          clear hp hBW hPW hOW HB3 HOW3
          have hOL := HOL.out
          have hjl := HLen.out
          go_wp2_with (first | ((with_reducible refine at_slice 40 (.tmp 15) none (some (.tmp 40)) ?_); refine wpList_run rfl _ (exec_slice 40 (.tmp 15) none (some (.tmp 40)) rfl hsl) ?_) | (at_builtin; refine wpList_append_rd _ rfl (.tmp 39) (.tmp 41) 22 rfl wc.heap.size 5 i0 (.int .u8 0) 1 1 Tryd.underlying22 hi0 hz0 hz1 hz2 rfl (by decide) _ out.length (bvs out) rfl HOWW.out W.heap.size (some ⟨p, 0, none⟩) k 4 ((bvs (bytesA n)).take k) rfl hrd.out (fun u hu => bvs_one _ u (List.mem_of_mem_take hu)) (by simp only [maxLen]; omega) (by omega) HBW.out.size (fun v' w' g2 g3 g4 g5 => ?_)) | fail)
          have HG2 := hide g2
          have HB9 : Hid (Below wc.heap.size wc w') := hide (HBW.out.grown g3 HBW.out.size (fun g hg => own_ge HOWW.out hg))
          clear g2 g3 g4 g5 hOL hjl hsl
          go_roundg (ws.length - (j + 1))
          case measure => have := HG.out; omega
          case rel =>
            refine ⟨j + 1, out ++ (bytesA n).take k, by omega, rfl, by go_num, HB9, hide ?_, hide (by rw [HGO.out, hgo2.out]), hide (by have h1 := HOL.out; have h2 := bytesA_take (n := n) k; rw [List.length_append]; omega)⟩
            have h1 := HG2.out
            have e : bvs (out ++ (bytesA n).take k) = bvs out ++ (bvs (bytesA n)).take k := by simp [bvs, List.map_take]
            rw [e]
            have hl4 : (out ++ (bytesA n).take k).length = out.length + k := by rw [List.length_append, List.length_take]; simp [bytesA]; omega
            rw [hl4]
            exact h1
        · have hv : Hid (dataA L k ws = .error er) := hide (by
            have h1 := HEQ.out
            rw [HGO.out, hgo.out, if_pos he] at h1
            cases hd : dataA L k ws with
            | error e => rw [hd] at h1; injection h1 with h1; exact congrArg Except.error h1.symm
            | ok b => rw [hd] at h1; cases h1)
          have t2 : (er != 0) = true := by simpa using he
          have HE := hide he
          clear he hn1 hn2 hve hgo
          go_wp2
          go_returns
          exact ⟨⟨_, er, rfl, by rw [hv.out]; exact ⟨rfl, HE.out⟩⟩, HBr.out⟩
      · have hv : Hid (dataA L k ws = .ok out) := hide (by
          have h1 := HEQ.out
          rw [HGO.out, List.drop_eq_nil_of_le (by omega), dataGo] at h1
          cases hd : dataA L k ws with
          | error e => rw [hd] at h1; cases h1
          | ok b => rw [hd] at h1; injection h1 with h1; exact congrArg Except.ok h1.symm)
        have t1 : decide ((j : Int) < (ws.length : Int)) = false := by simp; omega
        have t1' : ¬ (j : Int) < (ws.length : Int) := by omega
        clear hjn hj
        go_wp2
        go_returns
        exact ⟨⟨_, 0, rfl, by rw [hv.out]; exact ⟨rfl, HOW.out⟩⟩, HBr.out⟩
end Go.Proofs.YtmhlokehdjnldaaDoor

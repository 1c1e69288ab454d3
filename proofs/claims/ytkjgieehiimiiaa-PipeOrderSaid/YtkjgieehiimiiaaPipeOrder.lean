/- PipeOrder: the walk (under way). -/
import Derived.Test.YtkjgieehiimiiaaPipeLaw
import Derived.Deep.LoopGhost
import Derived.Deep.Cut
import Derived.Deep.CutRange
import Derived.Deep.Slices
import Derived.Test.YtkjgieehiimiiaaArgs
namespace Go.Proofs.Ytkjgieehiimiiaa
open Go.RowKit

/-- a slice of byte slices, as it reads -/
def Rows2 (w : World) (A : Option Addr) (n : Nat) (ls : List (List UInt8)) : Prop :=
  ls.length = n ∧ (0 < n → ∃ b o, A = some ⟨b, o, none⟩ ∧ b < w.heap.size ∧ ∀ i, i < n → ∃ Ai ci, w.cell? ⟨b, o + i, none⟩ = some (.slice Ai (ls.getD i []).length ci) ∧ (ls.getD i []).length ≤ ci ∧ Rd w w.heap.size 1 Ai (ls.getD i []).length (bvs (ls.getD i [])))

/-- Where the loop stands: what went in is what came out and what waits. -/
structure Op_ (w0 w : World) (p : Nat) (F : Nat → Prop) (nx : List UInt16) (I O l : List UInt8) (kb k : Nat) : Prop where
  s : PSt w0 w p F [((true, 0, 1, 0), (l, 1, 1))] nx
  key : Blk w kb 41 #[.bool true, .int .u8 0, .int .u16 1, .int .u16 0]
  notin : ¬ F kb
  eq : I = O ++ l
  le : l.length ≤ 256
  len : I.length ≤ k * 1000

theorem Op_.up {w0 w : World} {p : Nat} {F : Nat → Prop} {nx : List UInt16} {I O l : List UInt8} {kb k : Nat} (h : Op_ w0 w p F nx I O l kb k) : Op_ w0 w p F nx I O l kb (k + 1) :=
  ⟨h.s, h.key, h.notin, h.eq, h.le, Nat.le_trans h.len (Nat.mul_le_mul_right _ (Nat.le_succ _))⟩

theorem pw_full {l li : List UInt8} (h : l.length = 256 ∧ li ≠ []) : pwrite [((true, 0, 1, 0), (l, 1, 1))] (true, 0, 1, 0) li = (0, 33, [((true, 0, 1, 0), (l, 1, 1))]) := by
  simp [pwrite, mget, h.1, h.2]
theorem pw_ok {l li : List UInt8} (h : ¬ (l.length = 256 ∧ li ≠ [])) : pwrite [((true, 0, 1, 0), (l, 1, 1))] (true, 0, 1, 0) li = (min li.length (256 - l.length), 0, [((true, 0, 1, 0), (l ++ li.take (min li.length (256 - l.length)), 1, 1))]) := by
  unfold pwrite
  simp only [mget, if_true, if_neg h, mput]
  rfl
theorem Rd.went {w w' : World} {F F' : Nat → Prop} {A : Option Addr} {n c : Nat} {xs : List Value} (h : Rd w w.heap.size 1 A n xs) (hW : Went w w' F F') (hg : ∀ g, (Value.slice A n c).ownBlock = some g → ¬ F g) : Rd w' w'.heap.size 1 A n xs := by
  refine ⟨h.1, fun hn => ?_⟩
  obtain ⟨b, o, rfl, hb, hc⟩ := h.2 hn
  refine ⟨b, o, rfl, Nat.lt_of_lt_of_le hb hW.tch.size, fun j u hu => ?_⟩
  rw [← hc j u hu]
  simp only [World.cell?]
  rw [hW.tch.block b hb (hg b rfl)]

theorem pr_any (l : List UInt8) (m : Int) (hm : 0 ≤ m) : ∃ t l' e, pread [((true, 0, 1, 0), (l, 1, 1))] (true, 0, 1, 0) m = (t, e, [((true, 0, 1, 0), (l', 1, 1))]) ∧ l = t ++ l' ∧ (e = 0 ∨ e = 33) := by
  by_cases h : l = [] ∧ 0 < m
  · exact ⟨[], l, 33, by simp [pread, mget, h.1, h.2, Int.not_lt.mpr hm], rfl, Or.inr rfl⟩
  · refine ⟨l.take m.toNat, l.drop m.toNat, 0, ?_, (List.take_append_drop _ _).symm, Or.inl rfl⟩
    unfold pread
    simp only [mget, if_true, if_neg (Int.not_lt.mpr hm), mput]
    rw [if_neg (fun hh => h ⟨hh.1, hh.2.2⟩)]
theorem pr_end (l : List UInt8) (h : l.length ≤ 256) : pread [((true, 0, 1, 0), (l, 1, 0))] (true, 0, 1, 0) 256 = (l, 0, [((true, 0, 1, 0), ([], 1, 0))]) := by
  have h1 : l.take 256 = l := List.take_of_length_le h
  have h2 : l.drop 256 = [] := List.drop_of_length_le h
  simp [pread, mget, mput, h1, h2]
theorem pr_last : pread [((true, 0, 1, 0), (([] : List UInt8), 1, 0))] (true, 0, 1, 0) 9 = ([], 0, [((true, 0, 1, 0), ([], 1, 0))]) := by
  simp [pread, mget, mput]
theorem pl_end (l : List UInt8) : pleave [((true, 0, 1, 0), (l, 1, 1))] (true, 0, 1, 0) false true = [((true, 0, 1, 0), (l, 1, 0))] := by
  simp [pleave, mget, mput]
theorem str_append (a b : List UInt8) : str a ++ str b = str (a ++ b) := by
  apply ByteArray.ext
  simp [str, ByteArray.data_append]

section
variable (A A2 : Option Addr) (n c n2 c2 : Nat) (ls : List (List UInt8)) (b : List UInt8) (w : World)
set_option maxRecDepth 100000 in
set_option maxHeartbeats 20000000 in
theorem order_ok (hr : Rows2 w A n ls) (hr2 : Rd w w.heap.size 1 A2 n2 (bvs b)) (hn : n ≤ 50) (hn2 : n2 ≤ 200) :
    Calls Try.prog 5 #[.slice A n c, .slice A2 n2 c2] w fun e w' => e = .returned (.bool true) ∧ Below w.heap.size w w' := by
  have hl : decide ((50 : Int) < n) = false := by simp; omega
  have hl2 : decide ((200 : Int) < n2) = false := by simp; omega
  obtain ⟨mx, hmx, hmx2⟩ : ∃ mx : Nat, (if (n : Int) < n2 then (n2 : Int) else n) = mx ∧ mx ≤ 200 := ⟨if n < n2 then n2 else n, by split <;> split <;> omega, by split <;> omega⟩
  have hmx3 : (if n < n2 then (n2 : Int) else n) = mx := by rw [← hmx]; split <;> split <;> omega
  clear hmx
  go_enter Try.func5, Try.ntmps5
  go_wp2_with fail
  refine (awake_ok _).mono ?_
  rintro e w1 ⟨rfl, hb1⟩
  go_wp2_with fail
  refine (new_at _).mono ?_
  rintro e w2 ⟨p, F, rfl, hP, hF, hb2⟩
  have s2 : PSt w w2 p F _ _ := ⟨hP, fun b hb => Nat.le_trans hb1.size (hF b hb), hb1.trans (hb2.mono hb1.size)⟩
  clear hP hF hb2 hb1
  go_wp2_with fail
  have hof : Calls Try.prog 18 #[.agg #[.int .u8 0, .int .u16 1, .int .u16 0]] w2 fun e w' => e = .returned (.agg #[.bool true, .int .u8 0, .int .u16 1, .int .u16 0]) ∧ Below w2.heap.size w2 w' := of_ok 0 1 0 w2
  refine hof.mono ?_
  rintro e w3 ⟨rfl, hb3⟩
  have s3 := s2.below hb3
  clear hof hb3 s2
  go_wp2_with fail
  refine (join_at (s3.alloc _).is true 0 1 0 true true rfl (by simp [mget]) (by simp [mget])).mono ?_
  rintro e w4 ⟨rfl, F4, hP, hW⟩
  have s4 := (s3.alloc _).step hP hW
  have kB := hW.blk (Blk.new w3 41 #[.bool true, .int .u8 0, .int .u16 1, .int .u16 0]) s3.not
  have kn := hW.not (g := w3.heap.size) (by simp) s3.not
  rw [show pjoin [] (true, 0, 1, 0) true true = [((true, 0, 1, 0), ([], 1, 1))] from rfl] at s4
  have op0 : Op_ w w4 p F4 _ [] [] [] w3.heap.size 0 := ⟨s4, kB, kn, rfl, by simp, by simp⟩
  clear hP hW s3 s4 kB kn
  go_wp2
  go_loopg [7, 8, 42] mx (fun g vin vout i wr => ∃ k : Nat, k ≤ mx ∧ g = mx - k ∧ i = .int .i64 k ∧ ∃ I O, vin = .string (str I) ∧ vout = .string (str O) ∧ Aside (∃ F l, Op_ w wr p F (List.replicate 64 0) I O l w3.heap.size k))
  case atStart => exact ⟨0, Nat.zero_le _, rfl, rfl, [], [], rfl, rfl, F4, [], op0⟩
  case round =>
    obtain ⟨k, hk, hg, rfl, I, O, rfl, rfl, hA⟩ := hrel
    clear op0
    by_cases hkm : k < mx
    · have hkz : (k : Int) < mx := by omega
      obtain ⟨li, hli⟩ : ∃ li, ls.getD k [] = li := ⟨_, rfl⟩
      have HLI := hide hli
      clear hli
      go_upto_region 12 with (fail)
      go_cut [42, 56] from 43 to 133 (fun i cnd wc => i = .int .i64 k ∧ wc = wr ∧ cnd = .bool (decide (k < n ∧ li.length < 1000)))
      case first =>
        by_cases hkn : k < n
        · obtain ⟨bb, oo, rfl, hbb, hc⟩ := hr.2 (by omega)
          obtain ⟨Ai, ci, hcell, hlc, hri⟩ := hc k hkn
          rw [HLI.out] at hcell hlc
          obtain ⟨F, l, op⟩ := hA.out
          have ck := (op.s.bel.cell (p := ⟨bb, oo + k, none⟩) hbb).trans hcell
          have hkn' : (k : Int) < n := by omega
          have hbw : bb < wr.heap.size := by have := op.s.bel.size; omega
          clear hA op hc hcell hr hri
          by_cases hlen : li.length < 1000
          · have hlen' : (li.length : Int) < 1000 := by omega
            go_wp2
            go_meet
            case rel => exact ⟨rfl, rfl, by simp [hkn, hlen]⟩
          · have hlen' : decide ((li.length : Int) < 1000) = false := by simp; omega
            go_wp2
            go_meet
            case rel => exact ⟨rfl, rfl, by simp [hlen]⟩
        · have hkn' : decide ((k : Int) < n) = false := by simp; omega
          go_wp2
          go_meet
          case rel => exact ⟨rfl, rfl, by simp [hkn]⟩
      case rest =>
        obtain ⟨rfl, rfl, rfl⟩ := hcut
        go_upto_if 56 with (fail)
        go_cut [7, 10, 11, 42] from 43 to 133 (fun vin x10 x11 i wc => i = .int .i64 k ∧ ∃ I', vin = .string (str I') ∧ Aside (∃ F l, Op_ w wc p F (List.replicate 64 0) I' O l w3.heap.size (k + 1)))
        case first =>
          by_cases hcd : k < n ∧ li.length < 1000
          · have hcd' : decide (k < n ∧ li.length < 1000) = true := by simpa using hcd
            rw [hcd']
            clear hcd'
            obtain ⟨hkn, hlen⟩ := hcd
            obtain ⟨bb, oo, rfl, hbb, hc⟩ := hr.2 (by omega)
            obtain ⟨Ai, ci, hcell, hlc, hri⟩ := hc k hkn
            rw [HLI.out] at hcell hlc hri
            obtain ⟨F, l, op⟩ := hA.out
            have ck := (op.s.bel.cell (p := ⟨bb, oo + k, none⟩) hbb).trans hcell
            have hkn' : (k : Int) < n := by omega
            have hbw : bb < wc.heap.size := by have := op.s.bel.size; omega
            by_cases hf : l.length = 256 ∧ li ≠ []
            · have r := (hri.below op.s.bel).more op.s.bel.size
              have kB := op.key
              have kn := op.notin
              have s := op.s
              have hlen5 : (li.length : Int) < 1000 := by omega
              have hpw := pw_full hf
              have HP := hide hpw
              have OP := hide op
              have HF := hide hf
              clear hpw op hf hr hc hA hlen
              go_wp2_with fail
              refine wp_region_text [0, 0, 0, 0, 0, 0, 1, 0, 0, 0, 0, 0] (fun W => Blk W w3.heap.size 41 #[.bool true, .int .u8 0, .int .u16 1, .int .u16 0] ∧ W.cell? ⟨bb, oo + k, none⟩ = some (.slice Ai li.length ci) ∧ bb < W.heap.size) (by kernel_rfl) (by kernel_rfl) ⟨kB.drew, ck, hbw⟩ ?_
              iterate 6 (refine wpOrd_q (v := ?_) (by rfl) (fun W hW => ?_) ?_; rotate_left; (focus ((obtain ⟨hWk, hWc, hWl⟩ := hW; have k0 := hWk.cell 0; have k1 := hWk.cell 1; have k2 := hWk.cell 2; have k3 := hWk.cell 3; have hkl := hWk.lt); go_simp; try with_reducible rfl)); try simp only [Act.put, List.setIfInBounds_toArray, List.set_cons_zero, List.set_cons_succ])
              refine wpOrd_x (by rfl) (fun K hK => ?_)
              go_simp
              refine (write_at (w := wc.drew) s.drew.is true 0 1 0 Ai li.length ci li r.drew hlc (by omega) (by simp [mget]) (by simp [mget])).mono ?_
              rw [HP.out]
              rintro e w5 ⟨rfl, F5, hP, hW⟩
              have s5 := s.drew.step hP hW
              have ck5 := (s5.bel.cell (p := ⟨bb, oo + k, none⟩) hbb).trans hcell
              have kB5 := hW.blk kB.drew kn
              have kn5 := hW.not kB.lt kn
              have hb5 : bb < w5.heap.size := by have := s5.bel.size; omega
              refine hK (fun W => Blk W w3.heap.size 41 #[.bool true, .int .u8 0, .int .u16 1, .int .u16 0] ∧ W.cell? ⟨bb, oo + k, none⟩ = some (.slice Ai li.length ci) ∧ bb < W.heap.size) _ _ (fun _ h => h) ⟨kB5, ck5, hb5⟩ ?_
              clear hK K
              try simp only [Act.put, List.setIfInBounds_toArray, List.set_cons_zero, List.set_cons_succ]
              iterate 5 (refine wpOrd_q (v := ?_) (by rfl) (fun W hW => ?_) ?_; rotate_left; (focus ((obtain ⟨hWk, hWc, hWl⟩ := hW; have k0 := hWk.cell 0; have k1 := hWk.cell 1; have k2 := hWk.cell 2; have k3 := hWk.cell 3; have hkl := hWk.lt); go_simp; try with_reducible rfl)); try simp only [Act.put, List.setIfInBounds_toArray, List.set_cons_zero, List.set_cons_succ])
              refine wpOrd_nil ?_
              have r5 := ((hri.below s5.bel).more s5.bel.size).take (m := 0) (by have := hlc; omega)
              rw [Nat.mul_one, bvs_take, List.take_zero] at r5
              have hs := run_string_rd (c := ci) 23 5 9 Try.underlying23 Try.underlying5 Try.underlying9 r5
              have hj1 : (0 : Int) ≤ ci := by have := hlc; omega
              have hj2 : (0 : Int) ≤ (0 : Int) := by omega
              clear hP hW r r5 kB s ck hbw
              have op' := OP.out
              have hhj := hlc
              have hcat := fun (W : World) => run_string_add_sum (P := Try.prog) (w := W) (str I) (str []) (by
                have h1 := op'.len
                rw [str_size, str_size, List.length_nil]
                omega)
              go_wp2
              go_meet
              case rel =>
                refine ⟨rfl, I ++ [], by simp [str_append], F5, l, ⟨s5, kB5, kn5, by simp [op'.eq], ?_, ?_⟩⟩
                · have := op'.le
                  simp
                  try omega
                · have h1 := op'.len
                  rw [List.length_append, Nat.succ_mul, List.length_nil]
                  omega
            · have r := (hri.below op.s.bel).more op.s.bel.size
              have kB := op.key
              have kn := op.notin
              have s := op.s
              have hlen5 : (li.length : Int) < 1000 := by omega
              have hpw := pw_ok hf
              obtain ⟨j, hj⟩ : ∃ j, min li.length (256 - l.length) = j := ⟨_, rfl⟩
              rw [hj] at hpw
              have HP := hide hpw
              have OP := hide op
              have HF := hide hf
              clear hpw op hf hr hc hA hlen
              have HJ := hide hj
              clear hj
              go_wp2_with fail
              refine wp_region_text [0, 0, 0, 0, 0, 0, 1, 0, 0, 0, 0, 0] (fun W => Blk W w3.heap.size 41 #[.bool true, .int .u8 0, .int .u16 1, .int .u16 0] ∧ W.cell? ⟨bb, oo + k, none⟩ = some (.slice Ai li.length ci) ∧ bb < W.heap.size) (by kernel_rfl) (by kernel_rfl) ⟨kB.drew, ck, hbw⟩ ?_
              iterate 6 (refine wpOrd_q (v := ?_) (by rfl) (fun W hW => ?_) ?_; rotate_left; (focus ((obtain ⟨hWk, hWc, hWl⟩ := hW; have k0 := hWk.cell 0; have k1 := hWk.cell 1; have k2 := hWk.cell 2; have k3 := hWk.cell 3; have hkl := hWk.lt); go_simp; try with_reducible rfl)); try simp only [Act.put, List.setIfInBounds_toArray, List.set_cons_zero, List.set_cons_succ])
              refine wpOrd_x (by rfl) (fun K hK => ?_)
              go_simp
              refine (write_at (w := wc.drew) s.drew.is true 0 1 0 Ai li.length ci li r.drew hlc (by omega) (by simp [mget]) (by simp [mget])).mono ?_
              rw [HP.out]
              rintro e w5 ⟨rfl, F5, hP, hW⟩
              have s5 := s.drew.step hP hW
              have ck5 := (s5.bel.cell (p := ⟨bb, oo + k, none⟩) hbb).trans hcell
              have kB5 := hW.blk kB.drew kn
              have kn5 := hW.not kB.lt kn
              have hb5 : bb < w5.heap.size := by have := s5.bel.size; omega
              refine hK (fun W => Blk W w3.heap.size 41 #[.bool true, .int .u8 0, .int .u16 1, .int .u16 0] ∧ W.cell? ⟨bb, oo + k, none⟩ = some (.slice Ai li.length ci) ∧ bb < W.heap.size) _ _ (fun _ h => h) ⟨kB5, ck5, hb5⟩ ?_
              clear hK K
              try simp only [Act.put, List.setIfInBounds_toArray, List.set_cons_zero, List.set_cons_succ]
              iterate 5 (refine wpOrd_q (v := ?_) (by rfl) (fun W hW => ?_) ?_; rotate_left; (focus ((obtain ⟨hWk, hWc, hWl⟩ := hW; have k0 := hWk.cell 0; have k1 := hWk.cell 1; have k2 := hWk.cell 2; have k3 := hWk.cell 3; have hkl := hWk.lt); go_simp; try with_reducible rfl)); try simp only [Act.put, List.setIfInBounds_toArray, List.set_cons_zero, List.set_cons_succ])
              refine wpOrd_nil ?_
              have r5 := ((hri.below s5.bel).more s5.bel.size).take (m := j) (by have := HJ.out; omega)
              rw [Nat.mul_one, bvs_take] at r5
              have hs := run_string_rd (c := ci) 23 5 9 Try.underlying23 Try.underlying5 Try.underlying9 r5
              have hj1 : (j : Int) ≤ ci := by have := HJ.out; omega
              have hj2 : (0 : Int) ≤ (j : Int) := by omega
              clear hP hW r r5 kB s ck hbw
              have op' := OP.out
              have hhj := HJ.out
              have hcat := fun (W : World) => run_string_add_sum (P := Try.prog) (w := W) (str I) (str (li.take j)) (by
                have h1 := op'.len
                have h2 : (li.take j).length ≤ 999 := by rw [List.length_take]; omega
                rw [str_size, str_size]
                omega)
              go_wp2
              go_meet
              case rel =>
                refine ⟨rfl, I ++ li.take j, by simp [str_append], F5, (l ++ li.take j), ⟨s5, kB5, kn5, by simp [op'.eq], ?_, ?_⟩⟩
                · have := op'.le
                  simp
                  try omega
                · have h1 := op'.len
                  have h2 : (li.take j).length ≤ 999 := by rw [List.length_take]; omega
                  rw [List.length_append, Nat.succ_mul]
                  omega
          · have hcd' : decide (k < n ∧ li.length < 1000) = false := by simpa using hcd
            rw [hcd']
            obtain ⟨F, l, op⟩ := hA.out
            go_wp2
            go_meet
            case rel => exact ⟨rfl, I, rfl, F, l, op.up⟩
        case rest =>
          obtain ⟨rfl, I', rfl, hA'⟩ := hcut
          clear hA HLI hr hkm
          go_upto_if 93 with (fail)
          go_cut [8, 12, 13] from 43 to 133 (fun vout x12 x13 wc => ∃ O', vout = .string (str O') ∧ Aside (∃ F l, Op_ w wc p F (List.replicate 64 0) I' O' l w3.heap.size (k + 1)))
          case first =>
            by_cases hk2 : k < n2
            · have hkn' : (k : Int) < n2 := by omega
              obtain ⟨bb, oo, rfl, hbb, hc⟩ := hr2.byte hk2
              obtain ⟨F, l, op⟩ := hA'.out
              have ck := (op.s.bel.cell (p := ⟨bb, oo + k, none⟩) hbb).trans (hc k hk2)
              have hbw : bb < wc.heap.size := by have := op.s.bel.size; omega
              have hck0 := hc k hk2
              generalize b.getD k 0 = x at ck hck0
              have kB := op.key
              have kn := op.notin
              have s := op.s
              obtain ⟨t, l', er, hpr, hlt, her⟩ := pr_any l (x.toNat : Int) (by omega)
              have HP := hide hpr
              have OP := hide op
              have HT := hide hlt
              clear hpr op hlt hr2 hc hA'
              go_wp2_with fail
              refine wp_region_text [0, 0, 0, 0, 0, 0, 0, 1, 0, 0, 0, 0, 0] (fun W => Blk W w3.heap.size 41 #[.bool true, .int .u8 0, .int .u16 1, .int .u16 0] ∧ W.cell? ⟨bb, oo + k, none⟩ = some (.int .u8 (x.toNat : Int)) ∧ bb < W.heap.size) (by kernel_rfl) (by kernel_rfl) ⟨kB.drew, ck, hbw⟩ ?_
              iterate 7 (refine wpOrd_q (v := ?_) (by rfl) (fun W hW => ?_) ?_; rotate_left; (focus ((obtain ⟨hWk, hWc, hWl⟩ := hW; have k0 := hWk.cell 0; have k1 := hWk.cell 1; have k2 := hWk.cell 2; have k3 := hWk.cell 3; have hkl := hWk.lt); go_simp; try with_reducible rfl)); try simp only [Act.put, List.setIfInBounds_toArray, List.set_cons_zero, List.set_cons_succ])
              refine wpOrd_x (by rfl) (fun K hK => ?_)
              go_simp
              skip
              rw [IntWalk.i64_in (x.toNat : Int) (by have := x.toNat_lt; omega)]
              refine (read_at (w := wc.drew) s.drew.is true 0 1 0 (x.toNat : Int) (by simp [mget]) (by simp [mget])).mono ?_
              rw [HP.out]
              rintro e w5 ⟨A1, n1, c1, rfl, ho, F5, hP, hW, _⟩
              have s5 := s.drew.step hP hW
              have ck5 := (s5.bel.cell (p := ⟨bb, oo + k, none⟩) hbb).trans (hck0)
              have kB5 := hW.blk kB.drew kn
              have kn5 := hW.not kB.lt kn
              have hb5 : bb < w5.heap.size := by have := s5.bel.size; omega
              refine hK (fun W => Blk W w3.heap.size 41 #[.bool true, .int .u8 0, .int .u16 1, .int .u16 0] ∧ W.cell? ⟨bb, oo + k, none⟩ = some (.int .u8 (x.toNat : Int)) ∧ bb < W.heap.size) _ _ (fun _ h => h) ⟨kB5, ck5, hb5⟩ ?_
              clear hK K
              try simp only [Act.put, List.setIfInBounds_toArray, List.set_cons_zero, List.set_cons_succ]
              iterate 5 (refine wpOrd_q (v := ?_) (by rfl) (fun W hW => ?_) ?_; rotate_left; (focus ((obtain ⟨hWk, hWc, hWl⟩ := hW; have k0 := hWk.cell 0; have k1 := hWk.cell 1; have k2 := hWk.cell 2; have k3 := hWk.cell 3; have hkl := hWk.lt); go_simp; try with_reducible rfl)); try simp only [Act.put, List.setIfInBounds_toArray, List.set_cons_zero, List.set_cons_succ])
              refine wpOrd_nil ?_
              have r5 := Rd.of_own ho
              have hs := run_string_rd (c := c1) 23 5 9 Try.underlying23 Try.underlying5 Try.underlying9 r5
              clear hP hW r5 ho kB s ck hbw
              have op' := OP.out
              have hlt := HT.out
              have hlen := op'.eq
              have hcat := fun (W : World) => run_string_add_sum (P := Try.prog) (w := W) (str O) (str t) (by
                have h1 := op'.len
                have h2 : (O ++ l).length ≤ (k + 1) * 1000 := by rw [← hlen]; exact h1
                have h3 : (k + 1) * 1000 ≤ 201 * 1000 := Nat.mul_le_mul_right _ (by omega)
                rw [List.length_append, hlt, List.length_append] at h2
                rw [str_size, str_size]
                omega)
              clear hlt hlen op'
              rcases her with rfl | rfl
              all_goals
                go_wp2
                go_meet
                case rel =>
                  have op' := OP.out
                  have hlt := HT.out
                  have hlen := op'.eq
                  refine ⟨O ++ t, by simp [str_append], F5, l', ⟨s5, kB5, kn5, by rw [hlen, hlt, List.append_assoc], ?_, op'.len⟩⟩
                  have := op'.le
                  rw [hlt, List.length_append] at this
                  omega
            · have hk2' : decide ((k : Int) < n2) = false := by simp; omega
              go_wp2
              go_meet
              case rel => exact ⟨O, rfl, hA'⟩
          case rest =>
            obtain ⟨O', rfl, hA⟩ := hcut
            obtain ⟨F, l, op⟩ := hA.out
            clear hA hA' hr2
            have kB := op.key
            have kn := op.notin
            have k0 := kB.cell 0
            have k1 := kB.cell 1
            have k2 := kB.cell 2
            have k3 := kB.cell 3
            have hkl := kB.lt
            have hle := op.le
            have HE := hide op.eq
            have OP := hide op
            have s := op.s
            clear op kB kn
            have hen := ends_at (w := wc) s.is true 0 1 0 (by simp [mget]) (by simp [mget])
            rw [show pends [((true, 0, 1, 0), (l, 1, 1))] (true, 0, 1, 0) = (1, 1, l.length) from rfl] at hen
            go_wp2_with fail
            refine hen.mono ?_
            rintro e w6 ⟨rfl, hb6⟩
            have op6 : Op_ w w6 p F (List.replicate 64 0) I' O' l w3.heap.size (k + 1) := ⟨OP.out.s.below hb6, OP.out.key.below hb6 OP.out.key.lt, OP.out.notin, HE.out, hle, OP.out.len⟩
            have OP6 := hide op6
            clear op6 OP hb6 s hen k0 k1 k2 k3 hkl
            have t1 : decide ((256 : Int) < l.length) = false := by simp; omega
            have t2 : (((str I').size : Int) != RowKit.wrap64 (((str O').size : Int) + l.length)) = false := by
              have h1 := OP6.out.len
              have h3 : (k + 1) * 1000 ≤ 201 * 1000 := Nat.mul_le_mul_right _ (by omega)
              have h4 := HE.out
              rw [h4] at h1 ⊢
              rw [List.length_append] at h1
              rw [str_size, str_size, ← IntWalk.i64_left, IntWalk.i64_in _ (by omega), List.length_append]
              simp
            go_wp2
            go_roundg (mx - (k + 1))
            case measure => omega
            case rel => exact ⟨k + 1, by omega, by omega, by go_num, I', O', rfl, rfl, F, l, OP6.out⟩
    · have hkm' : decide ((k : Int) < mx) = false := by simp; omega
      obtain ⟨F, l, op⟩ := hA.out
      clear hA hr hr2
      have kB := op.key
      have kn := op.notin
      have hle := op.le
      have heq := op.eq
      have hlen := op.len
      have s := op.s
      clear op
      have k0 := kB.cell 0
      have k1 := kB.cell 1
      have k2 := kB.cell 2
      have k3 := kB.cell 3
      have hkl := kB.lt
      go_wp2_with fail
      refine (leave_at s.is true 0 1 0 false true (by simp [mget]) (by simp [mget])).mono ?_
      rintro e w5 ⟨rfl, F5, hP, hW⟩
      have s5 := s.step hP hW
      rw [pl_end] at s5
      have kB5 := hW.blk kB kn
      have kn5 := hW.not kB.lt kn
      clear s hP hW kB kn k0 k1 k2 k3 hkl
      have k0 := kB5.cell 0
      have k1 := kB5.cell 1
      have k2 := kB5.cell 2
      have k3 := kB5.cell 3
      have hkl := kB5.lt
      go_wp2_with fail
      refine (read_at s5.is true 0 1 0 256 (by simp [mget]) (by simp [mget])).mono ?_
      rw [pr_end l hle]
      rintro e w6 ⟨A1, n1, c1, rfl, ho, F6, hP, hW, hg⟩
      have s6 := s5.step hP hW
      have kB6 := hW.blk kB5 kn5
      have kn6 := hW.not kB5.lt kn5
      have r6 := Rd.of_own ho
      clear s5 hP hW kB5 kn5 k0 k1 k2 k3 hkl
      have k0 := kB6.cell 0
      have k1 := kB6.cell 1
      have k2 := kB6.cell 2
      have k3 := kB6.cell 3
      have hkl := kB6.lt
      go_wp2_with fail
      refine (read_at s6.is true 0 1 0 9 (by simp [mget]) (by simp [mget])).mono ?_
      rw [pr_last]
      rintro e w7 ⟨A2, n2, c2, rfl, ho2, F7, hP7, hW7, _⟩
      have s7 := s6.step hP7 hW7
      have r7 := r6.went hW7 hg
      have hs := run_string_rd (c := c1) 23 5 9 Try.underlying23 Try.underlying5 Try.underlying9 r7
      have bel := s7.bel
      have hn2 : n2 = 0 := by have := ho2.1; simpa [bvs] using this.symm
      subst hn2
      have hcat := fun (W : World) => run_string_add_sum (P := Try.prog) (w := W) (str O) (str l) (by
        have h1 := hlen
        have h3 : k * 1000 ≤ 200 * 1000 := Nat.mul_le_mul_right _ (by omega)
        rw [heq, List.length_append] at h1
        rw [str_size, str_size]
        omega)
      clear s6 s7 hP7 hW7 ho ho2 k0 k1 k2 k3 kB6 kn6 hkl hg r6 r7
      rw [str_append] at hcat
      go_wp2
      go_returns
      exact ⟨rfl, bel⟩

set_option maxRecDepth 100000 in
theorem order_long (h : 50 < n ∨ 200 < n2) :
    Calls Try.prog 5 #[.slice A n c, .slice A2 n2 c2] w fun e w' => e = .returned (.bool true) ∧ Below w.heap.size w w' := by
  go_enter Try.func5, Try.ntmps5
  go_wp2_with fail
  refine (awake_ok _).mono ?_
  rintro e w1 ⟨rfl, hb1⟩
  by_cases h1 : 50 < n
  · have hl : decide ((50 : Int) < n) = true := by simp; omega
    go_wp2
    go_returns
    exact ⟨rfl, hb1⟩
  · have hl : decide ((50 : Int) < n) = false := by simp; omega
    have hl2 : decide ((200 : Int) < n2) = true := by simp; omega
    go_wp2
    go_returns
    exact ⟨rfl, hb1⟩

theorem order_all (hr : Rows2 w A n ls) (hr2 : Rd w w.heap.size 1 A2 n2 (bvs b)) :
    Calls Try.prog 5 #[.slice A n c, .slice A2 n2 c2] w fun e w' => e = .returned (.bool true) ∧ Below w.heap.size w w' := by
  by_cases h : n ≤ 50 ∧ n2 ≤ 200
  · exact order_ok A A2 n c n2 c2 ls b w hr hr2 h.1 h.2
  · exact order_long A A2 n c n2 c2 w (by omega)
end

section
open Go.ChangeShapes Go.WideShapes Go.ChangeAt Go.Joins Go.Deep
variable {H : Type} {enc : TypeId × Value → H} {P : Program} {w : World} {base : Nat} {held : Bool} {fuel : Nat} {t e e2 : TypeId} {v : Value} {r : Reach} {b0 : Nat} {d : DataW H} {ps : List MemPlace}
/-- a slice of byte slices, opened -/
theorem open_rows (ht : P.underlying t = some (.slice e)) (hc : P.cellsOf e = 1) (he : P.underlying e = some (.slice e2)) (he2 : P.underlying e2 = some (.int .u8)) (hc2 : P.cellsOf e2 = 1)
    (hval : Value.okWide P w r b0 t v) (h : DataW.Trod enc P w base (fun _ => true) held t v d ps) : ∃ A n c ls, v = .slice A n c ∧ Rows2 w A n ls := by
  obtain ⟨A, n, c, rfl⟩ := okWide_slice ht hval
  obtain ⟨fuel, hf⟩ := h
  rcases open_slice1 ht hc (by simpa [Value.cells] using hf) with ⟨hcs, _⟩ | ⟨a, len, cap, m, n', V, D, Pl, hcs, _, hl, _, hm, _, hx⟩
  · obtain ⟨rfl, rfl, rfl⟩ : A = none ∧ n = 0 ∧ c = 0 := by simpa using hcs
    exact ⟨none, 0, 0, [], rfl, rfl, fun h => absurd h (Nat.lt_irrefl _)⟩
  · obtain ⟨rfl, rfl, rfl⟩ : A = some a ∧ n = len ∧ c = cap := by simpa using hcs
    simp only [if_true] at hm
    subst hm
    obtain ⟨f, hf⟩ := choose_lt (α := Option Addr × Nat × List UInt8) (n := n) (p := fun i x => w.cell? (a.add i) = some (.slice x.1 x.2.2.length x.2.1) ∧ x.2.2.length ≤ x.2.1 ∧ Rd w w.heap.size 1 x.1 x.2.2.length (bvs x.2.2)) (fun i hi => by
      obtain ⟨h1, h2⟩ := hx i (by omega)
      obtain ⟨Ai, ni, ci, li, hv, hrd, hnc⟩ := open_bytes_cell he he2 hc2 h2
      have hn : li.length = ni := by have := hrd.1; simpa [bvs] using this
      subst hn
      exact ⟨⟨Ai, ci, li⟩, by rw [h1, hv], hnc, hrd⟩)
    refine ⟨some a, n, _, (List.range n).map fun i => (f i).2.2, rfl, by simp, fun hn => ?_⟩
    have hspot : a.spot = none := by simpa [Addr.add] using World.cell?_spot (hf 0 hn).1
    obtain ⟨b, o, spot⟩ := a
    simp only at hspot
    subst hspot
    have hb : b < w.heap.size := by
      have := World.block_lt_of_cell? w _ (hf 0 hn).1
      simpa [Addr.add] using this
    refine ⟨b, o, rfl, hb, fun i hi => ?_⟩
    have hadd : (⟨b, o, none⟩ : Addr).add i = ⟨b, o + i, none⟩ := by unfold Addr.add; split <;> simp_all
    have hget : ((List.range n).map fun i => (f i).2.2).getD i [] = (f i).2.2 := by simp [List.getD_eq_getElem?_getD, List.getElem?_map, hi]
    rw [hget, ← hadd]
    obtain ⟨h1, h2, h3⟩ := hf i hi
    exact ⟨(f i).1, (f i).2.1, h1, h2, h3⟩
end
end Go.Proofs.Ytkjgieehiimiiaa

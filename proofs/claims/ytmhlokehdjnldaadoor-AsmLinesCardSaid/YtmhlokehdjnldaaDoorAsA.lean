/- Programs' texts: chapter 17's example; the laws on jumps. -/
import Derived.Test.YtmhlokehdjnldaaDoorAsB
import Derived.Test.YtmhlokehdjnldaaDoorAsJ
namespace Go.Proofs.YtmhlokehdjnldaaDoor
open Go.RowKit Go.WideMaps
set_option linter.unusedSimpArgs false
set_option linter.unusedVariables false

/-! ### the example -/
def awakeT : List UInt8 := [97, 58, 32, 97, 100, 100, 105, 32, 114, 49, 32, 114, 49, 32, 49, 10, 106, 110, 122, 32, 114, 49, 32, 97]
def awakeB : List UInt8 := [21, 1, 1, 1, 32, 1, 254, 255]
theorem awake_is : asmA awakeT = .ok (0, awakeB) := by kernel_rfl
theorem ascii_of {l : List UInt8} (h : l.all (fun c => decide (c.toNat < 128)) = true) : ∀ (j : Nat) b, l[j]? = some b → b.toNat < 128 := fun j b hb => by
  have := List.all_eq_true.1 h b (List.mem_of_getElem? hb)
  simpa using this
theorem awake_ascii : ∀ (j : Nat) b, (⟨awakeT.toArray⟩ : ByteArray).data.toList[j]? = some b → b.toNat < 128 := ascii_of (by decide)
set_option maxRecDepth 100000 in
set_option maxHeartbeats 2000000 in
theorem awake17_ok (w : World) (hL : Lw w) : Calls Tryd.prog 8 #[] w fun e w' => e = .returned (.bool true) ∧ Below w.heap.size w w' := by
  go_enter Tryd.func8, Tryd.ntmps8
  go_wp2_with fail
  refine (asm_ok ⟨awakeT.toArray⟩ w awake_ascii hL).mono ?_
  rintro e w1 ⟨hans, hb1⟩
  rw [sa_data, awake_is] at hans
  obtain ⟨-, -, A, cc, rfl, hown⟩ := hans
  have HB1 := hide hb1
  rw [show awakeB.length = 8 from rfl] at hown ⊢
  have hrd := Rd.of_own hown
  have hk : (convert 22 9 (.slice A 8 cc)).run Tryd.prog (w1.alloc (.cells #[.int .u8 0, .slice A 8 cc] 27)) = .ok (.string (str awakeB)) (w1.alloc (.cells #[.int .u8 0, .slice A 8 cc] 27)) :=
    run_string_rd (P := Tryd.prog) 22 5 9 Tryd.underlying22 Tryd.underlying5 Tryd.underlying9 (hrd.alloc (Nat.le_refl _) (.cells #[.int .u8 0, .slice A 8 cc] 27))
  have hk2 : ∀ W : World, (convert 22 9 (.slice (some ⟨W.heap.size, 0, none⟩) 8 8)).run Tryd.prog (W.alloc (.cells #[.int .u8 21, .int .u8 1, .int .u8 1, .int .u8 1, .int .u8 32, .int .u8 1, .int .u8 254, .int .u8 255] 5)) = .ok (.string (str awakeB)) (W.alloc (.cells #[.int .u8 21, .int .u8 1, .int .u8 1, .int .u8 1, .int .u8 32, .int .u8 1, .int .u8 254, .int .u8 255] 5)) := fun W =>
    run_string_rd (P := Tryd.prog) (l := awakeB) 22 5 9 Tryd.underlying22 Tryd.underlying5 Tryd.underlying9 (Rd.lit (w := W) (cs := #[.int .u8 21, .int .u8 1, .int .u8 1, .int .u8 1, .int .u8 32, .int .u8 1, .int .u8 254, .int .u8 255]) rfl rfl rfl rfl)
  have hk3 := hk2 (w1.alloc (.cells #[.int .u8 0, .slice A 8 cc] 27))
  rw [World.size_alloc] at hk3
  clear hown hrd hb1 hk2
  go_wp2
  go_returns
  exact ⟨by simp, (HB1.out.alloc HB1.out.size _).alloc (by have := HB1.out.size; simp; omega) _⟩

/-! ### arrays out of slices -/
section
variable {P : Program} {ops : Array Oper} {rest : List Oper} {o : Oper} {a : Act} {w : World} {Q : Exit → Act → World → Prop}
theorem at_sap (ty : TypeId) (x : Operand) {d : Option Tmp} {k : TypeId} {p : String} {f : Array Edge} {g : Option (Nat × Bool)} (h : wpList P ops Q (⟨d, .sliceToArrayPointer ty x, k, p, f, g⟩ :: rest) a w) : wpList P ops Q (⟨d, .sliceToArrayPointer ty x, k, p, f, g⟩ :: rest) a w := h
theorem run_sap (ty : TypeId) (n : Nat) (p : Addr) (l c : Nat) (e : TypeId) (hu : P.underlying ty = some (.array n e)) (hn : n ≤ l) :
    (Instr.arrayAt ty (.slice (some p) l c)).run P w = .ok (.pointer (some p)) w := by
  simp [Instr.arrayAt, run_underlying hu, Result.andThen, show ¬ l < n by omega]
end

theorem own_cap {w : World} {base n m c : Nat} {e : TypeId} {size : Nat} {A : Option Addr} {xs : List Value} (h : w.ownsRow base e size (.slice A m c) n xs) : n ≤ c := by
  obtain ⟨_, c', heq, h1, -, -⟩ := own_form h
  have h2 : c = c' := by injection heq
  rw [h2]; exact h1

/-! ### jumps -/
theorem movs_ascii (n : Nat) : (endL (List.replicate n movL)).all (fun c => decide (c.toNat < 128)) = true := by
  induction n with
  | zero => rfl
  | succ n ih => rw [List.replicate_succ, endL_cons, List.all_append, List.all_cons, ih]; decide
theorem ahead_ascii (n m : Nat) : (aheadT n m).all (fun c => decide (c.toNat < 128)) = true := by
  unfold aheadT
  rw [List.all_append, List.all_append, List.all_append, movs_ascii, movs_ascii]; decide
theorem back_ascii (n m : Nat) : (backT n m).all (fun c => decide (c.toNat < 128)) = true := by
  unfold backT
  rw [List.all_append, List.all_append, List.all_append, List.all_append, movs_ascii, movs_ascii]; decide
theorem endL_snoc (n : Nat) : endL (List.replicate (n + 1) movL) = endL (List.replicate n movL) ++ (movL ++ [10]) := by
  rw [List.replicate_succ', endL_app]; simp [endL]
/-- what a law on jumps meets behind its text -/
theorem jump_fin {d : Int} (h1 : -100 ≤ d) (h2 : d ≤ 100) : jumpI (byteI d).toNat (byteI (d / 256)).toNat = d := by
  have e1 : (byteI d).toNat = (d % 256).toNat := by unfold byteI; simp; omega
  have e2 : (byteI (d / 256)).toNat = (d / 256 % 256).toNat := by unfold byteI; simp; omega
  rw [e1, e2]
  unfold jumpI wideN
  split <;> omega
set_option maxRecDepth 100000 in
set_option maxHeartbeats 4000000 in
theorem jumps_all (a b : Nat) (back : Bool) (ha : a < 256) (hb : b < 256) (w : World) (hL : Lw w) : Calls Tryd.prog 5 #[.int .u8 (a : Int), .int .u8 (b : Int), .bool back] w fun e w' => e = .returned (.bool true) ∧ Below w.heap.size w w' := by
  go_enter Tryd.func5, Tryd.ntmps5
  go_wp2_with fail
  refine (awake17_ok w hL).mono ?_
  rintro e w1 ⟨rfl, hb1⟩
  have HL1 := hide (hL.below' hb1)
  have HB1 := hide hb1
  clear hb1
  obtain ⟨n, hn⟩ : ∃ n, a % 100 = n := ⟨_, rfl⟩
  obtain ⟨m, hm⟩ : ∃ m, b % 100 = m := ⟨_, rfl⟩
  have hn1 : n < 100 := by omega
  have hm1 : m < 100 := by omega
  have u1 : IntKind.u8.wrap ((a : Int).tmod 100) = (n : Int) := by rw [IntWalk.rem_in _ _ (by omega), IntKind.wrap_u8']; omega
  have u2 : IntKind.u8.wrap ((b : Int).tmod 100) = (m : Int) := by rw [IntWalk.rem_in _ _ (by omega), IntKind.wrap_u8']; omega
  have u1' : (a : Int) % 100 = (n : Int) := by omega
  have u2' : (b : Int) % 100 = (m : Int) := by omega
  clear hn hm
  go_wp2_with fail
  clear u1 u2 u1' u2'
  go_loopg [9, 25] n (fun g x9 x25 wr => wr = w1 ∧ ∃ (k : Nat) (t : ByteArray), k ≤ n ∧ g = n - k ∧ x25 = .int .i64 (k : Nat) ∧ x9 = .string t ∧ Hid (t.data.toList = endL (List.replicate k movL)))
  case atStart => exact ⟨rfl, 0, ⟨#[]⟩, by omega, rfl, rfl, rfl, hide rfl⟩
  case round =>
    obtain ⟨rfl, k, t, hk, hg, rfl, rfl, HT⟩ := hrel
    by_cases hkn : k < n
    · have t1 : decide ((k : Int) < (n : Int)) = true := by simp; omega
      have hkz : (k : Int) < (n : Int) := by omega
      have hz : t.size ≤ 10 * k := by rw [sz, HT.out, endL_movs]; exact Nat.le_refl _
      have hl2 : ¬ 9223372036854775807 < t.size + 10 := by omega
      have hT2 : Hid ((t ++ ⟨#[109, 111, 118, 32, 114, 49, 32, 114, 50, 10]⟩).data.toList = endL (List.replicate (k + 1) movL)) := hide (by
        rw [endL_snoc, ← HT.out]; simp [movL])
      go_wp2_with fail
      go_roundg (n - (k + 1))
      case measure => omega
      case rel => exact ⟨rfl, k + 1, _, by omega, rfl, by go_num, rfl, hT2⟩
    have hkn' : k = n := by omega
    have t1 : decide ((k : Int) < (n : Int)) = false := by simp; omega
    have t1' : ¬ (k : Int) < (n : Int) := by omega
    have HT1 : Hid (t.data.toList = endL (List.replicate n movL)) := hide (by rw [HT.out, hkn'])
    have hz : t.size ≤ 1000 := by rw [sz, HT1.out, endL_movs]; omega
    clear hkn hkn' hk hg HT
    go_upto_if 30 with (fail)
    go_cut [9] from 31 to 34 (fun x9 wc => wc = wr ∧ ∃ t : ByteArray, x9 = .string t ∧ Hid (t.data.toList = if back then hereL ++ endL (List.replicate n movL) ++ [10] else endL (List.replicate n movL)))
    case first =>
      cases back
      · go_wp2
        go_meet
        case rel => exact ⟨rfl, t, rfl, hide (by rw [HT1.out]; rfl)⟩
      · have hl2 : ¬ 9223372036854775807 < 6 + t.size := by omega
        have hl3 : ¬ 9223372036854775807 < 6 + t.size + 1 := by omega
        have HT2 : Hid (((⟨#[104, 101, 114, 101, 58, 32]⟩ : ByteArray) ++ t ++ ⟨#[10]⟩).data.toList = if true then hereL ++ endL (List.replicate n movL) ++ [10] else endL (List.replicate n movL)) := hide (by
          rw [← HT1.out]; simp [hereL])
        go_wp2
        go_meet
        case rel => exact ⟨rfl, _, rfl, HT2⟩
    case rest =>
      obtain ⟨rfl, t2, rfl, HT2⟩ := hcut
      have hz2 : t2.size ≤ 1010 := by
        rw [sz, HT2.out]
        split
        · simp only [List.length_append, endL_movs]; simp [hereL]; omega
        · rw [endL_movs]; omega
      have hl2 : ¬ 9223372036854775807 < t2.size + 9 := by omega
      have HT3 : Hid ((t2 ++ ⟨#[106, 109, 112, 32, 104, 101, 114, 101, 10]⟩).data.toList = (if back then hereL ++ endL (List.replicate n movL) ++ [10] else endL (List.replicate n movL)) ++ (jmpL ++ [10])) := hide (by
        rw [← HT2.out]; simp [jmpL])
      have hz3 : (t2 ++ ⟨#[106, 109, 112, 32, 104, 101, 114, 101, 10]⟩).size ≤ 1020 := by rw [ByteArray.size_append]; have : (⟨#[106, 109, 112, 32, 104, 101, 114, 101, 10]⟩ : ByteArray).size = 9 := rfl; omega
      clear t1 t1' hz HT1
      obtain ⟨T1, hT1⟩ : ∃ T1 : List UInt8, (if back then hereL ++ endL (List.replicate n movL) ++ [10] else endL (List.replicate n movL)) ++ (jmpL ++ [10]) = T1 := ⟨_, rfl⟩
      rw [hT1] at HT3
      have HTT := hide hT1
      have HT1L : Hid (T1.length ≤ 1020) := hide (by rw [← HT3.out, ← sz]; exact hz3)
      clear hT1 hz3
      go_wp2_with fail
      go_loopg [9, 37] m (fun g x9 x37 wr => wr = wc ∧ ∃ (k : Nat) (t : ByteArray), k ≤ m ∧ g = m - k ∧ x37 = .int .i64 (k : Nat) ∧ x9 = .string t ∧ Hid (t.data.toList = T1 ++ endL (List.replicate k movL)))
      case atStart => exact ⟨rfl, 0, _, by omega, rfl, rfl, rfl, hide (by rw [HT3.out]; simp [endL])⟩
      case round =>
        obtain ⟨rfl, k2, t, hk, hg, rfl, rfl, HT⟩ := hrel
        have hzz : t.size ≤ 1020 + 10 * k2 := by rw [sz, HT.out, List.length_append, endL_movs]; have := HT1L.out; omega
        by_cases hkn : k2 < m
        · have t1 : decide ((k2 : Int) < (m : Int)) = true := by simp; omega
          have hkz : (k2 : Int) < (m : Int) := by omega
          have hl2 : ¬ 9223372036854775807 < t.size + 10 := by omega
          have hT2 : Hid ((t ++ ⟨#[109, 111, 118, 32, 114, 49, 32, 114, 50, 10]⟩).data.toList = T1 ++ endL (List.replicate (k2 + 1) movL)) := hide (by
            rw [endL_snoc, ← List.append_assoc, ← HT.out]; simp [movL])
          go_wp2_with fail
          go_roundg (m - (k2 + 1))
          case measure => omega
          case rel => exact ⟨rfl, k2 + 1, _, by omega, rfl, by go_num, rfl, hT2⟩
        have hkn' : k2 = m := by omega
        have t1 : decide ((k2 : Int) < (m : Int)) = false := by simp; omega
        have t1' : ¬ (k2 : Int) < (m : Int) := by omega
        have HT4 : Hid (t.data.toList = T1 ++ endL (List.replicate m movL)) := hide (by rw [HT.out, hkn'])
        have hz4 : t.size ≤ 2020 := by omega
        clear hkn hkn' hk hg HT hzz
        go_upto_if 43 with (fail)
        go_cut [9] from 44 to 46 (fun x9 wd => wd = wr ∧ ∃ t : ByteArray, x9 = .string t ∧ Hid (t.data.toList = if back then backT n m else aheadT n m))
        case first =>
          cases back
          · have hl2 : ¬ 9223372036854775807 < t.size + 10 := by omega
            have HT5 : Hid ((t ++ ⟨#[104, 101, 114, 101, 58, 32, 114, 101, 116, 10]⟩).data.toList = if false = true then backT n m else aheadT n m) := hide (by
              show _ = aheadT n m
              unfold aheadT
              have h1 := HTT.out
              simp only [Bool.false_eq_true, if_false] at h1
              rw [h1, ← HT4.out]; simp [retL])
            go_wp2
            go_meet
            case rel => exact ⟨rfl, _, rfl, HT5⟩
          · have HT5 : Hid (t.data.toList = if true = true then backT n m else aheadT n m) := hide (by
              show _ = backT n m
              unfold backT
              have h1 := HTT.out
              simp only [if_true] at h1
              rw [h1, ← HT4.out])
            go_wp2
            go_meet
            case rel => exact ⟨rfl, t, rfl, HT5⟩
        case rest =>
          obtain ⟨rfl, t6, rfl, HT6⟩ := hcut
          have hasc : ∀ (j : Nat) b, t6.data.toList[j]? = some b → b.toNat < 128 := by
            rw [HT6.out]
            cases back
            · exact ascii_of (ahead_ascii n m)
            · exact ascii_of (back_ascii n m)
          obtain ⟨d, hd⟩ : ∃ d : Int, (if back then -(n : Int) - 1 else (m : Int)) = d := ⟨_, rfl⟩
          have hres : ∃ tt, asmA t6.data.toList = .ok (0, movs n ++ [30, 0, byteI d, byteI (d / 256)] ++ tt) := by
            rw [HT6.out, ← hd]
            cases back
            · exact ahead_ok hn1 hm1
            · exact back_ok hn1 hm1
          have hdb : -100 ≤ d ∧ d ≤ 100 := by rw [← hd]; split <;> omega
          obtain ⟨tt, htt⟩ := hres
          have HTT2 := hide htt
          have HD := hide hd
          have HDB := hide hdb
          clear t1 t1' htt hd hdb hz4
          go_wp2_with fail
          refine (asm_ok t6 _ hasc HL1.out).mono ?_
          rintro e w3 ⟨hans, hb3⟩
          rw [HTT2.out] at hans
          obtain ⟨-, hc2, A, cc, rfl, hown⟩ := hans
          obtain ⟨x, hx⟩ : ∃ x, (byteI d).toNat = x := ⟨_, rfl⟩
          obtain ⟨y, hy⟩ : ∃ y, (byteI (d / 256)).toNat = y := ⟨_, rfl⟩
          have hx256 : x < 256 := by rw [← hx]; have := (byteI d).toNat_lt; omega
          have hy256 : y < 256 := by rw [← hy]; have := (byteI (d / 256)).toNat_lt; omega
          have HJ : Hid (jumpI x y = d) := hide (by rw [← hx, ← hy]; exact jump_fin HDB.out.1 HDB.out.2)
          obtain ⟨nl, hnl⟩ : ∃ nl, (movs n ++ [30, 0, byteI d, byteI (d / 256)] ++ tt).length = nl := ⟨_, rfl⟩
          obtain ⟨n4, hn4⟩ : ∃ n4, 4 * n = n4 := ⟨_, rfl⟩
          have hge : n4 + 4 ≤ nl := by rw [← hnl, List.length_append, List.length_append, movs_len]; simp; omega
          have hncc := own_cap hown
          rw [hnl] at hc2 hown hncc ⊢
          have hrd := Rd.of_own hown
          have hrd2 := hrd.from_ (c := cc) (l := n4) (by omega) (by omega)
          obtain ⟨A1, hA1⟩ : ∃ A1, slA A cc n4 = A1 := ⟨_, rfl⟩
          rw [hA1] at hrd2
          obtain ⟨b2, o2, rfl, hb2, hcells⟩ := hrd2.2 (by omega)
          have hdrop : (bvs (movs n ++ [30, 0, byteI d, byteI (d / 256)] ++ tt)).drop n4 = bvs ([30, 0, byteI d, byteI (d / 256)] ++ tt) := by
            rw [List.append_assoc]
            show ((movs n ++ ([30, 0, byteI d, byteI (d / 256)] ++ tt)).map bv).drop n4 = _
            rw [List.map_append, List.drop_left' (by rw [List.length_map, movs_len]; exact hn4)]
            rfl
          rw [hdrop] at hcells
          have hrange : Hid (w3.rangeAt b2 o2 [.int .u8 ((30 : Nat) : Int), .int .u8 ((0 : Nat) : Int), .int .u8 (x : Int), .int .u8 (y : Int)]) := hide (fun j v hv => by
            refine hcells j v ?_
            rw [← hx, ← hy] at hv
            match j, hv with
            | 0, hv => exact hv
            | 1, hv => exact hv
            | 2, hv => exact hv
            | 3, hv => exact hv
            | j + 4, hv => simp at hv)
          have hsl1 : ∀ W : World, (Instr.sliceAt 22 (.slice A nl cc) (some (.int .i64 (n4 : Int))) none none).run Tryd.prog W = .ok (.slice (some ⟨b2, o2, none⟩) (nl - n4) (cc - n4)) W := fun W => by
            have := run_slice_from (P := Tryd.prog) (w := W) 22 5 A nl cc n4 .i64 Tryd.underlying22 (by kernel_rfl) (by omega)
            rw [hA1] at this
            exact this
          have hsl2 : ∀ W : World, (Instr.sliceAt 22 (.slice (some ⟨b2, o2, none⟩) (nl - n4) (cc - n4)) none (some (.int .i64 4)) none).run Tryd.prog W = .ok (.slice (some ⟨b2, o2, none⟩) 4 (cc - n4)) W := fun W =>
            run_slice_hi (P := Tryd.prog) (w := W) 22 5 (some ⟨b2, o2, none⟩) (nl - n4) (cc - n4) 4 .i64 Tryd.underlying22 (by kernel_rfl) (by omega)
          obtain ⟨ln, hln⟩ : ∃ ln, nl - n4 = ln := ⟨_, rfl⟩
          have hl4 : 4 ≤ ln := by omega
          have v1 : IntKind.i64.wrap (4 * (n : Int)) = (n4 : Int) := by rw [IntWalk.i64_in _ (by omega)]; omega
          have v2 : decide ((ln : Int) < 4) = false := by simp; omega
          rw [hln] at hsl1 hsl2
          have HB3 := hide (Below.then_ HB1.out HB1.out.size hb3)
          clear hcells hdrop hrd hrd2 hown hA1 hnl hn4 hx hy hln hge hncc hb3 hc2
          have hsap := run_sap (P := Tryd.prog) (w := w3.alloc (.cells #[.int .u8 0, .slice A nl cc] 27)) 40 4 ⟨b2, o2, none⟩ 4 (cc - n4) _ Tryd.underlying40 (Nat.le_refl _)
          have hrange2 := hide (fun ob => World.rangeAt_alloc hrange.out ob)
          go_wp2_with (first | ((with_reducible refine at_slice 22 (.tmp 53) (some (.tmp 55)) none ?_); refine wpList_run rfl _ (exec_slice 22 (.tmp 53) (some (.tmp 55)) none rfl (hsl1 _)) ?_) | ((with_reducible refine at_slice 22 (.tmp 64) none (some (.const (.int .i64 4))) ?_); refine wpList_run rfl _ (exec_slice 22 (.tmp 64) none (some (.const (.int .i64 4))) rfl (hsl2 _)) ?_) | ((with_reducible refine at_load 40 (.tmp 66) ?_); refine wpList_load_mid rfl 40 (.tmp 66) rfl b2 o2 (by rfl) [.int .u8 ((30 : Nat) : Int), .int .u8 ((0 : Nat) : Int), .int .u8 (x : Int), .int .u8 (y : Int)] _ (hrange2.out _) Tryd.underlying40 rfl rfl ?_) | fail)
          refine (unpack_ok 30 0 x y _).mono ?_
          rintro e w4 ⟨rfl, hb4⟩
          have HB4 := hide (Below.then_ HB3.out HB3.out.size (Below.then_ (below1 _ _) (by simp) hb4))
          clear hb4 hsl1 hsl2 hsap hrange hrange2
          go_upto_if 70 with (fail)
          go_cut [15] from 71 to 74 (fun x15 wd => wd = w4.alloc (.cells (insC 30 0 x y) 38) ∧ x15 = .int .i64 d)
          case first =>
            have h1 := HD.out
            cases back
            · have e : (m : Int) = d := h1
              go_wp2
              go_meet
              case rel => exact ⟨rfl, by rw [e]⟩
            · have e : -(n : Int) - 1 = d := h1
              have k1 : IntKind.i64.wrap (-(n : Int)) = -(n : Int) := IntWalk.i64_in _ (by omega)
              have k2 : IntKind.i64.wrap (-(n : Int) - 1) = -(n : Int) - 1 := IntWalk.i64_in _ (by omega)
              clear h1
              go_wp2
              go_meet
              case rel => exact ⟨rfl, rfl⟩
          case rest =>
            obtain ⟨rfl, rfl⟩ := hcut
            go_wp2_with fail
            refine (jump_ok 30 0 x y hx256 hy256 _).mono ?_
            rintro e w5 ⟨rfl, hb5⟩
            have HB5 := hide (Below.then_ HB4.out HB4.out.size (Below.then_ (below1 _ _) (by simp) hb5))
            clear hb5
            rw [HJ.out]
            go_wp2
            go_returns
            exact ⟨by simp, HB5.out⟩
end Go.Proofs.YtmhlokehdjnldaaDoor

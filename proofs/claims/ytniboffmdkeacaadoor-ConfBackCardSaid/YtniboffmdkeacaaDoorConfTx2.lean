/- Configurations as texts: a label, printed. -/
import Derived.Test.YtniboffmdkeacaaDoorConfTx1
namespace Go.Proofs.YtniboffmdkeacaaDoor
open Go.RowKit Go.WideMaps
set_option linter.unusedSimpArgs false
set_option linter.unusedVariables false

/-! ### the Builder, beside others -/
theorem bat_below {T e : TypeId} {B b : Nat} {p : Value} {bs : List Value} {W W' : World} (h : Lib.BuilderAtF T e B b p bs W) (hb : Below W.heap.size W W') : Lib.BuilderAtF T e B b p bs W' := by
  have hlt := h.lt
  obtain ⟨hB, v, hv, hown, hne⟩ := h
  exact ⟨hB, v, (hb.block b hlt).trans hv, hown.kept (row := none) ⟨hb.os, hb.tape, hb.output, hb.size, fun k hk _ => hb.block k hk⟩ (Classical.em _), hne⟩
theorem isb_below {T e : TypeId} {B b : Nat} {bs : List Value} {W W' : World} (h : Lib.IsBuilderF T e B b bs W) (hb : Below W.heap.size W W') : Lib.IsBuilderF T e B b bs W' :=
  h.elim (fun x => .inl (bat_below x hb)) (fun x => .inr (bat_below x hb))
theorem isb_shape {T e : TypeId} {B b : Nat} {bs : List Value} {w : World} (h : Lib.IsBuilderF T e B b bs w) : w.shape? b = some (T, 2) := h.elim Lib.BuilderAtF.shape Lib.BuilderAtF.shape
theorem own_others {w w' : World} {B0 B b n size : Nat} {e : TypeId} {v : Value} {xs bs : List Value} (h : w.ownsRow B0 e size v n xs) (hbd : Lib.IsBuilderF 111 5 B b bs w) (ho : Lib.OthersKept 5 (some b) w w') (he : e ≠ 5) (he2 : e ≠ 111) : w'.ownsRow B0 e size v n xs := by
  refine own_keep h fun g hg => ?_
  have hs := isb_shape hbd
  rcases h with ⟨_, ⟨rfl, _⟩ | ⟨g', cap, cur, rfl, hBg, hcur, _⟩⟩
  · simp [Value.ownBlock] at hg
  · obtain rfl : g' = g := by simpa [Value.ownBlock] using hg
    rw [hcur]
    refine ho g' _ hcur (fun e2 => ?_) (fun c fz e2 => he (by injection e2))
    obtain rfl := Option.some.inj e2
    simp [World.shape?, hcur] at hs
    exact he2 hs.1

/-! ### a label -/
def catT (cs : List Nat) : Nat → List UInt8
  | 0 => []
  | k + 1 => catT cs k ++ ((if k = 0 then 58 else 44) :: itoaL (cs.getD k 0))
theorem catT_len (cs : List Nat) : ∀ k, (catT cs k).length ≤ 3 * k
  | 0 => by simp [catT]
  | k + 1 => by have h1 := catT_len cs k; have h2 := itoaL_len (cs.getD k 0); simp only [catT, List.length_append, List.length_cons]; omega
def labT (lv ct : Nat) : List UInt8 := itoaL lv ++ catT (tailC ct) (tailC ct).length
theorem tailC_lt (n : Nat) : ∀ x ∈ tailC n, x < 10 := by unfold tailC; split <;> simp
theorem labT_len (lv ct : Nat) : (labT lv ct).length ≤ 11 := by
  have h1 := itoaL_len lv
  have h2 := catT_len (tailC ct) (tailC ct).length
  have h3 := tailC_len ct
  simp [labT]; omega
theorem zl (l : List UInt8) : (⟨l.toArray⟩ : ByteArray).data.toList = l := rfl
theorem zs (l : List UInt8) : (⟨l.toArray⟩ : ByteArray).size = l.length := rfl
set_option maxRecDepth 100000 in
set_option maxHeartbeats 2000000 in
theorem ltext_aux (l0 n0 : Nat) (hl : l0 < 10) (w : World) (hD : Db w)
    (hcats : ∀ w : World, Db w → Calls Tryd.prog 66 #[.agg #[.int .u8 (l0 : Int), .int .u16 (n0 : Int)]] w fun e w' => ∃ A c, e = .returned (.slice A (tailC n0).length c) ∧ Below w.heap.size w w' ∧ w'.ownsRow w.heap.size 3 1 (.slice A (tailC n0).length c) (tailC n0).length (ivs (tailC n0))) :
    Calls Tryd.prog 46 #[.agg #[.int .u8 (l0 : Int), .int .u16 (n0 : Int)]] w fun e w' => e = .returned (.string ⟨(labT l0 n0).toArray⟩) ∧ Below w.heap.size w w' := by
  go_enter Tryd.func46, Tryd.ntmps46
  go_upto_region 2 with (fail)
  refine at_world (fun W => Below w.heap.size w W ∧ Blk W w.heap.size 36 #[.int .u8 (l0 : Int), .int .u16 (n0 : Int)] ∧ Lib.IsBuilderF 111 5 w.heap.size (w.heap.size + 1) (Lib.byteCells []) W)
    ⟨by go_grown, (Blk.new w 36 #[.int .u8 (l0 : Int), .int .u16 (n0 : Int)]).alloc _, by have h := new_builder (w.alloc (.cells #[.int .u8 (l0 : Int), .int .u16 (n0 : Int)] 36)) w.heap.size (by simp); simpa using h⟩ (fun w1 hX => ?_)
  obtain ⟨hb1, aB1, bd1⟩ := hX
  have a0 := aB1.cell 0
  have la := aB1.lt
  go_wp2_with fail
  refine (digits_small l0 hl _).mono ?_
  rintro e w2 ⟨rfl, hb2⟩
  have bd2 := isb_below bd1 hb2
  have aB2 := aB1.below hb2 la
  have hB2 := hb1.trans (hb2.mono hb1.size)
  clear aB1 a0 la hb2 bd1
  go_wp2_with fail
  refine (ws_ok w.heap.size (w.heap.size + 1) [] ⟨(itoaL l0).toArray⟩ _ bd2 (by have := (itoaL_len l0).2; rw [zs]; simp; omega) hB2.size).mono ?_
  rintro e w3 ⟨rfl, bd3, hb3, ho3⟩
  have aB3 := aB2.others ho3 (by omega) (by decide)
  have hB3 := hB2.trans hb3
  clear hb3 ho3 bd2 aB2 hB2 hb1
  have a0 := aB3.cell 0
  have a1 := aB3.cell 1
  have la := aB3.lt
  go_wp2_with fail
  refine (hcats w3 (hD.below' hB3)).mono ?_
  rintro e w4 ⟨A, c, rfl, hb4, o4⟩
  have bd4 := isb_below bd3 hb4
  have o4 := own_mono o4 hB3.size
  have hB4 := hB3.trans (hb4.mono hB3.size)
  have B4 := hide hB4
  have O4 := hide o4
  have D4 := hide bd4
  clear a0 a1 la aB3 hb4 bd3 hB3 o4 hB4 bd4 hcats
  obtain ⟨n, hn⟩ : ∃ n, n = (tailC n0).length := ⟨_, rfl⟩
  have hn3 : n ≤ 3 := by have := tailC_len n0; omega
  have HT := hide (show labT l0 n0 = itoaL l0 ++ catT (tailC n0) n by rw [hn]; rfl)
  have htl := tailC_lt n0
  generalize tailC n0 = cs at *
  rw [← hn] at O4 ⊢
  go_upto_region 5 with (fail)
  go_loopg [4, 15] n (fun g x4 x15 wr => ∃ k : Nat, k ≤ n ∧ g = n - k ∧ x4 = .string ⟨#[if k = 0 then 58 else 44]⟩ ∧ x15 = .int .i64 k ∧ Aside (Below w.heap.size w wr ∧ Lib.IsBuilderF 111 5 w.heap.size (w.heap.size + 1) (Lib.byteCells (itoaL l0 ++ catT cs k)) wr ∧ wr.ownsRow w.heap.size 3 1 (.slice A n c) n (ivs cs)))
  case atStart => exact ⟨0, Nat.zero_le _, rfl, rfl, rfl, B4.out, by have := D4.out; simpa [catT, ByteArray.data_append] using this, O4.out⟩
  case round =>
    obtain ⟨k, hk, hg, rfl, rfl, hH⟩ := hrel
    clear B4 O4 D4
    obtain ⟨hb, bd, o⟩ := hH.out
    clear hH
    obtain ⟨x, hx⟩ : ∃ x : UInt8, x = if k = 0 then 58 else 44 := ⟨_, rfl⟩
    rw [← hx]
    by_cases hkn : k < n
    · have hkz : (k : Int) < n := by omega
      obtain ⟨m, hm⟩ : ∃ m, cs[k]? = some m := by
        have := o.1
        rw [ivs_length] at this
        exact ⟨_, List.getElem?_eq_getElem (by omega)⟩
      have hm10 : m < 10 := htl m (List.mem_of_getElem? hm)
      obtain ⟨gb, go, rfl, hgb, hcell⟩ := (Rd.of_own o).2 (by omega)
      have c0 := hcell k _ (by rw [ivs_get, hm]; rfl)
      have HS := hide (show catT cs (k + 1) = catT cs k ++ (x :: itoaL m) by rw [catT, ← hx, List.getD_eq_getElem?_getD, hm]; rfl)
      have hcl := catT_len cs k
      have hil := (itoaL_len l0).2
      have him := (itoaL_len m).2
      clear hcell hm hx
      have B1 := hide hb
      have D1 := hide bd
      have O1 := hide o
      clear hb bd o
      go_wp2_with fail
      refine (digits_small m hm10 wr).mono ?_
      rintro e w5 ⟨rfl, hb5⟩
      have D5 := hide (isb_below D1.out hb5)
      have O5 := hide (own_below O1.out hb5)
      have B5 := hide (B1.out.trans (hb5.mono B1.out.size))
      have h9 := fun (W : World) => run_string_add_sum (P := Tryd.prog) (w := W) ((⟨#[x]⟩ : ByteArray)) (⟨(itoaL m).toArray⟩) (by simp only [ByteArray.size_append, size_of_list, zs]; first | omega | (simp; omega))
      clear hb5 c0 D1 O1 B1
      go_wp2_with fail
      refine (ws_ok w.heap.size (w.heap.size + 1) _ ((⟨#[x]⟩ : ByteArray) ++ (⟨(itoaL m).toArray⟩ : ByteArray)) _ D5.out (by simp only [List.length_append, ByteArray.size_append, zs]; simp; omega) B5.out.size).mono ?_
      rintro e w6 ⟨rfl, bd6, hb6, ho6⟩
      have D6 := hide bd6
      have O6 := hide (own_others O5.out D5.out ho6 (by decide) (by decide))
      have B6 := hide (B5.out.trans hb6)
      clear bd6 hb6 ho6 h9 D5 O5 B5
      go_wp2
      go_roundg (n - (k + 1))
      case measure => omega
      case rel =>
        refine ⟨k + 1, by omega, rfl, by simp, by go_num, B6.out, ?_, O6.out⟩
        have e : itoaL l0 ++ catT cs (k + 1) = (itoaL l0 ++ catT cs k) ++ ((⟨#[x]⟩ : ByteArray) ++ (⟨(itoaL m).toArray⟩ : ByteArray)).data.toList := by rw [HS.out]; simp [ByteArray.data_append]
        rw [e]
        exact D6.out
    · have hkz : decide ((k : Int) < n) = false := by simp; omega
      obtain rfl : k = n := by omega
      have B1 := hide hb
      have D1 := hide bd
      clear hb bd o htl hx
      go_wp2_with fail
      refine (st_ok w.heap.size (w.heap.size + 1) _ _ D1.out B1.out.size).mono ?_
      rintro e w5 ⟨rfl, hb5⟩
      have B5 := hide (B1.out.trans hb5)
      clear hb5
      go_wp2
      go_returns
      exact ⟨by rw [HT.out, hn]; rfl, B5.out⟩

set_option maxRecDepth 100000 in
theorem ltext_ok (lv : UInt8) (ct : UInt16) (hl : lv.toNat < 10) (hc : ct.toNat = 0 ∨ okC' ct.toNat) (w : World) (hD : Db w) :
    Calls Tryd.prog 46 #[.agg #[.int .u8 (lv.toNat : Int), .int .u16 (ct.toNat : Int)]] w fun e w' => e = .returned (.string ⟨(labT lv.toNat ct.toNat).toArray⟩) ∧ Below w.heap.size w w' :=
  ltext_aux lv.toNat ct.toNat hl w hD fun w h => cats_ok lv ct hc w h
end Go.Proofs.YtniboffmdkeacaaDoor

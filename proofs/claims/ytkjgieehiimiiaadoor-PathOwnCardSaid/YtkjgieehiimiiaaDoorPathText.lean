/- Paths as texts: the walks of path.Text, of the document's Text. Printed by pathtext.py. -/
import Derived.Test.YtkjgieehiimiiaaDoorPathJoin
import Derived.Test.YtkjgieehiimiiaaDoorShelf2
import Derived.Shelf.Strings.BuilderK
import Derived.ShutString
namespace Go.Proofs.YtkjgieehiimiiaaDoor
open Go.RowKit

/-- a part as a text -/
def partT (q : BL × BL) : BL := q.1 ++ (if q.2 = [] then [] else 64 :: q.2)
/-- the first k parts as a text -/
def textK (a : Bool) (ps : List (BL × BL)) : Nat → BL
  | 0 => if a then [47] else []
  | k + 1 => textK a ps k ++ ((if k = 0 then [] else [47]) ++ partT (ps.getD k ([], [])))
/-- parts that are short -/
def Short (ps : List (BL × BL)) : Prop := ∀ q ∈ ps, q.1.length ≤ 20 ∧ q.2.length ≤ 20
theorem Short.at_ {ps : List (BL × BL)} (h : Short ps) (k : Nat) : (ps.getD k ([], [])).1.length ≤ 20 ∧ (ps.getD k ([], [])).2.length ≤ 20 := by
  rcases Nat.lt_or_ge k ps.length with hk | hk
  · rw [List.getD_eq_getElem?_getD, List.getElem?_eq_getElem hk]
    exact h _ (List.getElem_mem hk)
  · rw [List.getD_eq_getElem?_getD, List.getElem?_eq_none hk]
    simp
theorem partT_len {q : BL × BL} (h : q.1.length ≤ 20 ∧ q.2.length ≤ 20) : (partT q).length ≤ 41 := by
  unfold partT
  split
  · simp; omega
  · simp; omega
theorem textK_len {a : Bool} {ps : List (BL × BL)} (h : Short ps) : ∀ k, (textK a ps k).length ≤ 1 + 42 * k
  | 0 => by cases a <;> simp [textK]
  | k + 1 => by
    have h1 := textK_len (a := a) h k
    have h2 := partT_len (h.at_ k)
    unfold textK
    rw [List.length_append, List.length_append]
    split
    · simp only [List.length_nil]; omega
    · simp only [List.length_cons, List.length_nil]; omega

theorem cellsB (l : BL) : Lib.byteCells l = Lib.strCells ⟨l.toArray⟩ := rfl
theorem ws_ok (B b : Nat) (l : BL) (s : ByteArray) (w : World) (h : Lib.IsBuilderF 58 5 B b (Lib.byteCells l) w) (hlen : l.length + s.size ≤ 1000000) (hBw : B ≤ w.heap.size) :
    Calls Tryd.prog 25 #[.pointer (some ⟨b, 0, none⟩), .string s] w fun e w' => e = .returned (.tuple #[.int .i64 s.size, .nilIface]) ∧
      Lib.IsBuilderF 58 5 B b (Lib.byteCells (l ++ s.data.toList)) w' ∧ Below B w w' ∧ Lib.OthersKept 5 (some b) w w' := by
  refine (Any.Builder_WriteString_k Tryd.lays166 Tryd.Builder_Extra_166 B b (Lib.byteCells l) s w h (by rw [Lib.byteCells_length]; omega) hBw).mono ?_
  rintro e w' ⟨rfl, h1, h2, h3⟩
  refine ⟨rfl, Or.inr ?_, h2, h3⟩
  rw [show Lib.byteCells (l ++ s.data.toList) = Lib.byteCells l ++ Lib.strCells s by simp [Lib.byteCells, Lib.strCells]]
  exact h1
theorem st_ok (B b : Nat) (l : BL) (w : World) (h : Lib.IsBuilderF 58 5 B b (Lib.byteCells l) w) (hBw : B ≤ w.heap.size) :
    Calls Tryd.prog 26 #[.pointer (some ⟨b, 0, none⟩)] w fun e w' => e = .returned (.string ⟨l.toArray⟩) ∧ Below B w w' := by
  refine (Any.Builder_String_any_k Tryd.lays169 Tryd.Builder_Extra_169 B b l w h hBw).mono ?_
  rintro e w' ⟨rfl, _, h2, _⟩
  exact ⟨rfl, h2⟩
theorem Blk.others {w w' : World} {g b : Nat} {t : TypeId} {cs : Array Value} (h : Blk w g t cs) (ho : Lib.OthersKept 5 (some b) w w') (hb : g ≠ b) (ht : t ≠ 5) : Blk w' g t cs :=
  ho g _ h (fun e => hb (Option.some.inj e)) (fun c fz e => ht (by injection e))
theorem new_builder (w : World) (B : Nat) (hB : B ≤ w.heap.size) : Lib.IsBuilderF 58 5 B w.heap.size (Lib.byteCells []) (w.alloc (.cells #[.pointer none, .slice none 0 0] 58)) :=
  Lib.IsBuilderF.of (Or.inl ⟨hB, .slice none 0 0, Blk.new w 58 #[.pointer none, .slice none 0 0], World.ownsRow_nil _ _ _ _, by simp [Value.ownBlock]⟩)

theorem isb_lt {T e : TypeId} {B b : Nat} {bs : List Value} {w : World} (h : Lib.IsBuilderF T e B b bs w) : b < w.heap.size := h.elim Lib.BuilderAtF.lt Lib.BuilderAtF.lt

theorem z64 : (⟨#[64]⟩ : ByteArray).size = 1 := rfl
theorem z47 : (⟨#[47]⟩ : ByteArray).size = 1 := rfl
theorem zl (l : BL) : (⟨l.toArray⟩ : ByteArray).data.toList = l := rfl

section
variable (a : Bool) (A : Option Addr) (n c : Nat) (ps : List (BL × BL)) (w : World)

set_option maxRecDepth 100000 in
set_option maxHeartbeats 4000000 in
theorem reftext_ok (hA : Rd w w.heap.size 2 A n (flat ps)) (hs : Short ps) (hn : n ≤ 100) :
    Calls Tryd.prog 18 #[.bool a, .slice A n c] w fun e w' => e = .returned (.string ⟨(textK a ps n).toArray⟩) ∧ w' = w := by
  have lp := hA.parts
  go_enter Tryd.func18, Tryd.ntmps18
  have LP := hide lp
  clear lp
  go_upto_if 7 with (fail)
  go_cut [5] from 8 to 9 (fun t wc => wc = w ∧ t = .string ⟨(textK a ps 0).toArray⟩)
  case first =>
    cases a
    · go_wp2
      go_meet
      case rel => exact ⟨rfl, rfl⟩
    · go_wp2
      go_meet
      case rel => exact ⟨rfl, rfl⟩
  case rest =>
    obtain ⟨rfl, rfl⟩ := hcut
    go_wp2
    go_loopg [5, 6] n (fun g t i wr => ∃ k : Nat, k ≤ n ∧ g = n - k ∧ i = .int .i64 k ∧ wr = wc ∧ t = .string ⟨(textK a ps k).toArray⟩)
    case atStart => exact ⟨0, Nat.zero_le _, rfl, rfl, rfl, rfl⟩
    case round =>
      obtain ⟨k, hk, hg, rfl, rfl, rfl⟩ := hrel
      by_cases hkn : k < n
      · have hkz : (k : Int) < n := by omega
        obtain ⟨bb, oo, rfl, hbb, hc⟩ := hA.part (by omega)
        obtain ⟨q, hq⟩ : ∃ q, ps[k]? = some q := ⟨_, List.getElem?_eq_getElem (by rw [LP.out]; exact hkn)⟩
        obtain ⟨c0, c1⟩ := hc k q hq
        have hgd : ps.getD k ([], []) = q := by rw [List.getD_eq_getElem?_getD, hq]; rfl
        have hsq := hs.at_ k
        rw [hgd] at hsq
        have htl := textK_len (a := a) hs k
        have hstep : textK a ps (k + 1) = textK a ps k ++ ((if k = 0 then [] else [47]) ++ partT q) := by rw [textK, hgd]
        have HS := hide hstep
        generalize textK a ps k = t at htl HS ⊢
        clear hc hq hgd hstep
        by_cases hk0 : k = 0
        · by_cases hq2 : q.2 = []
          · have hz : decide ((0 : Int) < k) = false := by simp; omega
            have hzn : decide (0 < k) = false := by simp; omega
            have h2 := fun (W : World) => run_string_add_sum (P := Tryd.prog) (w := W) ((⟨t.toArray⟩ : ByteArray)) (⟨q.1.toArray⟩) (by simp only [ByteArray.size_append, size_of_list]; first | omega | (simp; omega))
            have hq2' : q.2 = [] := hq2
            have HK := hide hk0
            clear hk0
            go_wp2
            go_roundg (n - (k + 1))
            case measure => omega
            case rel =>
              refine ⟨k + 1, by omega, rfl, by go_num, rfl, ?_⟩
              have hk0 := HK.out
              rw [HS.out]
              congr 1
              apply ByteArray.ext
              simp [ByteArray.data_append, partT, hq2, hk0]
          · have hz : decide ((0 : Int) < k) = false := by simp; omega
            have hzn : decide (0 < k) = false := by simp; omega
            have h2 := fun (W : World) => run_string_add_sum (P := Tryd.prog) (w := W) ((⟨t.toArray⟩ : ByteArray)) (⟨q.1.toArray⟩) (by simp only [ByteArray.size_append, size_of_list]; first | omega | (simp; omega))
            have hq3 : List.isEmpty q.2 = false := by simp [hq2]
            have hq4 : (!List.isEmpty q.2) = true := by simp [hq2]
            have h3 := fun (W : World) => run_string_add_sum (P := Tryd.prog) (w := W) ((⟨t.toArray⟩ : ByteArray) ++ ⟨q.1.toArray⟩) (⟨#[64]⟩) (by simp only [ByteArray.size_append, size_of_list]; first | omega | (simp; omega))
            have h4 := fun (W : World) => run_string_add_sum (P := Tryd.prog) (w := W) ((⟨t.toArray⟩ : ByteArray) ++ ⟨q.1.toArray⟩ ++ ⟨#[64]⟩) (⟨q.2.toArray⟩) (by simp only [ByteArray.size_append, size_of_list]; first | omega | (simp; omega))
            have HK := hide hk0
            clear hk0
            go_wp2
            go_roundg (n - (k + 1))
            case measure => omega
            case rel =>
              refine ⟨k + 1, by omega, rfl, by go_num, rfl, ?_⟩
              have hk0 := HK.out
              rw [HS.out]
              congr 1
              apply ByteArray.ext
              simp [ByteArray.data_append, partT, hq2, hk0]
        · by_cases hq2 : q.2 = []
          · have hz : decide ((0 : Int) < k) = true := by simp; omega
            have hzn : decide (0 < k) = true := by simp; omega
            have h1 := fun (W : World) => run_string_add_sum (P := Tryd.prog) (w := W) ((⟨t.toArray⟩ : ByteArray)) (⟨#[47]⟩) (by simp only [ByteArray.size_append, size_of_list]; first | omega | (simp; omega))
            have h2 := fun (W : World) => run_string_add_sum (P := Tryd.prog) (w := W) ((⟨t.toArray⟩ : ByteArray) ++ ⟨#[47]⟩) (⟨q.1.toArray⟩) (by simp only [ByteArray.size_append, size_of_list]; first | omega | (simp; omega))
            have hq2' : q.2 = [] := hq2
            have HK := hide hk0
            clear hk0
            go_wp2
            go_roundg (n - (k + 1))
            case measure => omega
            case rel =>
              refine ⟨k + 1, by omega, rfl, by go_num, rfl, ?_⟩
              have hk0 := HK.out
              rw [HS.out]
              congr 1
              apply ByteArray.ext
              simp [ByteArray.data_append, partT, hq2, hk0]
          · have hz : decide ((0 : Int) < k) = true := by simp; omega
            have hzn : decide (0 < k) = true := by simp; omega
            have h1 := fun (W : World) => run_string_add_sum (P := Tryd.prog) (w := W) ((⟨t.toArray⟩ : ByteArray)) (⟨#[47]⟩) (by simp only [ByteArray.size_append, size_of_list]; first | omega | (simp; omega))
            have h2 := fun (W : World) => run_string_add_sum (P := Tryd.prog) (w := W) ((⟨t.toArray⟩ : ByteArray) ++ ⟨#[47]⟩) (⟨q.1.toArray⟩) (by simp only [ByteArray.size_append, size_of_list]; first | omega | (simp; omega))
            have hq3 : List.isEmpty q.2 = false := by simp [hq2]
            have hq4 : (!List.isEmpty q.2) = true := by simp [hq2]
            have h3 := fun (W : World) => run_string_add_sum (P := Tryd.prog) (w := W) ((⟨t.toArray⟩ : ByteArray) ++ ⟨#[47]⟩ ++ ⟨q.1.toArray⟩) (⟨#[64]⟩) (by simp only [ByteArray.size_append, size_of_list]; first | omega | (simp; omega))
            have h4 := fun (W : World) => run_string_add_sum (P := Tryd.prog) (w := W) ((⟨t.toArray⟩ : ByteArray) ++ ⟨#[47]⟩ ++ ⟨q.1.toArray⟩ ++ ⟨#[64]⟩) (⟨q.2.toArray⟩) (by simp only [ByteArray.size_append, size_of_list]; first | omega | (simp; omega))
            have HK := hide hk0
            clear hk0
            go_wp2
            go_roundg (n - (k + 1))
            case measure => omega
            case rel =>
              refine ⟨k + 1, by omega, rfl, by go_num, rfl, ?_⟩
              have hk0 := HK.out
              rw [HS.out]
              congr 1
              apply ByteArray.ext
              simp [ByteArray.data_append, partT, hq2, hk0]
      · have hkz : decide ((k : Int) < n) = false := by simp; omega
        obtain rfl : k = n := by omega
        clear hA hs
        go_wp2
        go_returns
        exact ⟨rfl, rfl⟩

set_option maxRecDepth 100000 in
set_option maxHeartbeats 8000000 in
theorem text_ok (hA : Rd w w.heap.size 2 A n (flat ps)) (hs : Short ps) (hn : n ≤ 100) :
    Calls Tryd.prog 17 #[.agg #[.bool a, .slice A n c]] w fun e w' => e = .returned (.string ⟨(textK a ps n).toArray⟩) ∧ Below w.heap.size w w' := by
  have lp := hA.parts
  go_enter Tryd.func17, Tryd.ntmps17
  have LP := hide lp
  clear lp
  go_upto_if 7 with (fail)
  refine at_world (fun W => Below w.heap.size w W ∧ Blk W w.heap.size 27 #[.bool a, .slice A n c] ∧ Lib.IsBuilderF 58 5 w.heap.size (w.heap.size + 1) (Lib.byteCells []) W)
    ⟨by go_grown, (Blk.new w 27 #[.bool a, .slice A n c]).alloc _, by have h := new_builder (w.alloc (.cells #[.bool a, .slice A n c] 27)) w.heap.size (by simp); simpa using h⟩ (fun w1 hX => ?_)
  obtain ⟨hb1, aB1, bd1⟩ := hX
  have a0 := aB1.cell 0
  have a1 := aB1.cell 1
  have la := aB1.lt
  go_cut [] from 8 to 9 (fun wc => Below w.heap.size w wc ∧ Blk wc w.heap.size 27 #[.bool a, .slice A n c] ∧ Lib.IsBuilderF 58 5 w.heap.size (w.heap.size + 1) (Lib.byteCells (textK a ps 0)) wc)
  case first =>
    cases a
    · go_wp2
      go_meet
      case rel => exact ⟨hb1, aB1, bd1⟩
    · go_wp2_with fail
      refine (ws_ok w.heap.size (w.heap.size + 1) [] ⟨#[47]⟩ w1 bd1 (by simp [ByteArray.size]) hb1.size).mono ?_
      rintro e w2 ⟨rfl, bd2, hb2, ho2⟩
      go_wp2
      go_meet
      case rel => exact ⟨hb1.trans hb2, aB1.others ho2 (by omega) (by decide), bd2⟩
  case rest =>
    clear hb1 aB1 bd1 a0 a1 la
    obtain ⟨hb1, aB1, bd1⟩ := hcut
    have a0 := aB1.cell 0
    have a1 := aB1.cell 1
    have la := aB1.lt
    go_wp2
    clear a0 a1 la
    go_loopg [12] n (fun g i wr => ∃ k : Nat, k ≤ n ∧ g = n - k ∧ i = .int .i64 k ∧ Aside (Below w.heap.size w wr ∧ Lib.IsBuilderF 58 5 w.heap.size (w.heap.size + 1) (Lib.byteCells (textK a ps k)) wr))
    case atStart => exact ⟨0, Nat.zero_le _, rfl, rfl, hb1, bd1⟩
    case round =>
      obtain ⟨k, hk, hg, rfl, hH⟩ := hrel
      clear aB1 hb1 bd1
      obtain ⟨hb, bd⟩ := hH.out
      clear hH
      by_cases hkn : k < n
      · have hkz : (k : Int) < n := by omega
        obtain ⟨bb, oo, rfl, hbb, hc⟩ := hA.part (by omega)
        obtain ⟨q, hq⟩ : ∃ q, ps[k]? = some q := ⟨_, List.getElem?_eq_getElem (by rw [LP.out]; exact hkn)⟩
        obtain ⟨c0, c1⟩ := hc k q hq
        rw [← hb.cell (p := ⟨bb, oo + k * 2, none⟩) hbb] at c0
        rw [← hb.cell (p := ⟨bb, oo + k * 2 + 1, none⟩) hbb] at c1
        have hbw : bb < wr.heap.size := Nat.lt_of_lt_of_le hbb hb.size
        have hgd : ps.getD k ([], []) = q := by rw [List.getD_eq_getElem?_getD, hq]; rfl
        have hsq := hs.at_ k
        rw [hgd] at hsq
        have htl := textK_len (a := a) hs k
        have hstep : textK a ps (k + 1) = textK a ps k ++ ((if k = 0 then [] else [47]) ++ partT q) := by rw [textK, hgd]
        have HS := hide hstep
        generalize textK a ps k = t at htl HS bd
        clear hc hq hgd hstep
        by_cases hk0 : k = 0
        · by_cases hq2 : q.2 = []
          · have hz : decide ((0 : Int) < k) = false := by simp; omega
            have hzn : decide (0 < k) = false := by simp; omega
            have HK := hide hk0
            clear hk0
            have hq2' : q.2 = [] := hq2
            have bd0 := Lib.IsBuilderF.alloc bd (.cells #[.string ⟨q.1.toArray⟩, .string ⟨#[]⟩] 34)
            have xB := Blk.new wr 34 #[.string ⟨q.1.toArray⟩, .string ⟨#[]⟩]
            have hb0 := hb.alloc hb.size (.cells #[.string ⟨q.1.toArray⟩, .string ⟨#[]⟩] 34)
            have hxb : wr.heap.size ≠ w.heap.size + 1 := by have := isb_lt bd; omega
            go_wp2_with fail
            clear c0 c1 hbw bd hb
            refine (ws_ok w.heap.size (w.heap.size + 1) _ ⟨q.1.toArray⟩ _ bd0 (by simp only [List.length_append, ByteArray.size_append, size_of_list, z64, z47, zl]; first | omega | (simp; omega)) hb0.size).mono ?_
            rintro e v1 ⟨rfl, bd1, hc1, ho1⟩
            have hb1 := hb0.trans hc1
            have xB1 := xB.others ho1 hxb (by decide)
            have x0 := xB1.cell 0
            have x1 := xB1.cell 1
            have lx := xB1.lt
            go_wp2
            go_roundg (n - (k + 1))
            case measure => omega
            case rel =>
              refine ⟨k + 1, by omega, rfl, by go_num, hb1, ?_⟩
              have hk0 := HK.out
              have e : textK a ps (k + 1) = t ++ (⟨q.1.toArray⟩ : ByteArray).data.toList := by rw [HS.out]; simp [partT, hq2, hk0, ByteArray.data_append]
              rw [e]
              exact bd1
          · have hz : decide ((0 : Int) < k) = false := by simp; omega
            have hzn : decide (0 < k) = false := by simp; omega
            have HK := hide hk0
            clear hk0
            have hq3 : List.isEmpty q.2 = false := by simp [hq2]
            have hq4 : (!List.isEmpty q.2) = true := by simp [hq2]
            have bd0 := Lib.IsBuilderF.alloc bd (.cells #[.string ⟨q.1.toArray⟩, .string ⟨q.2.toArray⟩] 34)
            have xB := Blk.new wr 34 #[.string ⟨q.1.toArray⟩, .string ⟨q.2.toArray⟩]
            have hb0 := hb.alloc hb.size (.cells #[.string ⟨q.1.toArray⟩, .string ⟨q.2.toArray⟩] 34)
            have hxb : wr.heap.size ≠ w.heap.size + 1 := by have := isb_lt bd; omega
            go_wp2_with fail
            clear c0 c1 hbw bd hb
            refine (ws_ok w.heap.size (w.heap.size + 1) _ ⟨q.1.toArray⟩ _ bd0 (by simp only [List.length_append, ByteArray.size_append, size_of_list, z64, z47, zl]; first | omega | (simp; omega)) hb0.size).mono ?_
            rintro e v1 ⟨rfl, bd1, hc1, ho1⟩
            have hb1 := hb0.trans hc1
            have xB1 := xB.others ho1 hxb (by decide)
            have x0 := xB1.cell 0
            have x1 := xB1.cell 1
            have lx := xB1.lt
            have h9 := fun (W : World) => run_string_add_sum (P := Tryd.prog) (w := W) ((⟨#[64]⟩ : ByteArray)) (⟨q.2.toArray⟩) (by simp only [ByteArray.size_append, size_of_list]; first | omega | (simp; omega))
            go_wp2_with fail
            clear x0 x1 lx
            refine (ws_ok w.heap.size (w.heap.size + 1) _ ((⟨#[64]⟩ : ByteArray) ++ (⟨q.2.toArray⟩ : ByteArray)) _ bd1 (by simp only [List.length_append, ByteArray.size_append, size_of_list, z64, z47, zl]; first | omega | (simp; omega)) hb1.size).mono ?_
            rintro e v2 ⟨rfl, bd2, hc2, ho2⟩
            have hb2 := hb1.trans hc2
            have xB2 := xB1.others ho2 hxb (by decide)
            have x0 := xB2.cell 0
            have x1 := xB2.cell 1
            have lx := xB2.lt
            go_wp2
            go_roundg (n - (k + 1))
            case measure => omega
            case rel =>
              refine ⟨k + 1, by omega, rfl, by go_num, hb2, ?_⟩
              have hk0 := HK.out
              have e : textK a ps (k + 1) = t ++ (⟨q.1.toArray⟩ : ByteArray).data.toList ++ ((⟨#[64]⟩ : ByteArray) ++ (⟨q.2.toArray⟩ : ByteArray)).data.toList := by rw [HS.out]; simp [partT, hq2, hk0, ByteArray.data_append]
              rw [e]
              exact bd2
        · by_cases hq2 : q.2 = []
          · have hz : decide ((0 : Int) < k) = true := by simp; omega
            have hzn : decide (0 < k) = true := by simp; omega
            have HK := hide hk0
            clear hk0
            have hq2' : q.2 = [] := hq2
            have bd0 := Lib.IsBuilderF.alloc bd (.cells #[.string ⟨q.1.toArray⟩, .string ⟨#[]⟩] 34)
            have xB := Blk.new wr 34 #[.string ⟨q.1.toArray⟩, .string ⟨#[]⟩]
            have hb0 := hb.alloc hb.size (.cells #[.string ⟨q.1.toArray⟩, .string ⟨#[]⟩] 34)
            have hxb : wr.heap.size ≠ w.heap.size + 1 := by have := isb_lt bd; omega
            go_wp2_with fail
            clear c0 c1 hbw bd hb
            refine (ws_ok w.heap.size (w.heap.size + 1) _ ⟨#[47]⟩ _ bd0 (by simp only [List.length_append, ByteArray.size_append, size_of_list, z64, z47, zl]; first | omega | (simp; omega)) hb0.size).mono ?_
            rintro e v1 ⟨rfl, bd1, hc1, ho1⟩
            have hb1 := hb0.trans hc1
            have xB1 := xB.others ho1 hxb (by decide)
            have x0 := xB1.cell 0
            have x1 := xB1.cell 1
            have lx := xB1.lt
            go_wp2_with fail
            clear x0 x1 lx
            refine (ws_ok w.heap.size (w.heap.size + 1) _ ⟨q.1.toArray⟩ _ bd1 (by simp only [List.length_append, ByteArray.size_append, size_of_list, z64, z47, zl]; first | omega | (simp; omega)) hb1.size).mono ?_
            rintro e v2 ⟨rfl, bd2, hc2, ho2⟩
            have hb2 := hb1.trans hc2
            have xB2 := xB1.others ho2 hxb (by decide)
            have x0 := xB2.cell 0
            have x1 := xB2.cell 1
            have lx := xB2.lt
            go_wp2
            go_roundg (n - (k + 1))
            case measure => omega
            case rel =>
              refine ⟨k + 1, by omega, rfl, by go_num, hb2, ?_⟩
              have hk0 := HK.out
              have e : textK a ps (k + 1) = t ++ (⟨#[47]⟩ : ByteArray).data.toList ++ (⟨q.1.toArray⟩ : ByteArray).data.toList := by rw [HS.out]; simp [partT, hq2, hk0, ByteArray.data_append]
              rw [e]
              exact bd2
          · have hz : decide ((0 : Int) < k) = true := by simp; omega
            have hzn : decide (0 < k) = true := by simp; omega
            have HK := hide hk0
            clear hk0
            have hq3 : List.isEmpty q.2 = false := by simp [hq2]
            have hq4 : (!List.isEmpty q.2) = true := by simp [hq2]
            have bd0 := Lib.IsBuilderF.alloc bd (.cells #[.string ⟨q.1.toArray⟩, .string ⟨q.2.toArray⟩] 34)
            have xB := Blk.new wr 34 #[.string ⟨q.1.toArray⟩, .string ⟨q.2.toArray⟩]
            have hb0 := hb.alloc hb.size (.cells #[.string ⟨q.1.toArray⟩, .string ⟨q.2.toArray⟩] 34)
            have hxb : wr.heap.size ≠ w.heap.size + 1 := by have := isb_lt bd; omega
            go_wp2_with fail
            clear c0 c1 hbw bd hb
            refine (ws_ok w.heap.size (w.heap.size + 1) _ ⟨#[47]⟩ _ bd0 (by simp only [List.length_append, ByteArray.size_append, size_of_list, z64, z47, zl]; first | omega | (simp; omega)) hb0.size).mono ?_
            rintro e v1 ⟨rfl, bd1, hc1, ho1⟩
            have hb1 := hb0.trans hc1
            have xB1 := xB.others ho1 hxb (by decide)
            have x0 := xB1.cell 0
            have x1 := xB1.cell 1
            have lx := xB1.lt
            go_wp2_with fail
            clear x0 x1 lx
            refine (ws_ok w.heap.size (w.heap.size + 1) _ ⟨q.1.toArray⟩ _ bd1 (by simp only [List.length_append, ByteArray.size_append, size_of_list, z64, z47, zl]; first | omega | (simp; omega)) hb1.size).mono ?_
            rintro e v2 ⟨rfl, bd2, hc2, ho2⟩
            have hb2 := hb1.trans hc2
            have xB2 := xB1.others ho2 hxb (by decide)
            have x0 := xB2.cell 0
            have x1 := xB2.cell 1
            have lx := xB2.lt
            have h9 := fun (W : World) => run_string_add_sum (P := Tryd.prog) (w := W) ((⟨#[64]⟩ : ByteArray)) (⟨q.2.toArray⟩) (by simp only [ByteArray.size_append, size_of_list]; first | omega | (simp; omega))
            go_wp2_with fail
            clear x0 x1 lx
            refine (ws_ok w.heap.size (w.heap.size + 1) _ ((⟨#[64]⟩ : ByteArray) ++ (⟨q.2.toArray⟩ : ByteArray)) _ bd2 (by simp only [List.length_append, ByteArray.size_append, size_of_list, z64, z47, zl]; first | omega | (simp; omega)) hb2.size).mono ?_
            rintro e v3 ⟨rfl, bd3, hc3, ho3⟩
            have hb3 := hb2.trans hc3
            have xB3 := xB2.others ho3 hxb (by decide)
            have x0 := xB3.cell 0
            have x1 := xB3.cell 1
            have lx := xB3.lt
            go_wp2
            go_roundg (n - (k + 1))
            case measure => omega
            case rel =>
              refine ⟨k + 1, by omega, rfl, by go_num, hb3, ?_⟩
              have hk0 := HK.out
              have e : textK a ps (k + 1) = t ++ (⟨#[47]⟩ : ByteArray).data.toList ++ (⟨q.1.toArray⟩ : ByteArray).data.toList ++ ((⟨#[64]⟩ : ByteArray) ++ (⟨q.2.toArray⟩ : ByteArray)).data.toList := by rw [HS.out]; simp [partT, hq2, hk0, ByteArray.data_append]
              rw [e]
              exact bd3
      · have hkz : decide ((k : Int) < n) = false := by simp; omega
        obtain rfl : k = n := by omega
        clear hA hs
        go_wp2_with fail
        refine (st_ok _ _ _ _ bd hb.size).mono ?_
        rintro e w5 ⟨rfl, hb5⟩
        go_wp2
        go_returns
        exact ⟨rfl, hb.trans hb5⟩
end
end Go.Proofs.YtkjgieehiimiiaaDoor

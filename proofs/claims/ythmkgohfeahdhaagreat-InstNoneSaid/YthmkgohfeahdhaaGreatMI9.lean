/- The table of own directories: all its places: walked. The table of own directories: which one is a node's: walked. Is a node still there: walked. Own directories: reaped, needed, dropped: walked. Own directories: a nil group; what is not there; the table's writes: walked. -/
import Derived.Test.YthmkgohfeahdhaaGreatMI1
import Derived.Test.YthmkgohfeahdhaaGreatMI2
import Derived.Test.YthmkgohfeahdhaaGreatMI3
import Derived.Test.YthmkgohfeahdhaaGreatMI4
import Derived.Test.YthmkgohfeahdhaaGreatMI5
import Derived.Test.YthmkgohfeahdhaaGreatMI6
import Derived.Test.YthmkgohfeahdhaaGreatMI7
import Derived.Test.YthmkgohfeahdhaaGreatMI8
import Derived.Test.YthmkgohfeahdhaaGreatProg
import Derived.Deep.RegionHeld3
import Derived.Deep.RegionLaw
import Derived.Deep.QuietTactic
import Derived.BigQuiet
import Derived.Handy
import Derived.WalkKit
import Derived.WalkSpells
import Derived.WalkLawsBesides
import Derived.Maps.AppendAt
import Derived.Deep.Draws
import Derived.Lib.SlBytesConst
import Derived.Deep.LoopGhost
import Derived.Deep.Cut
import Derived.Deep.CutRange
import Derived.Lib.IndexBytes
import Derived.ProofKit
import Derived.OpenShut
import Derived.Lib.SmallJoins
import Derived.StringKeys
import Derived.Deep.Slices
import Derived.Deep.Fields
import Derived.Deep.Strs
import Derived.Laws.Tables
import Derived.Laws.Rows
import Derived.Deep.CutBlock
import Derived.Lib.BufferWrite
import Derived.Handed
import Derived.Sort.OwnSortedInts
import Derived.DeepKeys
import Derived.Great.FillDense
import Derived.Laws.CopyRow
import Derived.Deep.MidRow
import Derived.OwnWalk
import Derived.Shelf.Small.Bits
import Derived.Shelf.Small.Wraps
import Derived.Shelf.Strconv.Itoa0
import Derived.Shelf.Sort.Plain
import Derived.Ground.Names2Prog
import Derived.Shelf.Slices.SearchI
import Derived.Shelf.Slices.In.SortNone
import Derived.Maps.Keyed
import Derived.DeepKeys4
import Derived.Carry
import Derived.Maps.RangeWalk
import Derived.Lib.SplitLaws
namespace Go.Proofs.YthmkgohfeahdhaaGreat
open Go.RowKit
set_option linter.unusedSimpArgs false
set_option linter.unusedVariables false

def flatI (l : List InR) : List Value := l.flatMap InR.cells
/-- a table's bytes -/
def pls (l : List InR) : List UInt8 := l.flatMap placeR
theorem pls_length : ∀ l : List InR, (pls l).length = 8 * l.length
  | [] => rfl
  | e :: l => by
    have := pls_length l
    unfold pls at this ⊢
    rw [List.flatMap_cons, List.length_append, this, placeR_length, List.length_cons]
    omega
theorem pls_piece : ∀ {l : List InR} {k : Nat} {e : InR}, l[k]? = some e → ((pls l).drop (8 * k)).take 8 = placeR e
  | [], k, e, h => by simp at h
  | a :: l, 0, e, h => by
    obtain rfl : a = e := by simpa using h
    unfold pls
    rw [List.flatMap_cons, Nat.mul_zero, List.drop_zero, ← placeR_length a, List.take_left']
    rw [placeR_length]
  | a :: l, k + 1, e, h => by
    have h1 := pls_piece (l := l) (k := k) (e := e) (by simpa using h)
    unfold pls at h1 ⊢
    rw [List.flatMap_cons, show 8 * (k + 1) = (placeR a).length + 8 * k from by rw [placeR_length]; omega, List.drop_append, List.drop_eq_nil_of_le (by omega), List.nil_append, Nat.add_sub_cancel_left, h1]
/-- a group's table lies in its second node -/
structure TabN (G : GS) (g : GeoN) (l : List InR) (κ : Nat → Nat) : Prop where
  kind : (G.nd 2).kind = 1
  links : (G.nd 2).links ≠ 0
  size : (G.nd 2).size.toNat = 8 * l.length
  file : FileAt G g.blocks (G.nd 2) (blks (8 * l.length)) κ (8 * l.length) (fun j => (pls l).getD j 0)
  len : l.length ≤ 2048
  good : ∀ e ∈ l, e.Good
theorem info_inr : ∃ i, Tryz.prog.info? 244 = some i ∧ i.zero = some (.agg InR.zero.cells.toArray) ∧ i.size = 4 ∧ i.bytes = 8 := by
  have h : (Tryz.prog.info? 244).map (fun i => (i.zero, i.size, i.bytes)) = some (some (.agg InR.zero.cells.toArray), 4, 8) := by kernel_rfl
  cases hi : Tryz.prog.info? 244 with
  | none => rw [hi] at h; cases h
  | some i =>
    rw [hi] at h
    simp only [Option.map_some, Option.some.injEq, Prod.mk.injEq] at h
    exact ⟨i, rfl, h.1, h.2.1, h.2.2⟩
section
variable {w w' : World} {i : Ids} {s : Sto} {gg : Nat} {g : GeoN} {lab : Int} {G : GS}
set_option maxRecDepth 100000 in
set_option maxHeartbeats 4000000 in
theorem inopen_ok {l : List InR} {κ : Nat → Nat} (h : GAt w i s gg g lab G) (h2 : 2 ≤ g.nodes) (ht : TabN G g l κ) :
    Calls Tryz.prog 125 #[.pointer (some ⟨gg, 0, none⟩)] w fun e w' => ∃ A c, e = .returned (.tuple #[.slice A l.length c, .int .i64 0]) ∧ w'.ownsRow w.heap.size 244 4 (.slice A l.length c) l.length (flatI l) ∧ GAt w' i s gg g lab G ∧ Tch w.heap.size i.own w w' := by
  have hdir := h.gok.dir 2
  have hnd := gs_node' (num := 2) h (by omega) h2
  obtain ⟨n0, hn0⟩ : ∃ n0, G.nd 2 = n0 := ⟨_, rfl⟩
  rw [hn0, show ((2 : Nat) : Int) = 2 from rfl] at hnd
  rw [hn0] at hdir
  obtain ⟨sz, hsz0⟩ : ∃ sz, 8 * l.length = sz := ⟨_, rfl⟩
  have H := hide h
  have HND := hide hnd
  have HN0 := hide hn0
  have HD := hide hdir
  have HK := hide (And.intro h2 (And.intro ht hsz0))
  have hL : sz ≤ 16384 := by have := ht.len; omega
  have HL := hide hL
  clear h hnd hn0 hdir h2 ht hsz0
  go_enter Tryz.func125, Tryz.ntmps125
  go_wp2_with fail
  refine HND.out.mono ?_
  rintro e w1 ⟨rfl, ha1, ht1⟩
  have HA1 := hide ha1
  have HT1 := hide ht1
  clear ha1 ht1 HND
  go_upto_region 2 with (first | ((with_reducible refine at_alloc 130 ?_); refine wpList_alloc_as rfl 130 rfl _ (zero_node _) ?_) | ((with_reducible refine at_store 130 (.tmp 4) (.tmp 14) ?_); refine wpList_store_blk rfl 130 (.tmp 4) (.tmp 14) rfl w1.heap.size _ _ _ (by rfl) (by rfl) (Blk.new _ _ _) (size_nodeOf HD.out) (by rw [List.size_toArray, List.size_toArray, NodeV.cells_length HD.out]; rfl) (NodeV.cells_one _) (fun _ => ?_)) | fail)
  refine at_world (fun W => ∃ q, q = w1.heap.size ∧ Below w1.heap.size w1 W ∧ Blk W q 130 n0.cells.toArray) ⟨_, rfl, below_setRow ((Below.refl _ _).alloc (Nat.le_refl _) _) (Nat.le_refl _) _, (Blk.new _ _ _).setRow_same _⟩ (fun w2 hw2 => ?_)
  obtain ⟨q, hq, hb2, hQ2⟩ := hw2
  rw [← hq]
  have HA2 := hide (HA1.out.below hb2)
  have HT2 := hide (HT1.out.trans ((Tch.of_below hb2).mono HT1.out.size fun _ _ h => h))
  have q3 := (hQ2.cell 3).trans (node_cells_at n0).2.2.2
  have ql := hQ2.lt
  have hsz2 : n0.size.toNat = sz := by rw [← HN0.out, HK.out.2.1.size]; exact HK.out.2.2
  rw [hsz2] at q3
  have e1 : IntKind.i64.wrap (sz : Int) = (sz : Int) := IntWalk.i64_in _ (by omega)
  have hf := HK.out.2.1.file
  rw [HK.out.2.2] at hf
  have hrd := read_file (num := 2) (off := 0) (many := sz) (en := sz) (c := blks sz) (sz := sz) (κ := κ) (f := fun j => (pls l).getD j 0) HA2.out (by omega) HK.out.1 (by rw [HK.out.2.1.kind]; decide) (by rw [HK.out.2.1.size]; exact HK.out.2.2) hf (by omega) (by omega) HL.out (by have := HL.out; omega)
  have hmap : (List.range sz).map (fun k => (pls l).getD (0 + k) 0) = pls l := by
    have hlen := (pls_length l).trans HK.out.2.2
    apply List.ext_getElem?
    intro j
    rw [List.getElem?_map]
    by_cases hj : j < sz
    · rw [List.getElem?_range hj, List.getElem?_eq_getElem (by rw [hlen]; exact hj), Option.map_some, List.getD_eq_getElem?_getD, Nat.zero_add, List.getElem?_eq_getElem (by rw [hlen]; exact hj)]
      rfl
    · rw [List.getElem?_eq_none (by simpa using hj), List.getElem?_eq_none (by rw [hlen]; omega)]
      rfl
  rw [Nat.sub_zero, hmap, show ((0 : Nat) : Int) = 0 from rfl, show ((2 : Nat) : Int) = 2 from rfl] at hrd
  have HRD := hide hrd
  clear hq hb2 hQ2 hsz2 hmap hrd hL HA1 HT1 hf
  go_wp2_with fail
  refine HRD.out.mono ?_
  rintro e w3 ⟨A3, c3, rfl, hr3, ha3, ht3, -, hc3, hown3⟩
  have HBT3 := hide (BT.of_own hown3)
  have HA3 := hide ha3
  have HT3 := hide (HT2.out.trans (ht3.mono HT2.out.size fun _ _ h => h))
  have HR3 := hide (And.intro hr3 hc3)
  clear hr3 ha3 ht3 hc3 hown3 HRD HA2 HT2 q3 ql e1
  obtain ⟨N, hN⟩ : ∃ N, l.length = N := ⟨_, rfl⟩
  have hszN : sz = 8 * N := by rw [← hN]; exact HK.out.2.2.symm
  have HN := hide hN
  have HSZ := hide hszN
  clear hN hszN
  go_wp2_with fail
  go_loopg [7, 8, 9, 10] N (fun gh x7 x8 x9 x10 wr => ∃ (k : Nat) (Ao : Option Addr) (co : Nat), k ≤ N ∧ gh = N - k ∧ x7 = .slice Ao k co ∧ x8 = .int .i64 ((8 * k : Nat) : Int) ∧ Hid (GAt wr i s gg g lab G) ∧ Hid (Tch w.heap.size i.own w wr) ∧ Hid (Rd wr wr.heap.size 1 A3 sz (bvs (pls l)) ∧ sz ≤ c3) ∧ Hid (BT wr A3) ∧ Hid (wr.ownsRow w.heap.size 244 4 (.slice Ao k co) k (flatI (l.take k))))
  case atStart => exact ⟨0, none, 0, Nat.zero_le _, rfl, rfl, rfl, HA3, HT3, HR3, HBT3, hide (World.ownsRow_nil _ _ _ _)⟩
  case round =>
    clear HA3 HT3 HR3 HBT3
    obtain ⟨k, Ao, co, hk, hgh, rfl, rfl, HA, HT, HB, HBT, HO⟩ := hrel
    have HGH := hide hgh
    have hLL := HL.out
    clear hgh
    obtain ⟨y, hy⟩ : ∃ y : Nat, 8 * k = y := ⟨_, rfl⟩
    rw [hy]
    rcases Nat.lt_or_ge k N with hkl | hkl
    · obtain ⟨e, he⟩ : ∃ e, l[k]? = some e := ⟨_, List.getElem?_eq_getElem (by rw [HN.out]; exact hkl)⟩
      have hysz : y + 8 ≤ sz := by have := HSZ.out; omega
      obtain ⟨ba, oa, rfl, hba, -⟩ := HB.out.1.byte (i := 0) (by omega)
      have hc3 := HB.out.2
      have hrd : Rd wr wr.heap.size 1 (some ⟨ba, oa + y, none⟩) 8 (bvs (placeR e)) := by
        have h0 := HB.out.1.part HB.out.2 (lo := y) (hi := y + 8) (by omega) hysz
        rw [Nat.add_sub_cancel_left, ← hy, pls_piece he, hy] at h0
        unfold slA at h0
        rw [if_neg (by omega)] at h0
        simpa [Addr.add_mid] using h0
      have hup := inunpack_ok e (HK.out.2.1.good e (List.mem_of_getElem? he)) (c := c3 - y) (by omega) hrd
      have HUP := hide hup
      have HE := hide he
      have t1 : decide ((y : Int) < (sz : Int)) = true := by simp; omega
      have t1' : (y : Int) < (sz : Int) := by omega
      have e64 : IntKind.i64.wrap ((y : Int) + 8) = (y : Int) + 8 := IntWalk.i64_in _ (by omega)
      have hmin : min ((y : Int) + 8) (sz : Int) = (y : Int) + 8 := by omega
      have m1 : (y : Int) + 8 ≤ (sz : Int) := by omega
      have m2 : ¬ (sz : Int) < (y : Int) + 8 := by omega
      have m3 : (y : Int) + 8 ≤ (c3 : Int) := by omega
      have m4 : y < c3 := by omega
      have m5 : ¬ y = c3 := by omega
      have m6 : ¬ c3 = y := by omega
      clear hup hrd he hba
      have m7 : ((y : Int) + 8).toNat - y = 8 := by omega
      go_wp2_with fail
      refine HUP.out.mono ?_
      rintro _ w4 ⟨rfl, hb4⟩
      have HA4 := hide (HA.out.below hb4)
      have HT4 := hide (HT.out.trans ((Tch.of_below hb4).mono HT.out.size fun _ _ h => h))
      have HO4 := hide (own_below HO.out hb4)
      have HB4 := hide (And.intro ((HB.out.1.below hb4).more hb4.size) HB.out.2)
      have HBT4 := hide (HBT.out.below hb4)
      have hce : e.cells.toArray = #[.int .u8 (e.lab.toNat : Int), .int .u16 (e.num.toNat : Int), .int .u16 (e.gen.toNat : Int), .int .u16 (e.own.toNat : Int)] := rfl
      rw [hce]
      clear hb4 hce HUP HA HT HO HB HBT t1 t1' hmin m1 m2 m3 m4 m5 m6 m7
      go_upto_region 12 with (first | ((with_reducible refine at_alloc 244 ?_); refine wpList_alloc_as rfl 244 rfl _ (zero_inr' _) ?_) | ((with_reducible refine at_store 244 (.tmp 9) (.tmp 46) ?_); refine wpList_store_blk rfl 244 (.tmp 9) (.tmp 46) rfl w4.heap.size _ _ _ (by rfl) (by rfl) (Blk.new _ _ _) (size_inrc e) rfl (inr_one e) (fun _ => ?_)) | fail)
      refine at_world (fun W => ∃ z, z = w4.heap.size ∧ Below w4.heap.size w4 W ∧ Blk W z 244 #[.int .u8 (e.lab.toNat : Int), .int .u16 (e.num.toNat : Int), .int .u16 (e.gen.toNat : Int), .int .u16 (e.own.toNat : Int)]) ⟨_, rfl, below_setRow ((Below.refl _ _).alloc (Nat.le_refl _) _) (Nat.le_refl _) _, (Blk.new _ _ _).setRow_same _⟩ (fun w5 h5 => ?_)
      obtain ⟨z, hz, hb5, hZ5⟩ := h5
      rw [← hz]
      have HZB := hide hZ5
      have HA5 := hide (HA4.out.below hb5)
      have HT5 := hide (HT4.out.trans ((Tch.of_below hb5).mono HT4.out.size fun _ _ h => h))
      have HO5 := hide (own_below HO4.out hb5)
      have HB5 := hide (And.intro ((HB4.out.1.below hb5).more hb5.size) HB4.out.2)
      have HBT5 := hide (HBT4.out.below hb5)
      clear hz hb5 hZ5 HA4 HT4 HO4 HB4 HBT4
      obtain ⟨j0, hj0, j1, j2, j3⟩ := info_inr
      have HJ := hide (And.intro hj0 (And.intro j1 (And.intro j2 j3)))
      have hone : ∀ u ∈ ([.int .u8 (e.lab.toNat : Int), .int .u16 (e.num.toNat : Int), .int .u16 (e.gen.toNat : Int), .int .u16 (e.own.toNat : Int)] : List Value), u.oneCell' = true := by simp [Value.oneCell']
      have HONE := hide hone
      have hk6 : k ≤ 1000000 := by have := HSZ.out; omega
      have hs5 := HT5.out.size
      clear hj0 j1 j2 j3 hone
      go_wp2_with (first | ((with_reducible refine at_load 244 (.tmp 9) ?_); refine wpList_load_blk rfl 244 (.tmp 9) rfl z _ _ _ (by rfl) HZB.out Tryz.underlying244 rfl (size_inrc e) ?_) | (at_builtin; refine wpList_append_one rfl (.tmp 50) (.tmp 52) 240 rfl w.heap.size 244 j0 (.agg InR.zero.cells.toArray) 4 8 Tryz.underlying240 HJ.out.1 HJ.out.2.1 HJ.out.2.2.1 HJ.out.2.2.2 rfl (by decide) Ao co k (flatI (l.take k)) [.int .u8 (e.lab.toNat : Int), .int .u16 (e.num.toNat : Int), .int .u16 (e.gen.toNat : Int), .int .u16 (e.own.toNat : Int)] w5 rfl HO5.out rfl rfl rfl HONE.out hk6 (by decide) hs5 ?_; intro A9 c9 w6 hown9 hg9 hb9 hat9) | fail)
      have htg : Tch w5.heap.size (fun g => (Value.slice Ao k co).ownBlock = some g) w5 w6 := Tch.grown hg9 (Nat.le_refl _) (fun g hg _ => hg)
      have hown_ge : ∀ g, (Value.slice Ao k co).ownBlock = some g → w.heap.size ≤ g := fun g hg => (own_block_ge HO5.out hg).1
      have hav : ∀ (t : TypeId) g cur, t ≠ 244 → Blk w5 g t cur → ¬ (Value.slice Ao k co).ownBlock = some g := fun t g cur ht hB => row_not_blk HO5.out hB ht
      have hll := H.out.tx.log.log.lt
      have hgg := H.out.gp.lt
      have HA6 := hide (HA5.out.apart htg (fun g hg => ⟨fun ho => H.out.tx.other_new (hown_ge g hg) ho, by have := hown_ge g hg; omega, by have := hown_ge g hg; omega⟩))
      have HT6 := hide (HT5.out.trans (htg.mono HT5.out.size (fun g hk hg => by have := hown_ge g hg; omega)))
      have HB6 := hide (And.intro (HB5.out.1.keepT HBT5.out htg (fun g cur hB => hav _ g cur (by decide) hB)) HB5.out.2)
      have HBT6 := hide (HBT5.out.tch htg (fun g cur hB => hav _ g cur (by decide) hB))
      have hfl : flatI (l.take k) ++ [.int .u8 (e.lab.toNat : Int), .int .u16 (e.num.toNat : Int), .int .u16 (e.gen.toNat : Int), .int .u16 (e.own.toNat : Int)] = flatI (l.take (k + 1)) := by
        rw [List.take_add_one, HE.out]
        simp [flatI, InR.cells]
      rw [hfl] at hown9
      have HO6 := hide hown9
      clear hown9 hg9 hb9 hat9 htg hown_ge hav hll hgg hfl HA5 HT5 HO5 HB5 HBT5
      go_roundg (N - (k + 1))
      case rel => exact ⟨k + 1, A9, c9, by omega, rfl, rfl, by rw [Nat.mul_add, hy]; first | rfl | go_num, HA6, HT6, HB6, HBT6, HO6⟩
      case measure => have := HGH.out; omega
    · have hkN : k = N := by omega
      have t1 : decide ((y : Int) < (sz : Int)) = false := by have := HSZ.out; simp; omega
      have t1' : ¬ (y : Int) < (sz : Int) := by have := HSZ.out; omega
      have HKN := hide hkN
      clear hkl hk hkN hLL
      go_wp2
      go_returns
      refine ⟨Ao, co, ?_, ?_, HA.out, HT.out⟩
      · have e1 := HN.out
        have e2 := HKN.out
        simp [e1, e2]
      · have h0 := HO.out
        rw [HKN.out, List.take_of_length_le (by rw [HN.out]; exact Nat.le_refl _)] at h0
        rw [HN.out]
        exact h0
set_option maxRecDepth 100000 in
set_option maxHeartbeats 2000000 in
theorem inopen_bad {p : Option Addr} {x : Int} {R : World → Prop} (hx : x ≠ 0) (hn : Calls Tryz.prog 56 #[.pointer p, .int .i64 2] w fun e w' => e = .returned (.tuple #[NodeV.zero.val, .int .i64 x]) ∧ R w') :
    Calls Tryz.prog 125 #[.pointer p] w fun e w' => e = .returned (.tuple #[.slice none 0 0, .int .i64 x]) ∧ ∃ w1, R w1 ∧ Below w1.heap.size w1 w' := by
  have HN := hide hn
  have hx1 : (x == 0) = false := by rw [beq_eq_false_iff_ne]; exact hx
  clear hn
  go_enter Tryz.func125, Tryz.ntmps125
  go_wp2_with fail
  refine HN.out.mono ?_
  rintro e w1 ⟨rfl, hr⟩
  have HR := hide hr
  clear hr HN
  go_upto_region 2 with (first | ((with_reducible refine at_alloc 130 ?_); refine wpList_alloc_as rfl 130 rfl _ (zero_node _) ?_) | ((with_reducible refine at_store 130 (.tmp 4) (.tmp 14) ?_); refine wpList_store_blk rfl 130 (.tmp 4) (.tmp 14) rfl w1.heap.size _ _ _ (by rfl) (by rfl) (Blk.new _ _ _) (size_nodeOf (n := NodeV.zero) rfl) rfl (NodeV.cells_one _) (fun _ => ?_)) | fail)
  refine at_world (fun W => Below w1.heap.size w1 W) (below_setRow ((Below.refl _ _).alloc (Nat.le_refl _) _) (Nat.le_refl _) _) (fun w2 hb2 => ?_)
  have HB2 := hide hb2
  clear hb2
  go_wp2_with fail
  go_returns
  exact ⟨rfl, w1, HR.out, HB2.out⟩
end
end Go.Proofs.YthmkgohfeahdhaaGreat
namespace Go.Proofs.YthmkgohfeahdhaaGreat
open Go.RowKit
set_option linter.unusedSimpArgs false
set_option linter.unusedVariables false

def InR.isZ (r : InR) : Bool := (r.lab == 0 && r.num == 0) && (r.gen == 0 && r.own == 0)
theorem isZ_iff {r : InR} : r.isZ = true ↔ r = InR.zero := by
  obtain ⟨a, b, c, d⟩ := r
  simp only [InR.isZ, Bool.and_eq_true, beq_iff_eq, InR.zero, InR.mk.injEq]
  constructor
  · rintro ⟨⟨h1, h2⟩, h3, h4⟩; exact ⟨h1, h2, h3, h4⟩
  · rintro ⟨h1, h2, h3, h4⟩; exact ⟨⟨h1, h2⟩, h3, h4⟩
def inoB (o r : InR) : Bool := (r.lab == o.lab && r.num == o.num) && r.gen == o.gen
def hitB (o r : InR) : Bool := !r.isZ && inoB o r
def InR.lits3 (r : InR) : List Lit := [.int .u8 (r.lab.toNat : Int), .int .u16 (r.num.toNat : Int), .int .u16 (r.gen.toNat : Int)]
def InR.lits (r : InR) : List Lit := [.int .u8 (r.lab.toNat : Int), .int .u16 (r.num.toNat : Int), .int .u16 (r.gen.toNat : Int), .int .u16 (r.own.toNat : Int)]
theorem ino_lits (d : Nat) (r : InR) : Tryz.prog.keyLits (d + 3) 152 r.ino = some r.lits3 := by
  have h8 : ∀ (x : UInt8) j, Tryz.prog.keyLits (j + 1) 5 [.int .u8 (x.toNat : Int)] = some [.int .u8 (x.toNat : Int)] := fun x j => by unfold Program.keyLits; rw [Tryz.underlying5]; simp [wf8]
  have h16 : ∀ (x : UInt16) j, Tryz.prog.keyLits (j + 1) 37 [.int .u16 (x.toNat : Int)] = some [.int .u16 (x.toNat : Int)] := fun x j => by unfold Program.keyLits; rw [Tryz.underlying37]; simp [wf16]
  have c1 : Tryz.prog.cellsOf 5 = 1 := by kernel_rfl
  have c3 : Tryz.prog.cellsOf 37 = 1 := by kernel_rfl
  have c6 : Tryz.prog.cellsOf 152 = 3 := by kernel_rfl
  obtain ⟨a, b, c, e⟩ := r
  unfold Program.keyLits
  rw [Tryz.underlying152]
  simp only [InR.ino, InR.lits3]
  simp [c1, c3, c6, h8, h16]
theorem inr_lits (d : Nat) (r : InR) : Tryz.prog.keyLits (d + 4) 244 r.cells = some r.lits := by
  have hi := ino_lits d r
  have h16 : ∀ (x : UInt16) j, Tryz.prog.keyLits (j + 1) 37 [.int .u16 (x.toNat : Int)] = some [.int .u16 (x.toNat : Int)] := fun x j => by unfold Program.keyLits; rw [Tryz.underlying37]; simp [wf16]
  have c3 : Tryz.prog.cellsOf 37 = 1 := by kernel_rfl
  have c5 : Tryz.prog.cellsOf 152 = 3 := by kernel_rfl
  have c6 : Tryz.prog.cellsOf 244 = 4 := by kernel_rfl
  obtain ⟨a, b, c, e⟩ := r
  simp only [InR.ino, InR.lits3] at hi
  unfold Program.keyLits
  rw [Tryz.underlying244]
  simp only [InR.cells, InR.lits]
  simp [c3, c5, c6, h16, hi]
theorem lits3_inj {a b : InR} : a.lits3 = b.lits3 ↔ inoB b a = true := by
  obtain ⟨a1, a2, a3, a4⟩ := a
  obtain ⟨b1, b2, b3, b4⟩ := b
  simp only [InR.lits3, inoB, Bool.and_eq_true, beq_iff_eq, List.cons.injEq, Lit.int.injEq, true_and, and_true]
  constructor
  · rintro ⟨h1, h2, h3⟩
    exact ⟨⟨UInt8.toNat_inj.1 (by omega), UInt16.toNat_inj.1 (by omega)⟩, UInt16.toNat_inj.1 (by omega)⟩
  · rintro ⟨⟨rfl, rfl⟩, rfl⟩; exact ⟨rfl, rfl, rfl⟩
theorem lits_inj {a b : InR} : a.lits = b.lits ↔ a = b := by
  obtain ⟨a1, a2, a3, a4⟩ := a
  obtain ⟨b1, b2, b3, b4⟩ := b
  simp only [InR.lits, List.cons.injEq, Lit.int.injEq, true_and, and_true, InR.mk.injEq]
  constructor
  · rintro ⟨h1, h2, h3, h4⟩
    exact ⟨UInt8.toNat_inj.1 (by omega), UInt16.toNat_inj.1 (by omega), UInt16.toNat_inj.1 (by omega), UInt16.toNat_inj.1 (by omega)⟩
  · rintro ⟨rfl, rfl, rfl, rfl⟩; exact ⟨rfl, rfl, rfl, rfl⟩
theorem inr_eq (w : World) (a b : InR) (q : Bool) (hq : q = true ↔ a = b) : (Op.equalIn 10000 244 (.agg a.cells.toArray) (.agg b.cells.toArray)).run Tryz.prog w = .ok q w := by
  have hf : ∀ n : InR, (Value.agg n.cells.toArray).formed Tryz.prog 244 = true := fun n => by
    unfold Value.formed
    rw [Tryz.underlying244]
    simp only [beq_iff_eq, List.size_toArray]
    kernel_rfl
  obtain ⟨r, h1, h2⟩ := run_equal_lits (P := Tryz.prog) w (m := 4) (D := 4) (by decide) (k := 244) (by kernel_rfl) (hf a) (hf b) (inr_lits 0 a) (inr_lits 0 b)
  rw [lits_inj] at h2
  rw [h1, show r = q from by cases r <;> cases q <;> simp_all]
theorem ino_eq (w : World) (a b : InR) : (Op.equalIn 10000 152 (.agg a.ino.toArray) (.agg b.ino.toArray)).run Tryz.prog w = .ok (inoB b a) w := by
  have hf : ∀ n : InR, (Value.agg n.ino.toArray).formed Tryz.prog 152 = true := fun n => by
    unfold Value.formed
    rw [Tryz.underlying152]
    simp only [beq_iff_eq, List.size_toArray]
    kernel_rfl
  obtain ⟨r, h1, h2⟩ := run_equal_lits (P := Tryz.prog) w (m := 3) (D := 3) (by decide) (k := 152) (by kernel_rfl) (hf a) (hf b) (ino_lits 0 a) (ino_lits 0 b)
  rw [lits3_inj] at h2
  rw [h1, show r = inoB b a from by cases r <;> cases hb : inoB b a <;> simp_all]
theorem size_inoc (r : InR) : (Tryz.prog.info? 152).map (·.size) = some r.ino.toArray.size := by
  have : (Tryz.prog.info? 152).map (·.size) = some 3 := by kernel_rfl
  rw [this]; rfl
theorem flatI_get : ∀ {L : List InR} {k j : Nat} {n : InR}, L[k]? = some n → j < 4 → (flatI L)[k * 4 + j]? = n.cells[j]?
  | [], k, j, n, h, _ => by simp at h
  | a :: r, 0, j, n, h, hj => by
    obtain rfl : a = n := by simpa using h
    unfold flatI
    rw [List.flatMap_cons, Nat.zero_mul, Nat.zero_add, List.getElem?_append_left (by simp [InR.cells]; omega)]
  | a :: r, k + 1, j, n, h, hj => by
    have := flatI_get (L := r) (k := k) (j := j) (n := n) (by simpa using h) hj
    unfold flatI at this ⊢
    rw [List.flatMap_cons, List.getElem?_append_right (by simp [InR.cells]; omega), ← this]
    congr 1
    simp [InR.cells]; omega
theorem inr_range {w : World} {B n co : Nat} {Ao : Option Addr} {L : List InR} (h : w.ownsRow B 244 4 (.slice Ao n co) n (flatI L)) (hn : 0 < n) : ∃ g, Ao = some ⟨g, 0, none⟩ ∧ g < w.heap.size ∧ ∀ (k : Nat) (r : InR), L[k]? = some r → w.rangeAt g (k * 4) r.cells := by
  obtain ⟨g, hA, _, hlt, hc⟩ := own_base h hn
  refine ⟨g, hA, hlt, fun k r hk j v hj => ?_⟩
  have hj2 : j < 4 := by have := (List.getElem?_eq_some_iff.1 hj).1; simpa [InR.cells] using this
  have := flatI_get hk hj2
  exact hc _ _ (this.trans hj)
/-- what inst.open says -/
def InOpens (i : Ids) (s : Sto) (gg : Nat) (g : GeoN) (lab : Int) (G : GS) (l : List InR) : Prop :=
  ∀ W, GAt W i s gg g lab G → Calls Tryz.prog 125 #[.pointer (some ⟨gg, 0, none⟩)] W fun e w' => ∃ A c, e = .returned (.tuple #[.slice A l.length c, .int .i64 0]) ∧ w'.ownsRow W.heap.size 244 4 (.slice A l.length c) l.length (flatI l) ∧ GAt w' i s gg g lab G ∧ Tch W.heap.size i.own W w'
section
variable {w w' : World} {i : Ids} {s : Sto} {gg : Nat} {g : GeoN} {lab : Int} {G : GS}
theorem inopens {l : List InR} {κ : Nat → Nat} (h2 : 2 ≤ g.nodes) (ht : TabN G g l κ) : InOpens i s gg g lab G l := fun W h => inopen_ok h h2 ht
set_option maxRecDepth 100000 in
set_option maxHeartbeats 4000000 in
theorem infind_ok {l : List InR} {o : InR} (h : GAt w i s gg g lab G) (hop : InOpens i s gg g lab G l) (hln : l.length ≤ 2048) :
    Calls Tryz.prog 69 #[.pointer (some ⟨gg, 0, none⟩), .agg o.ino.toArray] w fun e w' => (∃ (K : Nat) (r : InR), l[K]? = some r ∧ hitB o r = true ∧ (∀ j, j < K → ∀ x, l[j]? = some x → hitB o x = false) ∧ e = .returned (.tuple #[.int .i64 (r.own.toNat : Int), .int .i64 0]) ∧ GAt w' i s gg g lab G ∧ Tch w.heap.size i.own w w') ∨
      ((∀ x ∈ l, hitB o x = false) ∧ e = .returned (.tuple #[.int .i64 0, .int .i64 0]) ∧ GAt w' i s gg g lab G ∧ Tch w.heap.size i.own w w') := by
  have H := hide h
  have HOP := hide hop
  have HLN := hide hln
  clear h hop hln
  go_enter Tryz.func69, Tryz.ntmps69
  go_upto_region 1 with (fail)
  refine at_world (fun W => ∃ q, q = w.heap.size ∧ Below w.heap.size w W ∧ Blk W q 152 o.ino.toArray) ⟨_, rfl, (Below.refl _ _).alloc (Nat.le_refl _) _, Blk.new _ _ _⟩ (fun w0 h0 => ?_)
  obtain ⟨q, hq, hb0, hQ0⟩ := h0
  rw [← hq]
  have HA0 := hide (H.out.below hb0)
  have HT0 := hide (Tch.of_below (S := i.own) hb0)
  have HQ0 := hide hQ0
  have HQN := hide (show ¬ i.own q from H.out.tx.other_new (Nat.le_of_eq hq.symm))
  clear hq hb0 hQ0
  go_wp2_with fail
  refine (HOP.out w0 HA0.out).mono ?_
  rintro e w1 ⟨A, c, rfl, hown, ha1, ht1⟩
  obtain ⟨N, hN⟩ : ∃ N, l.length = N := ⟨_, rfl⟩
  have HN := hide hN
  rw [hN] at hown ⊢
  have HO1 := hide hown
  have HA1 := hide ha1
  have HT1 := hide (HT0.out.trans (ht1.mono HT0.out.size fun _ _ h => h))
  have HQ1 := hide (Blk.tch HQ0.out ht1 HQ0.out.lt HQN.out)
  clear hown ha1 ht1 hN HA0 HT0 HQ0
  go_wp2_with fail
  go_loopg [9, 17] N (fun gh x9 x17 wr => ∃ k : Nat, k ≤ N ∧ gh = N - k ∧ x17 = .int .i64 (k : Int) ∧ Hid (GAt wr i s gg g lab G) ∧ Hid (Tch w.heap.size i.own w wr) ∧ Hid (wr.ownsRow w0.heap.size 244 4 (.slice A N c) N (flatI l)) ∧ Hid (Blk wr q 152 o.ino.toArray) ∧ Hid (∀ j, j < k → ∀ x, l[j]? = some x → hitB o x = false))
  case atStart => exact ⟨0, Nat.zero_le _, rfl, rfl, HA1, HT1, HO1, HQ1, hide fun j hj => absurd hj (Nat.not_lt_zero _)⟩
  case round =>
    clear HA1 HT1 HO1 HQ1
    obtain ⟨k, hk, hgh, rfl, HA, HT, HO, HQ, HNO⟩ := hrel
    have HGH := hide hgh
    have hln := HLN.out
    have hnn := HN.out
    clear hgh
    rcases Nat.lt_or_ge k N with hkl | hkl
    · obtain ⟨e, he⟩ : ∃ e, l[k]? = some e := ⟨_, List.getElem?_eq_getElem (by omega)⟩
      obtain ⟨ga, rfl, hga, hrg⟩ := inr_range HO.out (by omega)
      have hrg' := hrg k e he
      have HRG := hide hrg'
      have HE := hide he
      have t1 : decide ((k : Int) < (N : Int)) = true := by simp; omega
      have t1' : (k : Int) < (N : Int) := by omega
      have e64 : IntKind.i64.wrap ((k : Int) + 1) = (k : Int) + 1 := IntWalk.i64_in _ (by omega)
      have hsz : (Tryz.prog.info? 244).map (·.size) = some e.cells.length := size_inr
      have HSZ := hide hsz
      clear hrg hrg' he hsz hln hnn
      go_upto_region 5 with (first | ((with_reducible refine at_load 244 (.tmp 19) ?_); refine wpList_load_mid rfl 244 (.tmp 19) rfl ga (k * 4) (by rfl) e.cells _ HRG.out Tryz.underlying244 rfl HSZ.out ?_) | ((with_reducible refine at_alloc 244 ?_); refine wpList_alloc_as rfl 244 rfl _ (zero_inr' _) ?_) | ((with_reducible refine at_store 244 (.tmp 9) (.tmp 20) ?_); refine wpList_store_blk rfl 244 (.tmp 9) (.tmp 20) rfl wr.heap.size _ _ _ (by rfl) (by rfl) (Blk.new _ _ _) (size_inrc e) rfl (inr_one e) (fun _ => ?_)) | fail)
      refine at_world (fun W => ∃ z, z = wr.heap.size ∧ Below wr.heap.size wr W ∧ Blk W z 244 e.cells.toArray) ⟨_, rfl, below_setRow ((Below.refl _ _).alloc (Nat.le_refl _) _) (Nat.le_refl _) _, (Blk.new _ _ _).setRow_same _⟩ (fun w5 h5 => ?_)
      obtain ⟨z, hz, hb5, hZ5⟩ := h5
      rw [← hz]
      have HA5 := hide (HA.out.below hb5)
      have HT5 := hide (HT.out.trans ((Tch.of_below hb5).mono HT.out.size fun _ _ h => h))
      have HO5 := hide (own_below HO.out hb5)
      have HQ5 := hide (HQ.out.below hb5 HQ.out.lt)
      have HZ5 := hide hZ5
      have z3 : w5.cell? ⟨z, 3, none⟩ = some (.int .u16 (e.own.toNat : Int)) := hZ5.cell 3
      have zl := hZ5.lt
      have HRI := hide (show w5.rangeAt z 0 e.ino from fun j v hj => by
        have hj3 : j < 3 := by have := (List.getElem?_eq_some_iff.1 hj).1; simpa [InR.ino] using this
        have h0 := hZ5.cell j
        rw [Nat.zero_add, h0, List.getElem?_toArray, ← hj]
        have : j = 0 ∨ j = 1 ∨ j = 2 := by omega
        rcases this with rfl | rfl | rfl <;> rfl)
      have HSI := hide (show (Tryz.prog.info? 152).map (·.size) = some e.ino.length from size_inoc e)
      clear hz hb5 hZ5 HA HT HO HQ HRG
      have hzq : ∀ W, (Op.equalIn 10000 244 (.agg e.cells.toArray) (.agg InR.zero.cells.toArray)).run Tryz.prog W = .ok e.isZ W := fun W => inr_eq W e InR.zero e.isZ isZ_iff
      obtain ⟨zb, hzb⟩ : ∃ zb, e.isZ = zb := ⟨_, rfl⟩
      obtain ⟨ib, hib⟩ : ∃ ib, inoB o e = ib := ⟨_, rfl⟩
      have hiq := fun W => ino_eq W e o
      rw [hzb] at hzq
      rw [hib] at hiq
      have HZQ := hide hzq
      have HIQ := hide hiq
      have hht : hitB o e = (!zb && ib) := by unfold hitB; rw [hzb, hib]
      have HHT := hide hht
      clear hzq hiq hzb hib hht
      have hno' : hitB o e = false → ∀ j, j < k + 1 → ∀ x, l[j]? = some x → hitB o x = false := fun h0 j hj x hx => by
        rcases Nat.lt_succ_iff_lt_or_eq.1 hj with h1 | rfl
        · exact HNO.out j h1 x hx
        · rw [HE.out] at hx
          cases hx
          exact h0
      have HNO' := hide hno'
      clear hno'
      cases zb with
      | true =>
        go_wp2_with (first | ((with_reducible refine at_load 244 (.tmp 9) ?_); refine wpList_load_blk rfl 244 (.tmp 9) rfl z _ _ _ (by rfl) HZ5.out Tryz.underlying244 rfl (size_inrc e) ?_) | ((with_reducible refine at_build 244 #[] ?_); refine wpList_zero_as rfl 244 rfl _ (zero_inr _) ?_) | ((with_reducible refine at_binop .neq 244 (.tmp 21) (.tmp 22) 244 ?_); refine wpList_run rfl _ (exec_neq_agg 244 (.tmp 21) (.tmp 22) 244 rfl _ _ rfl rfl (by kernel_rfl) _ (HZQ.out _)) ?_) | fail)
        go_roundg (N - (k + 1))
        case rel => exact ⟨k + 1, by omega, rfl, by first | rfl | go_num, HA5, HT5, HO5, HQ5, hide (HNO'.out HHT.out)⟩
        case measure => have := HGH.out; omega
      | false =>
        cases ib with
        | false =>
          go_wp2_with (first | (refine wpList_take (by kernel_rfl) ?_) | ((with_reducible refine at_load 244 (.tmp 9) ?_); refine wpList_load_blk rfl 244 (.tmp 9) rfl z _ _ _ (by rfl) HZ5.out Tryz.underlying244 rfl (size_inrc e) ?_) | ((with_reducible refine at_build 244 #[] ?_); refine wpList_zero_as rfl 244 rfl _ (zero_inr _) ?_) | ((with_reducible refine at_binop .neq 244 (.tmp 21) (.tmp 22) 244 ?_); refine wpList_run rfl _ (exec_neq_agg 244 (.tmp 21) (.tmp 22) 244 rfl _ _ rfl rfl (by kernel_rfl) _ (HZQ.out _)) ?_) | ((with_reducible refine at_load 152 (.tmp 25) ?_); refine wpList_load_mid rfl 152 (.tmp 25) rfl z 0 (by rfl) e.ino _ HRI.out Tryz.underlying152 rfl HSI.out ?_) | ((with_reducible refine at_load 152 (.tmp 3) ?_); refine wpList_load_blk rfl 152 (.tmp 3) rfl q _ _ _ (by rfl) HQ5.out Tryz.underlying152 rfl (size_inoc o) ?_) | ((with_reducible refine at_binop .eql 152 (.tmp 26) (.tmp 27) 152 ?_); refine wpList_run rfl _ (exec_eql_agg 152 (.tmp 26) (.tmp 27) 152 rfl _ _ rfl rfl (by kernel_rfl) _ (HIQ.out _)) ?_) | fail)
          go_roundg (N - (k + 1))
          case rel => exact ⟨k + 1, by omega, rfl, by first | rfl | go_num, HA5, HT5, HO5, HQ5, hide (HNO'.out HHT.out)⟩
          case measure => have := HGH.out; omega
        | true =>
          have e7 : IntKind.i64.wrap (e.own.toNat : Int) = (e.own.toNat : Int) := IntWalk.i64_in _ (by have := e.own.toNat_lt; omega)
          go_wp2_with (first | (refine wpList_take (by kernel_rfl) ?_) | ((with_reducible refine at_load 244 (.tmp 9) ?_); refine wpList_load_blk rfl 244 (.tmp 9) rfl z _ _ _ (by rfl) HZ5.out Tryz.underlying244 rfl (size_inrc e) ?_) | ((with_reducible refine at_build 244 #[] ?_); refine wpList_zero_as rfl 244 rfl _ (zero_inr _) ?_) | ((with_reducible refine at_binop .neq 244 (.tmp 21) (.tmp 22) 244 ?_); refine wpList_run rfl _ (exec_neq_agg 244 (.tmp 21) (.tmp 22) 244 rfl _ _ rfl rfl (by kernel_rfl) _ (HZQ.out _)) ?_) | ((with_reducible refine at_load 152 (.tmp 25) ?_); refine wpList_load_mid rfl 152 (.tmp 25) rfl z 0 (by rfl) e.ino _ HRI.out Tryz.underlying152 rfl HSI.out ?_) | ((with_reducible refine at_load 152 (.tmp 3) ?_); refine wpList_load_blk rfl 152 (.tmp 3) rfl q _ _ _ (by rfl) HQ5.out Tryz.underlying152 rfl (size_inoc o) ?_) | ((with_reducible refine at_binop .eql 152 (.tmp 26) (.tmp 27) 152 ?_); refine wpList_run rfl _ (exec_eql_agg 152 (.tmp 26) (.tmp 27) 152 rfl _ _ rfl rfl (by kernel_rfl) _ (HIQ.out _)) ?_) | fail)
          go_returns
          exact .inl ⟨k, e, HE.out, HHT.out, HNO.out, rfl, HA5.out, HT5.out⟩
    · have t1 : decide ((k : Int) < (N : Int)) = false := by simp; omega
      have t1' : ¬ (k : Int) < (N : Int) := by omega
      have hno : ∀ x ∈ l, hitB o x = false := fun x hx => by
        obtain ⟨j, hj⟩ := List.getElem?_of_mem hx
        exact HNO.out j (by have := (List.getElem?_eq_some_iff.1 hj).1; omega) x hj
      have HNO' := hide hno
      clear hkl hk hln hnn hno
      go_wp2
      go_returns
      exact .inr ⟨HNO'.out, rfl, HA.out, HT.out⟩
end
end Go.Proofs.YthmkgohfeahdhaaGreat
namespace Go.Proofs.YthmkgohfeahdhaaGreat
open Go.RowKit
set_option linter.unusedSimpArgs false
set_option linter.unusedVariables false

/-- is a node there, one that each label has its own of, of that generation -/
def aliveB (G : GS) (nodes : Nat) (o : InR) : Bool := decide (1 ≤ o.num.toNat ∧ o.num.toNat ≤ nodes ∧ (G.nd o.num.toNat).kind = 3 ∧ (G.nd o.num.toNat).gen = o.gen)
theorem gnode_at (n : NodeV) : n.cells.toArray[2]? = some (.int .u16 (n.gen.toNat : Int)) := rfl
section
variable {w w' : World} {i : Ids} {s : Sto} {B cc : Nat} {R : List RegV} {K : List MarkV} {tb nb lb : Nat} {A1 A2 A3 : Option Addr} {c1 c2 c3 : Nat} {u : GeoN} {G : GS}
theorem ino_arr (o : InR) : o.ino.toArray = #[.int .u8 (o.lab.toNat : Int), .int .u16 (o.num.toNat : Int), .int .u16 (o.gen.toNat : Int)] := rfl
set_option maxRecDepth 100000 in
set_option maxHeartbeats 4000000 in
theorem alive_ok {v : GeoV} {o : InR} (hin : ConfIn B w cc R K tb nb lb A1 A2 A3 c1 c2 c3) (hv : (geosOf 32 R)[o.lab.toNat]? = some v) (hu : geoN v = u) (hval : u.val = .agg v.cells.toArray) (hn : v.nodes = (u.nodes : Int)) (hx : TxAt w i s) (huok : u.Ok s.D.length) (his : s.Is u G) (hgk : G.Ok) :
    Calls Tryz.prog 70 #[.pointer (some ⟨i.tt, 0, none⟩), .pointer (some ⟨cc, 0, none⟩), .agg o.ino.toArray] w fun e w' => e = .returned (.tuple #[.bool (aliveB G u.nodes o), .int .i64 0]) ∧ TxAt w' i s ∧ Tch w.heap.size i.own w w' := by
  rw [ino_arr]
  have hop := fun W (hW : Below w.heap.size w W) => gopen_yes (tt := i.tt) (hin.below hW) hv (by rw [hu]; exact hval)
  rw [hu] at hop
  have hge := fun W (hW : Below w.heap.size w W) => geo_ok (hin.below hW) hv
  rw [hn] at hge
  obtain ⟨lv, hlv⟩ : ∃ lv, o.lab.toNat = lv := ⟨_, rfl⟩
  obtain ⟨nm, hnm⟩ : ∃ nm, o.num.toNat = nm := ⟨_, rfl⟩
  have hnm16 := o.num.toNat_lt
  have hlv8 := o.lab.toNat_lt
  rw [hlv] at hop hge hlv8 ⊢
  rw [hnm] at hnm16 ⊢
  have hal : aliveB G u.nodes o = decide (1 ≤ nm ∧ nm ≤ u.nodes ∧ (G.nd nm).kind = 3 ∧ (G.nd nm).gen = o.gen) := by unfold aliveB; rw [hnm]
  have HX := hide hx
  have HOP := hide hop
  have HGE := hide hge
  have HU := hide (And.intro huok (And.intro his hgk))
  have HAL := hide hal
  have e0 : IntKind.i64.wrap (lv : Int) = (lv : Int) := IntWalk.i64_in _ (by omega)
  have e1 : IntKind.i64.wrap (nm : Int) = (nm : Int) := IntWalk.i64_in _ (by omega)
  clear hin hv hval hx huok his hgk hop hge hlv hnm hal hu hn hlv8 hnm16
  go_enter Tryz.func70, Tryz.ntmps70
  go_upto_region 1 with (fail)
  refine at_world (fun W => ∃ q, q = w.heap.size ∧ Below w.heap.size w W ∧ Blk W q 152 #[.int .u8 (lv : Int), .int .u16 (nm : Int), .int .u16 (o.gen.toNat : Int)]) ⟨_, rfl, (Below.refl _ _).alloc (Nat.le_refl _) _, Blk.new _ _ _⟩ (fun w0 h0 => ?_)
  obtain ⟨q, hq, hb0, hQ0⟩ := h0
  rw [← hq]
  have HB0 := hide hb0
  have HQ0 := hide hQ0
  have HQN := hide (show ¬ i.own q from HX.out.other_new (Nat.le_of_eq hq.symm))
  have q0 := hQ0.cell 0
  have q1 := hQ0.cell 1
  have ql := hQ0.lt
  clear hq hb0 hQ0
  go_wp2_with fail
  refine (HOP.out w0 HB0.out).mono ?_
  rintro e w1 ⟨gg, rfl, -, hG1, hb1⟩
  have HB1 := hide (HB0.out.trans (hb1.mono HB0.out.size))
  have HQ1 := hide (HQ0.out.below hb1 HQ0.out.lt)
  have HA1 : Hid (GAt w1 i s gg u (lv : Int) G) := hide ⟨HX.out.below HB1.out, hG1, HU.out.1, HU.out.2.1, HU.out.2.2⟩
  clear hG1 hb1 q0 q1 ql HB0 HQ0
  have q0 := HQ1.out.cell 0
  have q1 := HQ1.out.cell 1
  have ql := HQ1.out.lt
  go_wp2_with fail
  refine (HGE.out w1 HB1.out).mono ?_
  rintro e w2 ⟨rfl, hb2⟩
  have HB2 := hide (HB1.out.trans (hb2.mono HB1.out.size))
  have HQ2 := hide (HQ1.out.below hb2 HQ1.out.lt)
  have HA2 := hide (HA1.out.below hb2)
  clear hb2 q0 q1 ql HB1 HQ1 HA1
  go_upto_region 5 with (fail)
  refine at_world (fun W => ∃ z, z = w2.heap.size ∧ Below w2.heap.size w2 W ∧ W.cell? ⟨z, 5, none⟩ = some (.int .i64 (u.nodes : Int)) ∧ z < W.heap.size) ⟨_, rfl, (Below.refl _ _).alloc (Nat.le_refl _) _, (Blk.new w2 _ _).cell 5, by simp⟩ (fun w3 h3 => ?_)
  obtain ⟨z, hz, hb3, z5, zl⟩ := h3
  rw [← hz]
  have HB3 := hide (HB2.out.trans (hb3.mono HB2.out.size))
  have HQ3 := hide (HQ2.out.below hb3 HQ2.out.lt)
  have HA3 := hide (HA2.out.below hb3)
  have q1 := HQ3.out.cell 1
  have ql := HQ3.out.lt
  clear hz hb3 HB2 HQ2 HA2
  by_cases h1 : nm < 1
  · have t1 : decide ((nm : Int) < 1) = true := by simp; omega
    have t1' : (nm : Int) < 1 := by omega
    have HR := hide (show decide (1 ≤ nm ∧ nm ≤ u.nodes ∧ (G.nd nm).kind = 3 ∧ (G.nd nm).gen = o.gen) = false from decide_eq_false (by omega))
    clear h1
    go_wp2
    go_returns
    exact ⟨by rw [HAL.out, HR.out]; rfl, HA3.out.tx, Tch.of_below HB3.out⟩
  have t1 : decide ((nm : Int) < 1) = false := by simp; omega
  have t1' : ¬ (nm : Int) < 1 := by omega
  by_cases h2 : u.nodes < nm
  · have t2 : decide ((u.nodes : Int) < (nm : Int)) = true := by simp; omega
    have t2' : (u.nodes : Int) < (nm : Int) := by omega
    have HR := hide (show decide (1 ≤ nm ∧ nm ≤ u.nodes ∧ (G.nd nm).kind = 3 ∧ (G.nd nm).gen = o.gen) = false from decide_eq_false (by omega))
    clear h1 h2
    go_wp2
    go_returns
    exact ⟨by rw [HAL.out, HR.out]; rfl, HA3.out.tx, Tch.of_below HB3.out⟩
  have t2 : decide ((u.nodes : Int) < (nm : Int)) = false := by simp; omega
  have t2' : ¬ (u.nodes : Int) < (nm : Int) := by omega
  have hdir := HA3.out.gok.dir nm
  have hnd := fun W (hW : GAt W i s gg u (lv : Int) G) => gs_node' (num := nm) hW (by omega) (by omega)
  have HR1 := hide (show decide (1 ≤ nm ∧ nm ≤ u.nodes ∧ (G.nd nm).kind = 3 ∧ (G.nd nm).gen = o.gen) = decide ((G.nd nm).kind = 3 ∧ (G.nd nm).gen = o.gen) from by
    have q1 : 1 ≤ nm := by omega
    have q2 : nm ≤ u.nodes := by omega
    simp [q1, q2])
  obtain ⟨n0, hn0⟩ : ∃ n0, G.nd nm = n0 := ⟨_, rfl⟩
  rw [hn0] at hnd hdir HR1 HAL
  have HND := hide hnd
  have HD := hide hdir
  clear h1 h2 hnd hdir hn0
  go_wp2_with fail
  refine (HND.out w3 HA3.out).mono ?_
  rintro e w4 ⟨rfl, ha4, ht4⟩
  have HA4 := hide ha4
  have HT4 := hide ((Tch.of_below (S := i.own) HB3.out).trans (ht4.mono HB3.out.size fun _ _ h => h))
  have HQ4 := hide (HQ3.out.tch ht4 HQ3.out.lt HQN.out)
  clear ha4 ht4 HND HA3 q1 ql z5 zl HB3 HQ3
  go_upto_region 8 with (first | ((with_reducible refine at_alloc 130 ?_); refine wpList_alloc_as rfl 130 rfl _ (zero_node _) ?_) | ((with_reducible refine at_store 130 (.tmp 12) (.tmp 50) ?_); refine wpList_store_blk rfl 130 (.tmp 12) (.tmp 50) rfl w4.heap.size _ _ _ (by rfl) (by rfl) (Blk.new _ _ _) (size_nodeOf HD.out) (by rw [List.size_toArray, List.size_toArray, NodeV.cells_length HD.out]; rfl) (NodeV.cells_one _) (fun _ => ?_)) | fail)
  refine at_world (fun W => ∃ y, y = w4.heap.size ∧ Below w4.heap.size w4 W ∧ Blk W y 130 n0.cells.toArray) ⟨_, rfl, below_setRow ((Below.refl _ _).alloc (Nat.le_refl _) _) (Nat.le_refl _) _, (Blk.new _ _ _).setRow_same _⟩ (fun w5 h5 => ?_)
  obtain ⟨y, hy, hb5, hY5⟩ := h5
  rw [← hy]
  have HA5 := hide (HA4.out.below hb5)
  have HT5 := hide (HT4.out.trans ((Tch.of_below hb5).mono HT4.out.size fun _ _ h => h))
  have hq5 := HQ4.out.below hb5 HQ4.out.lt
  have q2 := hq5.cell 2
  have ql := hq5.lt
  have y0 := (hY5.cell 0).trans (node_cells_at n0).1
  have y2 := (hY5.cell 2).trans (gnode_at n0)
  have yl := hY5.lt
  clear hy hb5 hY5 hq5 HA4 HT4 HQ4
  by_cases hk : n0.kind = 3
  · have k1 : ((n0.kind.toNat : Int) == 3) = true := by rw [hk]; rfl
    by_cases hg : n0.gen = o.gen
    · have g1 : ((n0.gen.toNat : Int) == (o.gen.toNat : Int)) = true := by rw [hg]; simp
      have HR := hide (show decide (n0.kind = 3 ∧ n0.gen = o.gen) = true from decide_eq_true ⟨hk, hg⟩)
      clear hk hg
      go_wp2
      go_returns
      exact ⟨by rw [HAL.out, HR1.out, HR.out]; rfl, HA5.out.tx, HT5.out⟩
    · have g1 : ((n0.gen.toNat : Int) == (o.gen.toNat : Int)) = false := by rw [beq_eq_false_iff_ne]; exact fun e => hg (UInt16.toNat_inj.1 (by omega))
      have HR := hide (show decide (n0.kind = 3 ∧ n0.gen = o.gen) = false from decide_eq_false fun h => hg h.2)
      clear hk hg
      go_wp2
      go_returns
      exact ⟨by rw [HAL.out, HR1.out, HR.out]; rfl, HA5.out.tx, HT5.out⟩
  · have k1 : ((n0.kind.toNat : Int) == 3) = false := by rw [beq_eq_false_iff_ne]; exact fun e => hk (UInt8.toNat_inj.1 (by show _ = 3; omega))
    have HR := hide (show decide (n0.kind = 3 ∧ n0.gen = o.gen) = false from decide_eq_false fun h => hk h.1)
    clear hk
    go_wp2
    go_returns
    exact ⟨by rw [HAL.out, HR1.out, HR.out]; rfl, HA5.out.tx, HT5.out⟩
/-- open says no -/
theorem alive_bad {t p : Option Addr} {x : Int} {o : InR} (hx : x ≠ 0) (ho : ∀ W, Below w.heap.size w W → Calls Tryz.prog 21 #[.pointer t, .pointer p, .int .i64 (o.lab.toNat : Int)] W fun e w' => e = .returned (.tuple #[.pointer none, .int .i64 x]) ∧ Below W.heap.size W w') :
    Calls Tryz.prog 70 #[.pointer t, .pointer p, .agg o.ino.toArray] w fun e w' => e = .returned (.tuple #[.bool false, .int .i64 x]) ∧ Below w.heap.size w w' := by
  rw [ino_arr]
  obtain ⟨lv, hlv⟩ : ∃ lv, o.lab.toNat = lv := ⟨_, rfl⟩
  have hlv8 := o.lab.toNat_lt
  rw [hlv] at ho hlv8 ⊢
  have HO := hide ho
  have e0 : IntKind.i64.wrap (lv : Int) = (lv : Int) := IntWalk.i64_in _ (by omega)
  have hx1 : (x == 0) = false := by rw [beq_eq_false_iff_ne]; exact hx
  clear ho hlv hlv8
  go_enter Tryz.func70, Tryz.ntmps70
  go_upto_region 1 with (fail)
  refine at_world (fun W => ∃ q, q = w.heap.size ∧ Below w.heap.size w W ∧ Blk W q 152 #[.int .u8 (lv : Int), .int .u16 (o.num.toNat : Int), .int .u16 (o.gen.toNat : Int)]) ⟨_, rfl, (Below.refl _ _).alloc (Nat.le_refl _) _, Blk.new _ _ _⟩ (fun w0 h0 => ?_)
  obtain ⟨q, hq, hb0, hQ0⟩ := h0
  rw [← hq]
  have HB0 := hide hb0
  have q0 := hQ0.cell 0
  have ql := hQ0.lt
  clear hq hb0 hQ0
  go_wp2_with fail
  refine (HO.out w0 HB0.out).mono ?_
  rintro e w1 ⟨rfl, hb1⟩
  have HB1 := hide (HB0.out.trans (hb1.mono HB0.out.size))
  clear hb1 q0 ql
  go_wp2_with fail
  go_returns
  exact ⟨rfl, HB1.out⟩
end
end Go.Proofs.YthmkgohfeahdhaaGreat
namespace Go.Proofs.YthmkgohfeahdhaaGreat
open Go.RowKit
set_option linter.unusedSimpArgs false
set_option linter.unusedVariables false

section
variable {w w' : World} {i : Ids} {s : Sto} {gg : Nat} {g : GeoN} {lab : Int} {G : GS}
set_option maxRecDepth 100000 in
set_option maxHeartbeats 4000000 in
theorem inreap_none {t p : Option Addr} {l : List InR} (h : GAt w i s gg g lab G) (hop : InOpens i s gg g lab G l) (hln : l.length ≤ 2048)
    (hal : ∀ r ∈ l, r.isZ = false → ∀ W, GAt W i s gg g lab G → Calls Tryz.prog 70 #[.pointer t, .pointer p, .agg r.ino.toArray] W fun e w' => e = .returned (.tuple #[.bool true, .int .i64 0]) ∧ GAt w' i s gg g lab G ∧ Tch W.heap.size i.own W w') :
    Calls Tryz.prog 71 #[.pointer t, .pointer p, .pointer (some ⟨gg, 0, none⟩)] w fun e w' => e = .returned (.tuple #[.int .i64 0, .int .i64 0]) ∧ GAt w' i s gg g lab G ∧ Tch w.heap.size i.own w w' := by
  have H := hide h
  have HOP := hide hop
  have HLN := hide hln
  have HAL := hide hal
  clear h hop hln hal
  go_enter Tryz.func71, Tryz.ntmps71
  go_wp2_with fail
  refine (HOP.out w H.out).mono ?_
  rintro e w1 ⟨A, c, rfl, hown, ha1, ht1⟩
  obtain ⟨N, hN⟩ : ∃ N, l.length = N := ⟨_, rfl⟩
  have HN := hide hN
  rw [hN] at hown ⊢
  have HO1 := hide hown
  have HA1 := hide ha1
  have HT1 := hide ht1
  clear hown ha1 ht1 hN
  go_wp2_with fail
  go_loopg [10, 11, 12, 13, 14, 15, 16, 27] N (fun gh x10 x11 x12 x13 x14 x15 x16 x27 wr => ∃ k : Nat, k ≤ N ∧ gh = N - k ∧ x10 = .int .i64 0 ∧ x27 = .int .i64 (k : Int) ∧ Hid (GAt wr i s gg g lab G) ∧ Hid (Tch w.heap.size i.own w wr) ∧ Hid (wr.ownsRow w.heap.size 244 4 (.slice A N c) N (flatI l)) ∧ Hid (∀ b, (Value.slice A N c).ownBlock = some b → ¬ i.own b))
  case atStart => exact ⟨0, Nat.zero_le _, rfl, rfl, rfl, HA1, HT1, HO1, hide fun b hb ho => H.out.tx.other_new (own_block_ge HO1.out hb).1 ho⟩
  case round =>
    clear HA1 HT1 HO1
    obtain ⟨k, hk, hgh, rfl, rfl, HA, HT, HO, HON⟩ := hrel
    have HGH := hide hgh
    have hln := HLN.out
    have hnn := HN.out
    clear hgh
    rcases Nat.lt_or_ge k N with hkl | hkl
    · obtain ⟨e, he⟩ : ∃ e, l[k]? = some e := ⟨_, List.getElem?_eq_getElem (by omega)⟩
      obtain ⟨ga, rfl, hga, hrg⟩ := inr_range HO.out (by omega)
      have hrg' := hrg k e he
      have HRG := hide hrg'
      have HE := hide he
      have t1 : decide ((k : Int) < (N : Int)) = true := by simp; omega
      have t1' : (k : Int) < (N : Int) := by omega
      have e64 : IntKind.i64.wrap ((k : Int) + 1) = (k : Int) + 1 := IntWalk.i64_in _ (by omega)
      have hsz : (Tryz.prog.info? 244).map (·.size) = some e.cells.length := size_inr
      have HSZ := hide hsz
      clear hrg hrg' he hsz hln hnn
      go_upto_region 8 with (first | ((with_reducible refine at_load 244 (.tmp 30) ?_); refine wpList_load_mid rfl 244 (.tmp 30) rfl ga (k * 4) (by rfl) e.cells _ HRG.out Tryz.underlying244 rfl HSZ.out ?_) | ((with_reducible refine at_alloc 244 ?_); refine wpList_alloc_as rfl 244 rfl _ (zero_inr' _) ?_) | ((with_reducible refine at_store 244 (.tmp 12) (.tmp 31) ?_); refine wpList_store_blk rfl 244 (.tmp 12) (.tmp 31) rfl wr.heap.size _ _ _ (by rfl) (by rfl) (Blk.new _ _ _) (size_inrc e) rfl (inr_one e) (fun _ => ?_)) | fail)
      refine at_world (fun W => ∃ z, z = wr.heap.size ∧ Below wr.heap.size wr W ∧ Blk W z 244 e.cells.toArray) ⟨_, rfl, below_setRow ((Below.refl _ _).alloc (Nat.le_refl _) _) (Nat.le_refl _) _, (Blk.new _ _ _).setRow_same _⟩ (fun w5 h5 => ?_)
      obtain ⟨z, hz, hb5, hZ5⟩ := h5
      rw [← hz]
      have HA5 := hide (HA.out.below hb5)
      have HT5 := hide (HT.out.trans ((Tch.of_below hb5).mono HT.out.size fun _ _ h => h))
      have HO5 := hide (own_below HO.out hb5)
      have HZ5 := hide hZ5
      have zl := hZ5.lt
      have HRI := hide (show w5.rangeAt z 0 e.ino from fun j v hj => by
        have hj3 : j < 3 := by have := (List.getElem?_eq_some_iff.1 hj).1; simpa [InR.ino] using this
        have h0 := hZ5.cell j
        rw [Nat.zero_add, h0, List.getElem?_toArray, ← hj]
        have : j = 0 ∨ j = 1 ∨ j = 2 := by omega
        rcases this with rfl | rfl | rfl <;> rfl)
      have HSI := hide (show (Tryz.prog.info? 152).map (·.size) = some e.ino.length from size_inoc e)
      have hzq : ∀ W, (Op.equalIn 10000 244 (.agg e.cells.toArray) (.agg InR.zero.cells.toArray)).run Tryz.prog W = .ok e.isZ W := fun W => inr_eq W e InR.zero e.isZ isZ_iff
      clear hz hb5 hZ5 HA HT HO HRG
      obtain ⟨zb, hzb⟩ : ∃ zb, e.isZ = zb := ⟨_, rfl⟩
      rw [hzb] at hzq
      have HZQ := hide hzq
      have HZB := hide hzb
      clear hzq hzb
      cases zb with
      | true =>
        go_wp2_with (first | ((with_reducible refine at_load 244 (.tmp 12) ?_); refine wpList_load_blk rfl 244 (.tmp 12) rfl z _ _ _ (by rfl) HZ5.out Tryz.underlying244 rfl (size_inrc e) ?_) | ((with_reducible refine at_build 244 #[] ?_); refine wpList_zero_as rfl 244 rfl _ (zero_inr _) ?_) | ((with_reducible refine at_binop .eql 244 (.tmp 32) (.tmp 33) 244 ?_); refine wpList_run rfl _ (exec_eql_agg 244 (.tmp 32) (.tmp 33) 244 rfl _ _ rfl rfl (by kernel_rfl) _ (HZQ.out _)) ?_) | fail)
        go_roundg (N - (k + 1))
        case rel => exact ⟨k + 1, by omega, rfl, rfl, by first | rfl | go_num, HA5, HT5, HO5, HON⟩
        case measure => have := HGH.out; omega
      | false =>
        have hcall := HAL.out e (List.mem_of_getElem? HE.out) HZB.out w5 HA5.out
        have HCALL := hide hcall
        clear hcall
        go_wp2_with (first | ((with_reducible refine at_load 244 (.tmp 12) ?_); refine wpList_load_blk rfl 244 (.tmp 12) rfl z _ _ _ (by rfl) HZ5.out Tryz.underlying244 rfl (size_inrc e) ?_) | ((with_reducible refine at_build 244 #[] ?_); refine wpList_zero_as rfl 244 rfl _ (zero_inr _) ?_) | ((with_reducible refine at_binop .eql 244 (.tmp 32) (.tmp 33) 244 ?_); refine wpList_run rfl _ (exec_eql_agg 244 (.tmp 32) (.tmp 33) 244 rfl _ _ rfl rfl (by kernel_rfl) _ (HZQ.out _)) ?_) | ((with_reducible refine at_load 152 (.tmp 42) ?_); refine wpList_load_mid rfl 152 (.tmp 42) rfl z 0 (by rfl) e.ino _ HRI.out Tryz.underlying152 rfl HSI.out ?_) | fail)
        refine HCALL.out.mono ?_
        rintro e_ w6 ⟨rfl, ha6, ht6⟩
        have HA6 := hide ha6
        have HT6 := hide (HT5.out.trans (ht6.mono HT5.out.size fun _ _ h => h))
        have HO6 := hide (own_keep HO5.out fun b hb => ht6.block b (own_block_ge HO5.out hb).2 (HON.out b hb))
        clear ha6 ht6 HCALL HA5 HT5 HO5 zl HZ5 HRI
        go_wp2_with fail
        go_roundg (N - (k + 1))
        case rel => exact ⟨k + 1, by omega, rfl, rfl, by first | rfl | go_num, HA6, HT6, HO6, HON⟩
        case measure => have := HGH.out; omega
    · have t1 : decide ((k : Int) < (N : Int)) = false := by simp; omega
      have t1' : ¬ (k : Int) < (N : Int) := by omega
      clear hkl hk hln hnn
      go_wp2
      go_returns
      exact ⟨rfl, HA.out, HT.out⟩
/-- where a record comes: the first empty place, or behind all -/
def zAt (l : List InR) : Nat := l.findIdx InR.isZ
theorem zAt_eq {l : List InR} {j : Nat} (h0 : ∀ i, i < j → ∀ e, l[i]? = some e → e.isZ = false) (h1 : j = l.length ∨ ∃ e, l[j]? = some e ∧ e.isZ = true) : zAt l = j := by
  unfold zAt
  rcases h1 with rfl | ⟨e, he, hz⟩
  · rw [List.findIdx_eq_length]
    intro x hx
    obtain ⟨k, hk, rfl⟩ := List.mem_iff_getElem.1 hx
    exact h0 k hk _ (List.getElem?_eq_getElem hk)
  · obtain ⟨hj, rfl⟩ := List.getElem?_eq_some_iff.1 he
    rw [List.findIdx_eq hj]
    exact ⟨hz, fun i hi => h0 i hi _ (List.getElem?_eq_getElem (by omega))⟩
set_option maxRecDepth 100000 in
set_option maxHeartbeats 6000000 in
theorem inneed_main {t p : Option Addr} {l : List InR} {o : InR} {num : Nat} {ow : UInt16} {P : Sto → Prop} {G1 : GS} {R : Int → World → Prop} (h : GAt w i s gg g lab G) (hop : InOpens i s gg g lab G l) (hln : l.length ≤ 2048) (hno : ∀ x ∈ l, hitB o x = false) (how : ow.toNat = num)
    (hre : ∀ W, GAt W i s gg g lab G → Calls Tryz.prog 71 #[.pointer t, .pointer p, .pointer (some ⟨gg, 0, none⟩)] W fun e w' => e = .returned (.tuple #[.int .i64 0, .int .i64 0]) ∧ GAt w' i s gg g lab G ∧ Tch W.heap.size i.own W w')
    (hmk : ∀ W, GAt W i s gg g lab G → Calls Tryz.prog 39 #[.pointer (some ⟨gg, 0, none⟩), .int .u8 2] W fun e w' => e = .returned (.tuple #[.int .i64 (num : Int), .int .i64 0]) ∧ ∃ s1, P s1 ∧ GAt w' i s1 gg g lab G1 ∧ Tch W.heap.size i.own W w')
    (hop1 : ∀ s1, P s1 → InOpens i s1 gg g lab G1 l)
    (hw : ∀ s1, P s1 → ∀ W z, GAt W i s1 gg g lab G1 → Tch w.heap.size i.own w W → w.heap.size ≤ z → Blk W z 245 (bvs (recP ⟨o.lab, o.num, o.gen, ow⟩)).toArray →
      Calls Tryz.prog 33 #[.pointer (some ⟨gg, 0, none⟩), .int .i64 2, .int .i64 ((8 * zAt l : Nat) : Int), .slice (some ⟨z, 0, none⟩) 8 8] W fun e w' => ∃ x, e = .returned (.int .i64 x) ∧ R x w') :
    Calls Tryz.prog 72 #[.pointer t, .pointer p, .pointer (some ⟨gg, 0, none⟩), .agg o.ino.toArray] w fun e w' => ∃ x, e = .returned (.tuple #[.int .i64 (num : Int), .int .i64 x]) ∧ R x w' := by
  have H := hide h
  have HOP := hide hop
  have HLN := hide hln
  have HNH := hide hno
  have HRE := hide hre
  have HMK := hide hmk
  have HOP1 := hide hop1
  have HW := hide hw
  have e5 : IntKind.u16.wrap (num : Int) = (ow.toNat : Int) := by rw [IntKind.wrap_u16, ← how]; have := ow.toNat_lt; omega
  clear h hop hln hno hre hmk hop1 hw how
  go_enter Tryz.func72, Tryz.ntmps72
  go_upto_region 1 with (fail)
  refine at_world (fun W => ∃ q, q = w.heap.size ∧ Below w.heap.size w W ∧ Blk W q 152 o.ino.toArray) ⟨_, rfl, (Below.refl _ _).alloc (Nat.le_refl _) _, Blk.new _ _ _⟩ (fun w0 h0 => ?_)
  obtain ⟨q, hq, hb0, hQ0⟩ := h0
  rw [← hq]
  have HA0 := hide (H.out.below hb0)
  have HT0 := hide (Tch.of_below (S := i.own) hb0)
  have HQ0 := hide hQ0
  have HQN := hide (show ¬ i.own q from H.out.tx.other_new (Nat.le_of_eq hq.symm))
  clear hq hb0 hQ0
  go_wp2_with (first | ((with_reducible refine at_load 152 (.tmp 7) ?_); refine wpList_load_blk rfl 152 (.tmp 7) rfl q _ _ _ (by rfl) HQ0.out Tryz.underlying152 rfl (size_inoc o) ?_) | fail)
  refine (infind_ok HA0.out HOP.out HLN.out).mono ?_
  rintro e w1 (⟨K, r, hK, hh, -⟩ | ⟨-, rfl, ha1, ht1⟩)
  · rw [HNH.out r (List.mem_of_getElem? hK)] at hh
    cases hh
  have HA1 := hide ha1
  have HT1 := hide (HT0.out.trans (ht1.mono HT0.out.size fun _ _ h => h))
  have HQ1 := hide (Blk.tch HQ0.out ht1 HQ0.out.lt HQN.out)
  clear ha1 ht1 HA0 HT0 HQ0
  go_wp2_with fail
  refine (HRE.out w1 HA1.out).mono ?_
  rintro e w2 ⟨rfl, ha2, ht2⟩
  have HA2 := hide ha2
  have HT2 := hide (HT1.out.trans (ht2.mono HT1.out.size fun _ _ h => h))
  have HQ2 := hide (Blk.tch HQ1.out ht2 HQ1.out.lt HQN.out)
  clear ha2 ht2 HA1 HT1 HQ1
  go_wp2_with fail
  refine (HMK.out w2 HA2.out).mono ?_
  rintro e w3 ⟨rfl, s1, hp1, ha3, ht3⟩
  have HP1 := hide hp1
  clear hp1
  have HA3 := hide ha3
  have HT3 := hide (HT2.out.trans (ht3.mono HT2.out.size fun _ _ h => h))
  have HQ3 := hide (Blk.tch HQ2.out ht3 HQ2.out.lt HQN.out)
  clear ha3 ht3 HA2 HT2 HQ2
  go_wp2_with fail
  refine (HOP1.out s1 HP1.out w3 HA3.out).mono ?_
  rintro e w4 ⟨A, c, rfl, hown, ha4, ht4⟩
  obtain ⟨N, hN⟩ : ∃ N, l.length = N := ⟨_, rfl⟩
  have HN := hide hN
  rw [hN] at hown ⊢
  have HO4 := hide hown
  have HA4 := hide ha4
  have HT4 := hide (HT3.out.trans (ht4.mono HT3.out.size fun _ _ h => h))
  have HQ4 := hide (Blk.tch HQ3.out ht4 HQ3.out.lt HQN.out)
  clear hown ha4 ht4 hN HA3 HT3 HQ3
  go_wp2_with fail
  go_loopg [15, 16, 17, 63] N (fun gh x15 x16 x17 x63 wr => ∃ k : Nat, k ≤ N ∧ gh = N - k ∧ x63 = .int .i64 (k : Int) ∧ x15 = .int .i64 (N : Int) ∧ Hid (GAt wr i s1 gg g lab G1) ∧ Hid (Tch w.heap.size i.own w wr) ∧ Hid (wr.ownsRow w3.heap.size 244 4 (.slice A N c) N (flatI l)) ∧ Hid (Blk wr q 152 o.ino.toArray) ∧ Hid (∀ j, j < k → ∀ x, l[j]? = some x → x.isZ = false))
  case atStart => exact ⟨0, Nat.zero_le _, rfl, rfl, rfl, HA4, HT4, HO4, HQ4, hide fun j hj => absurd hj (Nat.not_lt_zero _)⟩
  case round =>
    clear HA4 HT4 HO4 HQ4
    obtain ⟨k, hk, hgh, rfl, rfl, HA, HT, HO, HQ, HZN⟩ := hrel
    have HGH := hide hgh
    have hln := HLN.out
    have hnn := HN.out
    clear hgh
    rcases Nat.lt_or_ge k N with hkl | hkl
    · obtain ⟨e, he⟩ : ∃ e, l[k]? = some e := ⟨_, List.getElem?_eq_getElem (by omega)⟩
      obtain ⟨ga, rfl, hga, hrg⟩ := inr_range HO.out (by omega)
      have hrg' := hrg k e he
      have HRG := hide hrg'
      have HE := hide he
      have t1 : decide ((k : Int) < (N : Int)) = true := by simp; omega
      have t1' : (k : Int) < (N : Int) := by omega
      have e64 : IntKind.i64.wrap ((k : Int) + 1) = (k : Int) + 1 := IntWalk.i64_in _ (by omega)
      have hsz : (Tryz.prog.info? 244).map (·.size) = some e.cells.length := size_inr
      have HSZ := hide hsz
      clear hrg hrg' he hsz 
      go_upto_region 17 with (first | ((with_reducible refine at_load 244 (.tmp 66) ?_); refine wpList_load_mid rfl 244 (.tmp 66) rfl ga (k * 4) (by rfl) e.cells _ HRG.out Tryz.underlying244 rfl HSZ.out ?_) | ((with_reducible refine at_alloc 244 ?_); refine wpList_alloc_as rfl 244 rfl _ (zero_inr' _) ?_) | ((with_reducible refine at_store 244 (.tmp 17) (.tmp 67) ?_); refine wpList_store_blk rfl 244 (.tmp 17) (.tmp 67) rfl wr.heap.size _ _ _ (by rfl) (by rfl) (Blk.new _ _ _) (size_inrc e) rfl (inr_one e) (fun _ => ?_)) | fail)
      refine at_world (fun W => ∃ z, z = wr.heap.size ∧ Below wr.heap.size wr W ∧ Blk W z 244 e.cells.toArray) ⟨_, rfl, below_setRow ((Below.refl _ _).alloc (Nat.le_refl _) _) (Nat.le_refl _) _, (Blk.new _ _ _).setRow_same _⟩ (fun w5 h5 => ?_)
      obtain ⟨z, hz, hb5, hZ5⟩ := h5
      rw [← hz]
      have HA5 := hide (HA.out.below hb5)
      have HT5 := hide (HT.out.trans ((Tch.of_below hb5).mono HT.out.size fun _ _ h => h))
      have HO5 := hide (own_below HO.out hb5)
      have HQ5 := hide (HQ.out.below hb5 HQ.out.lt)
      have HZ5 := hide hZ5
      have zl := hZ5.lt
      have HRI := hide (show w5.rangeAt z 0 e.ino from fun j v hj => by
        have hj3 : j < 3 := by have := (List.getElem?_eq_some_iff.1 hj).1; simpa [InR.ino] using this
        have h0 := hZ5.cell j
        rw [Nat.zero_add, h0, List.getElem?_toArray, ← hj]
        have : j = 0 ∨ j = 1 ∨ j = 2 := by omega
        rcases this with rfl | rfl | rfl <;> rfl)
      have HSI := hide (show (Tryz.prog.info? 152).map (·.size) = some e.ino.length from size_inoc e)
      have hzq : ∀ W, (Op.equalIn 10000 244 (.agg e.cells.toArray) (.agg InR.zero.cells.toArray)).run Tryz.prog W = .ok e.isZ W := fun W => inr_eq W e InR.zero e.isZ isZ_iff
      clear hz hb5 hZ5 HA HT HO HQ HRG
      obtain ⟨zb, hzb⟩ : ∃ zb, e.isZ = zb := ⟨_, rfl⟩
      rw [hzb] at hzq
      have HZQ := hide hzq
      have HZB := hide hzb
      clear hzq hzb
      cases zb with
      | false =>
        have hzn : ∀ j, j < k + 1 → ∀ x, l[j]? = some x → x.isZ = false := fun j hj x hx => by
          rcases Nat.lt_succ_iff_lt_or_eq.1 hj with h1 | rfl
          · exact HZN.out j h1 x hx
          · rw [HE.out] at hx
            cases hx
            exact HZB.out
        have HZN' := hide hzn
        clear hzn hln hnn
        go_wp2_with (first | ((with_reducible refine at_load 244 (.tmp 17) ?_); refine wpList_load_blk rfl 244 (.tmp 17) rfl z _ _ _ (by rfl) HZ5.out Tryz.underlying244 rfl (size_inrc e) ?_) | ((with_reducible refine at_build 244 #[] ?_); refine wpList_zero_as rfl 244 rfl _ (zero_inr _) ?_) | ((with_reducible refine at_binop .eql 244 (.tmp 68) (.tmp 69) 244 ?_); refine wpList_run rfl _ (exec_eql_agg 244 (.tmp 68) (.tmp 69) 244 rfl _ _ rfl rfl (by kernel_rfl) _ (HZQ.out _)) ?_) | fail)
        go_roundg (N - (k + 1))
        case rel => exact ⟨k + 1, by omega, rfl, by first | rfl | go_num, rfl, HA5, HT5, HO5, HQ5, HZN'⟩
        case measure => have := HGH.out; omega
      | true =>
        have hat : zAt l = k := zAt_eq HZN.out (.inr ⟨e, HE.out, HZB.out⟩)
        obtain ⟨y, hy⟩ : ∃ y : Nat, 8 * k = y := ⟨_, rfl⟩
        have e16 : IntKind.i64.wrap ((k : Int) * 8) = (y : Int) := by rw [IntWalk.i64_in _ (by omega)]; omega
        have HY := hide hy
        have HAT := hide hat
        clear hat hy hln hnn hk hkl
        go_wp2_with (first | ((with_reducible refine at_load 244 (.tmp 17) ?_); refine wpList_load_blk rfl 244 (.tmp 17) rfl z _ _ _ (by rfl) HZ5.out Tryz.underlying244 rfl (size_inrc e) ?_) | ((with_reducible refine at_build 244 #[] ?_); refine wpList_zero_as rfl 244 rfl _ (zero_inr _) ?_) | ((with_reducible refine at_binop .eql 244 (.tmp 68) (.tmp 69) 244 ?_); refine wpList_run rfl _ (exec_eql_agg 244 (.tmp 68) (.tmp 69) 244 rfl _ _ rfl rfl (by kernel_rfl) _ (HZQ.out _)) ?_) | ((with_reducible refine at_load 152 (.tmp 7) ?_); refine wpList_load_blk rfl 152 (.tmp 7) rfl q _ _ _ (by rfl) HQ5.out Tryz.underlying152 rfl (size_inoc o) ?_) | ((with_reducible refine at_build 244 #[(0, .tmp 73), (1, .tmp 75)] ?_); refine wpList_run rfl _ (exec_build 244 #[(0, .tmp 73), (1, .tmp 75)] rfl #[(0, .agg o.ino.toArray), (1, .int .u16 (ow.toNat : Int))] (by simp only [List.map_toArray, List.map_cons, List.map_nil]; rfl) _ (build_inr _ _ _ _ _)) ?_) | fail)
        refine (inpack_ok ⟨o.lab, o.num, o.gen, ow⟩ _).mono ?_
        rintro _ w6 ⟨rfl, hb6⟩
        have HA6 := hide (HA5.out.below hb6)
        have HT6 := hide (HT5.out.trans ((Tch.of_below hb6).mono HT5.out.size fun _ _ h => h))
        have HPS := hide (size_rec8 (recP ⟨o.lab, o.num, o.gen, ow⟩) rfl)
        clear hb6
        go_upto_region 21 with (first | ((with_reducible refine at_store 245 (.tmp 18) (.tmp 77) ?_); refine wpList_store_blk rfl 245 (.tmp 18) (.tmp 77) rfl w6.heap.size _ _ _ (by rfl) (by rfl) (Blk.new _ _ _) HPS.out (by rw [List.size_toArray, List.size_toArray, bvs_length, recP_length]; rfl) (bvs_oneCell _) (fun _ => ?_)) | fail)
        refine at_world (fun W => ∃ z, z = w6.heap.size ∧ Below w6.heap.size w6 W ∧ Blk W z 245 (bvs (recP ⟨o.lab, o.num, o.gen, ow⟩)).toArray) ⟨_, rfl, below_setRow ((Below.refl _ _).alloc (Nat.le_refl _) _) (Nat.le_refl _) _, (Blk.new _ _ _).setRow_same _⟩ (fun w7 h7 => ?_)
        obtain ⟨z', hz', hb7, hZ7⟩ := h7
        rw [← hz']
        have HA7 := hide (HA6.out.below hb7)
        have HT7 := hide (HT6.out.trans ((Tch.of_below hb7).mono HT6.out.size fun _ _ h => h))
        have hzw : w.heap.size ≤ z' := by rw [hz']; exact HT6.out.size
        have HZ7 := hide (And.intro hzw hZ7)
        clear hz' hb7 hZ7 hzw HA6 HT6
        have hres := HW.out s1 HP1.out w7 z' HA7.out HT7.out HZ7.out.1 HZ7.out.2
        rw [HAT.out, HY.out] at hres
        have HRES := hide hres
        clear hres
        go_wp2_with (first | ((with_reducible refine at_slice 245 (.tmp 18) none none ?_); refine wpList_run rfl _ (exec_slice 245 (.tmp 18) none none rfl (run_slice_all 245 5 z' 8 Tryz.underlying245 (by kernel_rfl) (by decide))) ?_) | fail)
        refine HRES.out.mono ?_
        rintro _ w8 ⟨x, rfl, hr⟩
        have HR := hide hr
        clear hr HRES
        go_wp2_with fail
        go_returns
        exact ⟨x, rfl, HR.out⟩
    · have t1 : decide ((k : Int) < (N : Int)) = false := by simp; omega
      have t1' : ¬ (k : Int) < (N : Int) := by omega
      have hkN : k = N := by omega
      have hat : zAt l = N := zAt_eq (fun j hj => HZN.out j (by omega)) (.inl hnn.symm)
      obtain ⟨y, hy⟩ : ∃ y : Nat, 8 * N = y := ⟨_, rfl⟩
      have e16 : IntKind.i64.wrap ((N : Int) * 8) = (y : Int) := by rw [IntWalk.i64_in _ (by omega)]; omega
      have HY := hide hy
      have HAT := hide hat
      clear hkl hk hln hnn hkN hat hy
      go_wp2_with (first | ((with_reducible refine at_load 152 (.tmp 7) ?_); refine wpList_load_blk rfl 152 (.tmp 7) rfl q _ _ _ (by rfl) HQ.out Tryz.underlying152 rfl (size_inoc o) ?_) | ((with_reducible refine at_build 244 #[(0, .tmp 73), (1, .tmp 75)] ?_); refine wpList_run rfl _ (exec_build 244 #[(0, .tmp 73), (1, .tmp 75)] rfl #[(0, .agg o.ino.toArray), (1, .int .u16 (ow.toNat : Int))] (by simp only [List.map_toArray, List.map_cons, List.map_nil]; rfl) _ (build_inr _ _ _ _ _)) ?_) | fail)
      refine (inpack_ok ⟨o.lab, o.num, o.gen, ow⟩ _).mono ?_
      rintro _ w6 ⟨rfl, hb6⟩
      have HA6 := hide (HA.out.below hb6)
      have HT6 := hide (HT.out.trans ((Tch.of_below hb6).mono HT.out.size fun _ _ h => h))
      have HPS := hide (size_rec8 (recP ⟨o.lab, o.num, o.gen, ow⟩) rfl)
      clear hb6
      go_upto_region 21 with (first | ((with_reducible refine at_store 245 (.tmp 18) (.tmp 77) ?_); refine wpList_store_blk rfl 245 (.tmp 18) (.tmp 77) rfl w6.heap.size _ _ _ (by rfl) (by rfl) (Blk.new _ _ _) HPS.out (by rw [List.size_toArray, List.size_toArray, bvs_length, recP_length]; rfl) (bvs_oneCell _) (fun _ => ?_)) | fail)
      refine at_world (fun W => ∃ z, z = w6.heap.size ∧ Below w6.heap.size w6 W ∧ Blk W z 245 (bvs (recP ⟨o.lab, o.num, o.gen, ow⟩)).toArray) ⟨_, rfl, below_setRow ((Below.refl _ _).alloc (Nat.le_refl _) _) (Nat.le_refl _) _, (Blk.new _ _ _).setRow_same _⟩ (fun w7 h7 => ?_)
      obtain ⟨z', hz', hb7, hZ7⟩ := h7
      rw [← hz']
      have HA7 := hide (HA6.out.below hb7)
      have HT7 := hide (HT6.out.trans ((Tch.of_below hb7).mono HT6.out.size fun _ _ h => h))
      have hzw : w.heap.size ≤ z' := by rw [hz']; exact HT6.out.size
      have HZ7 := hide (And.intro hzw hZ7)
      clear hz' hb7 hZ7 hzw HA6 HT6
      have hres := HW.out s1 HP1.out w7 z' HA7.out HT7.out HZ7.out.1 HZ7.out.2
      rw [HAT.out, HY.out] at hres
      have HRES := hide hres
      clear hres
      go_wp2_with (first | ((with_reducible refine at_slice 245 (.tmp 18) none none ?_); refine wpList_run rfl _ (exec_slice 245 (.tmp 18) none none rfl (run_slice_all 245 5 z' 8 Tryz.underlying245 (by kernel_rfl) (by decide))) ?_) | fail)
      refine HRES.out.mono ?_
      rintro _ w8 ⟨x, rfl, hr⟩
      have HR := hide hr
      clear hr HRES
      go_wp2_with fail
      go_returns
      exact ⟨x, rfl, HR.out⟩
end
end Go.Proofs.YthmkgohfeahdhaaGreat
namespace Go.Proofs.YthmkgohfeahdhaaGreat
open Go.RowKit
set_option linter.unusedSimpArgs false
set_option linter.unusedVariables false

section
variable {w w' : World} {p t c : Option Addr} {x : Int} {o : InR} {R : World → Prop}
set_option maxRecDepth 100000 in
set_option maxHeartbeats 1000000 in
theorem infind_bad (hx : x ≠ 0) (hR : ∀ w1 w2, R w1 → Below w1.heap.size w1 w2 → R w2) (hn : ∀ W, Below w.heap.size w W → Calls Tryz.prog 125 #[.pointer p] W fun e w' => e = .returned (.tuple #[.slice none 0 0, .int .i64 x]) ∧ R w') :
    Calls Tryz.prog 69 #[.pointer p, .agg o.ino.toArray] w fun e w' => e = .returned (.tuple #[.int .i64 0, .int .i64 x]) ∧ R w' := by
  have HN := hide hn
  have HRR := hide hR
  clear hn hR
  go_enter Tryz.func69, Tryz.ntmps69
  go_upto_region 1 with (fail)
  refine at_world (fun W => Below w.heap.size w W) ((Below.refl _ _).alloc (Nat.le_refl _) _) (fun w0 hb0 => ?_)
  have HB0 := hide hb0
  clear hb0
  go_wp2_with fail
  refine (HN.out w0 HB0.out).mono ?_
  rintro e w1 ⟨rfl, hr⟩
  have HR := hide hr
  clear hr HN
  go_wp2_with fail
  go_loopg [9, 17] 0 (fun gh x9 x17 wr => gh = 0 ∧ x17 = .int .i64 0 ∧ wr = w1)
  case atStart => exact ⟨rfl, rfl, rfl⟩
  case round =>
    obtain ⟨hgh, rfl, rfl⟩ := hrel
    clear hgh
    go_wp2_with fail
    go_returns
    exact ⟨rfl, HR.out⟩
set_option maxRecDepth 100000 in
set_option maxHeartbeats 1000000 in
theorem inreap_bad (hx : x ≠ 0) (hn : Calls Tryz.prog 125 #[.pointer p] w fun e w' => e = .returned (.tuple #[.slice none 0 0, .int .i64 x]) ∧ R w') :
    Calls Tryz.prog 71 #[.pointer t, .pointer c, .pointer p] w fun e w' => e = .returned (.tuple #[.int .i64 0, .int .i64 x]) ∧ R w' := by
  have HN := hide hn
  have hx1 : (x == 0) = false := by rw [beq_eq_false_iff_ne]; exact hx
  clear hn
  go_enter Tryz.func71, Tryz.ntmps71
  go_wp2_with fail
  refine HN.out.mono ?_
  rintro e w1 ⟨rfl, hr⟩
  have HR := hide hr
  clear hr HN
  go_wp2_with fail
  go_returns
  exact ⟨rfl, HR.out⟩
set_option maxRecDepth 100000 in
set_option maxHeartbeats 1000000 in
theorem inneed_bad (hx : x ≠ 0) (hn : ∀ W, Below w.heap.size w W → Calls Tryz.prog 69 #[.pointer p, .agg o.ino.toArray] W fun e w' => e = .returned (.tuple #[.int .i64 0, .int .i64 x]) ∧ R w') :
    Calls Tryz.prog 72 #[.pointer t, .pointer c, .pointer p, .agg o.ino.toArray] w fun e w' => e = .returned (.tuple #[.int .i64 0, .int .i64 x]) ∧ R w' := by
  have HN := hide hn
  have hx1 : (x == 0) = false := by rw [beq_eq_false_iff_ne]; exact hx
  clear hn
  go_enter Tryz.func72, Tryz.ntmps72
  go_upto_region 1 with (fail)
  refine at_world (fun W => ∃ q, q = w.heap.size ∧ Below w.heap.size w W ∧ Blk W q 152 o.ino.toArray) ⟨_, rfl, (Below.refl _ _).alloc (Nat.le_refl _) _, Blk.new _ _ _⟩ (fun w0 h0 => ?_)
  obtain ⟨q, hq, hb0, hQ0⟩ := h0
  rw [← hq]
  have HB0 := hide hb0
  have HQ0 := hide hQ0
  clear hq hb0 hQ0
  go_wp2_with (first | ((with_reducible refine at_load 152 (.tmp 7) ?_); refine wpList_load_blk rfl 152 (.tmp 7) rfl q _ _ _ (by rfl) HQ0.out Tryz.underlying152 rfl (size_inoc o) ?_) | fail)
  refine (HN.out w0 HB0.out).mono ?_
  rintro e w1 ⟨rfl, hr⟩
  have HR := hide hr
  clear hr HN
  go_wp2_with fail
  go_returns
  exact ⟨rfl, HR.out⟩
set_option maxRecDepth 100000 in
set_option maxHeartbeats 1000000 in
theorem indrop_bad (hx : x ≠ 0) (hn : ∀ W, Below w.heap.size w W → Calls Tryz.prog 125 #[.pointer p] W fun e w' => e = .returned (.tuple #[.slice none 0 0, .int .i64 x]) ∧ R w') :
    Calls Tryz.prog 73 #[.pointer p, .agg o.ino.toArray] w fun e w' => e = .returned (.int .i64 x) ∧ R w' := by
  have HN := hide hn
  have hx1 : (x == 0) = false := by rw [beq_eq_false_iff_ne]; exact hx
  clear hn
  go_enter Tryz.func73, Tryz.ntmps73
  go_upto_region 1 with (fail)
  refine at_world (fun W => Below w.heap.size w W) ((Below.refl _ _).alloc (Nat.le_refl _) _) (fun w0 hb0 => ?_)
  have HB0 := hide hb0
  clear hb0
  go_wp2_with fail
  refine (HN.out w0 HB0.out).mono ?_
  rintro e w1 ⟨rfl, hr⟩
  have HR := hide hr
  clear hr HN
  go_wp2_with fail
  go_returns
  exact ⟨rfl, HR.out⟩
end
section
variable {w w' : World} {i : Ids} {s : Sto} {gg : Nat} {g : GeoN} {lab : Int} {G : GS} {K0 : List Nat}
set_option maxRecDepth 100000 in
set_option maxHeartbeats 1000000 in
theorem indrop_empty {o : InR} (h : GAt w i s gg g lab G) (hop : InOpens i s gg g lab G []) :
    Calls Tryz.prog 73 #[.pointer (some ⟨gg, 0, none⟩), .agg o.ino.toArray] w fun e w' => e = .returned (.int .i64 0) ∧ GAt w' i s gg g lab G ∧ Tch w.heap.size i.own w w' := by
  have H := hide h
  have HOP := hide hop
  clear h hop
  go_enter Tryz.func73, Tryz.ntmps73
  go_upto_region 1 with (fail)
  refine at_world (fun W => Below w.heap.size w W) ((Below.refl _ _).alloc (Nat.le_refl _) _) (fun w0 hb0 => ?_)
  have HA0 := hide (H.out.below hb0)
  have HT0 := hide (Tch.of_below (S := i.own) hb0)
  clear hb0
  go_wp2_with fail
  refine (HOP.out w0 HA0.out).mono ?_
  rintro e w1 ⟨A, c, rfl, hown, ha1, ht1⟩
  have HA1 := hide ha1
  have HT1 := hide (HT0.out.trans (ht1.mono HT0.out.size fun _ _ h => h))
  rw [show ([] : List InR).length = 0 from rfl]
  clear hown ha1 ht1 HA0 HT0
  go_wp2_with fail
  go_loopg [7, 8, 9, 10, 21] 0 (fun gh x7 x8 x9 x10 x21 wr => gh = 0 ∧ x21 = .int .i64 0 ∧ wr = w1)
  case atStart => exact ⟨rfl, rfl, rfl⟩
  case round =>
    obtain ⟨hgh, rfl, rfl⟩ := hrel
    clear hgh
    go_wp2_with fail
    go_returns
    exact ⟨rfl, HA1.out, HT1.out⟩
/-- a table's step -/
structure TStep (s s' : Sto) (g : GeoN) (G G' : GS) (l l' : List InR) (κ κ' : Nat → Nat) (K0 T : List Nat) : Prop where
  tab : TabN G' g l' κ'
  mov : Mov G G' 2 (prOf (blks (8 * l.length))) κ (prOf (blks (8 * l'.length))) κ'
  cnt : G'.cnt g.blocks + nkeys (blks (8 * l.length)) = G.cnt g.blocks + nkeys (blks (8 * l'.length))
  inn : s'.In (K0 ++ T)
  tlen : T.length ≤ 12
  stay : Stay s s' g
def TRes (w w' : World) (i : Ids) (s : Sto) (gg : Nat) (g : GeoN) (lab : Int) (G : GS) (l l' : List InR) (κ : Nat → Nat) (K0 : List Nat) : Prop :=
  ∃ s' G' κ' T, GAt w' i s' gg g lab G' ∧ TStep s s' g G G' l l' κ κ' K0 T ∧ Tch w.heap.size i.own w w'
def TFull (w w' : World) (i : Ids) (s : Sto) (gg : Nat) (g : GeoN) (lab : Int) (G : GS) (l l' : List InR) : Prop :=
  g.blocks + nkeys (blks (8 * l.length)) < G.cnt g.blocks + nkeys (blks (8 * l'.length)) ∧ ∃ s' G', GAt w' i s' gg g lab G' ∧ Stay s s' g ∧ Tch w.heap.size i.own w w'
theorem one_blk8 (a : Nat) : blks (8 * a + 8) - 8 * a / 64 = 1 := by unfold blks; omega
theorem twrite {at_ z : Nat} {l l' : List InR} {d : List UInt8} {κ : Nat → Nat} (h : GAt w i s gg g lab G) (hK0 : s.In K0) (hKl : K0.length ≤ 16) (h2 : 2 ≤ g.nodes) (hb5 : g.blocks ≤ 512) (ht : TabN G g l κ) (hdl : d.length = 8)
    (hat : at_ ≤ l.length) (hat2 : at_ < 2048) (hlen : l'.length = max l.length (at_ + 1)) (hgd : ∀ e ∈ l', e.Good) (hby : ∀ j, j < 8 * l'.length → over (fun j => (pls l).getD j 0) (8 * at_) d 8 j = (pls l').getD j 0)
    (hzo : ¬ i.own z) (hZ : Rd w w.heap.size 1 (some ⟨z, 0, none⟩) 8 (bvs d)) :
    Calls Tryz.prog 33 #[.pointer (some ⟨gg, 0, none⟩), .int .i64 2, .int .i64 ((8 * at_ : Nat) : Int), .slice (some ⟨z, 0, none⟩) 8 8] w fun e w' =>
      (e = .returned (.int .i64 10) ∧ TFull w w' i s gg g lab G l l') ∨ (e = .returned (.int .i64 0) ∧ TRes w w' i s gg g lab G l l' κ K0) := by
  have hll := ht.len
  have hmax : max (blks (8 * l.length)) (blks (8 * at_ + 8)) = blks (8 * l'.length) := by rw [hlen]; unfold blks; omega
  have hms : max (8 * l.length) (8 * at_ + 8) = 8 * l'.length := by rw [hlen]; omega
  have h1b := one_blk8 at_
  have hwr := write_file (num := 2) (off := 8 * at_) (cap := 8) (c := blks (8 * l.length)) (sz := 8 * l.length) (κ := κ) (f := fun j => (pls l).getD j 0) (K0 := K0) (data := d) (A := some ⟨z, 0, none⟩) h hK0 (by omega) h2 hb5 (by rw [ht.kind]; decide) ht.size ht.file (by omega) (by omega) (by omega) (by omega) (by rw [hdl]; exact hZ) (fun b hb => by cases hb; exact hzo)
    (by rw [hdl]; omega) (by rw [hdl, h1b]; split <;> omega) (by unfold blks; omega) (fun n' hs hd' => check_grow hs ht.kind ht.links (by rw [ht.size, hdl]; omega))
  rw [hdl, hmax, hms, h1b, show ((2 : Nat) : Int) = 2 from rfl] at hwr
  refine hwr.mono ?_
  rintro e w' (⟨he, hno, hs⟩ | ⟨he, s', G', κ', k1, k2, k3, k4, k5, k6, k7, k8, k9, k10, k11⟩)
  · exact .inl ⟨he, hno, hs⟩
  · refine .inr ⟨he, s', G', κ', (g.base :: ((tkeys (8 * at_ / 64) 1).filter (prOf (blks (8 * l'.length)))).map fun k => g.data + κ' k) ++ [g.base + g.bitmap + (2 - 1) / 2], k1, ⟨⟨k4.trans ht.kind, by rw [k5]; exact ht.links, k3, k2.congr hby, by omega, hgd⟩, k7.mov, k8, ?_, ?_, k10⟩, k11⟩
    · unfold KL at k9
      rw [List.append_assoc] at k9
      exact k9
    · have := List.length_filter_le (prOf (blks (8 * l'.length))) (tkeys (8 * at_ / 64) 1)
      have e1 : (tkeys (8 * at_ / 64) 1).length = 5 := rfl
      simp only [List.length_append, List.length_cons, List.length_map, List.length_nil]
      omega
theorem fresh_tab (g : GeoN) (κ : Nat → Nat) : TabN GS.fresh g [] κ :=
  ⟨rfl, by decide, rfl, file_empty κ _ rfl (fresh_slot 1), by decide, fun e he => absurd he (by simp)⟩
end
end Go.Proofs.YthmkgohfeahdhaaGreat

/- The log and a transaction, walked. -/
import Derived.Test.YtoeejeieplhifaaFsDisk
namespace Go.Proofs.Ytoeejeieplhifaa
open Go.RowKit
set_option linter.unusedSimpArgs false
set_option linter.unusedVariables false

/-- two bytes of a number, written -/
def put2B (b : BlkV) (at_ n : Nat) : BlkV := (b.set at_ (UInt8.ofNat (n % 256))).set (at_ + 1) (UInt8.ofNat (n / 256))
theorem put2B_length (b : BlkV) (at_ n : Nat) : (put2B b at_ n).length = b.length := by simp [put2B]
theorem bvs_set (b : List UInt8) (i : Nat) (x : UInt8) : (bvs b).toArray.setIfInBounds i (bv x) = (bvs (b.set i x)).toArray := by
  simp [bvs, List.map_set]
/-- a head -/
def headGo : Nat → List Nat → BlkV → BlkV
  | _, [], b => b
  | i, n :: r, b => headGo (i + 1) r (put2B b (4 + 2 * i) n)
def headB (l : List Nat) : BlkV := headGo 0 l (put2B (put2B zeroB 0 26529) 2 l.length)
theorem headGo_length : ∀ (i : Nat) (l : List Nat) (b : BlkV), (headGo i l b).length = b.length
  | _, [], _ => rfl
  | i, n :: r, b => by rw [headGo, headGo_length (i + 1) r, put2B_length]
theorem headB_length (l : List Nat) : (headB l).length = 64 := by rw [headB, headGo_length, put2B_length, put2B_length, zeroB_length]

/-- numbers as cells -/
def nvs (l : List Nat) : List Value := l.map fun x => .int .i64 ((x : Nat) : Int)
theorem nvs_get {l : List Nat} {k x : Nat} (h : l[k]? = some x) : (nvs l)[k]? = some (.int .i64 (x : Int)) := by simp [nvs, h]

section
variable {w w' : World} {g : Nat} {b : BlkV}
set_option maxRecDepth 100000 in
theorem put2_ok (hB : Blk w g 67 (bvs b).toArray) (hb : b.length = 64) {k n : Nat} (hk : k + 1 < 64) (hn : n < 65536) :
    Calls Try.prog 89 #[.pointer (some ⟨g, 0, none⟩), .int .i64 (k : Int), .int .u16 (n : Int)] w fun e w' => e = .returned (.tuple #[]) ∧ Blk w' g 67 (bvs (put2B b k n)).toArray ∧ Tch w.heap.size (· = g) w w' ∧ w'.heap.size = w.heap.size := by
  have hz : IntKind.i64.wrap ((k : Int) + 1) = (k : Int) + 1 := IntWalk.i64_in _ (by omega)
  have h64 : (k : Int) < 64 := by omega
  have h65 : (k : Int) + 1 < 64 := by omega
  have h66 : (0 : Int) ≤ (k : Int) + 1 := by omega
  go_enter Try.func89, Try.ntmps89
  go_wp2_with fail
  refine wp_region_ord [0, 1, 2, 3, 4, 5, 6, 7, 8, 9, 10, 11, 13, 12, 14, 15] [0, 0, 0, 0, 0, 0, 0, 0, 0, 0, 0, 0, 0, 1, 0, 2] (fun _ => True) (by kernel_rfl) (by kernel_rfl) trivial ?_
  iterate 13 (refine wpOrd_q (v := ?_) (by rfl) (fun W hW => ?_) ?_; rotate_left; (focus (go_simp; try with_reducible rfl)); try simp only [Act.put, List.setIfInBounds_toArray, List.set_cons_zero, List.set_cons_succ])
  have e1 : IntKind.u8.wrap (n : Int) = ((n % 256 : Nat) : Int) := by simp [IntKind.wrap, IntKind.signed, IntKind.bits]
  have e2 : IntKind.u8.wrap ((n : Int) / 256) = ((n / 256 : Nat) : Int) := by simp [IntKind.wrap, IntKind.signed, IntKind.bits]; omega
  rw [e1, e2, ← bv_ofNat (k := n % 256) (by omega), ← bv_ofNat (k := n / 256) (by omega)]
  clear e1 e2
  have hB0 : Blk w.drew g 67 (bvs b).toArray := hB
  have hB1 := hB0.set_ k (bv (UInt8.ofNat (n % 256)))
  rw [bvs_set] at hB1
  have hB2 := hB1.set_ (k + 1) (bv (UInt8.ofNat (n / 256)))
  rw [bvs_set] at hB2
  refine wpOrd_x (by rfl) (fun K hK => ?_)
  refine wp_store_cell 5 (.tmp 17) (.tmp 12) rfl g k _ _ _ (by rfl) (by rfl) hB0 (by rw [bvs_size hb]; omega) rfl (by kernel_rfl) ?_
  refine hK _ _ _ (fun _ h => h) trivial ?_
  clear hK K
  try simp only [Act.put, List.setIfInBounds_toArray, List.set_cons_zero, List.set_cons_succ]
  iterate 1 (refine wpOrd_q (v := ?_) (by rfl) (fun W hW => ?_) ?_; rotate_left; (focus (go_simp; try with_reducible rfl)); try simp only [Act.put, List.setIfInBounds_toArray, List.set_cons_zero, List.set_cons_succ])
  refine wpOrd_b (by rfl) (fun K hK => ?_)
  refine wp_store_cell 5 (.tmp 19) (.tmp 15) rfl g (k + 1) _ _ _ (by rfl) (by rfl) hB1 (by rw [bvs_size (by rw [List.length_set]; exact hb)]; omega) rfl (by kernel_rfl) ?_
  refine hK (fun _ => True) _ _ trivial (wpOrd_nil ?_)
  have HB := hide hB2
  clear hK K hB hB0 hB1 hB2
  go_wp2
  go_returns
  refine ⟨rfl, HB.out, ?_, by simp⟩
  exact ((Tch.setCell (S := (· = g)) (p := ⟨g, k, none⟩) fun _ => rfl).trans (Tch.setCell (S := (· = g)) (p := ⟨g, k + 1, none⟩) fun _ => rfl)).drew

set_option maxRecDepth 100000 in
set_option maxHeartbeats 1000000 in
theorem head_ok (w : World) {A : Option Addr} {n c : Nat} {l : List Nat} (hR : Rd w w.heap.size 1 A n (nvs l)) (hn : l.length ≤ 30) (hl : ∀ x ∈ l, x < 65536) :
    Calls Try.prog 56 #[.slice A n c] w fun e w' => e = .returned (bval (headB l)) ∧ Below w.heap.size w w' := by
  have hln : n = l.length := by have := hR.len; simp [nvs] at this; omega
  subst hln
  have h16 : IntKind.u16.wrap (l.length : Int) = (l.length : Int) := by simp [IntKind.wrap, IntKind.signed, IntKind.bits]; omega
  have hnz : (l.length : Int) ≤ 30 := by omega
  go_enter Try.func56, Try.ntmps56
  go_upto_region 1 with (first | ((with_reducible refine at_alloc 67 ?_); refine wpList_alloc_as rfl 67 rfl _ (zero_block _) ?_) | fail)
  refine at_world (fun W => ∃ g, g = w.heap.size ∧ Below w.heap.size w W ∧ Blk W g 67 (bvs zeroB).toArray ∧ W.heap.size = g + 1) ⟨_, rfl, (Below.refl _ _).alloc (Nat.le_refl _) _, Blk.new _ _ _, by simp⟩ (fun w1 h1 => ?_)
  obtain ⟨g, hg, hb1, hG, hs1⟩ := h1
  rw [← hg]
  go_upto_region 2 with (first | ((with_reducible refine at_alloc 67 ?_); refine wpList_alloc_as rfl 67 rfl _ (zero_block _) ?_) | fail)
  refine at_world (fun W => ∃ q, q = w1.heap.size ∧ Below w.heap.size w W ∧ Blk W g 67 (bvs zeroB).toArray ∧ Blk W q 67 (bvs zeroB).toArray) ⟨_, rfl, hb1.alloc hb1.size _, hG.alloc _, Blk.new _ _ _⟩ (fun w2 h2 => ?_)
  obtain ⟨q, hq, hb2, hG2, hQ2⟩ := h2
  rw [← hq]
  have hgq : g < q := by omega
  have hwg : w.heap.size ≤ g := Nat.le_of_eq hg.symm
  clear hG hb1 hq hs1 hg
  go_wp2_with fail
  refine (put2_ok hQ2 zeroB_length (k := 0) (n := 26529) (by omega) (by omega)).mono ?_
  rintro e w3 ⟨rfl, hQ3, ht3, hs3⟩
  have hG3 := hG2.tch ht3 hG2.lt (by omega)
  have hb3 : Below w.heap.size w w3 := hb2.trans ((ht3.mono hb2.size (S' := fun _ => False) (fun k hk h => by omega)).below fun _ _ h => h)
  clear hG2 hQ2 ht3 hs3 hb2
  go_wp2_with fail
  refine (put2_ok hQ3 (by rw [put2B_length]; exact zeroB_length) (k := 2) (n := l.length) (by omega) (by omega)).mono ?_
  rintro e w4 ⟨rfl, hQ4, ht4, hs4⟩
  have hG4 := hG3.tch ht4 hG3.lt (by omega)
  have hb4 : Below w.heap.size w w4 := hb3.trans ((ht4.mono hb3.size (S' := fun _ => False) (fun k hk h => by omega)).below fun _ _ h => h)
  clear hG3 hQ3 ht4 hs4 hb3
  have HR := hide hR
  have HL := hide hl
  clear hR hl
  have hH : Hid (headB l = headGo 0 l (put2B (put2B zeroB 0 26529) 2 l.length)) := hide rfl
  have hlen0 : (put2B (put2B zeroB 0 26529) 2 l.length).length = 64 := by rw [put2B_length, put2B_length]; exact zeroB_length
  generalize (put2B (put2B zeroB 0 26529) 2 l.length) = b0 at hQ4 hH hlen0
  have H0 := hide (And.intro hQ4 (And.intro hG4 (And.intro hb4 hlen0)))
  clear hQ4 hG4 hb4 hlen0
  go_wp2_with fail
  go_loopg [13] l.length (fun gh x13 wr => ∃ (k : Nat) (b : BlkV), k ≤ l.length ∧ gh = l.length - k ∧ x13 = .int .i64 (k : Int) ∧ Below w.heap.size w wr ∧ Blk wr g 67 (bvs zeroB).toArray ∧ Blk wr q 67 (bvs b).toArray ∧ Hid (headGo k (l.drop k) b = headB l) ∧ Hid (b.length = 64))
  case atStart =>
    obtain ⟨h1, h2, h3, h4⟩ := H0.out
    exact ⟨0, b0, Nat.zero_le _, rfl, rfl, h3, h2, h1, hide hH.out.symm, hide h4⟩
  case round =>
    obtain ⟨k, b, hk, hg, rfl, hbr, hGr, hQr, HD, HBl⟩ := hrel
    have HGH := hide hg
    clear hg
    rcases Nat.lt_or_ge k l.length with hkl | hkl
    · have hkz : (k : Int) < l.length := by omega
      obtain ⟨bA, o, rfl, hbA, hc⟩ := HR.out.2 (by omega)
      have y := (hbr.cell (p := ⟨bA, o + k, none⟩) hbA).trans (hc k _ (nvs_get (List.getElem?_eq_getElem hkl)))
      have hx := HL.out _ (List.getElem_mem hkl)
      have HX : Hid (headGo (k + 1) (l.drop (k + 1)) (put2B b (4 + 2 * k) l[k]) = headB l) := hide (by
        have := HD.out
        rw [List.drop_eq_getElem_cons hkl, headGo] at this
        exact this)
      generalize l[k] = x at y hx HX
      have hx16 : IntKind.u16.wrap (x : Int) = (x : Int) := by simp [IntKind.wrap, IntKind.signed, IntKind.bits]; omega
      have bl := Nat.lt_of_lt_of_le hbA hbr.size
      clear hc HD
      have hp := put2_ok hQr HBl.out (k := 4 + 2 * k) (n := x) (by omega) hx
      rw [show ((4 + 2 * k : Nat) : Int) = 4 + 2 * (k : Int) from by omega] at hp
      have HP := hide hp
      clear hp
      go_wp2_with fail
      refine HP.out.mono ?_
      rintro e w5 ⟨rfl, hQ5, ht5, hs5⟩
      have hG5 := hGr.tch ht5 hGr.lt (by omega)
      have hb5 : Below w.heap.size w w5 := hbr.trans ((ht5.mono hbr.size (S' := fun _ => False) (fun k hk h => by omega)).below fun _ _ h => h)
      clear hs5 ht5 HP hbr hGr hQr
      go_wp2
      go_roundg (l.length - (k + 1))
      case rel => exact ⟨k + 1, _, by omega, rfl, by go_num, hb5, hG5, hQ5, HX, hide (by rw [put2B_length]; exact HBl.out)⟩
      case measure => have := HGH.out; omega
    · have hd : headGo k (l.drop k) b = b := by rw [List.drop_of_length_le hkl]; rfl
      have HE : Hid (headB l = b) := hide (by rw [← HD.out, hd])
      clear hd HD
      have hkd : decide (k < l.length) = false := by simpa using hkl
      go_wp2_with (first | ((with_reducible refine at_load 67 (.tmp 3) ?_); refine wpList_load_blk rfl 67 (.tmp 3) rfl q 67 _ _ (by rfl) hQr Try.underlying67 rfl (size_blockOf HBl.out) ?_) | ((with_reducible refine at_store 67 (.tmp 2) (.tmp 25) ?_); refine wpList_store_blk rfl 67 (.tmp 2) (.tmp 25) rfl g 67 _ _ (by rfl) (by rfl) hGr (size_blockOf HBl.out) (by rw [zero_size, bvs_size HBl.out]) (bvs_oneCell _) (fun hB3 => ?_)) | ((with_reducible refine at_end ?_); refine bodyPost_ret (v := bval b) (results_run1 rfl (ResV.row rfl hB3 Try.underlying67 rfl (size_blockOf HBl.out))) rfl ⟨by rw [HE.out], below_setRow hbr hwg _⟩) | fail)
end

/-- A log at block 1 of a disk that works. -/
structure LogAt (w : World) (ll dd rr : Nat) (D : List BlkV) : Prop where
  log : Blk w ll 141 #[.pointer (some ⟨dd, 0, none⟩), .int .i64 1]
  disk : DiskAt w dd rr D
section
variable {w w' : World} {ll dd rr : Nat} {D : List BlkV}
theorem LogAt.below (h : LogAt w ll dd rr D) (hb : Below w.heap.size w w') : LogAt w' ll dd rr D := ⟨h.log.below hb h.log.lt, h.disk.below hb⟩
theorem LogAt.nd (h : LogAt w ll dd rr D) : ll ≠ dd := by obtain ⟨_, _, hd⟩ := h.disk.disk; exact h.log.ne hd (by decide)
theorem LogAt.nr (h : LogAt w ll dd rr D) : ll ≠ rr := h.log.ne h.disk.row (by decide)

set_option maxRecDepth 100000 in
theorem open_ok (h : DiskAt w dd rr D) (hm : 32 ≤ D.length) :
    Calls Try.prog 62 #[.pointer (some ⟨dd, 0, none⟩), .int .i64 1] w fun e w' => ∃ ll, e = .returned (.tuple #[.pointer (some ⟨ll, 0, none⟩), .int .i64 0]) ∧ w.heap.size ≤ ll ∧ LogAt w' ll dd rr D ∧ Below w.heap.size w w' := by
  have hz : (D.length : Int) ≤ 65536 := by have := h.most; omega
  have k1 : IntKind.i64.wrap ((D.length : Int) - 1) = (D.length : Int) - 1 := IntWalk.i64_in _ (by omega)
  have k2 : IntKind.i64.wrap ((D.length : Int) - 1 - 30) = (D.length : Int) - 1 - 30 := IntWalk.i64_in _ (by omega)
  have k3 : decide ((D.length : Int) - 1 - 30 < 1) = false := by simp; omega
  go_enter Try.func62, Try.ntmps62
  go_wp2_with fail
  refine (disk_len h).mono ?_
  rintro e w1 ⟨rfl, rfl⟩
  have H := hide h
  clear h hm
  go_wp2
  go_returns
  exact ⟨w.heap.size, rfl, Nat.le_refl _, ⟨Blk.new _ _ _, H.out.below ((Below.refl _ _).alloc (Nat.le_refl _) _)⟩, (Below.refl _ _).alloc (Nat.le_refl _) _⟩

set_option maxRecDepth 100000 in
theorem format_ok (h : LogAt w ll dd rr D) (hm : 32 ≤ D.length) :
    Calls Try.prog 63 #[.pointer (some ⟨ll, 0, none⟩)] w fun e w' => e = .returned (.int .i64 0) ∧ LogAt w' ll dd rr (D.set 1 (headB [])) ∧ Tch w.heap.size (fun x => x = dd ∨ x = rr) w w' := by
  have c0 := h.log.cell 0
  have c1 := h.log.cell 1
  have ct := h.log.lt
  go_enter Try.func63, Try.ntmps63
  go_wp2_with fail
  refine wp_region_text [0, 0, 0, 0, 0, 0, 0, 0, 1, 2, 0] (Below w.heap.size w) (by kernel_rfl) (by kernel_rfl) (Below.refl _ _).drew ?_
  iterate 8 (refine wpOrd_q (v := ?_) (by rfl) (fun W hW => ?_) ?_; rotate_left; (focus ((obtain ⟨hWc, hWf⟩ := bcell hW; go_simp); try with_reducible rfl)); try simp only [Act.put, List.setIfInBounds_toArray, List.set_cons_zero, List.set_cons_succ])
  refine wpOrd_x (by rfl) (fun K hK => ?_)
  go_simp
  have hR0 : Rd w.drew w.drew.heap.size 1 none 0 (nvs []) := Rd.nil _ _ _ _
  refine (head_ok w.drew (l := []) hR0 (by simp) (by simp)).mono ?_
  rintro e w1 ⟨rfl, hb1⟩
  have hb1 : Below w.heap.size w w1 := (Below.refl _ _).drew.trans hb1
  refine hK _ _ _ (fun _ h => h) hb1 ?_
  clear hK K
  try simp only [Act.put, List.setIfInBounds_toArray, List.set_cons_zero, List.set_cons_succ]
  have h1 := h.below hb1
  refine wpOrd_b (by rfl) (fun K hK => ?_)
  go_simp
  refine (disk_write h1.disk (k := 1) (by omega) (headB_length [])).mono ?_
  rintro e w2 ⟨rfl, hd2, ht2⟩
  refine hK (fun _ => True) _ _ trivial ?_
  clear hK K
  try simp only [Act.put, List.setIfInBounds_toArray, List.set_cons_zero, List.set_cons_succ]
  iterate 1 (refine wpOrd_q (v := ?_) (by rfl) (fun W hW => ?_) ?_; rotate_left; (focus (go_simp; try with_reducible rfl)); try simp only [Act.put, List.setIfInBounds_toArray, List.set_cons_zero, List.set_cons_succ])
  refine wpOrd_nil ?_
  have hl2 : Blk w2 ll 141 #[.pointer (some ⟨dd, 0, none⟩), .int .i64 1] := h1.log.tch ht2 h1.log.lt (by rintro (e | e); exact h1.nd e; exact h1.nr e)
  have H := hide (And.intro hd2 (And.intro hl2 ((Tch.of_below hb1).trans (ht2.mono hb1.size fun _ _ h => h))))
  clear hd2 hl2 ht2 hb1 h1 h
  go_wp2
  go_returns
  exact ⟨rfl, ⟨H.out.2.1, H.out.1⟩, H.out.2.2⟩
end

/-- where a transaction lies: itself, its map, its log, its disk, that one's row -/
structure Ids where
  tt : Nat
  mm : Nat
  ll : Nat
  dd : Nat
  rr : Nat
/-- what a transaction's calls write -/
def Ids.own (i : Ids) (k : Nat) : Prop := k = i.tt ∨ k = i.mm ∨ k = i.dd ∨ k = i.rr

/-- A transaction on a disk that works. -/
structure TxAt (w : World) (i : Ids) (s : Sto) : Prop where
  txn : Blk w i.tt 132 #[.pointer (some ⟨i.ll, 0, none⟩), .map (some i.mm), .int .i64 s.bad]
  map : MapR nkv w i.mm (dm s.M)
  log : LogAt w i.ll i.dd i.rr s.D
  ok : s.Ok
section
variable {w w' : World} {i : Ids} {s : Sto}
theorem TxAt.below (h : TxAt w i s) (hb : Below w.heap.size w w') : TxAt w' i s := ⟨h.txn.below hb h.txn.lt, h.map.below hb h.map.lt, h.log.below hb, h.ok⟩
theorem TxAt.ntd (h : TxAt w i s) : i.tt ≠ i.dd := by obtain ⟨_, _, hd⟩ := h.log.disk.disk; exact h.txn.ne hd (by decide)
theorem TxAt.ntr (h : TxAt w i s) : i.tt ≠ i.rr := h.txn.ne h.log.disk.row (by decide)
theorem TxAt.ntm (h : TxAt w i s) : i.tt ≠ i.mm := h.txn.ne_map h.map.is
theorem TxAt.ntl (h : TxAt w i s) : i.tt ≠ i.ll := h.txn.ne h.log.log (by decide)
theorem TxAt.nmd (h : TxAt w i s) : i.mm ≠ i.dd := by obtain ⟨_, _, hd⟩ := h.log.disk.disk; exact (hd.ne_map h.map.is).symm
theorem TxAt.nmr (h : TxAt w i s) : i.mm ≠ i.rr := (h.log.disk.row.ne_map h.map.is).symm
theorem TxAt.nml (h : TxAt w i s) : i.mm ≠ i.ll := (h.log.log.ne_map h.map.is).symm
/-- a block of another element type is none of its own -/
theorem TxAt.other {g : Nat} {t : TypeId} {cs : Array Value} (h : TxAt w i s) (hB : Blk w g t cs) (h1 : t ≠ 132) (h2 : t ≠ 129) (h3 : t ≠ 67) : ¬ i.own g := by
  obtain ⟨_, _, hd⟩ := h.log.disk.disk
  rintro (e | e | e | e)
  · exact hB.ne h.txn h1 e
  · exact hB.ne_map h.map.is e
  · exact hB.ne hd h2 e
  · exact hB.ne h.log.disk.row h3 e
theorem TxAt.other_new {g : Nat} (h : TxAt w i s) (hg : w.heap.size ≤ g) : ¬ i.own g := by
  have a1 := h.txn.lt
  have a2 := h.map.lt
  have a3 := h.log.disk.dlt
  have a4 := h.log.disk.row.lt
  rintro (e | e | e | e) <;> omega

theorem nEnc : KeyEnc Try.prog 3 nkv where
  keyed := Go.Maps.int_keyed Try.underlying3
  reads a := ⟨_, Go.Maps.keyOf_int_mk Try.underlying3 (by
    have := a.isLt
    simp [Lit.wf, IntKind.min, IntKind.max, IntKind.signed, IntKind.bits]
    omega)⟩
  inj a b h := by
    simp only [nkv, Value.int.injEq, true_and] at h
    exact Fin.ext (by omega)

set_option maxRecDepth 100000 in
theorem begin_ok {ll dd rr : Nat} {D : List BlkV} (h : LogAt w ll dd rr D) (hm : 32 ≤ D.length) :
    Calls Try.prog 19 #[.pointer (some ⟨ll, 0, none⟩)] w fun e w' => ∃ tt mm, e = .returned (.pointer (some ⟨tt, 0, none⟩)) ∧ w.heap.size ≤ tt ∧ w.heap.size ≤ mm ∧ TxAt w' ⟨tt, mm, ll, dd, rr⟩ ⟨D, [], 0⟩ ∧ Below w.heap.size w w' := by
  have hmm := @run_makeMap Try.prog
  go_enter Try.func19, Try.ntmps19
  go_wp2_with fail
  go_returns
  have hb : Below w.heap.size w ((w.alloc (.map #[] 0)).alloc (.cells #[.pointer (some ⟨ll, 0, none⟩), .map (some w.heap.size), .int .i64 0] 132)) := ((Below.refl _ _).alloc (Nat.le_refl _) _).alloc (by simp) _
  have hB : Blk ((w.alloc (.map #[] 0)).alloc (.cells #[.pointer (some ⟨ll, 0, none⟩), .map (some w.heap.size), .int .i64 0] 132)) (w.heap.size + 1) 132 #[.pointer (some ⟨ll, 0, none⟩), .map (some w.heap.size), .int .i64 0] := by
    have := Blk.new (w.alloc (.map #[] 0)) 132 #[.pointer (some ⟨ll, 0, none⟩), .map (some w.heap.size), .int .i64 0]
    simpa using this
  refine ⟨_, w.heap.size, rfl, by omega, Nat.le_refl _, ⟨hB, ?_, h.below hb, ?_⟩, hb⟩
  · exact (MapR.made w nkv).below ((Below.refl _ _).alloc (Nat.le_refl _) _) (by simp)
  · exact ⟨h.disk.len, by simp, by simp, hm, h.disk.most, by simp, by simp, by simp⟩
end
end Go.Proofs.Ytoeejeieplhifaa

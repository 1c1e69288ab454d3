/- Paths: a text as a part: the walks of path.Part and of the document's answer. Printed by pathpart.py. -/
import Derived.Test.YtkjgieehiimiiaaDoorPathName
import Derived.Test.YtkjgieehiimiiaaDoorShelf
import Derived.Deep.Draws
namespace Go.Proofs.YtkjgieehiimiiaaDoor
open Go.RowKit

/-- bytealg.MaxLen holds some int -/
def Mx (w : World) : Prop := ∃ m, w.cell? ⟨0, 0, none⟩ = some (.int .i64 m)
theorem Mx.below {w w' : World} {B : Nat} (h : Mx w) (hb : Below B w w') (h0 : 0 < B) : Mx w' := by
  obtain ⟨m, hm⟩ := h
  exact ⟨m, (hb.cell (p := ⟨0, 0, none⟩) h0).trans hm⟩
theorem Mx.lt {w : World} (h : Mx w) : 0 < w.heap.size := by
  obtain ⟨m, hm⟩ := h
  exact World.block_lt_of_cell? w _ hm
theorem Mx.below' {w w' : World} (h : Mx w) (hb : Below w.heap.size w w') : Mx w' := h.below hb h.lt
theorem alloc_drewN (w : World) (o : Obj) (n : Nat) : (w.alloc o).drewN n = (w.drewN n).alloc o := rfl

/-- a part as a value -/
def pv (q : BL × BL) : Value := .agg #[.string ⟨q.1.toArray⟩, .string ⟨q.2.toArray⟩]

theorem cut_ok (s : ByteArray) (w : World) (hs : s.size < 4294967281) (hm : Mx w) : Calls Tryd.prog 20 #[.string s, .string ⟨#[64]⟩] w fun e w' => ∃ (x y : ByteArray) (f : Bool), e = .returned (.tuple #[.string x, .string y, .bool f]) ∧
    (x.data.toList, y.data.toList, f) = Lib.cut s.data.toList [64] ∧ ∃ n, w' = w.drewN n := by
  obtain ⟨m, hm⟩ := hm
  refine (Tryd.strings_Cut s ⟨#[64]⟩ m w hs hm).mono ?_
  rintro e w' ⟨rfl, n, rfl⟩
  exact ⟨_, _, _, rfl, rfl, n, rfl⟩

theorem partL_is {l a b : BL} {f : Bool} (h : (a, b, f) = Lib.cut l [64]) : partL l = if f = true ∧ labOk b = false then ([], [], 7)
  else if a = [] ∧ f = true then ([], b, 0)
  else if a = [46] ∨ a = [46, 46] then (if f = true then ([], [], 7) else (a, [], 0))
  else if nameErr a ≠ 0 then ([], [], nameErr a) else (a, b, 0) := by
  unfold partL
  rw [← h]

set_option maxRecDepth 100000 in
set_option maxHeartbeats 2000000 in
theorem part_ok (s : ByteArray) (w : World) (hs : s.size < 4294967281) (hm : Mx w) :
    Calls Tryd.prog 10 #[.string s] w fun e w' => e = .returned (.tuple #[pv ((partL s.data.toList).1, (partL s.data.toList).2.1), .int .i64 (partL s.data.toList).2.2]) ∧ Below w.heap.size w w' := by
  go_enter Tryd.func10, Tryd.ntmps10
  go_wp2_with fail
  refine (cut_ok s _ hs (hm.below' ((Below.refl _ _).alloc (Nat.le_refl _) _))).mono ?_
  rintro e w' ⟨x, y, f, rfl, hc, n, rfl⟩
  have hp := partL_is hc
  rw [alloc_drewN]
  have hb : Below w.heap.size w (w.drewN n) := ⟨rfl, rfl, rfl, Nat.le_refl _, fun _ _ => rfl⟩
  rw [show w.heap.size = (w.drewN n).heap.size from rfl]
  generalize w.drewN n = W at hb ⊢
  have hml := Lib.mk_data
  cases f with
  | true =>
    by_cases hl : labOk y.data.toList = false
    · rw [if_pos ⟨rfl, hl⟩] at hp
      have HL := hide hl
      have HN : Hid (nameErr [] = 7) := hide (by rfl)
      clear hl hc
      go_wp2_with (first | (go_at_call 21; refine (lab_ok _ _).mono ?_; rw [HL.out]; rintro e w' ⟨rfl, rfl⟩) | (go_at_call 22; refine (dirname_ok _ _).mono ?_; rw [HN.out]; rintro e w' ⟨rfl, rfl⟩))
      refine bodyPost_ret (results_run2 rfl (ResV.struct rfl (Blk.new _ _ _) Tryd.underlying34 (by kernel_rfl)) rfl) rfl ?_
      rw [hp]
      exact ⟨rfl, hb.trans (((Below.refl W.heap.size W).alloc (Nat.le_refl _) _).mono hb.size)⟩
    · have hl : labOk y.data.toList = true := by simpa using hl
      have HL := hide hl
      by_cases e0 : x.data.toList = [] ∨ x.data.toList = [46] ∨ x.data.toList = [46, 46]
      · have hm := Lib.mk_data x
        rcases e0 with e0 | e0 | e0
        · rw [e0] at hm hp
          replace hp : partL s.data.toList = ([], y.data.toList, 0) := by rw [hp]; simp [hl]
          have HN : Hid (nameErr (⟨#[]⟩ : ByteArray).data.toList = 7) := hide (by rfl)
          clear hc e0
          subst hm
          go_wp2_with (first | (go_at_call 21; refine (lab_ok _ _).mono ?_; rw [HL.out]; rintro e w' ⟨rfl, rfl⟩) | (go_at_call 22; refine (dirname_ok _ _).mono ?_; rw [HN.out]; rintro e w' ⟨rfl, rfl⟩))
          refine bodyPost_ret (results_run2 rfl (ResV.struct rfl (Blk.new _ _ _) Tryd.underlying34 (by kernel_rfl)) rfl) rfl ?_
          rw [hp]
          simp only [pv, Lib.mk_data]
          exact ⟨rfl, hb.trans (((Below.refl W.heap.size W).alloc (Nat.le_refl _) _).mono hb.size)⟩
        · rw [e0] at hm hp
          replace hp : partL s.data.toList = ([], [], 7) := by rw [hp]; simp [hl]
          have HN : Hid (nameErr (⟨#[46]⟩ : ByteArray).data.toList = 7) := hide (by rfl)
          clear hc e0
          subst hm
          go_wp2_with (first | (go_at_call 21; refine (lab_ok _ _).mono ?_; rw [HL.out]; rintro e w' ⟨rfl, rfl⟩) | (go_at_call 22; refine (dirname_ok _ _).mono ?_; rw [HN.out]; rintro e w' ⟨rfl, rfl⟩))
          refine bodyPost_ret (results_run2 rfl (ResV.struct rfl (Blk.new _ _ _) Tryd.underlying34 (by kernel_rfl)) rfl) rfl ?_
          rw [hp]
          exact ⟨rfl, hb.trans (((Below.refl W.heap.size W).alloc (Nat.le_refl _) _).mono hb.size)⟩
        · rw [e0] at hm hp
          replace hp : partL s.data.toList = ([], [], 7) := by rw [hp]; simp [hl]
          have HN : Hid (nameErr (⟨#[46, 46]⟩ : ByteArray).data.toList = 7) := hide (by rfl)
          clear hc e0
          subst hm
          go_wp2_with (first | (go_at_call 21; refine (lab_ok _ _).mono ?_; rw [HL.out]; rintro e w' ⟨rfl, rfl⟩) | (go_at_call 22; refine (dirname_ok _ _).mono ?_; rw [HN.out]; rintro e w' ⟨rfl, rfl⟩))
          refine bodyPost_ret (results_run2 rfl (ResV.struct rfl (Blk.new _ _ _) Tryd.underlying34 (by kernel_rfl)) rfl) rfl ?_
          rw [hp]
          exact ⟨rfl, hb.trans (((Below.refl W.heap.size W).alloc (Nat.le_refl _) _).mono hb.size)⟩
      · have n1 : ¬ x.toList = [] := by rw [Lib.toList_data]; exact fun h => e0 (Or.inl h)
        have n2 : ¬ x.toList = [46] := by rw [Lib.toList_data]; exact fun h => e0 (Or.inr (Or.inl h))
        have n3 : ¬ x.toList = [46, 46] := by rw [Lib.toList_data]; exact fun h => e0 (Or.inr (Or.inr h))
        have b1 : x.toList.isEmpty = false := by simpa using n1
        have b2 : (x.toList == [46]) = false := by simpa using n2
        have b3 : (x.toList == [46, 46]) = false := by simpa using n3
        obtain ⟨er, her⟩ : ∃ er, nameErr x.data.toList = er := ⟨_, rfl⟩
        have HN := hide her
        rw [if_neg (by simp [hl]), if_neg (fun h => e0 (Or.inl h.1)), if_neg (fun h => e0 (Or.inr h)), her] at hp
        clear hc e0 her
        by_cases hz : er = 0
        · have hz' : (er == 0) = true := by simp [hz]
          rw [if_neg (fun h => h hz)] at hp
          subst hz
          go_wp2_with (first | (go_at_call 21; refine (lab_ok _ _).mono ?_; rw [HL.out]; rintro e w' ⟨rfl, rfl⟩) | (go_at_call 22; refine (dirname_ok _ _).mono ?_; rw [HN.out]; rintro e w' ⟨rfl, rfl⟩))
          refine bodyPost_ret (results_run2 rfl (ResV.struct rfl (Blk.new _ _ _) Tryd.underlying34 (by kernel_rfl)) rfl) rfl ?_
          rw [hp]
          simp only [pv, Lib.mk_data]
          exact ⟨rfl, hb.trans (((Below.refl W.heap.size W).alloc (Nat.le_refl _) _).mono hb.size)⟩
        · have hz' : (er == 0) = false := by simp [hz]
          rw [if_pos hz] at hp
          go_wp2_with (first | (go_at_call 21; refine (lab_ok _ _).mono ?_; rw [HL.out]; rintro e w' ⟨rfl, rfl⟩) | (go_at_call 22; refine (dirname_ok _ _).mono ?_; rw [HN.out]; rintro e w' ⟨rfl, rfl⟩))
          refine bodyPost_ret (results_run2 rfl (ResV.struct rfl (Blk.new _ _ _) Tryd.underlying34 (by kernel_rfl)) rfl) rfl ?_
          rw [hp]
          exact ⟨rfl, hb.trans (((Below.refl W.heap.size W).alloc (Nat.le_refl _) _).mono hb.size)⟩
  | false =>
    have HL : Hid (labOk [] = false) := hide (by rfl)
    by_cases e0 : x.data.toList = [] ∨ x.data.toList = [46] ∨ x.data.toList = [46, 46]
    · have hm := Lib.mk_data x
      rcases e0 with e0 | e0 | e0
      · rw [e0] at hm hp
        replace hp : partL s.data.toList = ([], [], 7) := by rw [hp]; simp [nameErr]
        have HN : Hid (nameErr (⟨#[]⟩ : ByteArray).data.toList = 7) := hide (by rfl)
        clear hc e0
        subst hm
        go_wp2_with (first | (go_at_call 21; refine (lab_ok _ _).mono ?_; rw [HL.out]; rintro e w' ⟨rfl, rfl⟩) | (go_at_call 22; refine (dirname_ok _ _).mono ?_; rw [HN.out]; rintro e w' ⟨rfl, rfl⟩))
        refine bodyPost_ret (results_run2 rfl (ResV.struct rfl (Blk.new _ _ _) Tryd.underlying34 (by kernel_rfl)) rfl) rfl ?_
        rw [hp]
        exact ⟨rfl, hb.trans (((Below.refl W.heap.size W).alloc (Nat.le_refl _) _).mono hb.size)⟩
      · rw [e0] at hm hp
        replace hp : partL s.data.toList = ([46], [], 0) := by rw [hp]; simp
        have HN : Hid (nameErr (⟨#[46]⟩ : ByteArray).data.toList = 7) := hide (by rfl)
        clear hc e0
        subst hm
        go_wp2_with (first | (go_at_call 21; refine (lab_ok _ _).mono ?_; rw [HL.out]; rintro e w' ⟨rfl, rfl⟩) | (go_at_call 22; refine (dirname_ok _ _).mono ?_; rw [HN.out]; rintro e w' ⟨rfl, rfl⟩))
        refine bodyPost_ret (results_run2 rfl (ResV.struct rfl (Blk.new _ _ _) Tryd.underlying34 (by kernel_rfl)) rfl) rfl ?_
        rw [hp]
        exact ⟨rfl, hb.trans (((Below.refl W.heap.size W).alloc (Nat.le_refl _) _).mono hb.size)⟩
      · rw [e0] at hm hp
        replace hp : partL s.data.toList = ([46, 46], [], 0) := by rw [hp]; simp
        have HN : Hid (nameErr (⟨#[46, 46]⟩ : ByteArray).data.toList = 7) := hide (by rfl)
        clear hc e0
        subst hm
        go_wp2_with (first | (go_at_call 21; refine (lab_ok _ _).mono ?_; rw [HL.out]; rintro e w' ⟨rfl, rfl⟩) | (go_at_call 22; refine (dirname_ok _ _).mono ?_; rw [HN.out]; rintro e w' ⟨rfl, rfl⟩))
        refine bodyPost_ret (results_run2 rfl (ResV.struct rfl (Blk.new _ _ _) Tryd.underlying34 (by kernel_rfl)) rfl) rfl ?_
        rw [hp]
        exact ⟨rfl, hb.trans (((Below.refl W.heap.size W).alloc (Nat.le_refl _) _).mono hb.size)⟩
    · have n1 : ¬ x.toList = [] := by rw [Lib.toList_data]; exact fun h => e0 (Or.inl h)
      have n2 : ¬ x.toList = [46] := by rw [Lib.toList_data]; exact fun h => e0 (Or.inr (Or.inl h))
      have n3 : ¬ x.toList = [46, 46] := by rw [Lib.toList_data]; exact fun h => e0 (Or.inr (Or.inr h))
      have b1 : x.toList.isEmpty = false := by simpa using n1
      have b2 : (x.toList == [46]) = false := by simpa using n2
      have b3 : (x.toList == [46, 46]) = false := by simpa using n3
      obtain ⟨er, her⟩ : ∃ er, nameErr x.data.toList = er := ⟨_, rfl⟩
      have HN := hide her
      rw [if_neg (by simp), if_neg (fun h => e0 (Or.inl h.1)), if_neg (fun h => e0 (Or.inr h)), her] at hp
      clear hc e0 her
      by_cases hz : er = 0
      · have hz' : (er == 0) = true := by simp [hz]
        rw [if_neg (fun h => h hz)] at hp
        subst hz
        go_wp2_with (first | (go_at_call 21; refine (lab_ok _ _).mono ?_; rw [HL.out]; rintro e w' ⟨rfl, rfl⟩) | (go_at_call 22; refine (dirname_ok _ _).mono ?_; rw [HN.out]; rintro e w' ⟨rfl, rfl⟩))
        refine bodyPost_ret (results_run2 rfl (ResV.struct rfl (Blk.new _ _ _) Tryd.underlying34 (by kernel_rfl)) rfl) rfl ?_
        rw [hp]
        simp only [pv, Lib.mk_data]
        exact ⟨rfl, hb.trans (((Below.refl W.heap.size W).alloc (Nat.le_refl _) _).mono hb.size)⟩
      · have hz' : (er == 0) = false := by simp [hz]
        rw [if_pos hz] at hp
        go_wp2_with (first | (go_at_call 21; refine (lab_ok _ _).mono ?_; rw [HL.out]; rintro e w' ⟨rfl, rfl⟩) | (go_at_call 22; refine (dirname_ok _ _).mono ?_; rw [HN.out]; rintro e w' ⟨rfl, rfl⟩))
        refine bodyPost_ret (results_run2 rfl (ResV.struct rfl (Blk.new _ _ _) Tryd.underlying34 (by kernel_rfl)) rfl) rfl ?_
        rw [hp]
        exact ⟨rfl, hb.trans (((Below.refl W.heap.size W).alloc (Nat.le_refl _) _).mono hb.size)⟩

theorem index_at : ∀ {l : BL} {a : Nat}, l[a]? = some 64 → (∀ j, j < a → l[j]? ≠ some 64) → Lib.index l [64] = a
  | [], a, h, _ => by simp at h
  | c :: r, 0, h, _ => by
    obtain rfl : c = 64 := by simpa using h
    exact index_cons_eq 64 r
  | c :: r, a + 1, h, hn => by
    have hc : c ≠ 64 := fun e => hn 0 (by omega) (by simp [e])
    have ih := index_at (l := r) (a := a) (by simpa using h) (fun j hj => by have := hn (j + 1) (by omega); simpa using this)
    rw [index_cons_ne r hc, ih, if_neg (by simp)]
    omega
theorem index_not : ∀ {l : BL}, (∀ j, j < l.length → l[j]? ≠ some 64) → Lib.index l [64] = -1
  | [], _ => by simp [Lib.index]
  | c :: r, hn => by
    have hc : c ≠ 64 := fun e => hn 0 (by simp) (by simp [e])
    have ih := index_not (l := r) (fun j hj => by have := hn (j + 1) (by simpa using hj); simpa using this)
    rw [index_cons_ne r hc, ih]; rfl

set_option maxRecDepth 100000 in
set_option maxHeartbeats 4000000 in
theorem refpart_ok (s : ByteArray) (w : World) (hs : s.size < 4294967281) :
    Calls Tryd.prog 11 #[.string s] w fun e w' => e = .returned (.tuple #[pv ((partL s.data.toList).1, (partL s.data.toList).2.1), .int .i64 (partL s.data.toList).2.2]) ∧ Below w.heap.size w w' := by
  go_enter Tryd.func11, Tryd.ntmps11
  have hsub : RowKit.wrap64 ((s.size : Int) - 1) = (s.size : Int) - 1 := by rw [← IntWalk.i64_left, IntWalk.i64_in _ (by omega)]
  go_wp2
  go_loopg [4, 5] s.size (fun g av i wr => ∃ k : Nat, k ≤ s.size ∧ g = k ∧ i = .int .i64 ((k : Int) - 1) ∧ wr = w.alloc (.cells #[.string ⟨#[]⟩, .string ⟨#[]⟩] 34) ∧ ∃ a : Int, av = .int .i64 a ∧
    ((a = -1 ∧ ∀ j, k ≤ j → j < s.size → s.data.toList[j]? ≠ some 64) ∨ ∃ n : Nat, a = n ∧ k ≤ n ∧ n < s.size ∧ s.data.toList[n]? = some 64 ∧ ∀ j, k ≤ j → j < n → s.data.toList[j]? ≠ some 64))
  case atStart => exact ⟨s.size, Nat.le_refl _, rfl, rfl, rfl, -1, rfl, Or.inl ⟨rfl, fun j h1 h2 => by omega⟩⟩
  case round =>
    obtain ⟨k, hk, hg, rfl, rfl, a, rfl, hA⟩ := hrel
    clear hsub
    by_cases hk0 : 0 < k
    · obtain ⟨k, rfl⟩ : ∃ k', k = k' + 1 := ⟨k - 1, by omega⟩
      have e1 : ((k + 1 : Nat) : Int) - 1 = k := by omega
      rw [e1]
      have hkk : k < s.size := by omega
      have hkz : (k : Int) < s.size := by omega
      have hb := get_byte s k hkk
      have hge : decide ((0 : Int) ≤ k) = true := by simp
      have hs1 : RowKit.wrap64 ((k : Int) - 1) = (k : Int) - 1 := by rw [← IntWalk.i64_left, IntWalk.i64_in _ (by omega)]
      by_cases h64 : s[k] = 64
      · have t1 : (((s[k].toNat : Nat) : Int) == 64) = true := by rw [h64]; rfl
        have hA' : s.data.toList[k]? = some 64 := by rw [hb, h64]
        clear hA hb h64
        go_wp2
        go_roundg k
        case measure => omega
        case rel => exact ⟨k, by omega, rfl, rfl, rfl, k, rfl, Or.inr ⟨k, rfl, Nat.le_refl _, hkk, hA', fun j h1 h2 => by omega⟩⟩
      · have t1 : (((s[k].toNat : Nat) : Int) == 64) = false := by
          rw [beq_eq_false_iff_ne]; intro h; exact h64 (UInt8.toNat_inj.1 (by show s[k].toNat = 64; omega))
        have hne : s.data.toList[k]? ≠ some 64 := by rw [hb]; simpa using h64
        have hA' : ((a = -1 ∧ ∀ j, k ≤ j → j < s.size → s.data.toList[j]? ≠ some 64) ∨ ∃ n : Nat, a = n ∧ k ≤ n ∧ n < s.size ∧ s.data.toList[n]? = some 64 ∧ ∀ j, k ≤ j → j < n → s.data.toList[j]? ≠ some 64) := by
          rcases hA with ⟨h1, h2⟩ | ⟨n, h1, h2, h3, h4, h5⟩
          · exact Or.inl ⟨h1, fun j hj hj2 => by rcases Nat.eq_or_lt_of_le hj with rfl | h; exact hne; exact h2 j h hj2⟩
          · exact Or.inr ⟨n, h1, by omega, h3, h4, fun j hj hj2 => by rcases Nat.eq_or_lt_of_le hj with rfl | h; exact hne; exact h5 j h hj2⟩
        have HA := hide hA'
        clear hA hb h64 hne hA'
        go_wp2
        go_roundg k
        case measure => omega
        case rel => exact ⟨k, by omega, rfl, rfl, rfl, a, rfl, HA.out⟩
    · obtain rfl : k = 0 := by omega
      have e1 : ((0 : Nat) : Int) - 1 = -1 := by omega
      rw [e1]
      rcases hA with ⟨rfl, h2⟩ | ⟨n, rfl, h2, h3, h4, h5⟩
      · have hc : (s.data.toList, [], false) = Lib.cut s.data.toList [64] := by
          have hi := index_not (l := s.data.toList) (fun j hj => h2 j (by omega) (by rw [sz]; exact hj))
          unfold Lib.cut; rw [hi]; rfl
        have hp := partL_is hc
        clear hc h2
        have HL : Hid (labOk [] = false) := hide (by rfl)
        by_cases e0 : s.data.toList = [] ∨ s.data.toList = [46] ∨ s.data.toList = [46, 46]
        · have hm := Lib.mk_data s
          rcases e0 with e0 | e0 | e0
          · rw [e0] at hm hp
            replace hp : partL [] = ([], [], 7) := by rw [hp]; simp [nameErr]
            have HN : Hid (nameErr (⟨#[]⟩ : ByteArray).data.toList = 7) := hide (by rfl)
            clear e0
            subst hm
            have HP := hide hp
            clear hp
            go_wp2_with (first | (go_at_call 24; refine (reflab_ok _ _).mono ?_; rw [HL.out]; rintro e w' ⟨rfl, rfl⟩) | (go_at_call 23; refine (refname_ok _ _).mono ?_; rw [HN.out]; rintro e w' ⟨rfl, rfl⟩))
            refine bodyPost_ret (results_run2 rfl (ResV.struct rfl (Blk.new _ _ _) Tryd.underlying34 (by kernel_rfl)) rfl) rfl ?_
            refine ⟨?_, (Below.refl _ _).alloc (Nat.le_refl _) _⟩
            show _ = Ending.returned (.tuple #[pv ((partL []).1, (partL []).2.1), .int .i64 (partL []).2.2])
            rw [HP.out]
            rfl
          · rw [e0] at hm hp
            replace hp : partL [46] = ([46], [], 0) := by rw [hp]; simp
            have HN : Hid (nameErr (⟨#[46]⟩ : ByteArray).data.toList = 7) := hide (by rfl)
            clear e0
            subst hm
            have HP := hide hp
            clear hp
            go_wp2_with (first | (go_at_call 24; refine (reflab_ok _ _).mono ?_; rw [HL.out]; rintro e w' ⟨rfl, rfl⟩) | (go_at_call 23; refine (refname_ok _ _).mono ?_; rw [HN.out]; rintro e w' ⟨rfl, rfl⟩))
            refine bodyPost_ret (results_run2 rfl (ResV.struct rfl (Blk.new _ _ _) Tryd.underlying34 (by kernel_rfl)) rfl) rfl ?_
            refine ⟨?_, (Below.refl _ _).alloc (Nat.le_refl _) _⟩
            show _ = Ending.returned (.tuple #[pv ((partL [46]).1, (partL [46]).2.1), .int .i64 (partL [46]).2.2])
            rw [HP.out]
            rfl
          · rw [e0] at hm hp
            replace hp : partL [46, 46] = ([46, 46], [], 0) := by rw [hp]; simp
            have HN : Hid (nameErr (⟨#[46, 46]⟩ : ByteArray).data.toList = 7) := hide (by rfl)
            clear e0
            subst hm
            have HP := hide hp
            clear hp
            go_wp2_with (first | (go_at_call 24; refine (reflab_ok _ _).mono ?_; rw [HL.out]; rintro e w' ⟨rfl, rfl⟩) | (go_at_call 23; refine (refname_ok _ _).mono ?_; rw [HN.out]; rintro e w' ⟨rfl, rfl⟩))
            refine bodyPost_ret (results_run2 rfl (ResV.struct rfl (Blk.new _ _ _) Tryd.underlying34 (by kernel_rfl)) rfl) rfl ?_
            refine ⟨?_, (Below.refl _ _).alloc (Nat.le_refl _) _⟩
            show _ = Ending.returned (.tuple #[pv ((partL [46, 46]).1, (partL [46, 46]).2.1), .int .i64 (partL [46, 46]).2.2])
            rw [HP.out]
            rfl
        · have n1 : ¬ s.toList = [] := by rw [Lib.toList_data]; exact fun h => e0 (Or.inl h)
          have n2 : ¬ s.toList = [46] := by rw [Lib.toList_data]; exact fun h => e0 (Or.inr (Or.inl h))
          have n3 : ¬ s.toList = [46, 46] := by rw [Lib.toList_data]; exact fun h => e0 (Or.inr (Or.inr h))
          have b1 : s.toList.isEmpty = false := by simpa using n1
          have b2 : (s.toList == [46]) = false := by simpa using n2
          have b3 : (s.toList == [46, 46]) = false := by simpa using n3
          obtain ⟨er, her⟩ : ∃ er, nameErr s.data.toList = er := ⟨_, rfl⟩
          have HN := hide her
          rw [if_neg (by simp), if_neg (fun h => e0 (Or.inl h.1)), if_neg (fun h => e0 (Or.inr h)), her] at hp
          clear e0 her
          by_cases hz : er = 0
          · have hz' : (er == 0) = true := by simp [hz]
            rw [if_neg (fun h => h hz)] at hp
            subst hz
            have HP := hide hp
            clear hp
            go_wp2_with (first | (go_at_call 24; refine (reflab_ok _ _).mono ?_; rw [HL.out]; rintro e w' ⟨rfl, rfl⟩) | (go_at_call 23; refine (refname_ok _ _).mono ?_; rw [HN.out]; rintro e w' ⟨rfl, rfl⟩))
            refine bodyPost_ret (results_run2 rfl (ResV.struct rfl (Blk.new _ _ _) Tryd.underlying34 (by kernel_rfl)) rfl) rfl ?_
            rw [HP.out]
            simp only [pv, Lib.mk_data]
            exact ⟨rfl, (Below.refl _ _).alloc (Nat.le_refl _) _⟩
          · have hz' : (er == 0) = false := by simp [hz]
            rw [if_pos hz] at hp
            have HP := hide hp
            clear hp
            go_wp2_with (first | (go_at_call 24; refine (reflab_ok _ _).mono ?_; rw [HL.out]; rintro e w' ⟨rfl, rfl⟩) | (go_at_call 23; refine (refname_ok _ _).mono ?_; rw [HN.out]; rintro e w' ⟨rfl, rfl⟩))
            refine bodyPost_ret (results_run2 rfl (ResV.struct rfl (Blk.new _ _ _) Tryd.underlying34 (by kernel_rfl)) rfl) rfl ?_
            rw [HP.out]
            exact ⟨rfl, (Below.refl _ _).alloc (Nat.le_refl _) _⟩
      · have hc : ((s.extract 0 n).data.toList, (s.extract (n + 1) s.size).data.toList, true) = Lib.cut s.data.toList [64] := by
          have hi := index_at (l := s.data.toList) h4 (fun j hj => h5 j (by omega) hj)
          have hsz := sz s
          unfold Lib.cut; rw [hi, if_pos (by omega), Lib.extract_data, Lib.extract_data, List.drop_zero, Nat.sub_zero, Int.toNat_natCast, List.take_of_length_le (l := s.data.toList.drop (n + 1)) (by rw [List.length_drop]; omega)]
          rfl
        have hp := partL_is hc
        clear hc h4 h5
        obtain ⟨x, hx⟩ : ∃ x, s.extract 0 n = x := ⟨_, rfl⟩
        obtain ⟨y, hy⟩ : ∃ y, s.extract (n + 1) s.size = y := ⟨_, rfl⟩
        rw [hx, hy] at hp
        have c1 : (0 : Int) ≤ n := by omega
        have c2 : (n : Int) ≤ s.size := by omega
        have c3 : (n : Int) + 1 ≤ s.size := by omega
        have t0 : decide ((n : Int) < 0) = false := by simp
        by_cases hl : labOk y.data.toList = false
        · rw [if_pos ⟨rfl, hl⟩] at hp
          have HP := hide hp
          have HL := hide hl
          have HN : Hid (nameErr [] = 7) := hide (by rfl)
          clear hp hl
          go_upto_if 50 with (fail)
          go_region
          go_wp2_with (first | (go_at_call 24; refine (reflab_ok _ _).mono ?_; rw [HL.out]; rintro e w' ⟨rfl, rfl⟩) | (go_at_call 23; refine (refname_ok _ _).mono ?_; rw [HN.out]; rintro e w' ⟨rfl, rfl⟩))
          refine bodyPost_ret (results_run2 rfl (ResV.struct rfl (((Blk.new _ _ _).alloc _).drew) Tryd.underlying34 (by kernel_rfl)) rfl) rfl ?_
          rw [HP.out]
          exact ⟨rfl, (((Below.refl _ _).alloc (Nat.le_refl _) _).alloc (by simp) _).drew⟩
        · have hl : labOk y.data.toList = true := by simpa using hl
          have HL := hide hl
          rw [if_neg (by simp [hl])] at hp
          clear hl
          by_cases hx0 : x.data.toList = []
          · have hm := Lib.mk_data x
            rw [if_pos ⟨hx0, rfl⟩] at hp
            rw [hx0] at hm
            have HP := hide hp
            have HN : Hid (nameErr [] = 7) := hide (by rfl)
            have ht : x.toList = [] := by rw [Lib.toList_data]; exact hx0
            have HM := hide hm
            clear hp hx0 hm
            go_upto_if 50 with (fail)
            go_region
            go_wp2_with (first | (go_at_call 24; refine (reflab_ok _ _).mono ?_; rw [HL.out]; rintro e w' ⟨rfl, rfl⟩) | (go_at_call 23; refine (refname_ok _ _).mono ?_; rw [HN.out]; rintro e w' ⟨rfl, rfl⟩))
            refine bodyPost_ret (results_run2 rfl (ResV.struct rfl (((Blk.new _ _ _).alloc _).drew) Tryd.underlying34 (by kernel_rfl)) rfl) rfl ?_
            rw [HP.out]
            simp only [pv, Lib.mk_data, HM.out]
            exact ⟨rfl, (((Below.refl _ _).alloc (Nat.le_refl _) _).alloc (by simp) _).drew⟩
          · rw [if_neg (fun h => hx0 h.1)] at hp
            have n1 : ¬ x.toList = [] := by rw [Lib.toList_data]; exact hx0
            have b1 : x.toList.isEmpty = false := by simpa using n1
            obtain ⟨er, her⟩ : ∃ er, nameErr x.data.toList = er := ⟨_, rfl⟩
            have HN := hide her
            have hp2 : partL s.data.toList = if er ≠ 0 then ([], [], er) else (x.data.toList, y.data.toList, 0) := by
              rw [hp, ← her]
              by_cases h2 : x.data.toList = [46] ∨ x.data.toList = [46, 46]
              · rw [if_pos h2, if_pos rfl]
                have : nameErr x.data.toList = 7 := by unfold nameErr; rw [if_pos (Or.inr h2)]
                rw [this]; rfl
              · rw [if_neg h2]
            clear hp hx0 her
            by_cases hz : er = 0
            · have hz' : (er == 0) = true := by simp [hz]
              rw [if_neg (fun h => h hz)] at hp2
              subst hz
              have HP := hide hp2
              clear hp2
              go_upto_if 50 with (fail)
              go_region
              go_wp2_with (first | (go_at_call 24; refine (reflab_ok _ _).mono ?_; rw [HL.out]; rintro e w' ⟨rfl, rfl⟩) | (go_at_call 23; refine (refname_ok _ _).mono ?_; rw [HN.out]; rintro e w' ⟨rfl, rfl⟩))
              refine bodyPost_ret (results_run2 rfl (ResV.struct rfl (((Blk.new _ _ _).alloc _).drew) Tryd.underlying34 (by kernel_rfl)) rfl) rfl ?_
              rw [HP.out]
              simp only [pv, Lib.mk_data]
              exact ⟨rfl, (((Below.refl _ _).alloc (Nat.le_refl _) _).alloc (by simp) _).drew⟩
            · have hz' : (er == 0) = false := by simp [hz]
              rw [if_pos hz] at hp2
              have HP := hide hp2
              clear hp2
              go_upto_if 50 with (fail)
              go_region
              go_wp2_with (first | (go_at_call 24; refine (reflab_ok _ _).mono ?_; rw [HL.out]; rintro e w' ⟨rfl, rfl⟩) | (go_at_call 23; refine (refname_ok _ _).mono ?_; rw [HN.out]; rintro e w' ⟨rfl, rfl⟩))
              refine bodyPost_ret (results_run2 rfl (ResV.struct rfl (((Blk.new _ _ _).alloc _).drew) Tryd.underlying34 (by kernel_rfl)) rfl) rfl ?_
              rw [HP.out]
              exact ⟨rfl, (((Below.refl _ _).alloc (Nat.le_refl _) _).alloc (by simp) _).drew⟩
end Go.Proofs.YtkjgieehiimiiaaDoor

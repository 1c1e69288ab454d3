/- Layer 21, the document's pipes: each method's contract in words, with the same pure answers as pipe.Pipes' own. -/
import Derived.Test.YtkjgieehiimiiaaRefWalks
import Derived.Test.YtkjgieehiimiiaaRefRW
namespace Go.Proofs.Ytkjgieehiimiiaa
open Go.RowKit

section
variable {p n c : Nat} {A : Option Addr} {es : List RE} {w w' : World} {F : Nat → Prop} {L : PL} {nx : List UInt16}
theorem RefIn.at_ (h : RefIn w p F es nx A n c) {k : PKey} {i : Nat} (hp : pos es k = some i) :
    ∃ A0 l0 c0 r s, es[i]? = some (⟨k, A0, l0, c0, r, s⟩ : RE) ∧ mget (toL es) k = some (l0, r, s) ∧ l0.length ≤ 256 := by
  obtain ⟨e, he, hk⟩ := pos_some hp
  obtain ⟨k0, A0, l0, c0, r, s⟩ := e
  obtain rfl : k0 = k := hk
  exact ⟨A0, l0, c0, r, s, he, mget_pos hp he, (h.own _ (List.mem_of_getElem? he)).2.2⟩
theorem toL_set {k : PKey} {A0 A1 : Option Addr} {l0 : List UInt8} {c0 c1 r s i : Nat} (he : es[i]? = some (⟨k, A0, l0, c0, r, s⟩ : RE)) : toL (es.set i ⟨k, A1, l0, c1, r, s⟩) = toL es := by
  unfold toL
  rw [List.map_set]
  refine List.ext_getElem? fun j => ?_
  by_cases hj : i = j
  · subst hj
    rw [List.getElem?_set_self (by simpa using (List.getElem?_eq_some_iff.1 he).1)]
    simp [he]
  · rw [List.getElem?_set_ne hj]
theorem RefAt.len (h : RefAt w p F L nx) : ∃ es A n c, RefIn w p F es nx A n c ∧ toL es = L ∧ n = L.length := by
  obtain ⟨es, A, n, c, h, rfl⟩ := h
  exact ⟨es, A, n, c, h, rfl, by rw [toL_length, h.len]⟩
theorem mput_self {k : PKey} {v : PVal} (h : mget L k = some v) : mput L k v = L := by
  induction L with
  | nil => cases h
  | cons a L ih =>
    obtain ⟨k0, v0⟩ := a
    by_cases e : k0 = k
    · simp [mget, e] at h
      simp [mput, e, h]
    · simp [mget, e] at h
      simp [mput, e, ih h]

theorem rjoin_at (h : RefAt w p F L nx) (hL : L.length ≤ 60000) (nm : Bool) (lb : UInt8) (nu ge : UInt16) (rd wr : Bool) (hrw : (rd || wr) = true) (hr : ((mget L (nm, lb, nu, ge)).getD ([], 0, 0)).2.1 < 60000) (hs : ((mget L (nm, lb, nu, ge)).getD ([], 0, 0)).2.2 < 60000) :
    Calls Try.prog 29 #[.pointer (some ⟨p, 0, none⟩), .bool nm, .agg #[.int .u8 (lb.toNat : Int), .int .u16 (nu.toNat : Int), .int .u16 (ge.toNat : Int)], .bool rd, .bool wr] w fun ex w' =>
      ex = .returned (.tuple #[]) ∧ ∃ F', RefAt w' p F' (pjoin L (nm, lb, nu, ge) rd wr) nx ∧ Went w w' F F' := by
  obtain ⟨es, A, n, c, hx, hxL, hn⟩ := h.len
  clear h
  subst hxL
  have h := hx
  clear hx
  cases hp : pos es (nm, lb, nu, ge) with
  | some i =>
    obtain ⟨A0, l0, c0, r, s, he, hm, hl⟩ := h.at_ hp
    unfold pjoin
    rw [hm] at hr hs ⊢
    cases rd <;> cases wr
    · cases hrw
    · refine (rjoin_w p nm lb nu ge A n c es nx F w h (by omega) hp he hr hs hl).mono ?_
      rintro ex w' ⟨rfl, F', h', hW⟩
      exact ⟨rfl, F', ⟨_, _, _, _, h', (mput_pos hp (e' := ⟨(nm, lb, nu, ge), A0, l0, c0, r, s + 1⟩) rfl).symm⟩, hW⟩
    · refine (rjoin_r p nm lb nu ge A n c es nx F w h (by omega) hp he hr hs hl).mono ?_
      rintro ex w' ⟨rfl, F', h', hW⟩
      exact ⟨rfl, F', ⟨_, _, _, _, h', (mput_pos hp (e' := ⟨(nm, lb, nu, ge), A0, l0, c0, r + 1, s⟩) rfl).symm⟩, hW⟩
    · refine (rjoin_rw p nm lb nu ge A n c es nx F w h (by omega) hp he hr hs hl).mono ?_
      rintro ex w' ⟨rfl, F', h', hW⟩
      exact ⟨rfl, F', ⟨_, _, _, _, h', (mput_pos hp (e' := ⟨(nm, lb, nu, ge), A0, l0, c0, r + 1, s + 1⟩) rfl).symm⟩, hW⟩
  | none =>
    have hm := mget_pos_none hp
    unfold pjoin
    rw [hm]
    cases rd <;> cases wr
    · cases hrw
    · refine (rjoinnew_w p nm lb nu ge A n c es nx F w h (by omega) hp).mono ?_
      rintro ex w' ⟨rfl, F', A', n', c', h', hW⟩
      exact ⟨rfl, F', ⟨_, _, _, _, h', (mput_pos_none hp (e' := ⟨(nm, lb, nu, ge), none, [], 0, 0, 1⟩) rfl).symm⟩, hW⟩
    · refine (rjoinnew_r p nm lb nu ge A n c es nx F w h (by omega) hp).mono ?_
      rintro ex w' ⟨rfl, F', A', n', c', h', hW⟩
      exact ⟨rfl, F', ⟨_, _, _, _, h', (mput_pos_none hp (e' := ⟨(nm, lb, nu, ge), none, [], 0, 1, 0⟩) rfl).symm⟩, hW⟩
    · refine (rjoinnew_rw p nm lb nu ge A n c es nx F w h (by omega) hp).mono ?_
      rintro ex w' ⟨rfl, F', A', n', c', h', hW⟩
      exact ⟨rfl, F', ⟨_, _, _, _, h', (mput_pos_none hp (e' := ⟨(nm, lb, nu, ge), none, [], 0, 1, 1⟩) rfl).symm⟩, hW⟩

theorem rleave_at (h : RefAt w p F L nx) (hL : L.length ≤ 60000) (nm : Bool) (lb : UInt8) (nu ge : UInt16) (rd wr : Bool) (hr : ((mget L (nm, lb, nu, ge)).getD ([], 0, 0)).2.1 < 60000) (hs : ((mget L (nm, lb, nu, ge)).getD ([], 0, 0)).2.2 < 60000) :
    Calls Try.prog 25 #[.pointer (some ⟨p, 0, none⟩), .bool nm, .agg #[.int .u8 (lb.toNat : Int), .int .u16 (nu.toNat : Int), .int .u16 (ge.toNat : Int)], .bool rd, .bool wr] w fun ex w' =>
      ex = .returned (.tuple #[]) ∧ ∃ F', RefAt w' p F' (pleave L (nm, lb, nu, ge) rd wr) nx ∧ Went w w' F F' := by
  obtain ⟨es, A, n, c, hx, hxL, hn⟩ := h.len
  clear h
  subst hxL
  have h := hx
  clear hx
  cases hp : pos es (nm, lb, nu, ge) with
  | none =>
    have hm := mget_pos_none hp
    unfold pleave
    rw [hm]
    refine (rleave_none p nm lb nu ge A n c es nx F w rd wr h (by omega) hp).mono ?_
    rintro ex w' ⟨rfl, hb⟩
    exact ⟨rfl, F, ⟨_, _, _, _, h.below hb, rfl⟩, Went.of_below hb⟩
  | some i =>
    obtain ⟨A0, l0, c0, r, s, he, hm, hl⟩ := h.at_ hp
    rw [hm] at hr hs
    have stay : ∀ r1 s1 w', r1 = r - rd.toNat → s1 = s - wr.toNat → r1 + s1 ≠ 0 → (∃ F', RefIn w' p F' (es.set i ⟨(nm, lb, nu, ge), A0, l0, c0, r1, s1⟩) nx A n c ∧ Went w w' F F') → ∃ F', RefAt w' p F' (pleave (toL es) (nm, lb, nu, ge) rd wr) nx ∧ Went w w' F F' := by
      rintro r1 s1 w' rfl rfl hz ⟨F', h', hW⟩
      refine ⟨F', ⟨_, _, _, _, h', ?_⟩, hW⟩
      unfold pleave
      rw [hm]
      simp only
      rw [if_neg hz]
      exact (mput_pos hp (e' := ⟨(nm, lb, nu, ge), A0, l0, c0, r - rd.toNat, s - wr.toNat⟩) rfl).symm
    have gone : ∀ w', r - rd.toNat + (s - wr.toNat) = 0 → (∃ F' A' n' c', RefIn w' p F' (es.take i ++ es.drop (i + 1)) nx A' n' c' ∧ Went w w' F F') → ∃ F', RefAt w' p F' (pleave (toL es) (nm, lb, nu, ge) rd wr) nx ∧ Went w w' F F' := by
      rintro w' hz ⟨F', A', n', c', h', hW⟩
      refine ⟨F', ⟨_, _, _, _, h', ?_⟩, hW⟩
      unfold pleave
      rw [hm]
      simp only
      rw [if_pos hz]
      exact (mdel_pos hp).symm
    have hn' : n ≤ 60000 := by omega
    rcases rd with _ | _ <;> rcases wr with _ | _ <;> simp only [Bool.toNat_false, Bool.toNat_true, Nat.sub_zero] at stay gone
    · by_cases hz : r + s = 0
      · obtain rfl : r = 0 := by omega
        obtain rfl : s = 0 := by omega
        refine (rleave_nn_gone p nm lb nu ge A n c es nx F w h hn' hp he hl).mono ?_
        rintro ex w' ⟨rfl, hx⟩
        exact ⟨rfl, gone w' (by omega) hx⟩
      · refine (rleave_nn_stay p nm lb nu ge A n c es nx F w h hn' hp he hr hs hz hl).mono ?_
        rintro ex w' ⟨rfl, hx⟩
        exact ⟨rfl, stay r s w' (by omega) (by omega) hz hx⟩
    · rcases s with _ | s
      · by_cases hz : r + 0 = 0
        · obtain rfl : r = 0 := by omega
          refine (rleave_nz_gone p nm lb nu ge A n c es nx F w h hn' hp he hl).mono ?_
          rintro ex w' ⟨rfl, hx⟩
          exact ⟨rfl, gone w' (by omega) hx⟩
        · refine (rleave_nz_stay p nm lb nu ge A n c es nx F w h hn' hp he hr hz hl).mono ?_
          rintro ex w' ⟨rfl, hx⟩
          exact ⟨rfl, stay r 0 w' (by omega) (by omega) hz hx⟩
      · by_cases hz : r + s = 0
        · obtain rfl : r = 0 := by omega
          obtain rfl : s = 0 := by omega
          refine (rleave_np_gone p nm lb nu ge A n c es nx F w h hn' hp he hl).mono ?_
          rintro ex w' ⟨rfl, hx⟩
          exact ⟨rfl, gone w' (by omega) hx⟩
        · refine (rleave_np_stay p nm lb nu ge A n c es nx F w h hn' hp he hr hs hz hl).mono ?_
          rintro ex w' ⟨rfl, hx⟩
          exact ⟨rfl, stay r s w' (by omega) (by omega) hz hx⟩
    · rcases r with _ | r
      · by_cases hz : 0 + s = 0
        · obtain rfl : s = 0 := by omega
          refine (rleave_zn_gone p nm lb nu ge A n c es nx F w h hn' hp he hl).mono ?_
          rintro ex w' ⟨rfl, hx⟩
          exact ⟨rfl, gone w' (by omega) hx⟩
        · refine (rleave_zn_stay p nm lb nu ge A n c es nx F w h hn' hp he hs hz hl).mono ?_
          rintro ex w' ⟨rfl, hx⟩
          exact ⟨rfl, stay 0 s w' (by omega) (by omega) hz hx⟩
      · by_cases hz : r + s = 0
        · obtain rfl : r = 0 := by omega
          obtain rfl : s = 0 := by omega
          refine (rleave_pn_gone p nm lb nu ge A n c es nx F w h hn' hp he hl).mono ?_
          rintro ex w' ⟨rfl, hx⟩
          exact ⟨rfl, gone w' (by omega) hx⟩
        · refine (rleave_pn_stay p nm lb nu ge A n c es nx F w h hn' hp he hr hs hz hl).mono ?_
          rintro ex w' ⟨rfl, hx⟩
          exact ⟨rfl, stay r s w' (by omega) (by omega) hz hx⟩
    · rcases r with _ | r <;> rcases s with _ | s
      · refine (rleave_zz_gone p nm lb nu ge A n c es nx F w h hn' hp he hl).mono ?_
        rintro ex w' ⟨rfl, hx⟩
        exact ⟨rfl, gone w' (by omega) hx⟩
      · by_cases hz : 0 + s = 0
        · obtain rfl : s = 0 := by omega
          refine (rleave_zp_gone p nm lb nu ge A n c es nx F w h hn' hp he hl).mono ?_
          rintro ex w' ⟨rfl, hx⟩
          exact ⟨rfl, gone w' (by omega) hx⟩
        · refine (rleave_zp_stay p nm lb nu ge A n c es nx F w h hn' hp he hs hz hl).mono ?_
          rintro ex w' ⟨rfl, hx⟩
          exact ⟨rfl, stay 0 s w' (by omega) (by omega) hz hx⟩
      · by_cases hz : r + 0 = 0
        · obtain rfl : r = 0 := by omega
          refine (rleave_pz_gone p nm lb nu ge A n c es nx F w h hn' hp he hl).mono ?_
          rintro ex w' ⟨rfl, hx⟩
          exact ⟨rfl, gone w' (by omega) hx⟩
        · refine (rleave_pz_stay p nm lb nu ge A n c es nx F w h hn' hp he hr hz hl).mono ?_
          rintro ex w' ⟨rfl, hx⟩
          exact ⟨rfl, stay r 0 w' (by omega) (by omega) hz hx⟩
      · by_cases hz : r + s = 0
        · obtain rfl : r = 0 := by omega
          obtain rfl : s = 0 := by omega
          refine (rleave_pp_gone p nm lb nu ge A n c es nx F w h hn' hp he hl).mono ?_
          rintro ex w' ⟨rfl, hx⟩
          exact ⟨rfl, gone w' (by omega) hx⟩
        · refine (rleave_pp_stay p nm lb nu ge A n c es nx F w h hn' hp he hr hs hz hl).mono ?_
          rintro ex w' ⟨rfl, hx⟩
          exact ⟨rfl, stay r s w' (by omega) (by omega) hz hx⟩

theorem rwrite_at (h : RefAt w p F L nx) (hL : L.length ≤ 60000) (nm : Bool) (lb : UInt8) (nu ge : UInt16) (A2 : Option Addr) (n2 c2 : Nat) (b : List UInt8) (B2 : Nat) (hr2 : Rd w B2 1 A2 n2 (bvs b)) (hB2 : B2 ≤ w.heap.size) (hF2 : ∀ x, F x → B2 ≤ x) (hn2 : n2 ≤ 60000) (hr : ((mget L (nm, lb, nu, ge)).getD ([], 0, 0)).2.1 < 60000) (hs : ((mget L (nm, lb, nu, ge)).getD ([], 0, 0)).2.2 < 60000) :
    Calls Try.prog 26 #[.pointer (some ⟨p, 0, none⟩), .bool nm, .agg #[.int .u8 (lb.toNat : Int), .int .u16 (nu.toNat : Int), .int .u16 (ge.toNat : Int)], .slice A2 n2 c2] w fun ex w' =>
      ex = .returned (.tuple #[.int .i64 ((pwrite L (nm, lb, nu, ge) b).1 : Int), .int .i64 (pwrite L (nm, lb, nu, ge) b).2.1]) ∧ ∃ F', RefAt w' p F' (pwrite L (nm, lb, nu, ge) b).2.2 nx ∧ Went w w' F F' := by
  obtain ⟨es, A, n, c, hx, hxL, hn⟩ := h.len
  clear h
  subst hxL
  have h := hx
  clear hx
  have hbl : b.length = n2 := by have := hr2.len; rw [bvs_length] at this; omega
  unfold pwrite
  cases hp : pos es (nm, lb, nu, ge) with
  | none =>
    rw [mget_pos_none hp]
    refine (rwrite_none p nm lb nu ge A n c es nx F w h (by omega) A2 n2 c2 hp).mono ?_
    rintro ex w' ⟨rfl, hb⟩
    exact ⟨rfl, F, ⟨_, _, _, _, h.below hb, rfl⟩, Went.of_below hb⟩
  | some i =>
    obtain ⟨A0, l0, c0, r, s, he, hm, hl⟩ := h.at_ hp
    rw [hm] at hr hs ⊢
    simp only at hr hs ⊢
    rcases Nat.eq_zero_or_pos r with hr0 | hr0
    · subst hr0
      refine (rwrite_nobody p nm lb nu ge A n c es nx F w A2 n2 c2 h (by omega) hp he hs hl).mono ?_
      rintro ex w' ⟨rfl, hb⟩
      exact ⟨rfl, F, ⟨_, _, _, _, h.below hb, rfl⟩, Went.of_below hb⟩
    · rw [if_neg (by omega)]
      refine (rwrite_ok p nm lb nu ge A n c es nx F w h (by omega) A2 n2 c2 b B2 hr2 hB2 hF2 hn2 hp he hr hs hl hr0).mono ?_
      rintro ex w' ⟨rfl, F', A', c', h', hW⟩
      by_cases hfull : l0.length = 256 ∧ b ≠ []
      · have hb0 : 0 < n2 := by have := List.length_pos_iff.2 hfull.2; omega
        have h0 : min n2 (256 - l0.length) = 0 := by omega
        rw [if_pos hfull, if_pos ⟨h0, hb0⟩, h0]
        rw [h0, List.take_zero, List.append_nil] at h'
        exact ⟨rfl, F', ⟨_, _, _, _, h', toL_set he⟩, hW⟩
      · have h0 : ¬ (min n2 (256 - l0.length) = 0 ∧ 0 < n2) := fun hh => hfull ⟨by omega, fun e => by rw [e] at hbl; simp at hbl; omega⟩
        rw [if_neg hfull, if_neg h0, hbl]
        exact ⟨rfl, F', ⟨_, _, _, _, h', (mput_pos hp (e' := ⟨(nm, lb, nu, ge), A', l0 ++ b.take (min n2 (256 - l0.length)), c', r, s⟩) rfl).symm⟩, hW⟩

theorem rblind_at (h : RefAt w p F L nx) (hL : L.length ≤ 60000) (nm : Bool) (lb : UInt8) (nu ge : UInt16) (A2 : Option Addr) (n2 c2 : Nat) (b : List UInt8) (B2 : Nat) (hr2 : Rd w B2 1 A2 n2 (bvs b)) (hB2 : B2 ≤ w.heap.size) (hF2 : ∀ x, F x → B2 ≤ x) (hn2 : n2 ≤ 60000) (hr : ((mget L (nm, lb, nu, ge)).getD ([], 0, 0)).2.1 < 60000) (hs : ((mget L (nm, lb, nu, ge)).getD ([], 0, 0)).2.2 < 60000) :
    Calls Try.prog 27 #[.pointer (some ⟨p, 0, none⟩), .bool nm, .agg #[.int .u8 (lb.toNat : Int), .int .u16 (nu.toNat : Int), .int .u16 (ge.toNat : Int)], .slice A2 n2 c2] w fun ex w' =>
      ex = .returned (.tuple #[]) ∧ ∃ F', RefAt w' p F' (pblind L (nm, lb, nu, ge) b) nx ∧ Went w w' F F' := by
  obtain ⟨es, A, n, c, hx, hxL, hn⟩ := h.len
  clear h
  subst hxL
  have h := hx
  clear hx
  have hbl : b.length = n2 := by have := hr2.len; rw [bvs_length] at this; omega
  unfold pblind
  cases hp : pos es (nm, lb, nu, ge) with
  | none =>
    rw [mget_pos_none hp]
    refine (rblind_none p nm lb nu ge A n c es nx F w h (by omega) A2 n2 c2 hp).mono ?_
    rintro ex w' ⟨rfl, hb⟩
    exact ⟨rfl, F, ⟨_, _, _, _, h.below hb, rfl⟩, Went.of_below hb⟩
  | some i =>
    obtain ⟨A0, l0, c0, r, s, he, hm, hl⟩ := h.at_ hp
    rw [hm] at hr hs ⊢
    simp only at hr hs ⊢
    rcases Nat.eq_zero_or_pos r with hr0 | hr0
    · subst hr0
      refine (rblind_nobody p nm lb nu ge A n c es nx F w A2 n2 c2 h (by omega) hp he hs hl).mono ?_
      rintro ex w' ⟨rfl, hb⟩
      rw [if_pos (.inl rfl)]
      exact ⟨rfl, F, ⟨_, _, _, _, h.below hb, rfl⟩, Went.of_below hb⟩
    · by_cases hk : l0.length + n2 ≤ 256
      · refine (rblind_ok p nm lb nu ge A n c es nx F w h (by omega) A2 n2 c2 b B2 hr2 hB2 hF2 hn2 hp he hr hs hl hr0 hk).mono ?_
        rintro ex w' ⟨rfl, F', A', c', h', hW⟩
        rw [if_neg (by omega)]
        exact ⟨rfl, F', ⟨_, _, _, _, h', (mput_pos hp (e' := ⟨(nm, lb, nu, ge), A', l0 ++ b, c', r, s⟩) rfl).symm⟩, hW⟩
      · refine (rblind_long p nm lb nu ge A n c es nx F w A2 n2 c2 h (by omega) hp he hr hs hl hr0 hn2 (by omega)).mono ?_
        rintro ex w' ⟨rfl, hb⟩
        rw [if_pos (.inr (by omega))]
        exact ⟨rfl, F, ⟨_, _, _, _, h.below hb, rfl⟩, Went.of_below hb⟩

theorem rread_at (h : RefAt w p F L nx) (hL : L.length ≤ 60000) (nm : Bool) (lb : UInt8) (nu ge : UInt16) (m : Int) (hr : ((mget L (nm, lb, nu, ge)).getD ([], 0, 0)).2.1 < 60000) (hs : ((mget L (nm, lb, nu, ge)).getD ([], 0, 0)).2.2 < 60000) :
    Calls Try.prog 28 #[.pointer (some ⟨p, 0, none⟩), .bool nm, .agg #[.int .u8 (lb.toNat : Int), .int .u16 (nu.toNat : Int), .int .u16 (ge.toNat : Int)], .int .i64 m] w fun ex w' =>
      ∃ A1 n1 c1, ex = .returned (.tuple #[.slice A1 n1 c1, .int .i64 (pread L (nm, lb, nu, ge) m).2.1]) ∧ Rd w' w'.heap.size 1 A1 n1 (bvs (pread L (nm, lb, nu, ge) m).1) ∧ ∃ F', RefAt w' p F' (pread L (nm, lb, nu, ge) m).2.2 nx ∧ Went w w' F F' := by
  obtain ⟨es, A, n, c, hx, hxL, hn⟩ := h.len
  clear h
  subst hxL
  have h := hx
  clear hx
  unfold pread
  cases hp : pos es (nm, lb, nu, ge) with
  | none =>
    rw [mget_pos_none hp]
    refine (rread_none p nm lb nu ge A n c es nx F w h (by omega) m hp).mono ?_
    rintro ex w' ⟨rfl, hb⟩
    exact ⟨none, 0, 0, rfl, Rd.nil _ _ _ _, F, ⟨_, _, _, _, h.below hb, rfl⟩, Went.of_below hb⟩
  | some i =>
    obtain ⟨A0, l0, c0, r, s, he, hm, hl⟩ := h.at_ hp
    rw [hm] at hr hs ⊢
    simp only at hr hs ⊢
    by_cases hm0 : m < 0
    · rw [if_pos hm0]
      refine (rread_range p nm lb nu ge A n c es nx F w h (by omega) hp he hr hs hl m hm0).mono ?_
      rintro ex w' ⟨rfl, hb⟩
      exact ⟨none, 0, 0, rfl, Rd.nil _ _ _ _, F, ⟨_, _, _, _, h.below hb, rfl⟩, Went.of_below hb⟩
    · rw [if_neg hm0]
      by_cases hw : l0 = [] ∧ 0 < s ∧ 0 < m
      · rw [if_pos hw]
        obtain ⟨rfl, hs0, hm1⟩ := hw
        refine (rread_wait p nm lb nu ge A n c es nx F w h (by omega) hp he hr hs hs0 m hm1).mono ?_
        rintro ex w' ⟨rfl, hb⟩
        exact ⟨none, 0, 0, rfl, Rd.nil _ _ _ _, F, ⟨_, _, _, _, h.below hb, rfl⟩, Went.of_below hb⟩
      · rw [if_neg hw]
        refine (rread_ok p nm lb nu ge A n c es nx F w h (by omega) hp he hr hs hl m (by omega) ?_).mono ?_
        · by_cases h1 : m ≤ 0
          · exact .inl h1
          · by_cases h2 : l0 = []
            · exact .inr (.inr (by
                rcases Nat.eq_zero_or_pos s with h3 | h3
                · exact h3
                · exact absurd ⟨h2, h3, by omega⟩ hw))
            · exact .inr (.inl h2)
        · rintro ex w' ⟨Ao, no, co, rfl, hr', F', A', c', h', hW⟩
          exact ⟨Ao, no, co, rfl, hr', F', ⟨_, _, _, _, h', (mput_pos hp (e' := ⟨(nm, lb, nu, ge), A', l0.drop m.toNat, c', r, s⟩) rfl).symm⟩, hW⟩

theorem rplain_at (h : RefAt w p F L nx) (hL : L.length ≤ 60000) (lb : UInt8) (hl : lb.toNat < 64) (x : UInt16) (hnx : nx[lb.toNat]? = some x) (i : Nat) (y : UInt16) (hT : Tk (fun z => (mget L (false, lb, z, 0)).isSome) i x y) :
    Calls Try.prog 24 #[.pointer (some ⟨p, 0, none⟩), .int .i64 (lb.toNat : Int)] w fun e w' =>
      e = .returned (.int .u16 (y.toNat : Int)) ∧ RefAt w' p F L (nx.set lb.toNat (y + 1)) ∧ Went w w' F F := by
  obtain ⟨es, A, n, c, hx, hxL, hn⟩ := h.len
  clear h
  subst hxL
  have h := hx
  clear hx
  refine (rplain h (by omega) lb hl x hnx i y hT).mono ?_
  rintro ex w' ⟨rfl, h', hW⟩
  exact ⟨rfl, ⟨_, _, _, _, h', rfl⟩, hW⟩
end
end Go.Proofs.Ytkjgieehiimiiaa

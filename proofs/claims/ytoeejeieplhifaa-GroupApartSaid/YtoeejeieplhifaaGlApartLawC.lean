/- GroupApart: what is done in a label's group changes nothing in another's, nor what that may have: for every input the law returns true, and its arguments read as they did. -/
import Derived.Test.YtoeejeieplhifaaMFsd
import Derived.Test.YtoeejeieplhifaaMCfa
import Derived.Test.YtoeejeieplhifaaRows
import Derived.WalkKit
import Derived.ProofKit
import Derived.OpenShut
import Derived.ShutString
import Derived.ChangeOld
import Derived.Below
import Derived.Lib.SmallJoins
import Derived.Test.YtoeejeieplhifaaMArg
namespace Go.Proofs.Ytoeejeieplhifaa
open Go.RowKit
set_option linter.unusedSimpArgs false
set_option linter.unusedVariables false

theorem cnt_lt (q : Nat) : ∀ m, ((List.range m).filter fun j => decide (j < q)).length = min q m
  | 0 => by simp
  | m + 1 => by
    rw [List.range_succ, List.filter_append, List.length_append, cnt_lt q m]
    by_cases h : m < q
    · simp [h]; omega
    · simp [h]; omega
/-- the first so many blocks are taken, the first so many nodes are there -/
structure Ap (G : GS) (g : GeoN) (q r : Nat) : Prop where
  ok : G.Ok
  tk : ∀ j, j < g.blocks → G.tk j = decide (j < q)
  nd : ∀ num, 1 ≤ num → num ≤ g.nodes → ((G.nd num).kind = 0 ↔ 3 + r < num)
theorem ap_fresh (g : GeoN) : Ap GS.fresh g 0 0 where
  ok := GS.fresh_ok
  tk j hj := by simp [GS.fresh, GS.freshTo, GS.set, GS.none]
  nd num h1 h2 := by
    simp only [GS.fresh, GS.freshTo, GS.set, GS.none, upd]
    by_cases a3 : num = 3
    · subst a3; simp [freshN]
    · rw [if_neg a3]
      by_cases a2 : num = 2
      · subst a2; simp [freshN]
      · rw [if_neg a2]
        by_cases a1 : num = 1
        · subst a1; simp [freshN]
        · rw [if_neg a1]
          simp [NodeV.zero]
          omega
theorem Ap.free_some {G : GS} {g : GeoN} {q r : Nat} (h : Ap G g q r) (hq : q < g.blocks) : G.free g.blocks = some q := by
  have e : G.free g.blocks = (List.range g.blocks).find? fun k => !decide (k < q) := find_congr fun x hx => by rw [h.tk x (List.mem_range.1 hx)]
  rw [e, List.find?_range_eq_some]
  refine ⟨by simp, List.mem_range.2 hq, fun j hj => by simp [hj]⟩
theorem Ap.free_none {G : GS} {g : GeoN} {q r : Nat} (h : Ap G g q r) (hq : g.blocks ≤ q) : G.free g.blocks = none := by
  unfold GS.free
  rw [List.find?_eq_none]
  intro x hx
  have := List.mem_range.1 hx
  rw [h.tk x this]
  simp; omega
theorem Ap.take {G : GS} {g : GeoN} {q r : Nat} (h : Ap G g q r) (hq : q < g.blocks) : Ap (G.take q) g (q + 1) r where
  ok := h.ok.take q
  tk j hj := by
    simp only [GS.take, upd]
    by_cases e : j = q
    · rw [if_pos e]; simp; omega
    · rw [if_neg e, h.tk j hj]; congr 1; apply propext; omega
  nd := h.nd
theorem Ap.full {G : GS} {g : GeoN} {q r : Nat} (h : Ap G g q r) (hq : g.blocks ≤ q) : Ap G g (q + 1) r where
  ok := h.ok
  tk j hj := by rw [h.tk j hj]; congr 1; apply propext; omega
  nd := h.nd
theorem ap_from {G : GS} {g : GeoN} {q r : Nat} (h : Ap G g q r) : ∀ (m num : Nat), 1 ≤ num → num + m = g.nodes + 1 → num ≤ 4 + r → G.freeFrom num m = if 4 + r ≤ g.nodes then some (4 + r) else none
  | 0, num, h1, h2, h3 => by rw [GS.freeFrom, if_neg (by omega)]
  | m + 1, num, h1, h2, h3 => by
    rw [GS.freeFrom]
    by_cases e : num = 4 + r
    · rw [if_pos ((h.nd num h1 (by omega)).2 (by omega)), if_pos (by omega), e]
    · rw [if_neg (fun hk => by have := (h.nd num h1 (by omega)).1 hk; omega)]
      exact ap_from h m (num + 1) (by omega) (by omega) (by omega)
theorem Ap.freeN {G : GS} {g : GeoN} {q r : Nat} (h : Ap G g q r) : G.freeN g.nodes = if 4 + r ≤ g.nodes then some (4 + r) else none :=
  ap_from h _ _ (by omega) (by omega) (by omega)
theorem Ap.make {G : GS} {g : GeoN} {q r : Nat} (h : Ap G g q r) : Ap (G.makeS g.nodes (newN 1)) g q (r + 1) := by
  unfold GS.makeS
  rw [h.freeN]
  by_cases e : 4 + r ≤ g.nodes
  · rw [if_pos e]
    refine ⟨h.ok.set _ rfl (check_new rfl _), h.tk, fun num h1 h2 => ?_⟩
    simp only [GS.set, upd]
    by_cases e2 : num = 4 + r
    · rw [if_pos e2]
      simp [nextN, newN]
      omega
    · rw [if_neg e2, h.nd num h1 h2]; omega
  · rw [if_neg e]
    exact ⟨h.ok, h.tk, fun num h1 h2 => by rw [h.nd num h1 h2]; omega⟩
theorem Ap.cnt {G : GS} {g : GeoN} {q r : Nat} (h : Ap G g q r) : G.cnt g.blocks = min q g.blocks := by
  unfold GS.cnt
  rw [List.filter_congr fun x hx => h.tk x (List.mem_range.1 hx), cnt_lt]
theorem Ap.ncnt {G : GS} {g : GeoN} {q r : Nat} (h : Ap G g q r) : G.ncnt g.nodes = min (3 + r) g.nodes := by
  unfold GS.ncnt
  rw [← cnt_lt, List.filter_congr fun x hx => ?_]
  have := List.mem_range.1 hx
  have hn := h.nd (x + 1) (by omega) (by omega)
  by_cases e : (G.nd (x + 1)).kind = 0
  · have := hn.1 e; simp [e]; omega
  · have : ¬ 3 + r < x + 1 := fun k => e (hn.2 k)
    simp [e]; omega
section
variable {w w' : World} {i : Ids} {s : Sto} {gg : Nat} {g : GeoN} {lab : Int} {G G' : GS} {L : List Nat}
theorem ap_take_ok {q r : Nat} (h : GAt w i s gg g lab G) (ha : Ap G g q r) (hr : s.M.length ≤ 28) :
    Calls Try.prog 20 #[.pointer (some ⟨gg, 0, none⟩)] w fun e w' => ∃ x y : Int, e = .returned (.tuple #[.int .u16 x, .int .i64 y]) ∧ ∃ G', Ap G' g (q + 1) r ∧ GRes w w' i s gg g lab G' [g.base + q / 512, g.data + q] := by
  rcases Nat.lt_or_ge q g.blocks with hq | hq
  · exact (gs_take h hr (ha.free_some hq)).mono fun e w' ⟨he, hres⟩ => ⟨_, _, he, _, ha.take hq, hres⟩
  · exact (gs_take_full h (ha.free_none hq)).mono fun e w' ⟨he, s', h1, h2, h3⟩ => ⟨_, _, he, _, ha.full hq, s', h1, h2.mono (by simp), h3⟩
theorem ap_make_ok {q r : Nat} (h : GAt w i s gg g lab G) (ha : Ap G g q r) (hr : s.M.length ≤ 29) :
    Calls Try.prog 21 #[.pointer (some ⟨gg, 0, none⟩), .int .u8 1] w fun e w' => ∃ x y : Int, e = .returned (.tuple #[.int .i64 x, .int .i64 y]) ∧ ∃ G' L, Ap G' g q (r + 1) ∧ GRes w w' i s gg g lab G' L :=
  (gs_make (k := 1) h hr rfl).mono fun e w' ⟨he, hres⟩ => ⟨_, _, he, _, _, ha.make, hres⟩
end
end Go.Proofs.Ytoeejeieplhifaa
namespace Go.Proofs.Ytoeejeieplhifaa
open Go.RowKit
set_option linter.unusedSimpArgs false
set_option linter.unusedVariables false

theorem gr_in {R : List RegV} : ∀ (i : Nat) (a b : Int) (j : Nat) (k : Int), grFrom i a R b = some (j, k) → ∃ v, i ≤ j ∧ (geosOf a R)[j - i]? = some v ∧ v.base ≤ b ∧ b < v.data + v.blocks := by
  induction R with
  | nil => intro i a b j k h; simp [grFrom] at h
  | cons r R ih =>
    intro i a b j k h
    rw [grFrom] at h
    split at h
    · rename_i hc
      simp only [Option.some.injEq, Prod.mk.injEq] at h
      obtain ⟨rfl, -⟩ := h
      refine ⟨geoOf a r, Nat.le_refl _, by simp [geosOf], hc.1, hc.2⟩
    · obtain ⟨v, h1, h2, h3, h4⟩ := ih (i + 1) _ b j k h
      refine ⟨v, by omega, ?_, h3, h4⟩
      rw [show j - i = (j - (i + 1)) + 1 from by omega, geosOf, List.getElem?_cons_succ]
      exact h2
section
variable {m : UInt8} {H : List UInt8} {A : Option Addr} {n c : Nat} {T : List UInt8} {w : World}
set_option maxRecDepth 100000 in
set_option maxHeartbeats 4000000 in
theorem apart_all (hH : H.length = 25) (hT : Rd w w.heap.size 1 A n (bvs T)) (hnm : n ≤ 9223372036854775807) (lab nn mm : Nat) (hlab : lab < 256) (hnn : nn < 256) (hmm : mm < 256) :
    Calls Try.prog 4 #[.agg (szCells m H A n c), .int .u8 (lab : Int), .int .u8 (nn : Int), .int .u8 (mm : Int)] w fun e w' => e = .returned (.bool true) ∧ Below w.heap.size w w' := by
  have hsz : (szCells m H A n c).size = 27 := szCells_size hH
  go_enter Try.func4, Try.ntmps4
  go_upto_region 1 with (fail)
  refine at_world (fun W => ∃ bx, bx = w.heap.size ∧ Below w.heap.size w W ∧ Blk W bx 26 (szCells m H A n c)) ⟨_, rfl, (Below.refl _ _).alloc (Nat.le_refl _) _, Blk.new _ _ _⟩ (fun w1 h1 => ?_)
  obtain ⟨bx, hbx, hb1, hX1⟩ := h1
  rw [← hbx]
  have hS : ((Try.prog.info? 26).map (·.size)) = some (szCells m H A n c).size := by rw [hsz]; kernel_rfl
  have HS := hide hS
  have HB1 := hide hb1
  have HX1 := hide hX1
  clear hbx hX1 hS hsz hb1
  go_wp2_with fail
  refine (awake7_ok w1).mono ?_
  rintro e w2 ⟨rfl, hb2⟩
  have HX2 := hide (HX1.out.below hb2 HX1.out.lt)
  have HB2 := hide (HB1.out.trans (hb2.mono HB1.out.size))
  have HT2 := hide ((hT.below HB2.out).more HB2.out.size)
  have HH := hide (And.intro hH hnm)
  clear hb2 HX1 HB1 hT hH hnm
  go_wp2_with (first | (refine wpList_load_row rfl 26 (.tmp 4) (by rfl) bx (by rfl) 26 (szCells m H A n c) (0, 0) _ HX2.out Try.underlying26 rfl HS.out ?_) | fail)
  refine (size_conf (w := w2) HH.out.1 HT2.out HH.out.2).mono ?_
  rintro e w3 ⟨cc, K, tb, nb, lb, B1, B2, B3, d1, d2, d3, rfl, hb3, hin, hK⟩
  obtain ⟨n0, hsf⟩ := sz_facts (m := m) (H := H) hin.ok
  have hF := hsf.cf hin.ok
  have hfr := fresh_all (w := w3) hin hF hsf.five
  have HIN := hide hin
  have HF := hide hF
  have HB3 := hide (HB2.out.trans (hb3.mono HB2.out.size))
  have hR2 := hsf.two
  have hR5 := hsf.five
  generalize szRegs m H = R at *
  clear hin hK hF hb3 HX2 HB2 HT2 HS HH hsf
  go_wp2_with fail
  refine hfr.mono ?_
  rintro e w4 ⟨i, D, rfl, hx, hDn, hall, hown, hll, hb4⟩
  have HIN4 := hide (HIN.out.below hb4)
  have HB4 := hide (HB3.out.trans (hb4.mono HB3.out.size))
  have HX4 := hide hx
  have HW34 := hide hb4
  have HOWN3 := hide hown
  have HOWN := hide (show ∀ k, i.own k → w.heap.size ≤ k from fun k hk => Nat.le_trans HB3.out.size (hown k hk))
  go_wp2_with fail
  refine (len_ok HIN4.out).mono ?_
  rintro e w_ ⟨rfl, hw_⟩
  have hw_ := hw_.symm
  subst hw_
  have e1 : ((lab : Int)).tmod (R.length : Int) = ((lab % R.length : Nat) : Int) := by rw [Int.tmod_eq_emod_of_nonneg (by omega)]; omega
  have hz : ((R.length : Int) == 0) = false := by rw [beq_eq_false_iff_ne]; omega
  have hk : lab % R.length < R.length := Nat.mod_lt _ (by omega)
  obtain ⟨v, r, hv, hr, hgo, hval, hbl, -, g4, g512, n4, n128⟩ := HF.out.geo _ hk
  generalize lab % R.length = k at *
  have hop := fun (W : World) (hW : ConfIn w2.heap.size W cc R K tb nb lb B1 B2 B3 d1 d2 d3) (tt : Nat) => gopen_yes (tt := tt) hW hv hval
  generalize hu : geoN v = u at *
  have HOP := hide hop
  have HV := hide (And.intro hv (And.intro hu hk))
  have HGO := hide (And.intro hgo (And.intro g4 (And.intro g512 n4)))
  have HDN := hide hDn
  have HDL := hide hx.log.disk.len
  have HALL := hide hall
  clear hx hDn hall hown hll hb4 hfr hv hr hgo hval hbl g4 g512 n4 n128 hop hu hk
  go_wp2_with fail
  refine (image_ok HX4.out.log.disk).mono ?_
  rintro e w5 ⟨A1, ca1, rfl, hR1, hb5, hA1⟩
  have HIN5 := hide (HIN4.out.below hb5)
  have HB5 := hide (HB4.out.trans (hb5.mono HB4.out.size))
  have HL5 := hide (HX4.out.log.below hb5)
  have HW35 := hide (HW34.out.trans (hb5.mono HW34.out.size))
  have HR1 := hide hR1
  have HA1 := hide (show ∀ b, A1 = some b → ¬ (b.block = i.dd ∨ b.block = i.rr) from fun b hb h => by
    have := hA1 b hb
    rcases h with h | h
    · have := HX4.out.log.disk.dlt; omega
    · have := HX4.out.log.disk.row.lt; omega)
  clear hb5 hR1 hA1 HX4 HIN4 HB4 HW34 HIN5
  -- what stays the same all along
  have HDR := hide (And.intro (HOWN3.out i.dd (.inr (.inr (.inl rfl)))) (HOWN3.out i.rr (.inr (.inr (.inr rfl)))))
  clear HOWN HOWN3 e1 hz
  obtain ⟨rr, hrr⟩ : ∃ f : Nat → Nat, f = fun q => if mm = 0 then 0 else q := ⟨_, rfl⟩
  have HRR := hide hrr
  clear hrr
  go_wp2_with fail
  go_loopg [51] nn (fun gh x51 wr => ∃ (q : Nat) (Dk : List BlkV) (G : GS), q ≤ nn ∧ gh = nn - q ∧ x51 = .int .u8 (q : Int) ∧ Hid (Tch w5.heap.size (fun x => x = i.dd ∨ x = i.rr) w5 wr) ∧ Hid (LogAt wr i.ll i.dd i.rr Dk) ∧ Hid (Dk.length = n0 ∧ Ap G u q (rr q) ∧ AllIs R Dk (upd (fun _ => GS.fresh) k G) ∧ ∀ b, 32 ≤ b → (b < u.base ∨ u.data + u.blocks ≤ b) → Dk.getD b zeroB = D.getD b zeroB))
  case atStart =>
    refine ⟨0, D, GS.fresh, Nat.zero_le _, rfl, rfl, hide (Tch.refl _ _ _), HL5, hide ⟨HDN.out, ?_, fun k' v' hv' => ?_, fun _ _ _ => rfl⟩⟩
    · have := ap_fresh u
      rw [HRR.out]
      simpa using this
    · have := HALL.out k' v' hv'
      unfold upd
      simpa using this
  case round =>
    obtain ⟨q, Dk, G, hq, hgh, rfl, HT, HL, HI⟩ := hrel
    have HGH := hide hgh
    clear hgh
    have HD32 := hide (show 32 ≤ Dk.length from by rw [HI.out.1]; exact HF.out.ge)
    have HBr : Hid (Below w3.heap.size w3 wr) := hide (HW35.out.trans ((HT.out.mono HW35.out.size (S' := fun _ => False) (fun k hk h => by
      have := HDR.out
      rcases h with h | h <;> omega)).below fun _ _ h => h))
    rcases Nat.lt_or_ge q nn with hql | hql
    · have hqz : decide ((q : Int) < (nn : Int)) = true := by simp; omega
      have e1 : IntKind.u8.wrap ((q : Int) + 1) = (q : Int) + 1 := by rw [IntKind.wrap_u8]; omega
      go_wp2_with fail
      refine (begin_ok HL.out HD32.out).mono ?_
      rintro e w7 ⟨tt, mq, rfl, htt, hmq, hx7, hb7⟩
      obtain ⟨ii, hii⟩ : ∃ ii : Ids, Ids.mk tt mq i.ll i.dd i.rr = ii := ⟨_, rfl⟩
      have htt' : tt = ii.tt := by rw [← hii]
      rw [hii] at hx7
      subst htt'
      have HX7 := hide hx7
      have HB7 := hide hb7
      have HII := hide (And.intro hii (And.intro htt hmq))
      clear hii htt hmq hx7 hb7
      go_wp2_with fail
      refine (HOP.out w7 (HIN.out.below (HBr.out.trans (HB7.out.mono HBr.out.size))) ii.tt).mono ?_
      rintro e w8 ⟨gg, rfl, -, hG8, hb8⟩
      have hug : u.Ok Dk.length := by rw [HI.out.1]; exact HGO.out.1
      have hik := HI.out.2.2.1 k v HV.out.1
      rw [upd_same, HV.out.2.1] at hik
      have ha8 : GAt w8 ii ⟨Dk, [], 0⟩ gg u (k : Int) G := ⟨HX7.out.below hb8, hG8, hug, hik, HI.out.2.1.ok⟩
      have htk := ap_take_ok ha8 HI.out.2.1 (by simp)
      have HTK := hide htk
      have HA8 := hide ha8
      have HB8 := hide (HB7.out.trans (hb8.mono HB7.out.size))
      clear hug hik ha8 htk hG8 hb8 HX7 HB7
      go_wp2_with fail
      refine HTK.out.mono ?_
      rintro e w9 ⟨x9, y9, rfl, G9, hap9, s9, ha9, hst9, ht9⟩
      have hm9 : s9.M.length ≤ 2 := (hst9.in_ (K := []) (fun x hx => by simp at hx)).len ha9.tx.ok
      have HA9 := hide (And.intro ha9 hap9)
      have HS9 := hide hst9
      have HM9 := hide hm9
      have HT9 := hide ((Tch.of_below (S := ii.own) HB8.out).trans (ht9.mono HB8.out.size fun _ _ h => h))
      clear ha9 hap9 hst9 ht9 hm9 HTK HA8 HB8
      -- what the round ends in
      have hend : ∀ (w10 : World) (G10 : GS) (s10 : Sto) (L10 : List Nat), GAt w10 ii s10 gg u (k : Int) G10 → Ap G10 u (q + 1) (rr (q + 1)) → Sto.Step ⟨Dk, [], 0⟩ s10 u L10 → Tch wr.heap.size ii.own wr w10 → ∀ (l : List Nat) (w11 : World), l.Perm (s10.M.map (·.1)) → TxAt w11 ii ⟨commitD s10 l, [], 0⟩ → Tch w10.heap.size ii.own w10 w11 →
          Hid (Tch w5.heap.size (fun x => x = i.dd ∨ x = i.rr) w5 w11) ∧ Hid (LogAt w11 i.ll i.dd i.rr (commitD s10 l)) ∧ Hid ((commitD s10 l).length = n0 ∧ Ap G10 u (q + 1) (rr (q + 1)) ∧ AllIs R (commitD s10 l) (upd (fun _ => GS.fresh) k G10) ∧ ∀ b, 32 ≤ b → (b < u.base ∨ u.data + u.blocks ≤ b) → (commitD s10 l).getD b zeroB = D.getD b zeroB) := by
        intro w10 G10 s10 L10 ha10 hap10 hst10 ht10 l w11 hp hx11 ht11
        have e := HII.out.1
        have hall := AllIs.commit HI.out.2.2.1 HF.out ha10.tx.ok HV.out.1 (by rw [HV.out.2.1]; exact hst10) (by rw [HV.out.2.1]; exact ha10.is) hp
        refine ⟨hide (Tch.txn2 HII.out HT.out (ht10.trans (ht11.mono ht10.size fun _ _ h => h)) HT.out.size), hide (hx11.log.ids e), hide ⟨?_, hap10, ?_, fun b hb hbu => ?_⟩⟩
        · rw [commit_len, hst10.D]; exact HI.out.1
        · have e2 : upd (upd (fun _ => GS.fresh) k G) k G10 = upd (fun _ => GS.fresh) k G10 := by
            funext j; unfold upd; by_cases h : j = k <;> simp [h]
          rw [e2] at hall
          exact hall
        · rw [commit_at ha10.tx.ok hp (.inr (by omega)), hst10.far b hbu]
          exact HI.out.2.2.2 b hb hbu
      have HEND := hide hend
      clear hend HI
      by_cases hm0 : mm = 0
      · subst hm0
        have hrq : rr (q + 1) = rr q := by rw [HRR.out]; rfl
        have hcom := commit_ok HA9.out.1.tx HS9.out.bad
        have HCOM := hide hcom
        have HRQ := hide hrq
        clear hcom hrq
        go_wp2_with fail
        refine HCOM.out.mono ?_
        rintro e w10 ⟨l, rfl, hp, hx10, ht10⟩
        have hfin := HEND.out w9 G9 s9 _ HA9.out.1 (by rw [HRQ.out]; exact HA9.out.2) HS9.out HT9.out l w10 hp hx10 ht10
        have HFN := hide hfin
        clear hp hx10 ht10 hfin HCOM
        go_wp2
        go_roundg (nn - (q + 1))
        case rel => exact ⟨q + 1, _, G9, by omega, rfl, by first | rfl | go_num, HFN.out.1, HFN.out.2.1, HFN.out.2.2⟩
        case measure => have := HGH.out; omega
      · have tm : decide (0 < mm) = true := by simp; omega
        have hrq : rr (q + 1) = rr q + 1 := by rw [HRR.out]; simp [hm0]
        have hmk := ap_make_ok HA9.out.1 HA9.out.2 (by have := HM9.out; omega)
        have HMK := hide hmk
        have HRQ := hide hrq
        clear hmk hrq
        go_wp2_with fail
        refine HMK.out.mono ?_
        rintro e w10 ⟨x10, y10, rfl, G10, L10, hap10, s10, ha10, hst10, ht10⟩
        have HA10 := hide (And.intro ha10 hap10)
        have HS10 := hide (HS9.out.trans hst10)
        have HT10 := hide (HT9.out.trans (ht10.mono HT9.out.size fun _ _ h => h))
        have hcom := commit_ok ha10.tx HS10.out.bad
        have HCOM := hide hcom
        clear hcom ha10 hap10 hst10 ht10 HMK HA9 HS9 HT9
        go_wp2_with fail
        refine HCOM.out.mono ?_
        rintro e w11 ⟨l, rfl, hp, hx11, ht11⟩
        have hfin := HEND.out w10 G10 s10 _ HA10.out.1 (by rw [HRQ.out]; exact HA10.out.2) HS10.out HT10.out l w11 hp hx11 ht11
        have HFN := hide hfin
        clear hp hx11 ht11 hfin HCOM
        go_wp2
        go_roundg (nn - (q + 1))
        case rel => exact ⟨q + 1, _, G10, by omega, rfl, by first | rfl | go_num, HFN.out.1, HFN.out.2.1, HFN.out.2.2⟩
        case measure => have := HGH.out; omega
    · have hqz : decide ((q : Int) < (nn : Int)) = false := by simp; omega
      have hqe : q = nn := by omega
      subst hqe
      go_wp2_with fail
      refine (image_ok HL.out.disk).mono ?_
      rintro e w12 ⟨A2, ca2, rfl, hR2, hb12, hA2⟩
      have HB12 := hide (HBr.out.trans (hb12.mono HBr.out.size))
      have HL12 := hide (HL.out.below hb12)
      have HT12 := hide (HT.out.trans ((Tch.of_below hb12).mono HT.out.size fun _ _ h => h))
      have HR1' := hide (HR1.out.tch HT12.out HA1.out)
      have HR2 := hide hR2
      clear hb12 hR2 hA2 HL HT HBr HD32 HGH HL5 HALL HR1
      have hnD : D.length = Dk.length := by rw [HDN.out, HI.out.1]
      have hD16 : Dk.length ≤ 65536 := by rw [HI.out.1]; exact HF.out.le
      have HKL := hide HL12.out.disk.len
      have HE := hide (show ∀ j : Nat, 32 ≤ j → (j < u.base ∨ u.data + u.blocks ≤ j) → D.getD j zeroB = Dk.getD j zeroB from fun j h1 h2 => (HI.out.2.2.2 j h1 h2).symm)
      have HND := hide hnD
      have hD1 : (D.length : Int) ≤ 65536 := by omega
      clear hnD hD16
      go_wp2_with fail
      go_loopg [75] D.length (fun gh x75 wq => ∃ j : Nat, j ≤ D.length ∧ gh = D.length - j ∧ x75 = .int .i64 (j : Int) ∧ Hid (Below w12.heap.size w12 wq))
      case atStart => exact ⟨0, Nat.zero_le _, rfl, rfl, hide (Below.refl _ _)⟩
      case round =>
        obtain ⟨j, hj, hgj, rfl, HBq⟩ := hrel
        have HGJ := hide hgj
        clear hgj
        rcases Nat.lt_or_ge j D.length with hjl | hjl
        · have hjz : decide ((j : Int) < (D.length : Int)) = true := by simp; omega
          have e1 : IntKind.i64.wrap ((j : Int) + 1) = (j : Int) + 1 := IntWalk.i64_in _ (by omega)
          have hgr := group_ok (HIN.out.below (HB12.out.trans (HBq.out.mono HB12.out.size))) (by omega) (j : Int)
          have HGR := hide hgr
          clear hgr
          go_wp2_with fail
          refine HGR.out.mono ?_
          cases hgf : grFrom 0 32 R (j : Int) with
          | none =>
            rintro e w13 ⟨rfl, hb13⟩
            have HB13 := hide (HBq.out.trans (hb13.mono HBq.out.size))
            clear hb13 hgf
            simp only [grAns]
            go_upto_region 21 with (fail)
            go_quiet (fail)
            go_wp2
            go_roundg (D.length - (j + 1))
            case rel => exact ⟨j + 1, by omega, rfl, by first | rfl | go_num, hide (below_drewN HB13.out _)⟩
            case measure => have := HGJ.out; omega
          | some p =>
            obtain ⟨jj, kk⟩ := p
            rintro e w13 ⟨rfl, hb13⟩
            obtain ⟨v', hle, hv', hb1, hb2⟩ := gr_in 0 32 (j : Int) jj kk hgf
            simp only [grAns]
            have HB13 := hide (HBq.out.trans (hb13.mono HBq.out.size))
            by_cases hjk : jj = k
            · subst hjk
              have t1 : ((jj : Int) == (jj : Int)) = true := by simp
              have tb : ((jj : Int) != (jj : Int)) = false := by simp
              clear hb13 hgf hle hv' hb1 hb2
              go_upto_region 21 with (fail)
              go_quiet (fail)
              go_wp2
              go_roundg (D.length - (j + 1))
              case rel => exact ⟨j + 1, by omega, rfl, by first | rfl | go_num, hide (below_drewN HB13.out _)⟩
              case measure => have := HGJ.out; omega
            · have t1 : ((jj : Int) == (k : Int)) = false := by rw [beq_eq_false_iff_ne]; omega
              have tb : ((jj : Int) != (k : Int)) = true := by rw [bne_iff_ne]; omega
              rw [Nat.sub_zero] at hv'
              have hsep := HF.out.sep hv' HV.out.1 hjk
              have hvo := HF.out.geo_ok hv'
              have hvb := geos_from HIN.out.ok 32 jj v' hv'
              rw [HV.out.2.1] at hsep
              have hx1 : D[j]? = some (D[j]'hjl) := List.getElem?_eq_getElem hjl
              have hx2 : Dk[j]? = some (Dk[j]'(by rw [← HND.out]; exact hjl)) := List.getElem?_eq_getElem _
              have hee : D[j]'hjl = Dk[j]'(by rw [← HND.out]; exact hjl) := by
                have h1 : 32 ≤ j := by omega
                have h2 : (v'.base.toNat : Int) = v'.base := by omega
                have h3 : (geoN v').base ≤ j := by show v'.base.toNat ≤ j; omega
                have h4 : j < (geoN v').data + (geoN v').blocks := by
                  show j < v'.data.toNat + v'.blocks.toNat
                  omega
                have := HE.out j h1 (by omega)
                rw [List.getD_eq_getElem?_getD, List.getD_eq_getElem?_getD, hx1, hx2] at this
                exact this
              obtain ⟨g1, o1, hA1, hg1, hr1⟩ := (HR1'.out.below HB13.out).block HDL.out hx1
              obtain ⟨g2, o2, hA2, hg2, hr2⟩ := (HR2.out.below HB13.out).block HKL.out hx2
              have hl1 : (D[j]'hjl).length = 64 := HDL.out _ (List.getElem_mem hjl)
              rw [← hee] at hr2
              generalize D[j]'hjl = x at hr1 hr2 hl1
              subst hA1
              subst hA2
              have hjd : j < D.length := hjl
              have hjk2 : (j : Int) < (Dk.length : Int) := by rw [← HND.out]; omega
              have HR3 := hide hr1
              have HR4 := hide hr2
              have HX := hide hl1
              have G1 : g1 < w13.heap.size := Nat.lt_of_lt_of_le hg1 HB13.out.size
              have G2 : g2 < w13.heap.size := Nat.lt_of_lt_of_le hg2 HB13.out.size
              clear hb13 hgf hle hv' hb1 hb2 hx1 hx2 hr1 hr2 hl1 hsep hvo hvb hjk hee hg1 hg2
              go_upto_region 21 with (fail)
              refine wp_region_quiet_lit (by kernel_rfl) (by kernel_rfl) ?_
              iterate 10 go_big_quiet_step (fail)
              go_big_quiet_want
              refine quiet_exec (v := bval x) (fun W hW => by obtain ⟨nw, rfl⟩ := hW; exact exec_load_mid 67 (.tmp 94) rfl g1 _ rfl (bvs x) _ (fun j v h => HR3.out j v h) Try.underlying67 rfl (by rw [size_block, bvs_length, HX.out])) ?_
              try simp only [Act.put, List.setIfInBounds_toArray, List.set_cons_zero, List.set_cons_succ]
              go_big_quiet_on
              iterate 3 go_big_quiet_step (fail)
              go_big_quiet_want
              refine quiet_exec (v := bval x) (fun W hW => by obtain ⟨nw, rfl⟩ := hW; exact exec_load_mid 67 (.tmp 98) rfl g2 _ rfl (bvs x) _ (fun j v h => HR4.out j v h) Try.underlying67 rfl (by rw [size_block, bvs_length, HX.out])) ?_
              try simp only [Act.put, List.setIfInBounds_toArray, List.set_cons_zero, List.set_cons_succ]
              go_big_quiet_on
              go_big_quiet_want
              refine quiet_exec (v := .bool (!decide (x = x))) (fun W hW => by obtain ⟨nw, rfl⟩ := hW; exact exec_neq_agg 67 (.tmp 95) (.tmp 99) 67 rfl _ _ rfl rfl (by kernel_rfl) _ (block_eq _ HX.out HX.out)) ?_
              try simp only [Act.put, List.setIfInBounds_toArray, List.set_cons_zero, List.set_cons_succ]
              go_big_quiet_on
              iterate 1 go_big_quiet_step (fail)
              refine wpQuiet_nil ?_
              intro _ hw'
              obtain ⟨nq, hw''⟩ := hw'
              subst hw''
              go_wp2
              go_roundg (D.length - (j + 1))
              case rel => exact ⟨j + 1, by omega, rfl, by first | rfl | go_num, hide (below_drewN HB13.out _)⟩
              case measure => have := HGJ.out; omega
        · have hjz : decide ((j : Int) < (D.length : Int)) = false := by simp; omega
          have HBz := hide (HB12.out.trans (HBq.out.mono HB12.out.size))
          have HINz := hide (HIN.out.below HBz.out)
          have HLz := hide (HL12.out.below HBq.out)
          clear HB12 HL12 HT12 HR2 HKL HE HND hD1 HDL HGJ HBq
          go_wp2_with fail
          refine (len_ok HINz.out).mono ?_
          rintro e w_ ⟨rfl, hw_⟩
          have hw_ := hw_.symm
          subst hw_
          go_wp2_with fail
          go_loopg [105] R.length (fun gh x105 wt => ∃ o : Nat, o ≤ R.length ∧ gh = R.length - o ∧ x105 = .int .i64 (o : Int) ∧ Hid (Below w3.heap.size w3 wt) ∧ Hid (LogAt wt i.ll i.dd i.rr Dk))
          case atStart => exact ⟨0, Nat.zero_le _, rfl, rfl, HBz, HLz⟩
          case round =>
            obtain ⟨o, ho, hgo, rfl, HBt, HLt⟩ := hrel
            have HGT := hide hgo
            clear hgo
            rcases Nat.lt_or_ge o R.length with hol | hol
            · have hoz : decide ((o : Int) < (R.length : Int)) = true := by simp; omega
              have e1 : IntKind.i64.wrap ((o : Int) + 1) = (o : Int) + 1 := IntWalk.i64_in _ (by omega)
              obtain ⟨v', r', hv', hr', hgo', hval', hbl', hnd', g4', g512', n4', n128'⟩ := HF.out.geo o hol
              have hop := fun (W : World) (hW : ConfIn w2.heap.size W cc R K tb nb lb B1 B2 B3 d1 d2 d3) (tt : Nat) => gopen_yes (tt := tt) hW hv' hval'
              have hreg := fun (W : World) (hW : ConfIn w2.heap.size W cc R K tb nb lb B1 B2 B3 d1 d2 d3) => reg_ok hW hr'
              rw [← hbl', ← hnd'] at hreg
              have his := HI.out.2.2.1 o v' hv'
              obtain ⟨y, z, hap⟩ : ∃ y z, Ap (upd (fun _ => GS.fresh) k G o) (geoN v') y z ∧ (o = k → y = q ∧ z = rr q) ∧ (o ≠ k → y = 0 ∧ z = 0) := by
                by_cases h : o = k
                · subst h
                  have : geoN v' = u := by have := HV.out.1; rw [hv'] at this; cases this; exact HV.out.2.1
                  exact ⟨q, rr q, by rw [upd_same, this]; exact HI.out.2.1, fun _ => ⟨rfl, rfl⟩, fun h => absurd rfl h⟩
                · exact ⟨0, 0, by rw [upd_other _ _ h]; exact ap_fresh _, fun e => absurd e h, fun _ => ⟨rfl, rfl⟩⟩
              generalize upd (fun _ => GS.fresh) k G o = Go at his hap
              have hug : (geoN v').Ok Dk.length := by rw [HI.out.1]; exact hgo'
              generalize geoN v' = u' at *
              have HOP2 := hide hop
              have HREG := hide hreg
              have HIS := hide (And.intro his (And.intro hug hap))
              have HN2 := hide (And.intro g512' (And.intro n4' n128'))
              have HD32 := hide (show 32 ≤ Dk.length from by rw [HI.out.1]; exact HF.out.ge)
              clear hv' hr' hgo' hval' hbl' hnd' g4' g512' n4' n128' hop hreg his hap hug
              go_wp2_with fail
              refine (begin_ok HLt.out HD32.out).mono ?_
              rintro e w7 ⟨tt, mq, rfl, htt, hmq, hx7, hb7⟩
              obtain ⟨ii, hii⟩ : ∃ ii : Ids, Ids.mk tt mq i.ll i.dd i.rr = ii := ⟨_, rfl⟩
              have htt' : tt = ii.tt := by rw [← hii]
              rw [hii] at hx7
              subst htt'
              have HX7 := hide hx7
              have HB7 := hide hb7
              have HII := hide (And.intro hii (And.intro htt hmq))
              clear hii htt hmq hx7 hb7
              go_wp2_with fail
              refine (HOP2.out w7 (HIN.out.below (HBt.out.trans (HB7.out.mono HBt.out.size))) ii.tt).mono ?_
              rintro e w8 ⟨gg, rfl, -, hG8, hb8⟩
              have ha8 : GAt w8 ii ⟨Dk, [], 0⟩ gg u' (o : Int) Go := ⟨HX7.out.below hb8, hG8, HIS.out.2.1, HIS.out.1, HIS.out.2.2.1.ok⟩
              have hus := gs_usage ha8
              rw [HIS.out.2.2.1.cnt, HIS.out.2.2.1.ncnt] at hus
              have HUS := hide hus
              have HB8 := hide (HB7.out.trans (hb8.mono HB7.out.size))
              obtain ⟨ya, hya⟩ : ∃ ya, min y u'.blocks = ya := ⟨_, rfl⟩
              obtain ⟨za, hza⟩ : ∃ za, min (3 + z) u'.nodes = za := ⟨_, rfl⟩
              rw [hya, hza] at hus
              have HUS := hide hus
              have HY := hide (And.intro hya hza)
              clear ha8 hus hb8 hG8 hya hza HX7 HB7
              go_wp2_with fail
              refine HUS.out.mono ?_
              rintro e w9 ⟨rfl, s9, ha9, hst9, ht9⟩
              have hL9 : LogAt w9 i.ll i.dd i.rr Dk := by
                have h := ha9.tx.log.ids HII.out.1
                rw [hst9.D] at h
                exact h
              have hb9 : Below w3.heap.size w3 w9 := by
                refine HBt.out.trans ((((Tch.of_below (S := ii.own) HB8.out).trans (ht9.mono HB8.out.size fun _ _ h => h)).mono HBt.out.size (S' := fun _ => False) (fun k hk hs => ?_)).below (fun _ _ h => h))
                have h1 := HII.out.1
                have h2 := HII.out.2.1
                have h3 := HII.out.2.2
                have h4 := HDR.out
                have h5 := HBt.out.size
                rcases hs with e | e | e | e
                · omega
                · rw [← h1] at e; simp only at e; omega
                · rw [← h1] at e; simp only at e; omega
                · rw [← h1] at e; simp only at e; omega
              have HL9 := hide hL9
              have HB9 := hide hb9
              clear ha9 hst9 ht9 hL9 hb9 HUS HB8
              go_wp2_with fail
              refine (HREG.out w9 (HIN.out.below HB9.out)).mono ?_
              rintro e w10 ⟨rfl, hb10⟩
              have HL10 := hide (HL9.out.below hb10)
              have HB10 := hide (HB9.out.trans (hb10.mono HB9.out.size))
              clear hb10 HL9 HB9
              go_upto_region 30 with (fail)
              refine at_world (fun W => ∃ rg, rg = w10.heap.size ∧ rg < W.heap.size ∧ W.cell? ⟨rg, 3, none⟩ = some (.int .i64 (u'.blocks : Int)) ∧ W.cell? ⟨rg, 4, none⟩ = some (.int .i64 (u'.nodes : Int)) ∧ Below w10.heap.size w10 W) ⟨_, rfl, by simp, (Blk.new w10 _ _).cell 3, (Blk.new w10 _ _).cell 4, (Below.refl _ _).alloc (Nat.le_refl _) _⟩ (fun w11 h11 => ?_)
              obtain ⟨rg, hrg, rgl, y3, y4, hb11⟩ := h11
              rw [← hrg]
              have HL11 := hide (HL10.out.below hb11)
              have HB11 := hide (HB10.out.trans (hb11.mono HB10.out.size))
              clear hrg hb11 HL10 HB10
              by_cases hok : o = k
              · obtain ⟨hy1, hz1⟩ := HIS.out.2.2.2.1 hok
                obtain ⟨hya, hza⟩ := HY.out
                have tk : ((o : Int) == (k : Int)) = true := by rw [beq_iff_eq]; omega
                have hm1 : (if q < u'.blocks then (q : Int) else (u'.blocks : Int)) = (ya : Int) := by split <;> omega
                have c1 : IntKind.i64.wrap (q : Int) = (q : Int) := IntWalk.i64_in _ (by omega)
                have c2 : IntKind.i64.wrap (3 + (q : Int)) = 3 + (q : Int) := IntWalk.i64_in _ (by omega)
                by_cases hm0 : mm = 0
                · have hz0 : za = 3 := by rw [HRR.out] at hz1; simp only [hm0] at hz1; have := HN2.out.2.1; simp at hz1; omega
                  have HQ := hide (And.intro hya hza)
                  have tm : decide (0 < mm) = false := by simp [hm0]
                  clear hy1 hz1 hya hza hok hm0
                  subst hz0
                  go_wp2
                  go_roundg (R.length - (o + 1))
                  case rel => exact ⟨o + 1, by omega, rfl, by first | rfl | go_num, HB11, HL11⟩
                  case measure => have := HGT.out; omega
                · have hz0 : z = q := by rw [HRR.out] at hz1; simpa [hm0] using hz1
                  have hm2 : (if 3 + (q : Int) < (u'.nodes : Int) then 3 + (q : Int) else (u'.nodes : Int)) = (za : Int) := by split <;> omega
                  have tm : decide (0 < mm) = true := by simp; omega
                  clear hy1 hz1 hya hza hok hz0
                  go_wp2
                  go_roundg (R.length - (o + 1))
                  case rel => exact ⟨o + 1, by omega, rfl, by first | rfl | go_num, HB11, HL11⟩
                  case measure => have := HGT.out; omega
              · obtain ⟨hy1, hz1⟩ := HIS.out.2.2.2.2 hok
                obtain ⟨hya, hza⟩ := HY.out
                have tk : ((o : Int) == (k : Int)) = false := by rw [beq_eq_false_iff_ne]; omega
                have hya0 : ya = 0 := by omega
                have hza0 : za = 3 := by have := HN2.out.2.1; omega
                clear hy1 hz1 hya hza hok
                subst hya0
                subst hza0
                go_wp2
                go_roundg (R.length - (o + 1))
                case rel => exact ⟨o + 1, by omega, rfl, by first | rfl | go_num, HB11, HL11⟩
                case measure => have := HGT.out; omega
            · have hoz : decide ((o : Int) < (R.length : Int)) = false := by simp; omega
              have HFB := hide (HB3.out.trans (HBt.out.mono HB3.out.size))
              go_wp2
              go_returns
              exact ⟨rfl, HFB.out⟩
end
end Go.Proofs.Ytoeejeieplhifaa
namespace Go.Proofs.Ytoeejeieplhifaa.lawGroupApart
open Go.ChangeShapes Go.WideShapes Go.ChangeAt Go.RowKit Go.Joins
open Go.ChangeMaps (open_string shut_string)
set_option linter.unusedVariables false

theorem own : ownKnob Try.prog.godebug = none := by kernel_rfl
theorem laidOut : laidOutB Try.prog = true := by kernel_rfl

set_option maxRecDepth 100000 in
theorem lifted (os : Os) (started : os.Started) (H0 : Type) (enc : TypeId × Value → H0) :
    ReturnsInHanded {} Try.checked os 4 .any (Rows.groupApartSpec.pre6 enc Try.prog Try.f4 Rows.groupApartRow.domain false) (Rows.groupApartSpec.post enc Try.prog Try.f4 false true false false) := by
  refine returnsInHanded_of_change (C := Try.checked) own started (by kernel_rfl) Try.func4
    (ChangeSpec.witness6 (enc := enc) (C := Try.checked) false ⟨#[], #[.agg #[.int .u8 0, .int .u8 0, .int .u8 0, .int .u8 0, .int .u8 0, .int .u8 0, .int .u8 0, .int .u8 0, .int .u8 0, .int .u8 0, .int .u8 0, .int .u8 0, .int .u8 0, .int .u8 0, .int .u8 0, .int .u8 0, .int .u8 0, .int .u8 0, .int .u8 0, .int .u8 0, .int .u8 0, .int .u8 0, .int .u8 0, .int .u8 0, .int .u8 0, .int .u8 0, .slice none 0 0], .int .u8 0, .int .u8 0, .int .u8 0], []⟩ 8 (by kernel_rfl) (by kernel_rfl) (by kernel_rfl) (by kernel_rfl)) ?_
  intro W base args ds gs before hval0 hW hcnd _
  have hval : ∀ (j : Nat) t v, Try.f4.params[j]? = some t → args[j]? = some v → Value.okWide Try.prog W .any base t v := hval0
  have hW' := hW
  obtain ⟨p, q, hA0, hV, rfl, hfz, hnd⟩ := hW
  have hA : DataW.TrodAll enc Try.prog W 0 (fun _ => true) true Try.f4.params.toList args.toList ds p := hA0
  rw [Try.params4] at hA hval
  obtain ⟨v0, vs0, d0, ds0, p0, q0, hargs, rfl, rfl, h0, r0⟩ := trodAll_cons hA
  obtain ⟨v1, vs1, d1, ds1, p1, q1, rfl, rfl, rfl, h1, r1⟩ := trodAll_cons r0
  obtain ⟨v2, vs2, d2, ds2, p2, q2, rfl, rfl, rfl, h2, r2⟩ := trodAll_cons r1
  obtain ⟨v3, vs3, d3, ds3, p3, q3, rfl, rfl, rfl, h3, r3⟩ := trodAll_cons r2
  obtain ⟨rfl, rfl, rfl⟩ := trodAll_nil r3
  obtain rfl : args = #[v0, v1, v2, v3] := by cases args; simp_all
  obtain ⟨rfl, rfl⟩ := trodVars_none hV
  have k0 := h0
  have lt0 : ∀ x ∈ p0, x.block < W.heap.size := by obtain ⟨m, hm⟩ := k0; exact DataW.trod_lt m _ _ _ hm
  have k1 := h1
  have lt1 : ∀ x ∈ p1, x.block < W.heap.size := by obtain ⟨m, hm⟩ := k1; exact DataW.trod_lt m _ _ _ hm
  have k2 := h2
  have lt2 : ∀ x ∈ p2, x.block < W.heap.size := by obtain ⟨m, hm⟩ := k2; exact DataW.trod_lt m _ _ _ hm
  have k3 := h3
  have lt3 : ∀ x ∈ p3, x.block < W.heap.size := by obtain ⟨m, hm⟩ := k3; exact DataW.trod_lt m _ _ _ hm
  obtain ⟨m, Hs, A, n, c, T, rfl, hH, hT, hnm⟩ := open_size Try.underlying26 (by rfl) (by rfl) (by rfl) (by kernel_rfl) (by kernel_rfl) (by kernel_rfl) (by kernel_rfl) Try.underlying5 Try.underlying23 Try.underlying22 Try.underlying5 (by kernel_rfl) (by kernel_rfl) Try.underlying24 Try.underlying5 (by kernel_rfl) (hval 0 26 v0 rfl rfl) h0
  obtain ⟨lab, rfl, hlab⟩ := open_u8 Try.underlying5 (hval 1 5 v1 rfl rfl) h1
  obtain ⟨nn, rfl, hnn⟩ := open_u8 Try.underlying5 (hval 2 5 v2 rfl rfl) h2
  obtain ⟨mm, rfl, hmm⟩ := open_u8 Try.underlying5 (hval 3 5 v3 rfl rfl) h3
  clear hA0 hval0
  refine (apart_all hH hT hnm lab nn mm hlab hnn hmm).mono fun e W' ⟨he, bel⟩ => ?_
  subst he
  exact ⟨_, rfl, _, _, _, [], _, [], hW', trodAll_mk1 (shut_bool Try.underlying4 _), (trodAll_cons_mk (Below.trod laidOut (by kernel_rfl) (of_decide_eq_true (by kernel_rfl)) k0 bel lt0) (trodAll_cons_mk (Below.trod laidOut (by kernel_rfl) (of_decide_eq_true (by kernel_rfl)) k1 bel lt1) (trodAll_cons_mk (Below.trod laidOut (by kernel_rfl) (of_decide_eq_true (by kernel_rfl)) k2 bel lt2) (trodAll_cons_mk (Below.trod laidOut (by kernel_rfl) (of_decide_eq_true (by kernel_rfl)) k3 bel lt3) trodAll_mk0)))), rfl, bel.frame _, fun h => by cases h⟩

theorem over : Rows.groupApartRow.holds Try.pinned (OpenSpec.ofChange Rows.groupApartSpec) :=
  OpenClaim.holds_of_wide 4 Try.f4 rfl rfl rfl rfl rfl rfl rfl ⟨rfl, rfl, rfl, rfl, rfl⟩ rfl rfl rfl rfl rfl (by kernel_rfl) Try.func4 (by kernel_rfl)
    (of_decide_eq_true (by kernel_rfl)) (by unfold Func.isWrapper; first | (rw [if_pos (by decide +kernel)]; kernel_rfl) | (rw [if_neg (by decide +kernel)]; exact ⟨rfl, rfl⟩))
    (fun os started H0 enc _ => lifted os started H0 enc)

theorem proved : Rows.GroupApartSaid := over
#print axioms proved
end Go.Proofs.Ytoeejeieplhifaa.lawGroupApart

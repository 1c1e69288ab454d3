/- Configurations: New. Rows of one's own and what leaves them as they are. Configurations in small numbers: the walks of a size. Configurations in small numbers: made. -/
import Derived.Test.YthmkgohfeahdhaaGreatMCfa
import Derived.Test.YthmkgohfeahdhaaGreatMKit
import Derived.Laws.Tables
import Derived.Deep.LoopGhost
import Derived.Deep.Cut
import Derived.Deep.CutRange
import Derived.Deep.CutBlock
import Derived.Laws.Rows
namespace Go.Proofs.YthmkgohfeahdhaaGreat
open Go.RowKit Go.WideMaps
set_option linter.unusedSimpArgs false
set_option linter.unusedVariables false

theorem sound_eq (r : RegV) : soundC r.blocks r.nodes r.frames r.procs r.opens = soundB r := by
  have : (r.nodes.tmod 2 == 0) = decide (r.nodes % 2 = 0) := by
    rw [Bool.eq_iff_iff, beq_iff_eq, decide_eq_true_eq, ← Int.dvd_iff_tmod_eq_zero, Int.dvd_iff_emod_eq_zero]
  unfold soundC soundB
  rw [this]
section
variable {B : Nat} {w w' : World} {c : Nat} {R : List RegV} {K : List MarkV} {tb nb lb : Nat} {A1 A2 A3 : Option Addr} {c1 c2 c3 : Nat}
theorem add_ok (hB : B ≤ w.heap.size) (h : ConfIn B w c R K tb nb lb A1 A2 A3 c1 c2 c3) (r : RegV) (many : Int) (i : Nat) (h1 : -9000000000000000000 ≤ many) (h2 : many ≤ 9000000000000000000) (hi : i = R.length) (h64 : i < 64) :
    Calls Tryz.prog 90 #[.pointer (some ⟨c, 0, none⟩), .int .i64 (i : Int), .agg #[.string ⟨r.name.toArray⟩, .int .u8 (r.lev.toNat : Int), .int .u16 (r.cats.toNat : Int), .int .i64 r.blocks, .int .i64 r.nodes, .int .i64 r.frames, .int .i64 r.procs, .int .i64 r.opens, .int .i64 r.clear], .int .i64 many] w fun e w' => e = .returned (.int .i64 (addE R r many)) ∧ Below B w w' ∧
      (addE R r many = 0 → ∃ A1' A3' c1' c3', ConfIn B w' c (R ++ [r]) K tb nb lb A1' A2 A3' c1' c2 c3') := by
  unfold addE
  have hrt : rightB r many = (decide (r.lev ≤ 15) && (soundC r.blocks r.nodes r.frames r.procs r.opens && inB r.clear 0 (many - 1))) := by rw [sound_eq]; rfl
  by_cases hn : nameB r.name = false
  · rw [if_pos hn]
    refine (add_name ⟨r.name.toArray⟩ r.lev r.cats r.blocks r.nodes r.frames r.procs r.opens r.clear many i w hn).mono ?_
    rintro e w' ⟨rfl, hb⟩
    exact ⟨rfl, hb.mono hB, fun h => by simp at h⟩
  · rw [if_neg hn]
    simp only [Bool.not_eq_false] at hn
    by_cases hr : rightB r many = false
    · rw [if_pos hr]
      refine (add_range ⟨r.name.toArray⟩ r.lev r.cats r.blocks r.nodes r.frames r.procs r.opens r.clear many i w hn h1 h2 (by rw [← hrt]; exact hr)).mono ?_
      rintro e w' ⟨rfl, hb⟩
      exact ⟨rfl, hb.mono hB, fun h => by simp at h⟩
    · rw [if_neg hr]
      simp only [Bool.not_eq_false] at hr
      rw [hrt] at hr
      by_cases ht : r.name ∈ R.map (·.name)
      · rw [if_pos ht]
        refine (add_twice h ⟨r.name.toArray⟩ r.lev r.cats r.blocks r.nodes r.frames r.procs r.opens r.clear many i hn h1 h2 hr ht).mono ?_
        rintro e w' ⟨rfl, hb⟩
        exact ⟨rfl, hb.mono hB, fun h => by simp at h⟩
      · rw [if_neg ht]
        by_cases ht2 : (r.lev, r.cats) ∈ R.map (fun x => (x.lev, x.cats))
        · rw [if_pos ht2]
          refine (add_twice2 h ⟨r.name.toArray⟩ r.lev r.cats r.blocks r.nodes r.frames r.procs r.opens r.clear many i hn h1 h2 hr ht ht2).mono ?_
          rintro e w' ⟨rfl, hb⟩
          exact ⟨rfl, hb.mono hB, fun h => by simp at h⟩
        · rw [if_neg ht2]
          refine (add_fine hB h ⟨r.name.toArray⟩ r.lev r.cats r.blocks r.nodes r.frames r.procs r.opens r.clear many i hn h1 h2 hr ht ht2 hi h64).mono ?_
          rintro e w' ⟨rfl, hb, A1', A3', c1', c3', h'⟩
          exact ⟨rfl, hb, fun _ => ⟨A1', A3', c1', c3', h'⟩⟩
end
theorem build_conf (W : World) (a b c : Nat) : (Instr.build 179 #[(1, .map (some a)), (3, .map (some b)), (4, .map (some c)), (6, .int .i64 32)]).run Tryz.prog W = .ok (.agg #[.slice none 0 0, .map (some a), .slice none 0 0, .map (some b), .map (some c), .slice none 0 0, .int .i64 32]) W := by kernel_rfl
theorem build_lab0 (W : World) : (Instr.build 39 #[]).run Tryz.prog W = .ok (.agg #[.int .u8 0, .int .u16 0]) W := by kernel_rfl
theorem conf_empty (w : World) {W1 W2 W3 W4 : World} (e1 : W1 = w.alloc (.map #[] 0)) (e2 : W2 = W1.alloc (.map #[] 0)) (e3 : W3 = W2.alloc (.map #[] 0))
    (e4 : W4 = W3.alloc (.cells #[.slice none 0 0, .map (some w.heap.size), .slice none 0 0, .map (some (w.heap.size + 1)), .map (some (w.heap.size + 1 + 1)), .slice none 0 0, .int .i64 32] 179)) :
    Below w.heap.size w W4 ∧ ConfIn w.heap.size W4 (w.heap.size + 1 + 1 + 1) [] [] w.heap.size (w.heap.size + 1) (w.heap.size + 1 + 1) none none none 0 0 0 := by
  have s1 : W1.heap.size = w.heap.size + 1 := by rw [e1]; simp
  have s2 : W2.heap.size = w.heap.size + 1 + 1 := by rw [e2, ← s1]; simp
  have s3 : W3.heap.size = w.heap.size + 1 + 1 + 1 := by rw [e3, ← s2]; simp
  have m1 : MapR dkv W1 w.heap.size [] := by rw [e1]; exact MapR.made w dkv
  have m2 : MapR skv W2 (w.heap.size + 1) [] := by rw [e2, ← s1]; exact MapR.made W1 skv
  have m3 : MapR dkv W3 (w.heap.size + 1 + 1) [] := by rw [e3, ← s2]; exact MapR.made W2 dkv
  have b2 : Below W1.heap.size W1 W2 := by rw [e2]; exact (Below.refl _ _).alloc (Nat.le_refl _) _
  have b3 : Below W2.heap.size W2 W3 := by rw [e3]; exact (Below.refl _ _).alloc (Nat.le_refl _) _
  have b4 : Below W3.heap.size W3 W4 := by rw [e4]; exact (Below.refl _ _).alloc (Nat.le_refl _) _
  have b1 : Below w.heap.size w W1 := by rw [e1]; exact (Below.refl _ _).alloc (Nat.le_refl _) _
  refine ⟨((b1.trans (b2.mono (by omega))).trans (b3.mono (by omega))).trans (b4.mono (by omega)), ⟨⟨?_, World.ownsRow_nil _ _ _ _, World.ownsRow_nil _ _ _ _, World.ownsRow_nil _ _ _ _, ?_, ?_, ?_, by omega, by omega, by omega, by omega, by omega, by omega, by omega⟩, fun r hr => by cases hr⟩⟩
  · rw [e4, ← s3]; exact Blk.new W3 _ _
  · exact ((m1.below b2 (by omega)).below b3 (by omega)).below b4 (by omega)
  · exact (m2.below b3 (by omega)).below b4 (by omega)
  · exact m3.below b4 (by omega)

theorem info_mark : (Tryz.prog.info? 199).map (fun i => (i.zero, i.size, i.bytes)) = some (some (.agg #[.int .u8 0, .int .u16 0]), 2, 4) := by kernel_rfl
theorem trust_get {L : List MarkV} (hn : ((trustL L).map (·.1)).Nodup) (m : MarkV) : (mget (trustL L) m).getD (.bool false) = .bool (decide (m ∈ L)) := by
  by_cases h : m ∈ L
  · obtain ⟨j, hj⟩ := List.getElem?_of_mem h
    have : (trustL L)[j]? = some (m, .bool true) := by simp [trustL, hj]
    rw [mget_at hn this]
    simp [h]
  · have : mget (trustL L) m = none := mget_none_iff.2 (by simpa [trustL] using h)
    rw [this]
    simp [h]
theorem trust_put {L : List MarkV} {m : MarkV} (h : m ∉ L) : mput (trustL L) m (.bool true) = trustL (L ++ [m]) := by
  rw [mput_none_of fun x hx e => h (by
    obtain ⟨y, hy, rfl⟩ := List.mem_map.1 hx
    simp only at e
    exact e ▸ hy)]
  simp [trustL]
theorem look_trust {w : World} {tb : Nat} {L : List MarkV} (h : MapR dkv w tb (trustL L)) (l : UInt8) (c : UInt16) {b : Bool} (hb : decide ((l, c) ∈ L) = b) (W : World) (hW : Below w.heap.size w W) :
    (Instr.lookup 174 (.map (some tb)) (.agg #[.int .u8 (l.toNat : Int), .int .u16 (c.toNat : Int)]) false).run Tryz.prog W = .ok (.bool b) W := by
  have := (h.is.keep (hW.block tb h.lt)).lookup markEnc Tryz.underlying174 (z := .bool false) (by kernel_rfl) (l, c) false
  rw [trust_get h.nodup, hb] at this
  exact this
theorem ConfG.mark_row {B : Nat} {X X' W3 : World} {c : Nat} {R : List RegV} {G : List GeoV} {tot : Int} {K : List MarkV} {m : MarkV} {T L : List ((UInt8 × UInt16) × Value)} {N : List (SKey × Value)} {tb nb lb : Nat} {A1 A2 A3 A2' : Option Addr} {c1 c2 c3 c2' n : Nat} (hn : K.length = n)
    (h : ConfG B X c R G tot K T N L tb nb lb A1 A2 A3 c1 c2 c3) (hg : X.grownBy X' (Value.slice A2 n c2).ownBlock) (ho : X'.ownsRow B 199 2 (.slice A2' (n + 1) c2') (n + 1) (mcellsOf K ++ markCells m))
    (hblk : Blk W3 c 179 #[.slice A1 R.length c1, .map (some tb), .slice A2' (n + 1) c2', .map (some nb), .map (some lb), .slice A3 G.length c3, .int .i64 tot])
    (far : ∀ g, g ≠ c → W3.heap[g]? = X'.heap[g]?) : ConfG B W3 c R G tot (K ++ [m]) T N L tb nb lb A1 A2' A3 c1 c2' c3 := by
  subst hn
  have hB := h.blk.grown hg fun e => blk_not_own h.blk h.marks (by decide) e.symm
  have o1 := h.regs.kept hg (own_apart h.regs h.marks (by decide))
  have o3 := h.geos.kept hg (own_apart h.geos h.marks (by decide))
  have t1 := h.tr.keep (hg.block _ h.tr.lt fun e => h.tr.is.not_own h.marks e.symm)
  have t2 := h.nm.keep (hg.block _ h.nm.lt fun e => h.nm.is.not_own h.marks e.symm)
  have t3 := h.lm.keep (hg.block _ h.lm.lt fun e => h.lm.is.not_own h.marks e.symm)
  refine ⟨?_, own_keep o1 fun g hg' => far g fun e => blk_not_own hB o1 (by decide) (e ▸ hg'), ?_, own_keep o3 fun g hg' => far g fun e => blk_not_own hB o3 (by decide) (e ▸ hg'), t1.keep (far tb fun e => blk_not_map hB t1.is e.symm), t2.keep (far nb fun e => blk_not_map hB t2.is e.symm), t3.keep (far lb fun e => blk_not_map hB t3.is e.symm), h.hc, h.htb, h.hnb, h.hlb, h.n1, h.n2, h.n3⟩
  · rw [List.length_append]
    exact hblk
  · rw [mcellsOf_snoc, List.length_append]
    exact own_keep ho fun g hg' => far g fun e => blk_not_own hB ho (by decide) (e ▸ hg')

section
attribute [-go_sem] Instr.build
attribute [local go_sem] build_conf build_lab0
variable {R : List RegV} {K : List MarkV} {A A' : Option Addr} {cA cA' : Nat} {w : World}
theorem rd_reg {w : World} {B : Nat} {A : Option Addr} {R : List RegV} (h : Rd w B 9 A R.length (rcellsOf R)) {k : Nat} {r : RegV} (hk : R[k]? = some r) :
    ∃ b o, A = some ⟨b, o, none⟩ ∧ b < B ∧ ∀ j v, r.cells[j]? = some v → w.cell? ⟨b, o + (k * 9 + j), none⟩ = some v := by
  have hl : k < R.length := (List.getElem?_eq_some_iff.1 hk).1
  obtain ⟨b, o, hA, hb, hc⟩ := h.2 (by omega)
  exact ⟨b, o, hA, hb, fun j v hv => hc _ _ (flat_get RegV.cells 9 (fun _ => rfl) R k r hk j v hv)⟩
theorem rd_mark {w : World} {B : Nat} {A : Option Addr} {K : List MarkV} (h : Rd w B 2 A K.length (mcellsOf K)) {k : Nat} {r : MarkV} (hk : K[k]? = some r) :
    ∃ b o, A = some ⟨b, o, none⟩ ∧ b < B ∧ ∀ j v, (markCells r)[j]? = some v → w.cell? ⟨b, o + (k * 2 + j), none⟩ = some v := by
  have hl : k < K.length := (List.getElem?_eq_some_iff.1 hk).1
  obtain ⟨b, o, hA, hb, hc⟩ := h.2 (by omega)
  exact ⟨b, o, hA, hb, fun j v hv => hc _ _ (flat_get markCells 2 (fun _ => rfl) K k r hk j v hv)⟩
def NewSays (w w' : World) (R : List RegV) (K : List MarkV) (e : Ending) : Prop :=
  Below w.heap.size w w' ∧ (newE R K = 0 → ∃ c tb nb lb A1 A2 A3 c1 c2 c3, e = .returned (.tuple #[.pointer (some ⟨c, 0, none⟩), .int .i64 0]) ∧ ConfIn w.heap.size w' c R K tb nb lb A1 A2 A3 c1 c2 c3) ∧
    (newE R K ≠ 0 → e = .returned (.tuple #[.pointer none, .int .i64 (newE R K)]))
theorem NewSays.err {w w' : World} {R : List RegV} {K : List MarkV} {e : Ending} (hb : Below w.heap.size w w') {k : Int} (hk : newE R K = k) (h0 : k ≠ 0) (he : e = .returned (.tuple #[.pointer none, .int .i64 k])) : NewSays w w' R K e :=
  ⟨hb, fun h => absurd (hk.symm.trans h) h0, fun _ => by rw [hk]; exact he⟩
set_option maxRecDepth 100000 in
set_option maxHeartbeats 4000000 in
theorem new_ok (hr : Rd w w.heap.size 9 A R.length (rcellsOf R)) (hm : Rd w w.heap.size 2 A' K.length (mcellsOf K)) (hn : R.length ≤ 60000) (hk : K.length ≤ 60000) :
    Calls Tryz.prog 31 #[.slice A R.length cA, .slice A' K.length cA'] w fun e w' => NewSays w w' R K e := by
  have hmm := @run_makeMap Tryz.prog
  by_cases h0 : R.length = 0
  · have t1 : ((R.length : Int) == 0) = true := by simp [h0]
    have e : newE R K = 23 := by rw [List.length_eq_zero_iff.1 h0]; rfl
    have E := hide e
    clear h0 e
    go_enter Tryz.func31, Tryz.ntmps31
    go_wp2
    go_returns
    exact NewSays.err (Below.refl _ _) E.out (by decide) rfl
  · have t1 : ((R.length : Int) == 0) = false := by simp [h0]
    have hne : R ≠ [] := fun e => h0 (by rw [e]; rfl)
    obtain ⟨r0, rest, hR⟩ := List.exists_cons_of_ne_nil hne
    clear hne
    by_cases h64 : 64 < R.length
    · have t2 : decide ((64 : Int) < R.length) = true := by simp; omega
      have e : newE R K = 23 := by rw [hR] at h64 ⊢; simp only [newE]; rw [if_pos h64]
      have E := hide e
      clear h0 e h64 hR
      go_enter Tryz.func31, Tryz.ntmps31
      go_wp2
      go_returns
      exact NewSays.err (Below.refl _ _) E.out (by decide) rfl
    · have t2 : decide ((64 : Int) < R.length) = false := by simp; omega
      have e : newE R K = if addsE [] R R.length ≠ 0 then addsE [] R R.length else if r0.lev ≠ 0 ∨ r0.cats ≠ 0 then 25 else if clearsE R 0 R ≠ 0 then clearsE R 0 R else marksE R [] K := by
        rw [hR] at h64 ⊢
        simp only [newE]
        rw [if_neg h64]
      have E := hide e
      have HR := hide hR
      have HR0 := hide hr
      have HM0 := hide hm
      clear e hR hr hm
      go_enter Tryz.func31, Tryz.ntmps31
      go_upto_region 4 with (fail)
      refine at_world (fun W => ∃ c tb nb lb, c = w.heap.size + 1 + 1 + 1 ∧ Below w.heap.size w W ∧ ConfIn w.heap.size W c [] [] tb nb lb none none none 0 0 0) ⟨_, _, _, _, rfl, conf_empty w rfl rfl rfl rfl⟩ (fun w1 h1 => ?_)
      obtain ⟨c, tb, nb, lb, hc, hb1, h1⟩ := h1
      rw [← hc]
      clear hc hmm t1 t2
      have HB1 := hide hb1
      have H1 := hide h1
      clear hb1 h1
      go_wp2_with fail
      go_loopg [7, 8, 9, 29] R.length (fun g x7 x8 x9 x29 wr => ∃ k : Nat, k ≤ R.length ∧ g = R.length - k ∧ x29 = .int .i64 k ∧ Aside (∃ A1 A3 c1 c3, Below w.heap.size w wr ∧ ConfIn w.heap.size wr c (R.take k) [] tb nb lb A1 none A3 c1 0 c3 ∧ addsE [] R R.length = addsE (R.take k) (R.drop k) R.length))
      case atStart => exact ⟨0, Nat.zero_le _, rfl, rfl, none, none, 0, 0, HB1.out, H1.out, rfl⟩
      case round =>
        clear HB1 H1
        obtain ⟨k, hkl, hg, rfl, hA⟩ := hrel
        by_cases hkn : k < R.length
        · have hkz : (k : Int) < R.length := by omega
          obtain ⟨A1, A3, c1, c3, hbr, hc, hadd⟩ := hA.out
          obtain ⟨r, hrk⟩ : ∃ r, R[k]? = some r := ⟨_, List.getElem?_eq_getElem hkn⟩
          obtain ⟨b, o, rfl, hb, hcl⟩ := rd_reg HR0.out hrk
          have y0 := (hbr.cell (p := ⟨b, _, none⟩) hb).trans (hcl 0 _ rfl)
          have y1 := (hbr.cell (p := ⟨b, _, none⟩) hb).trans (hcl 1 _ rfl)
          have y2 := (hbr.cell (p := ⟨b, _, none⟩) hb).trans (hcl 2 _ rfl)
          have y3 := (hbr.cell (p := ⟨b, _, none⟩) hb).trans (hcl 3 _ rfl)
          have y4 := (hbr.cell (p := ⟨b, _, none⟩) hb).trans (hcl 4 _ rfl)
          have y5 := (hbr.cell (p := ⟨b, _, none⟩) hb).trans (hcl 5 _ rfl)
          have y6 := (hbr.cell (p := ⟨b, _, none⟩) hb).trans (hcl 6 _ rfl)
          have y7 := (hbr.cell (p := ⟨b, _, none⟩) hb).trans (hcl 7 _ rfl)
          have y8 := (hbr.cell (p := ⟨b, _, none⟩) hb).trans (hcl 8 _ rfl)
          have hbw : b < wr.heap.size := Nat.lt_of_lt_of_le hb hbr.size
          simp only [← Nat.add_assoc, Nat.add_zero] at y0 y1 y2 y3 y4 y5 y6 y7 y8
          have HBR := hide hbr
          have HC := hide hc
          have HD := hide (And.intro hadd hrk)
          clear hbr hc hadd hrk hcl hA hb
          go_wp2_with fail
          have hbn : Below wr.heap.size wr (wr.alloc (.cells #[.string ⟨r.name.toArray⟩, .int .u8 (r.lev.toNat : Int), .int .u16 (r.cats.toNat : Int), .int .i64 r.blocks, .int .i64 r.nodes, .int .i64 r.frames, .int .i64 r.procs, .int .i64 r.opens, .int .i64 r.clear] 41)) := (Below.refl _ _).alloc (Nat.le_refl _) _
          have H64 := hide h64
          refine (add_ok (B := w.heap.size) (Nat.le_trans HBR.out.size hbn.size) (HC.out.below hbn) r _ k (by omega) (by omega) (by simp; omega) (by omega)).mono ?_
          rintro e w6 ⟨rfl, hb6, hc6⟩
          have hb9 := HBR.out.trans ((hbn.mono HBR.out.size).trans hb6)
          obtain ⟨ev, hev⟩ : ∃ ev, ev = addE (R.take k) r R.length := ⟨_, rfl⟩
          rw [← hev] at hc6 ⊢
          clear y0 y1 y2 y3 y4 y5 y6 y7 y8 hbw hbn hb6
          by_cases hz : ev = 0
          · obtain ⟨A1', A3', c1', c3', hc7⟩ := hc6 hz
            have H7 := hide hc7
            have HB9 := hide hb9
            have HEV := hide (hev.symm.trans hz)
            subst hz
            clear hc6 hc7 hb9 hev
            go_wp2
            go_roundg (R.length - (k + 1))
            case measure => omega
            case rel =>
              refine ⟨k + 1, by omega, rfl, by go_num, A1', A3', c1', c3', HB9.out, ?_, ?_⟩
              · rw [List.take_add_one, HD.out.2]
                exact H7.out
              · rw [HD.out.1, List.drop_eq_getElem_cons hkn, addsE]
                have e : R[k] = r := by have := HD.out.2; rw [List.getElem?_eq_getElem hkn] at this; injection this
                rw [e, if_pos HEV.out, List.take_add_one, HD.out.2]
                rfl
          · have hz1 : (ev == 0) = false := by simp [hz]
            have HB9 := hide hb9
            have HEV := hide (⟨hev.symm, hz⟩ : addE (R.take k) r R.length = ev ∧ ev ≠ 0)
            clear hc6 hb9 hev hz
            go_wp2
            go_returns
            refine NewSays.err HB9.out (k := ev) ?_ HEV.out.2 rfl
            have e : R[k] = r := by have := HD.out.2; rw [List.getElem?_eq_getElem hkn] at this; injection this
            have e2 : addsE [] R R.length = ev := by rw [HD.out.1, List.drop_eq_getElem_cons hkn, addsE, e, if_neg (by rw [HEV.out.1]; exact HEV.out.2), HEV.out.1]
            rw [E.out, e2, if_pos HEV.out.2]
        · obtain rfl : k = R.length := by omega
          obtain ⟨A1, A3, c1, c3, hbr, hc, hadd⟩ := hA.out
          rw [List.take_length] at hc hadd
          rw [List.drop_length, addsE] at hadd
          have HBR := hide hbr
          have HC := hide hc
          have HD := hide hadd
          clear hbr hc hadd hA
          have hkz : ¬ ((R.length : Int) < R.length) := by omega
          have hr0 : R[0]? = some r0 := by rw [HR.out]; rfl
          obtain ⟨b, o, rfl, hb, hcl⟩ := rd_reg HR0.out hr0
          have y1 := (HBR.out.cell (p := ⟨b, _, none⟩) hb).trans (hcl 1 _ rfl)
          have y2 := (HBR.out.cell (p := ⟨b, _, none⟩) hb).trans (hcl 2 _ rfl)
          have hbw : b < wr.heap.size := Nat.lt_of_lt_of_le hb HBR.out.size
          have hlz : (0 : Int) < R.length := by omega
          simp only [Nat.zero_mul, Nat.zero_add] at y1 y2
          clear hb hcl hr0
          have HSR := hide hbw
          by_cases hl : r0.lev = 0
          · rw [hl] at y1
            by_cases hc0 : r0.cats = 0
            · rw [hc0] at y2
              have HL := hide (And.intro hl hc0)
              clear hl hc0
              simp only [UInt8.toNat_zero, UInt16.toNat_zero, Int.cast_ofNat_Int] at y1 y2
              go_upto_region 13 with (fail)
              clear y1 y2 hlz
              have HC' := hide HC.out
              have HBR' := hide HBR.out
              clear HC HBR
              go_wp2_with fail
              have HAD := hide HD.out
              clear HD hg hkl hkz hkn
              go_loopg [10, 11, 52] R.length (fun g x10 x11 x52 wr => ∃ k : Nat, k ≤ R.length ∧ g = R.length - k ∧ x52 = .int .i64 k ∧ Aside (Below w.heap.size w wr ∧ ConfIn w.heap.size wr c R [] tb nb lb A1 none A3 c1 0 c3 ∧ clearsE R 0 R = clearsE R k (R.drop k)))
              case atStart => exact ⟨0, Nat.zero_le _, rfl, rfl, HBR'.out, HC'.out, rfl⟩
              case round =>
                clear HBR' HC' HSR hbw
                obtain ⟨k, hkl, hg, rfl, hA⟩ := hrel
                by_cases hkn : k < R.length
                · have hkz : (k : Int) < R.length := by omega
                  obtain ⟨hbr, hc, hadd⟩ := hA.out
                  obtain ⟨r, hrk⟩ : ∃ r, R[k]? = some r := ⟨_, List.getElem?_eq_getElem hkn⟩
                  obtain ⟨b', o', hbo, hb, hcl⟩ := rd_reg HR0.out hrk
                  cases hbo
                  have y0 := (hbr.cell (p := ⟨b, _, none⟩) hb).trans (hcl 0 _ rfl)
                  have y1 := (hbr.cell (p := ⟨b, _, none⟩) hb).trans (hcl 1 _ rfl)
                  have y2 := (hbr.cell (p := ⟨b, _, none⟩) hb).trans (hcl 2 _ rfl)
                  have y3 := (hbr.cell (p := ⟨b, _, none⟩) hb).trans (hcl 3 _ rfl)
                  have y4 := (hbr.cell (p := ⟨b, _, none⟩) hb).trans (hcl 4 _ rfl)
                  have y5 := (hbr.cell (p := ⟨b, _, none⟩) hb).trans (hcl 5 _ rfl)
                  have y6 := (hbr.cell (p := ⟨b, _, none⟩) hb).trans (hcl 6 _ rfl)
                  have y7 := (hbr.cell (p := ⟨b, _, none⟩) hb).trans (hcl 7 _ rfl)
                  have y8 := (hbr.cell (p := ⟨b, _, none⟩) hb).trans (hcl 8 _ rfl)
                  have hbw : b < wr.heap.size := Nat.lt_of_lt_of_le hb hbr.size
                  simp only [← Nat.add_assoc, Nat.add_zero] at y0 y1 y2 y3 y4 y5 y6 y7 y8
                  have HBR := hide hbr
                  have HC := hide hc
                  have HD := hide (And.intro hadd hrk)
                  clear hbr hc hadd hrk hcl hA hb
                  go_wp2_with fail
                  have hbn : Below wr.heap.size wr (wr.alloc (.cells #[.string ⟨r.name.toArray⟩, .int .u8 (r.lev.toNat : Int), .int .u16 (r.cats.toNat : Int), .int .i64 r.blocks, .int .i64 r.nodes, .int .i64 r.frames, .int .i64 r.procs, .int .i64 r.opens, .int .i64 r.clear] 41)) := (Below.refl _ _).alloc (Nat.le_refl _) _
                  refine (leq_ok (HC.out.below hbn) _ _).mono ?_
                  rintro e w6 ⟨rfl, hb6⟩
                  have hb9 : Below wr.heap.size wr w6 := hbn.trans (hb6.mono hbn.size)
                  have HB9 := hide (HBR.out.trans (hb9.mono HBR.out.size))
                  have HC9 := hide (HC.out.below hb9)
                  clear y0 y1 y2 y3 y4 y5 y6 y7 y8 hbw hbn hb6 hb9
                  have e : R[k] = r := by have := HD.out.2; rw [List.getElem?_eq_getElem hkn] at this; injection this
                  have e2 : clearsE R 0 R = if leqAt R k r.clear then clearsE R (k + 1) (R.drop (k + 1)) else 2 := by rw [HD.out.1, List.drop_eq_getElem_cons hkn, clearsE, e]
                  have E2 := hide e2
                  clear e e2
                  cases hz : leqAt R (k : Int) r.clear with
                  | true =>
                    have HZ := hide hz
                    clear hz
                    go_wp2
                    go_roundg (R.length - (k + 1))
                    case measure => omega
                    case rel =>
                      refine ⟨k + 1, by omega, rfl, by go_num, HB9.out, HC9.out, ?_⟩
                      rw [E2.out, if_pos HZ.out]
                  | false =>
                    have HZ := hide hz
                    clear hz
                    go_wp2
                    go_returns
                    refine NewSays.err HB9.out (k := 2) ?_ (by decide) rfl
                    rw [E.out, HAD.out, if_neg (fun h => h rfl), if_neg (by rw [HL.out.1, HL.out.2]; simp), show clearsE R 0 R = 2 by rw [E2.out, if_neg (by rw [HZ.out]; simp)], if_pos (by decide)]
                · obtain rfl : k = R.length := by omega
                  obtain ⟨hbr, hc, hadd⟩ := hA.out
                  rw [List.drop_length, clearsE] at hadd
                  have HBR := hide hbr
                  have HC := hide hc
                  have HD := hide hadd
                  clear hbr hc hadd hA
                  have hkz : ¬ ((R.length : Int) < R.length) := by omega
                  go_wp2_with fail
                  have HE3 := hide (show newE R K = marksE R [] K by rw [E.out, HAD.out, if_neg (fun h => h rfl), if_neg (by rw [HL.out.1, HL.out.2]; simp), HD.out, if_neg (fun h => h rfl)])
                  clear E HAD HL HD hkz hkn hg hkl
                  go_loopg [13, 66, 70, 94] K.length (fun g x13 x66 x70 x94 wr => ∃ k : Nat, k ≤ K.length ∧ g = K.length - k ∧ x66 = .int .i64 k ∧ Aside (∃ A2 c2, Below w.heap.size w wr ∧ ConfIn w.heap.size wr c R (K.take k) tb nb lb A1 A2 A3 c1 c2 c3 ∧ marksE R [] K = marksE R (K.take k) (K.drop k)))
                  case atStart => exact ⟨0, Nat.zero_le _, rfl, rfl, none, 0, HBR.out, HC.out, rfl⟩
                  case round =>
                    clear HBR HC
                    obtain ⟨k, hkl, hg, rfl, hA⟩ := hrel
                    by_cases hkn : k < K.length
                    · have hkz : (k : Int) < K.length := by omega
                      obtain ⟨A2, c2, hbr, hc, hadd⟩ := hA.out
                      obtain ⟨⟨la, nu⟩, hrk⟩ : ∃ r, K[k]? = some r := ⟨_, List.getElem?_eq_getElem hkn⟩
                      obtain ⟨b', o', rfl, hb, hcl⟩ := rd_mark HM0.out hrk
                      have y0 := (hbr.cell (p := ⟨b', _, none⟩) hb).trans (hcl 0 _ rfl)
                      have y1 := (hbr.cell (p := ⟨b', _, none⟩) hb).trans (hcl 1 _ rfl)
                      have hbw : b' < wr.heap.size := Nat.lt_of_lt_of_le hb hbr.size
                      simp only [← Nat.add_assoc, Nat.add_zero] at y0 y1
                      have HBR := hide hbr
                      have HC := hide hc
                      have HD := hide (And.intro hadd hrk)
                      clear hbr hc hadd hrk hcl hA hb
                      have e2 : marksE R [] K = if markB R (la, nu) = false then 27 else if (la, nu) ∈ K.take k then 29 else marksE R (K.take k ++ [(la, nu)]) (K.drop (k + 1)) := by
                        have e : K[k] = (la, nu) := by have := HD.out.2; rw [List.getElem?_eq_getElem hkn] at this; injection this
                        rw [HD.out.1, List.drop_eq_getElem_cons hkn, marksE, e]
                      have E2 := hide e2
                      clear e2
                      go_upto_region 22 with (fail)
                      refine at_world (fun W => ∃ bx, bx = wr.heap.size ∧ Below w.heap.size w W ∧ ConfIn w.heap.size W c R (K.take k) tb nb lb A1 A2 A3 c1 c2 c3 ∧ Blk W bx 199 #[.int .u8 (la.toNat : Int), .int .u16 (nu.toNat : Int)]) ⟨_, rfl, HBR.out.alloc HBR.out.size _, HC.out.below ((Below.refl _ _).alloc (Nat.le_refl _) _), Blk.new _ _ _⟩ (fun w5 h5 => ?_)
                      obtain ⟨bx, hbx, hb5, hc5, bB⟩ := h5
                      rw [← hbx]
                      have HMN := hide (show ∀ g, (Value.slice A2 (K.take k).length c2).ownBlock = some g → g < bx from fun g hg => by rw [hbx]; exact (HC.out.marks.lt g hg).2)
                      clear y0 y1 hbw HBR HC hbx
                      have HB5 := hide hb5
                      have HC5 := hide hc5
                      have z0 := bB.cell 0
                      have z1 := bB.cell 1
                      have zl := bB.lt
                      have BB := hide bB
                      clear hb5 hc5 bB
                      have hla := la.toNat_lt
                      have hnu := nu.toNat_lt
                      have wl1 : IntKind.i64.wrap (la.toNat : Int) = la.toNat := IntWalk.i64_in _ (by omega)
                      have wl2 : IntKind.i64.wrap (nu.toNat : Int) = nu.toNat := IntWalk.i64_in _ (by omega)
                      by_cases hm1 : R.length ≤ la.toNat
                      · have q1 : decide (R.length ≤ la.toNat) = true := by simp; omega
                        have HE4 := hide (show marksE R [] K = 27 by rw [E2.out, if_pos (by unfold markB; rw [List.getElem?_eq_none hm1])])
                        clear E2 hm1
                        refine wp_region_text [0, 0, 0, 0, 0, 0, 0, 0, 0, 0, 0, 0, 0, 0, 0, 0, 0, 0, 0, 0, 0, 0, 0, 0] (Below w5.heap.size w5) (by kernel_rfl) (by kernel_rfl) (Below.refl _ _).drew ?_
                        iterate 7 (refine wpOrd_q (v := ?_) (by rfl) (fun W hW => ?_) ?_; rotate_left; (focus ((obtain ⟨hWc, hWf⟩ := bcell hW); go_simp; try with_reducible rfl)); try simp only [Act.put, List.setIfInBounds_toArray, List.set_cons_zero, List.set_cons_succ])
                        iterate 3 (refine wpOrd_n (by rfl) ?_; try simp only [Act.put, List.setIfInBounds_toArray, List.set_cons_zero, List.set_cons_succ])
                        iterate 2 (refine wpOrd_q (v := ?_) (by rfl) (fun W hW => ?_) ?_; rotate_left; (focus ((obtain ⟨hWc, hWf⟩ := bcell hW); go_simp; try with_reducible rfl)); try simp only [Act.put, List.setIfInBounds_toArray, List.set_cons_zero, List.set_cons_succ])
                        iterate 10 (refine wpOrd_n (by rfl) ?_; try simp only [Act.put, List.setIfInBounds_toArray, List.set_cons_zero, List.set_cons_succ])
                        iterate 2 (refine wpOrd_q (v := ?_) (by rfl) (fun W hW => ?_) ?_; rotate_left; (focus ((obtain ⟨hWc, hWf⟩ := bcell hW); go_simp; try with_reducible rfl)); try simp only [Act.put, List.setIfInBounds_toArray, List.set_cons_zero, List.set_cons_succ])
                        refine wpOrd_nil ?_
                        have HB6 := hide HB5.out.drew
                        go_wp2
                        go_returns
                        exact NewSays.err HB6.out (HE3.out.trans HE4.out) (by decide) rfl
                      · have q1 : decide (R.length ≤ la.toNat) = false := by simp; omega
                        obtain ⟨r, hrl⟩ : ∃ r, R[la.toNat]? = some r := ⟨_, List.getElem?_eq_getElem (by omega)⟩
                        obtain ⟨b2, o2, hbo, hbr, hcr⟩ := rd_reg HR0.out hrl
                        cases hbo
                        have y4 := (HB5.out.cell (p := ⟨b, _, none⟩) hbr).trans (hcr 4 _ rfl)
                        have hbz : b < w5.heap.size := Nat.lt_of_lt_of_le hbr HB5.out.size
                        simp only [← Nat.add_assoc] at y4
                        have hlz : (la.toNat : Int) < R.length := by omega
                        have hc64 : (nu.toNat : Int) < 65536 := by omega
                        have HRL := hide hrl
                        clear hrl hcr hbr hm1
                        by_cases hm2 : nu.toNat < 1
                        · have q2 : decide ((nu.toNat : Int) < 1) = true ∧ decide (nu.toNat < 1) = true ∧ decide (nu.toNat = 0) = true := ⟨by simp; omega, by simp; omega, by simp; omega⟩
                          obtain ⟨q2, q2a, q2b⟩ := q2
                          have HE4 := hide (show marksE R [] K = 27 by rw [E2.out, if_pos (by unfold markB; rw [HRL.out]; simp; omega)])
                          clear E2 hm2
                          refine wp_region_text [0, 0, 0, 0, 0, 0, 0, 0, 0, 0, 0, 0, 0, 0, 0, 0, 0, 0, 0, 0, 0, 0, 0, 0] (Below w5.heap.size w5) (by kernel_rfl) (by kernel_rfl) (Below.refl _ _).drew ?_
                          iterate 12 (refine wpOrd_q (v := ?_) (by rfl) (fun W hW => ?_) ?_; rotate_left; (focus ((obtain ⟨hWc, hWf⟩ := bcell hW); go_simp; try with_reducible rfl)); try simp only [Act.put, List.setIfInBounds_toArray, List.set_cons_zero, List.set_cons_succ])
                          iterate 10 (refine wpOrd_n (by rfl) ?_; try simp only [Act.put, List.setIfInBounds_toArray, List.set_cons_zero, List.set_cons_succ])
                          iterate 2 (refine wpOrd_q (v := ?_) (by rfl) (fun W hW => ?_) ?_; rotate_left; (focus ((obtain ⟨hWc, hWf⟩ := bcell hW); go_simp; try with_reducible rfl)); try simp only [Act.put, List.setIfInBounds_toArray, List.set_cons_zero, List.set_cons_succ])
                          refine wpOrd_nil ?_
                          have HB6 := hide HB5.out.drew
                          go_wp2
                          go_returns
                          exact NewSays.err HB6.out (HE3.out.trans HE4.out) (by decide) rfl
                        · have q2 : decide ((nu.toNat : Int) < 1) = false ∧ decide (nu.toNat < 1) = false ∧ decide (nu.toNat = 0) = false := ⟨by simp; omega, by simp; omega, by simp; omega⟩
                          obtain ⟨q2, q2a, q2b⟩ := q2
                          by_cases hm3 : r.nodes < (nu.toNat : Int)
                          · have q3 : decide (r.nodes < (nu.toNat : Int)) = true := by simpa using hm3
                            have HE4 := hide (show marksE R [] K = 27 by rw [E2.out, if_pos (by unfold markB; rw [HRL.out]; simp; omega)])
                            clear E2 hm2 hm3
                            refine wp_region_text [0, 0, 0, 0, 0, 0, 0, 0, 0, 0, 0, 0, 0, 0, 0, 0, 0, 0, 0, 0, 0, 0, 0, 0] (Below w5.heap.size w5) (by kernel_rfl) (by kernel_rfl) (Below.refl _ _).drew ?_
                            iterate 24 (refine wpOrd_q (v := ?_) (by rfl) (fun W hW => ?_) ?_; rotate_left; (focus ((obtain ⟨hWc, hWf⟩ := bcell hW); go_simp; try with_reducible rfl)); try simp only [Act.put, List.setIfInBounds_toArray, List.set_cons_zero, List.set_cons_succ])
                            refine wpOrd_nil ?_
                            have HB6 := hide HB5.out.drew
                            go_wp2
                            go_returns
                            exact NewSays.err HB6.out (HE3.out.trans HE4.out) (by decide) rfl
                          · have q3 : decide (r.nodes < (nu.toNat : Int)) = false := by simpa using hm3
                            have HMB := hide (show markB R (la, nu) = true by unfold markB; rw [HRL.out]; simp; omega)
                            clear hm2 hm3
                            refine wp_region_text [0, 0, 0, 0, 0, 0, 0, 0, 0, 0, 0, 0, 0, 0, 0, 0, 0, 0, 0, 0, 0, 0, 0, 0] (Below w5.heap.size w5) (by kernel_rfl) (by kernel_rfl) (Below.refl _ _).drew ?_
                            iterate 24 (refine wpOrd_q (v := ?_) (by rfl) (fun W hW => ?_) ?_; rotate_left; (focus ((obtain ⟨hWc, hWf⟩ := bcell hW); go_simp; try with_reducible rfl)); try simp only [Act.put, List.setIfInBounds_toArray, List.set_cons_zero, List.set_cons_succ])
                            refine wpOrd_nil ?_
                            refine at_world (fun W => Below w.heap.size w W ∧ ConfIn w.heap.size W c R (K.take k) tb nb lb A1 A2 A3 c1 c2 c3 ∧ Blk W bx 199 #[.int .u8 (la.toNat : Int), .int .u16 (nu.toNat : Int)]) ⟨HB5.out.drew, HC5.out.below (Below.refl _ _).drew, BB.out.drew⟩ (fun w6 h6 => ?_)
                            clear z0 z1 zl y4 hbz HB5 HC5 BB q1 q2 q2a q2b q3
                            obtain ⟨hb6, hc6, bB⟩ := h6
                            go_wp2_with fail
                            have HB6 := hide hb6
                            have hkl9 : (K.take k).length ≤ 60000 := by rw [List.length_take]; omega
                            by_cases hin : (la, nu) ∈ K.take k
                            · have hlk := look_trust hc6.tr la nu (b := true) (by simp [hin])
                              have HE4 := hide (show marksE R [] K = 29 by rw [E2.out, if_neg (by rw [HMB.out]; simp), if_pos hin])
                              clear E2 hin HMB
                              have z0 := bB.cell 0
                              have z1 := bB.cell 1
                              have zl := bB.lt
                              have k1 := hc6.blk.cell 1
                              have kl := hc6.blk.lt
                              have ktl := hc6.tr.lt
                              clear hc6 bB hb6
                              refine wp_region_text [0, 0, 0, 0, 0, 0, 0] (Below w6.heap.size w6) (by kernel_rfl) (by kernel_rfl) (Below.refl _ _).drew ?_
                              iterate 7 (refine wpOrd_q (v := ?_) (by rfl) (fun W hW => ?_) ?_; rotate_left; (focus ((obtain ⟨hWc, hWf⟩ := bcell hW); have hq := hlk W hW; go_simp; try with_reducible rfl)); try simp only [Act.put, List.setIfInBounds_toArray, List.set_cons_zero, List.set_cons_succ])
                              refine wpOrd_nil ?_
                              have HB7 := hide HB6.out.drew
                              go_wp2
                              go_returns
                              exact NewSays.err HB7.out (HE3.out.trans HE4.out) (by decide) rfl
                            · have hlk := look_trust hc6.tr la nu (b := false) (by simp [hin])
                              have HE4 := hide (show marksE R [] K = marksE R (K.take k ++ [(la, nu)]) (K.drop (k + 1)) by rw [E2.out, if_neg (by rw [HMB.out]; simp), if_neg hin])
                              have HIN := hide hin
                              clear E2 hin HMB
                              have z0 := bB.cell 0
                              have z1 := bB.cell 1
                              have zl := bB.lt
                              have k1 := hc6.blk.cell 1
                              have kl := hc6.blk.lt
                              have ktl := hc6.tr.lt
                              refine wp_region_text [0, 0, 0, 0, 0, 0, 0] (Below w6.heap.size w6) (by kernel_rfl) (by kernel_rfl) (Below.refl _ _).drew ?_
                              iterate 7 (refine wpOrd_q (v := ?_) (by rfl) (fun W hW => ?_) ?_; rotate_left; (focus ((obtain ⟨hWc, hWf⟩ := bcell hW); have hq := hlk W hW; go_simp; try with_reducible rfl)); try simp only [Act.put, List.setIfInBounds_toArray, List.set_cons_zero, List.set_cons_succ])
                              refine wpOrd_nil ?_
                              refine at_world (fun W => Below w.heap.size w W ∧ ConfIn w.heap.size W c R (K.take k) tb nb lb A1 A2 A3 c1 c2 c3 ∧ Blk W bx 199 #[.int .u8 (la.toNat : Int), .int .u16 (nu.toNat : Int)]) ⟨hb6.drew, hc6.below (Below.refl _ _).drew, bB.drew⟩ (fun w7 h7 => ?_)
                              clear z0 z1 zl k1 kl ktl hlk hb6 hc6 bB HB6
                              obtain ⟨hb7, hc7, bB⟩ := h7
                              go_wp2_with fail
                              have z0 := bB.cell 0
                              have z1 := bB.cell 1
                              have zl := bB.lt
                              have k1 := hc7.blk.cell 1
                              have kl := hc7.blk.lt
                              obtain ⟨w8, hrun, hM, ho⟩ := (hc7.tr.keep (w' := w7.drew) rfl).update markEnc Tryz.underlying174 (la, nu) (.bool true)
                              simp only [dkv] at hrun
                              refine wp_region_text [0, 0, 0, 0, 0, 2] (Below w7.heap.size w7) (by kernel_rfl) (by kernel_rfl) (Below.refl _ _).drew ?_
                              iterate 5 (refine wpOrd_q (v := ?_) (by rfl) (fun W hW => ?_) ?_; rotate_left; (focus ((obtain ⟨hWc, hWf⟩ := bcell hW); go_simp; try with_reducible rfl)); try simp only [Act.put, List.setIfInBounds_toArray, List.set_cons_zero, List.set_cons_succ])
                              refine wpOrd_b (by rfl) (fun K hK => ?_)
                              go_simp
                              refine hK (fun _ => True) _ _ trivial ?_
                              clear hK K
                              try simp only [Act.put, List.setIfInBounds_toArray, List.set_cons_zero, List.set_cons_succ]
                              refine wpOrd_nil ?_
                              rw [trust_put HIN.out] at hM
                              have bB8 : Blk w8 bx 199 #[.int .u8 (la.toNat : Int), .int .u16 (nu.toNat : Int)] := (ho.blk (fun e => blk_not_map bB.drew (hc7.tr.keep (w' := w7.drew) rfl).is e) bB.lt).trans bB.drew
                              have hc8 := (hc7.below (Below.refl _ _).drew).toConfG.trust ho hM
                              have hb8 : Below w.heap.size w w8 := hb7.drew.grown ho.1 hb7.size (fun k hk => by have := hc7.htb; injection hk with hk; omega)
                              have OK := hide hc7.ok
                              clear z0 z1 zl k1 kl hrun hM ho hb7 hc7 bB
                              go_wp2_with fail
                              have z0 := bB8.cell 0
                              have z1 := bB8.cell 1
                              have zl := bB8.lt
                              have k2 := hc8.blk.cell 2
                              have kl := hc8.blk.lt
                              refine wp_region_text [0, 0, 0, 0, 0, 0, 1, 1, 0, 0, 2] (fun W => Blk W c 179 #[.slice A1 R.length c1, .map (some tb), .slice A2 (K.take k).length c2, .map (some nb), .map (some lb), .slice A3 (geosOf 32 R).length c3, .int .i64 (totalOf 32 R)] ∧ Blk W bx 199 #[.int .u8 (la.toNat : Int), .int .u16 (nu.toNat : Int)]) (by kernel_rfl) (by kernel_rfl) ⟨hc8.blk.drew, bB8.drew⟩ ?_
                              iterate 6 (refine wpOrd_q (v := ?_) (by rfl) (fun W hW => ?_) ?_; rotate_left; (focus ((obtain ⟨hW1, hW2⟩ := hW; have k2' := hW1.cell 2; have kl' := hW1.lt; have z0' := hW2.cell 0; have z1' := hW2.cell 1; have zl' := hW2.lt); go_simp; try with_reducible rfl)); try simp only [Act.put, List.setIfInBounds_toArray, List.set_cons_zero, List.set_cons_succ])
                              refine wpOrd_x (by rfl) (fun K hK => ?_)
                              go_simp
                              refine hK _ _ _ (fun _ h => h) ⟨hc8.blk.drew.alloc _, bB8.drew.alloc _⟩ ?_
                              clear hK K
                              try simp only [Act.put, List.setIfInBounds_toArray, List.set_cons_zero, List.set_cons_succ]
                              clear z0 z1 zl k2 kl
                              have hbx : Below w8.heap.size w8 (w8.alloc (.cells #[.int .u8 (la.toNat : Int), .int .u16 (nu.toNat : Int)] 199)).drew := ((Below.refl _ _).alloc (Nat.le_refl _) _).drew
                              have or := World.ownsRow.drew <| own_lit (w := w8) (base := w.heap.size) (e := 199) (size := 2) (n := 1) (cs := #[.int .u8 (la.toNat : Int), .int .u16 (nu.toNat : Int)]) rfl rfl hb8.size (by simp [maxLen]) rfl
                              have hc9 := hc8.below hbx
                              have bB9 := bB8.below hbx bB8.lt
                              have hb9 := hb8.trans (hbx.mono hb8.size)
                              clear hc8 bB8 hb8 hbx
                              generalize (w8.alloc (.cells #[.int .u8 (la.toNat : Int), .int .u16 (nu.toNat : Int)] 199)).drew = w9 at *
                              have hlen : (K.take k).length = k := by rw [List.length_take]; omega
                              have hm9 := hc9.marks
                              rw [hlen] at hm9
                              obtain ⟨i0, hi0, i1, i2, i3⟩ := info_parts info_mark
                              refine wpOrd_x (by rfl) (fun KK hKK => ?_)
                              refine wp_append_rd _ (.tmp 110) (.tmp 112) 99 (by rfl) w.heap.size 199 i0 (.agg #[.int .u8 0, .int .u16 0]) 2 4 Tryz.underlying99 hi0 i1 i2 i3 rfl (by decide) (.slice A2 k c2) k (mcellsOf (K.take k)) (by rfl) hm9 _ (some ⟨w8.heap.size, 0, none⟩) 1 1 (markCells (la, nu)) (by rfl) (Rd.of_own or) (by simp [markCells, Value.oneCell']) (by simp only [maxLen]; omega) (by omega) hb9.size (fun v' X' ho hg hnil hat => ?_)
                              clear i0 hi0 i1 i2 i3 hnil hat or
                              obtain ⟨A', c', rfl, _, _, _⟩ := own_form ho
                              have cB' := hc9.blk.grown hg fun e => blk_not_own hc9.blk hm9 (by decide) e.symm
                              rw [hlen] at cB'
                              refine hKK _ _ _ (fun _ h => h) ⟨by rw [hlen]; exact cB', bB9.grown hg fun e => by have := HMN.out bx (by rw [hlen]; exact e.symm); omega⟩ ?_
                              clear hKK KK
                              try simp only [Act.put, List.setIfInBounds_toArray, List.set_cons_zero, List.set_cons_succ]
                              have k2 := cB'.cell 2
                              have kf := cB'.frozen 2
                              have kl := cB'.lt
                              iterate 2 (refine wpOrd_q (v := ?_) (by rfl) (fun W hW => ?_) ?_; rotate_left; (focus (go_simp; try with_reducible rfl)); try simp only [Act.put, List.setIfInBounds_toArray, List.set_cons_zero, List.set_cons_succ])
                              refine wpOrd_b (by rfl) (fun K hK => ?_)
                              go_simp
                              refine hK (fun _ => True) _ _ trivial ?_
                              clear hK K
                              try simp only [Act.put, List.setIfInBounds_toArray, List.set_cons_zero, List.set_cons_succ]
                              refine wpOrd_nil ?_
                              refine at_world (fun W => Below w.heap.size w W ∧ ConfIn w.heap.size W c R (K.take (k + 1)) tb nb lb A1 A' A3 c1 c' c3) ⟨?_, ?_⟩ (fun w10 h10 => ?_)
                              · exact (hb9.grown hg hb9.size (fun k hk => (hm9.lt k hk).1)).setCell hc9.hc _
                              · refine ⟨?_, OK.out⟩
                                rw [List.take_add_one, HD.out.2]
                                exact hc9.mark_row hlen hg ho (by simpa using cB'.set_ 2 (.slice A' (k + 1) c')) fun g hg => Below.heap_setCell _ _ _ _ hg
                              clear k2 kf kl cB' hg ho hc9 bB9 hb9
                              go_wp2
                              go_roundg (K.length - (k + 1))
                              case measure => omega
                              case rel =>
                                refine ⟨k + 1, by omega, rfl, by go_num, A', c', h10.1, h10.2, ?_⟩
                                rw [HE4.out, List.take_add_one, HD.out.2]
                                rfl
                    · obtain rfl : k = K.length := by omega
                      obtain ⟨A2, c2, hbr, hc, hadd⟩ := hA.out
                      rw [List.drop_length, marksE] at hadd
                      rw [List.take_length] at hc
                      have HBR := hide hbr
                      have HC := hide hc
                      have HD := hide hadd
                      clear hbr hc hadd hA
                      have hkz : ¬ ((K.length : Int) < K.length) := by omega
                      go_wp2
                      go_returns
                      exact ⟨HBR.out, fun _ => ⟨c, tb, nb, lb, A1, A2, A3, c1, c2, c3, rfl, HC.out⟩, fun h => absurd (HE3.out.trans HD.out) h⟩
            · have q2 : ((r0.cats.toNat : Int) == 0) = false := by
                have : r0.cats.toNat ≠ 0 := fun e => hc0 (UInt16.toNat_inj.1 e)
                simp; omega
              have HL := hide hc0
              clear hl hc0
              simp only [UInt8.toNat_zero, Int.cast_ofNat_Int] at y1
              go_wp2
              go_returns
              refine NewSays.err HBR.out (k := 25) ?_ (by decide) rfl
              rw [E.out, HD.out, if_neg (fun h => h rfl), if_pos (by exact .inr HL.out)]
          · have q1 : ((r0.lev.toNat : Int) == 0) = false := by
              have : r0.lev.toNat ≠ 0 := fun e => hl (UInt8.toNat_inj.1 e)
              simp; omega
            have HL := hide hl
            clear hl
            go_wp2
            go_returns
            refine NewSays.err HBR.out (k := 25) ?_ (by decide) rfl
            rw [E.out, HD.out, if_neg (fun h => h rfl), if_pos (by exact .inl HL.out)]
end
end Go.Proofs.YthmkgohfeahdhaaGreat
namespace Go.Proofs.YthmkgohfeahdhaaGreat
open Go.RowKit Go.WideMaps
set_option linter.unusedSimpArgs false
set_option linter.unusedVariables false

theorem below_setRow {B g : Nat} {w w' : World} (h : Below B w w') (hg : B ≤ g) (cs : Array Value) : Below B w (w'.setRow g cs) :=
  ⟨h.os, h.tape, h.output, by rw [setRow_size]; exact h.size, fun k hk => (setRow_other w' g k cs (by omega)).trans (h.block k hk)⟩
/-- a row of other elements is not touched -/
theorem own_besides {w w' : World} {B B' n n' s s' : Nat} {e e' : TypeId} {v v' : Value} {xs xs' : List Value} (h : w.ownsRow B e s v n xs) (h' : w.ownsRow B' e' s' v' n' xs') (hne : e ≠ e') (hg : w.grownBy w' v'.ownBlock) : w'.ownsRow B e s v n xs := by
  refine own_keep h fun g hv => ?_
  have hgl := (own_block_ge h hv).2
  refine hg.block g hgl fun e2 => ?_
  rcases h.2 with ⟨rfl, _⟩ | ⟨g1, cap, cur, rfl, _, hh, _⟩
  · cases hv
  · simp only [Value.ownBlock, Option.some.injEq] at hv
    subst hv
    exact blk_not_own_any hh h' hne e2.symm
where blk_not_own_any {w : World} {B' n' s' g : Nat} {e e' : TypeId} {v' : Value} {xs' : List Value} {cur : Array Value} (hh : w.heap[g]? = some (.cells cur e (0, 0))) (h' : w.ownsRow B' e' s' v' n' xs') (hne : e ≠ e') : v'.ownBlock ≠ some g :=
  blk_not_own (t := e) (cs := cur) hh h' hne
theorem Rd.of_blk {w : World} {g sz : Nat} {t : TypeId} {cs : Array Value} {xs : List Value} (h : Blk w g t cs) (hx : cs.toList = xs) (hs : xs.length = sz) : Rd w w.heap.size sz (some ⟨g, 0, none⟩) 1 xs := by
  subst hx
  refine ⟨by simpa using hs, fun _ => ⟨g, 0, rfl, h.lt, fun j u hu => ?_⟩⟩
  rw [Nat.zero_add, h.cell, ← Array.getElem?_toList]
  exact hu

/-- a cell of one's own row, written -/
theorem own_set {w : World} {base g n c i size : Nat} {e : TypeId} {xs : List Value} {u : Value} (h : w.ownsRow base e size (.slice (some ⟨g, 0, none⟩) n c) n xs) :
    (w.setCell ⟨g, i, none⟩ u).ownsRow base e size (.slice (some ⟨g, 0, none⟩) n c) n (xs.set i u) := by
  refine ⟨by simpa using h.1, ?_⟩
  rcases h.2 with ⟨h', _⟩ | ⟨g', cap', cur, h', hg, hh, hnc, hcm, hcs, htake⟩
  · cases h'
  · simp only [Value.slice.injEq, Option.some.injEq, Addr.mk.injEq] at h'
    obtain ⟨⟨rfl, _, _⟩, _, rfl⟩ := h'
    refine .inr ⟨_, _, cur.setIfInBounds i u, rfl, hg, (Blk.set_ (t := e) (cs := cur) hh i u), hnc, hcm, by simpa using hcs, ?_⟩
    rw [Array.toList_setIfInBounds, List.take_set, htake]
theorem own_frozen {w : World} {base g n c i size : Nat} {e : TypeId} {xs : List Value} (h : w.ownsRow base e size (.slice (some ⟨g, 0, none⟩) n c) n xs) : w.frozen? ⟨g, i, none⟩ = false := by
  rcases h.2 with ⟨h', _⟩ | ⟨g', cap', cur, h', hg, hh, _⟩
  · cases h'
  · simp only [Value.slice.injEq, Option.some.injEq, Addr.mk.injEq] at h'
    obtain ⟨⟨rfl, _, _⟩, _, rfl⟩ := h'
    simp [World.frozen?, hh]
theorem own_only {w w' : World} {B n s m : Nat} {e : TypeId} {v : Value} {xs : List Value} {κ : Type} {kv : κ → Value} {L : List (κ × Value)} (h : w.ownsRow B e s v n xs) (hm : MapIs kv w m L) (ho : OnlyMap w w' m) : w'.ownsRow B e s v n xs :=
  own_keep h fun g hv => ho.1.block g (own_block_ge h hv).2 fun e2 => hm.not_own h (hv.trans e2)

theorem rcells_set : ∀ (L : List RegV) (k : Nat) (r : RegV) (c : Int), L[k]? = some r → (rcellsOf L).set (k * 9 + 8) (.int .i64 c) = rcellsOf (L.set k { r with clear := c })
  | [], _, _, _, h => by simp at h
  | x :: rest, 0, r, c, h => by
    simp at h
    subst h
    rfl
  | x :: rest, k + 1, r, c, h => by
    simp at h
    have ih := rcells_set rest k r c h
    rw [List.set_cons_succ]
    show (x.cells ++ rcellsOf rest).set ((k + 1) * 9 + 8) _ = x.cells ++ rcellsOf (rest.set k _)
    rw [← ih, List.set_append]
    have h9 : x.cells.length = 9 := rfl
    rw [if_neg (by rw [h9]; omega), h9]
    congr 2
    omega

theorem ConfIn.base {B B' c tb nb lb c1 c2 c3 : Nat} {w : World} {R : List RegV} {K : List MarkV} {A1 A2 A3 : Option Addr} (h : ConfIn B w c R K tb nb lb A1 A2 A3 c1 c2 c3) (hB : B' ≤ B) : ConfIn B' w c R K tb nb lb A1 A2 A3 c1 c2 c3 :=
  { h with regs := own_mono h.regs hB, marks := own_mono h.marks hB, geos := own_mono h.geos hB, hc := Nat.le_trans hB h.hc, htb := Nat.le_trans hB h.htb, hnb := Nat.le_trans hB h.hnb, hlb := Nat.le_trans hB h.hlb }
end Go.Proofs.YthmkgohfeahdhaaGreat
namespace Go.Proofs.YthmkgohfeahdhaaGreat
open Go.RowKit Go.WideMaps
set_option linter.unusedSimpArgs false
set_option linter.unusedVariables false

def szNames : List Value := [.string ⟨#[108, 111, 119]⟩, .string ⟨#[114, 101, 100]⟩, .string ⟨#[98, 108, 117, 101]⟩, .string ⟨#[116, 111, 112]⟩, .string ⟨#[104, 105, 103, 104]⟩]
def szLabels : List Value := [.int .u8 0, .int .u16 0, .int .u8 1, .int .u16 1, .int .u8 1, .int .u16 2, .int .u8 2, .int .u16 3, .int .u8 9, .int .u16 7]
theorem names_ok (w : World) : Calls Tryz.prog 108 #[] w fun e w' => ∃ g, w.heap.size ≤ g ∧ e = .returned (.slice (some ⟨g, 0, none⟩) 5 5) ∧ Below w.heap.size w w' ∧ g < w'.heap.size ∧ ∀ j v, szNames[j]? = some v → w'.cell? ⟨g, j, none⟩ = some v := by
  go_enter Tryz.func108, Tryz.ntmps108
  go_wp2
  go_returns
  refine ⟨w.heap.size, Nat.le_refl _, rfl, (Below.refl _ _).alloc (Nat.le_refl _) _, by simp, fun j v hj => ?_⟩
  rw [(Blk.new w _ _).cell j]
  simpa [szNames] using hj
theorem build_lab2 (W : World) (a b : Int) : (Instr.build 39 #[(0, .int .u8 a), (1, .int .u16 b)]).run Tryz.prog W = .ok (.agg #[.int .u8 a, .int .u16 b]) W := by kernel_rfl
section
attribute [-go_sem] Instr.build
attribute [local go_sem] build_lab0 build_lab2
theorem labels_ok (w : World) : Calls Tryz.prog 109 #[] w fun e w' => ∃ g, w.heap.size ≤ g ∧ e = .returned (.slice (some ⟨g, 0, none⟩) 5 5) ∧ Below w.heap.size w w' ∧ g < w'.heap.size ∧ ∀ j v, szLabels[j]? = some v → w'.cell? ⟨g, j, none⟩ = some v := by
  go_enter Tryz.func109, Tryz.ntmps109
  go_wp2
  go_returns
  refine ⟨w.heap.size, Nat.le_refl _, rfl, (Below.refl _ _).alloc (Nat.le_refl _) _, by simp, fun j v hj => ?_⟩
  rw [(Blk.new w _ _).cell j]
  simpa [szLabels] using hj
end


/-! ### labels and marks -/
def szCells (m : UInt8) (H : List UInt8) (A : Option Addr) (n c : Nat) : Array Value := (Value.int .u8 (m.toNat : Int) :: (bvs H ++ [Value.slice A n c])).toArray
def szClear0 (many i : Nat) : Nat := if many = 2 then 1 else if many < 4 ∧ 0 < i then i else many - 1
def szReg0 (many : Nat) (H : List UInt8) (i : Nat) : RegV := { szReg many H i with clear := (szClear0 many i : Nat) }
theorem szCells_size {m : UInt8} {H : List UInt8} {A : Option Addr} {n c : Nat} (h : H.length = 25) : (szCells m H A n c).size = 27 := by simp [szCells, h, bvs_length]
theorem szCells_many {m : UInt8} {H : List UInt8} {A : Option Addr} {n c : Nat} : (szCells m H A n c)[0]? = some (.int .u8 (m.toNat : Int)) := by simp [szCells]
theorem szCells_have {m : UInt8} {H : List UInt8} {A : Option Addr} {n c j : Nat} (h : H.length = 25) (hj : j < 25) : (szCells m H A n c)[1 + j]? = some (.int .u8 ((H.getD j 0).toNat : Int)) := by
  rw [szCells, List.getElem?_toArray, Nat.add_comm 1 j, List.getElem?_cons_succ, List.getElem?_append_left (by rw [bvs_length]; omega), bvs_get]
  simp [List.getElem?_eq_getElem (show j < H.length by omega), bv]
theorem szCells_trust {m : UInt8} {H : List UInt8} {A : Option Addr} {n c : Nat} (h : H.length = 25) : (szCells m H A n c)[26]? = some (.slice A n c) := by
  rw [szCells, List.getElem?_toArray, List.getElem?_cons_succ, List.getElem?_append_right (by rw [bvs_length]; omega), bvs_length, h]
  rfl
def MarksOk (M : Nat) (K : List MarkV) : Prop := (∀ x ∈ K, x.1.toNat < M ∧ 1 ≤ x.2.toNat ∧ x.2.toNat ≤ 8) ∧ K.Nodup ∧ K.length ≤ 9
theorem szReg0_eq {M : Nat} {H : List UInt8} (h2 : 2 ≤ M) (h3 : M ≠ 3) : (List.range M).map (szReg0 M H) = (List.range M).map (szReg M H) := by
  apply List.map_congr_left
  intro i hi
  have hc : szClear0 M i = szClear M i := by
    unfold szClear0 szClear
    by_cases e2 : M = 2
    · rw [if_pos e2, if_pos e2]
    · rw [if_neg e2, if_neg e2, if_neg h3, if_neg (by omega)]
  unfold szReg0
  rw [hc]
  rfl
theorem szReg0_three (H : List UInt8) : ((List.range 3).map (szReg0 3 H)).set 0 { szReg0 3 H 0 with clear := (1 : Int) } = (List.range 3).map (szReg 3 H) := rfl
theorem szNames_at {k : Nat} (h : k < 5) : szNames[k]? = some (.string ⟨(szName k).toArray⟩) := by
  rcases k with _ | _ | _ | _ | _ | k <;> first | rfl | omega
theorem szLabels_at {k : Nat} (h : k < 5) : szLabels[k * 2]? = some (.int .u8 ((szLev k).toNat : Int)) ∧ szLabels[k * 2 + 1]? = some (.int .u16 ((szCat k).toNat : Int)) := by
  rcases k with _ | _ | _ | _ | _ | k <;> first | exact ⟨rfl, rfl⟩ | omega

section
variable {m : UInt8} {H : List UInt8} {A : Option Addr} {n c : Nat} {T : List UInt8} {w : World}
set_option maxRecDepth 100000 in
set_option maxHeartbeats 4000000 in
theorem size_regs (hH : H.length = 25) (hT : Rd w w.heap.size 1 A n (bvs T)) (hnm : n ≤ 9223372036854775807) :
    Calls Tryz.prog 45 #[.agg (szCells m H A n c)] w fun e w' => ∃ (K : List MarkV) (A1 A2 : Option Addr) (c1 c2 : Nat), e = .returned (.tuple #[.slice A1 (szMany m) c1, .slice A2 K.length c2]) ∧ Below w.heap.size w w' ∧
      w'.ownsRow w.heap.size 41 9 (.slice A1 (szMany m) c1) (szMany m) (rcellsOf (szRegs m H)) ∧ w'.ownsRow w.heap.size 199 2 (.slice A2 K.length c2) K.length (mcellsOf K) ∧ MarksOk (szMany m) K := by
  have hsz : (szCells m H A n c).size = 27 := szCells_size hH
  go_enter Tryz.func45, Tryz.ntmps45
  go_upto_region 1 with (fail)
  refine at_world (fun W => ∃ bx, bx = w.heap.size ∧ Below w.heap.size w W ∧ Blk W bx 26 (szCells m H A n c)) ⟨_, rfl, (Below.refl _ _).alloc (Nat.le_refl _) _, Blk.new _ _ _⟩ (fun w1 h1 => ?_)
  obtain ⟨bx, hbx, hb1, hX1⟩ := h1
  rw [← hbx]
  have HBX := hide hbx
  clear hbx
  have x0 := (hX1.cell 0).trans szCells_many
  have x26 := (hX1.cell 26).trans (szCells_trust hH)
  have xl := hX1.lt
  have hm4 : (m.toNat : Int).tmod 4 = ((m.toNat % 4 : Nat) : Int) := by rw [IntWalk.rem_in _ _ (by omega)]; rfl
  have hm5 : wrap64 ((m.toNat % 4 : Nat) : Int) = ((m.toNat % 4 : Nat) : Int) := IntWalk.wrap64_in _ (by omega)
  obtain ⟨M, hM⟩ : ∃ M, M = szMany m := ⟨_, rfl⟩
  have hM2 := szMany_ge m
  have hM5 := szMany_le m
  rw [← hM] at hM2 hM5
  have hm6 : (2 : Int) + (m.toNat : Int) % 4 = (M : Int) := by rw [hM]; unfold szMany; omega
  have HM := hide hM
  have HX1 := hide hX1
  have HB1 := hide hb1
  clear hM hX1 hb1
  go_upto_region 4 with (fail)
  clear hm4 hm5 hm6 x0 x26 xl hsz
  go_loopg [5, 6, 7, 8, 22] M (fun g x5 x6 x7 x8 x22 wr => ∃ (k : Nat) (Ak : Option Addr) (ck : Nat), k ≤ M ∧ g = M - k ∧ x22 = .int .i64 k ∧ x5 = .slice Ak k ck ∧ Aside (Below w1.heap.size w1 wr ∧ wr.ownsRow w1.heap.size 41 9 (.slice Ak k ck) k (rcellsOf ((List.range k).map (szReg0 M H)))))
  case atStart => exact ⟨0, none, 0, Nat.zero_le _, rfl, rfl, rfl, Below.refl _ _, World.ownsRow_nil _ _ _ _⟩
  case round =>
    obtain ⟨k, Ak, ck, hk, hg, rfl, rfl, hA⟩ := hrel
    by_cases hkM : k < M
    · have hkz : (k : Int) < M := by omega
      obtain ⟨hbr, hor⟩ := hA.out
      have HBR := hide hbr
      have HOR := hide hor
      have hX := HX1.out.below hbr HX1.out.lt
      have y (j : Nat) (hj : j < 5) : wr.cell? ⟨bx, 1 + k * 5 + j, none⟩ = some (.int .u8 ((H.getD (5 * k + j) 0).toNat : Int)) := by
        rw [show 1 + k * 5 + j = 1 + (5 * k + j) from by omega]
        exact (hX.cell _).trans (szCells_have hH (by omega))
      have y0 := y 0 (by omega)
      have y1 := y 1 (by omega)
      have y2 := y 2 (by omega)
      have y3 := y 3 (by omega)
      have y4 := y 4 (by omega)
      simp only [Nat.add_zero] at y0
      have hk5 : k < 5 := by omega
      have hk5z : (k : Int) < 5 := by omega
      have xl := hX.lt
      clear y hA hbr hor hX
      generalize hh0 : (H.getD (5 * k) 0) = h0 at y0
      generalize hh1 : (H.getD (5 * k + 1) 0) = h1 at y1
      generalize hh2 : (H.getD (5 * k + 2) 0) = h2 at y2
      generalize hh3 : (H.getD (5 * k + 3) 0) = h3 at y3
      generalize hh4 : (H.getD (5 * k + 4) 0) = h4 at y4
      have HHS := hide (And.intro hh0 (And.intro hh1 (And.intro hh2 (And.intro hh3 hh4))))
      clear hh0 hh1 hh2 hh3 hh4
      go_upto_region 7 with (fail)
      refine at_world (fun W => ∃ b7, b7 = wr.heap.size ∧ Below wr.heap.size wr W ∧ Blk W b7 22 #[.int .u8 (h0.toNat : Int), .int .u8 (h1.toNat : Int), .int .u8 (h2.toNat : Int), .int .u8 (h3.toNat : Int), .int .u8 (h4.toNat : Int)]) ⟨_, rfl, (Below.refl _ _).alloc (Nat.le_refl _) _, Blk.new _ _ _⟩ (fun w4 h4 => ?_)
      obtain ⟨b7, e7, hb4, hk7⟩ := h4
      rw [← e7]
      have z0 := hk7.cell 0
      have z1 := hk7.cell 1
      have z2 := hk7.cell 2
      have z3 := hk7.cell 3
      have z4 := hk7.cell 4
      have zl := hk7.lt
      have HB4 := hide hb4
      clear e7 hb4 hk7 y0 y1 y2 y3 y4 xl
      obtain ⟨a0, ha0⟩ : ∃ a0, a0 = h0.toNat % 60 := ⟨_, rfl⟩
      have fa0 : (h0.toNat : Int).tmod 60 = (a0 : Int) := by rw [IntWalk.rem_in _ _ (by omega)]; omega
      have fb0 : IntKind.i64.wrap (a0 : Int) = (a0 : Int) := IntWalk.i64_in _ (by omega)
      obtain ⟨a1, ha1⟩ : ∃ a1, a1 = h1.toNat % 12 := ⟨_, rfl⟩
      have fa1 : (h1.toNat : Int).tmod 12 = (a1 : Int) := by rw [IntWalk.rem_in _ _ (by omega)]; omega
      have fb1 : IntKind.i64.wrap (a1 : Int) = (a1 : Int) := IntWalk.i64_in _ (by omega)
      obtain ⟨a2, ha2⟩ : ∃ a2, a2 = h2.toNat % 40 := ⟨_, rfl⟩
      have fa2 : (h2.toNat : Int).tmod 40 = (a2 : Int) := by rw [IntWalk.rem_in _ _ (by omega)]; omega
      have fb2 : IntKind.i64.wrap (a2 : Int) = (a2 : Int) := IntWalk.i64_in _ (by omega)
      obtain ⟨a3, ha3⟩ : ∃ a3, a3 = h3.toNat % 6 := ⟨_, rfl⟩
      have fa3 : (h3.toNat : Int).tmod 6 = (a3 : Int) := by rw [IntWalk.rem_in _ _ (by omega)]; omega
      have fb3 : IntKind.i64.wrap (a3 : Int) = (a3 : Int) := IntWalk.i64_in _ (by omega)
      obtain ⟨a4, ha4⟩ : ∃ a4, a4 = h4.toNat % 14 := ⟨_, rfl⟩
      have fa4 : (h4.toNat : Int).tmod 14 = (a4 : Int) := by rw [IntWalk.rem_in _ _ (by omega)]; omega
      have fb4 : IntKind.i64.wrap (a4 : Int) = (a4 : Int) := IntWalk.i64_in _ (by omega)
      have fc0 : IntKind.i64.wrap (8 + (a0 : Int)) = 8 + (a0 : Int) := IntWalk.i64_in _ (by omega)
      have fc1 : IntKind.i64.wrap (2 * (a1 : Int)) = 2 * (a1 : Int) := IntWalk.i64_in _ (by omega)
      have fd1 : IntKind.i64.wrap (8 + 2 * (a1 : Int)) = 8 + 2 * (a1 : Int) := IntWalk.i64_in _ (by omega)
      have fc2 : IntKind.i64.wrap (4 + (a2 : Int)) = 4 + (a2 : Int) := IntWalk.i64_in _ (by omega)
      have fc3 : IntKind.i64.wrap (1 + (a3 : Int)) = 1 + (a3 : Int) := IntWalk.i64_in _ (by omega)
      have fc4 : IntKind.i64.wrap (2 + (a4 : Int)) = 2 + (a4 : Int) := IntWalk.i64_in _ (by omega)
      have fM : IntKind.i64.wrap ((M : Int) - 1) = (M : Int) - 1 := IntWalk.i64_in _ (by omega)
      have HA := hide (And.intro ha0 (And.intro ha1 (And.intro ha2 (And.intro ha3 ha4))))
      clear ha0 ha1 ha2 ha3 ha4
      go_cut [8] from 29 to 65 (fun x8 wc => ∃ g8, x8 = .pointer (some ⟨g8, 0, none⟩) ∧ Below w4.heap.size w4 wc ∧ w4.heap.size ≤ g8 ∧ Blk wc g8 41 #[.string ⟨(szName k).toArray⟩, .int .u8 ((szLev k).toNat : Int), .int .u16 ((szCat k).toNat : Int), .int .i64 (8 + (a0 : Int)), .int .i64 (8 + 2 * (a1 : Int)), .int .i64 (4 + (a2 : Int)), .int .i64 (1 + (a3 : Int)), .int .i64 (2 + (a4 : Int)), .int .i64 ((M : Int) - 1)])
      case first =>
        refine wp_region_tree (.q 1 (.q 5 (.q 8 (.q 9 (.q 10 (.q 11 (.q 12 (.q 13 (.q 14 (.q 15 (.q 16 (.q 17 (.q 18 (.q 19 (.q 20 (.q 21 (.q 22 (.q 23 (.q 24 (.q 25 (.q 26 (.q 27 (.q 28 (.q 29 (.q 30 (.q 31 (.q 32 (.q 33 (.q 34 (.q 35 (.br 0 (.q 2 (.q 3 (.br 4 (.q 6 (.q 7 (.q 36 (.x 37 (.x 38 .nil))))) 37 (.x 4 (.q 6 (.q 7 (.q 36 (.x 38 .nil)))))))) 37 (.x 0 (.q 2 (.q 3 (.x 4 (.q 6 (.q 7 (.q 36 (.x 38 .nil))))))))))))))))))))))))))))))))))))))) (Below w4.heap.size w4) (by kernel_rfl) (by kernel_rfl) (Below.refl _ _).drew ?_
        iterate 30 (refine wpT_q (v := ?_) (by simp only [List.getElem?_toArray, List.getElem?_cons_succ, List.getElem?_cons_zero]; try rfl) (by rfl) (fun W hW => ?_) ?_; rotate_left; (focus ((obtain ⟨hWc, hWf⟩ := bcell hW); go_simp; try with_reducible rfl)); try simp only [Act.put, List.setIfInBounds_toArray, List.set_cons_zero, List.set_cons_succ])
        refine at_world (fun W => Below w4.heap.size w4 W) (Below.refl _ _).drew (fun w20 hbx => ?_)
        have Bw20 := hide hbx
        clear hbx
        refine wpT_br ?_ ?_
        · refine wpT_x (by simp only [List.getElem?_toArray, List.getElem?_cons_succ, List.getElem?_cons_zero]; try rfl) (by rfl) (fun K hK => ?_)
          go_simp
          refine (names_ok _).mono ?_
          rintro e w21 ⟨g29, hge, rfl, hbx, hgl, hcell⟩
          have hN := hcell k _ (szNames_at hk5)
          have Bw21 := hide (Bw20.out.trans (hbx.mono Bw20.out.size))
          have Nw21 : Hid (w21.cell? ⟨g29, k, none⟩ = some (.string ⟨(szName k).toArray⟩)) := hide hN; have G29w21 := hide hgl
          refine hK (fun W => Below w4.heap.size w4 W ∧ W.cell? ⟨g29, k, none⟩ = some (.string ⟨(szName k).toArray⟩)) _ _ (fun _ h => h.1) ⟨Bw21.out, hN⟩ ?_
          clear hK K hbx hcell hN hge; try simp only [Act.put, List.setIfInBounds_toArray, List.set_cons_zero, List.set_cons_succ]
          iterate 2 (refine wpT_q (v := ?_) (by simp only [List.getElem?_toArray, List.getElem?_cons_succ, List.getElem?_cons_zero]; try rfl) (by rfl) (fun W hW => ?_) ?_; rotate_left; (focus ((obtain ⟨hWB, hW1⟩ := hW; obtain ⟨hWc, hWf⟩ := bcell hWB); go_simp; try with_reducible rfl)); try simp only [Act.put, List.setIfInBounds_toArray, List.set_cons_zero, List.set_cons_succ])
          refine wpT_br ?_ ?_
          · refine wpT_x (by simp only [List.getElem?_toArray, List.getElem?_cons_succ, List.getElem?_cons_zero]; try rfl) (by rfl) (fun K hK => ?_)
            go_simp
            refine (labels_ok _).mono ?_
            rintro e w22 ⟨g33, hge, rfl, hbx, hgl, hcell⟩
            have hL1 := hcell _ _ (szLabels_at hk5).1
            have hL2 := hcell _ _ (szLabels_at hk5).2
            have Bw22 := hide (Bw21.out.trans (hbx.mono Bw21.out.size))
            have Nw22 : Hid (w22.cell? ⟨g29, k, none⟩ = some (.string ⟨(szName k).toArray⟩)) := hide ((hbx.cell (p := ⟨g29, k, none⟩) G29w21.out).trans Nw21.out); have G29w22 := hide (Nat.lt_of_lt_of_le G29w21.out hbx.size)
            have Lw22 : Hid (w22.cell? ⟨g33, k * 2, none⟩ = some (.int .u8 ((szLev k).toNat : Int)) ∧ w22.cell? ⟨g33, k * 2 + 1, none⟩ = some (.int .u16 ((szCat k).toNat : Int))) := hide ⟨hL1, hL2⟩; have G33w22 := hide hgl
            refine hK (fun W => Below w4.heap.size w4 W ∧ W.cell? ⟨g29, k, none⟩ = some (.string ⟨(szName k).toArray⟩) ∧ W.cell? ⟨g33, k * 2, none⟩ = some (.int .u8 ((szLev k).toNat : Int)) ∧ W.cell? ⟨g33, k * 2 + 1, none⟩ = some (.int .u16 ((szCat k).toNat : Int))) _ _ (fun _ h => ⟨h.1, h.2.1⟩) ⟨Bw22.out, Nw22.out, hL1, hL2⟩ ?_
            clear hK K hbx hcell hL1 hL2 hge; try simp only [Act.put, List.setIfInBounds_toArray, List.set_cons_zero, List.set_cons_succ]
            iterate 3 (refine wpT_q (v := ?_) (by simp only [List.getElem?_toArray, List.getElem?_cons_succ, List.getElem?_cons_zero]; try rfl) (by rfl) (fun W hW => ?_) ?_; rotate_left; (focus ((obtain ⟨hWB, hW1, hW2, hW3⟩ := hW; obtain ⟨hWc, hWf⟩ := bcell hWB); go_simp; try with_reducible rfl)); try simp only [Act.put, List.setIfInBounds_toArray, List.set_cons_zero, List.set_cons_succ])
            refine wpT_x (by simp only [List.getElem?_toArray, List.getElem?_cons_succ, List.getElem?_cons_zero]; try rfl) (by rfl) (fun K hK => ?_)
            go_simp
            have hbx : Below w22.heap.size w22 (w22.alloc (.cells #[.string ByteArray.empty, .int .u8 0, .int .u16 0, .int .i64 0, .int .i64 0, .int .i64 0, .int .i64 0, .int .i64 0, .int .i64 0] 41)) := (Below.refl _ _).alloc (Nat.le_refl _) _
            refine hK (fun W => Below w4.heap.size w4 W ∧ W.cell? ⟨g29, k, none⟩ = some (.string ⟨(szName k).toArray⟩) ∧ W.cell? ⟨g33, k * 2, none⟩ = some (.int .u8 ((szLev k).toNat : Int)) ∧ W.cell? ⟨g33, k * 2 + 1, none⟩ = some (.int .u16 ((szCat k).toNat : Int))) _ _ (fun _ h => h) ⟨Bw22.out.trans (hbx.mono Bw22.out.size), (hbx.cell (p := ⟨g29, k, none⟩) G29w22.out).trans Nw22.out, (hbx.cell (p := ⟨g33, k * 2, none⟩) G33w22.out).trans Lw22.out.1, (hbx.cell (p := ⟨g33, k * 2 + 1, none⟩) G33w22.out).trans Lw22.out.2⟩ ?_
            clear hK K hbx; try simp only [Act.put, List.setIfInBounds_toArray, List.set_cons_zero, List.set_cons_succ]
            refine at_world (fun W => ∃ g8, g8 = w22.heap.size ∧ Below w22.heap.size w22 W ∧ Blk W g8 41 #[.string ByteArray.empty, .int .u8 0, .int .u16 0, .int .i64 0, .int .i64 0, .int .i64 0, .int .i64 0, .int .i64 0, .int .i64 0]) ⟨_, rfl, (Below.refl _ _).alloc (Nat.le_refl _) _, Blk.new _ _ _⟩ (fun w23 h9 => ?_)
            obtain ⟨g8, e8, hbx, hk8⟩ := h9
            rw [← e8]
            have Bw23 := hide (Bw22.out.trans (hbx.mono Bw22.out.size))
            have Nw23 : Hid (w23.cell? ⟨g29, k, none⟩ = some (.string ⟨(szName k).toArray⟩)) := hide ((hbx.cell (p := ⟨g29, k, none⟩) G29w22.out).trans Nw22.out); have G29w23 := hide (Nat.lt_of_lt_of_le G29w22.out hbx.size)
            have Lw23 : Hid (w23.cell? ⟨g33, k * 2, none⟩ = some (.int .u8 ((szLev k).toNat : Int)) ∧ w23.cell? ⟨g33, k * 2 + 1, none⟩ = some (.int .u16 ((szCat k).toNat : Int))) := hide ⟨(hbx.cell (p := ⟨g33, k * 2, none⟩) G33w22.out).trans Lw22.out.1, (hbx.cell (p := ⟨g33, k * 2 + 1, none⟩) G33w22.out).trans Lw22.out.2⟩; have G33w23 := hide (Nat.lt_of_lt_of_le G33w22.out hbx.size)
            have Kw23 := hide hk8
            have hg8 : w4.heap.size ≤ g8 := by rw [e8]; exact Bw22.out.size
            have ne29 : g8 ≠ g29 := by have := G29w22.out; omega
            have ne33 : g8 ≠ g33 := by have := G33w22.out; omega
            clear hbx hk8 e8
            refine wpT_x (by simp only [List.getElem?_toArray, List.getElem?_cons_succ, List.getElem?_cons_zero]; try rfl) (by rfl) (fun K hK => ?_)
            refine wp_store_row 41 (.tmp 8) (.tmp 65) (by rfl) g8 #[.string ⟨(szName k).toArray⟩, .int .u8 ((szLev k).toNat : Int), .int .u16 ((szCat k).toNat : Int), .int .i64 (8 + (a0 : Int)), .int .i64 (8 + 2 * (a1 : Int)), .int .i64 (4 + (a2 : Int)), .int .i64 (1 + (a3 : Int)), .int .i64 (2 + (a4 : Int)), .int .i64 ((M : Int) - 1)] (by rfl) (by rfl) 41 _ Kw23.out (by kernel_rfl) (by rfl) (by simp [Value.oneCell']) ?_
            refine hK (fun W => Below w4.heap.size w4 W ∧ W.cell? ⟨g29, k, none⟩ = some (.string ⟨(szName k).toArray⟩) ∧ W.cell? ⟨g33, k * 2, none⟩ = some (.int .u8 ((szLev k).toNat : Int)) ∧ W.cell? ⟨g33, k * 2 + 1, none⟩ = some (.int .u16 ((szCat k).toNat : Int))) _ _ (fun _ h => h) ⟨below_setRow Bw23.out hg8 _, (World.cell?_of_block (a := ⟨g29, k, none⟩) (setRow_other _ g8 g29 _ (fun e => ne29 e.symm))).trans Nw23.out, (World.cell?_of_block (a := ⟨g33, k * 2, none⟩) (setRow_other _ g8 g33 _ (fun e => ne33 e.symm))).trans Lw23.out.1, (World.cell?_of_block (a := ⟨g33, k * 2 + 1, none⟩) (setRow_other _ g8 g33 _ (fun e => ne33 e.symm))).trans Lw23.out.2⟩ ?_
            clear hK K; try simp only [Act.put, List.setIfInBounds_toArray, List.set_cons_zero, List.set_cons_succ]
            refine wpT_nil ?_
            go_wp2
            go_meet
            case rel => exact ⟨g8, rfl, below_setRow Bw23.out hg8 _, hg8, setRow_heap _ _ _ _ _ _ Kw23.out⟩
          · refine wpT_x (by simp only [List.getElem?_toArray, List.getElem?_cons_succ, List.getElem?_cons_zero]; try rfl) (by rfl) (fun K hK => ?_)
            go_simp
            have hbx : Below w21.heap.size w21 (w21.alloc (.cells #[.string ByteArray.empty, .int .u8 0, .int .u16 0, .int .i64 0, .int .i64 0, .int .i64 0, .int .i64 0, .int .i64 0, .int .i64 0] 41)) := (Below.refl _ _).alloc (Nat.le_refl _) _
            refine hK (fun W => Below w4.heap.size w4 W ∧ W.cell? ⟨g29, k, none⟩ = some (.string ⟨(szName k).toArray⟩)) _ _ (fun _ h => h) ⟨Bw21.out.trans (hbx.mono Bw21.out.size), (hbx.cell (p := ⟨g29, k, none⟩) G29w21.out).trans Nw21.out⟩ ?_
            clear hK K hbx; try simp only [Act.put, List.setIfInBounds_toArray, List.set_cons_zero, List.set_cons_succ]
            refine at_world (fun W => ∃ g8, g8 = w21.heap.size ∧ Below w21.heap.size w21 W ∧ Blk W g8 41 #[.string ByteArray.empty, .int .u8 0, .int .u16 0, .int .i64 0, .int .i64 0, .int .i64 0, .int .i64 0, .int .i64 0, .int .i64 0]) ⟨_, rfl, (Below.refl _ _).alloc (Nat.le_refl _) _, Blk.new _ _ _⟩ (fun w22 h9 => ?_)
            obtain ⟨g8, e8, hbx, hk8⟩ := h9
            rw [← e8]
            have Bw22 := hide (Bw21.out.trans (hbx.mono Bw21.out.size))
            have Nw22 : Hid (w22.cell? ⟨g29, k, none⟩ = some (.string ⟨(szName k).toArray⟩)) := hide ((hbx.cell (p := ⟨g29, k, none⟩) G29w21.out).trans Nw21.out); have G29w22 := hide (Nat.lt_of_lt_of_le G29w21.out hbx.size)
            have Kw22 := hide hk8
            have hg8 : w4.heap.size ≤ g8 := by rw [e8]; exact Bw21.out.size
            have ne29 : g8 ≠ g29 := by have := G29w21.out; omega
            clear hbx hk8 e8
            refine wpT_x (by simp only [List.getElem?_toArray, List.getElem?_cons_succ, List.getElem?_cons_zero]; try rfl) (by rfl) (fun K hK => ?_)
            go_simp
            refine (labels_ok _).mono ?_
            rintro e w23 ⟨g33, hge, rfl, hbx, hgl, hcell⟩
            have hL1 := hcell _ _ (szLabels_at hk5).1
            have hL2 := hcell _ _ (szLabels_at hk5).2
            have Bw23 := hide (Bw22.out.trans (hbx.mono Bw22.out.size))
            have Nw23 : Hid (w23.cell? ⟨g29, k, none⟩ = some (.string ⟨(szName k).toArray⟩)) := hide ((hbx.cell (p := ⟨g29, k, none⟩) G29w22.out).trans Nw22.out); have G29w23 := hide (Nat.lt_of_lt_of_le G29w22.out hbx.size)
            have Kw23 := hide (Kw22.out.below hbx Kw22.out.lt)
            have Lw23 : Hid (w23.cell? ⟨g33, k * 2, none⟩ = some (.int .u8 ((szLev k).toNat : Int)) ∧ w23.cell? ⟨g33, k * 2 + 1, none⟩ = some (.int .u16 ((szCat k).toNat : Int))) := hide ⟨hL1, hL2⟩; have G33w23 := hide hgl
            have ne33 : g8 ≠ g33 := by have := Kw22.out.lt; omega
            refine hK (fun W => Below w4.heap.size w4 W ∧ W.cell? ⟨g29, k, none⟩ = some (.string ⟨(szName k).toArray⟩) ∧ W.cell? ⟨g33, k * 2, none⟩ = some (.int .u8 ((szLev k).toNat : Int)) ∧ W.cell? ⟨g33, k * 2 + 1, none⟩ = some (.int .u16 ((szCat k).toNat : Int))) _ _ (fun _ h => ⟨h.1, h.2.1⟩) ⟨Bw23.out, Nw23.out, hL1, hL2⟩ ?_
            clear hK K hbx hcell hL1 hL2 hge; try simp only [Act.put, List.setIfInBounds_toArray, List.set_cons_zero, List.set_cons_succ]
            iterate 3 (refine wpT_q (v := ?_) (by simp only [List.getElem?_toArray, List.getElem?_cons_succ, List.getElem?_cons_zero]; try rfl) (by rfl) (fun W hW => ?_) ?_; rotate_left; (focus ((obtain ⟨hWB, hW1, hW2, hW3⟩ := hW; obtain ⟨hWc, hWf⟩ := bcell hWB); go_simp; try with_reducible rfl)); try simp only [Act.put, List.setIfInBounds_toArray, List.set_cons_zero, List.set_cons_succ])
            refine wpT_x (by simp only [List.getElem?_toArray, List.getElem?_cons_succ, List.getElem?_cons_zero]; try rfl) (by rfl) (fun K hK => ?_)
            refine wp_store_row 41 (.tmp 8) (.tmp 65) (by rfl) g8 #[.string ⟨(szName k).toArray⟩, .int .u8 ((szLev k).toNat : Int), .int .u16 ((szCat k).toNat : Int), .int .i64 (8 + (a0 : Int)), .int .i64 (8 + 2 * (a1 : Int)), .int .i64 (4 + (a2 : Int)), .int .i64 (1 + (a3 : Int)), .int .i64 (2 + (a4 : Int)), .int .i64 ((M : Int) - 1)] (by rfl) (by rfl) 41 _ Kw23.out (by kernel_rfl) (by rfl) (by simp [Value.oneCell']) ?_
            refine hK (fun W => Below w4.heap.size w4 W ∧ W.cell? ⟨g29, k, none⟩ = some (.string ⟨(szName k).toArray⟩) ∧ W.cell? ⟨g33, k * 2, none⟩ = some (.int .u8 ((szLev k).toNat : Int)) ∧ W.cell? ⟨g33, k * 2 + 1, none⟩ = some (.int .u16 ((szCat k).toNat : Int))) _ _ (fun _ h => h) ⟨below_setRow Bw23.out hg8 _, (World.cell?_of_block (a := ⟨g29, k, none⟩) (setRow_other _ g8 g29 _ (fun e => ne29 e.symm))).trans Nw23.out, (World.cell?_of_block (a := ⟨g33, k * 2, none⟩) (setRow_other _ g8 g33 _ (fun e => ne33 e.symm))).trans Lw23.out.1, (World.cell?_of_block (a := ⟨g33, k * 2 + 1, none⟩) (setRow_other _ g8 g33 _ (fun e => ne33 e.symm))).trans Lw23.out.2⟩ ?_
            clear hK K; try simp only [Act.put, List.setIfInBounds_toArray, List.set_cons_zero, List.set_cons_succ]
            refine wpT_nil ?_
            go_wp2
            go_meet
            case rel => exact ⟨g8, rfl, below_setRow Bw23.out hg8 _, hg8, setRow_heap _ _ _ _ _ _ Kw23.out⟩
        · refine wpT_x (by simp only [List.getElem?_toArray, List.getElem?_cons_succ, List.getElem?_cons_zero]; try rfl) (by rfl) (fun K hK => ?_)
          go_simp
          have hbx : Below w20.heap.size w20 (w20.alloc (.cells #[.string ByteArray.empty, .int .u8 0, .int .u16 0, .int .i64 0, .int .i64 0, .int .i64 0, .int .i64 0, .int .i64 0, .int .i64 0] 41)) := (Below.refl _ _).alloc (Nat.le_refl _) _
          refine hK (fun W => Below w4.heap.size w4 W) _ _ (fun _ h => h) (Bw20.out.trans (hbx.mono Bw20.out.size)) ?_
          clear hK K hbx; try simp only [Act.put, List.setIfInBounds_toArray, List.set_cons_zero, List.set_cons_succ]
          refine at_world (fun W => ∃ g8, g8 = w20.heap.size ∧ Below w20.heap.size w20 W ∧ Blk W g8 41 #[.string ByteArray.empty, .int .u8 0, .int .u16 0, .int .i64 0, .int .i64 0, .int .i64 0, .int .i64 0, .int .i64 0, .int .i64 0]) ⟨_, rfl, (Below.refl _ _).alloc (Nat.le_refl _) _, Blk.new _ _ _⟩ (fun w21 h9 => ?_)
          obtain ⟨g8, e8, hbx, hk8⟩ := h9
          rw [← e8]
          have Bw21 := hide (Bw20.out.trans (hbx.mono Bw20.out.size))
          have Kw21 := hide hk8
          have hg8 : w4.heap.size ≤ g8 := by rw [e8]; exact Bw20.out.size
          clear hbx hk8 e8
          refine wpT_x (by simp only [List.getElem?_toArray, List.getElem?_cons_succ, List.getElem?_cons_zero]; try rfl) (by rfl) (fun K hK => ?_)
          go_simp
          refine (names_ok _).mono ?_
          rintro e w22 ⟨g29, hge, rfl, hbx, hgl, hcell⟩
          have hN := hcell k _ (szNames_at hk5)
          have Bw22 := hide (Bw21.out.trans (hbx.mono Bw21.out.size))
          have Kw22 := hide (Kw21.out.below hbx Kw21.out.lt)
          have Nw22 : Hid (w22.cell? ⟨g29, k, none⟩ = some (.string ⟨(szName k).toArray⟩)) := hide hN; have G29w22 := hide hgl
          have ne29 : g8 ≠ g29 := by have := Kw21.out.lt; omega
          refine hK (fun W => Below w4.heap.size w4 W ∧ W.cell? ⟨g29, k, none⟩ = some (.string ⟨(szName k).toArray⟩)) _ _ (fun _ h => h.1) ⟨Bw22.out, hN⟩ ?_
          clear hK K hbx hcell hN hge; try simp only [Act.put, List.setIfInBounds_toArray, List.set_cons_zero, List.set_cons_succ]
          iterate 2 (refine wpT_q (v := ?_) (by simp only [List.getElem?_toArray, List.getElem?_cons_succ, List.getElem?_cons_zero]; try rfl) (by rfl) (fun W hW => ?_) ?_; rotate_left; (focus ((obtain ⟨hWB, hW1⟩ := hW; obtain ⟨hWc, hWf⟩ := bcell hWB); go_simp; try with_reducible rfl)); try simp only [Act.put, List.setIfInBounds_toArray, List.set_cons_zero, List.set_cons_succ])
          refine wpT_x (by simp only [List.getElem?_toArray, List.getElem?_cons_succ, List.getElem?_cons_zero]; try rfl) (by rfl) (fun K hK => ?_)
          go_simp
          refine (labels_ok _).mono ?_
          rintro e w23 ⟨g33, hge, rfl, hbx, hgl, hcell⟩
          have hL1 := hcell _ _ (szLabels_at hk5).1
          have hL2 := hcell _ _ (szLabels_at hk5).2
          have Bw23 := hide (Bw22.out.trans (hbx.mono Bw22.out.size))
          have Nw23 : Hid (w23.cell? ⟨g29, k, none⟩ = some (.string ⟨(szName k).toArray⟩)) := hide ((hbx.cell (p := ⟨g29, k, none⟩) G29w22.out).trans Nw22.out); have G29w23 := hide (Nat.lt_of_lt_of_le G29w22.out hbx.size)
          have Kw23 := hide (Kw22.out.below hbx Kw22.out.lt)
          have Lw23 : Hid (w23.cell? ⟨g33, k * 2, none⟩ = some (.int .u8 ((szLev k).toNat : Int)) ∧ w23.cell? ⟨g33, k * 2 + 1, none⟩ = some (.int .u16 ((szCat k).toNat : Int))) := hide ⟨hL1, hL2⟩; have G33w23 := hide hgl
          have ne33 : g8 ≠ g33 := by have := Kw22.out.lt; omega
          refine hK (fun W => Below w4.heap.size w4 W ∧ W.cell? ⟨g29, k, none⟩ = some (.string ⟨(szName k).toArray⟩) ∧ W.cell? ⟨g33, k * 2, none⟩ = some (.int .u8 ((szLev k).toNat : Int)) ∧ W.cell? ⟨g33, k * 2 + 1, none⟩ = some (.int .u16 ((szCat k).toNat : Int))) _ _ (fun _ h => ⟨h.1, h.2.1⟩) ⟨Bw23.out, Nw23.out, hL1, hL2⟩ ?_
          clear hK K hbx hcell hL1 hL2 hge; try simp only [Act.put, List.setIfInBounds_toArray, List.set_cons_zero, List.set_cons_succ]
          iterate 3 (refine wpT_q (v := ?_) (by simp only [List.getElem?_toArray, List.getElem?_cons_succ, List.getElem?_cons_zero]; try rfl) (by rfl) (fun W hW => ?_) ?_; rotate_left; (focus ((obtain ⟨hWB, hW1, hW2, hW3⟩ := hW; obtain ⟨hWc, hWf⟩ := bcell hWB); go_simp; try with_reducible rfl)); try simp only [Act.put, List.setIfInBounds_toArray, List.set_cons_zero, List.set_cons_succ])
          refine wpT_x (by simp only [List.getElem?_toArray, List.getElem?_cons_succ, List.getElem?_cons_zero]; try rfl) (by rfl) (fun K hK => ?_)
          refine wp_store_row 41 (.tmp 8) (.tmp 65) (by rfl) g8 #[.string ⟨(szName k).toArray⟩, .int .u8 ((szLev k).toNat : Int), .int .u16 ((szCat k).toNat : Int), .int .i64 (8 + (a0 : Int)), .int .i64 (8 + 2 * (a1 : Int)), .int .i64 (4 + (a2 : Int)), .int .i64 (1 + (a3 : Int)), .int .i64 (2 + (a4 : Int)), .int .i64 ((M : Int) - 1)] (by rfl) (by rfl) 41 _ Kw23.out (by kernel_rfl) (by rfl) (by simp [Value.oneCell']) ?_
          refine hK (fun W => Below w4.heap.size w4 W ∧ W.cell? ⟨g29, k, none⟩ = some (.string ⟨(szName k).toArray⟩) ∧ W.cell? ⟨g33, k * 2, none⟩ = some (.int .u8 ((szLev k).toNat : Int)) ∧ W.cell? ⟨g33, k * 2 + 1, none⟩ = some (.int .u16 ((szCat k).toNat : Int))) _ _ (fun _ h => h) ⟨below_setRow Bw23.out hg8 _, (World.cell?_of_block (a := ⟨g29, k, none⟩) (setRow_other _ g8 g29 _ (fun e => ne29 e.symm))).trans Nw23.out, (World.cell?_of_block (a := ⟨g33, k * 2, none⟩) (setRow_other _ g8 g33 _ (fun e => ne33 e.symm))).trans Lw23.out.1, (World.cell?_of_block (a := ⟨g33, k * 2 + 1, none⟩) (setRow_other _ g8 g33 _ (fun e => ne33 e.symm))).trans Lw23.out.2⟩ ?_
          clear hK K; try simp only [Act.put, List.setIfInBounds_toArray, List.set_cons_zero, List.set_cons_succ]
          refine wpT_nil ?_
          go_wp2
          go_meet
          case rel => exact ⟨g8, rfl, below_setRow Bw23.out hg8 _, hg8, setRow_heap _ _ _ _ _ _ Kw23.out⟩
      case rest =>
        obtain ⟨g8, rfl, hbc, hg8, hk8⟩ := hcut
        clear z0 z1 z2 z3 z4 zl fa0 fa1 fa2 fa3 fa4 fb0 fb1 fb2 fb3 fb4 fc0 fc1 fd1 fc2 fc3 fc4 fM
        have B8 := hide (Below.then_ HB4.out HB4.out.size hbc)
        have hrow := own_below HOR.out B8.out
        have hnob : (Value.slice Ak k ck).ownBlock ≠ some g8 := fun e => by have := (own_block_ge HOR.out e).2; have := HB4.out.size; omega
        have c0 := hk8.cell 0
        have c1 := hk8.cell 1
        have c2 := hk8.cell 2
        have c3 := hk8.cell 3
        have c4 := hk8.cell 4
        have c5 := hk8.cell 5
        have c6 := hk8.cell 6
        have c7 := hk8.cell 7
        have c8 := hk8.cell 8
        have f8 := hk8.frozen 8
        have l8 := hk8.lt
        have HROW := hide hrow
        have HNOB := hide hnob
        have hg8w : wr.heap.size ≤ g8 := Nat.le_trans HB4.out.size hg8
        have hBW := HBR.out.size
        clear hbc hk8 hrow hnob
        obtain ⟨r0, hr0, r1, r2, r3⟩ := info_parts info_reg
        have HCELLS : Hid ((szReg0 M H k).cells = (#[.string ⟨(szName k).toArray⟩, .int .u8 ((szLev k).toNat : Int), .int .u16 ((szCat k).toNat : Int), .int .i64 (8 + (a0 : Int)), .int .i64 (8 + 2 * (a1 : Int)), .int .i64 (4 + (a2 : Int)), .int .i64 (1 + (a3 : Int)), .int .i64 (2 + (a4 : Int)), .int .i64 ((szClear0 M k : Nat) : Int)] : Array Value).toList) := by
          obtain ⟨ha0, ha1, ha2, ha3, ha4⟩ := HA.out
          obtain ⟨hh0, hh1, hh2, hh3, hh4⟩ := HHS.out
          have e0 : (h0.toNat : Int) % 60 = (a0 : Int) := by omega
          have e1 : (h1.toNat : Int) % 12 = (a1 : Int) := by omega
          have e2 : (h2.toNat : Int) % 40 = (a2 : Int) := by omega
          have e3 : (h3.toNat : Int) % 6 = (a3 : Int) := by omega
          have e4 : (h4.toNat : Int) % 14 = (a4 : Int) := by omega
          simp only [RegV.cells, szReg0, szReg, hh0, hh1, hh2, hh3, hh4, e0, e1, e2, e3, e4]
          exact hide trivial
        by_cases m4 : M < 4
        · by_cases k0 : 0 < k
          · by_cases m2 : M = 2
            · have u1 : decide ((M : Int) < 4) = true := by simp; omega
              have u1' : (M : Int) < 4 := by omega
              have u2 : decide ((0 : Int) < (k : Int)) = true := by simp; omega
              have u2' : 0 < k := by omega
              have u3 : ((M : Int) == 2) = true := by simp; omega
              have HM2 := hide m2
              clear m2
              have hown9 := hide (ownsRow_setCell_other (a := ⟨g8, 8, none⟩) (ownsRow_setCell_other (a := ⟨g8, 8, none⟩) HROW.out HNOB.out (.int .i64 (k : Int))) HNOB.out (.int .i64 1))
              have hb9 := hide ((B8.out.setCell (p := ⟨g8, 8, none⟩) hg8w (.int .i64 (k : Int))).setCell (p := ⟨g8, 8, none⟩) hg8w (.int .i64 1))
              go_wp2_with (at_builtin; refine wpList_append_one rfl (.tmp 77) (.tmp 79) 75 rfl w1.heap.size 41 r0 (.agg #[.string ByteArray.empty, .int .u8 0, .int .u16 0, .int .i64 0, .int .i64 0, .int .i64 0, .int .i64 0, .int .i64 0, .int .i64 0]) 9 72 Tryz.underlying75 hr0 r1 r2 r3 rfl (by decide) Ak ck k (rcellsOf ((List.range k).map (szReg0 M H))) (#[.string ⟨(szName k).toArray⟩, .int .u8 ((szLev k).toNat : Int), .int .u16 ((szCat k).toNat : Int), .int .i64 (8 + (a0 : Int)), .int .i64 (8 + 2 * (a1 : Int)), .int .i64 (4 + (a2 : Int)), .int .i64 (1 + (a3 : Int)), .int .i64 (2 + (a4 : Int)), .int .i64 1]).toList ((wc.setCell ⟨g8, 8, none⟩ (.int .i64 (k : Int))).setCell ⟨g8, 8, none⟩ (.int .i64 1)) rfl hown9.out (by simp [World.setCell]) (by simp [Act.eval]) rfl (by simp [Value.oneCell']) (by omega) (by decide) (by first | exact Nat.le_trans hBW hb9.out.size | omega) ?_; intro A' c' w9 hown hg hb hat)
              go_roundg (M - (k + 1))
              case measure => omega
              case rel =>
                have hcl : ((szClear0 M k : Nat) : Int) = 1 := by unfold szClear0; rw [if_pos HM2.out]; rfl
                have hrw := HCELLS.out
                rw [hcl] at hrw
                refine ⟨k + 1, A', c', by omega, rfl, by go_num, rfl, HBR.out.trans ((hb9.out.mono hBW).trans hb), ?_⟩
                rw [List.range_succ, List.map_append, List.map_singleton, rcellsOf_snoc, hrw]
                exact hown
            · have u1 : decide ((M : Int) < 4) = true := by simp; omega
              have u1' : (M : Int) < 4 := by omega
              have u2 : decide ((0 : Int) < (k : Int)) = true := by simp; omega
              have u2' : 0 < k := by omega
              have u3 : ((M : Int) == 2) = false := by simp; omega
              have hown9 := hide (ownsRow_setCell_other (a := ⟨g8, 8, none⟩) HROW.out HNOB.out (.int .i64 (k : Int)))
              have hb9 := hide (B8.out.setCell (p := ⟨g8, 8, none⟩) hg8w (.int .i64 (k : Int)))
              go_wp2_with (at_builtin; refine wpList_append_one rfl (.tmp 77) (.tmp 79) 75 rfl w1.heap.size 41 r0 (.agg #[.string ByteArray.empty, .int .u8 0, .int .u16 0, .int .i64 0, .int .i64 0, .int .i64 0, .int .i64 0, .int .i64 0, .int .i64 0]) 9 72 Tryz.underlying75 hr0 r1 r2 r3 rfl (by decide) Ak ck k (rcellsOf ((List.range k).map (szReg0 M H))) (#[.string ⟨(szName k).toArray⟩, .int .u8 ((szLev k).toNat : Int), .int .u16 ((szCat k).toNat : Int), .int .i64 (8 + (a0 : Int)), .int .i64 (8 + 2 * (a1 : Int)), .int .i64 (4 + (a2 : Int)), .int .i64 (1 + (a3 : Int)), .int .i64 (2 + (a4 : Int)), .int .i64 (k : Int)]).toList (wc.setCell ⟨g8, 8, none⟩ (.int .i64 (k : Int))) rfl hown9.out (by simp [World.setCell]) (by simp [Act.eval]) rfl (by simp [Value.oneCell']) (by omega) (by decide) (by first | exact Nat.le_trans hBW hb9.out.size | omega) ?_; intro A' c' w9 hown hg hb hat)
              go_roundg (M - (k + 1))
              case measure => omega
              case rel =>
                have hcl : ((szClear0 M k : Nat) : Int) = (k : Int) := by unfold szClear0; rw [if_neg m2, if_pos ⟨m4, k0⟩]
                have hrw := HCELLS.out
                rw [hcl] at hrw
                refine ⟨k + 1, A', c', by omega, rfl, by go_num, rfl, HBR.out.trans ((hb9.out.mono hBW).trans hb), ?_⟩
                rw [List.range_succ, List.map_append, List.map_singleton, rcellsOf_snoc, hrw]
                exact hown
          · by_cases m2 : M = 2
            · have u1 : decide ((M : Int) < 4) = true := by simp; omega
              have u1' : (M : Int) < 4 := by omega
              have u2 : decide ((0 : Int) < (k : Int)) = false := by have hk0 : k = 0 := (by omega); rw [hk0]; rfl
              have u2' : ¬ 0 < k := by omega
              have u3 : ((M : Int) == 2) = true := by simp; omega
              have HM2 := hide m2
              clear m2
              have hown9 := hide (ownsRow_setCell_other (a := ⟨g8, 8, none⟩) HROW.out HNOB.out (.int .i64 1))
              have hb9 := hide (B8.out.setCell (p := ⟨g8, 8, none⟩) hg8w (.int .i64 1))
              go_wp2_with (at_builtin; refine wpList_append_one rfl (.tmp 77) (.tmp 79) 75 rfl w1.heap.size 41 r0 (.agg #[.string ByteArray.empty, .int .u8 0, .int .u16 0, .int .i64 0, .int .i64 0, .int .i64 0, .int .i64 0, .int .i64 0, .int .i64 0]) 9 72 Tryz.underlying75 hr0 r1 r2 r3 rfl (by decide) Ak ck k (rcellsOf ((List.range k).map (szReg0 M H))) (#[.string ⟨(szName k).toArray⟩, .int .u8 ((szLev k).toNat : Int), .int .u16 ((szCat k).toNat : Int), .int .i64 (8 + (a0 : Int)), .int .i64 (8 + 2 * (a1 : Int)), .int .i64 (4 + (a2 : Int)), .int .i64 (1 + (a3 : Int)), .int .i64 (2 + (a4 : Int)), .int .i64 1]).toList (wc.setCell ⟨g8, 8, none⟩ (.int .i64 1)) rfl hown9.out (by simp [World.setCell]) (by simp [Act.eval]) rfl (by simp [Value.oneCell']) (by omega) (by decide) (by first | exact Nat.le_trans hBW hb9.out.size | omega) ?_; intro A' c' w9 hown hg hb hat)
              go_roundg (M - (k + 1))
              case measure => omega
              case rel =>
                have hcl : ((szClear0 M k : Nat) : Int) = 1 := by unfold szClear0; rw [if_pos HM2.out]; rfl
                have hrw := HCELLS.out
                rw [hcl] at hrw
                refine ⟨k + 1, A', c', by omega, rfl, by go_num, rfl, HBR.out.trans ((hb9.out.mono hBW).trans hb), ?_⟩
                rw [List.range_succ, List.map_append, List.map_singleton, rcellsOf_snoc, hrw]
                exact hown
            · have u1 : decide ((M : Int) < 4) = true := by simp; omega
              have u1' : (M : Int) < 4 := by omega
              have u2 : decide ((0 : Int) < (k : Int)) = false := by have hk0 : k = 0 := (by omega); rw [hk0]; rfl
              have u2' : ¬ 0 < k := by omega
              have u3 : ((M : Int) == 2) = false := by simp; omega
              have hown9 := hide HROW.out
              have hb9 := hide B8.out
              go_wp2_with (at_builtin; refine wpList_append_one rfl (.tmp 77) (.tmp 79) 75 rfl w1.heap.size 41 r0 (.agg #[.string ByteArray.empty, .int .u8 0, .int .u16 0, .int .i64 0, .int .i64 0, .int .i64 0, .int .i64 0, .int .i64 0, .int .i64 0]) 9 72 Tryz.underlying75 hr0 r1 r2 r3 rfl (by decide) Ak ck k (rcellsOf ((List.range k).map (szReg0 M H))) (#[.string ⟨(szName k).toArray⟩, .int .u8 ((szLev k).toNat : Int), .int .u16 ((szCat k).toNat : Int), .int .i64 (8 + (a0 : Int)), .int .i64 (8 + 2 * (a1 : Int)), .int .i64 (4 + (a2 : Int)), .int .i64 (1 + (a3 : Int)), .int .i64 (2 + (a4 : Int)), .int .i64 ((M : Int) - 1)]).toList wc rfl hown9.out (by simp [World.setCell]) (by simp [Act.eval]) rfl (by simp [Value.oneCell']) (by omega) (by decide) (by first | exact Nat.le_trans hBW hb9.out.size | omega) ?_; intro A' c' w9 hown hg hb hat)
              go_roundg (M - (k + 1))
              case measure => omega
              case rel =>
                have hcl : ((szClear0 M k : Nat) : Int) = ((M : Int) - 1) := by unfold szClear0; rw [if_neg m2, if_neg (by omega)]; omega
                have hrw := HCELLS.out
                rw [hcl] at hrw
                refine ⟨k + 1, A', c', by omega, rfl, by go_num, rfl, HBR.out.trans ((hb9.out.mono hBW).trans hb), ?_⟩
                rw [List.range_succ, List.map_append, List.map_singleton, rcellsOf_snoc, hrw]
                exact hown
        · have m2 : ¬ M = 2 := by omega
          have u1 : decide ((M : Int) < 4) = false := by simp; omega
          have u1' : ¬ (M : Int) < 4 := by omega
          have u3 : ((M : Int) == 2) = false := by simp; omega
          have hown9 := hide HROW.out
          have hb9 := hide B8.out
          go_wp2_with (at_builtin; refine wpList_append_one rfl (.tmp 77) (.tmp 79) 75 rfl w1.heap.size 41 r0 (.agg #[.string ByteArray.empty, .int .u8 0, .int .u16 0, .int .i64 0, .int .i64 0, .int .i64 0, .int .i64 0, .int .i64 0, .int .i64 0]) 9 72 Tryz.underlying75 hr0 r1 r2 r3 rfl (by decide) Ak ck k (rcellsOf ((List.range k).map (szReg0 M H))) (#[.string ⟨(szName k).toArray⟩, .int .u8 ((szLev k).toNat : Int), .int .u16 ((szCat k).toNat : Int), .int .i64 (8 + (a0 : Int)), .int .i64 (8 + 2 * (a1 : Int)), .int .i64 (4 + (a2 : Int)), .int .i64 (1 + (a3 : Int)), .int .i64 (2 + (a4 : Int)), .int .i64 ((M : Int) - 1)]).toList wc rfl hown9.out (by simp [World.setCell]) (by simp [Act.eval]) rfl (by simp [Value.oneCell']) (by omega) (by decide) (by first | exact Nat.le_trans hBW hb9.out.size | omega) ?_; intro A' c' w9 hown hg hb hat)
          go_roundg (M - (k + 1))
          case measure => omega
          case rel =>
            have hcl : ((szClear0 M k : Nat) : Int) = ((M : Int) - 1) := by unfold szClear0; rw [if_neg m2, if_neg (by omega)]; omega
            have hrw := HCELLS.out
            rw [hcl] at hrw
            refine ⟨k + 1, A', c', by omega, rfl, by go_num, rfl, HBR.out.trans ((hb9.out.mono hBW).trans hb), ?_⟩
            rw [List.range_succ, List.map_append, List.map_singleton, rcellsOf_snoc, hrw]
            exact hown
    · obtain rfl : k = M := by omega
      obtain ⟨hbr, hor⟩ := hA.out
      have HX2 := HX1.out.below hbr HX1.out.lt
      have HBR := hide hbr
      have HOR := hide hor
      clear hA hbr hor
      obtain ⟨g5, hA5, hg5b, hg5, hcr5⟩ := own_base HOR.out (by omega)
      have hr0 : ((List.range k).map (szReg0 k H))[0]? = some (szReg0 k H 0) := by rw [List.getElem?_map, List.getElem?_range (by omega)]; rfl
      have y5 := hcr5 _ _ (flat_get RegV.cells 9 (fun _ => rfl) _ 0 _ hr0 8 _ rfl)
      simp only [Nat.zero_mul, Nat.zero_add] at y5
      subst hA5
      have f5 := own_frozen (i := 8) HOR.out
      have hk0z : (0 : Int) < (k : Int) := by omega
      clear hcr5 hr0
      go_upto_if 83 with (fail)
      go_cut [] from 84 to 86 (fun wd => Below w1.heap.size w1 wd ∧ wd.ownsRow w1.heap.size 41 9 (.slice (some ⟨g5, 0, none⟩) k ck) k (rcellsOf ((List.range k).map (szReg k H))))
      case first =>
        by_cases m3 : k = 3
        · have u3 : ((k : Int) == 3) = true := by simp; omega
          go_wp2
          go_meet
          case rel =>
            refine ⟨HBR.out.setCell hg5b _, ?_⟩
            have h2 := own_set (i := 8) (u := .int .i64 1) HOR.out
            subst m3
            rw [show (8 : Nat) = 0 * 9 + 8 from rfl, rcells_set _ 0 (szReg0 3 H 0) 1 rfl, szReg0_three] at h2
            exact h2
        · have u3 : ((k : Int) == 3) = false := by simp; omega
          go_wp2
          go_meet
          case rel => exact ⟨HBR.out, by rw [← szReg0_eq hM2 m3]; exact HOR.out⟩
      case rest =>
        clear y5 f5
        obtain ⟨hbr, hor⟩ := hcut
        have hX := HX1.out.below hbr HX1.out.lt
        have x26 := (hX.cell 26).trans (szCells_trust hH)
        have xl := hX.lt
        have hTn : T.length = n := by have := hT.1; rw [bvs_length] at this; omega
        have HTN := hide hTn
        have HBR2 := hide hbr
        have HOR2 := hide hor
        have HT := hide hT
        clear hX hbr hor hTn hT HBR HOR
        go_wp2_with fail
        go_loopg [9, 90] n (fun g x9 x90 wr => ∃ (i : Nat) (K : List MarkV) (A2 : Option Addr) (c2 : Nat), i ≤ n ∧ g = n - i ∧ x9 = .slice A2 K.length c2 ∧ x90 = .int .i64 (i : Int) ∧ Below w1.heap.size w1 wr ∧
          wr.ownsRow w1.heap.size 41 9 (.slice (some ⟨g5, 0, none⟩) k ck) k (rcellsOf ((List.range k).map (szReg k H))) ∧ wr.ownsRow w1.heap.size 199 2 (.slice A2 K.length c2) K.length (mcellsOf K) ∧ Hid (MarksOk k K ∧ K.length ≤ i))
        case atStart => exact ⟨0, [], none, 0, Nat.zero_le _, rfl, rfl, rfl, HBR2.out, HOR2.out, ⟨rfl, .inl ⟨rfl, rfl⟩⟩, hide ⟨⟨by simp, by simp, by simp⟩, Nat.zero_le _⟩⟩
        case round =>
          obtain ⟨i, K, A2, c2, hi, hg, rfl, rfl, hbr, o1, o2, hK⟩ := hrel
          rcases Nat.lt_or_ge i n with hin | hin
          · have hiz : (i : Int) < n := by omega
            have hbw := HB1.out.trans (hbr.mono HB1.out.size)
            obtain ⟨bt, ot, hA, hbt, hcell⟩ := (HT.out.below hbw).byte hin
            have hbt2 : bt < wr.heap.size := Nat.lt_of_lt_of_le hbt hbw.size
            have jx := hcell i hin
            subst hA
            generalize T.getD i 0 = x at jx
            have hx256 := x.toNat_lt
            obtain ⟨p, hp⟩ : ∃ p, p = x.toNat % k := ⟨_, rfl⟩
            obtain ⟨q, hq⟩ : ∃ q, q = x.toNat / 8 % 4 := ⟨_, rfl⟩
            obtain ⟨r8, hr8⟩ : ∃ r8, r8 = x.toNat / 8 := ⟨_, rfl⟩
            have hpk : p < k := by rw [hp]; exact Nat.mod_lt _ (by omega)
            have hq4 : q < 4 := by rw [hq]; exact Nat.mod_lt _ (by omega)
            have e1 : IntKind.u8.wrap (k : Int) = (k : Int) := by rw [IntKind.wrap_u8]; omega
            have e2 : (x.toNat : Int).tmod (k : Int) = (p : Int) := by rw [IntWalk.rem_in _ _ (by omega), hp]; rfl
            have e3 : ((k : Int) == 0) = false := by simp; omega
            have e4 : (x.toNat : Int).tdiv 8 = (r8 : Int) := by rw [Int.tdiv_eq_ediv_of_nonneg (by omega), hr8]; rfl
            have e5 : (r8 : Int).tmod 4 = (q : Int) := by rw [IntWalk.rem_in _ _ (by omega), hq, ← hr8]; rfl
            have e6 : IntKind.u16.wrap (q : Int) = (q : Int) := by rw [IntKind.wrap_u16]; omega
            have e7 : IntKind.u16.wrap (4 + (q : Int)) = 4 + (q : Int) := by rw [IntKind.wrap_u16]; omega
            have BB := hide hbr
            have O1 := hide o1
            have O2 := hide o2
            have HQ8 : Hid ((r8 : Int) % 4 = (q : Int)) := hide (by rw [hq, ← hr8]; rfl)
            clear hp hq hr8 hbr o1 o2 hcell hbw x26 xl hx256
            go_wp2_with fail
            refine at_world (fun W => ∃ b12, b12 = wr.heap.size ∧ Below wr.heap.size wr W ∧ Blk W b12 199 #[.int .u8 (p : Int), .int .u16 (4 + (q : Int))]) ⟨_, rfl, (Below.refl _ _).alloc (Nat.le_refl _) _, by rw [← HQ8.out]; exact Blk.new _ _ _⟩ (fun w7 h7 => ?_)
            obtain ⟨b12, e12, hb7, hk7⟩ := h7
            rw [← e12]
            have B7 := hide (BB.out.trans (hb7.mono BB.out.size))
            have P1 := hide (own_below O1.out hb7)
            have P2 := hide (own_below O2.out hb7)
            have z0 := hk7.cell 0
            have z1 := hk7.cell 1
            have zl := hk7.lt
            have hpu : (UInt8.ofNat p).toNat = p := by simp; omega
            have hqu : (UInt16.ofNat (4 + q)).toNat = 4 + q := by simp; omega
            obtain ⟨mk, hmk⟩ : ∃ mk : MarkV, mk = (UInt8.ofNat p, UInt16.ofNat (4 + q)) := ⟨_, rfl⟩
            have HPQ := hide (And.intro hpu (And.intro hqu hmk))
            clear hmk
            clear e12 hb7 hk7 jx e1 e2 e3 e4 e5 e6 e7 hbt hbt2 hpu hqu
            have hK9 : K.length ≤ 9 := hK.out.1.2.2
            go_loopg [13, 109] K.length (fun g x13 x109 wr => ∃ (j : Nat) (bb : Bool), j ≤ K.length ∧ g = K.length - j ∧ x13 = .bool bb ∧ x109 = .int .i64 (j : Int) ∧ Below w7.heap.size w7 wr ∧ Hid (bb = (decide (8 < i) || decide (mk ∈ K.take j))))
            case atStart => exact ⟨0, decide (8 < i), Nat.zero_le _, rfl, by congr 1; simp; omega, rfl, Below.refl _ _, hide (by simp)⟩
            case round =>
              obtain ⟨j, bb, hj, hg2, rfl, rfl, hbx, hbb⟩ := hrel
              rcases Nat.lt_or_ge j K.length with hjK | hjK
              · have hjz : (j : Int) < K.length := by omega
                obtain ⟨y, hy⟩ : ∃ y, K[j]? = some y := ⟨_, List.getElem?_eq_getElem hjK⟩
                obtain ⟨g2, hA2, _, hg2l, hcr2⟩ := own_base (own_below P2.out hbx) (by omega)
                have v0 := hcr2 _ _ (flat_get markCells 2 (fun _ => rfl) K j y hy 0 _ rfl)
                have v1 := hcr2 _ _ (flat_get markCells 2 (fun _ => rfl) K j y hy 1 _ rfl)
                simp only [Nat.add_zero] at v0
                have zz0 := (hbx.cell (p := ⟨b12, 0, none⟩) zl).trans z0
                have zz1 := (hbx.cell (p := ⟨b12, 1, none⟩) zl).trans z1
                have zzl := Nat.lt_of_lt_of_le zl hbx.size
                have htk : K.take (j + 1) = K.take j ++ [y] := by rw [List.take_add_one, hy]; rfl
                have HBX3 := hide (hbx.alloc hbx.size (.cells #[.int .u8 (y.1.toNat : Int), .int .u16 (y.2.toNat : Int)] 199))
                have HTK := hide htk
                subst hA2
                clear hcr2 hbx htk hy
                cases bb with
                | true =>
                  go_wp2
                  go_roundg (K.length - (j + 1))
                  case measure => omega
                  case rel =>
                    refine ⟨j + 1, true, by omega, rfl, rfl, by go_num, HBX3.out, hide ?_⟩
                    have h := hbb.out
                    rw [HTK.out]
                    simp only [List.mem_append]
                    rcases Bool.or_eq_true_iff.1 h.symm with h | h
                    · rw [h]; rfl
                    · have h2 := of_decide_eq_true h; simp only [h2, true_or, decide_true, Bool.or_true]
                | false =>
                  obtain ⟨hpu, hqu, hmk⟩ := HPQ.out
                  by_cases hym : y = mk
                  · have ey1 : (y.1.toNat : Int) = (p : Int) := by rw [hym, hmk, hpu]
                    have ey2 : (y.2.toNat : Int) = 4 + (q : Int) := by rw [hym, hmk, hqu]; simp
                    rw [ey1, ey2] at HBX3
                    change wr.cell? _ = some (Value.int .u8 (y.1.toNat : Int)) at v0
                    change wr.cell? _ = some (Value.int .u16 (y.2.toNat : Int)) at v1
                    rw [ey1] at v0
                    rw [ey2] at v1
                    have HYM := hide hym
                    clear hym hpu hqu hmk ey1 ey2
                    go_wp2
                    go_roundg (K.length - (j + 1))
                    case measure => omega
                    case rel =>
                      refine ⟨j + 1, true, by omega, rfl, rfl, by go_num, HBX3.out, hide ?_⟩
                      rw [HTK.out, HYM.out]
                      simp
                  · have hbb2 : false = (decide (8 < i) || decide (mk ∈ K.take (j + 1))) := by
                      have h := hbb.out
                      have h2 := Bool.or_eq_false_iff.1 h.symm
                      have h3 : mk ∉ K.take j := of_decide_eq_false h2.2
                      rw [HTK.out, h2.1]
                      simp only [List.mem_append, List.mem_singleton, h3, false_or, Bool.false_or]
                      simp only [show (mk = y) ↔ False from ⟨fun e => hym e.symm, False.elim⟩, decide_false]
                    have HBB2 := hide hbb2
                    change wr.cell? _ = some (Value.int .u8 (y.1.toNat : Int)) at v0
                    change wr.cell? _ = some (Value.int .u16 (y.2.toNat : Int)) at v1
                    by_cases ey1 : y.1.toNat = p
                    · have ey2 : ¬ y.2.toNat = 4 + q := fun e => hym (by
                        rw [hmk]
                        exact Prod.ext (UInt8.toNat_inj.1 (ey1.trans hpu.symm)) (UInt16.toNat_inj.1 (e.trans hqu.symm)))
                      have u1 : ((y.2.toNat : Int) == 4 + (q : Int)) = false := by simp; omega
                      rw [ey1] at HBX3 v0
                      clear hym hpu hqu hmk ey1 ey2 hbb2
                      go_wp2
                      go_roundg (K.length - (j + 1))
                      case measure => omega
                      case rel => exact ⟨j + 1, false, by omega, rfl, rfl, by go_num, HBX3.out, HBB2⟩
                    · have u1 : ((y.1.toNat : Int) == (p : Int)) = false := by simp; omega
                      clear hym hpu hqu hmk ey1 hbb2
                      go_wp2
                      go_roundg (K.length - (j + 1))
                      case measure => omega
                      case rel => exact ⟨j + 1, false, by omega, rfl, rfl, by go_num, HBX3.out, HBB2⟩
              · obtain rfl : j = K.length := by omega
                have hb9 := B7.out.trans (hbx.mono B7.out.size)
                have q1 := own_below P1.out hbx
                have q2 := own_below P2.out hbx
                have hKo := hK.out
                have h := hbb.out
                rw [List.take_length] at h
                cases bb with
                | true =>
                  clear hbx h
                  go_wp2
                  go_roundg (n - (i + 1))
                  case measure => omega
                  case rel => exact ⟨i + 1, K, A2, c2, by omega, rfl, rfl, by go_num, hb9, q1, q2, hide ⟨hKo.1, by have := hKo.2; omega⟩⟩
                | false =>
                  have h2 := Bool.or_eq_false_iff.1 h.symm
                  have hi8 : ¬ 8 < i := of_decide_eq_false h2.1
                  have hmK : mk ∉ K := of_decide_eq_false h2.2
                  have zz0 := (hbx.cell (p := ⟨b12, 0, none⟩) zl).trans z0
                  have zz1 := (hbx.cell (p := ⟨b12, 1, none⟩) zl).trans z1
                  have zzl := Nat.lt_of_lt_of_le zl hbx.size
                  have hBW := hb9.size
                  have hKl6 : K.length ≤ 1000000 := by omega
                  obtain ⟨m0, hm0, m1, m2, m3⟩ := info_parts info_mark
                  clear hbx h h2
                  have Q1 := hide q1
                  have Q2 := hide q2
                  have HB9 := hide hb9
                  clear q1 q2 hb9
                  go_wp2_with (at_builtin; refine wpList_append_one rfl (.tmp 122) (.tmp 124) 99 rfl w1.heap.size 199 m0 (.agg #[.int .u8 0, .int .u16 0]) 2 4 Tryz.underlying99 hm0 m1 m2 m3 rfl (by decide) A2 c2 K.length (mcellsOf K) [.int .u8 (p : Int), .int .u16 (4 + (q : Int))] wr rfl Q2.out rfl rfl rfl (by simp [Value.oneCell']) hKl6 (by decide) hBW ?_; intro A' c' w34 hown hg3 hb3 hat3)
                  go_roundg (n - (i + 1))
                  case measure => omega
                  case rel =>
                    obtain ⟨hpu, hqu, hmk⟩ := HPQ.out
                    have hmc : markCells mk = [.int .u8 (p : Int), .int .u16 (4 + (q : Int))] := by rw [hmk]; simp only [markCells, hpu, hqu]; simp
                    refine ⟨i + 1, K ++ [mk], A', c', by omega, rfl, by simp, by go_num, HB9.out.trans hb3, own_besides Q1.out Q2.out (by decide) hg3, ?_, hide ⟨⟨?_, ?_, ?_⟩, ?_⟩⟩
                    · rw [mcellsOf_snoc, List.length_append, List.length_singleton, hmc]; exact hown
                    · intro x hx
                      rcases List.mem_append.1 hx with hx | hx
                      · exact hKo.1.1 x hx
                      · simp only [List.mem_singleton] at hx
                        rw [hx, hmk]
                        simp only [hpu, hqu]
                        omega
                    · rw [List.nodup_append]
                      exact ⟨hKo.1.2.1, by simp, fun a ha b hb e => by simp only [List.mem_singleton] at hb; exact hmK (by rw [← hb, ← e]; exact ha)⟩
                    · have := hKo.2; simp; omega
                    · have := hKo.2; simp; omega
          · obtain rfl : i = n := by omega
            go_wp2
            go_returns
            have hs := HB1.out.size
            exact ⟨K, some ⟨g5, 0, none⟩, A2, ck, c2, by rw [← HM.out]; rfl, HB1.out.trans (hbr.mono hs), own_mono (by have h := o1; rw [HM.out] at h; exact h) hs, own_mono o2 hs, by rw [← HM.out]; exact hK.out.1⟩
end

end Go.Proofs.YthmkgohfeahdhaaGreat
namespace Go.Proofs.YthmkgohfeahdhaaGreat
open Go.RowKit Go.WideMaps
set_option linter.unusedSimpArgs false
set_option linter.unusedVariables false

section
variable {m : UInt8} {H : List UInt8} {A : Option Addr} {n c : Nat} {T : List UInt8} {w : World}
theorem szCells_one : (szCells m H A n c).all (·.oneCell') = true := by
  rw [Array.all_eq_true_iff_forall_mem]
  intro x hx
  simp only [szCells, List.mem_toArray, List.mem_cons, List.mem_append, bvs, List.mem_map, List.not_mem_nil, or_false] at hx
  rcases hx with rfl | ⟨y, _, rfl⟩ | rfl <;> rfl
set_option maxRecDepth 100000 in
set_option maxHeartbeats 1000000 in
theorem size_conf (hH : H.length = 25) (hT : Rd w w.heap.size 1 A n (bvs T)) (hnm : n ≤ 9223372036854775807) :
    Calls Tryz.prog 15 #[.agg (szCells m H A n c)] w fun e w' => ∃ (cc : Nat) (K : List MarkV) (tb nb lb : Nat) (A1 A2 A3 : Option Addr) (c1 c2 c3 : Nat), e = .returned (.pointer (some ⟨cc, 0, none⟩)) ∧ Below w.heap.size w w' ∧
      ConfIn w.heap.size w' cc (szRegs m H) K tb nb lb A1 A2 A3 c1 c2 c3 ∧ MarksOk (szMany m) K := by
  have hsz : (szCells m H A n c).size = 27 := szCells_size hH
  go_enter Tryz.func15, Tryz.ntmps15
  go_upto_region 1 with (fail)
  refine at_world (fun W => ∃ bx, bx = w.heap.size ∧ Below w.heap.size w W ∧ Blk W bx 26 (szCells m H A n c)) ⟨_, rfl, (Below.refl _ _).alloc (Nat.le_refl _) _, Blk.new _ _ _⟩ (fun w1 h1 => ?_)
  obtain ⟨bx, hbx, hb1, hX1⟩ := h1
  rw [← hbx]
  have hT1 := (hT.below hb1).more hb1.size
  have HX := hide hX1
  clear hbx hX1
  have hS : ((Tryz.prog.info? 26).map (·.size)) = some (szCells m H A n c).size := by rw [hsz]; kernel_rfl
  have HS := hide hS
  have HSZ := hide hsz
  clear hS hsz
  go_wp2_with (first | (refine wpList_load_row rfl 26 (.tmp 1) (by rfl) bx (by rfl) 26 (szCells m H A n c) (0, 0) _ HX.out Tryz.underlying26 rfl HS.out ?_) | fail)
  refine (size_regs (w := w1) hH hT1 hnm).mono ?_
  rintro e w2 ⟨K, A1, A2, c1, c2, rfl, hb2, o1, o2, hK⟩
  have hM := szMany_le m
  have hnew := new_ok (R := szRegs m H) (K := K) (w := w2) (A := A1) (cA := c1) (A' := A2) (cA' := c2) (by rw [szRegs_length]; exact Rd.of_own o1) (Rd.of_own o2) (by rw [szRegs_length]; omega) (by have := hK.2.2; omega)
  rw [szRegs_length] at hnew
  have hb12 := hb1.trans (hb2.mono hb1.size)
  have hne := sz_ok m H K hK.1 hK.2.1
  go_wp2_with fail
  refine hnew.mono ?_
  rintro e w3 ⟨hb3, h0, _⟩
  obtain ⟨cc, tb, nb, lb, B1, B2, B3, d1, d2, d3, rfl, hin⟩ := h0 hne
  clear hnew h0
  have HB := hide (hb12.trans (hb3.mono hb12.size))
  have HIN := hide (hin.base hb12.size)
  clear hin hb3 o1 o2
  go_wp2
  go_returns
  exact ⟨cc, K, tb, nb, lb, B1, B2, B3, d1, d2, d3, rfl, HB.out, HIN.out, hK⟩
end
end Go.Proofs.YthmkgohfeahdhaaGreat

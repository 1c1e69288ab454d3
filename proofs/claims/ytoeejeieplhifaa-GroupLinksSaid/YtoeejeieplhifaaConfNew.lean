/- Configurations: New. -/
import Derived.Test.YtoeejeieplhifaaConfUse
namespace Go.Proofs.Ytoeejeieplhifaa
open Go.RowKit Go.WideMaps
set_option linter.unusedSimpArgs false
set_option linter.unusedVariables false

theorem sound_eq (r : RegV) : soundC r.blocks r.nodes r.frames r.procs r.opens = soundB r := by
  have : (r.nodes.tmod 2 == 0) = decide (r.nodes % 2 = 0) := by
    rw [Bool.eq_iff_iff, beq_iff_eq, decide_eq_true_eq, ← Int.dvd_iff_tmod_eq_zero, Int.dvd_iff_emod_eq_zero]
  unfold soundC soundB
  rw [this]
section
variable {B : Nat} {w w' : World} {c : Nat} {R : List RegV} {K : List MarkV} {tb nb lb : Nat} {A1 A2 A3 : Option Addr} {c1 c2 c3 : Nat}
theorem add_ok (hB : B ≤ w.heap.size) (h : ConfIn B w c R K tb nb lb A1 A2 A3 c1 c2 c3) (r : RegV) (many : Int) (i : Nat) (h1 : -9000000000000000000 ≤ many) (h2 : many ≤ 9000000000000000000) (hi : i = R.length) (h64 : i < 64) :
    Calls Try.prog 70 #[.pointer (some ⟨c, 0, none⟩), .int .i64 (i : Int), .agg #[.string ⟨r.name.toArray⟩, .int .u8 (r.lev.toNat : Int), .int .u16 (r.cats.toNat : Int), .int .i64 r.blocks, .int .i64 r.nodes, .int .i64 r.frames, .int .i64 r.procs, .int .i64 r.opens, .int .i64 r.clear], .int .i64 many] w fun e w' => e = .returned (.int .i64 (addE R r many)) ∧ Below B w w' ∧
      (addE R r many = 0 → ∃ A1' A3' c1' c3', ConfIn B w' c (R ++ [r]) K tb nb lb A1' A2 A3' c1' c2 c3') := by
  unfold addE
  have hrt : rightB r many = (decide (r.lev ≤ 15) && (soundC r.blocks r.nodes r.frames r.procs r.opens && inB r.clear 0 (many - 1))) := by rw [sound_eq]; rfl
  by_cases hn : nameB r.name = false
  · rw [if_pos hn]
    refine (add_name ⟨r.name.toArray⟩ r.lev r.cats r.blocks r.nodes r.frames r.procs r.opens r.clear many i w hn).mono ?_
    rintro e w' ⟨rfl, hb⟩
    exact ⟨rfl, hb.mono hB, fun h => by simp at h⟩
  · rw [if_neg hn]
    simp only [Bool.not_eq_false] at hn
    by_cases hr : rightB r many = false
    · rw [if_pos hr]
      refine (add_range ⟨r.name.toArray⟩ r.lev r.cats r.blocks r.nodes r.frames r.procs r.opens r.clear many i w hn h1 h2 (by rw [← hrt]; exact hr)).mono ?_
      rintro e w' ⟨rfl, hb⟩
      exact ⟨rfl, hb.mono hB, fun h => by simp at h⟩
    · rw [if_neg hr]
      simp only [Bool.not_eq_false] at hr
      rw [hrt] at hr
      by_cases ht : r.name ∈ R.map (·.name)
      · rw [if_pos ht]
        refine (add_twice h ⟨r.name.toArray⟩ r.lev r.cats r.blocks r.nodes r.frames r.procs r.opens r.clear many i hn h1 h2 hr ht).mono ?_
        rintro e w' ⟨rfl, hb⟩
        exact ⟨rfl, hb.mono hB, fun h => by simp at h⟩
      · rw [if_neg ht]
        by_cases ht2 : (r.lev, r.cats) ∈ R.map (fun x => (x.lev, x.cats))
        · rw [if_pos ht2]
          refine (add_twice2 h ⟨r.name.toArray⟩ r.lev r.cats r.blocks r.nodes r.frames r.procs r.opens r.clear many i hn h1 h2 hr ht ht2).mono ?_
          rintro e w' ⟨rfl, hb⟩
          exact ⟨rfl, hb.mono hB, fun h => by simp at h⟩
        · rw [if_neg ht2]
          refine (add_fine hB h ⟨r.name.toArray⟩ r.lev r.cats r.blocks r.nodes r.frames r.procs r.opens r.clear many i hn h1 h2 hr ht ht2 hi h64).mono ?_
          rintro e w' ⟨rfl, hb, A1', A3', c1', c3', h'⟩
          exact ⟨rfl, hb, fun _ => ⟨A1', A3', c1', c3', h'⟩⟩
end
theorem build_conf (W : World) (a b c : Nat) : (Instr.build 125 #[(1, .map (some a)), (3, .map (some b)), (4, .map (some c)), (6, .int .i64 32)]).run Try.prog W = .ok (.agg #[.slice none 0 0, .map (some a), .slice none 0 0, .map (some b), .map (some c), .slice none 0 0, .int .i64 32]) W := by kernel_rfl
theorem build_lab0 (W : World) : (Instr.build 41 #[]).run Try.prog W = .ok (.agg #[.int .u8 0, .int .u16 0]) W := by kernel_rfl
theorem conf_empty (w : World) {W1 W2 W3 W4 : World} (e1 : W1 = w.alloc (.map #[] 0)) (e2 : W2 = W1.alloc (.map #[] 0)) (e3 : W3 = W2.alloc (.map #[] 0))
    (e4 : W4 = W3.alloc (.cells #[.slice none 0 0, .map (some w.heap.size), .slice none 0 0, .map (some (w.heap.size + 1)), .map (some (w.heap.size + 1 + 1)), .slice none 0 0, .int .i64 32] 125)) :
    Below w.heap.size w W4 ∧ ConfIn w.heap.size W4 (w.heap.size + 1 + 1 + 1) [] [] w.heap.size (w.heap.size + 1) (w.heap.size + 1 + 1) none none none 0 0 0 := by
  have s1 : W1.heap.size = w.heap.size + 1 := by rw [e1]; simp
  have s2 : W2.heap.size = w.heap.size + 1 + 1 := by rw [e2, ← s1]; simp
  have s3 : W3.heap.size = w.heap.size + 1 + 1 + 1 := by rw [e3, ← s2]; simp
  have m1 : MapR dkv W1 w.heap.size [] := by rw [e1]; exact MapR.made w dkv
  have m2 : MapR skv W2 (w.heap.size + 1) [] := by rw [e2, ← s1]; exact MapR.made W1 skv
  have m3 : MapR dkv W3 (w.heap.size + 1 + 1) [] := by rw [e3, ← s2]; exact MapR.made W2 dkv
  have b2 : Below W1.heap.size W1 W2 := by rw [e2]; exact (Below.refl _ _).alloc (Nat.le_refl _) _
  have b3 : Below W2.heap.size W2 W3 := by rw [e3]; exact (Below.refl _ _).alloc (Nat.le_refl _) _
  have b4 : Below W3.heap.size W3 W4 := by rw [e4]; exact (Below.refl _ _).alloc (Nat.le_refl _) _
  have b1 : Below w.heap.size w W1 := by rw [e1]; exact (Below.refl _ _).alloc (Nat.le_refl _) _
  refine ⟨((b1.trans (b2.mono (by omega))).trans (b3.mono (by omega))).trans (b4.mono (by omega)), ⟨⟨?_, World.ownsRow_nil _ _ _ _, World.ownsRow_nil _ _ _ _, World.ownsRow_nil _ _ _ _, ?_, ?_, ?_, by omega, by omega, by omega, by omega, by omega, by omega, by omega⟩, fun r hr => by cases hr⟩⟩
  · rw [e4, ← s3]; exact Blk.new W3 _ _
  · exact ((m1.below b2 (by omega)).below b3 (by omega)).below b4 (by omega)
  · exact (m2.below b3 (by omega)).below b4 (by omega)
  · exact m3.below b4 (by omega)

theorem info_mark : (Try.prog.info? 161).map (fun i => (i.zero, i.size, i.bytes)) = some (some (.agg #[.int .u8 0, .int .u16 0]), 2, 4) := by kernel_rfl
theorem trust_get {L : List MarkV} (hn : ((trustL L).map (·.1)).Nodup) (m : MarkV) : (mget (trustL L) m).getD (.bool false) = .bool (decide (m ∈ L)) := by
  by_cases h : m ∈ L
  · obtain ⟨j, hj⟩ := List.getElem?_of_mem h
    have : (trustL L)[j]? = some (m, .bool true) := by simp [trustL, hj]
    rw [mget_at hn this]
    simp [h]
  · have : mget (trustL L) m = none := mget_none_iff.2 (by simpa [trustL] using h)
    rw [this]
    simp [h]
theorem trust_put {L : List MarkV} {m : MarkV} (h : m ∉ L) : mput (trustL L) m (.bool true) = trustL (L ++ [m]) := by
  rw [mput_none_of fun x hx e => h (by
    obtain ⟨y, hy, rfl⟩ := List.mem_map.1 hx
    simp only at e
    exact e ▸ hy)]
  simp [trustL]
theorem look_trust {w : World} {tb : Nat} {L : List MarkV} (h : MapR dkv w tb (trustL L)) (l : UInt8) (c : UInt16) {b : Bool} (hb : decide ((l, c) ∈ L) = b) (W : World) (hW : Below w.heap.size w W) :
    (Instr.lookup 120 (.map (some tb)) (.agg #[.int .u8 (l.toNat : Int), .int .u16 (c.toNat : Int)]) false).run Try.prog W = .ok (.bool b) W := by
  have := (h.is.keep (hW.block tb h.lt)).lookup markEnc Try.underlying120 (z := .bool false) (by kernel_rfl) (l, c) false
  rw [trust_get h.nodup, hb] at this
  exact this
theorem ConfG.mark_row {B : Nat} {X X' W3 : World} {c : Nat} {R : List RegV} {G : List GeoV} {tot : Int} {K : List MarkV} {m : MarkV} {T L : List ((UInt8 × UInt16) × Value)} {N : List (SKey × Value)} {tb nb lb : Nat} {A1 A2 A3 A2' : Option Addr} {c1 c2 c3 c2' n : Nat} (hn : K.length = n)
    (h : ConfG B X c R G tot K T N L tb nb lb A1 A2 A3 c1 c2 c3) (hg : X.grownBy X' (Value.slice A2 n c2).ownBlock) (ho : X'.ownsRow B 161 2 (.slice A2' (n + 1) c2') (n + 1) (mcellsOf K ++ markCells m))
    (hblk : Blk W3 c 125 #[.slice A1 R.length c1, .map (some tb), .slice A2' (n + 1) c2', .map (some nb), .map (some lb), .slice A3 G.length c3, .int .i64 tot])
    (far : ∀ g, g ≠ c → W3.heap[g]? = X'.heap[g]?) : ConfG B W3 c R G tot (K ++ [m]) T N L tb nb lb A1 A2' A3 c1 c2' c3 := by
  subst hn
  have hB := h.blk.grown hg fun e => blk_not_own h.blk h.marks (by decide) e.symm
  have o1 := h.regs.kept hg (own_apart h.regs h.marks (by decide))
  have o3 := h.geos.kept hg (own_apart h.geos h.marks (by decide))
  have t1 := h.tr.keep (hg.block _ h.tr.lt fun e => h.tr.is.not_own h.marks e.symm)
  have t2 := h.nm.keep (hg.block _ h.nm.lt fun e => h.nm.is.not_own h.marks e.symm)
  have t3 := h.lm.keep (hg.block _ h.lm.lt fun e => h.lm.is.not_own h.marks e.symm)
  refine ⟨?_, own_keep o1 fun g hg' => far g fun e => blk_not_own hB o1 (by decide) (e ▸ hg'), ?_, own_keep o3 fun g hg' => far g fun e => blk_not_own hB o3 (by decide) (e ▸ hg'), t1.keep (far tb fun e => blk_not_map hB t1.is e.symm), t2.keep (far nb fun e => blk_not_map hB t2.is e.symm), t3.keep (far lb fun e => blk_not_map hB t3.is e.symm), h.hc, h.htb, h.hnb, h.hlb, h.n1, h.n2, h.n3⟩
  · rw [List.length_append]
    exact hblk
  · rw [mcellsOf_snoc, List.length_append]
    exact own_keep ho fun g hg' => far g fun e => blk_not_own hB ho (by decide) (e ▸ hg')

section
attribute [-go_sem] Instr.build
attribute [local go_sem] build_conf build_lab0
variable {R : List RegV} {K : List MarkV} {A A' : Option Addr} {cA cA' : Nat} {w : World}
theorem rd_reg {w : World} {B : Nat} {A : Option Addr} {R : List RegV} (h : Rd w B 9 A R.length (rcellsOf R)) {k : Nat} {r : RegV} (hk : R[k]? = some r) :
    ∃ b o, A = some ⟨b, o, none⟩ ∧ b < B ∧ ∀ j v, r.cells[j]? = some v → w.cell? ⟨b, o + (k * 9 + j), none⟩ = some v := by
  have hl : k < R.length := (List.getElem?_eq_some_iff.1 hk).1
  obtain ⟨b, o, hA, hb, hc⟩ := h.2 (by omega)
  exact ⟨b, o, hA, hb, fun j v hv => hc _ _ (flat_get RegV.cells 9 (fun _ => rfl) R k r hk j v hv)⟩
theorem rd_mark {w : World} {B : Nat} {A : Option Addr} {K : List MarkV} (h : Rd w B 2 A K.length (mcellsOf K)) {k : Nat} {r : MarkV} (hk : K[k]? = some r) :
    ∃ b o, A = some ⟨b, o, none⟩ ∧ b < B ∧ ∀ j v, (markCells r)[j]? = some v → w.cell? ⟨b, o + (k * 2 + j), none⟩ = some v := by
  have hl : k < K.length := (List.getElem?_eq_some_iff.1 hk).1
  obtain ⟨b, o, hA, hb, hc⟩ := h.2 (by omega)
  exact ⟨b, o, hA, hb, fun j v hv => hc _ _ (flat_get markCells 2 (fun _ => rfl) K k r hk j v hv)⟩
def NewSays (w w' : World) (R : List RegV) (K : List MarkV) (e : Ending) : Prop :=
  Below w.heap.size w w' ∧ (newE R K = 0 → ∃ c tb nb lb A1 A2 A3 c1 c2 c3, e = .returned (.tuple #[.pointer (some ⟨c, 0, none⟩), .int .i64 0]) ∧ ConfIn w.heap.size w' c R K tb nb lb A1 A2 A3 c1 c2 c3) ∧
    (newE R K ≠ 0 → e = .returned (.tuple #[.pointer none, .int .i64 (newE R K)]))
theorem NewSays.err {w w' : World} {R : List RegV} {K : List MarkV} {e : Ending} (hb : Below w.heap.size w w') {k : Int} (hk : newE R K = k) (h0 : k ≠ 0) (he : e = .returned (.tuple #[.pointer none, .int .i64 k])) : NewSays w w' R K e :=
  ⟨hb, fun h => absurd (hk.symm.trans h) h0, fun _ => by rw [hk]; exact he⟩
set_option maxRecDepth 100000 in
set_option maxHeartbeats 4000000 in
theorem new_ok (hr : Rd w w.heap.size 9 A R.length (rcellsOf R)) (hm : Rd w w.heap.size 2 A' K.length (mcellsOf K)) (hn : R.length ≤ 60000) (hk : K.length ≤ 60000) :
    Calls Try.prog 37 #[.slice A R.length cA, .slice A' K.length cA'] w fun e w' => NewSays w w' R K e := by
  have hmm := @run_makeMap Try.prog
  by_cases h0 : R.length = 0
  · have t1 : ((R.length : Int) == 0) = true := by simp [h0]
    have e : newE R K = 23 := by rw [List.length_eq_zero_iff.1 h0]; rfl
    have E := hide e
    clear h0 e
    go_enter Try.func37, Try.ntmps37
    go_wp2
    go_returns
    exact NewSays.err (Below.refl _ _) E.out (by decide) rfl
  · have t1 : ((R.length : Int) == 0) = false := by simp [h0]
    have hne : R ≠ [] := fun e => h0 (by rw [e]; rfl)
    obtain ⟨r0, rest, hR⟩ := List.exists_cons_of_ne_nil hne
    clear hne
    by_cases h64 : 64 < R.length
    · have t2 : decide ((64 : Int) < R.length) = true := by simp; omega
      have e : newE R K = 23 := by rw [hR] at h64 ⊢; simp only [newE]; rw [if_pos h64]
      have E := hide e
      clear h0 e h64 hR
      go_enter Try.func37, Try.ntmps37
      go_wp2
      go_returns
      exact NewSays.err (Below.refl _ _) E.out (by decide) rfl
    · have t2 : decide ((64 : Int) < R.length) = false := by simp; omega
      have e : newE R K = if addsE [] R R.length ≠ 0 then addsE [] R R.length else if r0.lev ≠ 0 ∨ r0.cats ≠ 0 then 25 else if clearsE R 0 R ≠ 0 then clearsE R 0 R else marksE R [] K := by
        rw [hR] at h64 ⊢
        simp only [newE]
        rw [if_neg h64]
      have E := hide e
      have HR := hide hR
      have HR0 := hide hr
      have HM0 := hide hm
      clear e hR hr hm
      go_enter Try.func37, Try.ntmps37
      go_upto_region 4 with (fail)
      refine at_world (fun W => ∃ c tb nb lb, c = w.heap.size + 1 + 1 + 1 ∧ Below w.heap.size w W ∧ ConfIn w.heap.size W c [] [] tb nb lb none none none 0 0 0) ⟨_, _, _, _, rfl, conf_empty w rfl rfl rfl rfl⟩ (fun w1 h1 => ?_)
      obtain ⟨c, tb, nb, lb, hc, hb1, h1⟩ := h1
      rw [← hc]
      clear hc hmm t1 t2
      have HB1 := hide hb1
      have H1 := hide h1
      clear hb1 h1
      go_wp2_with fail
      go_loopg [7, 8, 9, 29] R.length (fun g x7 x8 x9 x29 wr => ∃ k : Nat, k ≤ R.length ∧ g = R.length - k ∧ x29 = .int .i64 k ∧ Aside (∃ A1 A3 c1 c3, Below w.heap.size w wr ∧ ConfIn w.heap.size wr c (R.take k) [] tb nb lb A1 none A3 c1 0 c3 ∧ addsE [] R R.length = addsE (R.take k) (R.drop k) R.length))
      case atStart => exact ⟨0, Nat.zero_le _, rfl, rfl, none, none, 0, 0, HB1.out, H1.out, rfl⟩
      case round =>
        clear HB1 H1
        obtain ⟨k, hkl, hg, rfl, hA⟩ := hrel
        by_cases hkn : k < R.length
        · have hkz : (k : Int) < R.length := by omega
          obtain ⟨A1, A3, c1, c3, hbr, hc, hadd⟩ := hA.out
          obtain ⟨r, hrk⟩ : ∃ r, R[k]? = some r := ⟨_, List.getElem?_eq_getElem hkn⟩
          obtain ⟨b, o, rfl, hb, hcl⟩ := rd_reg HR0.out hrk
          have y0 := (hbr.cell (p := ⟨b, _, none⟩) hb).trans (hcl 0 _ rfl)
          have y1 := (hbr.cell (p := ⟨b, _, none⟩) hb).trans (hcl 1 _ rfl)
          have y2 := (hbr.cell (p := ⟨b, _, none⟩) hb).trans (hcl 2 _ rfl)
          have y3 := (hbr.cell (p := ⟨b, _, none⟩) hb).trans (hcl 3 _ rfl)
          have y4 := (hbr.cell (p := ⟨b, _, none⟩) hb).trans (hcl 4 _ rfl)
          have y5 := (hbr.cell (p := ⟨b, _, none⟩) hb).trans (hcl 5 _ rfl)
          have y6 := (hbr.cell (p := ⟨b, _, none⟩) hb).trans (hcl 6 _ rfl)
          have y7 := (hbr.cell (p := ⟨b, _, none⟩) hb).trans (hcl 7 _ rfl)
          have y8 := (hbr.cell (p := ⟨b, _, none⟩) hb).trans (hcl 8 _ rfl)
          have hbw : b < wr.heap.size := Nat.lt_of_lt_of_le hb hbr.size
          simp only [← Nat.add_assoc, Nat.add_zero] at y0 y1 y2 y3 y4 y5 y6 y7 y8
          have HBR := hide hbr
          have HC := hide hc
          have HD := hide (And.intro hadd hrk)
          clear hbr hc hadd hrk hcl hA hb
          go_wp2_with fail
          have hbn : Below wr.heap.size wr (wr.alloc (.cells #[.string ⟨r.name.toArray⟩, .int .u8 (r.lev.toNat : Int), .int .u16 (r.cats.toNat : Int), .int .i64 r.blocks, .int .i64 r.nodes, .int .i64 r.frames, .int .i64 r.procs, .int .i64 r.opens, .int .i64 r.clear] 43)) := (Below.refl _ _).alloc (Nat.le_refl _) _
          have H64 := hide h64
          refine (add_ok (B := w.heap.size) (Nat.le_trans HBR.out.size hbn.size) (HC.out.below hbn) r _ k (by omega) (by omega) (by simp; omega) (by omega)).mono ?_
          rintro e w6 ⟨rfl, hb6, hc6⟩
          have hb9 := HBR.out.trans ((hbn.mono HBR.out.size).trans hb6)
          obtain ⟨ev, hev⟩ : ∃ ev, ev = addE (R.take k) r R.length := ⟨_, rfl⟩
          rw [← hev] at hc6 ⊢
          clear y0 y1 y2 y3 y4 y5 y6 y7 y8 hbw hbn hb6
          by_cases hz : ev = 0
          · obtain ⟨A1', A3', c1', c3', hc7⟩ := hc6 hz
            have H7 := hide hc7
            have HB9 := hide hb9
            have HEV := hide (hev.symm.trans hz)
            subst hz
            clear hc6 hc7 hb9 hev
            go_wp2
            go_roundg (R.length - (k + 1))
            case measure => omega
            case rel =>
              refine ⟨k + 1, by omega, rfl, by go_num, A1', A3', c1', c3', HB9.out, ?_, ?_⟩
              · rw [List.take_add_one, HD.out.2]
                exact H7.out
              · rw [HD.out.1, List.drop_eq_getElem_cons hkn, addsE]
                have e : R[k] = r := by have := HD.out.2; rw [List.getElem?_eq_getElem hkn] at this; injection this
                rw [e, if_pos HEV.out, List.take_add_one, HD.out.2]
                rfl
          · have hz1 : (ev == 0) = false := by simp [hz]
            have HB9 := hide hb9
            have HEV := hide (⟨hev.symm, hz⟩ : addE (R.take k) r R.length = ev ∧ ev ≠ 0)
            clear hc6 hb9 hev hz
            go_wp2
            go_returns
            refine NewSays.err HB9.out (k := ev) ?_ HEV.out.2 rfl
            have e : R[k] = r := by have := HD.out.2; rw [List.getElem?_eq_getElem hkn] at this; injection this
            have e2 : addsE [] R R.length = ev := by rw [HD.out.1, List.drop_eq_getElem_cons hkn, addsE, e, if_neg (by rw [HEV.out.1]; exact HEV.out.2), HEV.out.1]
            rw [E.out, e2, if_pos HEV.out.2]
        · obtain rfl : k = R.length := by omega
          obtain ⟨A1, A3, c1, c3, hbr, hc, hadd⟩ := hA.out
          rw [List.take_length] at hc hadd
          rw [List.drop_length, addsE] at hadd
          have HBR := hide hbr
          have HC := hide hc
          have HD := hide hadd
          clear hbr hc hadd hA
          have hkz : ¬ ((R.length : Int) < R.length) := by omega
          have hr0 : R[0]? = some r0 := by rw [HR.out]; rfl
          obtain ⟨b, o, rfl, hb, hcl⟩ := rd_reg HR0.out hr0
          have y1 := (HBR.out.cell (p := ⟨b, _, none⟩) hb).trans (hcl 1 _ rfl)
          have y2 := (HBR.out.cell (p := ⟨b, _, none⟩) hb).trans (hcl 2 _ rfl)
          have hbw : b < wr.heap.size := Nat.lt_of_lt_of_le hb HBR.out.size
          have hlz : (0 : Int) < R.length := by omega
          simp only [Nat.zero_mul, Nat.zero_add] at y1 y2
          clear hb hcl hr0
          have HSR := hide hbw
          by_cases hl : r0.lev = 0
          · rw [hl] at y1
            by_cases hc0 : r0.cats = 0
            · rw [hc0] at y2
              have HL := hide (And.intro hl hc0)
              clear hl hc0
              simp only [UInt8.toNat_zero, UInt16.toNat_zero, Int.cast_ofNat_Int] at y1 y2
              go_upto_region 13 with (fail)
              clear y1 y2 hlz
              have HC' := hide HC.out
              have HBR' := hide HBR.out
              clear HC HBR
              go_wp2_with fail
              have HAD := hide HD.out
              clear HD hg hkl hkz hkn
              go_loopg [10, 11, 52] R.length (fun g x10 x11 x52 wr => ∃ k : Nat, k ≤ R.length ∧ g = R.length - k ∧ x52 = .int .i64 k ∧ Aside (Below w.heap.size w wr ∧ ConfIn w.heap.size wr c R [] tb nb lb A1 none A3 c1 0 c3 ∧ clearsE R 0 R = clearsE R k (R.drop k)))
              case atStart => exact ⟨0, Nat.zero_le _, rfl, rfl, HBR'.out, HC'.out, rfl⟩
              case round =>
                clear HBR' HC' HSR hbw
                obtain ⟨k, hkl, hg, rfl, hA⟩ := hrel
                by_cases hkn : k < R.length
                · have hkz : (k : Int) < R.length := by omega
                  obtain ⟨hbr, hc, hadd⟩ := hA.out
                  obtain ⟨r, hrk⟩ : ∃ r, R[k]? = some r := ⟨_, List.getElem?_eq_getElem hkn⟩
                  obtain ⟨b', o', hbo, hb, hcl⟩ := rd_reg HR0.out hrk
                  cases hbo
                  have y0 := (hbr.cell (p := ⟨b, _, none⟩) hb).trans (hcl 0 _ rfl)
                  have y1 := (hbr.cell (p := ⟨b, _, none⟩) hb).trans (hcl 1 _ rfl)
                  have y2 := (hbr.cell (p := ⟨b, _, none⟩) hb).trans (hcl 2 _ rfl)
                  have y3 := (hbr.cell (p := ⟨b, _, none⟩) hb).trans (hcl 3 _ rfl)
                  have y4 := (hbr.cell (p := ⟨b, _, none⟩) hb).trans (hcl 4 _ rfl)
                  have y5 := (hbr.cell (p := ⟨b, _, none⟩) hb).trans (hcl 5 _ rfl)
                  have y6 := (hbr.cell (p := ⟨b, _, none⟩) hb).trans (hcl 6 _ rfl)
                  have y7 := (hbr.cell (p := ⟨b, _, none⟩) hb).trans (hcl 7 _ rfl)
                  have y8 := (hbr.cell (p := ⟨b, _, none⟩) hb).trans (hcl 8 _ rfl)
                  have hbw : b < wr.heap.size := Nat.lt_of_lt_of_le hb hbr.size
                  simp only [← Nat.add_assoc, Nat.add_zero] at y0 y1 y2 y3 y4 y5 y6 y7 y8
                  have HBR := hide hbr
                  have HC := hide hc
                  have HD := hide (And.intro hadd hrk)
                  clear hbr hc hadd hrk hcl hA hb
                  go_wp2_with fail
                  have hbn : Below wr.heap.size wr (wr.alloc (.cells #[.string ⟨r.name.toArray⟩, .int .u8 (r.lev.toNat : Int), .int .u16 (r.cats.toNat : Int), .int .i64 r.blocks, .int .i64 r.nodes, .int .i64 r.frames, .int .i64 r.procs, .int .i64 r.opens, .int .i64 r.clear] 43)) := (Below.refl _ _).alloc (Nat.le_refl _) _
                  refine (leq_ok (HC.out.below hbn) _ _).mono ?_
                  rintro e w6 ⟨rfl, hb6⟩
                  have hb9 : Below wr.heap.size wr w6 := hbn.trans (hb6.mono hbn.size)
                  have HB9 := hide (HBR.out.trans (hb9.mono HBR.out.size))
                  have HC9 := hide (HC.out.below hb9)
                  clear y0 y1 y2 y3 y4 y5 y6 y7 y8 hbw hbn hb6 hb9
                  have e : R[k] = r := by have := HD.out.2; rw [List.getElem?_eq_getElem hkn] at this; injection this
                  have e2 : clearsE R 0 R = if leqAt R k r.clear then clearsE R (k + 1) (R.drop (k + 1)) else 2 := by rw [HD.out.1, List.drop_eq_getElem_cons hkn, clearsE, e]
                  have E2 := hide e2
                  clear e e2
                  cases hz : leqAt R (k : Int) r.clear with
                  | true =>
                    have HZ := hide hz
                    clear hz
                    go_wp2
                    go_roundg (R.length - (k + 1))
                    case measure => omega
                    case rel =>
                      refine ⟨k + 1, by omega, rfl, by go_num, HB9.out, HC9.out, ?_⟩
                      rw [E2.out, if_pos HZ.out]
                  | false =>
                    have HZ := hide hz
                    clear hz
                    go_wp2
                    go_returns
                    refine NewSays.err HB9.out (k := 2) ?_ (by decide) rfl
                    rw [E.out, HAD.out, if_neg (fun h => h rfl), if_neg (by rw [HL.out.1, HL.out.2]; simp), show clearsE R 0 R = 2 by rw [E2.out, if_neg (by rw [HZ.out]; simp)], if_pos (by decide)]
                · obtain rfl : k = R.length := by omega
                  obtain ⟨hbr, hc, hadd⟩ := hA.out
                  rw [List.drop_length, clearsE] at hadd
                  have HBR := hide hbr
                  have HC := hide hc
                  have HD := hide hadd
                  clear hbr hc hadd hA
                  have hkz : ¬ ((R.length : Int) < R.length) := by omega
                  go_wp2_with fail
                  have HE3 := hide (show newE R K = marksE R [] K by rw [E.out, HAD.out, if_neg (fun h => h rfl), if_neg (by rw [HL.out.1, HL.out.2]; simp), HD.out, if_neg (fun h => h rfl)])
                  clear E HAD HL HD hkz hkn hg hkl
                  go_loopg [13, 66, 70, 94] K.length (fun g x13 x66 x70 x94 wr => ∃ k : Nat, k ≤ K.length ∧ g = K.length - k ∧ x66 = .int .i64 k ∧ Aside (∃ A2 c2, Below w.heap.size w wr ∧ ConfIn w.heap.size wr c R (K.take k) tb nb lb A1 A2 A3 c1 c2 c3 ∧ marksE R [] K = marksE R (K.take k) (K.drop k)))
                  case atStart => exact ⟨0, Nat.zero_le _, rfl, rfl, none, 0, HBR.out, HC.out, rfl⟩
                  case round =>
                    clear HBR HC
                    obtain ⟨k, hkl, hg, rfl, hA⟩ := hrel
                    by_cases hkn : k < K.length
                    · have hkz : (k : Int) < K.length := by omega
                      obtain ⟨A2, c2, hbr, hc, hadd⟩ := hA.out
                      obtain ⟨⟨la, nu⟩, hrk⟩ : ∃ r, K[k]? = some r := ⟨_, List.getElem?_eq_getElem hkn⟩
                      obtain ⟨b', o', rfl, hb, hcl⟩ := rd_mark HM0.out hrk
                      have y0 := (hbr.cell (p := ⟨b', _, none⟩) hb).trans (hcl 0 _ rfl)
                      have y1 := (hbr.cell (p := ⟨b', _, none⟩) hb).trans (hcl 1 _ rfl)
                      have hbw : b' < wr.heap.size := Nat.lt_of_lt_of_le hb hbr.size
                      simp only [← Nat.add_assoc, Nat.add_zero] at y0 y1
                      have HBR := hide hbr
                      have HC := hide hc
                      have HD := hide (And.intro hadd hrk)
                      clear hbr hc hadd hrk hcl hA hb
                      have e2 : marksE R [] K = if markB R (la, nu) = false then 27 else if (la, nu) ∈ K.take k then 29 else marksE R (K.take k ++ [(la, nu)]) (K.drop (k + 1)) := by
                        have e : K[k] = (la, nu) := by have := HD.out.2; rw [List.getElem?_eq_getElem hkn] at this; injection this
                        rw [HD.out.1, List.drop_eq_getElem_cons hkn, marksE, e]
                      have E2 := hide e2
                      clear e2
                      go_upto_region 22 with (fail)
                      refine at_world (fun W => ∃ bx, bx = wr.heap.size ∧ Below w.heap.size w W ∧ ConfIn w.heap.size W c R (K.take k) tb nb lb A1 A2 A3 c1 c2 c3 ∧ Blk W bx 161 #[.int .u8 (la.toNat : Int), .int .u16 (nu.toNat : Int)]) ⟨_, rfl, HBR.out.alloc HBR.out.size _, HC.out.below ((Below.refl _ _).alloc (Nat.le_refl _) _), Blk.new _ _ _⟩ (fun w5 h5 => ?_)
                      obtain ⟨bx, hbx, hb5, hc5, bB⟩ := h5
                      rw [← hbx]
                      have HMN := hide (show ∀ g, (Value.slice A2 (K.take k).length c2).ownBlock = some g → g < bx from fun g hg => by rw [hbx]; exact (HC.out.marks.lt g hg).2)
                      clear y0 y1 hbw HBR HC hbx
                      have HB5 := hide hb5
                      have HC5 := hide hc5
                      have z0 := bB.cell 0
                      have z1 := bB.cell 1
                      have zl := bB.lt
                      have BB := hide bB
                      clear hb5 hc5 bB
                      have hla := la.toNat_lt
                      have hnu := nu.toNat_lt
                      have wl1 : IntKind.i64.wrap (la.toNat : Int) = la.toNat := IntWalk.i64_in _ (by omega)
                      have wl2 : IntKind.i64.wrap (nu.toNat : Int) = nu.toNat := IntWalk.i64_in _ (by omega)
                      by_cases hm1 : R.length ≤ la.toNat
                      · have q1 : decide (R.length ≤ la.toNat) = true := by simp; omega
                        have HE4 := hide (show marksE R [] K = 27 by rw [E2.out, if_pos (by unfold markB; rw [List.getElem?_eq_none hm1])])
                        clear E2 hm1
                        refine wp_region_text [0, 0, 0, 0, 0, 0, 0, 0, 0, 0, 0, 0, 0, 0, 0, 0, 0, 0, 0, 0, 0, 0, 0, 0] (Below w5.heap.size w5) (by kernel_rfl) (by kernel_rfl) (Below.refl _ _).drew ?_
                        iterate 7 (refine wpOrd_q (v := ?_) (by rfl) (fun W hW => ?_) ?_; rotate_left; (focus ((obtain ⟨hWc, hWf⟩ := bcell hW); go_simp; try with_reducible rfl)); try simp only [Act.put, List.setIfInBounds_toArray, List.set_cons_zero, List.set_cons_succ])
                        iterate 3 (refine wpOrd_n (by rfl) ?_; try simp only [Act.put, List.setIfInBounds_toArray, List.set_cons_zero, List.set_cons_succ])
                        iterate 2 (refine wpOrd_q (v := ?_) (by rfl) (fun W hW => ?_) ?_; rotate_left; (focus ((obtain ⟨hWc, hWf⟩ := bcell hW); go_simp; try with_reducible rfl)); try simp only [Act.put, List.setIfInBounds_toArray, List.set_cons_zero, List.set_cons_succ])
                        iterate 10 (refine wpOrd_n (by rfl) ?_; try simp only [Act.put, List.setIfInBounds_toArray, List.set_cons_zero, List.set_cons_succ])
                        iterate 2 (refine wpOrd_q (v := ?_) (by rfl) (fun W hW => ?_) ?_; rotate_left; (focus ((obtain ⟨hWc, hWf⟩ := bcell hW); go_simp; try with_reducible rfl)); try simp only [Act.put, List.setIfInBounds_toArray, List.set_cons_zero, List.set_cons_succ])
                        refine wpOrd_nil ?_
                        have HB6 := hide HB5.out.drew
                        go_wp2
                        go_returns
                        exact NewSays.err HB6.out (HE3.out.trans HE4.out) (by decide) rfl
                      · have q1 : decide (R.length ≤ la.toNat) = false := by simp; omega
                        obtain ⟨r, hrl⟩ : ∃ r, R[la.toNat]? = some r := ⟨_, List.getElem?_eq_getElem (by omega)⟩
                        obtain ⟨b2, o2, hbo, hbr, hcr⟩ := rd_reg HR0.out hrl
                        cases hbo
                        have y4 := (HB5.out.cell (p := ⟨b, _, none⟩) hbr).trans (hcr 4 _ rfl)
                        have hbz : b < w5.heap.size := Nat.lt_of_lt_of_le hbr HB5.out.size
                        simp only [← Nat.add_assoc] at y4
                        have hlz : (la.toNat : Int) < R.length := by omega
                        have hc64 : (nu.toNat : Int) < 65536 := by omega
                        have HRL := hide hrl
                        clear hrl hcr hbr hm1
                        by_cases hm2 : nu.toNat < 1
                        · have q2 : decide ((nu.toNat : Int) < 1) = true ∧ decide (nu.toNat < 1) = true ∧ decide (nu.toNat = 0) = true := ⟨by simp; omega, by simp; omega, by simp; omega⟩
                          obtain ⟨q2, q2a, q2b⟩ := q2
                          have HE4 := hide (show marksE R [] K = 27 by rw [E2.out, if_pos (by unfold markB; rw [HRL.out]; simp; omega)])
                          clear E2 hm2
                          refine wp_region_text [0, 0, 0, 0, 0, 0, 0, 0, 0, 0, 0, 0, 0, 0, 0, 0, 0, 0, 0, 0, 0, 0, 0, 0] (Below w5.heap.size w5) (by kernel_rfl) (by kernel_rfl) (Below.refl _ _).drew ?_
                          iterate 12 (refine wpOrd_q (v := ?_) (by rfl) (fun W hW => ?_) ?_; rotate_left; (focus ((obtain ⟨hWc, hWf⟩ := bcell hW); go_simp; try with_reducible rfl)); try simp only [Act.put, List.setIfInBounds_toArray, List.set_cons_zero, List.set_cons_succ])
                          iterate 10 (refine wpOrd_n (by rfl) ?_; try simp only [Act.put, List.setIfInBounds_toArray, List.set_cons_zero, List.set_cons_succ])
                          iterate 2 (refine wpOrd_q (v := ?_) (by rfl) (fun W hW => ?_) ?_; rotate_left; (focus ((obtain ⟨hWc, hWf⟩ := bcell hW); go_simp; try with_reducible rfl)); try simp only [Act.put, List.setIfInBounds_toArray, List.set_cons_zero, List.set_cons_succ])
                          refine wpOrd_nil ?_
                          have HB6 := hide HB5.out.drew
                          go_wp2
                          go_returns
                          exact NewSays.err HB6.out (HE3.out.trans HE4.out) (by decide) rfl
                        · have q2 : decide ((nu.toNat : Int) < 1) = false ∧ decide (nu.toNat < 1) = false ∧ decide (nu.toNat = 0) = false := ⟨by simp; omega, by simp; omega, by simp; omega⟩
                          obtain ⟨q2, q2a, q2b⟩ := q2
                          by_cases hm3 : r.nodes < (nu.toNat : Int)
                          · have q3 : decide (r.nodes < (nu.toNat : Int)) = true := by simpa using hm3
                            have HE4 := hide (show marksE R [] K = 27 by rw [E2.out, if_pos (by unfold markB; rw [HRL.out]; simp; omega)])
                            clear E2 hm2 hm3
                            refine wp_region_text [0, 0, 0, 0, 0, 0, 0, 0, 0, 0, 0, 0, 0, 0, 0, 0, 0, 0, 0, 0, 0, 0, 0, 0] (Below w5.heap.size w5) (by kernel_rfl) (by kernel_rfl) (Below.refl _ _).drew ?_
                            iterate 24 (refine wpOrd_q (v := ?_) (by rfl) (fun W hW => ?_) ?_; rotate_left; (focus ((obtain ⟨hWc, hWf⟩ := bcell hW); go_simp; try with_reducible rfl)); try simp only [Act.put, List.setIfInBounds_toArray, List.set_cons_zero, List.set_cons_succ])
                            refine wpOrd_nil ?_
                            have HB6 := hide HB5.out.drew
                            go_wp2
                            go_returns
                            exact NewSays.err HB6.out (HE3.out.trans HE4.out) (by decide) rfl
                          · have q3 : decide (r.nodes < (nu.toNat : Int)) = false := by simpa using hm3
                            have HMB := hide (show markB R (la, nu) = true by unfold markB; rw [HRL.out]; simp; omega)
                            clear hm2 hm3
                            refine wp_region_text [0, 0, 0, 0, 0, 0, 0, 0, 0, 0, 0, 0, 0, 0, 0, 0, 0, 0, 0, 0, 0, 0, 0, 0] (Below w5.heap.size w5) (by kernel_rfl) (by kernel_rfl) (Below.refl _ _).drew ?_
                            iterate 24 (refine wpOrd_q (v := ?_) (by rfl) (fun W hW => ?_) ?_; rotate_left; (focus ((obtain ⟨hWc, hWf⟩ := bcell hW); go_simp; try with_reducible rfl)); try simp only [Act.put, List.setIfInBounds_toArray, List.set_cons_zero, List.set_cons_succ])
                            refine wpOrd_nil ?_
                            refine at_world (fun W => Below w.heap.size w W ∧ ConfIn w.heap.size W c R (K.take k) tb nb lb A1 A2 A3 c1 c2 c3 ∧ Blk W bx 161 #[.int .u8 (la.toNat : Int), .int .u16 (nu.toNat : Int)]) ⟨HB5.out.drew, HC5.out.below (Below.refl _ _).drew, BB.out.drew⟩ (fun w6 h6 => ?_)
                            clear z0 z1 zl y4 hbz HB5 HC5 BB q1 q2 q2a q2b q3
                            obtain ⟨hb6, hc6, bB⟩ := h6
                            go_wp2_with fail
                            have HB6 := hide hb6
                            have hkl9 : (K.take k).length ≤ 60000 := by rw [List.length_take]; omega
                            by_cases hin : (la, nu) ∈ K.take k
                            · have hlk := look_trust hc6.tr la nu (b := true) (by simp [hin])
                              have HE4 := hide (show marksE R [] K = 29 by rw [E2.out, if_neg (by rw [HMB.out]; simp), if_pos hin])
                              clear E2 hin HMB
                              have z0 := bB.cell 0
                              have z1 := bB.cell 1
                              have zl := bB.lt
                              have k1 := hc6.blk.cell 1
                              have kl := hc6.blk.lt
                              have ktl := hc6.tr.lt
                              clear hc6 bB hb6
                              refine wp_region_text [0, 0, 0, 0, 0, 0, 0] (Below w6.heap.size w6) (by kernel_rfl) (by kernel_rfl) (Below.refl _ _).drew ?_
                              iterate 7 (refine wpOrd_q (v := ?_) (by rfl) (fun W hW => ?_) ?_; rotate_left; (focus ((obtain ⟨hWc, hWf⟩ := bcell hW); have hq := hlk W hW; go_simp; try with_reducible rfl)); try simp only [Act.put, List.setIfInBounds_toArray, List.set_cons_zero, List.set_cons_succ])
                              refine wpOrd_nil ?_
                              have HB7 := hide HB6.out.drew
                              go_wp2
                              go_returns
                              exact NewSays.err HB7.out (HE3.out.trans HE4.out) (by decide) rfl
                            · have hlk := look_trust hc6.tr la nu (b := false) (by simp [hin])
                              have HE4 := hide (show marksE R [] K = marksE R (K.take k ++ [(la, nu)]) (K.drop (k + 1)) by rw [E2.out, if_neg (by rw [HMB.out]; simp), if_neg hin])
                              have HIN := hide hin
                              clear E2 hin HMB
                              have z0 := bB.cell 0
                              have z1 := bB.cell 1
                              have zl := bB.lt
                              have k1 := hc6.blk.cell 1
                              have kl := hc6.blk.lt
                              have ktl := hc6.tr.lt
                              refine wp_region_text [0, 0, 0, 0, 0, 0, 0] (Below w6.heap.size w6) (by kernel_rfl) (by kernel_rfl) (Below.refl _ _).drew ?_
                              iterate 7 (refine wpOrd_q (v := ?_) (by rfl) (fun W hW => ?_) ?_; rotate_left; (focus ((obtain ⟨hWc, hWf⟩ := bcell hW); have hq := hlk W hW; go_simp; try with_reducible rfl)); try simp only [Act.put, List.setIfInBounds_toArray, List.set_cons_zero, List.set_cons_succ])
                              refine wpOrd_nil ?_
                              refine at_world (fun W => Below w.heap.size w W ∧ ConfIn w.heap.size W c R (K.take k) tb nb lb A1 A2 A3 c1 c2 c3 ∧ Blk W bx 161 #[.int .u8 (la.toNat : Int), .int .u16 (nu.toNat : Int)]) ⟨hb6.drew, hc6.below (Below.refl _ _).drew, bB.drew⟩ (fun w7 h7 => ?_)
                              clear z0 z1 zl k1 kl ktl hlk hb6 hc6 bB HB6
                              obtain ⟨hb7, hc7, bB⟩ := h7
                              go_wp2_with fail
                              have z0 := bB.cell 0
                              have z1 := bB.cell 1
                              have zl := bB.lt
                              have k1 := hc7.blk.cell 1
                              have kl := hc7.blk.lt
                              obtain ⟨w8, hrun, hM, ho⟩ := (hc7.tr.keep (w' := w7.drew) rfl).update markEnc Try.underlying120 (la, nu) (.bool true)
                              simp only [dkv] at hrun
                              refine wp_region_text [0, 0, 0, 0, 0, 2] (Below w7.heap.size w7) (by kernel_rfl) (by kernel_rfl) (Below.refl _ _).drew ?_
                              iterate 5 (refine wpOrd_q (v := ?_) (by rfl) (fun W hW => ?_) ?_; rotate_left; (focus ((obtain ⟨hWc, hWf⟩ := bcell hW); go_simp; try with_reducible rfl)); try simp only [Act.put, List.setIfInBounds_toArray, List.set_cons_zero, List.set_cons_succ])
                              refine wpOrd_b (by rfl) (fun K hK => ?_)
                              go_simp
                              refine hK (fun _ => True) _ _ trivial ?_
                              clear hK K
                              try simp only [Act.put, List.setIfInBounds_toArray, List.set_cons_zero, List.set_cons_succ]
                              refine wpOrd_nil ?_
                              rw [trust_put HIN.out] at hM
                              have bB8 : Blk w8 bx 161 #[.int .u8 (la.toNat : Int), .int .u16 (nu.toNat : Int)] := (ho.blk (fun e => blk_not_map bB.drew (hc7.tr.keep (w' := w7.drew) rfl).is e) bB.lt).trans bB.drew
                              have hc8 := (hc7.below (Below.refl _ _).drew).toConfG.trust ho hM
                              have hb8 : Below w.heap.size w w8 := hb7.drew.grown ho.1 hb7.size (fun k hk => by have := hc7.htb; injection hk with hk; omega)
                              have OK := hide hc7.ok
                              clear z0 z1 zl k1 kl hrun hM ho hb7 hc7 bB
                              go_wp2_with fail
                              have z0 := bB8.cell 0
                              have z1 := bB8.cell 1
                              have zl := bB8.lt
                              have k2 := hc8.blk.cell 2
                              have kl := hc8.blk.lt
                              refine wp_region_text [0, 0, 0, 0, 0, 0, 1, 1, 0, 0, 2] (fun W => Blk W c 125 #[.slice A1 R.length c1, .map (some tb), .slice A2 (K.take k).length c2, .map (some nb), .map (some lb), .slice A3 (geosOf 32 R).length c3, .int .i64 (totalOf 32 R)] ∧ Blk W bx 161 #[.int .u8 (la.toNat : Int), .int .u16 (nu.toNat : Int)]) (by kernel_rfl) (by kernel_rfl) ⟨hc8.blk.drew, bB8.drew⟩ ?_
                              iterate 6 (refine wpOrd_q (v := ?_) (by rfl) (fun W hW => ?_) ?_; rotate_left; (focus ((obtain ⟨hW1, hW2⟩ := hW; have k2' := hW1.cell 2; have kl' := hW1.lt; have z0' := hW2.cell 0; have z1' := hW2.cell 1; have zl' := hW2.lt); go_simp; try with_reducible rfl)); try simp only [Act.put, List.setIfInBounds_toArray, List.set_cons_zero, List.set_cons_succ])
                              refine wpOrd_x (by rfl) (fun K hK => ?_)
                              go_simp
                              refine hK _ _ _ (fun _ h => h) ⟨hc8.blk.drew.alloc _, bB8.drew.alloc _⟩ ?_
                              clear hK K
                              try simp only [Act.put, List.setIfInBounds_toArray, List.set_cons_zero, List.set_cons_succ]
                              clear z0 z1 zl k2 kl
                              have hbx : Below w8.heap.size w8 (w8.alloc (.cells #[.int .u8 (la.toNat : Int), .int .u16 (nu.toNat : Int)] 161)).drew := ((Below.refl _ _).alloc (Nat.le_refl _) _).drew
                              have or := World.ownsRow.drew <| own_lit (w := w8) (base := w.heap.size) (e := 161) (size := 2) (n := 1) (cs := #[.int .u8 (la.toNat : Int), .int .u16 (nu.toNat : Int)]) rfl rfl hb8.size (by simp [maxLen]) rfl
                              have hc9 := hc8.below hbx
                              have bB9 := bB8.below hbx bB8.lt
                              have hb9 := hb8.trans (hbx.mono hb8.size)
                              clear hc8 bB8 hb8 hbx
                              generalize (w8.alloc (.cells #[.int .u8 (la.toNat : Int), .int .u16 (nu.toNat : Int)] 161)).drew = w9 at *
                              have hlen : (K.take k).length = k := by rw [List.length_take]; omega
                              have hm9 := hc9.marks
                              rw [hlen] at hm9
                              obtain ⟨i0, hi0, i1, i2, i3⟩ := info_parts info_mark
                              refine wpOrd_x (by rfl) (fun KK hKK => ?_)
                              refine wp_append_rd _ (.tmp 110) (.tmp 112) 108 (by rfl) w.heap.size 161 i0 (.agg #[.int .u8 0, .int .u16 0]) 2 4 Try.underlying108 hi0 i1 i2 i3 rfl (by decide) (.slice A2 k c2) k (mcellsOf (K.take k)) (by rfl) hm9 _ (some ⟨w8.heap.size, 0, none⟩) 1 1 (markCells (la, nu)) (by rfl) (Rd.of_own or) (by simp [markCells, Value.oneCell']) (by simp only [maxLen]; omega) (by omega) hb9.size (fun v' X' ho hg hnil hat => ?_)
                              clear i0 hi0 i1 i2 i3 hnil hat or
                              obtain ⟨A', c', rfl, _, _, _⟩ := own_form ho
                              have cB' := hc9.blk.grown hg fun e => blk_not_own hc9.blk hm9 (by decide) e.symm
                              rw [hlen] at cB'
                              refine hKK _ _ _ (fun _ h => h) ⟨by rw [hlen]; exact cB', bB9.grown hg fun e => by have := HMN.out bx (by rw [hlen]; exact e.symm); omega⟩ ?_
                              clear hKK KK
                              try simp only [Act.put, List.setIfInBounds_toArray, List.set_cons_zero, List.set_cons_succ]
                              have k2 := cB'.cell 2
                              have kf := cB'.frozen 2
                              have kl := cB'.lt
                              iterate 2 (refine wpOrd_q (v := ?_) (by rfl) (fun W hW => ?_) ?_; rotate_left; (focus (go_simp; try with_reducible rfl)); try simp only [Act.put, List.setIfInBounds_toArray, List.set_cons_zero, List.set_cons_succ])
                              refine wpOrd_b (by rfl) (fun K hK => ?_)
                              go_simp
                              refine hK (fun _ => True) _ _ trivial ?_
                              clear hK K
                              try simp only [Act.put, List.setIfInBounds_toArray, List.set_cons_zero, List.set_cons_succ]
                              refine wpOrd_nil ?_
                              refine at_world (fun W => Below w.heap.size w W ∧ ConfIn w.heap.size W c R (K.take (k + 1)) tb nb lb A1 A' A3 c1 c' c3) ⟨?_, ?_⟩ (fun w10 h10 => ?_)
                              · exact (hb9.grown hg hb9.size (fun k hk => (hm9.lt k hk).1)).setCell hc9.hc _
                              · refine ⟨?_, OK.out⟩
                                rw [List.take_add_one, HD.out.2]
                                exact hc9.mark_row hlen hg ho (by simpa using cB'.set_ 2 (.slice A' (k + 1) c')) fun g hg => Below.heap_setCell _ _ _ _ hg
                              clear k2 kf kl cB' hg ho hc9 bB9 hb9
                              go_wp2
                              go_roundg (K.length - (k + 1))
                              case measure => omega
                              case rel =>
                                refine ⟨k + 1, by omega, rfl, by go_num, A', c', h10.1, h10.2, ?_⟩
                                rw [HE4.out, List.take_add_one, HD.out.2]
                                rfl
                    · obtain rfl : k = K.length := by omega
                      obtain ⟨A2, c2, hbr, hc, hadd⟩ := hA.out
                      rw [List.drop_length, marksE] at hadd
                      rw [List.take_length] at hc
                      have HBR := hide hbr
                      have HC := hide hc
                      have HD := hide hadd
                      clear hbr hc hadd hA
                      have hkz : ¬ ((K.length : Int) < K.length) := by omega
                      go_wp2
                      go_returns
                      exact ⟨HBR.out, fun _ => ⟨c, tb, nb, lb, A1, A2, A3, c1, c2, c3, rfl, HC.out⟩, fun h => absurd (HE3.out.trans HD.out) h⟩
            · have q2 : ((r0.cats.toNat : Int) == 0) = false := by
                have : r0.cats.toNat ≠ 0 := fun e => hc0 (UInt16.toNat_inj.1 e)
                simp; omega
              have HL := hide hc0
              clear hl hc0
              simp only [UInt8.toNat_zero, Int.cast_ofNat_Int] at y1
              go_wp2
              go_returns
              refine NewSays.err HBR.out (k := 25) ?_ (by decide) rfl
              rw [E.out, HD.out, if_neg (fun h => h rfl), if_pos (by exact .inr HL.out)]
          · have q1 : ((r0.lev.toNat : Int) == 0) = false := by
              have : r0.lev.toNat ≠ 0 := fun e => hl (UInt8.toNat_inj.1 e)
              simp; omega
            have HL := hide hl
            clear hl
            go_wp2
            go_returns
            refine NewSays.err HBR.out (k := 25) ?_ (by decide) rfl
            rw [E.out, HD.out, if_neg (fun h => h rfl), if_pos (by exact .inl HL.out)]
end
end Go.Proofs.Ytoeejeieplhifaa

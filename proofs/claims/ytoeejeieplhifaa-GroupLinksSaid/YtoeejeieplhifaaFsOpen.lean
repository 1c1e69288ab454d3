/- A group is opened; a disk is begun: walked. -/
import Derived.Test.YtoeejeieplhifaaFsGrp1
import Derived.Test.YtoeejeieplhifaaConfSc
namespace Go.Proofs.Ytoeejeieplhifaa
open Go.RowKit
set_option linter.unusedSimpArgs false
set_option linter.unusedVariables false

/-- a place in natural numbers -/
def geoN (v : GeoV) : GeoN := ⟨v.base.toNat, v.bitmap.toNat, v.table.toNat, v.data.toNat, v.blocks.toNat, v.nodes.toNat⟩
theorem geoOf_nat {a : Int} {r : RegV} (ha : 0 ≤ a) (hr : okReg r) : (geoN (geoOf a r)).val = .agg (geoOf a r).cells.toArray := by
  obtain ⟨_, h1, h2, h3, h4⟩ := hr
  unfold GeoN.val GeoN.cells GeoV.cells geoN geoOf
  simp only
  congr 1
  congr 1
  have e1 : ((a.toNat : Nat) : Int) = a := by omega
  have e2 : ((((r.blocks + 511) / 512).toNat : Nat) : Int) = (r.blocks + 511) / 512 := by omega
  have e3 : ((((r.nodes * 32 + 63) / 64).toNat : Nat) : Int) = (r.nodes * 32 + 63) / 64 := by omega
  have e4 : (((a + (r.blocks + 511) / 512 + (r.nodes * 32 + 63) / 64).toNat : Nat) : Int) = a + (r.blocks + 511) / 512 + (r.nodes * 32 + 63) / 64 := by omega
  have e5 : ((r.blocks.toNat : Nat) : Int) = r.blocks := by omega
  have e6 : ((r.nodes.toNat : Nat) : Int) = r.nodes := by omega
  rw [e1, e2, e3, e4, e5, e6]
theorem tot_ge {R : List RegV} (h : ∀ r ∈ R, okReg r) : ∀ (a : Int), a ≤ totalOf a R := by
  induction R with
  | nil => intro a; exact Int.le_refl _
  | cons r R ih =>
    intro a
    have h1 := ih (fun x hx => h x (by simp [hx])) (geoOf a r).end_
    obtain ⟨_, k1, k2, k3, k4⟩ := h r (by simp)
    have h2 : a ≤ (geoOf a r).end_ := by simp only [geoOf, GeoV.end_]; omega
    rw [totalOf]
    omega
/-- the groups of a configuration lie well -/
theorem geos_ok {R : List RegV} (h : ∀ r ∈ R, okReg r) : ∀ (a : Int) (k : Nat) (v : GeoV), 32 ≤ a → totalOf a R ≤ 65536 → (geosOf a R)[k]? = some v →
    (geoN v).Ok (totalOf a R).toNat ∧ (geoN v).val = .agg v.cells.toArray ∧ ∃ r, R[k]? = some r ∧ ((geoN v).blocks : Int) = r.blocks ∧ ((geoN v).nodes : Int) = r.nodes := by
  induction R with
  | nil => intro a k v _ _ hv; simp [geosOf] at hv
  | cons r R ih =>
    intro a k v ha ht hv
    have hr := h r (by simp)
    have hge := tot_ge (fun x hx => h x (List.mem_cons_of_mem r hx)) (geoOf a r).end_
    rw [totalOf] at ht
    cases k with
    | zero =>
      simp only [geosOf, List.getElem?_cons_zero, Option.some.injEq] at hv
      subst hv
      obtain ⟨_, k1, k2, k3, k4⟩ := id hr
      refine ⟨?_, geoOf_nat (by omega) hr, r, rfl, ?_, ?_⟩
      · rw [totalOf]
        generalize totalOf (geoOf a r).end_ R = T at ht hge
        simp only [geoOf, GeoV.end_] at hge
        constructor <;> (try simp only [geoN, geoOf]) <;> omega
      · simp only [geoN, geoOf]; omega
      · simp only [geoN, geoOf]; omega
    | succ k =>
      simp only [geosOf, List.getElem?_cons_succ] at hv
      have h2 : 32 ≤ (geoOf a r).end_ := by obtain ⟨_, k1, k2, k3, k4⟩ := id hr; simp only [geoOf, GeoV.end_]; omega
      obtain ⟨i1, i2, r', i3, i4⟩ := ih (fun x hx => h x (by simp [hx])) _ k v h2 ht hv
      exact ⟨by rw [totalOf]; exact i1, i2, r', by simpa using i3, i4⟩

section
variable {B : Nat} {w w' : World} {c : Nat} {R : List RegV} {K : List MarkV} {tb nb lb : Nat} {A1 A2 A3 : Option Addr} {c1 c2 c3 : Nat}
/-- the shape of a group's opening -/
theorem gopen_yes (h : ConfIn B w c R K tb nb lb A1 A2 A3 c1 c2 c3) {tt k : Nat} {v : GeoV} (hv : (geosOf 32 R)[k]? = some v) (hn : (geoN v).val = .agg v.cells.toArray) :
    Calls Try.prog 13 #[.pointer (some ⟨tt, 0, none⟩), .pointer (some ⟨c, 0, none⟩), .int .i64 (k : Int)] w fun e w' => ∃ gg, e = .returned (.tuple #[.pointer (some ⟨gg, 0, none⟩), .int .i64 0]) ∧ w.heap.size ≤ gg ∧ GroupAt w' gg tt (geoN v) (k : Int) ∧ Below w.heap.size w w' := by
  have hgo := geo_ok h hv
  obtain ⟨u, hu⟩ : ∃ u, geoN v = u := ⟨_, rfl⟩
  have hval : (Value.agg #[.int .i64 v.base, .int .i64 v.bitmap, .int .i64 v.table, .int .i64 v.data, .int .i64 v.blocks, .int .i64 v.nodes]) = .agg u.cells.toArray := by rw [← hu]; exact hn.symm
  rw [hval] at hgo
  rw [hu]
  have HGO := hide hgo
  clear hgo hu hval hn
  go_enter Try.func13, Try.ntmps13
  go_wp2_with fail
  refine HGO.out.mono ?_
  rintro e w1 ⟨rfl, hb1⟩
  have HB := hide hb1
  clear hb1 HGO
  unfold GeoN.cells
  go_wp2
  have hgp := Blk.new (w1.alloc (.cells u.cells.toArray 112)) 118 (gpcells tt u (k : Int))
  rw [World.size_alloc] at hgp
  have hbe : Below w.heap.size w ((w1.alloc (.cells u.cells.toArray 112)).alloc (.cells (gpcells tt u (k : Int)) 118)) := (HB.out.alloc HB.out.size _).alloc (by have := HB.out.size; simp; omega) _
  go_returns
  exact ⟨w1.heap.size + 1, rfl, by have := HB.out.size; omega, hgp, hbe⟩

theorem gopen_no (h : ConfIn B w c R K tb nb lb A1 A2 A3 c1 c2 c3) {tt : Nat} {l : Int} (hl : hasB R l = false) :
    Calls Try.prog 13 #[.pointer (some ⟨tt, 0, none⟩), .pointer (some ⟨c, 0, none⟩), .int .i64 l] w fun e w' => e = .returned (.tuple #[.pointer none, .int .i64 27]) ∧ Below w.heap.size w w' := by
  have hgo := geo_no (some ⟨c, 0, none⟩) l w (fun W hW => by have := has_ok (h.below hW) l; rwa [hl] at this)
  have HGO := hide hgo
  clear hgo
  go_enter Try.func13, Try.ntmps13
  go_wp2_with fail
  refine HGO.out.mono ?_
  rintro e w1 ⟨rfl, hb1⟩
  have HB := hide hb1
  clear hb1 HGO
  go_wp2
  go_returns
  exact ⟨rfl, HB.out.alloc HB.out.size _⟩

theorem gopen_nil_txn (h : ConfIn B w c R K tb nb lb A1 A2 A3 c1 c2 c3) {l : Int} :
    Calls Try.prog 13 #[.pointer none, .pointer (some ⟨c, 0, none⟩), .int .i64 l] w fun e w' => e = .returned (.tuple #[.pointer none, .int .i64 1]) ∧ Below w.heap.size w w' := by
  have hgo : ∃ v b, Calls Try.prog 45 #[.pointer (some ⟨c, 0, none⟩), .int .i64 l] w fun e w' => e = .returned (.tuple #[.agg (GeoV.cells v).toArray, .bool b]) ∧ Below w.heap.size w w' := by
    cases hb : hasB R l with
    | false => exact ⟨⟨0, 0, 0, 0, 0, 0⟩, false, geo_no (some ⟨c, 0, none⟩) l w (fun W hW => by have := has_ok (h.below hW) l; rwa [hb] at this)⟩
    | true =>
      obtain ⟨k, r, rfl, hr, hk⟩ := hasB_nat hb
      have hv : (geosOf 32 R)[k]? = some ((geosOf 32 R)[k]'(by rw [geosOf_length]; exact hk)) := List.getElem?_eq_getElem _
      exact ⟨_, true, geo_ok h hv⟩
  obtain ⟨v, b, hgo⟩ := hgo
  unfold GeoV.cells at hgo
  have HGO := hide hgo
  clear hgo
  go_enter Try.func13, Try.ntmps13
  go_wp2_with fail
  refine HGO.out.mono ?_
  rintro e w1 ⟨rfl, hb1⟩
  have HB := hide hb1
  clear hb1 HGO
  go_wp2
  go_returns
  exact ⟨rfl, HB.out.alloc HB.out.size _⟩

theorem gopen_nil_conf (w : World) {tt : Nat} {l : Int} :
    Calls Try.prog 13 #[.pointer (some ⟨tt, 0, none⟩), .pointer none, .int .i64 l] w fun e w' => e = .returned (.tuple #[.pointer none, .int .i64 1]) ∧ Below w.heap.size w w' := by
  have hgo := geo_no none l w (fun W hW => has_nil W l)
  have HGO := hide hgo
  clear hgo
  go_enter Try.func13, Try.ntmps13
  go_wp2_with fail
  refine HGO.out.mono ?_
  rintro e w1 ⟨rfl, hb1⟩
  have HB := hide hb1
  clear hb1 HGO
  go_wp2
  go_returns
  exact ⟨rfl, HB.out.alloc HB.out.size _⟩

/-- an empty disk of so many blocks, its log formatted -/
def begD (n : Nat) : List BlkV := (List.replicate n zeroB).set 1 (headB [])
theorem begun_ok (h : ConfIn B w c R K tb nb lb A1 A2 A3 c1 c2 c3) {n : Nat} (hn : totalOf 32 R = (n : Int)) (h1 : 32 ≤ n) (h2 : n ≤ 65536) :
    Calls Try.prog 25 #[.pointer (some ⟨c, 0, none⟩)] w fun e w' => ∃ i : Ids, e = .returned (.tuple #[.pointer (some ⟨i.dd, 0, none⟩), .pointer (some ⟨i.ll, 0, none⟩), .pointer (some ⟨i.tt, 0, none⟩)]) ∧ TxAt w' i ⟨begD n, [], 0⟩ ∧ (∀ k, i.own k → w.heap.size ≤ k) ∧ w.heap.size ≤ i.ll ∧ Below w.heap.size w w' := by
  have htot := total_ok h
  rw [hn] at htot
  have HT := hide htot
  have HN := hide (And.intro h1 h2)
  clear htot hn h1 h2
  go_enter Try.func25, Try.ntmps25
  go_wp2_with fail
  refine HT.out.mono ?_
  rintro e w1 ⟨rfl, hw1⟩
  have hw1 := hw1.symm
  subst hw1
  go_wp2_with fail
  refine (disk_new w HN.out.2).mono ?_
  rintro e w2 ⟨dd, rr, rfl, hdd, hrr, hD, hb2⟩
  have HD := hide (And.intro hD (And.intro hb2 (And.intro hdd hrr)))
  clear hD hb2 hdd hrr
  have hl32 : 32 ≤ (List.replicate n zeroB).length := by rw [List.length_replicate]; exact HN.out.1
  have HL := hide hl32
  clear hl32
  go_wp2_with fail
  refine (open_ok HD.out.1 HL.out).mono ?_
  rintro e w3 ⟨ll, rfl, hll, hL, hb3⟩
  have HL3 := hide (And.intro hL (And.intro hb3 hll))
  clear hL hb3 hll
  go_wp2_with fail
  refine (format_ok HL3.out.1 HL.out).mono ?_
  rintro e w4 ⟨rfl, hL4, ht4⟩
  have HL4 := hide (And.intro hL4 ht4)
  clear hL4 ht4
  go_wp2_with fail
  refine (begin_ok HL4.out.1 (by rw [List.length_set]; exact HL.out)).mono ?_
  rintro e w5 ⟨tt, mm, rfl, htt, hmm, hx, hb5⟩
  have s3 := HL3.out.2.1.size
  have s2 := HD.out.2.1.size
  have s4 := HL4.out.2.size
  have hb23 : Below w.heap.size w w3 := HD.out.2.1.trans (HL3.out.2.1.mono s2)
  have hb4 : Below w.heap.size w w4 := hb23.trans ((HL4.out.2.mono (by omega) (S' := fun _ => False) (fun k hk h => by have := HD.out.2.2; omega)).below fun _ _ h => h)
  have hb5' : Below w.heap.size w w5 := hb4.trans (hb5.mono hb4.size)
  have HF := hide (And.intro hx (And.intro hb5' (And.intro (show (∀ k, Ids.own ⟨tt, mm, ll, dd, rr⟩ k → w.heap.size ≤ k) from by
    have := HD.out.2.2
    rintro k (e | e | e | e) <;> simp only at e <;> omega) (show w.heap.size ≤ ll from by have := HL3.out.2.2; omega))))
  clear htt hmm hx hb5 s3 s2 s4 hb23 hb4 hb5' HL4 HL3 HD
  go_wp2
  go_returns
  exact ⟨⟨tt, mm, ll, dd, rr⟩, rfl, HF.out.1, HF.out.2.2.1, HF.out.2.2.2, HF.out.2.1⟩
end
end Go.Proofs.Ytoeejeieplhifaa

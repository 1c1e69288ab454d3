/- ConfParses: the walk of the law. -/
import Derived.Test.YtniboffmdkeacaaDoorConfAw
import Derived.Test.YtniboffmdkeacaaDoorConfSame
import Derived.Test.YtniboffmdkeacaaDoorConfRead
import Derived.Test.YtniboffmdkeacaaDoorConfMakes
namespace Go.Proofs.YtniboffmdkeacaaDoor
open Go.RowKit Go.WideMaps
set_option linter.unusedSimpArgs false
set_option linter.unusedVariables false

def Asc (b : ByteArray) : Prop := ∀ (j : Nat) x, b.data.toList[j]? = some x → x.toNat < 128
theorem asc_append {a b : ByteArray} (ha : Asc a) (hb : Asc b) : Asc (a ++ b) := fun j x hx => by
  have e : (a ++ b).data.toList = a.data.toList ++ b.data.toList := by simp
  rw [e, List.getElem?_append] at hx
  split at hx
  · exact ha _ _ hx
  · exact hb _ _ hx
theorem asc_nl : Asc ⟨#[10]⟩ := fun j x hx => by
  have := List.mem_of_getElem? hx
  simp at this
  subst this
  decide
def okStrB (v : Value) : Bool := match v with | .string b => decide (b.size ≤ 200) && b.data.toList.all (fun x => decide (x.toNat < 128)) | _ => false
def someB (cs : Array Value) : Bool := decide (cs.size = 14) && cs.toList.all okStrB
theorem some_at {cs : Array Value} (h : someB cs = true) {k : Nat} (hk : k < 14) : ∃ b : ByteArray, cs[k]? = some (.string b) ∧ b.size ≤ 200 ∧ Asc b := by
  simp only [someB, Bool.and_eq_true, decide_eq_true_eq] at h
  have hlt : k < cs.size := by omega
  have hm := List.all_eq_true.1 h.2 cs[k] (by simp)
  have he : cs[k]? = some cs[k] := Array.getElem?_eq_getElem hlt
  generalize cs[k] = v at hm he
  cases v with
  | string b =>
    simp only [okStrB, Bool.and_eq_true, decide_eq_true_eq] at hm
    exact ⟨b, he, hm.1, fun j x hx => by simpa using List.all_eq_true.1 hm.2 x (List.mem_of_getElem? hx)⟩
  | _ => simp [okStrB] at hm
theorem lineP_err {st : PSt} {n : Nat} {ws : List (List UInt8)} {e : Int} (h : lineP st n ws = (none, e)) : e ≠ 0 := by
  unfold lineP at h
  split at h
  · cases h
  · split at h
    · split at h
      · rename_i h2
        injection h with _ h4
        subst h4
        rcases regP_err h2 with h | h <;> omega
      · cases h
    · split at h
      · cases h
      · injection h with _ h4
        omega
theorem linesP_err : ∀ {L : List (List UInt8)} {st : PSt} {i n : Nat} {e : Int}, linesP st i L = (none, n, e) → e ≠ 0
  | [], _, _, _, _, h => by cases h
  | l :: rest, st, i, n, e, h => by
    rw [linesP] at h
    split at h
    · rename_i h2
      injection h with _ h4
      injection h4 with _ h5
      subst h5
      exact lineP_err h2
    · exact linesP_err h
theorem marksP_err {R : List RegV} : ∀ {T : List (List UInt8 × List UInt8)} {N : List Nat} {K : List MarkV} {n : Nat} {e : Int}, marksP R K T N = (none, n, e) → e ≠ 0
  | [], _, _, _, _, h => by simp [marksP] at h
  | _ :: _, [], _, _, _, h => by simp [marksP] at h
  | t :: ts, m :: ns, K, n, e, h => by
    rw [marksP] at h
    split at h
    · injection h with _ h4
      injection h4 with _ h5
      omega
    · split at h
      · injection h with _ h4
        injection h4 with _ h5
        omega
      · exact marksP_err h
theorem parseP_err {s : ByteArray} {n : Nat} {e : Int} (h : parseP s = (none, n, e)) : e ≠ 0 := by
  unfold parseP at h
  split at h
  · injection h with _ h4
    injection h4 with _ h5
    omega
  · split at h
    · rename_i h2
      injection h with _ h4
      injection h4 with h6 h5
      subst h5
      exact linesP_err h2
    · split at h
      · injection h with _ h4
        injection h4 with _ h5
        omega
      · split at h
        · rename_i h2
          injection h with _ h4
          injection h4 with h6 h5
          subst h5
          exact marksP_err h2
        · cases h
set_option maxRecDepth 100000 in
theorem ascii_ok (s : ByteArray) (w : World) (hs : s.size ≤ 500) : Calls Tryd.prog 18 #[.string s] w fun e w' => ∃ b, e = .returned (.bool b) ∧ (b = true → Asc s) ∧ Below w.heap.size w w' := by
  have B0 := hide (Below.refl w.heap.size w)
  go_enter Tryd.func18, Tryd.ntmps18
  go_wp2_with fail
  go_loopg [6] s.size (fun g x6 wr => wr = w ∧ ∃ k : Nat, k ≤ s.size ∧ g = s.size - k ∧ x6 = .int .i64 (k : Int) ∧ Hid (∀ j, j < k → ∀ x, s.data.toList[j]? = some x → x.toNat < 128))
  case atStart => exact ⟨rfl, 0, Nat.zero_le _, rfl, rfl, hide fun j hj => absurd hj (Nat.not_lt_zero _)⟩
  case round =>
    obtain ⟨rfl, k, hk, hg, rfl, hA⟩ := hrel
    rcases Nat.lt_or_ge k s.size with hks | hks
    · have hkz : (k : Int) < s.size := by omega
      have hb := hide (get_byte s k hks)
      by_cases h7 : 127 < s[k].toNat
      · have t1 : decide ((127 : Int) < ((s[k].toNat : Nat) : Int)) = true := by simp; omega
        go_wp2
        go_returns
        exact ⟨false, rfl, (fun h => (by cases h)), B0.out⟩
      · have t1 : decide ((127 : Int) < ((s[k].toNat : Nat) : Int)) = false := by simp; omega
        have HH := hide h7
        go_wp2
        go_roundg (s.size - (k + 1))
        case measure => omega
        case rel =>
          refine ⟨rfl, k + 1, by omega, rfl, by go_num, hide fun j hj x hx => ?_⟩
          rcases Nat.lt_succ_iff_lt_or_eq.1 hj with h | rfl
          · exact hA.out j h x hx
          · rw [hb.out] at hx
            injection hx with hx
            subst hx
            have := HH.out
            omega
    · obtain rfl : k = s.size := by omega
      have HA := hide (show Asc s from fun j x hx => hA.out j (by have := (List.getElem?_eq_some_iff.1 hx).1; rw [sz]; exact this) x hx)
      go_wp2
      go_returns
      exact ⟨true, rfl, fun _ => HA.out, B0.out⟩
theorem texts3 {s tx b : ByteArray} (hs : Asc s) (ht : Asc tx) (hb : Asc b) (h1 : s.size ≤ 7000) (h2 : tx.size ≤ 7000) (h3 : b.size + 1 + s.size ≤ 7000) :
    ∀ k, k < 3 → ∃ t : ByteArray, (#[.string s, .string tx, .string (b ++ ⟨#[10]⟩ ++ s)] : Array Value)[k]? = some (.string t) ∧ t.size ≤ 7000 ∧ Asc t
  | 0, _ => ⟨s, rfl, h1, hs⟩
  | 1, _ => ⟨tx, rfl, h2, ht⟩
  | 2, _ => ⟨_, rfl, by rw [ByteArray.size_append, ByteArray.size_append]; exact h3, asc_append (asc_append hb asc_nl) hs⟩
  | k + 3, h => absurd h (by omega)
theorem lineP_few {st st' : PSt} {n : Nat} {ws : List (List UInt8)} {e : Int} (h : lineP st n ws = (some st', e)) : st'.trust.length ≤ st.trust.length + 1 := by
  unfold lineP at h
  split at h
  · injection h with h _; injection h with h; subst h; omega
  · split at h
    · split at h
      · cases h
      · injection h with h _; injection h with h; subst h; show st.trust.length ≤ _; omega
    · split at h
      · injection h with h _; injection h with h; subst h; simp
      · cases h
theorem linesP_few : ∀ {L : List (List UInt8)} {st st' : PSt} {i : Nat} {x : Nat × Int}, linesP st i L = (some st', x) → st'.trust.length ≤ st.trust.length + L.length
  | [], st, st', _, _, h => by
    simp only [linesP] at h
    injection h with h _; injection h with h; subst h; simp
  | l :: rest, st, st', i, x, h => by
    rw [linesP] at h
    split at h
    · cases h
    · rename_i h2
      have h3 := lineP_few h2
      have h4 := linesP_few h
      simp only [List.length_cons]
      omega
theorem marksP_few {R : List RegV} : ∀ {T : List (List UInt8 × List UInt8)} {N : List Nat} {K K' : List MarkV} {x : Nat × Int}, marksP R K T N = (some K', x) → K'.length ≤ K.length + T.length
  | [], _, K, K', _, h => by
    simp only [marksP] at h
    injection h with h _; injection h with h; subst h; simp
  | _ :: _, [], K, K', _, h => by
    simp only [marksP] at h
    injection h with h _; injection h with h; subst h; simp
  | t :: ts, m :: ns, K, K', x, h => by
    rw [marksP] at h
    split at h
    · cases h
    · split at h
      · cases h
      · have h5 := marksP_few h
        rw [List.length_append] at h5
        simp only [List.length_cons, List.length_nil] at h5 ⊢
        omega
theorem parseP_few {s : ByteArray} {R : List RegV} {K : List MarkV} {x : Nat × Int} (h : parseP s = (some (R, K), x)) (hs : s.size ≤ 59000) : K.length ≤ 60000 := by
  unfold parseP at h
  split at h
  · cases h
  · split at h
    · cases h
    · rename_i h2
      split at h
      · cases h
      · split at h
        · cases h
        · rename_i h4
          injection h with h5 _
          injection h5 with h5
          injection h5 with h6 h7
          subst h7
          have a := linesP_few h2
          have b := marksP_few h4
          have c := linesOf_few s
          simp only [List.length_nil, Nat.zero_add] at a b
          exact Nat.le_trans b (Nat.le_trans a (Nat.le_trans c (by omega)))
section
variable {s : ByteArray} {A : Option Addr} {n c : Nat} {T : List UInt8} {w : World}
set_option maxRecDepth 100000 in
set_option maxHeartbeats 4000000 in
theorem parses_all (hL : Lw w) (hT : Rd w w.heap.size 1 A n (bvs T)) (hnm : n ≤ 9223372036854775807) :
    Calls Tryd.prog 5 #[.string s, .slice A n c] w fun e w' => e = .returned (.bool true) ∧ Below w.heap.size w w' := by
  go_enter Tryd.func5, Tryd.ntmps5
  go_wp2_with fail
  refine (awake2_ok w hL).mono ?_
  rintro e w2 ⟨rfl, hb2⟩
  have HB2 := hide hb2
  clear hb2
  by_cases hbig : 500 < s.size
  · have t1 : decide ((500 : Int) < s.size) = true := by simp; omega
    go_wp2
    go_returns
    exact ⟨rfl, HB2.out⟩
  have t1 : decide ((500 : Int) < s.size) = false := by simp; omega
  go_wp2_with fail
  refine (ascii_ok s _ (by omega)).mono ?_
  rintro e w3 ⟨ba, rfl, hasc, hb3⟩
  have HB3 := hide (HB2.out.trans (hb3.mono HB2.out.size))
  clear hb3
  cases ba with
  | false =>
    go_wp2
    go_returns
    exact ⟨rfl, HB3.out⟩
  | true =>
    have HS := hide (hasc rfl)
    clear hasc t1
    go_wp2_with fail
    refine at_world (fun W => ∃ gs, gs = w3.heap.size ∧ Below w3.heap.size w3 W ∧ ∃ cs, Blk W gs 9 cs ∧ someB cs = true) ⟨_, rfl, (Below.refl _ _).alloc (Nat.le_refl _) _, _, Blk.new _ _ _, by kernel_rfl⟩ (fun w4 h4 => ?_)
    obtain ⟨gs, egs, hb4, cs, kcs, hcs⟩ := h4
    rw [← egs]
    have HB4 := hide (HB3.out.trans (hb4.mono HB3.out.size))
    have KS := hide kcs
    have HCS := hide hcs
    clear egs hb4 kcs hcs
    go_loopg [6, 32] n (fun g x6 x32 wr => ∃ (i : Nat) (tx : ByteArray), i ≤ n ∧ g = n - i ∧ x6 = .string tx ∧ x32 = .int .i64 (i : Int) ∧ tx.size ≤ 501 * min i 12 ∧ wr = w4 ∧ Hid (Asc tx))
    case atStart => exact ⟨0, ⟨#[]⟩, Nat.zero_le _, rfl, rfl, rfl, Nat.zero_le _, rfl, hide (fun j x hx => (by simp at hx))⟩
    case round =>
      obtain ⟨i, tx, hi, hg, rfl, rfl, htx, rfl, hat⟩ := hrel
      rcases Nat.lt_or_ge i n with hin | hin
      · have hiz : (i : Int) < n := by omega
        obtain ⟨bt, ot, hA, hbt, hcell⟩ := (hT.below HB4.out).byte hin
        have hbt2 := Nat.lt_of_lt_of_le hbt HB4.out.size
        have jx := hcell i hin
        subst hA
        generalize T.getD i 0 = x at jx
        have hx256 := x.toNat_lt
        clear hcell
        have HW := hide (And.intro (show IntKind.i64.wrap (x.toNat : Int) = x.toNat from IntWalk.i64_in _ (by omega)) (show wrap64 (x.toNat : Int) = x.toNat from IntWalk.wrap64_in _ (by omega)))
        by_cases hi12 : i < 12
        · have q12 : decide ((i : Int) < 12) = true := by simp; omega
          have htx2 : tx.size ≤ 6012 := by omega
          by_cases hx14 : x.toNat < 14
          · have qx : decide ((x.toNat : Int) < 14) = true := by simp; omega
            have hx14z : (x.toNat : Int) < 14 := by omega
            obtain ⟨b, hbc, hb2, hba⟩ := some_at HCS.out hx14
            have zb := (KS.out.cell _).trans hbc
            have zl := KS.out.lt
            have HBA := hide hba
            have g1 : ¬ 9223372036854775807 < b.size + 1 := by omega
            have g2 : ¬ 9223372036854775807 < tx.size + (b.size + 1) := by omega
            have HSZ := hide (show (tx ++ (b ++ ⟨#[10]⟩)).size ≤ 501 * min (i + 1) 12 by rw [ByteArray.size_append, ByteArray.size_append]; show tx.size + (b.size + 1) ≤ _; omega)
            clear hbc hba
            obtain ⟨w1, w2'⟩ := HW.out
            go_wp2
            clear w1 w2'
            go_roundg (n - (i + 1))
            case measure => omega
            case rel => exact ⟨i + 1, tx ++ (b ++ ⟨#[10]⟩), by omega, rfl, rfl, by go_num, HSZ.out, rfl, hide (asc_append hat.out (asc_append HBA.out asc_nl))⟩
          · have qx : decide ((x.toNat : Int) < 14) = false := by simp; omega
            by_cases hx40 : x.toNat < 40
            · have qy : decide ((x.toNat : Int) < 40) = true := by simp; omega
              obtain ⟨y, hy⟩ : ∃ y, y = x.toNat % 4 := ⟨_, rfl⟩
              have hy14 : y < 14 := by omega
              have hyz : (y : Int) < 14 := by omega
              have e1 : (x.toNat : Int).tmod 4 = (y : Int) := by rw [IntWalk.rem_in _ _ (by omega)]; omega
              have e2 : (x.toNat : Int) % 4 = (y : Int) := by omega
              clear hy
              obtain ⟨b, hbc, hb2, hba⟩ := some_at HCS.out hy14
              have zb := (KS.out.cell _).trans hbc
              have zl := KS.out.lt
              have HBA := hide hba
              have g1 : ¬ 9223372036854775807 < b.size + 1 := by omega
              have g2 : ¬ 9223372036854775807 < tx.size + (b.size + 1) := by omega
              have HSZ := hide (show (tx ++ (b ++ ⟨#[10]⟩)).size ≤ 501 * min (i + 1) 12 by rw [ByteArray.size_append, ByteArray.size_append]; show tx.size + (b.size + 1) ≤ _; omega)
              clear hbc hba
              obtain ⟨w1, w2'⟩ := HW.out
              go_wp2
              clear w1 w2'
              go_roundg (n - (i + 1))
              case measure => omega
              case rel => exact ⟨i + 1, tx ++ (b ++ ⟨#[10]⟩), by omega, rfl, rfl, by go_num, HSZ.out, rfl, hide (asc_append hat.out (asc_append HBA.out asc_nl))⟩
            · have qy : decide ((x.toNat : Int) < 40) = false := by simp; omega
              have g2 : ¬ 9223372036854775807 < tx.size + s.size := by omega
              have HSZ := hide (show (tx ++ s).size ≤ 501 * min (i + 1) 12 by rw [ByteArray.size_append]; omega)
              obtain ⟨w1, w2'⟩ := HW.out
              go_wp2
              clear w1 w2'
              go_roundg (n - (i + 1))
              case measure => omega
              case rel => exact ⟨i + 1, tx ++ s, by omega, rfl, rfl, by go_num, HSZ.out, rfl, hide (asc_append hat.out HS.out)⟩
        · have q12 : decide ((i : Int) < 12) = false := by simp; omega
          obtain ⟨w1, w2'⟩ := HW.out
          go_wp2
          clear w1 w2'
          go_roundg (n - (i + 1))
          case measure => omega
          case rel => exact ⟨i + 1, tx, by omega, rfl, rfl, by go_num, by omega, rfl, hat⟩
      · obtain rfl : i = n := by omega
        obtain ⟨b, hbc, hb2, hba⟩ := some_at HCS.out (k := 0) (by omega)
        have zb := (KS.out.cell _).trans hbc
        have zl := KS.out.lt
        have HBA := hide hba
        have g1 : ¬ 9223372036854775807 < b.size + 1 := by omega
        have g2 : ¬ 9223372036854775807 < b.size + 1 + s.size := by omega
        clear hbc hba
        go_wp2_with fail
        have htx7 : tx.size ≤ 7000 := by omega
        have HT3 := hide (texts3 (s := s) (tx := tx) (b := b) HS.out hat.out HBA.out (by omega) htx7 (by omega))
        refine at_world (fun W => ∃ g3, g3 = wr.heap.size ∧ Below wr.heap.size wr W ∧ Blk W g3 9 #[.string s, .string tx, .string (b ++ ⟨#[10]⟩ ++ s)]) ⟨_, rfl, (Below.refl _ _).alloc (Nat.le_refl _) _, Blk.new _ _ _⟩ (fun w5 h5 => ?_)
        obtain ⟨g3, eg3, hb5, k3⟩ := h5
        rw [← eg3]
        have HB5 := hide (HB4.out.trans (hb5.mono HB4.out.size))
        have K3 := hide k3
        have HL5 := hide (hL.below' HB5.out)
        clear eg3 hb5 k3 zb zl g1 g2 hb2
        go_loopg [76] 3 (fun g x76 wr => ∃ k : Nat, k ≤ 3 ∧ g = 3 - k ∧ x76 = .int .i64 (k : Int) ∧ Below w5.heap.size w5 wr)
        case atStart => exact ⟨0, by omega, rfl, rfl, Below.refl _ _⟩
        case round =>
          obtain ⟨k, hk, hg, rfl, hbr⟩ := hrel
          rcases Nat.lt_or_ge k 3 with hk3 | hk3
          · have hkz : (k : Int) < 3 := by omega
            obtain ⟨t, hcell, ht7, hta⟩ := HT3.out k hk3
            have kr := K3.out.below hbr K3.out.lt
            have zk := (kr.cell k).trans hcell
            have zl := kr.lt
            have BR := hide hbr
            by_cases h3000 : 3000 < t.size
            · have t1 : decide ((3000 : Int) < t.size) = true := by simp; omega
              clear hbr kr hcell hta
              go_wp2
              go_roundg (3 - (k + 1))
              case measure => omega
              case rel => exact ⟨k + 1, by omega, rfl, by go_num, BR.out⟩
            have t1 : decide ((3000 : Int) < t.size) = false := by simp; omega
            have hpar := hide (parse_ok t wr (by omega) hta (HL5.out.below' hbr))
            have HTA := hide hta
            have H3000 := hide h3000
            clear hbr kr hcell hta h3000
            go_wp2_with fail
            refine hpar.out.mono ?_
            rintro e w6 ⟨hb6, hp⟩
            have HB6 := hide (BR.out.trans (hb6.mono BR.out.size))
            have hread := hide (read_ok t w6 (by have := H3000.out; omega) HTA.out)
            clear zk zl t1 hb6 hpar
            cases hpp : parseP t with
            | mk RK ne =>
              obtain ⟨ln, er⟩ := ne
              rw [hpp] at hp
              have HPP := hide hpp
              clear hpp
              cases RK with
              | none =>
                simp only at hp
                subst hp
                have her := parseP_err HPP.out
                have te : (er == 0) = false := beq_eq_false_iff_ne.2 her
                go_wp2_with fail
                refine hread.out.mono ?_
                rintro e w7 ⟨hb7, hp7⟩
                rw [HPP.out] at hp7
                simp only at hp7
                subst hp7
                have HB7 := hide (HB6.out.trans (hb7.mono HB6.out.size))
                clear hb7 hread
                go_wp2
                go_roundg (3 - (k + 1))
                case measure => omega
                case rel => exact ⟨k + 1, by omega, rfl, by go_num, HB7.out⟩
              | some RK =>
                obtain ⟨R, K⟩ := RK
                obtain ⟨h0, h1⟩ := hp
                by_cases hz : newE R K = 0
                · obtain ⟨cc, tb, nb, lb, C1, C2, C3, f1, f2, f3, rfl, hin⟩ := h0 hz
                  have hlen := new_zero hz
                  have HIN := hide hin
                  have HZ := hide hz
                  clear h0 h1 hz hin
                  go_wp2_with fail
                  refine hread.out.mono ?_
                  rintro e w7 ⟨hb7, hp7⟩
                  rw [HPP.out] at hp7
                  obtain ⟨D1, D2, d1, d2, rfl, hr1, hm1⟩ := hp7
                  rw [HZ.out]
                  have HB7 := hide (HB6.out.trans (hb7.mono HB6.out.size))
                  have hKn : K.length ≤ 60000 := parseP_few HPP.out (by have := H3000.out; omega)
                  have hsame := hide (same_ok (cA := d1) (cA' := d2) (HIN.out.below hb7) hr1 hm1 hlen.1 hKn hlen.2)
                  clear hb7 hread hr1 hm1 hlen
                  go_wp2_with fail
                  refine hsame.out.mono ?_
                  rintro e w10 ⟨rfl, hb10⟩
                  have HB10 := hide (HB7.out.trans (hb10.mono HB7.out.size))
                  clear hb10 hsame
                  go_wp2
                  go_roundg (3 - (k + 1))
                  case measure => omega
                  case rel => exact ⟨k + 1, by omega, rfl, by go_num, HB10.out⟩
                · have he := h1 hz
                  subst he
                  clear h0 h1
                  generalize hev : newE R K = ev at *
                  have HEV := hide hev
                  have hz1 : (ev == 0) = false := beq_eq_false_iff_ne.2 hz
                  clear hev
                  go_wp2_with fail
                  refine hread.out.mono ?_
                  rintro e w7 ⟨hb7, hp7⟩
                  rw [HPP.out] at hp7
                  obtain ⟨D1, D2, d1, d2, rfl, hr1, hm1⟩ := hp7
                  rw [HEV.out]
                  have HB7 := hide (HB6.out.trans (hb7.mono HB6.out.size))
                  clear hb7 hread hr1 hm1
                  go_wp2
                  go_roundg (3 - (k + 1))
                  case measure => omega
                  case rel => exact ⟨k + 1, by omega, rfl, by go_num, HB7.out⟩
          · obtain rfl : k = 3 := by omega
            have BR := hide (HB5.out.trans (hbr.mono HB5.out.size))
            clear hbr
            go_wp2
            go_returns
            exact ⟨rfl, BR.out⟩
end
end Go.Proofs.YtniboffmdkeacaaDoor

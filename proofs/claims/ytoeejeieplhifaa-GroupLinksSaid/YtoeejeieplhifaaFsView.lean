/- A group as it is meant: which blocks are taken, their bytes, nodes. Plain: what the calls come to. -/
import Derived.Test.YtoeejeieplhifaaFsGrp4
import Derived.Test.YtoeejeieplhifaaFsCom3
namespace Go.Proofs.Ytoeejeieplhifaa
open Go.RowKit
set_option linter.unusedSimpArgs false
set_option linter.unusedVariables false

theorem wpList_take {P : Program} {ops : Array Oper} {Q : Exit → Act → World → Prop} {a : Act} {w : World} {rest : List Oper} {d : Option Tmp} {op : Op} {k : TypeId} {p : String} {f : Array Edge} {j : Nat} {b : Bool}
    (hw : yielded ops a.tmps j = some b) (h : wpList P ops Q (⟨d, op, k, p, f, none⟩ :: rest) a w) : wpList P ops Q (⟨d, op, k, p, f, some (j, b)⟩ :: rest) a w := by
  unfold wpList at h ⊢
  have h1 : Region.wanted ⟨d, op, k, p, f, some (j, b)⟩ (yielded ops a.tmps) = true := by simp [Region.wanted, hw]
  rw [if_pos h1]
  have h2 : Region.wanted ⟨d, op, k, p, f, none⟩ (yielded ops a.tmps) = true := rfl
  rw [if_pos h2] at h
  exact h

def upd {α : Type} (f : Nat → α) (k : Nat) (v : α) : Nat → α := fun j => if j = k then v else f j
theorem upd_same {α : Type} (f : Nat → α) (k : Nat) (v : α) : upd f k v k = v := by simp [upd]
theorem upd_other {α : Type} (f : Nat → α) {k j : Nat} (v : α) (h : j ≠ k) : upd f k v j = f j := by simp [upd, h]
/-- a group: which blocks are taken, their bytes, its nodes -/
structure GS where
  tk : Nat → Bool
  by_ : Nat → BlkV
  nd : Nat → NodeV
structure GS.Ok (G : GS) : Prop where
  dir : ∀ num, (G.nd num).dir.length = 6
  chk : ∀ num, checkN (G.nd num) = true
  len : ∀ k, (G.by_ k).length = 64
/-- a group lies in a transaction's blocks -/
structure Sto.Is (s : Sto) (g : GeoN) (G : GS) : Prop where
  bit : ∀ k, k < g.blocks → s.bit g.base k = G.tk k
  byt : ∀ k, k < g.blocks → s.at_ (g.data + k) = G.by_ k
  nod : ∀ num, 1 ≤ num → num ≤ g.nodes → s.nodeX g num = encN (G.nd num)
namespace GS
def none : GS := ⟨fun _ => false, fun _ => zeroB, fun _ => NodeV.zero⟩
def take (G : GS) (k : Nat) : GS := ⟨upd G.tk k true, upd G.by_ k zeroB, G.nd⟩
def give (G : GS) (k : Nat) : GS := ⟨upd G.tk k false, G.by_, G.nd⟩
def put (G : GS) (k : Nat) (b : BlkV) : GS := ⟨G.tk, upd G.by_ k b, G.nd⟩
def set (G : GS) (num : Nat) (n : NodeV) : GS := ⟨G.tk, G.by_, upd G.nd num n⟩
theorem none_ok : none.Ok := ⟨fun _ => rfl, fun _ => rfl, fun _ => zeroB_length⟩
theorem Ok.take {G : GS} (h : G.Ok) (k : Nat) : (G.take k).Ok := ⟨h.dir, h.chk, fun j => by simp only [GS.take, upd]; split; exact zeroB_length; exact h.len j⟩
theorem Ok.give {G : GS} (h : G.Ok) (k : Nat) : (G.give k).Ok := ⟨h.dir, h.chk, h.len⟩
theorem Ok.put {G : GS} (h : G.Ok) (k : Nat) {b : BlkV} (hb : b.length = 64) : (G.put k b).Ok := ⟨h.dir, h.chk, fun j => by simp only [GS.put, upd]; split; exact hb; exact h.len j⟩
theorem Ok.set {G : GS} (h : G.Ok) (num : Nat) {n : NodeV} (hd : n.dir.length = 6) (hc : checkN n = true) : (G.set num n).Ok :=
  ⟨fun j => by simp only [GS.set, upd]; split; exact hd; exact h.dir j, fun j => by simp only [GS.set, upd]; split; exact hc; exact h.chk j, h.len⟩
/-- the first block that isn't taken -/
def free (G : GS) (m : Nat) : Option Nat := (List.range m).find? fun k => !G.tk k
def cnt (G : GS) (m : Nat) : Nat := ((List.range m).filter G.tk).length
def freeFrom (G : GS) : Nat → Nat → Option Nat
  | _, 0 => Option.none
  | num, m + 1 => if (G.nd num).kind = 0 then some num else G.freeFrom (num + 1) m
/-- the first free node -/
def freeN (G : GS) (m : Nat) : Option Nat := G.freeFrom 1 m
/-- how many nodes are there -/
def ncnt (G : GS) (m : Nat) : Nat := ((List.range m).filter fun k => decide ((G.nd (k + 1)).kind ≠ 0)).length
end GS
theorem find_congr {α : Type} {p q : α → Bool} : ∀ {l : List α}, (∀ x ∈ l, p x = q x) → l.find? p = l.find? q
  | [], _ => rfl
  | a :: r, h => by
    simp only [List.find?_cons, h a (by simp), find_congr (l := r) fun x hx => h x (by simp [hx])]
/-- only these blocks are to be written -/
def Sto.In (s : Sto) (L : List Nat) : Prop := ∀ x ∈ s.M, x.1 ∈ L
theorem nodup_le : ∀ {l L : List Nat}, l.Nodup → (∀ x ∈ l, x ∈ L) → l.length ≤ L.length
  | [], _, _, _ => Nat.zero_le _
  | a :: r, L, hn, h => by
    rw [List.nodup_cons] at hn
    have ha : a ∈ L := h a (by simp)
    have := nodup_le (l := r) (L := L.erase a) hn.2 (fun x hx => (List.mem_erase_of_ne (by rintro rfl; exact hn.1 hx)).2 (h x (by simp [hx])))
    rw [List.length_erase_of_mem ha] at this
    have : 0 < L.length := List.length_pos_of_mem ha
    simp only [List.length_cons]
    omega
theorem Sto.In.len {s : Sto} {L : List Nat} (h : s.In L) (hk : s.Ok) : s.M.length ≤ L.length := by
  have := nodup_le hk.nodup (L := L) (fun x hx => by obtain ⟨y, hy, rfl⟩ := List.mem_map.1 hx; exact h y hy)
  rwa [List.length_map] at this
/-- what a call in a group leaves: the disk, the fault, what is outside; which blocks are to be written now -/
structure Sto.Step (s s' : Sto) (g : GeoN) (L : List Nat) : Prop where
  D : s'.D = s.D
  bad : s'.bad = s.bad
  far : ∀ n, (n < g.base ∨ g.data + g.blocks ≤ n) → s'.at_ n = s.at_ n
  key : ∀ x ∈ s'.M, (∃ y ∈ s.M, y.1 = x.1) ∨ x.1 ∈ L
theorem Sto.Step.refl (s : Sto) (g : GeoN) (L : List Nat) : s.Step s g L := ⟨rfl, rfl, fun _ _ => rfl, fun x hx => .inl ⟨x, hx, rfl⟩⟩
theorem Sto.Step.trans {s1 s2 s3 : Sto} {g : GeoN} {L L' : List Nat} (h : s1.Step s2 g L) (h' : s2.Step s3 g L') : s1.Step s3 g (L ++ L') :=
  ⟨h'.D.trans h.D, h'.bad.trans h.bad, fun n hn => (h'.far n hn).trans (h.far n hn), fun x hx => by
    rcases h'.key x hx with ⟨y, hy, e⟩ | hx
    · rcases h.key y hy with ⟨z, hz, e'⟩ | hy
      · exact .inl ⟨z, hz, e'.trans e⟩
      · exact .inr (by rw [← e]; simp [hy])
    · exact .inr (by simp [hx])⟩
theorem Sto.Step.mono {s1 s2 : Sto} {g : GeoN} {L L' : List Nat} (h : s1.Step s2 g L) (hL : ∀ x ∈ L, x ∈ L') : s1.Step s2 g L' :=
  ⟨h.D, h.bad, h.far, fun x hx => (h.key x hx).imp id (hL _)⟩
theorem Sto.Step.in_ {s1 s2 : Sto} {g : GeoN} {L K : List Nat} (h : s1.Step s2 g L) (hK : s1.In K) : s2.In (K ++ L) := fun x hx => by
  rcases h.key x hx with ⟨y, hy, e⟩ | hx
  · rw [← e]; exact List.mem_append_left _ (hK y hy)
  · exact List.mem_append_right _ hx
theorem Sto.In.mono {s : Sto} {L L' : List Nat} (h : s.In L) (hL : ∀ x ∈ L, x ∈ L') : s.In L' := fun x hx => hL _ (h x hx)

section
variable {s s' : Sto} {f k j n num : Nat} {b : BlkV} {on : Bool} {g u : GeoN} {G : GS}
theorem nodeX_of (h : s'.at_ (g.base + g.bitmap + (num - 1) / 2) = s.at_ (g.base + g.bitmap + (num - 1) / 2)) : s'.nodeX g num = s.nodeX g num := by
  unfold Sto.nodeX; rw [h]
theorem bit_of (h : s'.at_ (f + k / 512) = s.at_ (f + k / 512)) : s'.bit f k = s.bit f k := by
  unfold Sto.bit; rw [h]
/-- another group is what it was -/
theorem Sto.Is.keep (h : s.Is u G) (hu : u.Ok n) (ha : ∀ m, u.base ≤ m → m < u.data + u.blocks → s'.at_ m = s.at_ m) : s'.Is u G := by
  have h1 := hu.data; have h2 := hu.map; have h3 := hu.tab
  exact ⟨fun k hk => (bit_of (ha _ (by omega) (by omega))).trans (h.bit k hk), fun k hk => (ha _ (by omega) (by omega)).trans (h.byt k hk),
    fun num k1 k2 => (nodeX_of (ha _ (by omega) (by omega))).trans (h.nod num k1 k2)⟩
theorem Sto.Is.far {L : List Nat} (h : s.Is u G) (hu : u.Ok n) (hs : s.Step s' g L) (ha : u.data + u.blocks ≤ g.base ∨ g.data + g.blocks ≤ u.base) : s'.Is u G :=
  h.keep hu fun m h1 h2 => hs.far m (by omega)
theorem Sto.Is.commit (h : s.Is u G) (hu : u.Ok n) (hs : s.Ok) {l : List Nat} (hp : l.Perm (s.M.map (·.1))) : Sto.Is ⟨commitD s l, [], 0⟩ u G :=
  h.keep hu fun m h1 h2 => commit_at hs hp (.inr (by have := hu.base; omega))
theorem Sto.Is.nodeV (h : s.Is g G) (hG : G.Ok) (h1 : 1 ≤ num) (h2 : num ≤ g.nodes) : s.nodeV g num = G.nd num := by
  unfold Sto.nodeV
  rw [h.nod num h1 h2, isN_enc (hG.dir num), dec_enc (hG.dir num), if_pos (hG.chk num)]
theorem Sto.Is.nodeE (h : s.Is g G) (hG : G.Ok) (h1 : 1 ≤ num) (h2 : num ≤ g.nodes) : s.nodeE g num = 0 := by
  unfold Sto.nodeE
  rw [h.nod num h1 h2, isN_enc (hG.dir num), if_pos (hG.chk num)]
theorem Sto.Is.free (h : s.Is g G) : s.freeBit g.base g.blocks = G.free g.blocks :=
  find_congr fun x hx => by rw [h.bit x (List.mem_range.1 hx)]
theorem Sto.Is.cnt (h : s.Is g G) : s.cntBit g.base g.blocks = G.cnt g.blocks := by
  unfold Sto.cntBit GS.cnt
  rw [List.filter_congr fun x hx => h.bit x (List.mem_range.1 hx)]
theorem is_from (h : s.Is g G) (hG : G.Ok) : ∀ (m num : Nat), 1 ≤ num → num + m ≤ g.nodes + 1 → s.freeFrom g num m = G.freeFrom num m
  | 0, _, _, _ => rfl
  | m + 1, num, h1, h2 => by
    rw [Sto.freeFrom, GS.freeFrom, h.nodeV hG h1 (by omega), is_from h hG m (num + 1) (by omega) (by omega)]
theorem Sto.Is.freeN (h : s.Is g G) (hG : G.Ok) : s.freeNode g = G.freeN g.nodes := is_from h hG _ _ (by omega) (by omega)
theorem Sto.Is.nodesOk (h : s.Is g G) (hG : G.Ok) : s.NodesOk g := fun num h1 h2 => h.nodeE hG h1 h2

theorem zero_enc : encN NodeV.zero = List.replicate 32 0 := by decide +kernel
theorem begun_is (hu : u.Ok n) : Sto.Is ⟨begD n, [], 0⟩ u GS.none := by
  have h1 := hu.base
  refine ⟨fun k hk => begD_bit (by omega), fun k hk => begD_at (by have := hu.data; omega), fun num h1 h2 => ?_⟩
  unfold Sto.nodeX GS.none
  rw [begD_at (by omega), zero_enc, zeroB, List.drop_replicate, List.take_replicate]
  congr 1
  omega

theorem setBit_at (s : Sto) (f k : Nat) (on : Bool) (n : Nat) (h : n ≠ f + k / 512) : (s.setBit f k on).at_ n = s.at_ n := at_setBit_far (fun e => h e.symm)
theorem put_mem {x : Nat × BlkV} (h : x ∈ (s.put n b).M) : x ∈ s.M ∨ x.1 = n := by
  rcases mput_mem (L := s.M) h with h | rfl
  · exact .inl h
  · exact .inr rfl
theorem setBit_mem {x : Nat × BlkV} (h : x ∈ (s.setBit f k on).M) : x ∈ s.M ∨ x.1 = f + k / 512 := by
  unfold Sto.setBit at h
  split at h
  · exact .inl h
  · exact put_mem h
theorem setBit_bad (s : Sto) (f k : Nat) (on : Bool) : (s.setBit f k on).bad = s.bad := by
  unfold Sto.setBit; split <;> rfl

/-- Take -/
theorem is_take (hs : s.Ok) (hg : g.Ok s.D.length) (hk : k < g.blocks) (h : s.Is g G) : (s.take g k).Is g (G.take k) ∧ s.Step (s.take g k) g [g.base + k / 512, g.data + k] := by
  have h1 := hg.data; have h2 := hg.map; have h3 := hg.tab
  refine ⟨⟨fun j hj => ?_, fun j hj => ?_, fun num n1 n2 => ?_⟩, ⟨take_D g k, ?_, fun n hn => ?_, fun x hx => ?_⟩⟩
  · rw [bit_take hs hg hj, h.bit j hj]; rfl
  · rw [at_take hg hk (.inr (by omega)), h.byt j hj]
    simp only [GS.take, upd]
    by_cases e : j = k
    · rw [if_pos (by omega), if_pos e]
    · rw [if_neg (by omega), if_neg e]
  · rw [nodeX_of (s := s)]
    · exact h.nod num n1 n2
    · rw [at_take hg hk (.inr (by omega)), if_neg (by omega)]
  · unfold Sto.take; exact setBit_bad _ _ _ _
  · rw [at_take hg hk (by omega), if_neg (by omega)]
  · unfold Sto.take at hx
    rcases put_mem hx with hx | hx
    · rcases setBit_mem hx with hx | hx
      · exact .inl ⟨x, hx, rfl⟩
      · exact .inr (by simp [hx])
    · exact .inr (by simp [hx])
/-- Give -/
theorem is_give (hs : s.Ok) (hg : g.Ok s.D.length) (hk : k < g.blocks) (h : s.Is g G) : (s.setBit g.base k false).Is g (G.give k) ∧ s.Step (s.setBit g.base k false) g [g.base + k / 512] := by
  have h1 := hg.data; have h2 := hg.map; have h3 := hg.tab
  refine ⟨⟨fun j hj => ?_, fun j hj => ?_, fun num n1 n2 => ?_⟩, ⟨setBit_D _ _ _ _, setBit_bad _ _ _ _, fun n hn => ?_, fun x hx => ?_⟩⟩
  · rw [bit_setBit hs, h.bit j hj]; rfl
  · rw [setBit_at _ _ _ _ _ (by omega)]; exact h.byt j hj
  · rw [nodeX_of (s := s)]
    · exact h.nod num n1 n2
    · rw [setBit_at _ _ _ _ _ (by omega)]
  · rw [setBit_at _ _ _ _ _ (by omega)]
  · rcases setBit_mem hx with hx | hx
    · exact .inl ⟨x, hx, rfl⟩
    · exact .inr (by simp [hx])
/-- Put -/
theorem is_put (hg : g.Ok s.D.length) (hk : k < g.blocks) (h : s.Is g G) : (s.put (g.data + k) b).Is g (G.put k b) ∧ s.Step (s.put (g.data + k) b) g [g.data + k] := by
  have h1 := hg.data; have h2 := hg.map; have h3 := hg.tab
  refine ⟨⟨fun j hj => ?_, fun j hj => ?_, fun num n1 n2 => ?_⟩, ⟨rfl, rfl, fun n hn => ?_, fun x hx => ?_⟩⟩
  · rw [bit_put_far (by omega)]; exact h.bit j hj
  · rw [Sto.at_put, h.byt j hj]
    simp only [GS.put, upd]
    by_cases e : j = k
    · rw [if_pos (by omega), if_pos e]
    · rw [if_neg (by omega), if_neg e]
  · rw [nodeX_of (s := s)]
    · exact h.nod num n1 n2
    · rw [Sto.at_put, if_neg (by omega)]
  · rw [Sto.at_put, if_neg (by omega)]
  · rcases put_mem hx with hx | hx
    · exact .inl ⟨x, hx, rfl⟩
    · exact .inr (by simp [hx])
theorem wrB_same {bs l : List UInt8} {a : Nat} (h : a + l.length ≤ bs.length) : ((wrB bs a l).drop a).take l.length = l := by
  unfold wrB
  rw [List.append_assoc, List.drop_append, List.drop_of_length_le (by rw [List.length_take]; omega), List.length_take, Nat.min_eq_left (by omega), Nat.sub_self, List.drop_zero, List.nil_append, List.take_left']
  rfl
theorem wrB_other {bs l : List UInt8} {a c m : Nat} (h : a + l.length ≤ bs.length) (hd : c + m ≤ a ∨ a + l.length ≤ c) : ((wrB bs a l).drop c).take m = (bs.drop c).take m := by
  have ht : (bs.take a).length = a := by rw [List.length_take]; omega
  apply List.ext_getElem?
  intro j
  simp only [List.getElem?_take, List.getElem?_drop]
  split
  · unfold wrB
    rcases hd with hd | hd
    · rw [List.append_assoc, List.getElem?_append_left (by omega), List.getElem?_take, if_pos (by omega)]
    · rw [List.getElem?_append_right (by simp only [List.length_append]; omega), List.getElem?_drop]
      congr 1
      simp only [List.length_append]
      omega
  · rfl
/-- Set -/
theorem is_set {v : NodeV} (hs : s.Ok) (hg : g.Ok s.D.length) (h1' : 1 ≤ num) (h2' : num ≤ g.nodes) (hv : v.dir.length = 6) (h : s.Is g G) : (s.setNode g num v).Is g (G.set num v) ∧ s.Step (s.setNode g num v) g [g.base + g.bitmap + (num - 1) / 2] := by
  have h1 := hg.data; have h2 := hg.map; have h3 := hg.tab
  have hl := Sto.at_length hs (g.base + g.bitmap + (num - 1) / 2)
  have he := encN_length hv
  refine ⟨⟨fun j hj => ?_, fun j hj => ?_, fun m n1 n2 => ?_⟩, ⟨rfl, rfl, fun n hn => ?_, fun x hx => ?_⟩⟩
  · unfold Sto.setNode; rw [bit_put_far (by omega)]; exact h.bit j hj
  · unfold Sto.setNode; rw [Sto.at_put, if_neg (by omega)]; exact h.byt j hj
  · simp only [GS.set, upd]
    by_cases e : m = num
    · subst e
      rw [if_pos rfl]
      unfold Sto.nodeX Sto.setNode
      rw [Sto.at_put, if_pos rfl]
      have := wrB_same (bs := s.at_ (g.base + g.bitmap + (m - 1) / 2)) (a := (m - 1) % 2 * 32) (l := encN v) (by omega)
      rwa [he] at this
    · rw [if_neg e, ← h.nod m n1 n2]
      by_cases e2 : (m - 1) / 2 = (num - 1) / 2
      · unfold Sto.nodeX Sto.setNode
        rw [Sto.at_put, if_pos (by omega), e2, wrB_other (by omega) (by omega)]
      · refine nodeX_of ?_
        unfold Sto.setNode
        rw [Sto.at_put, if_neg (by omega)]
  · unfold Sto.setNode; rw [Sto.at_put, if_neg (by omega)]
  · unfold Sto.setNode at hx
    rcases put_mem hx with hx | hx
    · exact .inl ⟨x, hx, rfl⟩
    · exact .inr (by simp [hx])
end
end Go.Proofs.Ytoeejeieplhifaa

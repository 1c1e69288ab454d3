/- A group as it is meant: which blocks are taken, their bytes, nodes. Plain: what the calls come to. A group's calls, over a group as it is meant. The fixed facts of layer 7's laws: walked. A fresh disk of a configuration: walked. A disk's image: walked. -/
import Derived.Test.YthmkgohfeahdhaaGreatMFsc
import Derived.BigQuiet
namespace Go.Proofs.YthmkgohfeahdhaaGreat
open Go.RowKit
set_option linter.unusedSimpArgs false
set_option linter.unusedVariables false

theorem wpList_take {P : Program} {ops : Array Oper} {Q : Exit → Act → World → Prop} {a : Act} {w : World} {rest : List Oper} {d : Option Tmp} {op : Op} {k : TypeId} {p : String} {f : Array Edge} {j : Nat} {b : Bool}
    (hw : yielded ops a.tmps j = some b) (h : wpList P ops Q (⟨d, op, k, p, f, none⟩ :: rest) a w) : wpList P ops Q (⟨d, op, k, p, f, some (j, b)⟩ :: rest) a w := by
  unfold wpList at h ⊢
  have h1 : Region.wanted ⟨d, op, k, p, f, some (j, b)⟩ (yielded ops a.tmps) = true := by simp [Region.wanted, hw]
  rw [if_pos h1]
  have h2 : Region.wanted ⟨d, op, k, p, f, none⟩ (yielded ops a.tmps) = true := rfl
  rw [if_pos h2] at h
  exact h

def upd {α : Type} (f : Nat → α) (k : Nat) (v : α) : Nat → α := fun j => if j = k then v else f j
theorem upd_same {α : Type} (f : Nat → α) (k : Nat) (v : α) : upd f k v k = v := by simp [upd]
theorem upd_other {α : Type} (f : Nat → α) {k j : Nat} (v : α) (h : j ≠ k) : upd f k v j = f j := by simp [upd, h]
/-- a group: which blocks are taken, their bytes, its nodes -/
structure GS where
  tk : Nat → Bool
  by_ : Nat → BlkV
  nd : Nat → NodeV
structure GS.Ok (G : GS) : Prop where
  dir : ∀ num, (G.nd num).dir.length = 6
  chk : ∀ num, checkN (G.nd num) = true
  len : ∀ k, (G.by_ k).length = 64
/-- a group lies in a transaction's blocks -/
structure Sto.Is (s : Sto) (g : GeoN) (G : GS) : Prop where
  bit : ∀ k, k < g.blocks → s.bit g.base k = G.tk k
  byt : ∀ k, k < g.blocks → s.at_ (g.data + k) = G.by_ k
  nod : ∀ num, 1 ≤ num → num ≤ g.nodes → s.nodeX g num = encN (G.nd num)
namespace GS
def none : GS := ⟨fun _ => false, fun _ => zeroB, fun _ => NodeV.zero⟩
def take (G : GS) (k : Nat) : GS := ⟨upd G.tk k true, upd G.by_ k zeroB, G.nd⟩
def give (G : GS) (k : Nat) : GS := ⟨upd G.tk k false, G.by_, G.nd⟩
def put (G : GS) (k : Nat) (b : BlkV) : GS := ⟨G.tk, upd G.by_ k b, G.nd⟩
def set (G : GS) (num : Nat) (n : NodeV) : GS := ⟨G.tk, G.by_, upd G.nd num n⟩
theorem none_ok : none.Ok := ⟨fun _ => rfl, fun _ => rfl, fun _ => zeroB_length⟩
theorem Ok.take {G : GS} (h : G.Ok) (k : Nat) : (G.take k).Ok := ⟨h.dir, h.chk, fun j => by simp only [GS.take, upd]; split; exact zeroB_length; exact h.len j⟩
theorem Ok.give {G : GS} (h : G.Ok) (k : Nat) : (G.give k).Ok := ⟨h.dir, h.chk, h.len⟩
theorem Ok.put {G : GS} (h : G.Ok) (k : Nat) {b : BlkV} (hb : b.length = 64) : (G.put k b).Ok := ⟨h.dir, h.chk, fun j => by simp only [GS.put, upd]; split; exact hb; exact h.len j⟩
theorem Ok.set {G : GS} (h : G.Ok) (num : Nat) {n : NodeV} (hd : n.dir.length = 6) (hc : checkN n = true) : (G.set num n).Ok :=
  ⟨fun j => by simp only [GS.set, upd]; split; exact hd; exact h.dir j, fun j => by simp only [GS.set, upd]; split; exact hc; exact h.chk j, h.len⟩
/-- the first block that isn't taken -/
def free (G : GS) (m : Nat) : Option Nat := (List.range m).find? fun k => !G.tk k
def cnt (G : GS) (m : Nat) : Nat := ((List.range m).filter G.tk).length
def freeFrom (G : GS) : Nat → Nat → Option Nat
  | _, 0 => Option.none
  | num, m + 1 => if (G.nd num).kind = 0 then some num else G.freeFrom (num + 1) m
/-- the first free node -/
def freeN (G : GS) (m : Nat) : Option Nat := G.freeFrom 1 m
/-- how many nodes are there -/
def ncnt (G : GS) (m : Nat) : Nat := ((List.range m).filter fun k => decide ((G.nd (k + 1)).kind ≠ 0)).length
end GS
theorem find_congr {α : Type} {p q : α → Bool} : ∀ {l : List α}, (∀ x ∈ l, p x = q x) → l.find? p = l.find? q
  | [], _ => rfl
  | a :: r, h => by
    simp only [List.find?_cons, h a (by simp), find_congr (l := r) fun x hx => h x (by simp [hx])]
/-- only these blocks are to be written -/
def Sto.In (s : Sto) (L : List Nat) : Prop := ∀ x ∈ s.M, x.1 ∈ L
theorem nodup_le : ∀ {l L : List Nat}, l.Nodup → (∀ x ∈ l, x ∈ L) → l.length ≤ L.length
  | [], _, _, _ => Nat.zero_le _
  | a :: r, L, hn, h => by
    rw [List.nodup_cons] at hn
    have ha : a ∈ L := h a (by simp)
    have := nodup_le (l := r) (L := L.erase a) hn.2 (fun x hx => (List.mem_erase_of_ne (by rintro rfl; exact hn.1 hx)).2 (h x (by simp [hx])))
    rw [List.length_erase_of_mem ha] at this
    have : 0 < L.length := List.length_pos_of_mem ha
    simp only [List.length_cons]
    omega
theorem Sto.In.len {s : Sto} {L : List Nat} (h : s.In L) (hk : s.Ok) : s.M.length ≤ L.length := by
  have := nodup_le hk.nodup (L := L) (fun x hx => by obtain ⟨y, hy, rfl⟩ := List.mem_map.1 hx; exact h y hy)
  rwa [List.length_map] at this
/-- what a call in a group leaves: the disk, the fault, what is outside; which blocks are to be written now -/
structure Sto.Step (s s' : Sto) (g : GeoN) (L : List Nat) : Prop where
  D : s'.D = s.D
  bad : s'.bad = s.bad
  far : ∀ n, (n < g.base ∨ g.data + g.blocks ≤ n) → s'.at_ n = s.at_ n
  key : ∀ x ∈ s'.M, (∃ y ∈ s.M, y.1 = x.1) ∨ x.1 ∈ L
theorem Sto.Step.refl (s : Sto) (g : GeoN) (L : List Nat) : s.Step s g L := ⟨rfl, rfl, fun _ _ => rfl, fun x hx => .inl ⟨x, hx, rfl⟩⟩
theorem Sto.Step.trans {s1 s2 s3 : Sto} {g : GeoN} {L L' : List Nat} (h : s1.Step s2 g L) (h' : s2.Step s3 g L') : s1.Step s3 g (L ++ L') :=
  ⟨h'.D.trans h.D, h'.bad.trans h.bad, fun n hn => (h'.far n hn).trans (h.far n hn), fun x hx => by
    rcases h'.key x hx with ⟨y, hy, e⟩ | hx
    · rcases h.key y hy with ⟨z, hz, e'⟩ | hy
      · exact .inl ⟨z, hz, e'.trans e⟩
      · exact .inr (by rw [← e]; simp [hy])
    · exact .inr (by simp [hx])⟩
theorem Sto.Step.mono {s1 s2 : Sto} {g : GeoN} {L L' : List Nat} (h : s1.Step s2 g L) (hL : ∀ x ∈ L, x ∈ L') : s1.Step s2 g L' :=
  ⟨h.D, h.bad, h.far, fun x hx => (h.key x hx).imp id (hL _)⟩
theorem Sto.Step.in_ {s1 s2 : Sto} {g : GeoN} {L K : List Nat} (h : s1.Step s2 g L) (hK : s1.In K) : s2.In (K ++ L) := fun x hx => by
  rcases h.key x hx with ⟨y, hy, e⟩ | hx
  · rw [← e]; exact List.mem_append_left _ (hK y hy)
  · exact List.mem_append_right _ hx
theorem Sto.In.mono {s : Sto} {L L' : List Nat} (h : s.In L) (hL : ∀ x ∈ L, x ∈ L') : s.In L' := fun x hx => hL _ (h x hx)

section
variable {s s' : Sto} {f k j n num : Nat} {b : BlkV} {on : Bool} {g u : GeoN} {G : GS}
theorem nodeX_of (h : s'.at_ (g.base + g.bitmap + (num - 1) / 2) = s.at_ (g.base + g.bitmap + (num - 1) / 2)) : s'.nodeX g num = s.nodeX g num := by
  unfold Sto.nodeX; rw [h]
theorem bit_of (h : s'.at_ (f + k / 512) = s.at_ (f + k / 512)) : s'.bit f k = s.bit f k := by
  unfold Sto.bit; rw [h]
/-- another group is what it was -/
theorem Sto.Is.keep (h : s.Is u G) (hu : u.Ok n) (ha : ∀ m, u.base ≤ m → m < u.data + u.blocks → s'.at_ m = s.at_ m) : s'.Is u G := by
  have h1 := hu.data; have h2 := hu.map; have h3 := hu.tab
  exact ⟨fun k hk => (bit_of (ha _ (by omega) (by omega))).trans (h.bit k hk), fun k hk => (ha _ (by omega) (by omega)).trans (h.byt k hk),
    fun num k1 k2 => (nodeX_of (ha _ (by omega) (by omega))).trans (h.nod num k1 k2)⟩
theorem Sto.Is.far {L : List Nat} (h : s.Is u G) (hu : u.Ok n) (hs : s.Step s' g L) (ha : u.data + u.blocks ≤ g.base ∨ g.data + g.blocks ≤ u.base) : s'.Is u G :=
  h.keep hu fun m h1 h2 => hs.far m (by omega)
theorem Sto.Is.commit (h : s.Is u G) (hu : u.Ok n) (hs : s.Ok) {l : List Nat} (hp : l.Perm (s.M.map (·.1))) : Sto.Is ⟨commitD s l, [], 0⟩ u G :=
  h.keep hu fun m h1 h2 => commit_at hs hp (.inr (by have := hu.base; omega))
theorem Sto.Is.nodeV (h : s.Is g G) (hG : G.Ok) (h1 : 1 ≤ num) (h2 : num ≤ g.nodes) : s.nodeV g num = G.nd num := by
  unfold Sto.nodeV
  rw [h.nod num h1 h2, isN_enc (hG.dir num), dec_enc (hG.dir num), if_pos (hG.chk num)]
theorem Sto.Is.nodeE (h : s.Is g G) (hG : G.Ok) (h1 : 1 ≤ num) (h2 : num ≤ g.nodes) : s.nodeE g num = 0 := by
  unfold Sto.nodeE
  rw [h.nod num h1 h2, isN_enc (hG.dir num), if_pos (hG.chk num)]
theorem Sto.Is.free (h : s.Is g G) : s.freeBit g.base g.blocks = G.free g.blocks :=
  find_congr fun x hx => by rw [h.bit x (List.mem_range.1 hx)]
theorem Sto.Is.cnt (h : s.Is g G) : s.cntBit g.base g.blocks = G.cnt g.blocks := by
  unfold Sto.cntBit GS.cnt
  rw [List.filter_congr fun x hx => h.bit x (List.mem_range.1 hx)]
theorem is_from (h : s.Is g G) (hG : G.Ok) : ∀ (m num : Nat), 1 ≤ num → num + m ≤ g.nodes + 1 → s.freeFrom g num m = G.freeFrom num m
  | 0, _, _, _ => rfl
  | m + 1, num, h1, h2 => by
    rw [Sto.freeFrom, GS.freeFrom, h.nodeV hG h1 (by omega), is_from h hG m (num + 1) (by omega) (by omega)]
theorem Sto.Is.freeN (h : s.Is g G) (hG : G.Ok) : s.freeNode g = G.freeN g.nodes := is_from h hG _ _ (by omega) (by omega)
theorem Sto.Is.nodesOk (h : s.Is g G) (hG : G.Ok) : s.NodesOk g := fun num h1 h2 => h.nodeE hG h1 h2

theorem zero_enc : encN NodeV.zero = List.replicate 32 0 := by decide +kernel
theorem begun_is (hu : u.Ok n) : Sto.Is ⟨begD n, [], 0⟩ u GS.none := by
  have h1 := hu.base
  refine ⟨fun k hk => begD_bit (by omega), fun k hk => begD_at (by have := hu.data; omega), fun num h1 h2 => ?_⟩
  unfold Sto.nodeX GS.none
  rw [begD_at (by omega), zero_enc, zeroB, List.drop_replicate, List.take_replicate]
  congr 1
  omega

theorem setBit_at (s : Sto) (f k : Nat) (on : Bool) (n : Nat) (h : n ≠ f + k / 512) : (s.setBit f k on).at_ n = s.at_ n := at_setBit_far (fun e => h e.symm)
theorem put_mem {x : Nat × BlkV} (h : x ∈ (s.put n b).M) : x ∈ s.M ∨ x.1 = n := by
  rcases mput_mem (L := s.M) h with h | rfl
  · exact .inl h
  · exact .inr rfl
theorem setBit_mem {x : Nat × BlkV} (h : x ∈ (s.setBit f k on).M) : x ∈ s.M ∨ x.1 = f + k / 512 := by
  unfold Sto.setBit at h
  split at h
  · exact .inl h
  · exact put_mem h
theorem setBit_bad (s : Sto) (f k : Nat) (on : Bool) : (s.setBit f k on).bad = s.bad := by
  unfold Sto.setBit; split <;> rfl

/-- Take -/
theorem is_take (hs : s.Ok) (hg : g.Ok s.D.length) (hk : k < g.blocks) (h : s.Is g G) : (s.take g k).Is g (G.take k) ∧ s.Step (s.take g k) g [g.base + k / 512, g.data + k] := by
  have h1 := hg.data; have h2 := hg.map; have h3 := hg.tab
  refine ⟨⟨fun j hj => ?_, fun j hj => ?_, fun num n1 n2 => ?_⟩, ⟨take_D g k, ?_, fun n hn => ?_, fun x hx => ?_⟩⟩
  · rw [bit_take hs hg hj, h.bit j hj]; rfl
  · rw [at_take hg hk (.inr (by omega)), h.byt j hj]
    simp only [GS.take, upd]
    by_cases e : j = k
    · rw [if_pos (by omega), if_pos e]
    · rw [if_neg (by omega), if_neg e]
  · rw [nodeX_of (s := s)]
    · exact h.nod num n1 n2
    · rw [at_take hg hk (.inr (by omega)), if_neg (by omega)]
  · unfold Sto.take; exact setBit_bad _ _ _ _
  · rw [at_take hg hk (by omega), if_neg (by omega)]
  · unfold Sto.take at hx
    rcases put_mem hx with hx | hx
    · rcases setBit_mem hx with hx | hx
      · exact .inl ⟨x, hx, rfl⟩
      · exact .inr (by simp [hx])
    · exact .inr (by simp [hx])
/-- Give -/
theorem is_give (hs : s.Ok) (hg : g.Ok s.D.length) (hk : k < g.blocks) (h : s.Is g G) : (s.setBit g.base k false).Is g (G.give k) ∧ s.Step (s.setBit g.base k false) g [g.base + k / 512] := by
  have h1 := hg.data; have h2 := hg.map; have h3 := hg.tab
  refine ⟨⟨fun j hj => ?_, fun j hj => ?_, fun num n1 n2 => ?_⟩, ⟨setBit_D _ _ _ _, setBit_bad _ _ _ _, fun n hn => ?_, fun x hx => ?_⟩⟩
  · rw [bit_setBit hs, h.bit j hj]; rfl
  · rw [setBit_at _ _ _ _ _ (by omega)]; exact h.byt j hj
  · rw [nodeX_of (s := s)]
    · exact h.nod num n1 n2
    · rw [setBit_at _ _ _ _ _ (by omega)]
  · rw [setBit_at _ _ _ _ _ (by omega)]
  · rcases setBit_mem hx with hx | hx
    · exact .inl ⟨x, hx, rfl⟩
    · exact .inr (by simp [hx])
/-- Put -/
theorem is_put (hg : g.Ok s.D.length) (hk : k < g.blocks) (h : s.Is g G) : (s.put (g.data + k) b).Is g (G.put k b) ∧ s.Step (s.put (g.data + k) b) g [g.data + k] := by
  have h1 := hg.data; have h2 := hg.map; have h3 := hg.tab
  refine ⟨⟨fun j hj => ?_, fun j hj => ?_, fun num n1 n2 => ?_⟩, ⟨rfl, rfl, fun n hn => ?_, fun x hx => ?_⟩⟩
  · rw [bit_put_far (by omega)]; exact h.bit j hj
  · rw [Sto.at_put, h.byt j hj]
    simp only [GS.put, upd]
    by_cases e : j = k
    · rw [if_pos (by omega), if_pos e]
    · rw [if_neg (by omega), if_neg e]
  · rw [nodeX_of (s := s)]
    · exact h.nod num n1 n2
    · rw [Sto.at_put, if_neg (by omega)]
  · rw [Sto.at_put, if_neg (by omega)]
  · rcases put_mem hx with hx | hx
    · exact .inl ⟨x, hx, rfl⟩
    · exact .inr (by simp [hx])
theorem wrB_same {bs l : List UInt8} {a : Nat} (h : a + l.length ≤ bs.length) : ((wrB bs a l).drop a).take l.length = l := by
  unfold wrB
  rw [List.append_assoc, List.drop_append, List.drop_of_length_le (by rw [List.length_take]; omega), List.length_take, Nat.min_eq_left (by omega), Nat.sub_self, List.drop_zero, List.nil_append, List.take_left']
  rfl
theorem wrB_other {bs l : List UInt8} {a c m : Nat} (h : a + l.length ≤ bs.length) (hd : c + m ≤ a ∨ a + l.length ≤ c) : ((wrB bs a l).drop c).take m = (bs.drop c).take m := by
  have ht : (bs.take a).length = a := by rw [List.length_take]; omega
  apply List.ext_getElem?
  intro j
  simp only [List.getElem?_take, List.getElem?_drop]
  split
  · unfold wrB
    rcases hd with hd | hd
    · rw [List.append_assoc, List.getElem?_append_left (by omega), List.getElem?_take, if_pos (by omega)]
    · rw [List.getElem?_append_right (by simp only [List.length_append]; omega), List.getElem?_drop]
      congr 1
      simp only [List.length_append]
      omega
  · rfl
/-- Set -/
theorem is_set {v : NodeV} (hs : s.Ok) (hg : g.Ok s.D.length) (h1' : 1 ≤ num) (h2' : num ≤ g.nodes) (hv : v.dir.length = 6) (h : s.Is g G) : (s.setNode g num v).Is g (G.set num v) ∧ s.Step (s.setNode g num v) g [g.base + g.bitmap + (num - 1) / 2] := by
  have h1 := hg.data; have h2 := hg.map; have h3 := hg.tab
  have hl := Sto.at_length hs (g.base + g.bitmap + (num - 1) / 2)
  have he := encN_length hv
  refine ⟨⟨fun j hj => ?_, fun j hj => ?_, fun m n1 n2 => ?_⟩, ⟨rfl, rfl, fun n hn => ?_, fun x hx => ?_⟩⟩
  · unfold Sto.setNode; rw [bit_put_far (by omega)]; exact h.bit j hj
  · unfold Sto.setNode; rw [Sto.at_put, if_neg (by omega)]; exact h.byt j hj
  · simp only [GS.set, upd]
    by_cases e : m = num
    · subst e
      rw [if_pos rfl]
      unfold Sto.nodeX Sto.setNode
      rw [Sto.at_put, if_pos rfl]
      have := wrB_same (bs := s.at_ (g.base + g.bitmap + (m - 1) / 2)) (a := (m - 1) % 2 * 32) (l := encN v) (by omega)
      rwa [he] at this
    · rw [if_neg e, ← h.nod m n1 n2]
      by_cases e2 : (m - 1) / 2 = (num - 1) / 2
      · unfold Sto.nodeX Sto.setNode
        rw [Sto.at_put, if_pos (by omega), e2, wrB_other (by omega) (by omega)]
      · refine nodeX_of ?_
        unfold Sto.setNode
        rw [Sto.at_put, if_neg (by omega)]
  · unfold Sto.setNode; rw [Sto.at_put, if_neg (by omega)]
  · unfold Sto.setNode at hx
    rcases put_mem hx with hx | hx
    · exact .inl ⟨x, hx, rfl⟩
    · exact .inr (by simp [hx])
end
end Go.Proofs.YthmkgohfeahdhaaGreat
namespace Go.Proofs.YthmkgohfeahdhaaGreat
open Go.RowKit
set_option linter.unusedSimpArgs false
set_option linter.unusedVariables false

/-- a group lies open, over a transaction -/
structure GAt (w : World) (i : Ids) (s : Sto) (gg : Nat) (g : GeoN) (lab : Int) (G : GS) : Prop where
  tx : TxAt w i s
  gp : GroupAt w gg i.tt g lab
  ok : g.Ok s.D.length
  is : s.Is g G
  gok : G.Ok
/-- what a call on it leaves -/
def GRes (w w' : World) (i : Ids) (s : Sto) (gg : Nat) (g : GeoN) (lab : Int) (G' : GS) (L : List Nat) : Prop :=
  ∃ s', GAt w' i s' gg g lab G' ∧ s.Step s' g L ∧ Tch w.heap.size i.own w w'
section
variable {w w' : World} {i : Ids} {s : Sto} {gg : Nat} {g : GeoN} {lab : Int} {G G' : GS} {L : List Nat}
theorem GAt.below (h : GAt w i s gg g lab G) (hb : Below w.heap.size w w') : GAt w' i s gg g lab G := ⟨h.tx.below hb, h.gp.below hb, h.ok, h.is, h.gok⟩
theorem GAt.res (h : GAt w i s gg g lab G) {s' : Sto} (hx : TxAt w' i s') (ht : Tch w.heap.size i.own w w') (hi : s'.Is g G' ∧ s.Step s' g L) (hk : G'.Ok) : GRes w w' i s gg g lab G' L :=
  ⟨s', ⟨hx, h.gp.tch h.tx ht, by rw [hi.2.D]; exact h.ok, hi.1, hk⟩, hi.2, ht⟩
theorem GAt.same (h : GAt w i s gg g lab G) (hx : TxAt w' i s) (ht : Tch w.heap.size i.own w w') : GRes w w' i s gg g lab G L :=
  h.res hx ht ⟨h.is, Sto.Step.refl _ _ _⟩ h.gok
theorem gs_take_full (h : GAt w i s gg g lab G) (hf : G.free g.blocks = none) :
    Calls Tryz.prog 145 #[.pointer (some ⟨gg, 0, none⟩)] w fun e w' => e = .returned (.tuple #[.int .u16 0, .int .i64 10]) ∧ GRes w w' i s gg g lab G [] :=
  (take_full h.tx h.gp h.ok (by rw [h.is.free]; exact hf)).mono fun e w' ⟨he, hx, ht⟩ => ⟨he, h.same hx ht⟩
theorem gs_free_lt {m k : Nat} (hf : G.free m = some k) : k < m := List.mem_range.1 (List.mem_of_find?_eq_some hf)
theorem gs_take {k : Nat} (h : GAt w i s gg g lab G) (hr : s.M.length ≤ 28) (hf : G.free g.blocks = some k) :
    Calls Tryz.prog 145 #[.pointer (some ⟨gg, 0, none⟩)] w fun e w' => e = .returned (.tuple #[.int .u16 ((k + 1 : Nat) : Int), .int .i64 0]) ∧ GRes w w' i s gg g lab (G.take k) [g.base + k / 512, g.data + k] :=
  (take_ok h.tx h.gp h.ok hr (by rw [h.is.free]; exact hf) (gs_free_lt hf)).mono fun e w' ⟨he, hx, ht⟩ => ⟨he, h.res hx ht (is_take h.tx.ok h.ok (gs_free_lt hf) h.is) (h.gok.take k)⟩
theorem gs_give {k : Nat} (h : GAt w i s gg g lab G) (hr : s.M.length ≤ 28) (hk : k < g.blocks) (hb : G.tk k = true) :
    Calls Tryz.prog 103 #[.pointer (some ⟨gg, 0, none⟩), .int .u16 ((k + 1 : Nat) : Int)] w fun e w' => e = .returned (.int .i64 0) ∧ GRes w w' i s gg g lab (G.give k) [g.base + k / 512] :=
  (give_ok h.tx h.gp h.ok hr hk (by rw [h.is.bit k hk]; exact hb)).mono fun e w' ⟨he, hx, ht⟩ => ⟨he, h.res hx ht (is_give h.tx.ok h.ok hk h.is) (h.gok.give k)⟩
theorem gs_give_not {k : Nat} (h : GAt w i s gg g lab G) (hk : k < g.blocks) (hb : G.tk k = false) :
    Calls Tryz.prog 103 #[.pointer (some ⟨gg, 0, none⟩), .int .u16 ((k + 1 : Nat) : Int)] w fun e w' => e = .returned (.int .i64 3) ∧ GRes w w' i s gg g lab G [] :=
  (give_not h.tx h.gp h.ok hk (by rw [h.is.bit k hk]; exact hb)).mono fun e w' ⟨he, hx, ht⟩ => ⟨he, h.same hx ht⟩
theorem gs_put {k : Nat} {b : BlkV} (h : GAt w i s gg g lab G) (hr : s.M.length ≤ 28) (hk : k < g.blocks) (hb : b.length = 64) :
    Calls Tryz.prog 94 #[.pointer (some ⟨gg, 0, none⟩), .int .u16 ((k + 1 : Nat) : Int), bval b] w fun e w' => e = .returned (.int .i64 0) ∧ GRes w w' i s gg g lab (G.put k b) [g.data + k] :=
  (gput_ok h.tx h.gp h.ok hr hk hb).mono fun e w' ⟨he, hx, ht⟩ => ⟨he, h.res hx ht (is_put h.ok hk h.is) (h.gok.put k hb)⟩
theorem gs_get {k : Nat} (h : GAt w i s gg g lab G) (hk : k < g.blocks) :
    Calls Tryz.prog 93 #[.pointer (some ⟨gg, 0, none⟩), .int .u16 ((k + 1 : Nat) : Int)] w fun e w' => e = .returned (.tuple #[bval (G.by_ k), .int .i64 0]) ∧ GRes w w' i s gg g lab G [] := by
  have := gget_ok h.tx h.gp h.ok hk
  rw [h.is.byt k hk] at this
  exact this.mono fun e w' ⟨he, hx, ht⟩ => ⟨he, h.same hx ht⟩
theorem gs_node {num : Nat} (h : GAt w i s gg g lab G) (h1 : 1 ≤ num) (h2 : num ≤ g.nodes) :
    Calls Tryz.prog 56 #[.pointer (some ⟨gg, 0, none⟩), .int .i64 (num : Int)] w fun e w' => e = .returned (.tuple #[(G.nd num).val, .int .i64 0]) ∧ GRes w w' i s gg g lab G [] := by
  have := gnode_ok h.tx h.gp h.ok h1 h2
  rw [h.is.nodeV h.gok h1 h2, h.is.nodeE h.gok h1 h2] at this
  exact this.mono fun e w' ⟨he, hx, ht⟩ => ⟨he, h.same hx ht⟩
theorem gs_node_none {num : Int} (h : GAt w i s gg g lab G) (hn : num < 1 ∨ (g.nodes : Int) < num) :
    Calls Tryz.prog 56 #[.pointer (some ⟨gg, 0, none⟩), .int .i64 num] w fun e w' => e = .returned (.tuple #[NodeV.zero.val, .int .i64 27]) ∧ GRes w w' i s gg g lab G [] :=
  (gnode_none h.tx h.gp hn).mono fun e w' ⟨he, hx, ht⟩ => ⟨he, h.same hx ht⟩
theorem gs_set {num : Nat} {n : NodeV} (h : GAt w i s gg g lab G) (hr : s.M.length ≤ 29) (h1 : 1 ≤ num) (h2 : num ≤ g.nodes) (hnd : n.dir.length = 6) (hck : checkN n = true) :
    Calls Tryz.prog 95 #[.pointer (some ⟨gg, 0, none⟩), .int .i64 (num : Int), n.val] w fun e w' => e = .returned (.int .i64 0) ∧ GRes w w' i s gg g lab (G.set num n) [g.base + g.bitmap + (num - 1) / 2] :=
  (gset_ok h.tx h.gp h.ok h1 h2 hnd hck (node_can h.ok hr h1 h2)).mono fun e w' ⟨he, hx, ht⟩ => ⟨he, h.res hx ht (is_set h.tx.ok h.ok h1 h2 hnd h.is) (h.gok.set num hnd hck)⟩
theorem gs_set_none {num : Int} {n : NodeV} (h : GAt w i s gg g lab G) (hnd : n.dir.length = 6) (hn : num < 1 ∨ (g.nodes : Int) < num) :
    Calls Tryz.prog 95 #[.pointer (some ⟨gg, 0, none⟩), .int .i64 num, n.val] w fun e w' => e = .returned (.int .i64 27) ∧ GRes w w' i s gg g lab G [] :=
  (gset_none h.tx h.gp hnd hn).mono fun e w' ⟨he, hx, ht⟩ => ⟨he, h.same hx ht⟩
theorem gs_set_bad {num : Nat} {n : NodeV} (h : GAt w i s gg g lab G) (h1 : 1 ≤ num) (h2 : num ≤ g.nodes) (hnd : n.dir.length = 6) (hck : checkN n = false) :
    Calls Tryz.prog 95 #[.pointer (some ⟨gg, 0, none⟩), .int .i64 (num : Int), n.val] w fun e w' => e = .returned (.int .i64 28) ∧ GRes w w' i s gg g lab G [] :=
  (gset_bad h.tx h.gp h.ok h1 h2 hnd hck).mono fun e w' ⟨he, hx, ht⟩ => ⟨he, h.same hx ht⟩
/-- making a node: which one, the error, what is left -/
def GS.makeR (G : GS) (m : Nat) : Int × Int := match G.freeN m with
  | Option.none => (0, 10)
  | some num => ((num : Int), 0)
def GS.makeS (G : GS) (m : Nat) (n : NodeV) : GS := match G.freeN m with
  | Option.none => G
  | some num => G.set num (nextN n (G.nd num))
def GS.makeL (G : GS) (g : GeoN) : List Nat := match G.freeN g.nodes with
  | Option.none => []
  | some num => [g.base + g.bitmap + (num - 1) / 2]
theorem gs_from_range : ∀ (m num k : Nat), G.freeFrom num m = some k → num ≤ k ∧ k < num + m
  | 0, _, _, h => by simp [GS.freeFrom] at h
  | m + 1, num, k, h => by
    unfold GS.freeFrom at h
    split at h
    · cases h; omega
    · have := gs_from_range m (num + 1) k h; omega
theorem gs_make_res {n : NodeV} (h : GAt w i s gg g lab G) (hnd : n.dir.length = 6) (hck : ∀ old, checkN (nextN n old) = true) {v : Int × Int} {e : Ending} (he : e = .returned (.tuple #[.int .i64 (s.makeR g).1, .int .i64 (s.makeR g).2]))
    (hx : TxAt w' i (s.makeS g n)) (ht : Tch w.heap.size i.own w w') : e = .returned (.tuple #[.int .i64 (G.makeR g.nodes).1, .int .i64 (G.makeR g.nodes).2]) ∧ GRes w w' i s gg g lab (G.makeS g.nodes n) (G.makeL g) := by
  have hf := h.is.freeN h.gok
  unfold Sto.makeR at he
  unfold Sto.makeS at hx
  unfold GS.makeR GS.makeS GS.makeL
  rw [hf] at he hx
  cases hn : G.freeN g.nodes with
  | none =>
    rw [hn] at he hx
    exact ⟨he, h.same hx ht⟩
  | some num =>
    rw [hn] at he hx
    have hr := gs_from_range (G := G) _ _ _ hn
    simp only at hx
    rw [h.is.nodeV h.gok (by omega) (by omega)] at hx
    exact ⟨he, h.res hx ht (is_set h.tx.ok h.ok (by omega) (by omega) hnd h.is) (h.gok.set num hnd (hck _))⟩
theorem gs_make {k : UInt8} (h : GAt w i s gg g lab G) (hr : s.M.length ≤ 29) (hk : canMake k = true) :
    Calls Tryz.prog 39 #[.pointer (some ⟨gg, 0, none⟩), .int .u8 (k.toNat : Int)] w fun e w' => e = .returned (.tuple #[.int .i64 (G.makeR g.nodes).1, .int .i64 (G.makeR g.nodes).2]) ∧ GRes w w' i s gg g lab (G.makeS g.nodes (newN k)) (G.makeL g) :=
  (gmake_ok h.tx h.gp h.ok (h.is.nodesOk h.gok) hr hk).mono fun e w' ⟨he, hx, ht⟩ => gs_make_res h rfl (fun old => check_new hk old) (v := (0, 0)) he hx ht
theorem gs_wipe {num : Nat} (h : GAt w i s gg g lab G) (hr : s.M.length ≤ 29) (h1 : 1 ≤ num) (h2 : num ≤ g.nodes) :
    Calls Tryz.prog 104 #[.pointer (some ⟨gg, 0, none⟩), .int .i64 (num : Int)] w fun e w' => e = .returned (.int .i64 0) ∧ GRes w w' i s gg g lab (G.set num (goneN (G.nd num))) [g.base + g.bitmap + (num - 1) / 2] := by
  have hn := gnode_ok h.tx h.gp h.ok h1 h2
  rw [h.is.nodeV h.gok h1 h2, h.is.nodeE h.gok h1 h2] at hn
  exact (wipe_ok h.tx h.gp (h.gok.dir num) hn (fun W hW hGW => gset_ok hW hGW h.ok h1 h2 rfl (check_gone _) (node_can h.ok hr h1 h2))).mono fun e w' ⟨he, hx, ht⟩ => ⟨he, h.res hx ht (is_set h.tx.ok h.ok h1 h2 rfl h.is) (h.gok.set num rfl (check_gone _))⟩
theorem gs_wipe_none {num : Int} (h : GAt w i s gg g lab G) (hn : num < 1 ∨ (g.nodes : Int) < num) :
    Calls Tryz.prog 104 #[.pointer (some ⟨gg, 0, none⟩), .int .i64 num] w fun e w' => e = .returned (.int .i64 27) ∧ GRes w w' i s gg g lab G [] :=
  (wipe_no h.tx rfl (by decide) (gnode_none h.tx h.gp hn)).mono fun e w' ⟨he, hx, ht⟩ => ⟨he, h.same hx ht⟩
theorem is_ncnt (h : s.Is g G) (hG : G.Ok) : s.ncnt g g.nodes = G.ncnt g.nodes := by
  unfold Sto.ncnt GS.ncnt
  rw [List.filter_congr fun x hx => by rw [h.nodeV hG (by omega) (by have := List.mem_range.1 hx; omega)]]
theorem gs_usage (h : GAt w i s gg g lab G) :
    Calls Tryz.prog 37 #[.pointer (some ⟨gg, 0, none⟩)] w fun e w' => e = .returned (.tuple #[.int .i64 (G.cnt g.blocks : Int), .int .i64 (G.ncnt g.nodes : Int), .int .i64 0]) ∧ GRes w w' i s gg g lab G [] := by
  have := usage_ok h.tx h.gp h.ok (h.is.nodesOk h.gok)
  rw [h.is.cnt, is_ncnt h.is h.gok] at this
  exact this.mono fun e w' ⟨he, hx, ht⟩ => ⟨he, h.same hx ht⟩
/-- which node is meant, as it is now -/
def GS.ino (G : GS) (lab : Int) (num : Nat) : Array Value := if (G.nd num).kind = 0 then inoC 0 0 0 else inoC (IntKind.u8.wrap lab) (IntKind.u16.wrap (num : Int)) ((G.nd num).gen.toNat : Int)
def GS.inoE (G : GS) (num : Nat) : Int := if (G.nd num).kind = 0 then 3 else 0
theorem gs_ino {num : Nat} (h : GAt w i s gg g lab G) (h1 : 1 ≤ num) (h2 : num ≤ g.nodes) :
    Calls Tryz.prog 74 #[.pointer (some ⟨gg, 0, none⟩), .int .i64 (num : Int)] w fun e w' => e = .returned (.tuple #[.agg (G.ino lab num), .int .i64 (G.inoE num)]) ∧ GRes w w' i s gg g lab G [] := by
  refine (ino_any (r := 0) (v := G.nd num) (x := G.ino lab num) (r' := G.inoE num) h.tx h.gp (h.gok.dir num) (fun h => absurd rfl h) (fun _ hk => ?_) (fun _ hk => ?_) (fun W hW hGW => ?_)).mono fun e w' ⟨he, hx, ht⟩ => ⟨he, h.same hx ht⟩
  · unfold GS.ino GS.inoE; rw [if_pos hk, if_pos hk]; exact ⟨rfl, rfl⟩
  · unfold GS.ino GS.inoE; rw [if_neg hk, if_neg hk]; exact ⟨rfl, rfl⟩
  · have hn := gnode_ok hW hGW h.ok h1 h2
    rwa [h.is.nodeV h.gok h1 h2, h.is.nodeE h.gok h1 h2] at hn
theorem gs_put_no {n : Nat} {b : BlkV} (h : GAt w i s gg g lab G) (hn : n < 65536) (hr : n < 1 ∨ g.blocks < n) :
    Calls Tryz.prog 94 #[.pointer (some ⟨gg, 0, none⟩), .int .u16 (n : Int), bval b] w fun e w' => e = .returned (.int .i64 27) ∧ GRes w w' i s gg g lab G [] :=
  (gput_no h.gp hn hr).mono fun e w' ⟨he, hb⟩ => ⟨he, h.same (h.tx.below hb) (Tch.of_below hb)⟩
theorem gs_get_no {n : Nat} (h : GAt w i s gg g lab G) (hn : n < 65536) (hr : n < 1 ∨ g.blocks < n) :
    Calls Tryz.prog 93 #[.pointer (some ⟨gg, 0, none⟩), .int .u16 (n : Int)] w fun e w' => e = .returned (.tuple #[bval zeroB, .int .i64 27]) ∧ GRes w w' i s gg g lab G [] :=
  (gget_no h.gp hn hr).mono fun e w' ⟨he, hb⟩ => ⟨he, h.same (h.tx.below hb) (Tch.of_below hb)⟩
theorem gs_give_no {n : Nat} (h : GAt w i s gg g lab G) (hn : n < 65536) (hr : n < 1 ∨ g.blocks < n) :
    Calls Tryz.prog 103 #[.pointer (some ⟨gg, 0, none⟩), .int .u16 (n : Int)] w fun e w' => e = .returned (.int .i64 27) ∧ GRes w w' i s gg g lab G [] :=
  (give_none h.gp hn hr).mono fun e w' ⟨he, hw⟩ => ⟨he, by rw [← hw]; exact h.same h.tx (Tch.refl _ _ _)⟩
end
end Go.Proofs.YthmkgohfeahdhaaGreat
namespace Go.Proofs.YthmkgohfeahdhaaGreat
open Go.RowKit
set_option linter.unusedSimpArgs false
set_option linter.unusedVariables false

theorem build_size (w : World) : (Instr.build 26 #[]).run Tryz.prog w = .ok (.agg (szCells 0 (List.replicate 25 0) none 0 0)) w := by kernel_rfl
/-- a configuration of small numbers: what the laws need of it -/
structure SzFacts (R : List RegV) (n : Nat) : Prop where
  tot : totalOf 32 R = (n : Int)
  ge : 32 ≤ n
  le : n ≤ 65536
  two : 2 ≤ R.length
  five : R.length ≤ 5
  geo : ∀ (k : Nat), k < R.length → ∃ (v : GeoV) (r : RegV), (geosOf 32 R)[k]? = some v ∧ R[k]? = some r ∧ (geoN v).Ok n ∧ (geoN v).val = .agg v.cells.toArray ∧ ((geoN v).blocks : Int) = r.blocks ∧ ((geoN v).nodes : Int) = r.nodes ∧ 4 ≤ (geoN v).blocks ∧ (geoN v).blocks ≤ 512 ∧ 4 ≤ (geoN v).nodes ∧ (geoN v).nodes ≤ 128
theorem sz_facts {m : UInt8} {H : List UInt8} (hok : ∀ r ∈ szRegs m H, okReg r) : ∃ n, SzFacts (szRegs m H) n := by
  have h2 := szMany_ge m
  have h5 := szMany_le m
  have hl := szRegs_length m H
  have htb := total_bounds hok 32 (by omega)
  have hge := tot_ge hok 32
  generalize szRegs m H = R at *
  refine ⟨(totalOf 32 R).toNat, by omega, by omega, by omega, by omega, by omega, fun k hk => ?_⟩
  have hv : (geosOf 32 R)[k]? = some ((geosOf 32 R)[k]'(by rw [geosOf_length]; exact hk)) := List.getElem?_eq_getElem _
  obtain ⟨h1, h2, r, hr, h3, h4⟩ := geos_ok hok 32 k _ (by omega) (by omega) hv
  obtain ⟨_, b1, b2, b3, b4⟩ := hok r (List.mem_of_getElem? hr)
  exact ⟨_, r, hv, hr, h1, h2, h3, h4, by omega, by omega, by omega, by omega⟩

end Go.Proofs.YthmkgohfeahdhaaGreat
namespace Go.Proofs.YthmkgohfeahdhaaGreat
open Go.RowKit
set_option linter.unusedSimpArgs false
set_option linter.unusedVariables false

/-- a node that is there from the beginning -/
def freshN (k : UInt8) : NodeV := { NodeV.zero with kind := k, links := 1, gen := 1 }
def GS.freshTo : Nat → GS
  | 0 => GS.none
  | 1 => GS.none.set 1 (freshN 2)
  | 2 => (GS.none.set 1 (freshN 2)).set 2 (freshN 1)
  | _ => ((GS.none.set 1 (freshN 2)).set 2 (freshN 1)).set 3 (freshN 1)
/-- a group with its own nodes -/
def GS.fresh : GS := GS.freshTo 3
theorem GS.freshTo_ok : ∀ q, (GS.freshTo q).Ok
  | 0 => none_ok
  | 1 => none_ok.set 1 rfl rfl
  | 2 => (none_ok.set 1 rfl rfl).set 2 rfl rfl
  | _ + 3 => ((none_ok.set 1 rfl rfl).set 2 rfl rfl).set 3 rfl rfl
theorem GS.fresh_ok : GS.fresh.Ok := GS.freshTo_ok 3
theorem build_fresh (w : World) (k : UInt8) : (Instr.build 130 #[(0, .int .u8 (k.toNat : Int)), (1, .int .u8 1), (2, .int .u16 1)]).run Tryz.prog w = .ok (freshN k).val w := by kernel_rfl

/-- a configuration: what the laws need of it -/
structure CfFacts (R : List RegV) (n : Nat) : Prop where
  tot : totalOf 32 R = (n : Int)
  ge : 32 ≤ n
  le : n ≤ 65536
  geo : ∀ (k : Nat), k < R.length → ∃ (v : GeoV) (r : RegV), (geosOf 32 R)[k]? = some v ∧ R[k]? = some r ∧ (geoN v).Ok n ∧ (geoN v).val = .agg v.cells.toArray ∧ ((geoN v).blocks : Int) = r.blocks ∧ ((geoN v).nodes : Int) = r.nodes ∧ 4 ≤ (geoN v).blocks ∧ (geoN v).blocks ≤ 512 ∧ 4 ≤ (geoN v).nodes ∧ (geoN v).nodes ≤ 128
  apart : ∀ (j k : Nat) (v v' : GeoV), (geosOf 32 R)[j]? = some v → (geosOf 32 R)[k]? = some v' → j < k → (geoN v).data + (geoN v).blocks ≤ (geoN v').base
theorem geos_from {R : List RegV} (hok : ∀ r ∈ R, okReg r) : ∀ (a : Int) (k : Nat) (v : GeoV), (geosOf a R)[k]? = some v → a ≤ v.base := by
  induction R with
  | nil => intro a k v h; simp [geosOf] at h
  | cons r R ih =>
    intro a k v h
    cases k with
    | zero => simp only [geosOf, List.getElem?_cons_zero, Option.some.injEq] at h; subst h; exact Int.le_refl _
    | succ k =>
      simp only [geosOf, List.getElem?_cons_succ] at h
      have h1 := ih (fun x hx => hok x (by simp [hx])) _ k v h
      obtain ⟨_, k1, k2, k3, k4⟩ := hok r (by simp)
      have h2 : a ≤ (geoOf a r).end_ := by simp only [geoOf, GeoV.end_]; omega
      omega
theorem geos_apart {R : List RegV} (hok : ∀ r ∈ R, okReg r) : ∀ (a : Int) (j k : Nat) (v v' : GeoV), 0 ≤ a → (geosOf a R)[j]? = some v → (geosOf a R)[k]? = some v' → j < k → (geoN v).data + (geoN v).blocks ≤ (geoN v').base := by
  induction R with
  | nil => intro a j k v v' _ h; simp [geosOf] at h
  | cons r R ih =>
    intro a j k v v' ha h h' hjk
    obtain ⟨_, k1, k2, k3, k4⟩ := hok r (by simp)
    have h2 : a ≤ (geoOf a r).end_ := by simp only [geoOf, GeoV.end_]; omega
    obtain ⟨k, rfl⟩ : ∃ m, k = m + 1 := ⟨k - 1, by omega⟩
    simp only [geosOf, List.getElem?_cons_succ] at h'
    cases j with
    | zero =>
      simp only [geosOf, List.getElem?_cons_zero, Option.some.injEq] at h
      subst h
      have h3 := geos_from (fun x hx => hok x (by simp [hx])) _ k v' h'
      simp only [geoN, geoOf, GeoV.end_] at h3 ⊢
      omega
    | succ j =>
      simp only [geosOf, List.getElem?_cons_succ] at h
      exact ih (fun x hx => hok x (by simp [hx])) _ j k v v' (by omega) h h' (by omega)
theorem cf_facts {R : List RegV} (hok : ∀ r ∈ R, okReg r) (hl : R.length ≤ 5) : ∃ n, CfFacts R n := by
  have htb := total_bounds hok 32 (by omega)
  have hge := tot_ge hok 32
  refine ⟨(totalOf 32 R).toNat, by omega, by omega, by omega, fun k hk => ?_, fun j k v v' h h' hjk => geos_apart hok 32 j k v v' (by omega) h h' hjk⟩
  have hv : (geosOf 32 R)[k]? = some ((geosOf 32 R)[k]'(by rw [geosOf_length]; exact hk)) := List.getElem?_eq_getElem _
  obtain ⟨h1, h2, r, hr, h3, h4⟩ := geos_ok hok 32 k _ (by omega) (by omega) hv
  obtain ⟨_, b1, b2, b3, b4⟩ := hok r (List.mem_of_getElem? hr)
  exact ⟨_, r, hv, hr, h1, h2, h3, h4, by omega, by omega, by omega, by omega⟩
theorem SzFacts.cf {R : List RegV} {n : Nat} (h : SzFacts R n) (hok : ∀ r ∈ R, okReg r) : CfFacts R n :=
  ⟨h.tot, h.ge, h.le, h.geo, fun j k v v' h h' hjk => geos_apart hok 32 j k v v' (by omega) h h' hjk⟩
/-- the groups of a disk are what is said of each -/
def AllIs (R : List RegV) (D : List BlkV) (F : Nat → GS) : Prop := ∀ (k : Nat) (v : GeoV), (geosOf 32 R)[k]? = some v → Sto.Is ⟨D, [], 0⟩ (geoN v) (F k)
theorem CfFacts.sep {R : List RegV} {n : Nat} (h : CfFacts R n) {j k : Nat} {v v' : GeoV} (hv : (geosOf 32 R)[j]? = some v) (hv' : (geosOf 32 R)[k]? = some v') (hjk : j ≠ k) :
    (geoN v').data + (geoN v').blocks ≤ (geoN v).base ∨ (geoN v).data + (geoN v).blocks ≤ (geoN v').base := by
  rcases Nat.lt_or_gt_of_ne hjk with h1 | h1
  · exact .inr (h.apart j k v v' hv hv' h1)
  · exact .inl (h.apart k j v' v hv' hv h1)
theorem CfFacts.geo_ok {R : List RegV} {n : Nat} (h : CfFacts R n) {k : Nat} {v : GeoV} (hv : (geosOf 32 R)[k]? = some v) : (geoN v).Ok n := by
  have hk : k < R.length := by have := (List.getElem?_eq_some_iff.1 hv).1; rwa [geosOf_length] at this
  obtain ⟨v', r, hv', _, h1, _⟩ := h.geo k hk
  rw [hv] at hv'
  cases hv'
  exact h1
/-- a transaction in one group is written: the others are what they were -/
theorem AllIs.commit {R : List RegV} {n : Nat} {D : List BlkV} {F : Nat → GS} {s : Sto} {j : Nat} {v : GeoV} {G : GS} {L : List Nat} {l : List Nat} (h : AllIs R D F) (hc : CfFacts R n) (hs : s.Ok) (hv : (geosOf 32 R)[j]? = some v)
    (hst : Sto.Step ⟨D, [], 0⟩ s (geoN v) L) (hi : s.Is (geoN v) G) (hp : l.Perm (s.M.map (·.1))) : AllIs R (commitD s l) (upd F j G) := by
  intro k v' hv'
  have hu := hc.geo_ok hv'
  by_cases hjk : k = j
  · subst hjk
    rw [hv] at hv'
    cases hv'
    rw [upd_same]
    exact hi.commit hu hs hp
  · rw [upd_other _ _ hjk]
    exact ((h k v' hv').far hu hst (hc.sep hv hv' (fun e => hjk e.symm))).commit hu hs hp
theorem Tch.txn {B : Nat} {w0 w w' : World} {i : Ids} (h : Tch B (fun x => x = i.dd ∨ x = i.rr) w0 w) (ht : Tch w.heap.size i.own w w') (h1 : w.heap.size ≤ i.tt) (h2 : w.heap.size ≤ i.mm) (hB : B ≤ w.heap.size) : Tch B (fun x => x = i.dd ∨ x = i.rr) w0 w' :=
  h.trans (ht.mono hB fun k hk hs => by
    rcases hs with e | e | e | e
    · omega
    · omega
    · exact .inl e
    · exact .inr e)

theorem Tch.txn2 {B mq : Nat} {w0 w w' : World} {i ii : Ids} (hii : Ids.mk ii.tt mq i.ll i.dd i.rr = ii ∧ w.heap.size ≤ ii.tt ∧ w.heap.size ≤ mq) (h : Tch B (fun x => x = i.dd ∨ x = i.rr) w0 w) (ht : Tch w.heap.size ii.own w w') (hB : B ≤ w.heap.size) : Tch B (fun x => x = i.dd ∨ x = i.rr) w0 w' :=
  h.trans (ht.mono hB fun k hk hs => by
    obtain ⟨h1, h2, h3⟩ := hii
    rcases hs with e | e | e | e
    · omega
    · rw [← h1] at e; simp only at e; omega
    · rw [← h1] at e; exact .inl e
    · rw [← h1] at e; exact .inr e)
theorem LogAt.ids {w : World} {mq : Nat} {i ii : Ids} {D : List BlkV} (hii : Ids.mk ii.tt mq i.ll i.dd i.rr = ii) (h : LogAt w ii.ll ii.dd ii.rr D) : LogAt w i.ll i.dd i.rr D := by
  rw [← congrArg Ids.ll hii, ← congrArg Ids.dd hii, ← congrArg Ids.rr hii] at h
  exact h
def GeoN.zero : GeoN := ⟨0, 0, 0, 0, 0, 0⟩
theorem zero_geo (w : World) : (zeroValue 169).run Tryz.prog w = .ok (.agg GeoN.zero.cells.toArray) w := by kernel_rfl
/-- the kinds of a group's own nodes -/
def freshK (q : Nat) : UInt8 := if q = 0 then 2 else 1
theorem freshTo_succ : ∀ q, q < 3 → GS.freshTo (q + 1) = (GS.freshTo q).set (q + 1) (freshN (freshK q)) ∧ checkN (freshN (freshK q)) = true
  | 0, _ => ⟨rfl, rfl⟩
  | 1, _ => ⟨rfl, rfl⟩
  | 2, _ => ⟨rfl, rfl⟩
section
variable {B : Nat} {w w' : World} {c : Nat} {R : List RegV} {K : List MarkV} {tb nb lb : Nat} {A1 A2 A3 : Option Addr} {c1 c2 c3 : Nat}
set_option maxRecDepth 100000 in
set_option maxHeartbeats 3200000 in
theorem fresh_all {n : Nat} (hin : ConfIn B w c R K tb nb lb A1 A2 A3 c1 c2 c3) (hF : CfFacts R n) (hR5 : R.length ≤ 5) :
    Calls Tryz.prog 16 #[.pointer (some ⟨c, 0, none⟩)] w fun e w' => ∃ (i : Ids) (D : List BlkV), e = .returned (.tuple #[.pointer (some ⟨i.dd, 0, none⟩), .pointer (some ⟨i.ll, 0, none⟩), .pointer (some ⟨i.tt, 0, none⟩)]) ∧ TxAt w' i ⟨D, [], 0⟩ ∧ D.length = n ∧ AllIs R D (fun _ => GS.fresh) ∧ (∀ k, i.own k → w.heap.size ≤ k) ∧ w.heap.size ≤ i.ll ∧ Below w.heap.size w w' := by
  have hbeg := begun_ok (w := w) hin hF.tot hF.ge hF.le
  have HIN := hide hin
  have HF := hide hF
  clear hin hF
  go_enter Tryz.func16, Tryz.ntmps16
  go_wp2_with fail
  refine hbeg.mono ?_
  rintro e w1 ⟨i, rfl, hx, hown, hll, hb1⟩
  have HIN1 := hide (HIN.out.below hb1)
  have HL1 := hide hx.log
  have HB1 := hide hb1
  have HOWN := hide (And.intro hown hll)
  clear hx hown hll hb1 hbeg
  go_wp2_with fail
  refine (len_ok HIN1.out).mono ?_
  rintro e w_ ⟨rfl, hw_⟩
  have hw_ := hw_.symm
  subst hw_
  go_wp2_with fail
  go_loopg [22] R.length (fun gh x22 wr => ∃ (j : Nat) (Dk : List BlkV), j ≤ R.length ∧ gh = R.length - j ∧ x22 = .int .i64 (j : Int) ∧ Hid (Tch w1.heap.size (fun x => x = i.dd ∨ x = i.rr) w1 wr) ∧ Hid (LogAt wr i.ll i.dd i.rr Dk) ∧ Hid (Dk.length = n ∧ AllIs R Dk (fun k => if k < j then GS.fresh else GS.none)))
  case atStart =>
    exact ⟨0, begD n, Nat.zero_le _, rfl, rfl, hide (Tch.refl _ _ _), HL1, hide ⟨begD_length _, fun k v hv => begun_is (HF.out.geo_ok hv)⟩⟩
  case round =>
    obtain ⟨j, Dk, hj, hgh, rfl, HT, HL, HI⟩ := hrel
    have HGH := hide hgh
    clear hgh
    have HD32 := hide (show 32 ≤ Dk.length from by rw [HI.out.1]; exact HF.out.ge)
    have HBr : Hid (Below w.heap.size w wr) := hide (HB1.out.trans ((HT.out.mono HB1.out.size (S' := fun _ => False) (fun k hk h => by
      rcases h with h | h
      · have := HOWN.out.1 k (.inr (.inr (.inl h))); omega
      · have := HOWN.out.1 k (.inr (.inr (.inr h))); omega)).below fun _ _ h => h))
    rcases Nat.lt_or_ge j R.length with hjl | hjl
    · have hjz : (j : Int) < (R.length : Int) := by omega
      obtain ⟨v, r, hv, hr, hgo, hval, -, -, g4, g512, n4, n128⟩ := HF.out.geo j hjl
      go_wp2_with fail
      refine (begin_ok HL.out HD32.out).mono ?_
      rintro e w7 ⟨tt, mm, rfl, htt, hmm, hx7, hb7⟩
      obtain ⟨ii, hii⟩ : ∃ ii : Ids, Ids.mk tt mm i.ll i.dd i.rr = ii := ⟨_, rfl⟩
      have htt' : tt = ii.tt := by rw [← hii]
      rw [hii] at hx7
      subst htt'
      have hgeo := geo_ok (HIN.out.below (HBr.out.trans (hb7.mono HBr.out.size))) hv
      obtain ⟨u, hu⟩ : ∃ u, geoN v = u := ⟨_, rfl⟩
      have hval2 : (Value.agg #[.int .i64 v.base, .int .i64 v.bitmap, .int .i64 v.table, .int .i64 v.data, .int .i64 v.blocks, .int .i64 v.nodes]) = .agg u.cells.toArray := by rw [← hu]; exact hval.symm
      rw [hval2] at hgeo
      rw [hu] at hgo n4
      have HX7 := hide hx7
      have HB7 := hide hb7
      have HII := hide (And.intro hii (And.intro htt hmm))
      have HGE := hide hgeo
      have HV := hide (And.intro hv hu)
      have HGO := hide (And.intro hgo n4)
      clear hii htt hmm hx7 hb7 hgeo hu hval2 hval hv hr hgo g4 g512 n4 n128
      go_wp2_with fail
      refine HGE.out.mono ?_
      rintro e w8 ⟨rfl, hb8⟩
      have HX8 := hide (HX7.out.below hb8)
      have HB8 := hide (HB7.out.trans (hb8.mono HB7.out.size))
      clear hb8 HX7 HB7 HGE
      go_upto_region 7 with (first | ((with_reducible refine at_alloc 169 ?_); refine wpList_alloc_as rfl 169 rfl _ (zero_geo _) ?_) | ((with_reducible refine at_store 169 (.tmp 10) (.tmp 31) ?_); refine wpList_store_blk rfl 169 (.tmp 10) (.tmp 31) rfl w8.heap.size _ _ _ (by rfl) (by rfl) (Blk.new _ _ _) (size_geo u) rfl (geo_one u) (fun _ => ?_)) | fail)
      refine at_world (fun W => ∃ p, p = w8.heap.size ∧ Below w8.heap.size w8 W ∧ Blk W p 169 u.cells.toArray) ⟨_, rfl, below_setRow ((Below.refl _ _).alloc (Nat.le_refl _) _) (Nat.le_refl _) _, (Blk.new _ _ _).setRow_same _⟩ (fun w9 h9 => ?_)
      obtain ⟨p, hp, hb9, hP⟩ := h9
      rw [← hp]
      have HX9 := hide (HX8.out.below hb9)
      have HB9 := hide (HB8.out.trans (hb9.mono HB8.out.size))
      have HP9 := hide hP
      clear hp hb9 hP HX8 HB8
      go_wp2_with fail
      refine at_world (fun W => ∃ kb, kb = w9.heap.size ∧ kb < W.heap.size ∧ Below w9.heap.size w9 W ∧ ∀ q, q < 3 → W.cell? ⟨kb, q, none⟩ = some (.int .u8 ((freshK q).toNat : Int))) ⟨_, rfl, by simp, (Below.refl _ _).alloc (Nat.le_refl _) _, fun q hq => by
        obtain rfl | rfl | rfl : q = 0 ∨ q = 1 ∨ q = 2 := by omega
        · exact (Blk.new w9 _ _).cell 0
        · exact (Blk.new w9 _ _).cell 1
        · exact (Blk.new w9 _ _).cell 2⟩ (fun w10 h10 => ?_)
      obtain ⟨kb, hkb, kbl, hb10, hK10⟩ := h10
      rw [← hkb]
      have HX10 := hide (HX9.out.below hb10)
      have HB10 := hide (HB9.out.trans (hb10.mono HB9.out.size))
      have HP10 := hide (HP9.out.below hb10 HP9.out.lt)
      have HK10 := hide hK10
      have HKO := hide (show ¬ ii.own kb from fun hk => HX9.out.other_new (Nat.le_of_eq hkb.symm) hk)
      have HPO := hide (show ¬ ii.own p from HX10.out.other HP10.out (by decide) (by decide) (by decide))
      clear hkb hb10 hK10 HX9 HB9 HP9
      go_loopg [35] 3 (fun gh x35 wq => ∃ (q : Nat) (s : Sto) (L : List Nat), q ≤ 3 ∧ gh = 3 - q ∧ x35 = .int .i64 (q : Int) ∧ Hid (TxAt wq ii s) ∧ Hid (Tch w10.heap.size ii.own w10 wq) ∧ Hid (Sto.Step ⟨Dk, [], 0⟩ s u L ∧ s.Is u (GS.freshTo q) ∧ s.M.length ≤ q))
      case atStart =>
        refine ⟨0, _, [], by omega, rfl, rfl, HX10, hide (Tch.refl _ _ _), hide ⟨Sto.Step.refl _ _ _, ?_, Nat.le_refl _⟩⟩
        have := HI.out.2 j v HV.out.1
        rw [HV.out.2] at this
        have e : (if j < j then GS.fresh else GS.none) = GS.freshTo 0 := if_neg (by omega)
        simp only [e] at this
        exact this
      case round =>
        obtain ⟨q, s, L, hq, hgq, rfl, HXq, HTq, HSq⟩ := hrel
        have HGQ := hide hgq
        clear hgq
        have kbl' : kb < _ := Nat.lt_of_lt_of_le kbl HTq.out.size
        rcases Nat.lt_or_ge q 3 with hq3 | hq3
        · have hqz : (q : Int) < 3 := by omega
          have y := (World.cell?_of_block (w := w10) (a := ⟨kb, q, none⟩) (HTq.out.block kb kbl HKO.out)).trans (HK10.out q hq3)
          have HPq := hide (HP10.out.tch HTq.out HP10.out.lt HPO.out)
          have hD : s.D.length = n := by rw [HSq.out.1.D]; exact HI.out.1
          have hug : u.Ok s.D.length := by rw [hD]; exact HGO.out.1
          have hn4 := HGO.out.2
          obtain ⟨hfs, hck⟩ := freshTo_succ q hq3
          have hwr := write_node (num := q + 1) (n := freshN (freshK q)) HXq.out hug (by omega) (by omega) rfl hck (node_can hug (by have := HSq.out.2.2; omega) (by omega) (by omega))
          have hst := is_set (v := freshN (freshK q)) HXq.out.ok hug (by omega) (by omega) rfl HSq.out.2.1 (num := q + 1)
          have hbf := fun W => build_fresh W (freshK q)
          rw [← hfs] at hst
          rw [show ((q + 1 : Nat) : Int) = (q : Int) + 1 from by omega] at hwr
          have hml : (s.setNode u (q + 1) (freshN (freshK q))).M.length ≤ q + 1 := by
            unfold Sto.setNode
            have := Sto.put_len s (u.base + u.bitmap + (q + 1 - 1) / 2) (wrB (s.at_ (u.base + u.bitmap + (q + 1 - 1) / 2)) ((q + 1 - 1) % 2 * 32) (encN (freshN (freshK q))))
            have := HSq.out.2.2
            omega
          have HST := hide (And.intro (HSq.out.1.trans hst.2) (And.intro hst.1 hml))
          have e1 : IntKind.i64.wrap ((q : Int) + 1) = (q : Int) + 1 := IntWalk.i64_in _ (by omega)
          generalize s.setNode u (q + 1) (freshN (freshK q)) = s2 at hwr HST
          generalize freshK q = kk at y hwr hbf
          have HWR := hide hwr
          have HBF := hide hbf
          clear hfs hck hwr hst hbf hml hD hug hn4 HSq
          go_wp2_with (first | ((with_reducible refine at_load 169 (.tmp 10) ?_); refine wpList_load_blk rfl 169 (.tmp 10) rfl p _ _ _ (by rfl) HPq.out Tryz.underlying169 rfl (size_geo u) ?_) | ((with_reducible refine at_build 130 #[(0, .tmp 44), (1, .const (.int .u8 1)), (2, .const (.int .u16 1))] ?_); refine wpList_run rfl _ (exec_build 130 #[(0, .tmp 44), (1, .const (.int .u8 1)), (2, .const (.int .u16 1))] rfl #[(0, .int .u8 (kk.toNat : Int)), (1, .int .u8 1), (2, .int .u16 1)] (by simp only [List.map_toArray, List.map_cons, List.map_nil]; rfl) _ (HBF.out _)) ?_) | fail)
          refine HWR.out.mono ?_
          rintro e w11 ⟨rfl, hx11, ht11⟩
          have HX11 := hide hx11
          have HT11 := hide (HTq.out.trans (ht11.mono HTq.out.size fun _ _ h => h))
          clear hx11 ht11 HWR y kbl' HPq
          go_wp2
          go_roundg (3 - (q + 1))
          case rel => exact ⟨q + 1, s2, _, by omega, rfl, by first | rfl | go_num, HX11, HT11, HST⟩
          case measure => have := HGQ.out; omega
        · have hqe : q = 3 := by omega
          subst hqe
          clear kbl'
          have hcom := commit_ok HXq.out HSq.out.1.bad
          have HCOM := hide hcom
          clear hcom
          go_wp2_with fail
          refine HCOM.out.mono ?_
          rintro e w12 ⟨l, rfl, hp, hx12, ht12⟩
          have hDl : (commitD s l).length = n := by rw [commit_len, HSq.out.1.D]; exact HI.out.1
          have hall := AllIs.commit HI.out.2 HF.out HXq.out.ok HV.out.1 (by rw [HV.out.2]; exact HSq.out.1) (by rw [HV.out.2]; exact HSq.out.2.1) hp
          have hall2 : AllIs R (commitD s l) (fun k => if k < j + 1 then GS.fresh else GS.none) := fun k v hv => by
            have := hall k v hv
            have e : upd (fun k => if k < j then GS.fresh else GS.none) j (GS.freshTo 3) k = if k < j + 1 then GS.fresh else GS.none := by
              unfold upd
              by_cases h1 : k = j
              · rw [if_pos h1, if_pos (by omega)]; rfl
              · rw [if_neg h1]
                by_cases h2 : k < j
                · simp only [if_pos h2, if_pos (show k < j + 1 by omega)]
                · simp only [if_neg h2, if_neg (show ¬ k < j + 1 by omega)]
            rwa [e] at this
          have e := HII.out.1
          have HL12 : Hid (LogAt w12 i.ll i.dd i.rr (commitD s l)) := hide (by
            have h := hx12.log
            rw [← congrArg Ids.ll e, ← congrArg Ids.dd e, ← congrArg Ids.rr e] at h
            exact h)
          have hT := (Tch.of_below (S := ii.own) HB10.out).trans ((HTq.out.trans (ht12.mono HTq.out.size fun _ _ h => h)).mono HB10.out.size fun _ _ h => h)
          have HT12 : Hid (Tch w1.heap.size (fun x => x = i.dd ∨ x = i.rr) w1 w12) := hide (HT.out.trans (hT.mono HT.out.size (fun k hk h => by
            have h1 := HII.out.2.1
            have h2 := HII.out.2.2
            have h3 := HT.out.size
            rcases h with h | h | h | h
            · omega
            · rw [← e] at h; simp only at h; omega
            · rw [← e] at h; exact .inl h
            · rw [← e] at h; exact .inr h)))
          have HI12 := hide (And.intro hDl hall2)
          clear hp hx12 ht12 hDl hall hall2 e hT HCOM HSq
          go_wp2
          go_roundg (R.length - (j + 1))
          case rel => exact ⟨j + 1, _, by omega, rfl, by first | rfl | go_num, HT12, HL12, HI12⟩
          case measure => have := HGH.out; omega
    · have hje : decide ((j : Int) < R.length) = false := by simp; omega
      have hjR : R.length = j := by omega
      go_wp2_with fail
      refine (begin_ok HL.out HD32.out).mono ?_
      rintro e w7 ⟨tt, mm, rfl, htt, hmm, hx7, hb7⟩
      have HF7 := hide (And.intro hx7 (And.intro (HBr.out.trans (hb7.mono HBr.out.size)) (show (∀ k, Ids.own ⟨tt, mm, i.ll, i.dd, i.rr⟩ k → w.heap.size ≤ k) from by
        have := HBr.out.size
        have h1 := HOWN.out.1 i.dd (.inr (.inr (.inl rfl)))
        have h2 := HOWN.out.1 i.rr (.inr (.inr (.inr rfl)))
        rintro k (e | e | e | e) <;> simp only at e <;> omega)))
      have HJ := hide hjR
      clear htt hmm hx7 hb7 hjR
      go_wp2
      go_returns
      refine ⟨⟨tt, mm, i.ll, i.dd, i.rr⟩, Dk, rfl, HF7.out.1, HI.out.1, fun k v hv => ?_, HF7.out.2.2, HOWN.out.2, HF7.out.2.1⟩
      have hk : k < R.length := by have := (List.getElem?_eq_some_iff.1 hv).1; rwa [geosOf_length] at this
      have := HI.out.2 k v hv
      have e : (if k < j then GS.fresh else GS.none) = GS.fresh := if_pos (by have := HJ.out; omega)
      simp only [e] at this
      exact this
end
end Go.Proofs.YthmkgohfeahdhaaGreat
namespace Go.Proofs.YthmkgohfeahdhaaGreat
open Go.RowKit
set_option linter.unusedSimpArgs false
set_option linter.unusedVariables false

/-- an operation of a quiet region, by its run -/
theorem quiet_exec {P : Program} {C : World → Prop} {a : Act} {o : Oper} {K : Act → Prop} {v : Value} (h : ∀ w, C w → (execOp a.eval o).run P w = .ok (.value v) w) (hk : K (a.put o.dst v)) : o.quiet P a C K :=
  ⟨v, fun w hw => by unfold Oper.quietAt; rw [h w hw]; exact ⟨rfl, rfl⟩, hk⟩
theorem flatB_one (D : List BlkV) : ∀ u ∈ flatB D, u.oneCell' = true := by
  intro u hu
  simp only [flatB, List.mem_flatten, List.mem_map] at hu
  obtain ⟨l, ⟨b, _, rfl⟩, hu⟩ := hu
  exact bvs_one b u hu
/-- a row of blocks, read at one -/
theorem Rd.block {w : World} {B n : Nat} {A : Option Addr} {D : List BlkV} (h : Rd w B 64 A n (flatB D)) (hD : ∀ b ∈ D, b.length = 64) {k : Nat} {b : BlkV} (hk : D[k]? = some b) :
    ∃ g o, A = some ⟨g, o, none⟩ ∧ g < B ∧ w.rangeAt g (o + k * 64) (bvs b) := by
  have hn : n = D.length := by have := h.1; rw [flatB_length hD] at this; omega
  have hkl : k < D.length := (List.getElem?_eq_some_iff.1 hk).1
  obtain ⟨g, o, hA, hg, hc⟩ := h.2 (by omega)
  refine ⟨g, o, hA, hg, fun j v hj => ?_⟩
  have hb : b.length = 64 := hD b (List.mem_of_getElem? hk)
  have hj64 : j < 64 := by have := (List.getElem?_eq_some_iff.1 hj).1; rw [bvs_length, hb] at this; exact this
  have := hc (64 * k + j) v (by rw [flatB_get hD hk hj64]; exact hj)
  rw [show o + k * 64 + j = o + (64 * k + j) from by omega]
  exact this
section
variable {w w' : World} {dd rr : Nat} {D : List BlkV}
set_option maxRecDepth 100000 in
theorem image_ok (h : DiskAt w dd rr D) :
    Calls Tryz.prog 75 #[.pointer (some ⟨dd, 0, none⟩)] w fun e w' => ∃ (A : Option Addr) (c : Nat), e = .returned (.slice A D.length c) ∧ Rd w' w'.heap.size 64 A D.length (flatB D) ∧ Below w.heap.size w w' ∧ (∀ b, A = some b → w.heap.size ≤ b.block) := by
  obtain ⟨wr, rd, hd⟩ := h.disk
  obtain ⟨i, hi1, hi2, hi3, hi4⟩ := info_block
  have hR : Rd w w.heap.size 64 (some ⟨rr, 0, none⟩) D.length (flatB D) := ⟨by rw [flatB_length h.len, Nat.mul_comm], fun _ => ⟨rr, 0, rfl, h.row.lt, fun j u hu => by
    have := h.row.cell j
    rw [List.getElem?_toArray, hu] at this
    rw [Nat.zero_add]
    exact this⟩⟩
  have hm := h.most
  have HR := hide hR
  have HM := hide hm
  have HI := hide (And.intro hi1 (And.intro hi2 (And.intro hi3 hi4)))
  have c0 := hd.cell 0
  have cl := hd.lt
  clear hR h hd hi1 hi2 hi3 hi4 hm
  go_enter Tryz.func75, Tryz.ntmps75
  go_wp2_with (at_builtin; refine wpList_append_rd _ rfl (.tmp 5) (.tmp 9) 162 rfl w.heap.size 106 i (bval zeroB) 64 64 Tryz.underlying162 HI.out.1 HI.out.2.1 HI.out.2.2.1 HI.out.2.2.2 (bvs_size zeroB_length) (by decide) (.slice (some ⟨w.heap.size, 0, none⟩) 0 0) 0 _ rfl (own_lit rfl (by simp) (by simp) (by simp [maxLen]) (by simp)) w.heap.size (some ⟨rr, 0, none⟩) D.length D.length (flatB D) rfl (HR.out.alloc (Nat.le_refl _) _) (flatB_one D) (by have := HM.out; simp only [maxLen]; omega) (by have := HM.out; omega) (by simp) ?_; intro v' w' hown hg hnil hat)
  obtain ⟨A, c, rfl, hnc, hcm, hn0⟩ := own_form hown
  simp only [Nat.zero_add, List.nil_append] at hown
  have HF := hide (And.intro hown (((Below.refl _ _).alloc (Nat.le_refl _) _).grown hg (by simp) (by simp [Value.ownBlock])))
  clear hown hg hnil hat hnc hcm hn0
  simp only [Nat.zero_add]
  go_wp2
  go_returns
  exact ⟨A, ⟨c, by simp⟩, Rd.of_own HF.out.1, HF.out.2, fun b hb => (HF.out.1.lt b.block (by simp [Value.ownBlock, hb])).1⟩
end
end Go.Proofs.YthmkgohfeahdhaaGreat

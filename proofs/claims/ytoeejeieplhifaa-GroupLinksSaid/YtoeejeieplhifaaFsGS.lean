/- A group's calls, over a group as it is meant. -/
import Derived.Test.YtoeejeieplhifaaFsGrp5
import Derived.Test.YtoeejeieplhifaaFsView
namespace Go.Proofs.Ytoeejeieplhifaa
open Go.RowKit
set_option linter.unusedSimpArgs false
set_option linter.unusedVariables false

/-- a group lies open, over a transaction -/
structure GAt (w : World) (i : Ids) (s : Sto) (gg : Nat) (g : GeoN) (lab : Int) (G : GS) : Prop where
  tx : TxAt w i s
  gp : GroupAt w gg i.tt g lab
  ok : g.Ok s.D.length
  is : s.Is g G
  gok : G.Ok
/-- what a call on it leaves -/
def GRes (w w' : World) (i : Ids) (s : Sto) (gg : Nat) (g : GeoN) (lab : Int) (G' : GS) (L : List Nat) : Prop :=
  ∃ s', GAt w' i s' gg g lab G' ∧ s.Step s' g L ∧ Tch w.heap.size i.own w w'
section
variable {w w' : World} {i : Ids} {s : Sto} {gg : Nat} {g : GeoN} {lab : Int} {G G' : GS} {L : List Nat}
theorem GAt.below (h : GAt w i s gg g lab G) (hb : Below w.heap.size w w') : GAt w' i s gg g lab G := ⟨h.tx.below hb, h.gp.below hb, h.ok, h.is, h.gok⟩
theorem GAt.res (h : GAt w i s gg g lab G) {s' : Sto} (hx : TxAt w' i s') (ht : Tch w.heap.size i.own w w') (hi : s'.Is g G' ∧ s.Step s' g L) (hk : G'.Ok) : GRes w w' i s gg g lab G' L :=
  ⟨s', ⟨hx, h.gp.tch h.tx ht, by rw [hi.2.D]; exact h.ok, hi.1, hk⟩, hi.2, ht⟩
theorem GAt.same (h : GAt w i s gg g lab G) (hx : TxAt w' i s) (ht : Tch w.heap.size i.own w w') : GRes w w' i s gg g lab G L :=
  h.res hx ht ⟨h.is, Sto.Step.refl _ _ _⟩ h.gok
theorem gs_take_full (h : GAt w i s gg g lab G) (hf : G.free g.blocks = none) :
    Calls Try.prog 20 #[.pointer (some ⟨gg, 0, none⟩)] w fun e w' => e = .returned (.tuple #[.int .u16 0, .int .i64 10]) ∧ GRes w w' i s gg g lab G [] :=
  (take_full h.tx h.gp h.ok (by rw [h.is.free]; exact hf)).mono fun e w' ⟨he, hx, ht⟩ => ⟨he, h.same hx ht⟩
theorem gs_free_lt {m k : Nat} (hf : G.free m = some k) : k < m := List.mem_range.1 (List.mem_of_find?_eq_some hf)
theorem gs_take {k : Nat} (h : GAt w i s gg g lab G) (hr : s.M.length ≤ 28) (hf : G.free g.blocks = some k) :
    Calls Try.prog 20 #[.pointer (some ⟨gg, 0, none⟩)] w fun e w' => e = .returned (.tuple #[.int .u16 ((k + 1 : Nat) : Int), .int .i64 0]) ∧ GRes w w' i s gg g lab (G.take k) [g.base + k / 512, g.data + k] :=
  (take_ok h.tx h.gp h.ok hr (by rw [h.is.free]; exact hf) (gs_free_lt hf)).mono fun e w' ⟨he, hx, ht⟩ => ⟨he, h.res hx ht (is_take h.tx.ok h.ok (gs_free_lt hf) h.is) (h.gok.take k)⟩
theorem gs_give {k : Nat} (h : GAt w i s gg g lab G) (hr : s.M.length ≤ 28) (hk : k < g.blocks) (hb : G.tk k = true) :
    Calls Try.prog 26 #[.pointer (some ⟨gg, 0, none⟩), .int .u16 ((k + 1 : Nat) : Int)] w fun e w' => e = .returned (.int .i64 0) ∧ GRes w w' i s gg g lab (G.give k) [g.base + k / 512] :=
  (give_ok h.tx h.gp h.ok hr hk (by rw [h.is.bit k hk]; exact hb)).mono fun e w' ⟨he, hx, ht⟩ => ⟨he, h.res hx ht (is_give h.tx.ok h.ok hk h.is) (h.gok.give k)⟩
theorem gs_give_not {k : Nat} (h : GAt w i s gg g lab G) (hk : k < g.blocks) (hb : G.tk k = false) :
    Calls Try.prog 26 #[.pointer (some ⟨gg, 0, none⟩), .int .u16 ((k + 1 : Nat) : Int)] w fun e w' => e = .returned (.int .i64 3) ∧ GRes w w' i s gg g lab G [] :=
  (give_not h.tx h.gp h.ok hk (by rw [h.is.bit k hk]; exact hb)).mono fun e w' ⟨he, hx, ht⟩ => ⟨he, h.same hx ht⟩
theorem gs_put {k : Nat} {b : BlkV} (h : GAt w i s gg g lab G) (hr : s.M.length ≤ 28) (hk : k < g.blocks) (hb : b.length = 64) :
    Calls Try.prog 27 #[.pointer (some ⟨gg, 0, none⟩), .int .u16 ((k + 1 : Nat) : Int), bval b] w fun e w' => e = .returned (.int .i64 0) ∧ GRes w w' i s gg g lab (G.put k b) [g.data + k] :=
  (gput_ok h.tx h.gp h.ok hr hk hb).mono fun e w' ⟨he, hx, ht⟩ => ⟨he, h.res hx ht (is_put h.ok hk h.is) (h.gok.put k hb)⟩
theorem gs_get {k : Nat} (h : GAt w i s gg g lab G) (hk : k < g.blocks) :
    Calls Try.prog 29 #[.pointer (some ⟨gg, 0, none⟩), .int .u16 ((k + 1 : Nat) : Int)] w fun e w' => e = .returned (.tuple #[bval (G.by_ k), .int .i64 0]) ∧ GRes w w' i s gg g lab G [] := by
  have := gget_ok h.tx h.gp h.ok hk
  rw [h.is.byt k hk] at this
  exact this.mono fun e w' ⟨he, hx, ht⟩ => ⟨he, h.same hx ht⟩
theorem gs_node {num : Nat} (h : GAt w i s gg g lab G) (h1 : 1 ≤ num) (h2 : num ≤ g.nodes) :
    Calls Try.prog 16 #[.pointer (some ⟨gg, 0, none⟩), .int .i64 (num : Int)] w fun e w' => e = .returned (.tuple #[(G.nd num).val, .int .i64 0]) ∧ GRes w w' i s gg g lab G [] := by
  have := gnode_ok h.tx h.gp h.ok h1 h2
  rw [h.is.nodeV h.gok h1 h2, h.is.nodeE h.gok h1 h2] at this
  exact this.mono fun e w' ⟨he, hx, ht⟩ => ⟨he, h.same hx ht⟩
theorem gs_node_none {num : Int} (h : GAt w i s gg g lab G) (hn : num < 1 ∨ (g.nodes : Int) < num) :
    Calls Try.prog 16 #[.pointer (some ⟨gg, 0, none⟩), .int .i64 num] w fun e w' => e = .returned (.tuple #[NodeV.zero.val, .int .i64 27]) ∧ GRes w w' i s gg g lab G [] :=
  (gnode_none h.tx h.gp hn).mono fun e w' ⟨he, hx, ht⟩ => ⟨he, h.same hx ht⟩
theorem gs_set {num : Nat} {n : NodeV} (h : GAt w i s gg g lab G) (hr : s.M.length ≤ 29) (h1 : 1 ≤ num) (h2 : num ≤ g.nodes) (hnd : n.dir.length = 6) (hck : checkN n = true) :
    Calls Try.prog 30 #[.pointer (some ⟨gg, 0, none⟩), .int .i64 (num : Int), n.val] w fun e w' => e = .returned (.int .i64 0) ∧ GRes w w' i s gg g lab (G.set num n) [g.base + g.bitmap + (num - 1) / 2] :=
  (gset_ok h.tx h.gp h.ok h1 h2 hnd hck (node_can h.ok hr h1 h2)).mono fun e w' ⟨he, hx, ht⟩ => ⟨he, h.res hx ht (is_set h.tx.ok h.ok h1 h2 hnd h.is) (h.gok.set num hnd hck)⟩
theorem gs_set_none {num : Int} {n : NodeV} (h : GAt w i s gg g lab G) (hnd : n.dir.length = 6) (hn : num < 1 ∨ (g.nodes : Int) < num) :
    Calls Try.prog 30 #[.pointer (some ⟨gg, 0, none⟩), .int .i64 num, n.val] w fun e w' => e = .returned (.int .i64 27) ∧ GRes w w' i s gg g lab G [] :=
  (gset_none h.tx h.gp hnd hn).mono fun e w' ⟨he, hx, ht⟩ => ⟨he, h.same hx ht⟩
theorem gs_set_bad {num : Nat} {n : NodeV} (h : GAt w i s gg g lab G) (h1 : 1 ≤ num) (h2 : num ≤ g.nodes) (hnd : n.dir.length = 6) (hck : checkN n = false) :
    Calls Try.prog 30 #[.pointer (some ⟨gg, 0, none⟩), .int .i64 (num : Int), n.val] w fun e w' => e = .returned (.int .i64 28) ∧ GRes w w' i s gg g lab G [] :=
  (gset_bad h.tx h.gp h.ok h1 h2 hnd hck).mono fun e w' ⟨he, hx, ht⟩ => ⟨he, h.same hx ht⟩
/-- making a node: which one, the error, what is left -/
def GS.makeR (G : GS) (m : Nat) : Int × Int := match G.freeN m with
  | Option.none => (0, 10)
  | some num => ((num : Int), 0)
def GS.makeS (G : GS) (m : Nat) (n : NodeV) : GS := match G.freeN m with
  | Option.none => G
  | some num => G.set num (nextN n (G.nd num))
def GS.makeL (G : GS) (g : GeoN) : List Nat := match G.freeN g.nodes with
  | Option.none => []
  | some num => [g.base + g.bitmap + (num - 1) / 2]
theorem gs_from_range : ∀ (m num k : Nat), G.freeFrom num m = some k → num ≤ k ∧ k < num + m
  | 0, _, _, h => by simp [GS.freeFrom] at h
  | m + 1, num, k, h => by
    unfold GS.freeFrom at h
    split at h
    · cases h; omega
    · have := gs_from_range m (num + 1) k h; omega
theorem gs_make_res {n : NodeV} (h : GAt w i s gg g lab G) (hnd : n.dir.length = 6) (hck : ∀ old, checkN (nextN n old) = true) {v : Int × Int} {e : Ending} (he : e = .returned (.tuple #[.int .i64 (s.makeR g).1, .int .i64 (s.makeR g).2]))
    (hx : TxAt w' i (s.makeS g n)) (ht : Tch w.heap.size i.own w w') : e = .returned (.tuple #[.int .i64 (G.makeR g.nodes).1, .int .i64 (G.makeR g.nodes).2]) ∧ GRes w w' i s gg g lab (G.makeS g.nodes n) (G.makeL g) := by
  have hf := h.is.freeN h.gok
  unfold Sto.makeR at he
  unfold Sto.makeS at hx
  unfold GS.makeR GS.makeS GS.makeL
  rw [hf] at he hx
  cases hn : G.freeN g.nodes with
  | none =>
    rw [hn] at he hx
    exact ⟨he, h.same hx ht⟩
  | some num =>
    rw [hn] at he hx
    have hr := gs_from_range (G := G) _ _ _ hn
    simp only at hx
    rw [h.is.nodeV h.gok (by omega) (by omega)] at hx
    exact ⟨he, h.res hx ht (is_set h.tx.ok h.ok (by omega) (by omega) hnd h.is) (h.gok.set num hnd (hck _))⟩
theorem gs_make {k : UInt8} (h : GAt w i s gg g lab G) (hr : s.M.length ≤ 29) (hk : canMake k = true) :
    Calls Try.prog 21 #[.pointer (some ⟨gg, 0, none⟩), .int .u8 (k.toNat : Int)] w fun e w' => e = .returned (.tuple #[.int .i64 (G.makeR g.nodes).1, .int .i64 (G.makeR g.nodes).2]) ∧ GRes w w' i s gg g lab (G.makeS g.nodes (newN k)) (G.makeL g) :=
  (gmake_ok h.tx h.gp h.ok (h.is.nodesOk h.gok) hr hk).mono fun e w' ⟨he, hx, ht⟩ => gs_make_res h rfl (fun old => check_new hk old) (v := (0, 0)) he hx ht
theorem gs_link {size block : Nat} (h : GAt w i s gg g lab G) (hr : s.M.length ≤ 29) (h1 : 1 ≤ size) (h2 : size ≤ 60) (h3 : 1 ≤ block) (h4 : block ≤ g.blocks) :
    Calls Try.prog 15 #[.pointer (some ⟨gg, 0, none⟩), .int .i64 (size : Int), .int .i64 (block : Int)] w fun e w' => e = .returned (.tuple #[.int .i64 (G.makeR g.nodes).1, .int .i64 (G.makeR g.nodes).2]) ∧ GRes w w' i s gg g lab (G.makeS g.nodes (newL (UInt32.ofNat size) (UInt16.ofNat block))) (G.makeL g) := by
  have hs : (UInt32.ofNat size).toNat = size := by rw [UInt32.toNat_ofNat', Nat.mod_eq_of_lt (by omega)]
  exact (glink_ok h.tx h.gp h.ok (h.is.nodesOk h.gok) hr h1 h2 h3 h4).mono fun e w' ⟨he, hx, ht⟩ => gs_make_res h rfl (fun old => check_link (by omega) (by omega) old) (v := (0, 0)) he hx ht
theorem gs_wipe {num : Nat} (h : GAt w i s gg g lab G) (hr : s.M.length ≤ 29) (h1 : 1 ≤ num) (h2 : num ≤ g.nodes) :
    Calls Try.prog 28 #[.pointer (some ⟨gg, 0, none⟩), .int .i64 (num : Int)] w fun e w' => e = .returned (.int .i64 0) ∧ GRes w w' i s gg g lab (G.set num (goneN (G.nd num))) [g.base + g.bitmap + (num - 1) / 2] := by
  have hn := gnode_ok h.tx h.gp h.ok h1 h2
  rw [h.is.nodeV h.gok h1 h2, h.is.nodeE h.gok h1 h2] at hn
  exact (wipe_ok h.tx h.gp (h.gok.dir num) hn (fun W hW hGW => gset_ok hW hGW h.ok h1 h2 rfl (check_gone _) (node_can h.ok hr h1 h2))).mono fun e w' ⟨he, hx, ht⟩ => ⟨he, h.res hx ht (is_set h.tx.ok h.ok h1 h2 rfl h.is) (h.gok.set num rfl (check_gone _))⟩
theorem gs_wipe_none {num : Int} (h : GAt w i s gg g lab G) (hn : num < 1 ∨ (g.nodes : Int) < num) :
    Calls Try.prog 28 #[.pointer (some ⟨gg, 0, none⟩), .int .i64 num] w fun e w' => e = .returned (.int .i64 27) ∧ GRes w w' i s gg g lab G [] :=
  (wipe_no h.tx rfl (by decide) (gnode_none h.tx h.gp hn)).mono fun e w' ⟨he, hx, ht⟩ => ⟨he, h.same hx ht⟩
theorem is_ncnt (h : s.Is g G) (hG : G.Ok) : s.ncnt g g.nodes = G.ncnt g.nodes := by
  unfold Sto.ncnt GS.ncnt
  rw [List.filter_congr fun x hx => by rw [h.nodeV hG (by omega) (by have := List.mem_range.1 hx; omega)]]
theorem gs_usage (h : GAt w i s gg g lab G) :
    Calls Try.prog 24 #[.pointer (some ⟨gg, 0, none⟩)] w fun e w' => e = .returned (.tuple #[.int .i64 (G.cnt g.blocks : Int), .int .i64 (G.ncnt g.nodes : Int), .int .i64 0]) ∧ GRes w w' i s gg g lab G [] := by
  have := usage_ok h.tx h.gp h.ok (h.is.nodesOk h.gok)
  rw [h.is.cnt, is_ncnt h.is h.gok] at this
  exact this.mono fun e w' ⟨he, hx, ht⟩ => ⟨he, h.same hx ht⟩
/-- which node is meant, as it is now -/
def GS.ino (G : GS) (lab : Int) (num : Nat) : Array Value := if (G.nd num).kind = 0 then inoC 0 0 0 else inoC (IntKind.u8.wrap lab) (IntKind.u16.wrap (num : Int)) ((G.nd num).gen.toNat : Int)
def GS.inoE (G : GS) (num : Nat) : Int := if (G.nd num).kind = 0 then 3 else 0
theorem gs_ino {num : Nat} (h : GAt w i s gg g lab G) (h1 : 1 ≤ num) (h2 : num ≤ g.nodes) :
    Calls Try.prog 67 #[.pointer (some ⟨gg, 0, none⟩), .int .i64 (num : Int)] w fun e w' => e = .returned (.tuple #[.agg (G.ino lab num), .int .i64 (G.inoE num)]) ∧ GRes w w' i s gg g lab G [] := by
  refine (ino_any (r := 0) (v := G.nd num) (x := G.ino lab num) (r' := G.inoE num) h.tx h.gp (h.gok.dir num) (fun h => absurd rfl h) (fun _ hk => ?_) (fun _ hk => ?_) (fun W hW hGW => ?_)).mono fun e w' ⟨he, hx, ht⟩ => ⟨he, h.same hx ht⟩
  · unfold GS.ino GS.inoE; rw [if_pos hk, if_pos hk]; exact ⟨rfl, rfl⟩
  · unfold GS.ino GS.inoE; rw [if_neg hk, if_neg hk]; exact ⟨rfl, rfl⟩
  · have hn := gnode_ok hW hGW h.ok h1 h2
    rwa [h.is.nodeV h.gok h1 h2, h.is.nodeE h.gok h1 h2] at hn
theorem gs_put_no {n : Nat} {b : BlkV} (h : GAt w i s gg g lab G) (hn : n < 65536) (hr : n < 1 ∨ g.blocks < n) :
    Calls Try.prog 27 #[.pointer (some ⟨gg, 0, none⟩), .int .u16 (n : Int), bval b] w fun e w' => e = .returned (.int .i64 27) ∧ GRes w w' i s gg g lab G [] :=
  (gput_no h.gp hn hr).mono fun e w' ⟨he, hb⟩ => ⟨he, h.same (h.tx.below hb) (Tch.of_below hb)⟩
theorem gs_get_no {n : Nat} (h : GAt w i s gg g lab G) (hn : n < 65536) (hr : n < 1 ∨ g.blocks < n) :
    Calls Try.prog 29 #[.pointer (some ⟨gg, 0, none⟩), .int .u16 (n : Int)] w fun e w' => e = .returned (.tuple #[bval zeroB, .int .i64 27]) ∧ GRes w w' i s gg g lab G [] :=
  (gget_no h.gp hn hr).mono fun e w' ⟨he, hb⟩ => ⟨he, h.same (h.tx.below hb) (Tch.of_below hb)⟩
theorem gs_give_no {n : Nat} (h : GAt w i s gg g lab G) (hn : n < 65536) (hr : n < 1 ∨ g.blocks < n) :
    Calls Try.prog 26 #[.pointer (some ⟨gg, 0, none⟩), .int .u16 (n : Int)] w fun e w' => e = .returned (.int .i64 27) ∧ GRes w w' i s gg g lab G [] :=
  (give_none h.gp hn hr).mono fun e w' ⟨he, hw⟩ => ⟨he, by rw [← hw]; exact h.same h.tx (Tch.refl _ _ _)⟩
end
end Go.Proofs.Ytoeejeieplhifaa

/- Blocks of sixty-four bytes, a transaction's changed blocks, bits and nodes in blocks. No program in sight. -/
import Derived.Test.YtmhlokehdjnldaaDoorMapR
namespace Go.Proofs.YtmhlokehdjnldaaDoor
open Go.RowKit

/-- a block's bytes -/
abbrev BlkV := List UInt8
def bval (b : BlkV) : Value := .agg (bvs b).toArray
def zeroB : BlkV := List.replicate 64 0
theorem zeroB_length : zeroB.length = 64 := by simp [zeroB]

/-- a block's number as a key -/
abbrev NKey := Fin 65536
def nkv (k : NKey) : Value := .int .i64 (k.val : Int)
def nk (n : Nat) : NKey := Fin.ofNat 65536 n
theorem nk_val {n : Nat} (h : n < 65536) : (nk n).val = n := by simp [nk]; omega
theorem nkv_nk {n : Nat} (h : n < 65536) : nkv (nk n) = .int .i64 (n : Int) := by simp [nkv, nk_val h]
theorem nk_inj {n m : Nat} (h : n < 65536) (h' : m < 65536) (e : nk n = nk m) : n = m := by
  have := congrArg Fin.val e
  rwa [nk_val h, nk_val h'] at this

/-- what is to be written, as the map holds it -/
def dm (M : List (Nat × BlkV)) : List (NKey × Value) := M.map fun x => (nk x.1, bval x.2)
theorem dm_length (M : List (Nat × BlkV)) : (dm M).length = M.length := by simp [dm]
theorem dm_get {M : List (Nat × BlkV)} (hM : ∀ x ∈ M, x.1 < 65536) {n : Nat} (hn : n < 65536) : mget (dm M) (nk n) = (mget M n).map bval := by
  induction M with
  | nil => rfl
  | cons x r ih =>
    have hx := hM x (by simp)
    have ih := ih fun y hy => hM y (by simp [hy])
    simp only [dm, List.map_cons, mget] at ih ⊢
    by_cases h : x.1 = n
    · rw [if_pos h, if_pos (by rw [h])]; rfl
    · rw [if_neg h, if_neg (fun e => h (nk_inj hx hn e)), ih]
theorem dm_put {M : List (Nat × BlkV)} (hM : ∀ x ∈ M, x.1 < 65536) {n : Nat} (hn : n < 65536) (b : BlkV) : mput (dm M) (nk n) (bval b) = dm (mput M n b) := by
  induction M with
  | nil => rfl
  | cons x r ih =>
    have hx := hM x (by simp)
    have ih := ih fun y hy => hM y (by simp [hy])
    simp only [dm, List.map_cons, mput] at ih ⊢
    by_cases h : x.1 = n
    · rw [if_pos h, if_pos (by rw [h])]; simp [h]
    · rw [if_neg h, if_neg (fun e => h (nk_inj hx hn e)), ih]; simp
theorem dm_keys {M : List (Nat × BlkV)} (hM : ∀ x ∈ M, x.1 < 65536) : (dm M).map (fun x => x.1.val) = M.map (·.1) := by
  simp only [dm, List.map_map]
  apply List.map_congr_left
  intro x hx
  exact nk_val (hM x hx)
theorem mput_mem {β : Type} {L : List (Nat × β)} {k : Nat} {v : β} {x : Nat × β} (h : x ∈ mput L k v) : x ∈ L ∨ x = (k, v) := by
  induction L with
  | nil => simp [mput] at h; exact .inr h
  | cons y r ih =>
    simp only [mput] at h
    split at h
    · rename_i hy
      rcases List.mem_cons.1 h with h | h
      · exact .inr (by rw [h, hy])
      · exact .inl (by simp [h])
    · rcases List.mem_cons.1 h with h | h
      · exact .inl (by simp [h])
      · rcases ih h with h | h
        · exact .inl (by simp [h])
        · exact .inr h
theorem mput_length {β : Type} (L : List (Nat × β)) (k : Nat) (v : β) : (mput L k v).length = if (mget L k).isSome then L.length else L.length + 1 := by
  induction L with
  | nil => rfl
  | cons x r ih =>
    simp only [mput, mget]
    split
    · simp
    · simp only [List.length_cons, ih]; split <;> rfl

/-- a disk's blocks, a transaction's changed ones, its fault -/
structure Sto where
  D : List BlkV
  M : List (Nat × BlkV)
  bad : Int

namespace Sto
/-- a block as the transaction has it -/
def at_ (s : Sto) (n : Nat) : BlkV := (mget s.M n).getD (s.D.getD n zeroB)
def put (s : Sto) (n : Nat) (b : BlkV) : Sto := { s with M := mput s.M n b }
/-- not of the log -/
def free (n : Nat) : Prop := n = 0 ∨ 31 < n
structure Ok (s : Sto) : Prop where
  dlen : ∀ b ∈ s.D, b.length = 64
  mlen : ∀ x ∈ s.M, x.2.length = 64
  keys : ∀ x ∈ s.M, x.1 < s.D.length
  many : 32 ≤ s.D.length
  most : s.D.length ≤ 65536
  few : s.M.length ≤ 30
  nodup : (s.M.map (·.1)).Nodup
  off : ∀ x ∈ s.M, free x.1

theorem at_put (s : Sto) (n m : Nat) (b : BlkV) : (s.put n b).at_ m = if n = m then b else s.at_ m := by
  simp only [at_, put, mget_put]
  by_cases h : n = m <;> simp [h]
theorem at_length {s : Sto} (h : s.Ok) (n : Nat) : (s.at_ n).length = 64 := by
  unfold at_
  cases hm : mget s.M n with
  | some b => exact h.mlen _ (mget_mem hm)
  | none =>
    simp only [Option.getD_none, List.getD_eq_getElem?_getD]
    cases hd : s.D[n]? with
    | none => exact zeroB_length
    | some b => exact h.dlen _ (List.mem_of_getElem? hd)
theorem Ok.key {s : Sto} (h : s.Ok) {n : Nat} {b : BlkV} (hm : mget s.M n = some b) : n < s.D.length := h.keys _ (mget_mem hm)
theorem Ok.small {s : Sto} (h : s.Ok) : ∀ x ∈ s.M, x.1 < 65536 := fun x hx => Nat.lt_of_lt_of_le (h.keys x hx) h.most
theorem Ok.put {s : Sto} (h : s.Ok) {n : Nat} {b : BlkV} (hb : b.length = 64) (hn : n < s.D.length) (hf : free n) (hk : (mget s.M n).isSome = true ∨ s.M.length < 30) : (s.put n b).Ok where
  dlen := h.dlen
  mlen x hx := by rcases mput_mem hx with hx | rfl; exact h.mlen x hx; exact hb
  keys x hx := by rcases mput_mem hx with hx | rfl; exact h.keys x hx; exact hn
  many := h.many
  most := h.most
  few := by
    show (mput s.M n b).length ≤ 30
    rw [mput_length]
    have := h.few
    rcases hk with hk | hk
    · rw [if_pos hk]; omega
    · split <;> omega
  nodup := mput_nodup _ _ h.nodup
  off x hx := by rcases mput_mem hx with hx | rfl; exact h.off x hx; exact hf
theorem put_len (s : Sto) (n : Nat) (b : BlkV) : (s.put n b).M.length ≤ s.M.length + 1 := by
  show (mput s.M n b).length ≤ _
  rw [mput_length]
  split <;> omega
end Sto

/-- a list of blocks' cells, one behind the other -/
def flatB (D : List BlkV) : List Value := (D.map bvs).flatten
theorem flatB_length {D : List BlkV} (h : ∀ b ∈ D, b.length = 64) : (flatB D).length = 64 * D.length := by
  induction D with
  | nil => rfl
  | cons b r ih =>
    have hb : (bvs b).length = 64 := by rw [bvs_length]; exact h b (by simp)
    simp only [flatB, List.map_cons, List.flatten_cons, List.length_append, hb]
    have := ih fun x hx => h x (by simp [hx])
    simp only [flatB] at this
    rw [this, List.length_cons]
    omega
theorem flatB_get {D : List BlkV} (h : ∀ b ∈ D, b.length = 64) {k : Nat} {b : BlkV} (hk : D[k]? = some b) {j : Nat} (hj : j < 64) : (flatB D)[64 * k + j]? = (bvs b)[j]? := by
  induction D generalizing k with
  | nil => simp at hk
  | cons c r ih =>
    have hc : (bvs c).length = 64 := by rw [bvs_length]; exact h c (by simp)
    have e : flatB (c :: r) = bvs c ++ flatB r := rfl
    rw [e]
    cases k with
    | zero =>
      simp at hk
      subst hk
      rw [Nat.mul_zero, Nat.zero_add, List.getElem?_append_left (by omega)]
    | succ k =>
      simp at hk
      rw [List.getElem?_append_right (by rw [hc]; omega), hc, show 64 * (k + 1) + j - 64 = 64 * k + j from by omega]
      exact ih (fun x hx => h x (by simp [hx])) hk
end Go.Proofs.YtmhlokehdjnldaaDoor

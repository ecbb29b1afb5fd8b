/-
  How a tree of prefixes lies in memory, and the contract of its walk.
  N k v: the block of the node of the first k bits v, if there is one; S k v: whether that prefix is there. The root lies at the head of the Trie's own block g.
-/
import Derived.Test.YtlpmjkbpcobgdaaTriAddr2
namespace Go.Proofs.Ytlpmjkbpcobgdaa
open Go.RowKit Go.Sort

def np (o : Option Nat) : Value := .pointer (o.map fun b => ⟨b, 0, none⟩)

/-- X: the nodes below which nothing need be there (in the middle of a change). -/
structure TrieX (w : World) (B g : Nat) (N : Nat → Nat → Option Nat) (S : Nat → Nat → Bool) (c : Nat) (X : Nat → Nat → Prop) : Prop where
  root : N 0 0 = some g
  head : Blk w g 96 #[.bool (S 0 0), np (N 1 0), np (N 1 1), .int .i64 (c : Int)]
  node : ∀ k v b, 0 < k → N k v = some b → Blk w b 94 #[.bool (S k v), np (N (k + 1) (2 * v)), np (N (k + 1) (2 * v + 1))]
  inj : ∀ k v k' v' b, N k v = some b → N k' v' = some b → k = k' ∧ v = v'
  parent : ∀ k v, (N (k + 1) v).isSome = true → (N k (v / 2)).isSome = true
  deep : ∀ k v, (N k v).isSome = true → k ≤ 32 ∧ v < 2 ^ k
  set : ∀ k v, S k v = true → (N k v).isSome = true
  live : ∀ k v, 0 < k → (N k v).isSome = true → (∃ k' v', k ≤ k' ∧ S k' v' = true ∧ v' / 2 ^ (k' - k) = v) ∨ X k v
  base : ∀ k v b, N k v = some b → B ≤ b

abbrev TrieAt (w : World) (B g : Nat) (N : Nat → Nat → Option Nat) (S : Nat → Nat → Bool) (c : Nat) : Prop := TrieX w B g N S c (fun _ _ => False)

section
variable {w w' : World} {B g c : Nat} {N : Nat → Nat → Option Nat} {S : Nat → Nat → Bool} {X : Nat → Nat → Prop}

/-- The node's three cells, root or not. -/
theorem TrieX.cells (h : TrieX w B g N S c X) {k v b : Nat} (hb : N k v = some b) : w.cell? ⟨b, 0, none⟩ = some (.bool (S k v)) ∧ w.cell? ⟨b, 1, none⟩ = some (np (N (k + 1) (2 * v))) ∧ w.cell? ⟨b, 2, none⟩ = some (np (N (k + 1) (2 * v + 1))) := by
  rcases Nat.eq_zero_or_pos k with hk | hk
  · subst hk
    have hv := (h.deep 0 v (by simp [hb])).2
    have hv0 : v = 0 := by simpa using hv
    subst hv0
    rw [h.root] at hb
    injection hb with hb
    subst hb
    exact ⟨h.head.cell 0, h.head.cell 1, h.head.cell 2⟩
  · have hB := h.node k v b hk hb
    exact ⟨hB.cell 0, hB.cell 1, hB.cell 2⟩
theorem TrieX.kid (h : TrieX w B g N S c X) {k v b β : Nat} (hb : N k v = some b) (hβ : β < 2) : w.cell? ⟨b, 1 + β, none⟩ = some (np (N (k + 1) (2 * v + β))) := by
  have := h.cells hb
  match β, hβ with
  | 0, _ => exact this.2.1
  | 1, _ => exact this.2.2
theorem TrieX.lt (h : TrieX w B g N S c X) {k v b : Nat} (hb : N k v = some b) : b < w.heap.size := block_lt_of_cell (h.cells hb).1
theorem TrieX.free (h : TrieX w B g N S c X) {k v b : Nat} (hb : N k v = some b) (i : Nat) : w.frozen? ⟨b, i, none⟩ = false := by
  rcases Nat.eq_zero_or_pos k with hk | hk
  · subst hk
    have hv := (h.deep 0 v (by simp [hb])).2
    have hv0 : v = 0 := by simpa using hv
    subst hv0
    rw [h.root] at hb
    injection hb with hb
    subst hb
    exact h.head.frozen i
  · exact (h.node k v b hk hb).frozen i

theorem TrieX.below (h : TrieX w B g N S c X) (hb : Below w.heap.size w w') : TrieX w' B g N S c X where
  root := h.root
  head := h.head.below hb h.head.lt
  node := fun k v b hk e => (h.node k v b hk e).below hb (h.lt e)
  inj := h.inj
  parent := h.parent
  deep := h.deep
  set := h.set
  live := h.live
  base := h.base

/-- How far the nodes go on the way to an address, at most n bits. -/
def reach (N : Nat → Nat → Option Nat) (a : Nat) : Nat → Nat
  | 0 => 0
  | k + 1 => if (N (k + 1) (Tri.pv a (k + 1))).isSome = true then k + 1 else reach N a k
theorem reach_le (N : Nat → Nat → Option Nat) (a : Nat) : ∀ n, reach N a n ≤ n
  | 0 => Nat.le_refl _
  | k + 1 => by
    unfold reach
    split
    · exact Nat.le_refl _
    · exact Nat.le_succ_of_le (reach_le N a k)

theorem TrieX.up (h : TrieX w B g N S c X) {a k : Nat} (hk : k < 32) (hs : (N (k + 1) (Tri.pv a (k + 1))).isSome = true) : (N k (Tri.pv a k)).isSome = true := by
  have := h.parent _ _ hs
  rwa [Tri.pv_half hk] at this
theorem TrieX.up_to (h : TrieX w B g N S c X) {a : Nat} : ∀ {d k : Nat}, k + d ≤ 32 → (N (k + d) (Tri.pv a (k + d))).isSome = true → (N k (Tri.pv a k)).isSome = true
  | 0, _, _, hs => hs
  | d + 1, k, hk, hs => h.up_to (d := d) (by omega) (h.up (by omega) hs)
/-- Behind the end there is nothing. -/
theorem TrieX.stays (h : TrieX w B g N S c X) {a k : Nat} (hn : N k (Tri.pv a k) = none) : ∀ {n : Nat}, k ≤ n + 1 → n + 1 ≤ 32 → N (n + 1) (Tri.pv a (n + 1)) = none := by
  intro n h1 h2
  rcases hq : N (n + 1) (Tri.pv a (n + 1)) with _ | b
  · rfl
  · have := h.up_to (a := a) (k := k) (d := n + 1 - k) (by omega) (by rw [show k + (n + 1 - k) = n + 1 from by omega, hq]; rfl)
    rw [hn] at this
    cases this
theorem TrieX.reach_end (h : TrieX w B g N S c X) {a k : Nat} (hn : N k (Tri.pv a k) = none) : ∀ {n : Nat}, k ≤ n → n ≤ 32 → reach N a n = reach N a k
  | 0, h1, _ => by rw [show k = 0 from by omega]
  | n + 1, h1, h2 => by
    rcases Nat.lt_or_ge n k with hlt | hge
    · rw [show k = n + 1 from by omega]
    · have := h.stays hn (n := n) (by omega) h2
      rw [reach, this]
      simp only [Option.isSome_none, Bool.false_eq_true, if_false]
      exact h.reach_end hn hge (by omega)
theorem TrieX.reach_some (h : TrieX w B g N S c X) {a : Nat} (ha : a < 4294967296) : ∀ n, (N (reach N a n) (Tri.pv a (reach N a n))).isSome = true
  | 0 => by
    show (N 0 (Tri.pv a 0)).isSome = true
    rw [Tri.pv_zero ha, h.root]
    rfl
  | n + 1 => by
    unfold reach
    split
    · assumption
    · exact h.reach_some ha n
theorem reach_at {a k : Nat} (hs : (N k (Tri.pv a k)).isSome = true) : reach N a k = k := by
  cases k with
  | zero => rfl
  | succ k => unfold reach; rw [if_pos hs]
/-- A prefix of the way is there just if the way reaches it. -/
theorem TrieX.reach_iff (h : TrieX w B g N S c X) {a n k : Nat} (ha : a < 4294967296) (hk : k ≤ n) (hn : n ≤ 32) : (N k (Tri.pv a k)).isSome = true ↔ k ≤ reach N a n := by
  constructor
  · intro hs
    rcases Nat.lt_or_ge (reach N a n) k with hlt | hge
    · exfalso
      have hnn : N n (Tri.pv a n) = none ∨ (N n (Tri.pv a n)).isSome = true := by cases N n (Tri.pv a n) <;> simp
      -- what stands right behind the end is none
      have hend : ∀ m, m ≤ 32 → reach N a m < m → N (reach N a m + 1) (Tri.pv a (reach N a m + 1)) = none := by
        intro m
        induction m with
        | zero => intro _ h0; omega
        | succ m ih =>
          intro hm hlt
          by_cases hs : (N (m + 1) (Tri.pv a (m + 1))).isSome = true
          · rw [reach_at hs] at hlt
            omega
          · have e : reach N a (m + 1) = reach N a m := by
              rw [reach, if_neg hs]
            rw [e]
            rcases Nat.lt_or_ge (reach N a m) m with h1 | h1
            · exact ih (by omega) h1
            · have : reach N a m = m := Nat.le_antisymm (reach_le _ _ _) h1
              rw [this]
              simpa using hs
      have h1 := hend n hn (by omega)
      have := h.stays h1 (n := k - 1) (by omega) (by omega)
      rw [show k - 1 + 1 = k from by omega] at this
      rw [this] at hs
      cases hs
    · exact hge
  · intro hle
    have := h.reach_some ha n
    have hr := reach_le N a n
    exact h.up_to (d := reach N a n - k) (by omega) (by rw [show k + (reach N a n - k) = reach N a n from by omega]; exact this)
end

/-- The pointers of the nodes on the way. -/
def ptrs (N : Nat → Nat → Option Nat) (a m : Nat) : List Value := (List.range (m + 1)).map fun j => np (N j (Tri.pv a j))
theorem ptrs_length (N : Nat → Nat → Option Nat) (a m : Nat) : (ptrs N a m).length = m + 1 := by simp [ptrs]
theorem ptrs_succ (N : Nat → Nat → Option Nat) (a m : Nat) : ptrs N a (m + 1) = ptrs N a m ++ [np (N (m + 1) (Tri.pv a (m + 1)))] := by
  unfold ptrs
  rw [List.range_succ, List.map_append]
  rfl
theorem ptrs_get (N : Nat → Nat → Option Nat) (a m j : Nat) (h : j ≤ m) : (ptrs N a m)[j]? = some (np (N j (Tri.pv a j))) := by
  unfold ptrs
  rw [List.getElem?_map, List.getElem?_range (by omega)]
  rfl
end Go.Proofs.Ytlpmjkbpcobgdaa

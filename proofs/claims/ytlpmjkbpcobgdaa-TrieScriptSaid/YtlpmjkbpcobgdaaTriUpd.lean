/-
  What a store into a tree's node, a new node, a node that goes, and a turned count make of a tree of prefixes in memory.
-/
import Derived.Test.YtlpmjkbpcobgdaaTriHas
namespace Go.Proofs.Ytlpmjkbpcobgdaa
open Go.RowKit Go.Sort

/-- Which blocks are a tree's. -/
def foot (N : Nat → Nat → Option Nat) (i : Nat) : Prop := ∃ k v, N k v = some i

/-- Of what was there only the blocks of F may have turned. -/
structure Frm (F : Nat → Prop) (w w' : World) : Prop where
  os : w'.os = w.os
  tape : w'.tape = w.tape
  output : w'.output = w.output
  size : w.heap.size ≤ w'.heap.size
  block : ∀ i, i < w.heap.size → ¬ F i → w'.heap[i]? = w.heap[i]?

theorem Frm.refl (F : Nat → Prop) (w : World) : Frm F w w := ⟨rfl, rfl, rfl, Nat.le_refl _, fun _ _ _ => rfl⟩
theorem Frm.of_below {F : Nat → Prop} {w w' : World} (h : Below w.heap.size w w') : Frm F w w' := ⟨h.os, h.tape, h.output, h.size, fun i hi _ => h.block i hi⟩
theorem Frm.trans {F F' : Nat → Prop} {a b d : World} (h : Frm F a b) (k : Frm F' b d) (hF : ∀ i, F' i → F i ∨ a.heap.size ≤ i) : Frm F a d :=
  ⟨k.os.trans h.os, k.tape.trans h.tape, k.output.trans h.output, Nat.le_trans h.size k.size, fun i hi hn =>
    (k.block i (Nat.lt_of_lt_of_le hi h.size) (fun hf => by rcases hF i hf with h1 | h1 <;> first | exact hn h1 | omega)).trans (h.block i hi hn)⟩
theorem Frm.drewN {F : Nat → Prop} {a b : World} (h : Frm F a b) (n : Nat) : Frm F a (b.drewN n) := ⟨h.os, h.tape, h.output, h.size, h.block⟩
theorem Frm.alloc {F : Nat → Prop} {a b : World} (h : Frm F a b) (o : Obj) : Frm F a (b.alloc o) :=
  ⟨h.os, h.tape, h.output, Nat.le_trans h.size (by simp), fun i hi hn => (Below.heap_alloc b o i (Nat.lt_of_lt_of_le hi h.size)).trans (h.block i hi hn)⟩
theorem Frm.setCell {F : Nat → Prop} {a b : World} (h : Frm F a b) {p : Addr} (hp : F p.block ∨ a.heap.size ≤ p.block) (u : Value) : Frm F a (b.setCell p u) :=
  ⟨h.os, h.tape, h.output, by simpa [World.setCell] using h.size, fun i hi hn => (Below.heap_setCell b p u i (by rintro rfl; rcases hp with h1 | h1 <;> first | exact hn h1 | omega)).trans (h.block i hi hn)⟩
theorem Frm.grown {F : Nat → Prop} {a b d : World} {row : Option Nat} (h : Frm F a b) (hg : b.grownBy d row) (hr : ∀ k, row = some k → a.heap.size ≤ k) : Frm F a d :=
  ⟨hg.os.trans h.os, hg.tape.trans h.tape, hg.output.trans h.output, Nat.le_trans h.size hg.size, fun i hi hn =>
    (hg.block i (Nat.lt_of_lt_of_le hi h.size) (fun e => absurd (hr i e.symm) (by omega))).trans (h.block i hi hn)⟩
theorem Frm.below {F : Nat → Prop} {a b d : World} (h : Frm F a b) (hb : Below b.heap.size b d) : Frm F a d := h.trans (Frm.of_below (F := fun _ => False) hb) (fun _ hf => hf.elim)
theorem Frm.to_below {F : Nat → Prop} {B : Nat} {a b : World} (h : Frm F a b) (hB : B ≤ a.heap.size) (hF : ∀ i, F i → B ≤ i) : Below B a b :=
  ⟨h.os, h.tape, h.output, h.size, fun k hk => h.block k (by omega) (fun hf => absurd (hF k hf) (by omega))⟩
theorem Frm.blk {F : Nat → Prop} {a b : World} {g : Nat} {t : TypeId} {cs : Array Value} (h : Frm F a b) (hb : Blk a g t cs) (hn : ¬ F g) : Blk b g t cs := (h.block g hb.lt hn).trans hb

def updN (N : Nat → Nat → Option Nat) (k v : Nat) (o : Option Nat) : Nat → Nat → Option Nat := fun i j => if i = k ∧ j = v then o else N i j
def updS (S : Nat → Nat → Bool) (k v : Nat) (s : Bool) : Nat → Nat → Bool := fun i j => if i = k ∧ j = v then s else S i j
theorem updN_same (N : Nat → Nat → Option Nat) (k v : Nat) (o : Option Nat) : updN N k v o k v = o := by simp [updN]
theorem updN_other {N : Nat → Nat → Option Nat} {k v i j : Nat} {o : Option Nat} (h : ¬ (i = k ∧ j = v)) : updN N k v o i j = N i j := by simp only [updN, if_neg h]
theorem updS_same (S : Nat → Nat → Bool) (k v : Nat) (s : Bool) : updS S k v s k v = s := by simp [updS]
theorem updS_other {S : Nat → Nat → Bool} {k v i j : Nat} {s : Bool} (h : ¬ (i = k ∧ j = v)) : updS S k v s i j = S i j := by simp only [updS, if_neg h]

section
variable {w w' : World} {B g c : Nat} {N : Nat → Nat → Option Nat} {S : Nat → Nat → Bool} {X X' : Nat → Nat → Prop}

theorem TrieX.root_zero (h : TrieX w B g N S c X) {v b : Nat} (hb : N 0 v = some b) : v = 0 ∧ b = g := by
  have hv := (h.deep 0 v (by simp [hb])).2
  have hv0 : v = 0 := by simpa using hv
  subst hv0
  rw [h.root] at hb
  injection hb with hb
  exact ⟨rfl, hb.symm⟩
theorem TrieX.not_root (h : TrieX w B g N S c X) {k v b : Nat} (hk : 0 < k) (hb : N k v = some b) : b ≠ g := by
  rintro rfl
  have := (h.inj k v 0 0 _ hb h.root).1
  omega

/-- Only the first three cells of one node turn. -/
theorem TrieX.poke (h : TrieX w B g N S c X) {k v b i : Nat} {u : Value} {s : Bool} {o1 o2 : Value} (hb : N k v = some b)
    (hu : (#[.bool (S k v), np (N (k + 1) (2 * v)), np (N (k + 1) (2 * v + 1))] : Array Value).setIfInBounds i u = #[.bool s, o1, o2]) (hi : i < 3) :
    (∀ k' v' b', 0 < k' → N k' v' = some b' → ¬ (k' = k ∧ v' = v) → Blk (w.setCell ⟨b, i, none⟩ u) b' 94 #[.bool (S k' v'), np (N (k' + 1) (2 * v')), np (N (k' + 1) (2 * v' + 1))]) ∧
    (0 < k → Blk (w.setCell ⟨b, i, none⟩ u) b 94 #[.bool s, o1, o2]) ∧
    (0 < k → Blk (w.setCell ⟨b, i, none⟩ u) g 96 #[.bool (S 0 0), np (N 1 0), np (N 1 1), .int .i64 (c : Int)]) ∧
    (k = 0 → Blk (w.setCell ⟨b, i, none⟩ u) g 96 #[.bool s, o1, o2, .int .i64 (c : Int)]) := by
  refine ⟨fun k' v' b' hk' hb' hne => ?_, fun hk => ?_, fun hk => ?_, fun hk => ?_⟩
  · exact (h.node k' v' b' hk' hb').far (p := ⟨b, i, none⟩) (fun e => by subst e; exact hne (h.inj _ _ _ _ _ hb' hb)) u
  · have := (h.node k v b hk hb).store i u
    rwa [hu] at this
  · exact h.head.far (p := ⟨b, i, none⟩) (fun e => h.not_root hk hb e.symm) u
  · subst hk
    obtain ⟨rfl, rfl⟩ := h.root_zero hb
    have := h.head.store i u
    have e : (#[.bool (S 0 0), np (N 1 0), np (N 1 1), .int .i64 (c : Int)] : Array Value).setIfInBounds i u = #[.bool s, o1, o2, .int .i64 (c : Int)] := by
      match i, hi with
      | 0, _ => simp at hu ⊢; exact hu
      | 1, _ => simp at hu ⊢; exact hu
      | 2, _ => simp at hu ⊢; exact hu
    rwa [e] at this

/-- A prefix is marked, or unmarked. -/
theorem TrieX.mark (h : TrieX w B g N S c X) {k v b : Nat} (s : Bool) (hb : N k v = some b)
    (hl : ∀ k' v', 0 < k' → (N k' v').isSome = true → (∃ k₂ v₂, k' ≤ k₂ ∧ updS S k v s k₂ v₂ = true ∧ v₂ / 2 ^ (k₂ - k') = v') ∨ X' k' v') :
    TrieX (w.setCell ⟨b, 0, none⟩ (.bool s)) B g N (updS S k v s) c X' := by
  obtain ⟨p1, p2, p3, p4⟩ := h.poke (i := 0) (u := .bool s) (s := s) (o1 := np (N (k + 1) (2 * v))) (o2 := np (N (k + 1) (2 * v + 1))) hb (by simp) (by omega)
  refine ⟨h.root, ?_, ?_, h.inj, h.parent, h.deep, ?_, hl, h.base⟩
  · rcases Nat.eq_zero_or_pos k with hk | hk
    · subst hk
      obtain ⟨rfl, rfl⟩ := h.root_zero hb
      rw [updS_same]
      exact p4 rfl
    · rw [updS_other (by omega)]
      exact p3 hk
  · intro k' v' b' hk' hb'
    by_cases he : k' = k ∧ v' = v
    · obtain ⟨rfl, rfl⟩ := he
      rw [hb] at hb'
      injection hb' with hb'
      subst hb'
      rw [updS_same]
      exact p2 hk'
    · rw [updS_other he]
      exact p1 k' v' b' hk' hb' he
  · intro k' v' hs
    by_cases he : k' = k ∧ v' = v
    · obtain ⟨rfl, rfl⟩ := he
      rw [hb]
      rfl
    · rw [updS_other he] at hs
      exact h.set k' v' hs

/-- The count turns. -/
theorem TrieX.recount (h : TrieX w B g N S c X) (c' : Nat) : TrieX (w.setCell ⟨g, 3, none⟩ (.int .i64 (c' : Int))) B g N S c' X := by
  refine ⟨h.root, ?_, ?_, h.inj, h.parent, h.deep, h.set, h.live, h.base⟩
  · have := h.head.store 3 (.int .i64 (c' : Int))
    simpa using this
  · intro k' v' b' hk' hb'
    exact (h.node k' v' b' hk' hb').far (p := ⟨g, 3, none⟩) (h.not_root hk' hb') _

/-- A kid's cell turns: a new node, or none. -/
theorem TrieX.rekid (h : TrieX w B g N S c X) {k v b β : Nat} {o : Option Nat} (hk32 : k < 32) (hβ : β < 2) (hb : N k v = some b)
    (hnew : ∀ b', o = some b' → Blk (w.setCell ⟨b, 1 + β, none⟩ (np o)) b' 94 #[.bool (S (k + 1) (2 * v + β)), np (N (k + 2) (2 * (2 * v + β))), np (N (k + 2) (2 * (2 * v + β) + 1))])
    (hinj : ∀ b' k' v', o = some b' → N k' v' = some b' → k' = k + 1 ∧ v' = 2 * v + β) (hbase : ∀ b', o = some b' → B ≤ b')
    (hset : o = none → S (k + 1) (2 * v + β) = false) (hkids : o = none → N (k + 2) (2 * (2 * v + β)) = none ∧ N (k + 2) (2 * (2 * v + β) + 1) = none)
    (hl : ∀ k' v', 0 < k' → (updN N (k + 1) (2 * v + β) o k' v').isSome = true → (∃ k₂ v₂, k' ≤ k₂ ∧ S k₂ v₂ = true ∧ v₂ / 2 ^ (k₂ - k') = v') ∨ X' k' v') :
    TrieX (w.setCell ⟨b, 1 + β, none⟩ (np o)) B g (updN N (k + 1) (2 * v + β) o) S c X' := by
  have hv := (h.deep k v (by simp [hb])).2
  have hu : (#[.bool (S k v), np (N (k + 1) (2 * v)), np (N (k + 1) (2 * v + 1))] : Array Value).setIfInBounds (1 + β) (np o) = #[.bool (S k v), np (updN N (k + 1) (2 * v + β) o (k + 1) (2 * v)), np (updN N (k + 1) (2 * v + β) o (k + 1) (2 * v + 1))] := by
    match β, hβ with
    | 0, _ => simp [updN]
    | 1, _ => simp [updN]
  obtain ⟨p1, p2, p3, p4⟩ := h.poke hb hu (by omega)
  refine ⟨?_, ?_, ?_, ?_, ?_, ?_, ?_, hl, ?_⟩
  · rw [updN_other (by omega)]; exact h.root
  · rcases Nat.eq_zero_or_pos k with hk | hk
    · subst hk
      obtain ⟨rfl, rfl⟩ := h.root_zero hb
      exact p4 rfl
    · rw [updN_other (by omega), updN_other (by omega)]
      exact p3 hk
  · intro k' v' b' hk' hb'
    by_cases he : k' = k + 1 ∧ v' = 2 * v + β
    · obtain ⟨rfl, rfl⟩ := he
      rw [updN_same] at hb'
      rw [updN_other (by omega), updN_other (by omega)]
      exact hnew b' hb'
    · rw [updN_other he] at hb'
      by_cases he2 : k' = k ∧ v' = v
      · obtain ⟨rfl, rfl⟩ := he2
        rw [hb] at hb'
        injection hb' with hb'
        subst hb'
        exact p2 hk'
      · rw [updN_other (by omega), updN_other (by omega)]
        exact p1 k' v' b' hk' hb' he2
  · intro k1 v1 k2 v2 b' h1 h2
    by_cases e1 : k1 = k + 1 ∧ v1 = 2 * v + β
    · by_cases e2 : k2 = k + 1 ∧ v2 = 2 * v + β
      · omega
      · rw [updN_other e2] at h2
        obtain ⟨rfl, rfl⟩ := e1
        rw [updN_same] at h1
        exact absurd (hinj b' k2 v2 h1 h2) e2
    · rw [updN_other e1] at h1
      by_cases e2 : k2 = k + 1 ∧ v2 = 2 * v + β
      · obtain ⟨rfl, rfl⟩ := e2
        rw [updN_same] at h2
        exact absurd (hinj b' k1 v1 h2 h1) e1
      · rw [updN_other e2] at h2
        exact h.inj _ _ _ _ _ h1 h2
  · intro k' v' hs
    by_cases he : k' + 1 = k + 1 ∧ v' = 2 * v + β
    · rw [updN_other (by omega)]
      obtain ⟨h1, h2⟩ := he
      have e1 : k' = k := by omega
      have e2 : v' / 2 = v := by omega
      rw [e1, e2, hb]
      rfl
    · rw [updN_other he] at hs
      by_cases he2 : k' = k + 1 ∧ v' / 2 = 2 * v + β
      · -- a kid of the turned node is there: so the node is
        cases o with
        | some b' => rw [he2.1, he2.2, updN_same]; rfl
        | none =>
          exfalso
          have hk := hkids rfl
          have hv' : v' = 2 * (2 * v + β) ∨ v' = 2 * (2 * v + β) + 1 := by omega
          rw [he2.1] at hs
          rcases hv' with e | e <;> rw [e] at hs
          · rw [hk.1] at hs; cases hs
          · rw [hk.2] at hs; cases hs
      · rw [updN_other he2]
        exact h.parent k' v' hs
  · intro k' v' hs
    by_cases he : k' = k + 1 ∧ v' = 2 * v + β
    · obtain ⟨rfl, rfl⟩ := he
      refine ⟨by omega, ?_⟩
      rw [Nat.pow_succ]
      omega
    · rw [updN_other he] at hs
      exact h.deep k' v' hs
  · intro k' v' hs
    by_cases he : k' = k + 1 ∧ v' = 2 * v + β
    · obtain ⟨rfl, rfl⟩ := he
      rw [updN_same]
      cases o with
      | some b' => rfl
      | none => rw [hset rfl] at hs; cases hs
    · rw [updN_other he]
      exact h.set k' v' hs
  · intro k' v' b' hs
    by_cases he : k' = k + 1 ∧ v' = 2 * v + β
    · obtain ⟨rfl, rfl⟩ := he
      rw [updN_same] at hs
      exact hbase b' hs
    · rw [updN_other he] at hs
      exact h.base k' v' b' hs
end
end Go.Proofs.Ytlpmjkbpcobgdaa

/-
  A new tree, and the examples of the layer's laws (awake).
-/
import Derived.Test.YtlpmjkbpcobgdaaTriLong
namespace Go.Proofs.Ytlpmjkbpcobgdaa
open Go.RowKit Go.Sort

def N0 (g : Nat) : Nat → Nat → Option Nat := fun k v => if k = 0 ∧ v = 0 then some g else none
def S0 : Nat → Nat → Bool := fun _ _ => false
theorem N0_some {g k v b : Nat} (h : N0 g k v = some b) : k = 0 ∧ v = 0 ∧ b = g := by
  unfold N0 at h
  split at h
  · rename_i e
    injection h with h
    exact ⟨e.1, e.2, h.symm⟩
  · cases h
theorem N0_succ (g k v : Nat) : N0 g (k + 1) v = none := by simp [N0]

theorem trie_new (w : World) : TrieAt (w.alloc (.cells #[.bool false, .pointer none, .pointer none, .int .i64 0] 96)) w.heap.size w.heap.size (N0 w.heap.size) S0 0 := by
  refine ⟨by simp [N0], ?_, ?_, ?_, ?_, ?_, ?_, ?_, ?_⟩
  · have := Blk.new w 96 #[.bool false, .pointer none, .pointer none, .int .i64 0]
    rw [N0_succ, N0_succ]
    exact this
  · intro k v b hk hb
    have := (N0_some hb).1
    omega
  · intro k v k' v' b h1 h2
    have e1 := N0_some h1
    have e2 := N0_some h2
    omega
  · intro k v hs
    rw [N0_succ] at hs
    cases hs
  · intro k v hs
    obtain ⟨b, hb⟩ := Option.isSome_iff_exists.1 hs
    have e := N0_some hb
    obtain ⟨rfl, rfl, _⟩ := e
    exact ⟨by omega, by decide⟩
  · intro k v hs
    cases hs
  · intro k v hk hs
    obtain ⟨b, hb⟩ := Option.isSome_iff_exists.1 hs
    have := (N0_some hb).1
    omega
  · intro k v b hb
    have := (N0_some hb).2.2
    omega

/-- Put of a prefix that is one and is not there. -/
theorem put_new {w : World} {B g c : Nat} {N : Nat → Nat → Option Nat} {S : Nat → Nat → Bool} (hT : TrieAt w B g N S c) (a n : Nat) (ha : a < 4294967296) (hn : n ≤ 32) (hr : Tri.right a (n : Int) = true) (hBw : B ≤ w.heap.size) (hc : c < 4294967296) (hs : S n (Tri.pv a n) = false) :
    Calls Try.prog 42 #[.pointer (some ⟨g, 0, none⟩), .agg #[.int .u32 (a : Int), .int .i64 (n : Int)]] w fun e w' => e = .returned (.int .i64 0) ∧
      ∃ N', TrieAt w' B g N' (updS S n (Tri.pv a n) true) (c + 1) ∧ Frm (foot N) w w' ∧ (∀ i, foot N' i → foot N i ∨ w.heap.size ≤ i) :=
  (put_right hT a n ha hn hr hBw hc).mono fun e w' h => by
    obtain ⟨N', S', c', h1, h2, h3, h4 | ⟨_, h5, rfl, rfl⟩⟩ := h
    · rw [hs] at h4
      exact absurd h4.1 (by simp)
    · exact ⟨h5, N', h1, h2, h3⟩
/-- Put of a prefix that is there. -/
theorem put_taken {w : World} {B g c : Nat} {N : Nat → Nat → Option Nat} {S : Nat → Nat → Bool} (hT : TrieAt w B g N S c) (a n : Nat) (ha : a < 4294967296) (hn : n ≤ 32) (hr : Tri.right a (n : Int) = true) (hBw : B ≤ w.heap.size) (hc : c < 4294967296) (hs : S n (Tri.pv a n) = true) :
    Calls Try.prog 42 #[.pointer (some ⟨g, 0, none⟩), .agg #[.int .u32 (a : Int), .int .i64 (n : Int)]] w fun e w' => e = .returned (.int .i64 6) ∧
      ∃ N', TrieAt w' B g N' S c ∧ Frm (foot N) w w' ∧ (∀ i, foot N' i → foot N i ∨ w.heap.size ≤ i) :=
  (put_right hT a n ha hn hr hBw hc).mono fun e w' h => by
    obtain ⟨N', S', c', h1, h2, h3, ⟨_, h5, rfl, rfl⟩ | h4⟩ := h
    · exact ⟨h5, N', h1, h2, h3⟩
    · rw [hs] at h4
      exact absurd h4.1 (by simp)
theorem TrieX.foot_base {w : World} {B g c : Nat} {N : Nat → Nat → Option Nat} {S : Nat → Nat → Bool} {X : Nat → Nat → Prop} (h : TrieX w B g N S c X) : ∀ i, foot N i → B ≤ i := fun i ⟨k, v, hi⟩ => h.base k v i hi

set_option maxRecDepth 100000 in
set_option maxHeartbeats 2000000 in
theorem trie_awake (w : World) : Calls Try.prog 39 #[] w fun e w' => e = .returned (.bool true) ∧ Below w.heap.size w w' := by
  have p1 := fun (W : World) (N : Nat → Nat → Option Nat) (hT : TrieAt W w.heap.size w.heap.size N S0 0) (hB : w.heap.size ≤ W.heap.size) => put_new hT 167772160 8 (by omega) (by omega) (by decide) hB (by omega) rfl
  have p2 := fun (W : World) (N : Nat → Nat → Option Nat) (hT : TrieAt W w.heap.size w.heap.size N (updS S0 8 10 true) 1) (hB : w.heap.size ≤ W.heap.size) => put_new hT 167837696 16 (by omega) (by omega) (by decide) hB (by omega) (by decide)
  have p3 := fun (W : World) (N : Nat → Nat → Option Nat) (hT : TrieAt W w.heap.size w.heap.size N (updS (updS S0 8 10 true) 16 2561 true) 2) => longest_any hT 167838211 (by omega)
  have P1 := hide p1
  have P2 := hide p2
  have P3 := hide p3
  have hT0 := trie_new w
  have HT0 := hide hT0
  clear p1 p2 p3 hT0
  go_enter Try.func39, Try.ntmps39
  go_wp2_with fail
  refine (unhide P1 _ _ (unhide HT0) (by simp)).mono ?_
  rintro e w1 ⟨rfl, N1, hT1, hF1, hf1⟩
  have B1 : Below w.heap.size w w1 := ((Below.refl _ _).alloc (Nat.le_refl _) _).trans (hF1.to_below (by simp) (unhide HT0).foot_base)
  have HT1 := hide hT1
  have HB1 := hide B1
  clear HT0 hT1 hF1 hf1 B1
  go_wp2_with fail
  refine (unhide P2 _ _ (unhide HT1) (unhide HB1).size).mono ?_
  rintro e w2 ⟨rfl, N2, hT2, hF2, hf2⟩
  have B2 : Below w.heap.size w w2 := (unhide HB1).trans (hF2.to_below (unhide HB1).size (unhide HT1).foot_base)
  have HT2 := hide hT2
  have HB2 := hide B2
  clear HT1 hT2 hF2 hf2 B2
  go_wp2_with fail
  refine (unhide P3 _ _ (unhide HT2)).mono ?_
  rintro e w3 ⟨o, ho, rfl, hb3⟩
  have hk : o = some 16 := by
    have h16 : updS (updS S0 8 10 true) 16 2561 true 16 (Tri.pv 167838211 16) = true := by decide
    cases o with
    | none =>
      have := ho 16 (by omega)
      rw [h16] at this
      cases this
    | some k =>
      obtain ⟨h1, h2, h3⟩ := ho
      rcases Nat.lt_trichotomy k 16 with h | h | h
      · have := h3 16 h (by omega)
        rw [h16] at this
        cases this
      · rw [h]
      · rw [updS_other (by omega), updS_other (by omega)] at h2
        cases h2
  subst hk
  have HB3 := hide ((unhide HB2).trans (hb3.mono (unhide HB2).size))
  have hT3 := (unhide HT2).below hb3
  have hlen := fun (W : World) (h : TrieAt W w.heap.size w.heap.size N2 (updS (updS S0 8 10 true) 16 2561 true) 2) => len_any h
  have HL := hide hlen
  have HT3 := hide hT3
  have hv : longVal 167838211 (some 16) = .tuple #[.agg #[.int .u32 167837696, .int .i64 16], .bool true] := by unfold longVal bl; rfl
  rw [hv]
  have hsz := (unhide HB3).size
  clear hb3 hT3 hlen hv ho
  go_wp2_with fail
  refine (unhide HL _ ((unhide HT3).below ((Below.refl _ _).alloc (Nat.le_refl _) _))).mono ?_
  rintro e w' ⟨rfl, rfl⟩
  go_wp2_with fail
  go_ret
  exact ⟨rfl, (unhide HB3).alloc hsz _⟩
end Go.Proofs.Ytlpmjkbpcobgdaa

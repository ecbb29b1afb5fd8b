/-
  The contract of (*Trie).Has.
-/
import Derived.Test.YtlpmjkbpcobgdaaTriWalk
namespace Go.Proofs.Ytlpmjkbpcobgdaa
open Go.RowKit Go.Sort

theorem row_form {w : World} {base : Nat} {e : TypeId} {size k : Nat} {v : Value} {xs : List Value} (h : w.ownsRow base e size v (k + 1) xs) : ∃ g cap, v = .slice (some ⟨g, 0, none⟩) (k + 1) cap ∧ base ≤ g ∧ g < w.heap.size := by
  obtain ⟨_, h2 | ⟨g, cap, cur, hv, hg, hh, _⟩⟩ := h
  · exact absurd h2.2 (by omega)
  · refine ⟨g, cap, hv, hg, ?_⟩
    rcases Nat.lt_or_ge g w.heap.size with hlt | hge
    · exact hlt
    · rw [Array.getElem?_eq_none hge] at hh; cases hh

def hasF (S : Nat → Nat → Bool) (a : Nat) (n : Int) : Bool := Tri.right a n && S n.toNat (Tri.pv a n.toNat)

theorem TrieX.not_set {w : World} {B g c : Nat} {N : Nat → Nat → Option Nat} {S : Nat → Nat → Bool} {X : Nat → Nat → Prop} (h : TrieX w B g N S c X) {k v : Nat} (hn : N k v = none) : S k v = false := by
  cases hs : S k v with
  | false => rfl
  | true => have := h.set k v hs; rw [hn] at this; cases this

set_option maxRecDepth 100000 in
set_option maxHeartbeats 1000000 in
theorem has_any {w : World} {B g c : Nat} {N : Nat → Nat → Option Nat} {S : Nat → Nat → Bool} (hT : TrieAt w B g N S c) (a : Nat) (n : Int) (ha : a < 4294967296) :
    Calls Try.prog 44 #[.pointer (some ⟨g, 0, none⟩), .agg #[.int .u32 (a : Int), .int .i64 n]] w fun e w' => e = .returned (.bool (hasF S a n)) ∧ Below w.heap.size w w' := by
  have HT := hide hT
  clear hT
  cases hr : Tri.right a n with
  | false =>
    have R : ∀ W, Calls Try.prog 54 #[.agg #[.int .u32 (a : Int), .int .i64 n]] W fun e w' => e = .returned (.bool false) ∧ Below W.heap.size W w' := fun W => hr ▸ right_block a n ha W
    have hv : hasF S a n = false := by simp [hasF, hr]
    have HR := hide R
    have HV := hide hv
    clear R hr hv
    go_enter Try.func44, Try.ntmps44
    go_wp2_with fail
    refine (unhide HR _).mono ?_
    rintro e w1 ⟨rfl, hb1⟩
    go_wp2_with fail
    go_ret
    exact ⟨ret_bool (unhide HV).symm, ((Below.refl _ _).alloc (Nat.le_refl _) _).trans (hb1.mono (by simp))⟩
  | true =>
    have R : ∀ W, Calls Try.prog 54 #[.agg #[.int .u32 (a : Int), .int .i64 n]] W fun e w' => e = .returned (.bool true) ∧ Below W.heap.size W w' := fun W => hr ▸ right_block a n ha W
    have HR := hide R
    obtain ⟨h0, h1, _⟩ := Tri.right_iff.1 hr
    obtain ⟨m, rfl⟩ := Int.eq_ofNat_of_zero_le h0
    have hm : m ≤ 32 := by omega
    have hv : hasF S a m = S m (Tri.pv a m) := by simp [hasF, hr]
    have HV := hide hv
    clear R hr hv h0 h1
    go_enter Try.func44, Try.ntmps44
    go_wp2_with fail
    refine (unhide HR _).mono ?_
    rintro e w1 ⟨rfl, hb1⟩
    have B1 : Below w.heap.size w w1 := ((Below.refl _ _).alloc (Nat.le_refl _) _).trans (hb1.mono (by simp))
    have k1 := (Blk.new w 88 #[.int .u32 (a : Int), .int .i64 (m : Int)]).below hb1 (by simp)
    have c0 : w1.cell? ⟨w.heap.size, 0, none⟩ = some (.int .u32 (a : Int)) := k1.cell 0
    have c1 : w1.cell? ⟨w.heap.size, 1, none⟩ = some (.int .i64 (m : Int)) := k1.cell 1
    have T1 := (unhide HT).below B1
    have HB1 := hide B1
    have HK1 := hide k1
    have HT1 := hide T1
    clear hb1 B1 k1 T1
    go_wp2_with fail
    clear c0 c1
    refine (walk_any (unhide HT1) a m ha hm).mono ?_
    rintro e w2 ⟨v, rfl, hown, hb2⟩
    obtain ⟨g', cap, rfl, hg1, hg2⟩ := row_form hown
    have k2 := (unhide HK1).below hb2 (unhide HK1).lt
    have c1 : w2.cell? ⟨w.heap.size, 1, none⟩ = some (.int .i64 (m : Int)) := k2.cell 1
    have B2 : Below w.heap.size w w2 := (unhide HB1).trans (hb2.mono (unhide HB1).size)
    have T2 := (unhide HT).below B2
    have hr := (unhide HT1).reach_iff (a := a) (n := m) (k := m) ha (Nat.le_refl _) hm
    have hrl := reach_le N a m
    obtain ⟨r, hrr⟩ : ∃ r, r = reach N a m := ⟨_, rfl⟩
    rw [← hrr] at hown hr hrl ⊢
    have HB2 := hide B2
    rcases hN : N m (Tri.pv a m) with _ | b
    · have hlt : r < m := by
        rcases Nat.lt_or_ge r m with h | h
        · exact h
        · have := hr.2 h; rw [hN] at this; cases this
      have hne : (((r : Int) + 1) == ((m : Int) + 1)) = false := by simp; omega
      have hS := (unhide HT1).not_set hN
      have HS := hide hS
      have HR := hide hrr
      clear hown k2 B2 T2 hr hb2 hN hS hrr
      go_wp2_with fail
      go_ret
      exact ⟨ret_bool (by rw [unhide HV, unhide HS]), unhide HB2⟩
    · have hrm : r = m := Nat.le_antisymm hrl (hr.1 (by rw [hN]; rfl))
      subst hrm
      have c2 : w2.cell? ⟨g', r, none⟩ = some (.pointer (some ⟨b, 0, none⟩)) := by
        rw [hown.cellAt r (by omega), ptrs_get N a r r (Nat.le_refl _), hN]
        rfl
      have c3 : w2.cell? ⟨b, 0, none⟩ = some (.bool (S r (Tri.pv a r))) := (T2.cells hN).1
      obtain ⟨s, hs⟩ : ∃ s, s = S r (Tri.pv a r) := ⟨_, rfl⟩
      rw [← hs] at c3 HV
      have HR := hide hrr
      clear hown k2 B2 T2 hr hb2 hN hrr hs hrl
      go_wp2_with fail
      go_ret
      exact ⟨ret_bool (unhide HV).symm, unhide HB2⟩
end Go.Proofs.Ytlpmjkbpcobgdaa

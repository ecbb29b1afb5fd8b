/-
  The contracts of (*node).empty, (*Trie).Overlaps, (*Trie).Len and (*Trie).Longest.
-/
import Derived.Test.YtlpmjkbpcobgdaaTriPut
namespace Go.Proofs.Ytlpmjkbpcobgdaa
open Go.RowKit Go.Sort

theorem TrieX.anc {w : World} {B g c : Nat} {N : Nat → Nat → Option Nat} {S : Nat → Nat → Bool} {X : Nat → Nat → Prop} (h : TrieX w B g N S c X) : ∀ {d j v : Nat}, (N (j + d) v).isSome = true → (N j (v / 2 ^ d)).isSome = true
  | 0, j, v, hs => by simpa using hs
  | d + 1, j, v, hs => by
    have := h.anc (d := d) (j := j) (v := v / 2) (h.parent (j + d) v hs)
    rwa [Nat.div_div_eq_div_mul, show 2 * 2 ^ d = 2 ^ (d + 1) from by rw [Nat.pow_succ, Nat.mul_comm]] at this

/-- A prefix that is there has addresses of the prefix of the first n bits of a. -/
def OverP (S : Nat → Nat → Bool) (a n : Nat) : Prop := (∃ k, k ≤ n ∧ S k (Tri.pv a k) = true) ∨ (∃ k v, n ≤ k ∧ S k v = true ∧ v / 2 ^ (k - n) = Tri.pv a n)

theorem empty_any {w : World} {b : Nat} {s : Bool} {o1 o2 : Option Nat} (h0 : w.cell? ⟨b, 0, none⟩ = some (.bool s)) (h1 : w.cell? ⟨b, 1, none⟩ = some (np o1)) (h2 : w.cell? ⟨b, 2, none⟩ = some (np o2)) :
    Calls Try.prog 64 #[.pointer (some ⟨b, 0, none⟩)] w fun e w' => e = .returned (.bool (!s && (o1.isNone && o2.isNone))) ∧ w = w' := by
  cases s <;> rcases o1 with _ | x <;> rcases o2 with _ | y <;> simp only [np_none, np_some] at h1 h2
  all_goals
    go_enter Try.func64, Try.ntmps64
    go_wp2
    go_ret
    exact ⟨rfl, rfl⟩

def OverOut (S : Nat → Nat → Bool) (a n : Nat) (w : World) (e : Ending) (w' : World) : Prop := ∃ r : Bool, e = .returned (.bool r) ∧ (r = true ↔ OverP S a n) ∧ Below w.heap.size w w'

theorem over_bad {w : World} (g a : Nat) (n : Int) (ha : a < 4294967296) (hr : Tri.right a n = false) :
    Calls Try.prog 41 #[.pointer (some ⟨g, 0, none⟩), .agg #[.int .u32 (a : Int), .int .i64 n]] w fun e w' => e = .returned (.bool false) ∧ Below w.heap.size w w' := by
  have R : ∀ W, Calls Try.prog 54 #[.agg #[.int .u32 (a : Int), .int .i64 n]] W fun e w' => e = .returned (.bool false) ∧ Below W.heap.size W w' := fun W => hr ▸ right_block a n ha W
  have HR := hide R
  clear R hr
  go_enter Try.func41, Try.ntmps41
  go_wp2_with fail
  refine (unhide HR _).mono ?_
  rintro e w1 ⟨rfl, hb1⟩
  go_wp2_with fail
  go_ret
  exact ⟨rfl, ((Below.refl _ _).alloc (Nat.le_refl _) _).trans (hb1.mono (by simp))⟩

theorem over_none {w : World} {B g c : Nat} {N : Nat → Nat → Option Nat} {S : Nat → Nat → Bool} (h : TrieAt w B g N S c) {a n : Nat} (ha : a < 4294967296) (hn : n ≤ 32) (hall : ∀ j, j ≤ reach N a n → S j (Tri.pv a j) = false)
    (hb : ∀ b, N n (Tri.pv a n) = some b → N (n + 1) (2 * Tri.pv a n) = none ∧ N (n + 1) (2 * Tri.pv a n + 1) = none) : ¬ OverP S a n := by
  have hpath : ∀ k, k ≤ n → S k (Tri.pv a k) = false := by
    intro k hk
    cases hs : S k (Tri.pv a k) with
    | false => rfl
    | true =>
      have := (h.reach_iff ha hk hn).1 (h.set _ _ hs)
      rw [hall k this] at hs
      cases hs
  rintro (⟨k, hk, hs⟩ | ⟨k, v, hk, hs, hv⟩)
  · rw [hpath k hk] at hs; cases hs
  · rcases Nat.lt_or_ge n k with hlt | hge
    · have h1 := h.set _ _ hs
      have h2 := h.anc (d := k - (n + 1)) (j := n + 1) (v := v) (by rw [show n + 1 + (k - (n + 1)) = k from by omega]; exact h1)
      have h3 := h.parent n _ h2
      rw [Nat.div_div_eq_div_mul, show 2 ^ (k - (n + 1)) * 2 = 2 ^ (k - n) from by rw [← Nat.pow_succ, show (k - (n + 1)).succ = k - n from by omega], hv] at h3
      obtain ⟨b, hb'⟩ := Option.isSome_iff_exists.1 h3
      have h4 : (v / 2 ^ (k - (n + 1))) / 2 = Tri.pv a n := by
        rw [Nat.div_div_eq_div_mul, show 2 ^ (k - (n + 1)) * 2 = 2 ^ (k - n) from by rw [← Nat.pow_succ, show (k - (n + 1)).succ = k - n from by omega], hv]
      have h5 : v / 2 ^ (k - (n + 1)) = 2 * Tri.pv a n ∨ v / 2 ^ (k - (n + 1)) = 2 * Tri.pv a n + 1 := by omega
      rcases h5 with e | e <;> rw [e] at h2
      · rw [(hb b hb').1] at h2; cases h2
      · rw [(hb b hb').2] at h2; cases h2
    · obtain rfl : k = n := by omega
      rw [Nat.sub_self, Nat.pow_zero, Nat.div_one] at hv
      rw [hv, hpath k (Nat.le_refl _)] at hs
      cases hs

theorem over_kid {w : World} {B g c : Nat} {N : Nat → Nat → Option Nat} {S : Nat → Nat → Bool} (h : TrieAt w B g N S c) {a n β : Nat} (hβ : β < 2) (hk : (N (n + 1) (2 * Tri.pv a n + β)).isSome = true) : OverP S a n := by
  rcases h.live _ _ (by omega) hk with ⟨k', v', h1, h2, h3⟩ | h1
  · refine .inr ⟨k', v', by omega, h2, ?_⟩
    have : v' / 2 ^ (k' - n) = v' / 2 ^ (k' - (n + 1)) / 2 := by
      rw [Nat.div_div_eq_div_mul, ← Nat.pow_succ, show (k' - (n + 1)).succ = k' - n from by omega]
    rw [this, h3]
    omega
  · exact h1.elim

def OverRel (S : Nat → Nat → Bool) (a m : Nat) (i : Value) : Prop := ∃ k : Nat, k ≤ m + 1 ∧ i = .int .i64 (k : Int) ∧ ∀ j, j < k → S j (Tri.pv a j) = false

set_option maxRecDepth 100000 in
set_option maxHeartbeats 2000000 in
theorem over_right {w : World} {B g c : Nat} {N : Nat → Nat → Option Nat} {S : Nat → Nat → Bool} (hT : TrieAt w B g N S c) (a n : Nat) (ha : a < 4294967296) (hn : n ≤ 32) (hr : Tri.right a (n : Int) = true) :
    Calls Try.prog 41 #[.pointer (some ⟨g, 0, none⟩), .agg #[.int .u32 (a : Int), .int .i64 (n : Int)]] w (OverOut S a n w) := by
  have HT := hide hT
  have R : ∀ W, Calls Try.prog 54 #[.agg #[.int .u32 (a : Int), .int .i64 (n : Int)]] W fun e w' => e = .returned (.bool true) ∧ Below W.heap.size W w' := fun W => hr ▸ right_block a n ha W
  have HR := hide R
  clear hT R hr
  go_enter Try.func41, Try.ntmps41
  go_wp2_with fail
  refine (unhide HR _).mono ?_
  rintro e w1 ⟨rfl, hb1⟩
  have B1 : Below w.heap.size w w1 := ((Below.refl _ _).alloc (Nat.le_refl _) _).trans (hb1.mono (by simp))
  have k1 := (Blk.new w 88 #[.int .u32 (a : Int), .int .i64 (n : Int)]).below hb1 (by simp)
  have c0 : w1.cell? ⟨w.heap.size, 0, none⟩ = some (.int .u32 (a : Int)) := k1.cell 0
  have c1 : w1.cell? ⟨w.heap.size, 1, none⟩ = some (.int .i64 (n : Int)) := k1.cell 1
  have T1 := (unhide HT).below B1
  have HB1 := hide B1
  have HK1 := hide k1
  have HT1 := hide T1
  clear hb1 B1 k1 T1
  go_wp2_with fail
  clear c0 c1
  refine (walk_any (unhide HT1) a n ha hn).mono ?_
  rintro e w2 ⟨v, rfl, hown, hb2⟩
  obtain ⟨g', cap, rfl, hg1, hg2⟩ := row_form hown
  have k2 := (unhide HK1).below hb2 (unhide HK1).lt
  have c1 : w2.cell? ⟨w.heap.size, 1, none⟩ = some (.int .i64 (n : Int)) := k2.cell 1
  have B2 : Below w.heap.size w w2 := (unhide HB1).trans (hb2.mono (unhide HB1).size)
  have T2 := (unhide HT).below B2
  have hrl := reach_le N a n
  have hri := fun k hk => T2.reach_iff (a := a) (n := n) (k := k) ha hk hn
  obtain ⟨r, hrr⟩ : ∃ r, r = reach N a n := ⟨_, rfl⟩
  rw [← hrr] at hown hri hrl ⊢
  have HB2 := hide B2
  have HT2 := hide T2
  have HRI := hide hri
  have HRR := hide hrr
  have HO := hide hown
  clear hown k2 B2 T2 hri hb2 hrr
  go_wp2_with fail
  go_loop [16] (OverRel S a r) (fun i => r + 1 - (intOf i).toNat)
  case atStart => exact ⟨0, Nat.zero_le _, rfl, fun j hj => absurd hj (by omega)⟩
  case round =>
    obtain ⟨k, hk, rfl, hall⟩ := hrel
    have HA := hide hall
    clear hall
    by_cases hlt : k < r + 1
    · obtain ⟨b, hN⟩ := Option.isSome_iff_exists.1 ((unhide HRI k (by omega)).2 (by omega))
      have c2 : w2.cell? ⟨g', k, none⟩ = some (.pointer (some ⟨b, 0, none⟩)) := by
        rw [(unhide HO).cellAt k (by omega), ptrs_get N a r k (by omega), hN]
        rfl
      have c3 := ((unhide HT2).cells hN).1
      cases hs : S k (Tri.pv a k) with
      | true =>
        rw [hs] at c3
        have HS := hide hs
        clear hs hN
        go_wp2_with fail
        go_ret
        exact ⟨true, rfl, ⟨fun _ => .inl ⟨k, by omega, unhide HS⟩, fun _ => rfl⟩, unhide HB2⟩
      | false =>
        rw [hs] at c3
        have HS := hide hs
        clear hs hN
        go_wp2_with fail
        go_round
        case rel => exact ⟨k + 1, by omega, by go_num, fun j hj => by
          rcases Nat.lt_or_ge j k with h | h
          · exact unhide HA j h
          · obtain rfl : j = k := by omega
            exact unhide HS⟩
        case measure => simp [intOf]; omega
    · obtain rfl : k = r + 1 := by omega
      rcases hN : N n (Tri.pv a n) with _ | b
      · have hlt2 : r < n := by
          rcases Nat.lt_or_ge r n with h | h
          · exact h
          · have := (unhide HRI n (Nat.le_refl _)).2 h; rw [hN] at this; cases this
        have hne : (((r : Int) + 1) == ((n : Int) + 1)) = false := by simp; omega
        have hno : ¬ OverP S a n := over_none (unhide HT2) ha hn (fun j hj => unhide HA j (by rw [← unhide HRR] at hj; omega)) (fun b hb => by rw [hN] at hb; cases hb)
        have HNO := hide hno
        clear hN hno
        go_wp2_with fail
        go_ret
        exact ⟨false, rfl, ⟨(by intro h; cases h), fun h => absurd h (unhide HNO)⟩, unhide HB2⟩
      · obtain rfl : r = n := Nat.le_antisymm hrl ((unhide HRI n (Nat.le_refl _)).1 (by rw [hN]; rfl))
        have c2 : w2.cell? ⟨g', r, none⟩ = some (.pointer (some ⟨b, 0, none⟩)) := by
          rw [(unhide HO).cellAt r (by omega), ptrs_get N a r r (Nat.le_refl _), hN]
          rfl
        obtain ⟨d0, d1, d2⟩ := (unhide HT2).cells hN
        rw [unhide HA r (by omega)] at d0
        have hE := empty_any d0 d1 d2
        have hres : ((!false && ((N (r + 1) (2 * Tri.pv a r)).isNone && (N (r + 1) (2 * Tri.pv a r + 1)).isNone)) = false) ↔ OverP S a r := by
          constructor
          · intro h
            simp only [Bool.not_false, Bool.true_and, Bool.and_eq_false_iff] at h
            rcases h with h | h
            · exact over_kid (unhide HT2) (β := 0) (by omega) (by cases hq : N (r + 1) (2 * Tri.pv a r) <;> simp_all)
            · exact over_kid (unhide HT2) (β := 1) (by omega) (by cases hq : N (r + 1) (2 * Tri.pv a r + 1) <;> simp_all)
          · intro h
            cases hq : (!false && ((N (r + 1) (2 * Tri.pv a r)).isNone && (N (r + 1) (2 * Tri.pv a r + 1)).isNone)) with
            | false => rfl
            | true =>
              simp only [Bool.not_false, Bool.true_and, Bool.and_eq_true, Option.isNone_iff_eq_none] at hq
              exact absurd h (over_none (unhide HT2) ha hn (fun j hj => unhide HA j (by rw [← unhide HRR] at hj; omega)) (fun _ _ => hq))
        obtain ⟨q, hq⟩ : ∃ q, q = (!false && ((N (r + 1) (2 * Tri.pv a r)).isNone && (N (r + 1) (2 * Tri.pv a r + 1)).isNone)) := ⟨_, rfl⟩
        rw [← hq] at hE hres
        have HE := hide hE
        have HRES := hide hres
        clear hN hE hres hq d0 d1 d2
        go_wp2_with (go_at_call 64; refine (unhide HE).mono ?_; rintro e w' ⟨rfl, rfl⟩)
        go_ret
        refine ⟨!q, rfl, ?_, unhide HB2⟩
        rw [← unhide HRES]
        cases q <;> simp
end Go.Proofs.Ytlpmjkbpcobgdaa

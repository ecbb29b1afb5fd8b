/-
  Put and Take of any block, as functions of what is there; and how many there are.
-/
import Derived.Test.YtlpmjkbpcobgdaaTriActs
namespace Go.Proofs.Ytlpmjkbpcobgdaa
open Go.RowKit Go.Sort

def putE (S : Nat → Nat → Bool) (a : Nat) (n : Int) : Int := if Tri.right a n then (if S n.toNat (Tri.pv a n.toNat) then 6 else 0) else 12
def putS (S : Nat → Nat → Bool) (a : Nat) (n : Int) : Nat → Nat → Bool := if Tri.right a n then updS S n.toNat (Tri.pv a n.toNat) true else S
def putC (S : Nat → Nat → Bool) (a : Nat) (n : Int) (c : Nat) : Nat := if putE S a n = 0 then c + 1 else c

theorem updS_self {S : Nat → Nat → Bool} {k v : Nat} {s : Bool} (h : S k v = s) : updS S k v s = S := by
  funext i j
  unfold updS
  split
  · rename_i h'
    rw [h'.1, h'.2, h]
  · rfl

def PutAny (B g c : Nat) (N : Nat → Nat → Option Nat) (S : Nat → Nat → Bool) (a : Nat) (n : Int) (w : World) (e : Ending) (w' : World) : Prop :=
  e = .returned (.int .i64 (putE S a n)) ∧ ∃ N', TrieAt w' B g N' (putS S a n) (putC S a n c) ∧ Frm (foot N) w w' ∧ (∀ i, foot N' i → foot N i ∨ w.heap.size ≤ i)

theorem put_any {w : World} {B g c : Nat} {N : Nat → Nat → Option Nat} {S : Nat → Nat → Bool} (hT : TrieAt w B g N S c) (a : Nat) (n : Int) (ha : a < 4294967296) (hBw : B ≤ w.heap.size) (hc : c < 4294967296) :
    Calls Try.prog 42 #[.pointer (some ⟨g, 0, none⟩), .agg #[.int .u32 (a : Int), .int .i64 n]] w (PutAny B g c N S a n w) := by
  cases hr : Tri.right a n with
  | false =>
    refine (put_bad g a n ha hr).mono fun e w' ⟨he, hb⟩ => ?_
    have h1 : putE S a n = 12 := by simp [putE, hr]
    have h2 : putS S a n = S := by simp [putS, hr]
    have h3 : putC S a n c = c := by simp [putC, h1]
    refine ⟨by rw [h1]; exact he, N, by rw [h2, h3]; exact hT.below hb, Frm.of_below hb, fun _ h => .inl h⟩
  | true =>
    obtain ⟨h0, h32, _⟩ := Tri.right_iff.1 hr
    obtain ⟨m, rfl⟩ := Int.eq_ofNat_of_zero_le h0
    have hm : m ≤ 32 := by omega
    refine (put_right hT a m ha hm hr hBw hc).mono fun e w' ⟨N', S', c', h1, h2, h3, h4⟩ => ?_
    rcases h4 with ⟨hs, he, rfl, rfl⟩ | ⟨hs, he, rfl, rfl⟩
    · have e1 : putE S' a (m : Int) = 6 := by simp [putE, hr, hs]
      have e2 : putS S' a (m : Int) = S' := by simp only [putS, hr, if_true, Int.toNat_natCast]; exact updS_self hs
      have e3 : putC S' a (m : Int) c' = c' := by simp [putC, e1]
      exact ⟨by rw [e1]; exact he, N', by rw [e2, e3]; exact h1, h2, h3⟩
    · have e1 : putE S a (m : Int) = 0 := by simp [putE, hr, hs]
      have e2 : putS S a (m : Int) = updS S m (Tri.pv a m) true := by simp [putS, hr]
      have e3 : putC S a (m : Int) c = c + 1 := by simp [putC, e1]
      exact ⟨by rw [e1]; exact he, N', by rw [e2, e3]; exact h1, h2, h3⟩

theorem pre_congr {S S' : Nat → Nat → Bool} : ∀ (d : Nat) {k v : Nat}, (∀ k' v', k ≤ k' → v' / 2 ^ (k' - k) = v → S k' v' = S' k' v') → pre S d k v = pre S' d k v
  | 0, k, v, h => by
    unfold pre
    rw [h k v (Nat.le_refl _) (by simp)]
  | d + 1, k, v, h => by
    have step : ∀ β, β < 2 → pre S d (k + 1) (2 * v + β) = pre S' d (k + 1) (2 * v + β) := fun β hβ =>
      pre_congr d fun k' v' hk hv => h k' v' (by omega) (by
        have : v' / 2 ^ (k' - k) = v' / 2 ^ (k' - (k + 1)) / 2 := by
          rw [Nat.div_div_eq_div_mul, ← Nat.pow_succ, show (k' - (k + 1)).succ = k' - k from by omega]
        rw [this, hv]
        omega)
    unfold pre
    rw [h k v (Nat.le_refl _) (by simp), step 1 (by omega), show 2 * v = 2 * v + 0 from rfl, step 0 (by omega)]

theorem pre_len {S : Nat → Nat → Bool} {n u : Nat} {b : Bool} : ∀ (d : Nat) {k v : Nat}, k ≤ n → n ≤ k + d → u / 2 ^ (n - k) = v → (pre (updS S n u b) d k v).length + (S n u).toNat = (pre S d k v).length + b.toNat
  | 0, k, v, h1, h2, h3 => by
    obtain rfl : k = n := by omega
    obtain rfl : u = v := by simpa using h3
    unfold pre
    rw [updS_same]
    cases S k u <;> cases b <;> simp
  | d + 1, k, v, h1, h2, h3 => by
    rcases Nat.lt_or_ge k n with hlt | hge
    · have hup : u / 2 ^ (n - (k + 1)) / 2 = v := by
        rw [Nat.div_div_eq_div_mul, ← Nat.pow_succ, show (n - (k + 1)).succ = n - k from by omega, h3]
      have hself : updS S n u b k v = S k v := by unfold updS; rw [if_neg (by omega)]
      have away : ∀ β, u / 2 ^ (n - (k + 1)) ≠ 2 * v + β → pre (updS S n u b) d (k + 1) (2 * v + β) = pre S d (k + 1) (2 * v + β) := fun β hne =>
        pre_congr d fun k' v' hk hv => by
          unfold updS
          rw [if_neg]
          rintro ⟨rfl, rfl⟩
          exact hne hv
      rcases Nat.mod_two_eq_zero_or_one (u / 2 ^ (n - (k + 1))) with hm | hm
      · have h0 := pre_len (S := S) (n := n) (u := u) (b := b) d (k := k + 1) (v := 2 * v) (by omega) (by omega) (by omega)
        have h1' := away 1 (by omega)
        unfold pre
        rw [hself, h1']
        simp only [List.length_append]
        omega
      · have h0 := pre_len (S := S) (n := n) (u := u) (b := b) d (k := k + 1) (v := 2 * v + 1) (by omega) (by omega) (by omega)
        have h1' : pre (updS S n u b) d (k + 1) (2 * v) = pre S d (k + 1) (2 * v) := away 0 (by omega)
        unfold pre
        rw [hself, h1']
        simp only [List.length_append]
        omega
    · obtain rfl : k = n := by omega
      obtain rfl : u = v := by simpa using h3
      have away : ∀ β, pre (updS S k u b) d (k + 1) (2 * u + β) = pre S d (k + 1) (2 * u + β) := fun β =>
        pre_congr d fun k' v' hk hv => by
          unfold updS
          rw [if_neg (by omega)]
      have a0 : pre (updS S k u b) d (k + 1) (2 * u) = pre S d (k + 1) (2 * u) := away 0
      unfold pre
      rw [updS_same, a0, away 1]
      simp only [List.length_append]
      cases S k u <;> cases b <;> simp <;> omega
end Go.Proofs.Ytlpmjkbpcobgdaa

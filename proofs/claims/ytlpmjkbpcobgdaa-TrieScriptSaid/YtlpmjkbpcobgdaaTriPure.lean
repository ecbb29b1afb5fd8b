/-
  The plain law of prefixes: masks, the first bits of an address, which prefix is whose; and trees of prefixes as sets of pairs (how many bits, which).
  No program, no memory.
-/
namespace Go.Proofs.Ytlpmjkbpcobgdaa
namespace Tri

/-- The first k bits of an address, as a number. -/
def pv (a k : Nat) : Nat := a / 2 ^ (32 - k)

theorem pv_succ {a k : Nat} (h : k < 32) : pv a (k + 1) = 2 * pv a k + a / 2 ^ (31 - k) % 2 := by
  unfold pv
  have e1 : 32 - (k + 1) = 31 - k := by omega
  have e2 : 32 - k = (31 - k) + 1 := by omega
  rw [e1, e2, Nat.pow_succ, ← Nat.div_div_eq_div_mul]
  omega
theorem pv_zero {a : Nat} (h : a < 4294967296) : pv a 0 = 0 := by
  unfold pv
  exact Nat.div_eq_of_lt (by simpa using h)
theorem pv_full (a : Nat) : pv a 32 = a := by unfold pv; simp
theorem pv_half {a k : Nat} (h : k < 32) : pv a (k + 1) / 2 = pv a k := by rw [pv_succ h]; omega
theorem pv_div {a j k : Nat} (h : j ≤ k) (hk : k ≤ 32) : pv a k / 2 ^ (k - j) = pv a j := by
  unfold pv
  rw [Nat.div_div_eq_div_mul, ← Nat.pow_add]
  congr 2
  omega
theorem pv_lt {a k : Nat} (h : a < 4294967296) (hk : k ≤ 32) : pv a k < 2 ^ k := by
  unfold pv
  rw [Nat.div_lt_iff_lt_mul (Nat.two_pow_pos _), ← Nat.pow_add]
  have : k + (32 - k) = 32 := by omega
  rw [this]
  simpa using h

/-! ### masks -/
def msk (n : Nat) : Nat := 4294967296 - 2 ^ (32 - n)
theorem pow_le {m : Nat} (h : m ≤ 32) : 2 ^ m ≤ 4294967296 := by
  have := Nat.pow_le_pow_right (n := 2) (by omega) h
  simpa using this
theorem msk_lt (n : Nat) : msk n < 4294967296 := by
  unfold msk
  have := Nat.two_pow_pos (32 - n)
  omega
theorem msk_shl {n : Nat} (hn : n ≤ 32) : 4294967295 * 2 ^ (32 - n) % 4294967296 = msk n := by
  unfold msk
  have h1 := pow_le (m := 32 - n) (by omega)
  have h2 := Nat.two_pow_pos (32 - n)
  have e : 4294967295 * 2 ^ (32 - n) = (4294967296 - 2 ^ (32 - n)) + 4294967296 * (2 ^ (32 - n) - 1) := by omega
  rw [e, Nat.add_mul_mod_self_left, Nat.mod_eq_of_lt (by omega)]
theorem and_low (a m : Nat) : a &&& (2 ^ m - 1) = a % 2 ^ m := Nat.and_two_pow_sub_one_eq_mod a m
theorem not_msk (n : Nat) (hn : n ≤ 32) : 4294967295 - msk n = 2 ^ (32 - n) - 1 := by
  unfold msk
  have h1 := pow_le (m := 32 - n) (by omega)
  have h2 := Nat.two_pow_pos (32 - n)
  omega
theorem andNot_msk (a n : Nat) (hn : n ≤ 32) : a &&& (4294967295 - msk n) = a % 2 ^ (32 - n) := by rw [not_msk n hn, and_low]
theorem testBit_msk (n i : Nat) (hn : n ≤ 32) : (msk n).testBit i = (decide (32 - n ≤ i) && decide (i < 32)) := by
  have e : msk n = (2 ^ n - 1) * 2 ^ (32 - n) := by
    unfold msk
    rw [Nat.sub_mul, ← Nat.pow_add, Nat.one_mul]
    have : n + (32 - n) = 32 := by omega
    rw [this]
  rw [e, Nat.testBit_mul_two_pow, Nat.testBit_two_pow_sub_one]
  by_cases h : 32 - n ≤ i
  · simp only [h, decide_true, Bool.true_and]
    congr 1
    simp only [eq_iff_iff]
    omega
  · simp [h]
theorem and_msk (a n : Nat) (ha : a < 4294967296) (hn : n ≤ 32) : a &&& msk n = pv a n * 2 ^ (32 - n) := by
  apply Nat.eq_of_testBit_eq
  intro i
  rw [Nat.testBit_and, testBit_msk n i hn, Nat.testBit_mul_two_pow]
  unfold pv
  rw [Nat.testBit_div_two_pow]
  by_cases h : 32 - n ≤ i
  · have e : i - (32 - n) + (32 - n) = i := by omega
    simp only [h, decide_true, Bool.true_and]
    rw [e]
    by_cases h2 : i < 32
    · simp [h2]
    · have : a.testBit i = false := Nat.testBit_lt_two_pow (Nat.lt_of_lt_of_le ha (by
        have := Nat.pow_le_pow_right (n := 2) (by omega) (Nat.not_lt.1 h2)
        simpa using this))
      simp [this]
  · simp [h]

/-- A prefix that is one: a base and its number of bits. -/
def right (a : Nat) (n : Int) : Bool := decide (0 ≤ n) && decide (n ≤ 32) && decide (a % 2 ^ (32 - n).toNat = 0)
theorem right_iff {a : Nat} {n : Int} : right a n = true ↔ 0 ≤ n ∧ n ≤ 32 ∧ a % 2 ^ (32 - n).toNat = 0 := by simp [right, and_assoc]
theorem base_eq {a n : Nat} (h : a % 2 ^ (32 - n) = 0) : a = pv a n * 2 ^ (32 - n) := by
  unfold pv
  have := Nat.div_add_mod a (2 ^ (32 - n))
  rw [h, Nat.add_zero, Nat.mul_comm] at this
  exact this.symm
theorem base_inj {a b n : Nat} (ha : a % 2 ^ (32 - n) = 0) (hb : b % 2 ^ (32 - n) = 0) (h : pv a n = pv b n) : a = b := by
  rw [base_eq ha, base_eq hb, h]
theorem pv_base {v n : Nat} : pv (v * 2 ^ (32 - n)) n = v := by
  unfold pv
  exact Nat.mul_div_cancel _ (Nat.two_pow_pos _)
theorem base_mod {v n : Nat} : v * 2 ^ (32 - n) % 2 ^ (32 - n) = 0 := Nat.mul_mod_left _ _
theorem base_lt {v n : Nat} (hn : n ≤ 32) (hv : v < 2 ^ n) : v * 2 ^ (32 - n) < 4294967296 := by
  have h : v * 2 ^ (32 - n) < 2 ^ n * 2 ^ (32 - n) := (Nat.mul_lt_mul_right (Nat.two_pow_pos _)).2 hv
  rw [← Nat.pow_add] at h
  have e : n + (32 - n) = 32 := by omega
  rw [e] at h
  simpa using h
/-- Its first bits, of a base that ends before. -/
theorem pv_of_base {v n k : Nat} (hk : k ≤ n) (hn : n ≤ 32) : pv (v * 2 ^ (32 - n)) k = v / 2 ^ (n - k) := by
  rw [← pv_div (a := v * 2 ^ (32 - n)) hk hn, pv_base]

/-! ### whose is whose -/
/-- (k, v) is at or below (j, u). -/
def under (k v j u : Nat) : Bool := decide (j ≤ k) && decide (v / 2 ^ (k - j) = u)
theorem under_iff {k v j u : Nat} : under k v j u = true ↔ j ≤ k ∧ v / 2 ^ (k - j) = u := by simp [under]
theorem under_pv {a j k u : Nat} (hk : k ≤ 32) (h : j ≤ k) : under k (pv a k) j u = decide (pv a j = u) := by
  unfold under
  rw [pv_div h hk]
  simp [h]

end Tri
end Go.Proofs.Ytlpmjkbpcobgdaa

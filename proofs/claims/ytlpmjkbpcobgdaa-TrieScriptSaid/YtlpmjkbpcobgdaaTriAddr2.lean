/-
  Contracts of addr.Size, addr.At, addr.Halves, and of the law's Block.
-/
import Derived.Test.YtlpmjkbpcobgdaaTriAddr
namespace Go.Proofs.Ytlpmjkbpcobgdaa
open Go.RowKit Go.Sort

/-- A prefix as a value: its first n bits are v. -/
def bl (v n : Nat) : Value := .agg #[.int .u32 ((v * 2 ^ (32 - n) : Nat) : Int), .int .i64 (n : Int)]

theorem right_bl {v n : Nat} (hn : n ≤ 32) : Tri.right (v * 2 ^ (32 - n)) (n : Int) = true := by
  rw [Tri.right_iff, show (32 - (n : Int)).toNat = 32 - n from by omega]
  exact ⟨by omega, by omega, Tri.base_mod⟩

theorem block01 (a bits : Nat) (ha : a < 4294967296) (hb : bits < 256) (w : World) :
    Calls Try.prog 40 #[.int .u32 (a : Int), .int .u8 (bits : Int)] w fun e w' => e = .returned (bl (Tri.pv a (20 + bits % 13)) (20 + bits % 13)) ∧ Below w.heap.size w w' := by
  have h0 : bits % 13 < 13 := Nat.mod_lt _ (by omega)
  have h1 : 0 ≤ (bits : Int) % 13 := by omega
  have h2 : (bits : Int) % 13 < 13 := by omega
  have hv : bl (Tri.pv a (20 + bits % 13)) (20 + bits % 13) = .agg #[.int .u32 ((a : Int) / 2 ^ (32 - (20 + bits % 13)) * 2 ^ (32 - (20 + bits % 13)) % 4294967296), .int .i64 (20 + (bits : Int) % 13)] := by
    have e : ((a : Int) / 2 ^ (32 - (20 + bits % 13)) * 2 ^ (32 - (20 + bits % 13)) % 4294967296) = ((Tri.pv a (20 + bits % 13) * 2 ^ (32 - (20 + bits % 13)) : Nat) : Int) := by
      have h := Tri.base_lt (v := Tri.pv a (20 + bits % 13)) (n := 20 + bits % 13) (by omega) (Tri.pv_lt ha (by omega))
      have e1 : ((a : Int) / 2 ^ (32 - (20 + bits % 13)) * 2 ^ (32 - (20 + bits % 13))) = ((Tri.pv a (20 + bits % 13) * 2 ^ (32 - (20 + bits % 13)) : Nat) : Int) := by
        unfold Tri.pv
        simp
      rw [e1]
      omega
    unfold bl
    rw [e]
    simp
  rw [hv]
  clear hv
  go_enter Try.func40, Try.ntmps40
  go_wp2
  exact bodyPost_ret (v := .agg #[.int .u32 ((a : Int) / 2 ^ (32 - (20 + bits % 13)) * 2 ^ (32 - (20 + bits % 13)) % 4294967296), .int .i64 (20 + (bits : Int) % 13)]) (by simp [results, Try.results40, go_sem]) rfl ⟨rfl, (Below.refl _ _).alloc (Nat.le_refl _) _⟩

theorem halves_bl (v n : Nat) (hn : n < 32) (hv : v < 2 ^ n) (w : World) :
    Calls Try.prog 48 #[bl v n] w fun e w' => e = .returned (.tuple #[bl (2 * v) (n + 1), bl (2 * v + 1) (n + 1), .bool true]) ∧ Below w.heap.size w w' := by
  have hlt := Tri.base_lt (v := v) (n := n) (by omega) hv
  have hr : Tri.right (v * 2 ^ (32 - n)) (n : Int) = true := right_bl (by omega)
  have hout : Value.tuple #[bl (2 * v) (n + 1), bl (2 * v + 1) (n + 1), .bool true] = .tuple #[.agg #[.int .u32 ((v * 2 ^ (32 - n) : Nat) : Int), .int .i64 ((n : Int) + 1)], .agg #[.int .u32 (((v * 2 ^ (32 - n)) ||| 2 ^ (31 - n) : Nat) : Int), .int .i64 ((n : Int) + 1)], .bool true] := by
    have e0 : 32 - n = (31 - n) + 1 := by omega
    have e1 : v * 2 ^ (32 - n) = 2 * v * 2 ^ (32 - (n + 1)) := by
      rw [e0, Nat.pow_succ, show 32 - (n + 1) = 31 - n from by omega, Nat.mul_comm 2 v, Nat.mul_assoc, Nat.mul_comm 2]
    have e2 : (v * 2 ^ (32 - n)) ||| 2 ^ (31 - n) = (2 * v + 1) * 2 ^ (32 - (n + 1)) := by
      rw [e1, show 32 - (n + 1) = 31 - n from by omega, Nat.add_mul, Nat.one_mul, Nat.mul_comm (2 * v)]
      have h := Nat.two_pow_add_eq_or_of_lt (i := 31 - n + 1) (b := 2 ^ (31 - n)) (by rw [Nat.pow_succ]; have := Nat.two_pow_pos (31 - n); omega) v
      have e3 : 2 ^ (31 - n) * (2 * v) = 2 ^ (31 - n + 1) * v := by rw [Nat.pow_succ, Nat.mul_assoc]
      rw [e3, h]
    unfold bl
    rw [← e1, e2]
    simp
  rw [hout]
  clear hout
  unfold bl
  generalize v * 2 ^ (32 - n) = A at *
  have R : ∀ W, Calls Try.prog 54 #[.agg #[.int .u32 (A : Int), .int .i64 (n : Int)]] W fun e w' => e = .returned (.bool true) ∧ Below W.heap.size W w' := fun W => hr ▸ right_block A n hlt W
  have HR := hide R
  have hor : bits BinOp.or IntKind.u32 (A : Int) ((2 : Int) ^ (31 - n) % 4294967296) = ((A ||| 2 ^ (31 - n) : Nat) : Int) := by
    have hp : 2 ^ (31 - n) < 4294967296 := Nat.lt_of_lt_of_le (Nat.pow_lt_pow_right (by omega) (show 31 - n < 32 from by omega)) (by omega)
    have := u32_or_nat A (2 ^ (31 - n)) hlt hp
    have e : ((2 : Int) ^ (31 - n) % 4294967296) = ((2 ^ (31 - n) : Nat) : Int) := by
      have e1 : ((2 : Int) ^ (31 - n)) = ((2 ^ (31 - n) : Nat) : Int) := by simp
      rw [e1]
      exact Int.emod_eq_of_lt (Int.natCast_nonneg _) (Int.ofNat_lt.2 hp)
    rw [e]
    exact this
  clear R hr
  have hne : (((n : Int)) == 32) = false := by simp; omega
  have hs := (Blk.new w 88 #[.int .u32 (A : Int), .int .i64 (n : Int)])
  go_enter Try.func48, Try.ntmps48
  go_wp2_with fail
  refine (unhide HR _).mono ?_
  rintro e w1 ⟨rfl, hb1⟩
  have k0 := (((Blk.new w 88 #[.int .u32 (A : Int), .int .i64 (n : Int)]).alloc (.cells #[.int .u32 0, .int .i64 0] 88)).alloc (.cells #[.int .u32 0, .int .i64 0] 88)).below hb1 (by simp; omega)
  have k1 := ((Blk.new_at (w := w.alloc (.cells #[.int .u32 (A : Int), .int .i64 (n : Int)] 88)) (t := 88) (cs := #[.int .u32 0, .int .i64 0]) (n := w.heap.size + 1) (by simp)).alloc (.cells #[.int .u32 0, .int .i64 0] 88)).below hb1 (by simp)
  have k2 := ((Blk.new_at (w := (w.alloc (.cells #[.int .u32 (A : Int), .int .i64 (n : Int)] 88)).alloc (.cells #[.int .u32 0, .int .i64 0] 88)) (t := 88) (cs := #[.int .u32 0, .int .i64 0]) (n := w.heap.size + 1 + 1) (by simp))).below hb1 (by simp)
  have B1 : Below w.heap.size w w1 := ((((Below.refl _ _).alloc (Nat.le_refl _) _).alloc (by simp) _).alloc (by simp; omega) _).trans (hb1.mono (by simp; omega))
  have a0 : w1.cell? ⟨w.heap.size, 0, none⟩ = some (.int .u32 (A : Int)) := k0.cell 0
  have a1 : w1.cell? ⟨w.heap.size, 1, none⟩ = some (.int .i64 (n : Int)) := k0.cell 1
  have b0 : w1.cell? ⟨w.heap.size + 1, 0, none⟩ = some (.int .u32 0) := k1.cell 0
  have b1 : w1.cell? ⟨w.heap.size + 1, 1, none⟩ = some (.int .i64 0) := k1.cell 1
  have c0 : w1.cell? ⟨w.heap.size + 1 + 1, 0, none⟩ = some (.int .u32 0) := k2.cell 0
  have c1 : w1.cell? ⟨w.heap.size + 1 + 1, 1, none⟩ = some (.int .i64 0) := k2.cell 1
  have fb0 : w1.frozen? ⟨w.heap.size + 1, 0, none⟩ = false := k1.frozen 0
  have fb1 : w1.frozen? ⟨w.heap.size + 1, 1, none⟩ = false := k1.frozen 1
  have fc0 : w1.frozen? ⟨w.heap.size + 1 + 1, 0, none⟩ = false := k2.frozen 0
  have fc1 : w1.frozen? ⟨w.heap.size + 1 + 1, 1, none⟩ = false := k2.frozen 1
  have hsz := k2.lt
  have HB := hide B1
  clear k0 k1 k2 hb1 B1
  go_wp2_with fail
  go_region
  go_wp2_with fail
  exact bodyPost_ret (v := .tuple #[.agg #[.int .u32 (A : Int), .int .i64 ((n : Int) + 1)], .agg #[.int .u32 ((A ||| 2 ^ (31 - n) : Nat) : Int), .int .i64 ((n : Int) + 1)], .bool true]) (by simp [results, Try.results48, go_sem, b0, b1, c0, c1]) rfl
    ⟨rfl, by repeat (first | exact unhide HB | refine Below.drew ?_ | refine Below.setCell ?_ (by simp <;> omega) _)⟩

/-- addr.Halves of a single address. -/
theorem halves_one (v : Nat) (hv : v < 4294967296) (w : World) :
    Calls Try.prog 48 #[bl v 32] w fun e w' => e = .returned (.tuple #[.agg #[.int .u32 0, .int .i64 0], .agg #[.int .u32 0, .int .i64 0], .bool false]) ∧ Below w.heap.size w w' := by
  have hr : Tri.right v (32 : Nat) = true := by simpa using right_bl (v := v) (n := 32) (by omega)
  have R : ∀ W, Calls Try.prog 54 #[.agg #[.int .u32 (v : Int), .int .i64 32]] W fun e w' => e = .returned (.bool true) ∧ Below W.heap.size W w' := fun W => hr ▸ right_block v (32 : Nat) hv W
  have hbl : bl v 32 = .agg #[.int .u32 (v : Int), .int .i64 32] := by unfold bl; simp
  rw [hbl]
  have HR := hide R
  clear R hr hbl
  go_enter Try.func48, Try.ntmps48
  go_wp2_with fail
  refine (unhide HR _).mono ?_
  rintro e w1 ⟨rfl, hb1⟩
  have k0 := (((Blk.new w 88 #[.int .u32 (v : Int), .int .i64 32]).alloc (.cells #[.int .u32 0, .int .i64 0] 88)).alloc (.cells #[.int .u32 0, .int .i64 0] 88)).below hb1 (by simp; omega)
  have k1 := ((Blk.new_at (w := w.alloc (.cells #[.int .u32 (v : Int), .int .i64 32] 88)) (t := 88) (cs := #[.int .u32 0, .int .i64 0]) (n := w.heap.size + 1) (by simp)).alloc (.cells #[.int .u32 0, .int .i64 0] 88)).below hb1 (by simp)
  have k2 := ((Blk.new_at (w := (w.alloc (.cells #[.int .u32 (v : Int), .int .i64 32] 88)).alloc (.cells #[.int .u32 0, .int .i64 0] 88)) (t := 88) (cs := #[.int .u32 0, .int .i64 0]) (n := w.heap.size + 1 + 1) (by simp))).below hb1 (by simp)
  have B1 : Below w.heap.size w w1 := ((((Below.refl _ _).alloc (Nat.le_refl _) _).alloc (by simp) _).alloc (by simp; omega) _).trans (hb1.mono (by simp; omega))
  have a1 : w1.cell? ⟨w.heap.size, 1, none⟩ = some (.int .i64 32) := k0.cell 1
  have b0 : w1.cell? ⟨w.heap.size + 1, 0, none⟩ = some (.int .u32 0) := k1.cell 0
  have b1 : w1.cell? ⟨w.heap.size + 1, 1, none⟩ = some (.int .i64 0) := k1.cell 1
  have c0 : w1.cell? ⟨w.heap.size + 1 + 1, 0, none⟩ = some (.int .u32 0) := k2.cell 0
  have c1 : w1.cell? ⟨w.heap.size + 1 + 1, 1, none⟩ = some (.int .i64 0) := k2.cell 1
  have fb0 : w1.frozen? ⟨w.heap.size + 1, 0, none⟩ = false := k1.frozen 0
  have fb1 : w1.frozen? ⟨w.heap.size + 1, 1, none⟩ = false := k1.frozen 1
  have fc0 : w1.frozen? ⟨w.heap.size + 1 + 1, 0, none⟩ = false := k2.frozen 0
  have fc1 : w1.frozen? ⟨w.heap.size + 1 + 1, 1, none⟩ = false := k2.frozen 1
  have hsz := k2.lt
  have HB := hide B1
  clear k0 k1 k2 hb1 B1
  go_wp2_with fail
  exact bodyPost_ret (v := .tuple #[.agg #[.int .u32 0, .int .i64 0], .agg #[.int .u32 0, .int .i64 0], .bool false]) (by simp [results, Try.results48, go_sem, b0, b1, c0, c1]) rfl
    ⟨rfl, by repeat (first | exact unhide HB | refine Below.drew ?_ | refine Below.setCell ?_ (by simp <;> omega) _)⟩

theorem size_bl (v n : Nat) (hn : n ≤ 32) (hv : v < 2 ^ n) (w : World) :
    Calls Try.prog 50 #[bl v n] w fun e w' => e = .returned (.int .i64 ((2 ^ (32 - n) : Nat) : Int)) ∧ Below w.heap.size w w' := by
  have hlt := Tri.base_lt (v := v) (n := n) (by omega) hv
  have hr : Tri.right (v * 2 ^ (32 - n)) (n : Int) = true := right_bl (by omega)
  unfold bl
  generalize v * 2 ^ (32 - n) = A at *
  have R : ∀ W, Calls Try.prog 54 #[.agg #[.int .u32 (A : Int), .int .i64 (n : Int)]] W fun e w' => e = .returned (.bool true) ∧ Below W.heap.size W w' := fun W => hr ▸ right_block A n hlt W
  have HR := hide R
  clear R hr
  go_enter Try.func50, Try.ntmps50
  go_wp2_with fail
  refine (unhide HR _).mono ?_
  rintro e w1 ⟨rfl, hb1⟩
  have a1 : w1.cell? ⟨w.heap.size, 1, none⟩ = some (.int .i64 (n : Int)) := (hb1.cell (p := ⟨w.heap.size, 1, none⟩) (by simp)).trans (by simp)
  have B1 : Below w.heap.size w w1 := ((Below.refl _ _).alloc (Nat.le_refl _) _).trans (hb1.mono (by simp))
  have HB := hide B1
  clear hb1 B1
  have hw : wrap64 ((2 : Int) ^ (32 - n)) = ((2 ^ (32 - n) : Nat) : Int) := by
    have e1 : ((2 : Int) ^ (32 - n)) = ((2 ^ (32 - n) : Nat) : Int) := by simp
    have h2 := Tri.pow_le (m := 32 - n) (by omega)
    rw [e1]
    generalize 2 ^ (32 - n) = P at *
    unfold wrap64
    omega
  have HWR := hide hw
  clear hw
  go_wp2_with fail
  go_ret
  exact ⟨ret_int (unhide HWR), unhide HB⟩

/-- addr.At within the prefix. -/
theorem at_bl (v n k : Nat) (hn : n ≤ 32) (hv : v < 2 ^ n) (hk : k < 2 ^ (32 - n)) (w : World) :
    Calls Try.prog 49 #[bl v n, .int .i64 (k : Int)] w fun e w' => e = .returned (.tuple #[.int .u32 ((v * 2 ^ (32 - n) + k : Nat) : Int), .bool true]) ∧ Below w.heap.size w w' := by
  have hlt := Tri.base_lt (v := v) (n := n) (by omega) hv
  have hsum : v * 2 ^ (32 - n) + k < 4294967296 := by
    have h1 : (v + 1) * 2 ^ (32 - n) ≤ 2 ^ n * 2 ^ (32 - n) := Nat.mul_le_mul_right _ hv
    rw [← Nat.pow_add, show n + (32 - n) = 32 from by omega, Nat.add_mul, Nat.one_mul] at h1
    have : (2 : Nat) ^ 32 = 4294967296 := by decide
    omega
  have R : ∀ W, Calls Try.prog 50 #[bl v n] W fun e w' => e = .returned (.int .i64 ((2 ^ (32 - n) : Nat) : Int)) ∧ Below W.heap.size W w' := fun W => size_bl v n hn hv W
  have hk2 := Tri.pow_le (m := 32 - n) (by omega)
  unfold bl at *
  generalize v * 2 ^ (32 - n) = A at *
  generalize 2 ^ (32 - n) = P at *
  have HR := hide R
  clear R
  have d0 : decide ((k : Int) < 0) = false := by simp
  have d1 : decide ((P : Int) ≤ (k : Int)) = false := by simp; omega
  go_enter Try.func49, Try.ntmps49
  go_wp2_with fail
  refine (unhide HR _).mono ?_
  rintro e w1 ⟨rfl, hb1⟩
  have a0 : w1.cell? ⟨w.heap.size, 0, none⟩ = some (.int .u32 (A : Int)) := (hb1.cell (p := ⟨w.heap.size, 0, none⟩) (by simp)).trans (by simp)
  have B1 : Below w.heap.size w w1 := ((Below.refl _ _).alloc (Nat.le_refl _) _).trans (hb1.mono (by simp))
  have hk3 : ((k : Int) % 4294967296) = k := Int.emod_eq_of_lt (by omega) (by omega)
  have HB := hide B1
  clear hb1 B1
  go_wp2_with fail
  go_ret2
  exact ⟨rfl, unhide HB⟩
end Go.Proofs.Ytlpmjkbpcobgdaa

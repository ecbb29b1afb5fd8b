/-
  Contracts of the small functions of config and of its law's helpers.
-/
import Derived.Test.YtlpmjkbpcobgdaaBase
namespace Go.Proofs.Ytlpmjkbpcobgdaa
open Go.RowKit
theorem clamp_any (n lo hi r : Int) (h : r = max lo (min n hi)) (w : World) :
    Calls Try.prog 70 #[.int .i64 n, .int .i64 lo, .int .i64 hi] w fun e w' => e = .returned (.int .i64 r) ∧ w = w' := by
  subst h
  go_enter Try.func70, Try.ntmps70
  go_wp2
  all_goals
    go_ret
    refine ⟨ret_int ?_, rfl⟩
    first | omega | (split <;> omega) | (rename_i h1 h2; split at h1 <;> omega) | (rename_i h1; split at h1 <;> omega)
theorem clamp0 (hi : Int) (w : World) (h : 1 ≤ hi) : Calls Try.prog 70 #[.int .i64 0, .int .i64 0, .int .i64 hi] w fun e w' => e = .returned (.int .i64 0) ∧ w = w' := clamp_any _ _ _ _ (by omega) w
theorem clamp1 (hi : Int) (w : World) (h : 1 ≤ hi) : Calls Try.prog 70 #[.int .i64 0, .int .i64 1, .int .i64 hi] w fun e w' => e = .returned (.int .i64 1) ∧ w = w' := clamp_any _ _ _ _ (by omega) w
theorem new_any (w : World) : Calls Try.prog 57 #[] w fun e w' => e = .returned (.agg #[.int .i64 20, .int .i64 60, .int .i64 2, .int .i64 10, .int .i64 4, .int .i64 3, .int .i64 1, .int .i64 30, .int .i64 40]) ∧ Below w.heap.size w w' := by
  go_enter Try.func57, Try.ntmps57
  go_wp2
  exact bodyPost_ret (v := .agg #[.int .i64 20, .int .i64 60, .int .i64 2, .int .i64 10, .int .i64 4, .int .i64 3, .int .i64 1, .int .i64 30, .int .i64 40]) (by simp [results, Try.results57, go_sem]) rfl ⟨rfl, ((Below.refl _ _).alloc (Nat.le_refl _) _)⟩
theorem u8mod {a m : Int} (h0 : 0 ≤ a) (hm : 0 < m) : 0 ≤ a % m ∧ a % m < m := ⟨Int.emod_nonneg _ (by omega), Int.emod_lt_of_pos _ hm⟩
set_option maxHeartbeats 1000000 in
theorem choice_any (b0 b1 b2 b3 b4 b5 b6 b7 b8 : Int) (h0 : 0 ≤ b0 ∧ b0 < 256) (h1 : 0 ≤ b1 ∧ b1 < 256) (h2 : 0 ≤ b2 ∧ b2 < 256) (h3 : 0 ≤ b3 ∧ b3 < 256) (h4 : 0 ≤ b4 ∧ b4 < 256) (h5 : 0 ≤ b5 ∧ b5 < 256) (h6 : 0 ≤ b6 ∧ b6 < 256) (h7 : 0 ≤ b7 ∧ b7 < 256) (h8 : 0 ≤ b8 ∧ b8 < 256) (w : World) :
    Calls Try.prog 13 #[.agg #[.int .u8 b0, .int .u8 b1, .int .u8 b2, .int .u8 b3, .int .u8 b4, .int .u8 b5, .int .u8 b6, .int .u8 b7, .int .u8 b8]] w fun e w' => e = .returned (.agg #[.int .i64 (1 + b0 % 30), .int .i64 (1 + b0 % 30 + b1 % 60), .int .i64 (1 + b2 % 6), .int .i64 (1 + b3 % 20), .int .i64 (1 + b4 % 9), .int .i64 (1 + b5 % 6), .int .i64 (b6 % 4), .int .i64 (1 + b7 % 40), .int .i64 (b8 % 50)]) ∧ Below w.heap.size w w' := by
  have hm0 := u8mod (m := 30) h0.1 (by omega)
  have hm1 := u8mod (m := 60) h1.1 (by omega)
  have hm2 := u8mod (m := 6) h2.1 (by omega)
  have hm3 := u8mod (m := 20) h3.1 (by omega)
  have hm4 := u8mod (m := 9) h4.1 (by omega)
  have hm5 := u8mod (m := 6) h5.1 (by omega)
  have hm6 := u8mod (m := 4) h6.1 (by omega)
  have hm7 := u8mod (m := 40) h7.1 (by omega)
  have hm8 := u8mod (m := 50) h8.1 (by omega)
  go_enter Try.func13, Try.ntmps13
  go_wp2
  exact bodyPost_ret (v := .agg #[.int .i64 (1 + b0 % 30), .int .i64 (1 + b0 % 30 + b1 % 60), .int .i64 (1 + b2 % 6), .int .i64 (1 + b3 % 20), .int .i64 (1 + b4 % 9), .int .i64 (1 + b5 % 6), .int .i64 (b6 % 4), .int .i64 (1 + b7 % 40), .int .i64 (b8 % 50)]) (by simp [results, Try.results13, go_sem]) rfl ⟨rfl, ((Below.refl _ _).alloc (Nat.le_refl _) _).alloc (by simp) _⟩
set_option maxHeartbeats 1000000 in
theorem row_any (a0 a1 a2 a3 a4 a5 a6 a7 a8 : Int) (w : World) :
    Calls Try.prog 14 #[.agg #[.int .i64 a0, .int .i64 a1, .int .i64 a2, .int .i64 a3, .int .i64 a4, .int .i64 a5, .int .i64 a6, .int .i64 a7, .int .i64 a8]] w fun e w' => e = .returned (.agg #[.int .i64 a0, .int .i64 1, .int .i64 1000, .int .i64 a1, .int .i64 a0, .int .i64 10000, .int .i64 a2, .int .i64 1, .int .i64 6, .int .i64 a3, .int .i64 1, .int .i64 1000, .int .i64 a4, .int .i64 1, .int .i64 64, .int .i64 a5, .int .i64 1, .int .i64 100, .int .i64 a6, .int .i64 0, .int .i64 8, .int .i64 a7, .int .i64 1, .int .i64 1000, .int .i64 a8, .int .i64 0, .int .i64 1000]) ∧ Below w.heap.size w w' := by
  go_enter Try.func14, Try.ntmps14
  go_wp2_with (refine wpList_store_mid rfl 31 (.tmp 2) (.tmp 32) rfl (w.heap.size + 1) 0 #[.int .i64 a0, .int .i64 1, .int .i64 1000, .int .i64 a1, .int .i64 a0, .int .i64 10000, .int .i64 a2, .int .i64 1, .int .i64 6, .int .i64 a3, .int .i64 1, .int .i64 1000, .int .i64 a4, .int .i64 1, .int .i64 64, .int .i64 a5, .int .i64 1, .int .i64 100, .int .i64 a6, .int .i64 0, .int .i64 8, .int .i64 a7, .int .i64 1, .int .i64 1000, .int .i64 a8, .int .i64 0, .int .i64 1000] rfl rfl ?ht ?hi ?h1 ?_)
  case ht => exact Blk.there (t := 31) (cs := _) (Blk.new_at (by simp)) (by simp)
  case hi => kernel_rfl
  case h1 => exact oneCells rfl
  refine bodyPost_ret (v := .agg #[.int .i64 a0, .int .i64 1, .int .i64 1000, .int .i64 a1, .int .i64 a0, .int .i64 10000, .int .i64 a2, .int .i64 1, .int .i64 6, .int .i64 a3, .int .i64 1, .int .i64 1000, .int .i64 a4, .int .i64 1, .int .i64 64, .int .i64 a5, .int .i64 1, .int .i64 100, .int .i64 a6, .int .i64 0, .int .i64 8, .int .i64 a7, .int .i64 1, .int .i64 1000, .int .i64 a8, .int .i64 0, .int .i64 1000]) (results_cell_row Try.results14 _ _ (w.heap.size + 1) 31 _ (0, 0) _ rfl (Blk.setAll (Blk.new_at (by simp)) (by simp)) Try.underlying31 rfl (by kernel_rfl)) rfl ⟨rfl, ?_⟩
  exact below_setCells _ (by omega) _ _ (((Below.refl _ _).alloc (Nat.le_refl _) _).alloc (by simp) _)
end Go.Proofs.Ytlpmjkbpcobgdaa

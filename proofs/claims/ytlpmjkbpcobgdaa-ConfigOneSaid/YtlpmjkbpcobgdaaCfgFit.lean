/-
  config.Fit of the choice that is all 0.
-/
import Derived.Test.YtlpmjkbpcobgdaaCfgRow
namespace Go.Proofs.Ytlpmjkbpcobgdaa
open Go.RowKit
set_option maxHeartbeats 1000000 in
theorem fit_zero (w : World) :
    Calls Try.prog 56 #[.agg #[.int .i64 0, .int .i64 0, .int .i64 0, .int .i64 0, .int .i64 0, .int .i64 0, .int .i64 0, .int .i64 0, .int .i64 0]] w fun e w' => e = .returned (.agg #[.int .i64 1, .int .i64 1, .int .i64 1, .int .i64 1, .int .i64 1, .int .i64 1, .int .i64 0, .int .i64 1, .int .i64 0]) ∧ Below w.heap.size w w' := by
  go_enter Try.func56, Try.ntmps56
  go_upto_region 5 with (go_at_call 70; (with_reducible refine (clamp1 _ _ (by decide)).mono ?_); rintro e w' ⟨rfl, rfl⟩)
  go_cut [] (fun wx => wx = ((w.alloc (.cells #[.int .i64 1, .int .i64 1, .int .i64 1, .int .i64 1, .int .i64 1, .int .i64 0, .int .i64 0, .int .i64 0, .int .i64 0] 26)).alloc (.cells #[.int .i64 0, .int .i64 0, .int .i64 0, .int .i64 0, .int .i64 0, .int .i64 0, .int .i64 0, .int .i64 0, .int .i64 0] 26)).drew)
  case first =>
    go_region_with (go_at_call 70; (with_reducible refine (clamp1 _ _ (by decide)).mono ?_); rintro e w' ⟨rfl, rfl⟩)
    all_goals (go_wp2_with fail; go_meet; rfl)
  case rest =>
    subst hcut
    go_upto_region 6 with fail
    go_cut [] (fun wx => wx = ((w.alloc (.cells #[.int .i64 1, .int .i64 1, .int .i64 1, .int .i64 1, .int .i64 1, .int .i64 1, .int .i64 0, .int .i64 0, .int .i64 0] 26)).alloc (.cells #[.int .i64 0, .int .i64 0, .int .i64 0, .int .i64 0, .int .i64 0, .int .i64 0, .int .i64 0, .int .i64 0, .int .i64 0] 26)).drew.drew)
    case first =>
      go_region_with (first | (go_at_call 70; (with_reducible refine (clamp1 _ _ (by decide)).mono ?_); rintro e w' ⟨rfl, rfl⟩) | (go_at_call 70; (with_reducible refine (clamp0 _ _ (by decide)).mono ?_); rintro e w' ⟨rfl, rfl⟩))
      all_goals (go_wp2_with fail; go_meet; rfl)
    case rest =>
      subst hcut
      go_wp2_with fail
      go_region_with (first | (go_at_call 70; (with_reducible refine (clamp1 _ _ (by decide)).mono ?_); rintro e w' ⟨rfl, rfl⟩) | (go_at_call 70; (with_reducible refine (clamp0 _ _ (by decide)).mono ?_); rintro e w' ⟨rfl, rfl⟩))
      all_goals
        go_wp2_with fail
        exact bodyPost_ret (v := .agg #[.int .i64 1, .int .i64 1, .int .i64 1, .int .i64 1, .int .i64 1, .int .i64 1, .int .i64 0, .int .i64 1, .int .i64 0]) (by simp [results, Try.results56, go_sem]) rfl ⟨rfl, (((Below.refl _ _).alloc (Nat.le_refl _) _).alloc (by simp) _).drew.drew.drew⟩
end Go.Proofs.Ytlpmjkbpcobgdaa

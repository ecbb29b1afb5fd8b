/-
  ConfigOne where the number at place 1 is turned.
-/
import Derived.Test.YtlpmjkbpcobgdaaCfgBase
namespace Go.Proofs.Ytlpmjkbpcobgdaa
open Go.RowKit

set_option maxHeartbeats 4000000 in
theorem one_at1 (b0 b1 b2 b3 b4 b5 b6 b7 b8 m n : Int) (h0 : 0 ≤ b0 ∧ b0 < 256) (h1 : 0 ≤ b1 ∧ b1 < 256) (h2 : 0 ≤ b2 ∧ b2 < 256) (h3 : 0 ≤ b3 ∧ b3 < 256) (h4 : 0 ≤ b4 ∧ b4 < 256) (h5 : 0 ≤ b5 ∧ b5 < 256) (h6 : 0 ≤ b6 ∧ b6 < 256) (h7 : 0 ≤ b7 ∧ b7 < 256) (h8 : 0 ≤ b8 ∧ b8 < 256) (hm0 : 0 ≤ m) (hm1 : m < 256) (hm : m % 9 = 1) (w : World) :
    Calls Try.prog 3 #[.agg #[.int .u8 b0, .int .u8 b1, .int .u8 b2, .int .u8 b3, .int .u8 b4, .int .u8 b5, .int .u8 b6, .int .u8 b7, .int .u8 b8], .int .u8 m, .int .i64 n] w fun e w' => e = .returned (.bool true) ∧ Below w.heap.size w w' := by
  go_enter Try.func3, Try.ntmps3
  go_wp2_with fail
  refine (cfg_awake _).mono ?_
  rintro e w1 ⟨rfl, hb1⟩
  have B1 : Below w.heap.size w w1 := ((Below.refl _ _).alloc (Nat.le_refl _) _).trans (hb1.mono (by simp))
  have blk1 := (Blk.new w 23 #[.int .u8 b0, .int .u8 b1, .int .u8 b2, .int .u8 b3, .int .u8 b4, .int .u8 b5, .int .u8 b6, .int .u8 b7, .int .u8 b8]).below hb1 (by simp)
  have hz1 := hb1.size
  simp only [World.size_alloc] at hz1
  have e0 : w1.cell? ⟨w.heap.size, 0, none⟩ = some (.int .u8 b0) := blk1.cell 0
  have e1 : w1.cell? ⟨w.heap.size, 1, none⟩ = some (.int .u8 b1) := blk1.cell 1
  have e2 : w1.cell? ⟨w.heap.size, 2, none⟩ = some (.int .u8 b2) := blk1.cell 2
  have e3 : w1.cell? ⟨w.heap.size, 3, none⟩ = some (.int .u8 b3) := blk1.cell 3
  have e4 : w1.cell? ⟨w.heap.size, 4, none⟩ = some (.int .u8 b4) := blk1.cell 4
  have e5 : w1.cell? ⟨w.heap.size, 5, none⟩ = some (.int .u8 b5) := blk1.cell 5
  have e6 : w1.cell? ⟨w.heap.size, 6, none⟩ = some (.int .u8 b6) := blk1.cell 6
  have e7 : w1.cell? ⟨w.heap.size, 7, none⟩ = some (.int .u8 b7) := blk1.cell 7
  have e8 : w1.cell? ⟨w.heap.size, 8, none⟩ = some (.int .u8 b8) := blk1.cell 8
  have HB := hide B1
  clear hb1 B1 blk1
  go_wp2_with fail
  clear e0 e1 e2 e3 e4 e5 e6 e7 e8
  refine (choice_some b0 b1 b2 b3 b4 b5 b6 b7 b8 h0 h1 h2 h3 h4 h5 h6 h7 h8 _).mono ?_
  rintro e w2 ⟨c0, c1, c2, c3, c4, c5, c6, c7, c8, hc, rfl, hb2⟩
  have B2 := (unhide HB).trans (hb2.mono (by omega))
  have hz2 := hb2.size
  have HB2 := hide B2
  clear HB hb2 B2 h0 h1 h2 h3 h4 h5 h6 h7 h8
  go_wp2_with fail
  have blk2 : Blk ((w2.alloc (.cells #[.int .i64 c0, .int .i64 n, .int .i64 c2, .int .i64 c3, .int .i64 c4, .int .i64 c5, .int .i64 c6, .int .i64 c7, .int .i64 c8] 26)).alloc (.cells #[.pointer (some ⟨w2.heap.size, 0, none⟩), .pointer (some ⟨w2.heap.size, 1, none⟩), .pointer (some ⟨w2.heap.size, 2, none⟩), .pointer (some ⟨w2.heap.size, 3, none⟩), .pointer (some ⟨w2.heap.size, 4, none⟩), .pointer (some ⟨w2.heap.size, 5, none⟩), .pointer (some ⟨w2.heap.size, 6, none⟩), .pointer (some ⟨w2.heap.size, 7, none⟩), .pointer (some ⟨w2.heap.size, 8, none⟩)] 28)) w2.heap.size 26 #[.int .i64 c0, .int .i64 n, .int .i64 c2, .int .i64 c3, .int .i64 c4, .int .i64 c5, .int .i64 c6, .int .i64 c7, .int .i64 c8] := (Blk.new w2 _ _).alloc _
  refine (row_any c0 n c2 c3 c4 c5 c6 c7 c8 _).mono ?_
  rintro e w3 ⟨rfl, hb3⟩
  have B3 := (((unhide HB2).alloc (by omega) _).alloc (by simp; omega) _).trans (hb3.mono (by simp; omega))
  have blk3 := blk2.below hb3 (by simp; omega)
  have hz3 := hb3.size
  simp only [World.size_alloc] at hz3
  have HB3 := hide B3
  clear HB2 hb3 B3 blk2
  go_wp2_with (refine wpList_store_blk rfl 31 (.tmp 9) (.tmp 35) rfl w3.heap.size #[.int .i64 c0, .int .i64 1, .int .i64 1000, .int .i64 n, .int .i64 c0, .int .i64 10000, .int .i64 c2, .int .i64 1, .int .i64 6, .int .i64 c3, .int .i64 1, .int .i64 1000, .int .i64 c4, .int .i64 1, .int .i64 64, .int .i64 c5, .int .i64 1, .int .i64 100, .int .i64 c6, .int .i64 0, .int .i64 8, .int .i64 c7, .int .i64 1, .int .i64 1000, .int .i64 c8, .int .i64 0, .int .i64 1000] _ 31 rfl rfl (Blk.new_at rfl) rfl (by kernel_rfl) (oneCells rfl) ?_)
  intro w4 blk4 hg4
  have B4 := ((unhide HB3).alloc (by omega) _).grown hg4 (by simp; omega) (by rintro _ ⟨⟩; omega)
  have blk5 := (blk3.alloc _).grown hg4 (by simp; omega)
  have hz4 := hg4.size
  simp only [World.size_alloc] at hz4
  have HB4 := hide B4
  have d0 : w4.cell? ⟨w3.heap.size, 3, none⟩ = some (.int .i64 n) := blk4.cell 3
  have d1 : w4.cell? ⟨w3.heap.size, 4, none⟩ = some (.int .i64 c0) := blk4.cell 4
  have d2 : w4.cell? ⟨w3.heap.size, 5, none⟩ = some (.int .i64 10000) := blk4.cell 5
  have f0 : w4.cell? ⟨w2.heap.size, 0, none⟩ = some (.int .i64 c0) := blk5.cell 0
  clear HB3 blk3 blk4 hg4 B4
  have HK := hide blk5
  clear blk5
  have tail : ∀ (r : Int) (_ : rightF c0 n c2 c3 c4 c5 c6 c7 c8 = r) (W : World), Calls Try.prog 15 #[.agg #[.int .i64 c0, .int .i64 n, .int .i64 c2, .int .i64 c3, .int .i64 c4, .int .i64 c5, .int .i64 c6, .int .i64 c7, .int .i64 c8]] W fun e w' => e = .returned (.int .i64 r) ∧ Below W.heap.size W w' := by
    rintro r rfl W
    exact right_any c0 n c2 c3 c4 c5 c6 c7 c8 W
  have R := hide tail
  clear tail
  by_cases q1 : n < c0
  · have q1b : decide (n < c0) = true := by simpa using q1
    have hr : rightF c0 n c2 c3 c4 c5 c6 c7 c8 = 1 := by
      unfold rightF badIn
      (repeat' split) <;> first | rfl | omega
    have Q1 := hide q1
    clear q1
    go_wp2_with fail
    go_quiet (fail)
    go_wp2_with (refine wpList_load_row rfl 26 (.tmp 7) rfl w2.heap.size rfl 26 _ (0, 0) _ (unhide HK) Try.underlying26 rfl (by kernel_rfl) ?_)
    refine (unhide R _ hr _).mono ?_
    rintro e w5 ⟨rfl, hb5⟩
    have B5 := (below_drewN (unhide HB4) nq).trans (hb5.mono (by simp; omega))
    have hz5 : w4.heap.size ≤ w5.heap.size := hb5.size
    have g0 : w5.cell? ⟨w2.heap.size, 0, none⟩ = some (.int .i64 c0) := (hb5.cell (by simp; omega)).trans ((unhide HK).cell 0)
    have g1 : w5.cell? ⟨w2.heap.size, 1, none⟩ = some (.int .i64 n) := (hb5.cell (by simp; omega)).trans ((unhide HK).cell 1)
    have HB5 := hide B5
    clear hb5 B5 hr
    go_wp2
    all_goals
      go_ret
      exact ⟨rfl, unhide HB5⟩
  have q1b : decide (n < c0) = false := by simpa using q1
  by_cases q2 : 10000 < n
  · have q2b : decide (10000 < n) = true := by simpa using q2
    have hr : rightF c0 n c2 c3 c4 c5 c6 c7 c8 = 1 := by
      unfold rightF badIn
      (repeat' split) <;> first | rfl | omega
    have Q1 := hide q1
    have Q2 := hide q2
    clear q1 q2
    go_wp2_with fail
    go_quiet (fail)
    go_wp2_with (refine wpList_load_row rfl 26 (.tmp 7) rfl w2.heap.size rfl 26 _ (0, 0) _ (unhide HK) Try.underlying26 rfl (by kernel_rfl) ?_)
    refine (unhide R _ hr _).mono ?_
    rintro e w5 ⟨rfl, hb5⟩
    have B5 := (below_drewN (unhide HB4) nq).trans (hb5.mono (by simp; omega))
    have hz5 : w4.heap.size ≤ w5.heap.size := hb5.size
    have g0 : w5.cell? ⟨w2.heap.size, 0, none⟩ = some (.int .i64 c0) := (hb5.cell (by simp; omega)).trans ((unhide HK).cell 0)
    have g1 : w5.cell? ⟨w2.heap.size, 1, none⟩ = some (.int .i64 n) := (hb5.cell (by simp; omega)).trans ((unhide HK).cell 1)
    have HB5 := hide B5
    clear hb5 B5 hr
    go_wp2
    all_goals
      go_ret
      exact ⟨rfl, unhide HB5⟩
  have q2b : decide (10000 < n) = false := by simpa using q2
  · skip
    have hr : rightF c0 n c2 c3 c4 c5 c6 c7 c8 = -1 := by
      unfold rightF badIn
      (repeat' split) <;> first | rfl | omega
    have Q1 := hide q1
    have Q2 := hide q2
    clear q1 q2
    go_wp2_with fail
    go_quiet (fail)
    go_wp2_with (refine wpList_load_row rfl 26 (.tmp 7) rfl w2.heap.size rfl 26 _ (0, 0) _ (unhide HK) Try.underlying26 rfl (by kernel_rfl) ?_)
    refine (unhide R _ hr _).mono ?_
    rintro e w5 ⟨rfl, hb5⟩
    have B5 := (below_drewN (unhide HB4) nq).trans (hb5.mono (by simp; omega))
    have hz5 : w4.heap.size ≤ w5.heap.size := hb5.size
    have g0 : w5.cell? ⟨w2.heap.size, 0, none⟩ = some (.int .i64 c0) := (hb5.cell (by simp; omega)).trans ((unhide HK).cell 0)
    have g1 : w5.cell? ⟨w2.heap.size, 1, none⟩ = some (.int .i64 n) := (hb5.cell (by simp; omega)).trans ((unhide HK).cell 1)
    have HB5 := hide B5
    clear hb5 B5 hr
    go_wp2
    all_goals
      go_ret
      exact ⟨rfl, unhide HB5⟩

end Go.Proofs.Ytlpmjkbpcobgdaa

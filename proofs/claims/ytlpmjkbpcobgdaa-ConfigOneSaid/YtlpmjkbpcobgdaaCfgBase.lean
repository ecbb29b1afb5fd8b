/-
  The law ConfigOne: its examples, and the choice out of the numbers.
-/
import Derived.Test.YtlpmjkbpcobgdaaCfgRight
import Derived.Test.YtlpmjkbpcobgdaaCfgRow
import Derived.Test.YtlpmjkbpcobgdaaCfgFit
namespace Go.Proofs.Ytlpmjkbpcobgdaa
open Go.RowKit
set_option maxHeartbeats 1000000 in
theorem cfg_awake (w : World) : Calls Try.prog 12 #[] w fun e w' => e = .returned (.bool true) ∧ Below w.heap.size w w' := by
  have r0 : ∀ w, Calls Try.prog 15 #[.agg #[.int .i64 0, .int .i64 0, .int .i64 0, .int .i64 0, .int .i64 0, .int .i64 0, .int .i64 0, .int .i64 0, .int .i64 0]] w fun e w' => e = .returned (.int .i64 0) ∧ Below w.heap.size w w' := fun w => right_any 0 0 0 0 0 0 0 0 0 w
  have r1 : ∀ w, Calls Try.prog 15 #[.agg #[.int .i64 20, .int .i64 60, .int .i64 2, .int .i64 10, .int .i64 4, .int .i64 3, .int .i64 1, .int .i64 30, .int .i64 40]] w fun e w' => e = .returned (.int .i64 (-1)) ∧ Below w.heap.size w w' := fun w => right_any 20 60 2 10 4 3 1 30 40 w
  have R0 := hide r0
  have R1 := hide r1
  clear r0 r1
  go_enter Try.func12, Try.ntmps12
  go_wp2_with fail
  refine (fit_zero _).mono ?_
  rintro e w1 ⟨rfl, hb1⟩
  go_wp2_with fail
  refine (new_any _).mono ?_
  rintro e w2 ⟨rfl, hb2⟩
  go_wp2_with fail
  refine (unhide R1 _).mono ?_
  rintro e w3 ⟨rfl, hb3⟩
  go_wp2_with fail
  refine (unhide R0 _).mono ?_
  rintro e w4 ⟨rfl, hb4⟩
  have hb : Below w.heap.size w w4 := ((((hb1.alloc hb1.size _).trans (hb2.mono (by have := hb1.size; simp; omega))).trans (hb3.mono (by have := hb1.size; have := hb2.size; simp at *; omega)))).trans (hb4.mono (by have := hb1.size; have := hb2.size; have := hb3.size; simp at *; omega))
  have hblk : Blk w4 w1.heap.size 26 #[.int .i64 1, .int .i64 1, .int .i64 1, .int .i64 1, .int .i64 1, .int .i64 1, .int .i64 0, .int .i64 1, .int .i64 0] :=
    (((Blk.new w1 _ _).below hb2 (by simp)).below hb3 (by have := hb2.size; simp at *; omega)).below hb4 (by have := hb2.size; have := hb3.size; simp at *; omega)
  have c0 : w4.cell? ⟨w1.heap.size, 0, none⟩ = some (.int .i64 1) := hblk.cell 0
  have c1 : w4.cell? ⟨w1.heap.size, 1, none⟩ = some (.int .i64 1) := hblk.cell 1
  have c7 : w4.cell? ⟨w1.heap.size, 7, none⟩ = some (.int .i64 1) := hblk.cell 7
  have c8 : w4.cell? ⟨w1.heap.size, 8, none⟩ = some (.int .i64 0) := hblk.cell 8
  have HB := hide hb
  clear hb hb1 hb2 hb3 hb4 hblk
  go_wp2
  go_ret
  exact ⟨rfl, unhide HB⟩

/-- What Config() hands back: nine numbers in their bounds. -/
def ChoiceOut (w : World) (e : Ending) (w' : World) : Prop := ∃ c0 c1 c2 c3 c4 c5 c6 c7 c8 : Int, (1 ≤ c0 ∧ c0 ≤ 30 ∧ c0 ≤ c1 ∧ c1 ≤ 89 ∧ 1 ≤ c2 ∧ c2 ≤ 6 ∧ 1 ≤ c3 ∧ c3 ≤ 20 ∧ 1 ≤ c4 ∧ c4 ≤ 9 ∧ 1 ≤ c5 ∧ c5 ≤ 6 ∧ 0 ≤ c6 ∧ c6 ≤ 3 ∧ 1 ≤ c7 ∧ c7 ≤ 40 ∧ 0 ≤ c8 ∧ c8 ≤ 49) ∧ e = .returned (.agg #[.int .i64 c0, .int .i64 c1, .int .i64 c2, .int .i64 c3, .int .i64 c4, .int .i64 c5, .int .i64 c6, .int .i64 c7, .int .i64 c8]) ∧ Below w.heap.size w w'
theorem choice_some (b0 b1 b2 b3 b4 b5 b6 b7 b8 : Int) (h0 : 0 ≤ b0 ∧ b0 < 256) (h1 : 0 ≤ b1 ∧ b1 < 256) (h2 : 0 ≤ b2 ∧ b2 < 256) (h3 : 0 ≤ b3 ∧ b3 < 256) (h4 : 0 ≤ b4 ∧ b4 < 256) (h5 : 0 ≤ b5 ∧ b5 < 256) (h6 : 0 ≤ b6 ∧ b6 < 256) (h7 : 0 ≤ b7 ∧ b7 < 256) (h8 : 0 ≤ b8 ∧ b8 < 256) (w : World) : Calls Try.prog 13 #[.agg #[.int .u8 b0, .int .u8 b1, .int .u8 b2, .int .u8 b3, .int .u8 b4, .int .u8 b5, .int .u8 b6, .int .u8 b7, .int .u8 b8]] w (ChoiceOut w) :=
  (choice_any b0 b1 b2 b3 b4 b5 b6 b7 b8 h0 h1 h2 h3 h4 h5 h6 h7 h8 w).mono fun _ _ ⟨he, hb⟩ => ⟨_, _, _, _, _, _, _, _, _, by omega, he, hb⟩
end Go.Proofs.Ytlpmjkbpcobgdaa

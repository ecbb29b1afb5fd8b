/-
  The contract of config.Right: it tells the place of the first number of a choice that may not be, or -1. No condition.
-/
import Derived.Test.YtlpmjkbpcobgdaaBase
namespace Go.Proofs.Ytlpmjkbpcobgdaa
open Go.RowKit
def badIn (n lo hi : Int) : Prop := n < lo ∨ hi < n
instance (n lo hi : Int) : Decidable (badIn n lo hi) := by unfold badIn; infer_instance
def rightF (a0 a1 a2 a3 a4 a5 a6 a7 a8 : Int) : Int :=
  if badIn a0 1 1000 then 0 else if badIn a1 a0 10000 then 1 else if badIn a2 1 6 then 2 else if badIn a3 1 1000 then 3 else if badIn a4 1 64 then 4 else if badIn a5 1 100 then 5 else if badIn a6 0 8 then 6 else if badIn a7 1 1000 then 7 else if badIn a8 0 1000 then 8 else -1
def okUpto (a0 a1 a2 a3 a4 a5 a6 a7 a8 : Int) (k : Nat) : Prop :=
  (0 < k → ¬ badIn a0 1 1000) ∧ (1 < k → ¬ badIn a1 a0 10000) ∧ (2 < k → ¬ badIn a2 1 6) ∧ (3 < k → ¬ badIn a3 1 1000) ∧ (4 < k → ¬ badIn a4 1 64) ∧ (5 < k → ¬ badIn a5 1 100) ∧ (6 < k → ¬ badIn a6 0 8) ∧ (7 < k → ¬ badIn a7 1 1000) ∧ (8 < k → ¬ badIn a8 0 1000)
def rightCells (a0 a1 a2 a3 a4 a5 a6 a7 a8 : Int) : Array Value := #[.int .i64 a0, .int .i64 1, .int .i64 1000, .int .i64 a1, .int .i64 a0, .int .i64 10000, .int .i64 a2, .int .i64 1, .int .i64 6, .int .i64 a3, .int .i64 1, .int .i64 1000, .int .i64 a4, .int .i64 1, .int .i64 64, .int .i64 a5, .int .i64 1, .int .i64 100, .int .i64 a6, .int .i64 0, .int .i64 8, .int .i64 a7, .int .i64 1, .int .i64 1000, .int .i64 a8, .int .i64 0, .int .i64 1000]
theorem right_bad0 {a0 a1 a2 a3 a4 a5 a6 a7 a8 : Int} (h : okUpto a0 a1 a2 a3 a4 a5 a6 a7 a8 0) (hb : a0 < 1 ∨ 1000 < a0) : Ending.returned (.int .i64 0) = .returned (.int .i64 (rightF a0 a1 a2 a3 a4 a5 a6 a7 a8)) := by
  unfold okUpto badIn at h
  unfold rightF
  rw [if_pos (by unfold badIn; omega)]
theorem ok_next0 {a0 a1 a2 a3 a4 a5 a6 a7 a8 : Int} (h : okUpto a0 a1 a2 a3 a4 a5 a6 a7 a8 0) (hb : ¬ (a0 < 1 ∨ 1000 < a0)) : okUpto a0 a1 a2 a3 a4 a5 a6 a7 a8 1 := by
  unfold okUpto badIn at h ⊢
  omega
theorem right_bad1 {a0 a1 a2 a3 a4 a5 a6 a7 a8 : Int} (h : okUpto a0 a1 a2 a3 a4 a5 a6 a7 a8 1) (hb : a1 < a0 ∨ 10000 < a1) : Ending.returned (.int .i64 1) = .returned (.int .i64 (rightF a0 a1 a2 a3 a4 a5 a6 a7 a8)) := by
  unfold okUpto badIn at h
  unfold rightF
  rw [if_neg (by unfold badIn; omega), if_pos (by unfold badIn; omega)]
theorem ok_next1 {a0 a1 a2 a3 a4 a5 a6 a7 a8 : Int} (h : okUpto a0 a1 a2 a3 a4 a5 a6 a7 a8 1) (hb : ¬ (a1 < a0 ∨ 10000 < a1)) : okUpto a0 a1 a2 a3 a4 a5 a6 a7 a8 2 := by
  unfold okUpto badIn at h ⊢
  omega
theorem right_bad2 {a0 a1 a2 a3 a4 a5 a6 a7 a8 : Int} (h : okUpto a0 a1 a2 a3 a4 a5 a6 a7 a8 2) (hb : a2 < 1 ∨ 6 < a2) : Ending.returned (.int .i64 2) = .returned (.int .i64 (rightF a0 a1 a2 a3 a4 a5 a6 a7 a8)) := by
  unfold okUpto badIn at h
  unfold rightF
  rw [if_neg (by unfold badIn; omega), if_neg (by unfold badIn; omega), if_pos (by unfold badIn; omega)]
theorem ok_next2 {a0 a1 a2 a3 a4 a5 a6 a7 a8 : Int} (h : okUpto a0 a1 a2 a3 a4 a5 a6 a7 a8 2) (hb : ¬ (a2 < 1 ∨ 6 < a2)) : okUpto a0 a1 a2 a3 a4 a5 a6 a7 a8 3 := by
  unfold okUpto badIn at h ⊢
  omega
theorem right_bad3 {a0 a1 a2 a3 a4 a5 a6 a7 a8 : Int} (h : okUpto a0 a1 a2 a3 a4 a5 a6 a7 a8 3) (hb : a3 < 1 ∨ 1000 < a3) : Ending.returned (.int .i64 3) = .returned (.int .i64 (rightF a0 a1 a2 a3 a4 a5 a6 a7 a8)) := by
  unfold okUpto badIn at h
  unfold rightF
  rw [if_neg (by unfold badIn; omega), if_neg (by unfold badIn; omega), if_neg (by unfold badIn; omega), if_pos (by unfold badIn; omega)]
theorem ok_next3 {a0 a1 a2 a3 a4 a5 a6 a7 a8 : Int} (h : okUpto a0 a1 a2 a3 a4 a5 a6 a7 a8 3) (hb : ¬ (a3 < 1 ∨ 1000 < a3)) : okUpto a0 a1 a2 a3 a4 a5 a6 a7 a8 4 := by
  unfold okUpto badIn at h ⊢
  omega
theorem right_bad4 {a0 a1 a2 a3 a4 a5 a6 a7 a8 : Int} (h : okUpto a0 a1 a2 a3 a4 a5 a6 a7 a8 4) (hb : a4 < 1 ∨ 64 < a4) : Ending.returned (.int .i64 4) = .returned (.int .i64 (rightF a0 a1 a2 a3 a4 a5 a6 a7 a8)) := by
  unfold okUpto badIn at h
  unfold rightF
  rw [if_neg (by unfold badIn; omega), if_neg (by unfold badIn; omega), if_neg (by unfold badIn; omega), if_neg (by unfold badIn; omega), if_pos (by unfold badIn; omega)]
theorem ok_next4 {a0 a1 a2 a3 a4 a5 a6 a7 a8 : Int} (h : okUpto a0 a1 a2 a3 a4 a5 a6 a7 a8 4) (hb : ¬ (a4 < 1 ∨ 64 < a4)) : okUpto a0 a1 a2 a3 a4 a5 a6 a7 a8 5 := by
  unfold okUpto badIn at h ⊢
  omega
theorem right_bad5 {a0 a1 a2 a3 a4 a5 a6 a7 a8 : Int} (h : okUpto a0 a1 a2 a3 a4 a5 a6 a7 a8 5) (hb : a5 < 1 ∨ 100 < a5) : Ending.returned (.int .i64 5) = .returned (.int .i64 (rightF a0 a1 a2 a3 a4 a5 a6 a7 a8)) := by
  unfold okUpto badIn at h
  unfold rightF
  rw [if_neg (by unfold badIn; omega), if_neg (by unfold badIn; omega), if_neg (by unfold badIn; omega), if_neg (by unfold badIn; omega), if_neg (by unfold badIn; omega), if_pos (by unfold badIn; omega)]
theorem ok_next5 {a0 a1 a2 a3 a4 a5 a6 a7 a8 : Int} (h : okUpto a0 a1 a2 a3 a4 a5 a6 a7 a8 5) (hb : ¬ (a5 < 1 ∨ 100 < a5)) : okUpto a0 a1 a2 a3 a4 a5 a6 a7 a8 6 := by
  unfold okUpto badIn at h ⊢
  omega
theorem right_bad6 {a0 a1 a2 a3 a4 a5 a6 a7 a8 : Int} (h : okUpto a0 a1 a2 a3 a4 a5 a6 a7 a8 6) (hb : a6 < 0 ∨ 8 < a6) : Ending.returned (.int .i64 6) = .returned (.int .i64 (rightF a0 a1 a2 a3 a4 a5 a6 a7 a8)) := by
  unfold okUpto badIn at h
  unfold rightF
  rw [if_neg (by unfold badIn; omega), if_neg (by unfold badIn; omega), if_neg (by unfold badIn; omega), if_neg (by unfold badIn; omega), if_neg (by unfold badIn; omega), if_neg (by unfold badIn; omega), if_pos (by unfold badIn; omega)]
theorem ok_next6 {a0 a1 a2 a3 a4 a5 a6 a7 a8 : Int} (h : okUpto a0 a1 a2 a3 a4 a5 a6 a7 a8 6) (hb : ¬ (a6 < 0 ∨ 8 < a6)) : okUpto a0 a1 a2 a3 a4 a5 a6 a7 a8 7 := by
  unfold okUpto badIn at h ⊢
  omega
theorem right_bad7 {a0 a1 a2 a3 a4 a5 a6 a7 a8 : Int} (h : okUpto a0 a1 a2 a3 a4 a5 a6 a7 a8 7) (hb : a7 < 1 ∨ 1000 < a7) : Ending.returned (.int .i64 7) = .returned (.int .i64 (rightF a0 a1 a2 a3 a4 a5 a6 a7 a8)) := by
  unfold okUpto badIn at h
  unfold rightF
  rw [if_neg (by unfold badIn; omega), if_neg (by unfold badIn; omega), if_neg (by unfold badIn; omega), if_neg (by unfold badIn; omega), if_neg (by unfold badIn; omega), if_neg (by unfold badIn; omega), if_neg (by unfold badIn; omega), if_pos (by unfold badIn; omega)]
theorem ok_next7 {a0 a1 a2 a3 a4 a5 a6 a7 a8 : Int} (h : okUpto a0 a1 a2 a3 a4 a5 a6 a7 a8 7) (hb : ¬ (a7 < 1 ∨ 1000 < a7)) : okUpto a0 a1 a2 a3 a4 a5 a6 a7 a8 8 := by
  unfold okUpto badIn at h ⊢
  omega
theorem right_bad8 {a0 a1 a2 a3 a4 a5 a6 a7 a8 : Int} (h : okUpto a0 a1 a2 a3 a4 a5 a6 a7 a8 8) (hb : a8 < 0 ∨ 1000 < a8) : Ending.returned (.int .i64 8) = .returned (.int .i64 (rightF a0 a1 a2 a3 a4 a5 a6 a7 a8)) := by
  unfold okUpto badIn at h
  unfold rightF
  rw [if_neg (by unfold badIn; omega), if_neg (by unfold badIn; omega), if_neg (by unfold badIn; omega), if_neg (by unfold badIn; omega), if_neg (by unfold badIn; omega), if_neg (by unfold badIn; omega), if_neg (by unfold badIn; omega), if_neg (by unfold badIn; omega), if_pos (by unfold badIn; omega)]
theorem ok_next8 {a0 a1 a2 a3 a4 a5 a6 a7 a8 : Int} (h : okUpto a0 a1 a2 a3 a4 a5 a6 a7 a8 8) (hb : ¬ (a8 < 0 ∨ 1000 < a8)) : okUpto a0 a1 a2 a3 a4 a5 a6 a7 a8 9 := by
  unfold okUpto badIn at h ⊢
  omega
theorem right_ok {a0 a1 a2 a3 a4 a5 a6 a7 a8 : Int} (h : okUpto a0 a1 a2 a3 a4 a5 a6 a7 a8 9) : Ending.returned (.int .i64 (-1)) = .returned (.int .i64 (rightF a0 a1 a2 a3 a4 a5 a6 a7 a8)) := by
  unfold okUpto badIn at h
  unfold rightF
  rw [if_neg (by unfold badIn; omega), if_neg (by unfold badIn; omega), if_neg (by unfold badIn; omega), if_neg (by unfold badIn; omega), if_neg (by unfold badIn; omega), if_neg (by unfold badIn; omega), if_neg (by unfold badIn; omega), if_neg (by unfold badIn; omega), if_neg (by unfold badIn; omega)]
set_option maxHeartbeats 4000000 in
theorem right_any (a0 a1 a2 a3 a4 a5 a6 a7 a8 : Int) (w : World) :
    Calls Try.prog 15 #[.agg #[.int .i64 a0, .int .i64 a1, .int .i64 a2, .int .i64 a3, .int .i64 a4, .int .i64 a5, .int .i64 a6, .int .i64 a7, .int .i64 a8]] w fun e w' => e = .returned (.int .i64 (rightF a0 a1 a2 a3 a4 a5 a6 a7 a8)) ∧ Below w.heap.size w w' := by
  go_enter Try.func15, Try.ntmps15
  go_wp2
  go_loopw [36] (fun i wr => ∃ k : Nat, k ≤ 9 ∧ i = .int .i64 k ∧ okUpto a0 a1 a2 a3 a4 a5 a6 a7 a8 k ∧ Blk wr (w.heap.size + 1) 119 (rightCells a0 a1 a2 a3 a4 a5 a6 a7 a8) ∧ Below w.heap.size w wr) (fun i _ => 9 - (intOf i).toNat)
  case atStart => exact ⟨0, by omega, rfl, by simp [okUpto], Blk.new_at (by simp), ((Below.refl _ _).alloc (Nat.le_refl _) _).alloc (by simp) _⟩
  case round =>
    obtain ⟨k, hk, rfl, hok, hB, hb⟩ := hrel
    have H := hide hok
    have HB := hide hB
    have hlt := hB.lt
    clear hok hB
    obtain rfl | rfl | rfl | rfl | rfl | rfl | rfl | rfl | rfl | rfl : k = 0 ∨ k = 1 ∨ k = 2 ∨ k = 3 ∨ k = 4 ∨ k = 5 ∨ k = 6 ∨ k = 7 ∨ k = 8 ∨ k = 9 := by omega
    · have c0 : wr.cell? ⟨w.heap.size + 1, 0, none⟩ = some (.int .i64 a0) := (unhide HB).cell 0
      have c1 : wr.cell? ⟨w.heap.size + 1, 1, none⟩ = some (.int .i64 1) := (unhide HB).cell 1
      have c2 : wr.cell? ⟨w.heap.size + 1, 2, none⟩ = some (.int .i64 1000) := (unhide HB).cell 2
      go_wp2
      · go_ret
        exact ⟨right_bad0 (unhide H) (by omega), hb.alloc hb.size _⟩
      · go_roundw
        case rel => exact ⟨1, by omega, rfl, ok_next0 (unhide H) (by omega), (unhide HB).alloc _, hb.alloc hb.size _⟩
        case measure => simp [intOf]
      · go_ret
        exact ⟨right_bad0 (unhide H) (by omega), hb.alloc hb.size _⟩
    · have c0 : wr.cell? ⟨w.heap.size + 1, 3, none⟩ = some (.int .i64 a1) := (unhide HB).cell 3
      have c1 : wr.cell? ⟨w.heap.size + 1, 4, none⟩ = some (.int .i64 a0) := (unhide HB).cell 4
      have c2 : wr.cell? ⟨w.heap.size + 1, 5, none⟩ = some (.int .i64 10000) := (unhide HB).cell 5
      go_wp2
      · go_ret
        exact ⟨right_bad1 (unhide H) (by omega), hb.alloc hb.size _⟩
      · go_roundw
        case rel => exact ⟨2, by omega, rfl, ok_next1 (unhide H) (by omega), (unhide HB).alloc _, hb.alloc hb.size _⟩
        case measure => simp [intOf]
      · go_ret
        exact ⟨right_bad1 (unhide H) (by omega), hb.alloc hb.size _⟩
    · have c0 : wr.cell? ⟨w.heap.size + 1, 6, none⟩ = some (.int .i64 a2) := (unhide HB).cell 6
      have c1 : wr.cell? ⟨w.heap.size + 1, 7, none⟩ = some (.int .i64 1) := (unhide HB).cell 7
      have c2 : wr.cell? ⟨w.heap.size + 1, 8, none⟩ = some (.int .i64 6) := (unhide HB).cell 8
      go_wp2
      · go_ret
        exact ⟨right_bad2 (unhide H) (by omega), hb.alloc hb.size _⟩
      · go_roundw
        case rel => exact ⟨3, by omega, rfl, ok_next2 (unhide H) (by omega), (unhide HB).alloc _, hb.alloc hb.size _⟩
        case measure => simp [intOf]
      · go_ret
        exact ⟨right_bad2 (unhide H) (by omega), hb.alloc hb.size _⟩
    · have c0 : wr.cell? ⟨w.heap.size + 1, 9, none⟩ = some (.int .i64 a3) := (unhide HB).cell 9
      have c1 : wr.cell? ⟨w.heap.size + 1, 10, none⟩ = some (.int .i64 1) := (unhide HB).cell 10
      have c2 : wr.cell? ⟨w.heap.size + 1, 11, none⟩ = some (.int .i64 1000) := (unhide HB).cell 11
      go_wp2
      · go_ret
        exact ⟨right_bad3 (unhide H) (by omega), hb.alloc hb.size _⟩
      · go_roundw
        case rel => exact ⟨4, by omega, rfl, ok_next3 (unhide H) (by omega), (unhide HB).alloc _, hb.alloc hb.size _⟩
        case measure => simp [intOf]
      · go_ret
        exact ⟨right_bad3 (unhide H) (by omega), hb.alloc hb.size _⟩
    · have c0 : wr.cell? ⟨w.heap.size + 1, 12, none⟩ = some (.int .i64 a4) := (unhide HB).cell 12
      have c1 : wr.cell? ⟨w.heap.size + 1, 13, none⟩ = some (.int .i64 1) := (unhide HB).cell 13
      have c2 : wr.cell? ⟨w.heap.size + 1, 14, none⟩ = some (.int .i64 64) := (unhide HB).cell 14
      go_wp2
      · go_ret
        exact ⟨right_bad4 (unhide H) (by omega), hb.alloc hb.size _⟩
      · go_roundw
        case rel => exact ⟨5, by omega, rfl, ok_next4 (unhide H) (by omega), (unhide HB).alloc _, hb.alloc hb.size _⟩
        case measure => simp [intOf]
      · go_ret
        exact ⟨right_bad4 (unhide H) (by omega), hb.alloc hb.size _⟩
    · have c0 : wr.cell? ⟨w.heap.size + 1, 15, none⟩ = some (.int .i64 a5) := (unhide HB).cell 15
      have c1 : wr.cell? ⟨w.heap.size + 1, 16, none⟩ = some (.int .i64 1) := (unhide HB).cell 16
      have c2 : wr.cell? ⟨w.heap.size + 1, 17, none⟩ = some (.int .i64 100) := (unhide HB).cell 17
      go_wp2
      · go_ret
        exact ⟨right_bad5 (unhide H) (by omega), hb.alloc hb.size _⟩
      · go_roundw
        case rel => exact ⟨6, by omega, rfl, ok_next5 (unhide H) (by omega), (unhide HB).alloc _, hb.alloc hb.size _⟩
        case measure => simp [intOf]
      · go_ret
        exact ⟨right_bad5 (unhide H) (by omega), hb.alloc hb.size _⟩
    · have c0 : wr.cell? ⟨w.heap.size + 1, 18, none⟩ = some (.int .i64 a6) := (unhide HB).cell 18
      have c1 : wr.cell? ⟨w.heap.size + 1, 19, none⟩ = some (.int .i64 0) := (unhide HB).cell 19
      have c2 : wr.cell? ⟨w.heap.size + 1, 20, none⟩ = some (.int .i64 8) := (unhide HB).cell 20
      go_wp2
      · go_ret
        exact ⟨right_bad6 (unhide H) (by omega), hb.alloc hb.size _⟩
      · go_roundw
        case rel => exact ⟨7, by omega, rfl, ok_next6 (unhide H) (by omega), (unhide HB).alloc _, hb.alloc hb.size _⟩
        case measure => simp [intOf]
      · go_ret
        exact ⟨right_bad6 (unhide H) (by omega), hb.alloc hb.size _⟩
    · have c0 : wr.cell? ⟨w.heap.size + 1, 21, none⟩ = some (.int .i64 a7) := (unhide HB).cell 21
      have c1 : wr.cell? ⟨w.heap.size + 1, 22, none⟩ = some (.int .i64 1) := (unhide HB).cell 22
      have c2 : wr.cell? ⟨w.heap.size + 1, 23, none⟩ = some (.int .i64 1000) := (unhide HB).cell 23
      go_wp2
      · go_ret
        exact ⟨right_bad7 (unhide H) (by omega), hb.alloc hb.size _⟩
      · go_roundw
        case rel => exact ⟨8, by omega, rfl, ok_next7 (unhide H) (by omega), (unhide HB).alloc _, hb.alloc hb.size _⟩
        case measure => simp [intOf]
      · go_ret
        exact ⟨right_bad7 (unhide H) (by omega), hb.alloc hb.size _⟩
    · have c0 : wr.cell? ⟨w.heap.size + 1, 24, none⟩ = some (.int .i64 a8) := (unhide HB).cell 24
      have c1 : wr.cell? ⟨w.heap.size + 1, 25, none⟩ = some (.int .i64 0) := (unhide HB).cell 25
      have c2 : wr.cell? ⟨w.heap.size + 1, 26, none⟩ = some (.int .i64 1000) := (unhide HB).cell 26
      go_wp2
      · go_ret
        exact ⟨right_bad8 (unhide H) (by omega), hb.alloc hb.size _⟩
      · go_roundw
        case rel => exact ⟨9, by omega, rfl, ok_next8 (unhide H) (by omega), (unhide HB).alloc _, hb.alloc hb.size _⟩
        case measure => simp [intOf]
      · go_ret
        exact ⟨right_bad8 (unhide H) (by omega), hb.alloc hb.size _⟩
    · go_wp2
      go_ret
      exact ⟨right_ok (unhide H), hb⟩
end Go.Proofs.Ytlpmjkbpcobgdaa

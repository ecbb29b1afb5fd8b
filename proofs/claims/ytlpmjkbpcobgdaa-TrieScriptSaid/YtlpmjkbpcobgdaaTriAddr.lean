/-
  Contracts of the functions of addr that prefixes want. An address is a number below 2^32; how many bits is any int.
-/
import Derived.Test.YtlpmjkbpcobgdaaBase
import Derived.Test.YtlpmjkbpcobgdaaTriPure
import Derived.Lib.QuietBelow
namespace Go.Proofs.Ytlpmjkbpcobgdaa
open Go.RowKit Go.Sort

theorem mask_any (n : Nat) (hn : n ≤ 32) (w : World) :
    Calls Try.prog 69 #[.int .i64 (n : Int)] w fun e w' => e = .returned (.int .u32 (Tri.msk n : Nat)) ∧ w = w' := by
  have e : ((4294967295 : Int) * 2 ^ (32 - n) % 4294967296) = ((Tri.msk n : Nat) : Int) := by
    rw [← Tri.msk_shl hn]
    simp
  have E := hide e
  clear e
  go_enter Try.func69, Try.ntmps69
  go_wp2
  go_ret
  exact ⟨ret_int (unhide E), rfl⟩

theorem bit_any (a k : Nat) (ha : a < 4294967296) (hk : k < 32) (w : World) :
    Calls Try.prog 65 #[.int .u32 (a : Int), .int .i64 (k : Int)] w fun e w' => e = .returned (.int .i64 (a / 2 ^ (31 - k) % 2 : Nat)) ∧ w = w' := by
  have h1 : bits BinOp.and IntKind.u32 ((a : Int) / 2 ^ (31 - k)) 1 = ((a / 2 ^ (31 - k) % 2 : Nat) : Int) := by
    have e1 : ((a : Int) / 2 ^ (31 - k)) = ((a / 2 ^ (31 - k) : Nat) : Int) := by simp
    have h2 : a / 2 ^ (31 - k) < 4294967296 := Nat.lt_of_le_of_lt (Nat.div_le_self _ _) ha
    rw [e1, show (1 : Int) = ((1 : Nat) : Int) from rfl, u32_and_nat _ _ h2 (by omega), Nat.and_one_is_mod]
  have h3 : wrap64 (bits BinOp.and IntKind.u32 ((a : Int) / 2 ^ (31 - k)) 1) = ((a / 2 ^ (31 - k) % 2 : Nat) : Int) := by
    rw [h1]
    unfold wrap64
    omega
  have E := hide h3
  clear h1 h3
  go_enter Try.func65, Try.ntmps65
  go_wp2
  go_ret
  exact ⟨ret_int (unhide E), rfl⟩

theorem right_nat {a m : Nat} (hm : m ≤ 32) : Tri.right a (m : Int) = (((a : Int) % 2 ^ (32 - m)) == 0) := by
  unfold Tri.right
  have d0 : decide ((0 : Int) ≤ (m : Int)) = true := by simp
  have d1 : decide ((m : Int) ≤ 32) = true := by simp; omega
  rw [d0, d1, show (32 - (m : Int)).toNat = 32 - m from by omega, Bool.eq_iff_iff]
  have e : ((a : Int) % 2 ^ (32 - m)) = ((a % 2 ^ (32 - m) : Nat) : Int) := by simp
  rw [e]
  simp only [Bool.true_and, decide_eq_true_eq, beq_iff_eq]
  omega
/-- addr.Right: any base, any number of bits. -/
theorem right_block (a : Nat) (n : Int) (ha : a < 4294967296) (w : World) :
    Calls Try.prog 54 #[.agg #[.int .u32 (a : Int), .int .i64 n]] w fun e w' => e = .returned (.bool (Tri.right a n)) ∧ Below w.heap.size w w' := by
  by_cases h0 : 0 ≤ n
  · by_cases h1 : n ≤ 32
    · obtain ⟨m, rfl⟩ := Int.eq_ofNat_of_zero_le h0
      have hm : m ≤ 32 := by omega
      have hand : bits BinOp.andNot IntKind.u32 (a : Int) ((Tri.msk m : Nat) : Int) = ((a % 2 ^ (32 - m) : Nat) : Int) := by
        rw [u32_andNot_nat _ _ ha (Tri.msk_lt m), Tri.andNot_msk a m hm]
      have HR := hide (right_nat (a := a) hm)
      have d1 : decide ((m : Int) ≤ 32) = true := by simpa using h1
      clear h0 h1
      go_enter Try.func54, Try.ntmps54
      go_wp2_with fail
      go_quiet ((go_at_call 69; exact Calls.quiet_of_same ((mask_any m hm _).mono fun _ _ h => ⟨h.1, h.2.symm⟩)))
      go_wp2
      go_ret
      exact ⟨ret_bool (unhide HR).symm, below_drewN ((Below.refl _ _).alloc (Nat.le_refl _) _) _⟩
    · have d0 : decide ((0 : Int) ≤ n) = true := by simpa using h0
      have d1 : decide (n ≤ 32) = false := by simpa using h1
      have hr : Tri.right a n = false := by simp [Tri.right, d1]
      have HR := hide hr
      clear hr h0 h1
      go_enter Try.func54, Try.ntmps54
      go_wp2_with fail
      go_quiet (fail)
      go_wp2
      go_ret
      exact ⟨ret_bool (unhide HR).symm, below_drewN ((Below.refl _ _).alloc (Nat.le_refl _) _) _⟩
  · have d0 : decide ((0 : Int) ≤ n) = false := by simpa using h0
    have hr : Tri.right a n = false := by simp [Tri.right, d0]
    have HR := hide hr
    clear hr h0
    go_enter Try.func54, Try.ntmps54
    go_wp2_with fail
    go_quiet (fail)
    go_wp2
    go_ret
    exact ⟨ret_bool (unhide HR).symm, below_drewN ((Below.refl _ _).alloc (Nat.le_refl _) _) _⟩

/-- addr.Make within 0 to 32 bits. -/
theorem make_block (a n : Nat) (ha : a < 4294967296) (hn : n ≤ 32) (w : World) :
    Calls Try.prog 68 #[.int .u32 (a : Int), .int .i64 (n : Int)] w fun e w' => e = .returned (.tuple #[.agg #[.int .u32 ((Tri.pv a n * 2 ^ (32 - n) : Nat) : Int), .int .i64 (n : Int)], .bool true]) ∧ Below w.heap.size w w' := by
  have hand : bits BinOp.and IntKind.u32 (a : Int) ((Tri.msk n : Nat) : Int) = ((Tri.pv a n * 2 ^ (32 - n) : Nat) : Int) := by
    rw [u32_and_nat _ _ ha (Tri.msk_lt n), Tri.and_msk a n ha hn]
  go_enter Try.func68, Try.ntmps68
  go_wp2_with (go_at_call 69; refine (mask_any n hn _).mono ?_; rintro e w' ⟨rfl, rfl⟩)
  exact bodyPost_ret (v := .tuple #[.agg #[.int .u32 ((Tri.pv a n * 2 ^ (32 - n) : Nat) : Int), .int .i64 (n : Int)], .bool true]) (by simp [results, Try.results68, go_sem]) rfl ⟨rfl, (Below.refl _ _).alloc (Nat.le_refl _) _⟩

/-- addr.Has: any prefix, any address. -/
theorem has_addr (a x : Nat) (n : Int) (ha : a < 4294967296) (hx : x < 4294967296) (w : World) :
    Calls Try.prog 52 #[.agg #[.int .u32 (a : Int), .int .i64 n], .int .u32 (x : Int)] w fun e w' => e = .returned (.bool (Tri.right a n && decide (Tri.pv x n.toNat = Tri.pv a n.toNat))) ∧ Below w.heap.size w w' := by
  have hm : Try.prog.follows .mixedOrders = true := by kernel_rfl
  have hb0 : Below w.heap.size w (w.alloc (.cells #[.int .u32 (a : Int), .int .i64 n] 88)) := (Below.refl _ _).alloc (Nat.le_refl _) _
  obtain ⟨w0, hw0⟩ : ∃ w0, w0 = w.alloc (.cells #[.int .u32 (a : Int), .int .i64 n] 88) := ⟨_, rfl⟩
  rw [← hw0] at hb0
  have c0 : w0.cell? ⟨w.heap.size, 0, none⟩ = some (.int .u32 (a : Int)) := by rw [hw0]; simp
  have c1 : w0.cell? ⟨w.heap.size, 1, none⟩ = some (.int .i64 n) := by rw [hw0]; simp
  have k0 := cell_regrown c0
  have k1 := cell_regrown c1
  have HW := hide hw0
  have HB := hide hb0
  have hsz : w.heap.size ≤ w0.heap.size := hb0.size
  clear hw0 hb0 c0 c1
  cases hr : Tri.right a n with
  | false =>
    have R : ∀ d os, Calls Try.prog 54 #[.agg #[.int .u32 (a : Int), .int .i64 n]] (grow (redrawn w0 d) os) fun e w' => e = .returned (.bool false) ∧ ∃ p : Regrown, w' = grow (redrawn w0 p.d) p.os := fun d os => Calls.regrown_of (hr ▸ right_block a n ha _)
    have HR := hide R
    clear R hr
    go_enter Try.func52, Try.ntmps52
    go_wp2_with fail
    rw [← unhide HW]
    refine wp_region_quiet_below hm (by kernel_rfl) ?_
    repeat (first | go_big_quiet_step (first | exact (unhide HR) _ _) | quiet_step (first | exact (unhide HR) _ _))
    refine wpQuiet_nil ?_
    intro _ hw'
    obtain ⟨⟨dq, osq⟩, hw''⟩ := hw'
    subst hw''
    go_wp2
    go_ret
    exact ⟨rfl, (unhide HB).trans ((below_regrown _ _ _).mono hsz)⟩
  | true => 
    have R : ∀ d os, Calls Try.prog 54 #[.agg #[.int .u32 (a : Int), .int .i64 n]] (grow (redrawn w0 d) os) fun e w' => e = .returned (.bool true) ∧ ∃ p : Regrown, w' = grow (redrawn w0 p.d) p.os := fun d os => Calls.regrown_of (hr ▸ right_block a n ha _)
    have HR := hide R
    obtain ⟨h0, h1, h2⟩ := Tri.right_iff.1 hr
    obtain ⟨m, rfl⟩ := Int.eq_ofNat_of_zero_le h0
    have hm' : m ≤ 32 := by omega
    have R2 : ∀ d os, Calls Try.prog 69 #[.int .i64 (m : Int)] (grow (redrawn w0 d) os) fun e w' => e = .returned (.int .u32 (Tri.msk m : Nat)) ∧ ∃ p : Regrown, w' = grow (redrawn w0 p.d) p.os := fun d os => (mask_any m hm' _).mono fun _ _ h => ⟨h.1, ⟨d, os⟩, h.2.symm⟩
    have HR2 := hide R2
    rw [show (32 - (m : Int)).toNat = 32 - m from by omega] at h2
    have hand : bits BinOp.and IntKind.u32 (x : Int) ((Tri.msk m : Nat) : Int) = ((Tri.pv x m * 2 ^ (32 - m) : Nat) : Int) := by
      rw [u32_and_nat _ _ hx (Tri.msk_lt m), Tri.and_msk x m hx hm']
    have heq : ((((Tri.pv x m : Nat) : Int) * 2 ^ (32 - m)) == (a : Int)) = (true && decide (Tri.pv x m = Tri.pv a m)) := by
      have ec : (((Tri.pv x m : Nat) : Int) * 2 ^ (32 - m)) = ((Tri.pv x m * 2 ^ (32 - m) : Nat) : Int) := by simp
      rw [ec, Bool.eq_iff_iff]
      simp only [beq_iff_eq, Bool.true_and, decide_eq_true_eq]
      constructor
      · intro h
        have h' : Tri.pv x m * 2 ^ (32 - m) = a := by exact_mod_cast h
        rw [← h', Tri.pv_base]
      · intro h
        rw [h, ← Tri.base_eq h2]
    have HE := hide heq
    clear R R2 hr h0 h1 h2 heq
    go_enter Try.func52, Try.ntmps52
    go_wp2_with fail
    rw [← unhide HW]
    refine wp_region_quiet_below hm (by kernel_rfl) ?_
    repeat (first | go_big_quiet_step (first | exact (unhide HR) _ _ | exact (unhide HR2) _ _) | quiet_step (first | exact (unhide HR) _ _ | exact (unhide HR2) _ _))
    refine wpQuiet_nil ?_
    intro _ hw'
    obtain ⟨⟨dq, osq⟩, hw''⟩ := hw'
    subst hw''
    go_wp2
    go_ret
    exact ⟨ret_bool (unhide HE), (unhide HB).trans ((below_regrown _ _ _).mono hsz)⟩

/-! ### two prefixes in boxes -/
def Two (w : World) (a : Nat) (n : Int) (b : Nat) (m : Int) (w' : World) : Prop := Blk w' w.heap.size 88 #[.int .u32 (a : Int), .int .i64 n] ∧ Blk w' (w.heap.size + 1) 88 #[.int .u32 (b : Int), .int .i64 m]
theorem Two.start (w : World) (a : Nat) (n : Int) (b : Nat) (m : Int) : Two w a n b m ((w.alloc (.cells #[.int .u32 (a : Int), .int .i64 n] 88)).alloc (.cells #[.int .u32 (b : Int), .int .i64 m] 88)) := ⟨(Blk.new w _ _).alloc _, Blk.new_at (by simp)⟩
theorem Two.next {w w' w'' : World} {a b : Nat} {n m : Int} (h : Two w a n b m w') (hb : Below w'.heap.size w' w'') : Two w a n b m w'' := ⟨h.1.below hb h.1.lt, h.2.below hb h.2.lt⟩

def within (a : Nat) (n : Int) (b : Nat) (m : Int) : Bool := Tri.right a n && (Tri.right b m && (decide (m ≤ n) && decide (Tri.pv a m.toNat = Tri.pv b m.toNat)))

set_option maxHeartbeats 1000000 in
theorem within_block (a b : Nat) (n m : Int) (ha : a < 4294967296) (hb : b < 4294967296) (w : World) :
    Calls Try.prog 66 #[.agg #[.int .u32 (a : Int), .int .i64 n], .agg #[.int .u32 (b : Int), .int .i64 m]] w fun e w' => e = .returned (.bool (within a n b m)) ∧ Below w.heap.size w w' := by
  have hs := Two.start w a n b m
  have hB : Below w.heap.size w ((w.alloc (.cells #[.int .u32 (a : Int), .int .i64 n] 88)).alloc (.cells #[.int .u32 (b : Int), .int .i64 m] 88)) := ((Below.refl _ _).alloc (Nat.le_refl _) _).alloc (by simp) _
  have HS := hide hs
  have HB := hide hB
  clear hs hB
  cases hr : Tri.right a n with
  | false =>
    have R : ∀ W, Calls Try.prog 54 #[.agg #[.int .u32 (a : Int), .int .i64 n]] W fun e w' => e = .returned (.bool false) ∧ Below W.heap.size W w' := fun W => hr ▸ right_block a n ha W
    have HR := hide R
    have hv : within a n b m = false := by simp [within, hr]
    have HV := hide hv
    clear R hr hv
    go_enter Try.func66, Try.ntmps66
    go_wp2_with fail
    refine (unhide HR _).mono ?_
    rintro e w1 ⟨rfl, hb1⟩
    go_wp2_with fail
    go_ret
    exact ⟨ret_bool (unhide HV).symm, (unhide HB).trans (hb1.mono (unhide HB).size)⟩
  | true =>
    have R : ∀ W, Calls Try.prog 54 #[.agg #[.int .u32 (a : Int), .int .i64 n]] W fun e w' => e = .returned (.bool true) ∧ Below W.heap.size W w' := fun W => hr ▸ right_block a n ha W
    have HR := hide R
    clear R
    cases hr2 : Tri.right b m with
    | false =>
      have R2 : ∀ W, Calls Try.prog 54 #[.agg #[.int .u32 (b : Int), .int .i64 m]] W fun e w' => e = .returned (.bool false) ∧ Below W.heap.size W w' := fun W => hr2 ▸ right_block b m hb W
      have HR2 := hide R2
      have hv : within a n b m = false := by simp [within, hr2]
      have HV := hide hv
      clear R2 hr hr2 hv
      go_enter Try.func66, Try.ntmps66
      go_wp2_with fail
      refine (unhide HR _).mono ?_
      rintro e w1 ⟨rfl, hb1⟩
      have h1 := (unhide HS).next hb1
      have b0 : w1.cell? ⟨w.heap.size + 1, 0, none⟩ = some (.int .u32 (b : Int)) := h1.2.cell 0
      have b1 : w1.cell? ⟨w.heap.size + 1, 1, none⟩ = some (.int .i64 m) := h1.2.cell 1
      go_wp2_with fail
      refine (unhide HR2 _).mono ?_
      rintro e w2 ⟨rfl, hb2⟩
      go_wp2_with fail
      go_ret
      exact ⟨ret_bool (unhide HV).symm, ((unhide HB).trans (hb1.mono (unhide HB).size)).trans (hb2.mono ((unhide HB).trans (hb1.mono (unhide HB).size)).size)⟩
    | true =>
      have R2 : ∀ W, Calls Try.prog 54 #[.agg #[.int .u32 (b : Int), .int .i64 m]] W fun e w' => e = .returned (.bool true) ∧ Below W.heap.size W w' := fun W => hr2 ▸ right_block b m hb W
      have HR2 := hide R2
      clear R2
      by_cases hnm : m ≤ n
      · have d0 : decide (m ≤ n) = true := by simpa using hnm
        have hv : within a n b m = decide (Tri.pv a m.toNat = Tri.pv b m.toNat) := by simp [within, hr, hr2, hnm]
        have R3 : ∀ W, Calls Try.prog 52 #[.agg #[.int .u32 (b : Int), .int .i64 m], .int .u32 (a : Int)] W fun e w' => e = .returned (.bool (decide (Tri.pv a m.toNat = Tri.pv b m.toNat))) ∧ Below W.heap.size W w' := fun W => (has_addr b a m hb ha W).mono fun _ _ h => ⟨by rw [h.1, hr2, Bool.true_and], h.2⟩
        have HR3 := hide R3
        have HV := hide hv
        clear R3 hr hr2 hv hnm
        go_enter Try.func66, Try.ntmps66
        go_wp2_with fail
        refine (unhide HR _).mono ?_
        rintro e w1 ⟨rfl, hb1⟩
        have h1 := (unhide HS).next hb1
        have b0 : w1.cell? ⟨w.heap.size + 1, 0, none⟩ = some (.int .u32 (b : Int)) := h1.2.cell 0
        have b1 : w1.cell? ⟨w.heap.size + 1, 1, none⟩ = some (.int .i64 m) := h1.2.cell 1
        go_wp2_with fail
        refine (unhide HR2 _).mono ?_
        rintro e w2 ⟨rfl, hb2⟩
        have h2 := h1.next hb2
        clear b0 b1
        have a0 : w2.cell? ⟨w.heap.size, 0, none⟩ = some (.int .u32 (a : Int)) := h2.1.cell 0
        have a1 : w2.cell? ⟨w.heap.size, 1, none⟩ = some (.int .i64 n) := h2.1.cell 1
        have b0 : w2.cell? ⟨w.heap.size + 1, 0, none⟩ = some (.int .u32 (b : Int)) := h2.2.cell 0
        have b1 : w2.cell? ⟨w.heap.size + 1, 1, none⟩ = some (.int .i64 m) := h2.2.cell 1
        go_wp2_with fail
        refine (unhide HR3 _).mono ?_
        rintro e w3 ⟨rfl, hb3⟩
        go_wp2_with fail
        go_ret
        have B2 := ((unhide HB).trans (hb1.mono (unhide HB).size)).trans (hb2.mono ((unhide HB).trans (hb1.mono (unhide HB).size)).size)
        exact ⟨ret_bool (unhide HV).symm, B2.trans (hb3.mono B2.size)⟩
      · have d0 : decide (m ≤ n) = false := by simpa using hnm
        have hv : within a n b m = false := by simp [within, hnm]
        have HV := hide hv
        clear hr hr2 hv hnm
        go_enter Try.func66, Try.ntmps66
        go_wp2_with fail
        refine (unhide HR _).mono ?_
        rintro e w1 ⟨rfl, hb1⟩
        have h1 := (unhide HS).next hb1
        have b0 : w1.cell? ⟨w.heap.size + 1, 0, none⟩ = some (.int .u32 (b : Int)) := h1.2.cell 0
        have b1 : w1.cell? ⟨w.heap.size + 1, 1, none⟩ = some (.int .i64 m) := h1.2.cell 1
        go_wp2_with fail
        refine (unhide HR2 _).mono ?_
        rintro e w2 ⟨rfl, hb2⟩
        have h2 := h1.next hb2
        clear b0 b1
        have a1 : w2.cell? ⟨w.heap.size, 1, none⟩ = some (.int .i64 n) := h2.1.cell 1
        have b1 : w2.cell? ⟨w.heap.size + 1, 1, none⟩ = some (.int .i64 m) := h2.2.cell 1
        go_wp2_with fail
        go_ret
        have B2 := ((unhide HB).trans (hb1.mono (unhide HB).size)).trans (hb2.mono ((unhide HB).trans (hb1.mono (unhide HB).size)).size)
        exact ⟨ret_bool (unhide HV).symm, B2⟩

def overlap (a : Nat) (n : Int) (b : Nat) (m : Int) : Bool := within a n b m || within b m a n

theorem overlap_block (a b : Nat) (n m : Int) (ha : a < 4294967296) (hb : b < 4294967296) (w : World) :
    Calls Try.prog 43 #[.agg #[.int .u32 (a : Int), .int .i64 n], .agg #[.int .u32 (b : Int), .int .i64 m]] w fun e w' => e = .returned (.bool (overlap a n b m)) ∧ Below w.heap.size w w' := by
  have hs := Two.start w a n b m
  have hB : Below w.heap.size w ((w.alloc (.cells #[.int .u32 (a : Int), .int .i64 n] 88)).alloc (.cells #[.int .u32 (b : Int), .int .i64 m] 88)) := ((Below.refl _ _).alloc (Nat.le_refl _) _).alloc (by simp) _
  have HS := hide hs
  have HB := hide hB
  clear hs hB
  cases hr : within a n b m with
  | true =>
    have R : ∀ W, Calls Try.prog 66 #[.agg #[.int .u32 (a : Int), .int .i64 n], .agg #[.int .u32 (b : Int), .int .i64 m]] W fun e w' => e = .returned (.bool true) ∧ Below W.heap.size W w' := fun W => hr ▸ within_block a b n m ha hb W
    have HR := hide R
    have hv : overlap a n b m = true := by simp [overlap, hr]
    have HV := hide hv
    clear R hr hv
    go_enter Try.func43, Try.ntmps43
    go_wp2_with fail
    refine (unhide HR _).mono ?_
    rintro e w1 ⟨rfl, hb1⟩
    go_wp2_with fail
    go_ret
    exact ⟨ret_bool (unhide HV).symm, (unhide HB).trans (hb1.mono (unhide HB).size)⟩
  | false =>
    have R : ∀ W, Calls Try.prog 66 #[.agg #[.int .u32 (a : Int), .int .i64 n], .agg #[.int .u32 (b : Int), .int .i64 m]] W fun e w' => e = .returned (.bool false) ∧ Below W.heap.size W w' := fun W => hr ▸ within_block a b n m ha hb W
    have R2 : ∀ W, Calls Try.prog 66 #[.agg #[.int .u32 (b : Int), .int .i64 m], .agg #[.int .u32 (a : Int), .int .i64 n]] W fun e w' => e = .returned (.bool (within b m a n)) ∧ Below W.heap.size W w' := fun W => within_block b a m n hb ha W
    have HR := hide R
    have HR2 := hide R2
    have hv : overlap a n b m = within b m a n := by simp [overlap, hr]
    obtain ⟨v, hv2⟩ : ∃ v, v = within b m a n := ⟨_, rfl⟩
    rw [← hv2] at hv HR2
    have HV := hide hv
    clear R R2 hr hv hv2
    go_enter Try.func43, Try.ntmps43
    go_wp2_with fail
    refine (unhide HR _).mono ?_
    rintro e w1 ⟨rfl, hb1⟩
    have h1 := (unhide HS).next hb1
    have a0 : w1.cell? ⟨w.heap.size, 0, none⟩ = some (.int .u32 (a : Int)) := h1.1.cell 0
    have a1 : w1.cell? ⟨w.heap.size, 1, none⟩ = some (.int .i64 n) := h1.1.cell 1
    have b0 : w1.cell? ⟨w.heap.size + 1, 0, none⟩ = some (.int .u32 (b : Int)) := h1.2.cell 0
    have b1 : w1.cell? ⟨w.heap.size + 1, 1, none⟩ = some (.int .i64 m) := h1.2.cell 1
    go_wp2_with fail
    refine (unhide HR2 _).mono ?_
    rintro e w2 ⟨rfl, hb2⟩
    have B1 := (unhide HB).trans (hb1.mono (unhide HB).size)
    have HB1 := hide B1
    clear B1
    go_wp2_with fail
    all_goals
      go_ret
      exact ⟨ret_bool (unhide HV).symm, (unhide HB1).trans (hb2.mono (unhide HB1).size)⟩
end Go.Proofs.Ytlpmjkbpcobgdaa

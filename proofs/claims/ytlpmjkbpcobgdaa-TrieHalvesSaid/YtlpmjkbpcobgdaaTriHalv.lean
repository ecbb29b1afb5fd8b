/-
  The walk of TrieHalves.
-/
import Derived.Test.YtlpmjkbpcobgdaaTriTwo
namespace Go.Proofs.Ytlpmjkbpcobgdaa
open Go.RowKit Go.Sort

/-- What the law asks of its prefix and its halves, in numbers alone. -/
structure HalfFacts (v n m A L0 R0 P BS : Nat) : Prop where
  n20 : 20 ≤ n
  n32 : n < 32
  m32 : m ≤ 32
  mn : m = n + 1
  A32 : A < 4294967296
  L32 : L0 < 4294967296
  R32 : R0 < 4294967296
  B32 : BS < 4294967296
  rA : Tri.right A (n : Int) = true
  rL : Tri.right L0 (m : Int) = true
  rR : Tri.right R0 (m : Int) = true
  rB : Tri.right BS (n : Int) = true
  pA : Tri.pv A n = v
  pL : Tri.pv L0 m = 2 * v
  pR : Tri.pv R0 m = 2 * v + 1
  pB : Tri.pv BS n ≠ v
  P0 : 0 < P
  P31 : P ≤ 4096
  XP : ∀ k, k < P → A + k < 4294967296 ∧ Tri.pv (A + k) n = v

theorem xor_one_ne (v : Nat) : v ^^^ 1 ≠ v := by
  intro h
  have := congrArg (fun z => z.testBit 0) h
  simp at this
  omega

theorem half_facts {v n : Nat} (h20 : 20 ≤ n) (hn : n < 32) (hv : v < 2 ^ n) :
    HalfFacts v n (n + 1) (v * 2 ^ (32 - n)) (2 * v * 2 ^ (32 - (n + 1))) ((2 * v + 1) * 2 ^ (32 - (n + 1))) (2 ^ (32 - n)) ((v * 2 ^ (32 - n)) ^^^ 2 ^ (32 - n)) := by
  have hP : 2 ^ (32 - n) ≤ 2 ^ 12 := Nat.pow_le_pow_right (by omega) (by omega)
  have hA := Tri.base_lt (v := v) (n := n) (by omega) hv
  have hv1 : 2 * v + 1 < 2 ^ (n + 1) := by rw [Nat.pow_succ]; omega
  have hx : (v * 2 ^ (32 - n)) ^^^ 2 ^ (32 - n) = (v ^^^ 1) * 2 ^ (32 - n) := by
    apply Nat.eq_of_testBit_eq
    intro i
    rw [Nat.testBit_xor, Nat.testBit_mul_two_pow, Nat.testBit_mul_two_pow, Nat.testBit_xor, Nat.testBit_two_pow]
    by_cases h : 32 - n ≤ i
    · simp only [h, decide_true, Bool.true_and]
      congr 1
      rw [show (1 : Nat) = 2 ^ 0 from rfl, Nat.testBit_two_pow]
      simp only [decide_eq_decide]
      omega
    · simp only [h, decide_false, Bool.false_and, Bool.false_bne]
      have : ¬ (32 - n = i) := by omega
      simp [this]
  have hxv : v ^^^ 1 < 2 ^ n := Nat.xor_lt_two_pow hv (Nat.one_lt_two_pow (by omega))
  refine ⟨h20, hn, by omega, rfl, hA, Tri.base_lt (by omega) (by omega), Tri.base_lt (by omega) hv1, ?_, right_bl (by omega), right_bl (by omega), right_bl (by omega), ?_, Tri.pv_base, Tri.pv_base, Tri.pv_base, ?_, Nat.two_pow_pos _, by simpa using hP, ?_⟩
  · rw [hx]; exact Tri.base_lt (by omega) hxv
  · rw [hx]; exact right_bl (by omega)
  · rw [hx, Tri.pv_base]; exact xor_one_ne v
  · intro k hk
    have h1 : v * 2 ^ (32 - n) + k < (v + 1) * 2 ^ (32 - n) := by rw [Nat.add_mul, Nat.one_mul]; omega
    have h2 : (v + 1) * 2 ^ (32 - n) ≤ 2 ^ n * 2 ^ (32 - n) := Nat.mul_le_mul_right _ hv
    rw [← Nat.pow_add, show n + (32 - n) = 32 from by omega] at h2
    have h3 : (2 : Nat) ^ 32 = 4294967296 := by decide
    refine ⟨by omega, ?_⟩
    unfold Tri.pv
    rw [Nat.mul_comm, Nat.mul_add_div (Nat.two_pow_pos _), Nat.div_eq_of_lt hk, Nat.add_zero]

/-- The set of the two halves. -/
abbrev S2 (m v : Nat) : Nat → Nat → Bool := updS (updS S0 m (2 * v) true) m (2 * v + 1) true
theorem S2_iff {m v k u : Nat} : S2 m v k u = true ↔ k = m ∧ (u = 2 * v ∨ u = 2 * v + 1) := by
  unfold S2 updS S0
  split
  · rename_i h; simp [h]
  · split
    · rename_i h; simp [h]
    · rename_i h1 h2
      simp only [Bool.false_eq_true, false_iff]
      omega

section
variable {v n m A L0 R0 P BS : Nat}
theorem half_over (h : HalfFacts v n m A L0 R0 P BS) : OverP (S2 m v) A n := .inr ⟨m, 2 * v, by have := h.mn; omega, S2_iff.2 ⟨rfl, .inl rfl⟩, by rw [h.mn, h.pA, show n + 1 - n = 1 from by omega]; omega⟩
theorem half_beside (h : HalfFacts v n m A L0 R0 P BS) : ¬ OverP (S2 m v) BS n := by
  have hm := h.mn
  rintro (⟨k, hk, hs⟩ | ⟨k, u, _, hs, hu⟩)
  · have := (S2_iff.1 hs).1
    omega
  · obtain ⟨rfl, h2⟩ := S2_iff.1 hs
    rw [hm, show n + 1 - n = 1 from by omega] at hu
    exact h.pB (by omega)
theorem half_has (h : HalfFacts v n m A L0 R0 P BS) : hasF (S2 m v) A (n : Int) = false := by
  unfold hasF
  rw [h.rA, Bool.true_and]
  cases hs : S2 m v (n : Int).toNat (Tri.pv A (n : Int).toNat) with
  | false => rfl
  | true =>
    have := (S2_iff.1 hs).1
    have := h.mn
    omega
theorem half_next (h : HalfFacts v n m A L0 R0 P BS) {x : Nat} (hx : Tri.pv x n = v) : Tri.pv x m = 2 * v ∨ Tri.pv x m = 2 * v + 1 := by
  have h1 := Tri.pv_succ (a := x) (k := n) h.n32
  have h2 := Nat.mod_lt (x / 2 ^ (31 - n)) (show 0 < 2 by omega)
  rw [h.mn, h1, hx]
  omega
theorem half_long (h : HalfFacts v n m A L0 R0 P BS) {x : Nat} (hx : Tri.pv x n = v) {o : Option Nat} (ho : LongP (S2 m v) x o) : o = some m := by
  have hyes : S2 m v m (Tri.pv x m) = true := S2_iff.2 ⟨rfl, half_next h hx⟩
  cases o with
  | none =>
    have := ho m h.m32
    rw [hyes] at this
    cases this
  | some k =>
    obtain ⟨_, h2, _⟩ := ho
    rw [(S2_iff.1 h2).1]
end

theorem blk_at {w : World} {t : TypeId} {cs : Array Value} {g : Nat} (h : g = w.heap.size) : Blk (w.alloc (.cells cs t)) g t cs := Blk.new_at h

set_option maxRecDepth 100000 in
set_option maxHeartbeats 400000 in
theorem halv_one (a bt at_ v : Nat) (hv : v < 4294967296) (hb : ∀ W, Calls Try.prog 40 #[.int .u32 (a : Int), .int .u8 (bt : Int)] W fun e w' => e = .returned (bl v 32) ∧ Below W.heap.size W w') (w : World) :
    Calls Try.prog 9 #[.int .u32 (a : Int), .int .u8 (bt : Int), .int .u16 (at_ : Int)] w fun e w' => e = .returned (.bool true) ∧ Below w.heap.size w w' := by
  have hH := fun W => halves_one v hv W
  have hbl : bl v 32 = .agg #[.int .u32 (v : Int), .int .i64 32] := by unfold bl; simp
  rw [hbl] at hb hH
  have HB := hide hb
  have HH := hide hH
  clear hb hH hbl
  go_enter Try.func9, Try.ntmps9
  go_wp2_with fail
  refine (trie_awake _).mono ?_
  rintro e w1 ⟨rfl, hb1⟩
  have L1 := hide hb1
  clear hb1
  go_wp2_with fail
  refine (unhide HB _).mono ?_
  rintro e w2 ⟨rfl, hb2⟩
  have L2 := hide ((unhide L1).trans (hb2.mono (unhide L1).size))
  clear hb2 L1
  go_wp2_with fail
  refine (unhide HH _).mono ?_
  rintro e w3 ⟨rfl, hb3⟩
  have x1 : w3.cell? ⟨w2.heap.size, 1, none⟩ = some (.int .i64 32) := (hb3.cell (p := ⟨w2.heap.size, 1, none⟩) (by simp)).trans (by simp)
  have hz3 : w2.heap.size < w3.heap.size := by have := hb3.size; simp at this; omega
  have L3 := hide (((unhide L2).alloc (unhide L2).size _).trans (hb3.mono (by have := (unhide L2).size; simp; omega)))
  clear hb3
  have hz2 := (unhide L2).size
  go_wp2_with fail
  go_ret
  exact ⟨rfl, ((unhide L3).alloc (by omega) _).alloc (by simp; omega) _⟩

set_option maxRecDepth 100000 in
set_option maxHeartbeats 400000 in
theorem halv_two (a bt at_ : Nat) (hat : at_ < 65536) {v n m A L0 R0 P BS : Nat} (hF : HalfFacts v n m A L0 R0 P BS)
    (hb : ∀ W, Calls Try.prog 40 #[.int .u32 (a : Int), .int .u8 (bt : Int)] W fun e w' => e = .returned (.agg #[.int .u32 (A : Int), .int .i64 (n : Int)]) ∧ Below W.heap.size W w')
    (hH : ∀ W, Calls Try.prog 48 #[.agg #[.int .u32 (A : Int), .int .i64 (n : Int)]] W fun e w' => e = .returned (.tuple #[.agg #[.int .u32 (L0 : Int), .int .i64 (m : Int)], .agg #[.int .u32 (R0 : Int), .int .i64 (m : Int)], .bool true]) ∧ Below W.heap.size W w')
    (hS : ∀ W, Calls Try.prog 50 #[.agg #[.int .u32 (A : Int), .int .i64 (n : Int)]] W fun e w' => e = .returned (.int .i64 (P : Int)) ∧ Below W.heap.size W w')
    (hA : ∀ W, Calls Try.prog 49 #[.agg #[.int .u32 (A : Int), .int .i64 (n : Int)], .int .i64 ((at_ : Int) % (P : Int))] W fun e w' => e = .returned (.tuple #[.int .u32 ((A + at_ % P : Nat) : Int), .bool true]) ∧ Below W.heap.size W w')
    (hX : bits BinOp.xor IntKind.u32 (A : Int) ((2 : Int) ^ (32 - n) % 4294967296) = (BS : Int)) (w : World) :
    Calls Try.prog 9 #[.int .u32 (a : Int), .int .u8 (bt : Int), .int .u16 (at_ : Int)] w fun e w' => e = .returned (.bool true) ∧ Below w.heap.size w w' := by
  have HF := hide hF
  have HB := hide hb
  have HH := hide hH
  have HS := hide hS
  have HA := hide hA
  have hn32 : n ≤ 32 := by have := hF.n32; omega
  clear hF hb hH hS hA
  go_enter Try.func9, Try.ntmps9
  go_wp2_with fail
  refine (trie_awake _).mono ?_
  rintro e w1 ⟨rfl, hb1⟩
  have L1 := hide hb1
  clear hb1
  go_wp2_with fail
  refine (unhide HB _).mono ?_
  rintro e w2 ⟨rfl, hb2⟩
  have L2 := hide ((unhide L1).trans (hb2.mono (unhide L1).size))
  clear hb2 L1 HB
  go_wp2_with fail
  refine (unhide HH _).mono ?_
  rintro e w3 ⟨rfl, hb3⟩
  have XA := hide ((Blk.new w2 88 #[.int .u32 (A : Int), .int .i64 (n : Int)]).below hb3 (by simp))
  have hz3 : w2.heap.size + 1 ≤ w3.heap.size := by have := hb3.size; simpa using this
  have L3 := hide (((unhide L2).alloc (unhide L2).size _).trans (hb3.mono (by have := (unhide L2).size; simp; omega)))
  have hz2 : w.heap.size ≤ w2.heap.size := (unhide L2).size
  clear hb3 HH L2
  have hT0 := trie_new ((w3.alloc (.cells #[.int .u32 (L0 : Int), .int .i64 (m : Int)] 88)).alloc (.cells #[.int .u32 (R0 : Int), .int .i64 (m : Int)] 88))
  have hA0 : Blk (((w3.alloc (.cells #[.int .u32 (L0 : Int), .int .i64 (m : Int)] 88)).alloc (.cells #[.int .u32 (R0 : Int), .int .i64 (m : Int)] 88)).alloc (.cells #[.bool false, .pointer none, .pointer none, .int .i64 0] 96)) w2.heap.size 88 #[.int .u32 (A : Int), .int .i64 (n : Int)] := (((unhide XA).alloc _).alloc _).alloc _
  have hL0 : Blk (((w3.alloc (.cells #[.int .u32 (L0 : Int), .int .i64 (m : Int)] 88)).alloc (.cells #[.int .u32 (R0 : Int), .int .i64 (m : Int)] 88)).alloc (.cells #[.bool false, .pointer none, .pointer none, .int .i64 0] 96)) w3.heap.size 88 #[.int .u32 (L0 : Int), .int .i64 (m : Int)] := ((Blk.new w3 _ _).alloc _).alloc _
  have hR0 : Blk (((w3.alloc (.cells #[.int .u32 (L0 : Int), .int .i64 (m : Int)] 88)).alloc (.cells #[.int .u32 (R0 : Int), .int .i64 (m : Int)] 88)).alloc (.cells #[.bool false, .pointer none, .pointer none, .int .i64 0] 96)) (w3.heap.size + 1) 88 #[.int .u32 (R0 : Int), .int .i64 (m : Int)] := (Blk.new_at (w := w3.alloc _) (by simp)).alloc _
  have l0 : Below w.heap.size w (((w3.alloc (.cells #[.int .u32 (L0 : Int), .int .i64 (m : Int)] 88)).alloc (.cells #[.int .u32 (R0 : Int), .int .i64 (m : Int)] 88)).alloc (.cells #[.bool false, .pointer none, .pointer none, .int .i64 0] 96)) := (((unhide L3).alloc (unhide L3).size _).alloc (by have := (unhide L3).size; simp; omega) _).alloc (by have := (unhide L3).size; simp; omega) _
  simp only [World.size_alloc] at hT0
  obtain ⟨G, hG⟩ : ∃ G, G = w3.heap.size + 1 + 1 := ⟨_, rfl⟩
  have hGw : w.heap.size ≤ G := by omega
  have hGa : w2.heap.size < G := by omega
  have hGl : w3.heap.size < G := by omega
  have hGr : w3.heap.size + 1 < G := by omega
  rw [← hG] at hT0
  have hsz0 : G ≤ (((w3.alloc (.cells #[.int .u32 (L0 : Int), .int .i64 (m : Int)] 88)).alloc (.cells #[.int .u32 (R0 : Int), .int .i64 (m : Int)] 88)).alloc (.cells #[.bool false, .pointer none, .pointer none, .int .i64 0] 96)).heap.size := by rw [hG]; simp
  have HG := hide hG
  have H0 := hide hT0
  have HA0 := hide hA0
  have HL0 := hide hL0
  have HR0 := hide hR0
  have HB0 := hide l0
  have l0 : (((w3.alloc (.cells #[.int .u32 (L0 : Int), .int .i64 (m : Int)] 88)).alloc (.cells #[.int .u32 (R0 : Int), .int .i64 (m : Int)] 88)).alloc (.cells #[.bool false, .pointer none, .pointer none, .int .i64 0] 96)).cell? ⟨w3.heap.size, 0, none⟩ = some (.int .u32 (L0 : Int)) := hL0.cell 0
  have l1 : (((w3.alloc (.cells #[.int .u32 (L0 : Int), .int .i64 (m : Int)] 88)).alloc (.cells #[.int .u32 (R0 : Int), .int .i64 (m : Int)] 88)).alloc (.cells #[.bool false, .pointer none, .pointer none, .int .i64 0] 96)).cell? ⟨w3.heap.size, 1, none⟩ = some (.int .i64 (m : Int)) := hL0.cell 1
  clear hT0 hA0 hL0 hR0 l0 L3 hG XA
  go_wp2_with fail
  rw [← unhide HG]
  refine (put_new (unhide H0) L0 m (unhide HF).L32 (unhide HF).m32 (unhide HF).rL hsz0 (by omega) rfl).mono ?_
  rintro e w4 ⟨rfl, N4, hT4, hF4, _⟩
  rw [(unhide HF).pL] at hT4
  have b4 := hF4.to_below hsz0 (unhide H0).foot_base
  have T4 := hide hT4
  have A4 := hide ((unhide HA0).below b4 hGa)
  have L4 := hide ((unhide HL0).below b4 hGl)
  have R4 := hide ((unhide HR0).below b4 hGr)
  have B4 := hide ((unhide HB0).trans (b4.mono hGw))
  have z4 : G ≤ w4.heap.size := Nat.le_trans hsz0 b4.size
  clear hT4 hF4 b4 H0 HA0 HL0 HR0 HB0 hsz0 l0 l1
  have r0 : w4.cell? ⟨w3.heap.size + 1, 0, none⟩ = some (.int .u32 (R0 : Int)) := (unhide R4).cell 0
  have r1 : w4.cell? ⟨w3.heap.size + 1, 1, none⟩ = some (.int .i64 (m : Int)) := (unhide R4).cell 1
  go_wp2_with fail
  clear r0 r1
  refine (put_new (unhide T4) R0 m (unhide HF).R32 (unhide HF).m32 (unhide HF).rR z4 (by omega) (by rw [(unhide HF).pR, updS_other (by omega)]; rfl)).mono ?_
  rintro e w5 ⟨rfl, N5, hT5, hF5, _⟩
  rw [(unhide HF).pR] at hT5
  have b5 := hF5.to_below z4 (unhide T4).foot_base
  have T5 := hide hT5
  have A5 := hide ((unhide A4).below b5 hGa)
  have L5 := hide ((unhide L4).below b5 hGl)
  have R5 := hide ((unhide R4).below b5 hGr)
  have B5 := hide ((unhide B4).trans (b5.mono hGw))
  have z5 : G ≤ w5.heap.size := Nat.le_trans z4 b5.size
  clear hT5 hF5 b5 T4 A4 L4 R4 B4
  have a0 : w5.cell? ⟨w2.heap.size, 0, none⟩ = some (.int .u32 (A : Int)) := (unhide A5).cell 0
  have a1 : w5.cell? ⟨w2.heap.size, 1, none⟩ = some (.int .i64 (n : Int)) := (unhide A5).cell 1
  have k0 := cell_regrown a0
  have k1 := cell_regrown a1
  have q1 : ∀ d os, Calls Try.prog 50 #[.agg #[.int .u32 (A : Int), .int .i64 (n : Int)]] (grow (redrawn w5 d) os) fun e w' => e = .returned (.int .i64 (P : Int)) ∧ ∃ p : Regrown, w' = grow (redrawn w5 p.d) p.os := fun d os => Calls.regrown_of (unhide HS _)
  have hXP := (unhide HF).XP (at_ % P) (Nat.mod_lt _ (unhide HF).P0)
  obtain ⟨X, hXd⟩ : ∃ X, X = A + at_ % P := ⟨_, rfl⟩
  have hA' := unhide HA
  rw [← hXd] at hXP hA'
  have hpv := hXP.2
  have hX32 := hXP.1
  have hnext := half_next (unhide HF) hpv
  have HXP := hide hpv
  clear hXP hpv hXd
  have q2 : ∀ d os, Calls Try.prog 49 #[.agg #[.int .u32 (A : Int), .int .i64 (n : Int)], .int .i64 ((at_ : Int) % (P : Int))] (grow (redrawn w5 d) os) fun e w' => e = .returned (.tuple #[.int .u32 (X : Int), .bool true]) ∧ ∃ p : Regrown, w' = grow (redrawn w5 p.d) p.os := fun d os => Calls.regrown_of (hA' _)
  have hP0 : 1 ≤ (P : Int) := by have := (unhide HF).P0; omega
  have hP1 : (P : Int) ≤ 4096 := by have := (unhide HF).P31; omega
  have hmo : Try.prog.follows .mixedOrders = true := by kernel_rfl
  have Q1 := hide q1
  have Q2 := hide q2
  clear q1 q2 HS HA a0 a1 hA'
  go_wp2_with fail
  refine wp_region_quiet_below hmo (by kernel_rfl) ?_
  repeat (first | go_big_quiet_step (first | with_reducible exact (unhide Q1) _ _ | with_reducible exact (unhide Q2) _ _) | quiet_step (first | with_reducible exact (unhide Q1) _ _ | with_reducible exact (unhide Q2) _ _))
  refine wpQuiet_nil ?_
  intro _ hw'
  obtain ⟨⟨dq, osq⟩, hw''⟩ := hw'
  subst hw''
  have b6 := below_regrown w5 dq osq
  obtain ⟨w6, h6⟩ : ∃ w6, w6 = grow (redrawn w5 dq) osq := ⟨_, rfl⟩
  rw [← h6] at b6 ⊢
  have T6 := hide ((unhide T5).below b6)
  have A6 := hide ((unhide A5).below b6 (unhide A5).lt)
  have L6 := hide ((unhide L5).below b6 (unhide L5).lt)
  have R6 := hide ((unhide R5).below b6 (unhide R5).lt)
  have B6 := hide ((unhide B5).trans (b6.mono (unhide B5).size))
  have z6 : G ≤ w6.heap.size := Nat.le_trans z5 b6.size
  clear b6 h6 k0 k1 Q1 Q2 hP0 hP1 T5 A5 L5 R5 B5 z5
  go_wp2_with fail
  refine (longest_any (unhide T6) X hX32).mono ?_
  rintro e w7 ⟨o, ho, rfl, b7⟩
  obtain rfl := half_long (unhide HF) (unhide HXP) ho
  have T7 := hide ((unhide T6).below b7)
  have A7 := hide ((unhide A6).below b7 (unhide A6).lt)
  have L7 := hide ((unhide L6).below b7 (unhide L6).lt)
  have R7 := hide ((unhide R6).below b7 (unhide R6).lt)
  have B7 := hide ((unhide B6).trans (b7.mono (unhide B6).size))
  have z7 : G ≤ w7.heap.size := Nat.le_trans z6 b7.size
  have hbase : ∀ {z u : Nat}, Tri.right z (m : Int) = true → Tri.pv z m = u → u * 2 ^ (32 - m) = z := by
    intro z u hz hu
    obtain ⟨_, _, h3⟩ := Tri.right_iff.1 hz
    have := (unhide HF).m32
    rw [show (32 - (m : Int)).toNat = 32 - m from by omega] at h3
    rw [← hu]
    exact (Tri.base_eq h3).symm
  clear b7 ho T6 A6 L6 R6 B6 z6
  -- which half has it
  obtain ⟨right_, D0, hD, hhas⟩ : ∃ (right_ : Bool) (D0 : Nat), longVal X (some m) = .tuple #[.agg #[.int .u32 (D0 : Int), .int .i64 (m : Int)], .bool true] ∧ (Tri.right R0 (m : Int) && decide (Tri.pv X (m : Int).toNat = Tri.pv R0 (m : Int).toNat)) = right_ ∧ D0 = (if right_ then R0 else L0) := by
    rw [(unhide HF).rR, Int.toNat_natCast, (unhide HF).pR]
    rcases hnext with e | e
    · refine ⟨false, L0, ?_, ?_, rfl⟩
      · show Value.tuple #[bl (Tri.pv X m) m, .bool true] = _
        rw [e]
        unfold bl
        rw [hbase (unhide HF).rL (unhide HF).pL]
      · rw [e]; simp
    · refine ⟨true, R0, ?_, ?_, rfl⟩
      · show Value.tuple #[bl (Tri.pv X m) m, .bool true] = _
        rw [e]
        unfold bl
        rw [hbase (unhide HF).rR (unhide HF).pR]
      · rw [e]; simp
  have qh : ∀ W, Calls Try.prog 52 #[.agg #[.int .u32 (R0 : Int), .int .i64 (m : Int)], .int .u32 (X : Int)] W fun e w' => e = .returned (.bool right_) ∧ Below W.heap.size W w' := fun W => hhas.1 ▸ has_addr R0 X m (unhide HF).R32 hX32 W
  rw [hD]
  have hD0 := hhas.2
  have QH := hide qh
  clear hbase hnext qh hD hhas
  have l0 : w7.cell? ⟨w3.heap.size, 0, none⟩ = some (.int .u32 (L0 : Int)) := (unhide L7).cell 0
  have l1 : w7.cell? ⟨w3.heap.size, 1, none⟩ = some (.int .i64 (m : Int)) := (unhide L7).cell 1
  have r0 : w7.cell? ⟨w3.heap.size + 1, 0, none⟩ = some (.int .u32 (R0 : Int)) := (unhide R7).cell 0
  have r1 : w7.cell? ⟨w3.heap.size + 1, 1, none⟩ = some (.int .i64 (m : Int)) := (unhide R7).cell 1
  have za : w3.heap.size < w7.heap.size := by omega
  have zb : w3.heap.size + 1 < w7.heap.size := by omega
  have zc : w2.heap.size < w7.heap.size := by omega
  cases right_
  · obtain rfl : D0 = L0 := by simpa using hD0
    clear hD0
    have YV := hide ((Blk.new w7 88 #[.int .u32 (D0 : Int), .int .i64 (m : Int)]).alloc (.cells #[.int .u32 (D0 : Int), .int .i64 (m : Int)] 88))
    have VV := hide (blk_at (w := w7.alloc (.cells #[.int .u32 (D0 : Int), .int .i64 (m : Int)] 88)) (t := 88) (cs := #[.int .u32 (D0 : Int), .int .i64 (m : Int)]) (g := w7.heap.size + 1) (by simp))
    go_wp2_with fail
    refine (unhide QH _).mono ?_
    rintro e w8 ⟨rfl, b8⟩
    have hz8 : w7.heap.size + 1 + 1 ≤ w8.heap.size := by have := b8.size; simpa using this
    have Y8 := hide ((unhide YV).below b8 (by simp; omega))
    have V8 := hide ((unhide VV).below b8 (by simp))
    have b78 : Below w7.heap.size w7 w8 := (((Below.refl w7.heap.size w7).alloc (Nat.le_refl _) _).alloc (by simp) _).trans (b8.mono (by simp; omega))
    have R8 := hide ((unhide R7).below b78 zb)
    clear b8 l0 l1 r0 r1 QH YV VV L7 R7
    go_upto_region 15 with fail
    obtain ⟨w9, h9⟩ : ∃ w9, w9 = w8 := ⟨_, rfl⟩
    have b89 : Below (w7.heap.size + 1) w8 w9 := by rw [h9]; exact Below.refl _ _
    have V9 : Blk w9 (w7.heap.size + 1) 88 #[.int .u32 (D0 : Int), .int .i64 (m : Int)] := by rw [h9]; exact unhide V8
    rw [← h9]
    have b79 := b78.trans (b89.mono (Nat.le_succ _))
    have T9 := hide ((unhide T7).below b79)
    have A9 := hide ((unhide A7).below b79 zc)
    have Y9 := hide ((unhide Y8).below b89 (Nat.lt_succ_self _))
    have V9' := hide V9
    have B9 := hide ((unhide B7).trans (b79.mono (unhide B7).size))
    have z9 : w7.heap.size + 1 < w9.heap.size := V9.lt
    have z9a : w7.heap.size < w9.heap.size := by omega
    have z9b : w2.heap.size < w9.heap.size := by omega
    have z9g : G ≤ w9.heap.size := by omega
    clear b78 b89 b79 V9 h9 T7 A7 B7 Y8 V8 R8 hz8
    have a0 : w9.cell? ⟨w2.heap.size, 0, none⟩ = some (.int .u32 (A : Int)) := (unhide A9).cell 0
    have a1 : w9.cell? ⟨w2.heap.size, 1, none⟩ = some (.int .i64 (n : Int)) := (unhide A9).cell 1
    have y0 : w9.cell? ⟨w7.heap.size, 0, none⟩ = some (.int .u32 (D0 : Int)) := (unhide Y9).cell 0
    have y1 : w9.cell? ⟨w7.heap.size, 1, none⟩ = some (.int .i64 (m : Int)) := (unhide Y9).cell 1
    have v0 : w9.cell? ⟨w7.heap.size + 1, 0, none⟩ = some (.int .u32 (D0 : Int)) := (unhide V9').cell 0
    have v1 : w9.cell? ⟨w7.heap.size + 1, 1, none⟩ = some (.int .i64 (m : Int)) := (unhide V9').cell 1
    go_region
    go_wp2_with fail
    have B10 := hide (((unhide B9).alloc (by omega) (.cells #[.int .u32 (BS : Int), .int .i64 (n : Int)] 88)).drew)
    have S10 := hide ((Blk.new w9 88 #[.int .u32 (BS : Int), .int .i64 (n : Int)]).drew)
    have A10 := hide (((unhide A9).alloc (.cells #[.int .u32 (BS : Int), .int .i64 (n : Int)] 88)).drew)
    refine (over_val ((unhide T9).below (((Below.refl w9.heap.size w9).alloc (Nat.le_refl _) _).drew)) A n (unhide HF).A32 hn32 (unhide HF).rA true ⟨fun _ => half_over (unhide HF), fun _ => rfl⟩).mono ?_
    rintro e w11 ⟨rfl, b11⟩
    have T11 := hide (((unhide T9).below (((Below.refl w9.heap.size w9).alloc (Nat.le_refl _) _).drew)).below b11)
    have S11 := hide ((unhide S10).below b11 (unhide S10).lt)
    have A11 := hide ((unhide A10).below b11 (unhide A10).lt)
    have B11 := hide ((unhide B10).trans (b11.mono (unhide B10).size))
    have z11 : G ≤ w11.heap.size := by have := b11.size; simp at this; omega
    clear b11 S10 A10 B10 T9 A9 Y9 V9' B9 a0 a1 y0 y1 v0 v1
    have s0 : w11.cell? ⟨w9.heap.size, 0, none⟩ = some (.int .u32 (BS : Int)) := (unhide S11).cell 0
    have s1 : w11.cell? ⟨w9.heap.size, 1, none⟩ = some (.int .i64 (n : Int)) := (unhide S11).cell 1
    go_wp2_with fail
    clear s0 s1
    refine (over_val (unhide T11) BS n (unhide HF).B32 hn32 (unhide HF).rB false ⟨(by intro h; cases h), fun h => absurd h (half_beside (unhide HF))⟩).mono ?_
    rintro e w12 ⟨rfl, b12⟩
    have T12 := hide ((unhide T11).below b12)
    have A12 := hide ((unhide A11).below b12 (unhide A11).lt)
    have B12 := hide ((unhide B11).trans (b12.mono (unhide B11).size))
    have z12 : G ≤ w12.heap.size := Nat.le_trans z11 b12.size
    clear b12 S11 A11 B11 T11
    have a0 : w12.cell? ⟨w2.heap.size, 0, none⟩ = some (.int .u32 (A : Int)) := (unhide A12).cell 0
    have a1 : w12.cell? ⟨w2.heap.size, 1, none⟩ = some (.int .i64 (n : Int)) := (unhide A12).cell 1
    go_wp2_with fail
    clear a0 a1
    refine ((half_has (unhide HF)) ▸ has_any (unhide T12) A n (unhide HF).A32).mono ?_
    rintro e w13 ⟨rfl, b13⟩
    have T13 := hide ((unhide T12).below b13)
    have A13 := hide ((unhide A12).below b13 (unhide A12).lt)
    have B13 := hide ((unhide B12).trans (b13.mono (unhide B12).size))
    have z13 : G ≤ w13.heap.size := Nat.le_trans z12 b13.size
    clear b13 A12 B12 T12
    have a0 : w13.cell? ⟨w2.heap.size, 0, none⟩ = some (.int .u32 (A : Int)) := (unhide A13).cell 0
    have a1 : w13.cell? ⟨w2.heap.size, 1, none⟩ = some (.int .i64 (n : Int)) := (unhide A13).cell 1
    go_wp2_with fail
    clear a0 a1
    refine (put_new (unhide T13) A n (unhide HF).A32 hn32 (unhide HF).rA z13 (by omega) (by have := half_has (unhide HF); unfold hasF at this; rwa [(unhide HF).rA, Bool.true_and, Int.toNat_natCast] at this)).mono ?_
    rintro e w14 ⟨rfl, N14, hT14, hF14, _⟩
    have b14 := hF14.to_below z13 (unhide T13).foot_base
    have T14 := hide hT14
    have B14 := hide ((unhide B13).trans (b14.mono hGw))
    clear hT14 hF14 b14 A13 B13 T13
    go_wp2_with (go_at_call 47; refine (len_any (unhide T14)).mono ?_; rintro e w' ⟨rfl, rfl⟩)
    go_ret
    exact ⟨rfl, unhide B14⟩
  · obtain rfl : D0 = R0 := by simpa using hD0
    clear hD0
    have YV := hide ((Blk.new w7 88 #[.int .u32 (D0 : Int), .int .i64 (m : Int)]).alloc (.cells #[.int .u32 (L0 : Int), .int .i64 (m : Int)] 88))
    have VV := hide (blk_at (w := w7.alloc (.cells #[.int .u32 (D0 : Int), .int .i64 (m : Int)] 88)) (t := 88) (cs := #[.int .u32 (L0 : Int), .int .i64 (m : Int)]) (g := w7.heap.size + 1) (by simp))
    go_wp2_with fail
    refine (unhide QH _).mono ?_
    rintro e w8 ⟨rfl, b8⟩
    have hz8 : w7.heap.size + 1 + 1 ≤ w8.heap.size := by have := b8.size; simpa using this
    have Y8 := hide ((unhide YV).below b8 (by simp; omega))
    have V8 := hide ((unhide VV).below b8 (by simp))
    have b78 : Below w7.heap.size w7 w8 := (((Below.refl w7.heap.size w7).alloc (Nat.le_refl _) _).alloc (by simp) _).trans (b8.mono (by simp; omega))
    have R8 := hide ((unhide R7).below b78 zb)
    clear b8 l0 l1 r0 r1 QH YV VV L7 R7
    have r0 : w8.cell? ⟨w3.heap.size + 1, 0, none⟩ = some (.int .u32 (D0 : Int)) := (unhide R8).cell 0
    have r1 : w8.cell? ⟨w3.heap.size + 1, 1, none⟩ = some (.int .i64 (m : Int)) := (unhide R8).cell 1
    have v0 : w8.cell? ⟨w7.heap.size + 1, 0, none⟩ = some (.int .u32 (L0 : Int)) := (unhide V8).cell 0
    have v1 : w8.cell? ⟨w7.heap.size + 1, 1, none⟩ = some (.int .i64 (m : Int)) := (unhide V8).cell 1
    have vf0 : w8.frozen? ⟨w7.heap.size + 1, 0, none⟩ = false := (unhide V8).frozen 0
    have vf1 : w8.frozen? ⟨w7.heap.size + 1, 1, none⟩ = false := (unhide V8).frozen 1
    have b89 : Below (w7.heap.size + 1) w8 ((w8.setCell ⟨w7.heap.size + 1, 0, none⟩ (.int .u32 (D0 : Int))).setCell ⟨w7.heap.size + 1, 1, none⟩ (.int .i64 (m : Int))) := ((Below.refl _ _).setCell (by simp) _).setCell (by simp) _
    have V9 : Blk ((w8.setCell ⟨w7.heap.size + 1, 0, none⟩ (.int .u32 (D0 : Int))).setCell ⟨w7.heap.size + 1, 1, none⟩ (.int .i64 (m : Int))) (w7.heap.size + 1) 88 #[.int .u32 (D0 : Int), .int .i64 (m : Int)] := ((unhide V8).store 0 _).store 1 _
    go_upto_region 15 with fail
    obtain ⟨w9, h9⟩ : ∃ w9, w9 = ((w8.setCell ⟨w7.heap.size + 1, 0, none⟩ (.int .u32 (D0 : Int))).setCell ⟨w7.heap.size + 1, 1, none⟩ (.int .i64 (m : Int))) := ⟨_, rfl⟩
    rw [← h9] at b89 V9 ⊢
    have b79 := b78.trans (b89.mono (Nat.le_succ _))
    have T9 := hide ((unhide T7).below b79)
    have A9 := hide ((unhide A7).below b79 zc)
    have Y9 := hide ((unhide Y8).below b89 (Nat.lt_succ_self _))
    have V9' := hide V9
    have B9 := hide ((unhide B7).trans (b79.mono (unhide B7).size))
    have z9 : w7.heap.size + 1 < w9.heap.size := V9.lt
    have z9a : w7.heap.size < w9.heap.size := by omega
    have z9b : w2.heap.size < w9.heap.size := by omega
    have z9g : G ≤ w9.heap.size := by omega
    clear b78 b89 b79 V9 h9 T7 A7 B7 Y8 V8 R8 hz8
    have a0 : w9.cell? ⟨w2.heap.size, 0, none⟩ = some (.int .u32 (A : Int)) := (unhide A9).cell 0
    have a1 : w9.cell? ⟨w2.heap.size, 1, none⟩ = some (.int .i64 (n : Int)) := (unhide A9).cell 1
    have y0 : w9.cell? ⟨w7.heap.size, 0, none⟩ = some (.int .u32 (D0 : Int)) := (unhide Y9).cell 0
    have y1 : w9.cell? ⟨w7.heap.size, 1, none⟩ = some (.int .i64 (m : Int)) := (unhide Y9).cell 1
    have v0 : w9.cell? ⟨w7.heap.size + 1, 0, none⟩ = some (.int .u32 (D0 : Int)) := (unhide V9').cell 0
    have v1 : w9.cell? ⟨w7.heap.size + 1, 1, none⟩ = some (.int .i64 (m : Int)) := (unhide V9').cell 1
    go_region
    go_wp2_with fail
    have B10 := hide (((unhide B9).alloc (by omega) (.cells #[.int .u32 (BS : Int), .int .i64 (n : Int)] 88)).drew)
    have S10 := hide ((Blk.new w9 88 #[.int .u32 (BS : Int), .int .i64 (n : Int)]).drew)
    have A10 := hide (((unhide A9).alloc (.cells #[.int .u32 (BS : Int), .int .i64 (n : Int)] 88)).drew)
    refine (over_val ((unhide T9).below (((Below.refl w9.heap.size w9).alloc (Nat.le_refl _) _).drew)) A n (unhide HF).A32 hn32 (unhide HF).rA true ⟨fun _ => half_over (unhide HF), fun _ => rfl⟩).mono ?_
    rintro e w11 ⟨rfl, b11⟩
    have T11 := hide (((unhide T9).below (((Below.refl w9.heap.size w9).alloc (Nat.le_refl _) _).drew)).below b11)
    have S11 := hide ((unhide S10).below b11 (unhide S10).lt)
    have A11 := hide ((unhide A10).below b11 (unhide A10).lt)
    have B11 := hide ((unhide B10).trans (b11.mono (unhide B10).size))
    have z11 : G ≤ w11.heap.size := by have := b11.size; simp at this; omega
    clear b11 S10 A10 B10 T9 A9 Y9 V9' B9 a0 a1 y0 y1 v0 v1
    have s0 : w11.cell? ⟨w9.heap.size, 0, none⟩ = some (.int .u32 (BS : Int)) := (unhide S11).cell 0
    have s1 : w11.cell? ⟨w9.heap.size, 1, none⟩ = some (.int .i64 (n : Int)) := (unhide S11).cell 1
    go_wp2_with fail
    clear s0 s1
    refine (over_val (unhide T11) BS n (unhide HF).B32 hn32 (unhide HF).rB false ⟨(by intro h; cases h), fun h => absurd h (half_beside (unhide HF))⟩).mono ?_
    rintro e w12 ⟨rfl, b12⟩
    have T12 := hide ((unhide T11).below b12)
    have A12 := hide ((unhide A11).below b12 (unhide A11).lt)
    have B12 := hide ((unhide B11).trans (b12.mono (unhide B11).size))
    have z12 : G ≤ w12.heap.size := Nat.le_trans z11 b12.size
    clear b12 S11 A11 B11 T11
    have a0 : w12.cell? ⟨w2.heap.size, 0, none⟩ = some (.int .u32 (A : Int)) := (unhide A12).cell 0
    have a1 : w12.cell? ⟨w2.heap.size, 1, none⟩ = some (.int .i64 (n : Int)) := (unhide A12).cell 1
    go_wp2_with fail
    clear a0 a1
    refine ((half_has (unhide HF)) ▸ has_any (unhide T12) A n (unhide HF).A32).mono ?_
    rintro e w13 ⟨rfl, b13⟩
    have T13 := hide ((unhide T12).below b13)
    have A13 := hide ((unhide A12).below b13 (unhide A12).lt)
    have B13 := hide ((unhide B12).trans (b13.mono (unhide B12).size))
    have z13 : G ≤ w13.heap.size := Nat.le_trans z12 b13.size
    clear b13 A12 B12 T12
    have a0 : w13.cell? ⟨w2.heap.size, 0, none⟩ = some (.int .u32 (A : Int)) := (unhide A13).cell 0
    have a1 : w13.cell? ⟨w2.heap.size, 1, none⟩ = some (.int .i64 (n : Int)) := (unhide A13).cell 1
    go_wp2_with fail
    clear a0 a1
    refine (put_new (unhide T13) A n (unhide HF).A32 hn32 (unhide HF).rA z13 (by omega) (by have := half_has (unhide HF); unfold hasF at this; rwa [(unhide HF).rA, Bool.true_and, Int.toNat_natCast] at this)).mono ?_
    rintro e w14 ⟨rfl, N14, hT14, hF14, _⟩
    have b14 := hF14.to_below z13 (unhide T13).foot_base
    have T14 := hide hT14
    have B14 := hide ((unhide B13).trans (b14.mono hGw))
    clear hT14 hF14 b14 A13 B13 T13
    go_wp2_with (go_at_call 47; refine (len_any (unhide T14)).mono ?_; rintro e w' ⟨rfl, rfl⟩)
    go_ret
    exact ⟨rfl, unhide B14⟩
end Go.Proofs.Ytlpmjkbpcobgdaa

/-
  The walk of TrieTwo.
-/
import Derived.Test.YtlpmjkbpcobgdaaTriAwake
namespace Go.Proofs.Ytlpmjkbpcobgdaa
open Go.RowKit Go.Sort

/-- Some prefix that is one. -/
def SomeBlock (w : World) (e : Ending) (w' : World) : Prop := ∃ A n : Nat, A < 4294967296 ∧ n ≤ 32 ∧ 20 ≤ n ∧ Tri.right A (n : Int) = true ∧ e = .returned (.agg #[.int .u32 (A : Int), .int .i64 (n : Int)]) ∧ Below w.heap.size w w'
theorem block01_some (a bits : Nat) (ha : a < 4294967296) (hb : bits < 256) (w : World) : Calls Try.prog 40 #[.int .u32 (a : Int), .int .u8 (bits : Int)] w (SomeBlock w) :=
  (block01 a bits ha hb w).mono fun _ _ h => ⟨_, 20 + bits % 13, Tri.base_lt (by omega) (Tri.pv_lt ha (by omega)), by omega, by omega, right_bl (by omega), h.1, h.2⟩

theorem over_is {A1 n1 A2 n2 : Nat} (h1 : n1 ≤ 32) (r1 : Tri.right A1 (n1 : Int) = true) (r2 : Tri.right A2 (n2 : Int) = true) : overlap A1 n1 A2 n2 = true ↔ OverP (updS S0 n1 (Tri.pv A1 n1) true) A2 n2 := by
  have hS : ∀ k v, updS S0 n1 (Tri.pv A1 n1) true k v = true ↔ k = n1 ∧ v = Tri.pv A1 n1 := by
    intro k v
    unfold updS S0
    split <;> simp_all
  unfold overlap within OverP
  rw [r1, r2]
  simp only [Bool.true_and, Bool.or_eq_true, Bool.and_eq_true, decide_eq_true_eq, hS, Int.toNat_natCast]
  constructor
  · rintro (⟨h3, h4⟩ | ⟨h3, h4⟩)
    · exact .inr ⟨n1, _, by omega, ⟨rfl, rfl⟩, by rw [Tri.pv_div (by omega) h1]; exact h4⟩
    · exact .inl ⟨n1, by omega, rfl, h4⟩
  · rintro (⟨k, h3, rfl, h4⟩ | ⟨k, v, h3, ⟨rfl, rfl⟩, h4⟩)
    · exact .inr ⟨by omega, h4⟩
    · rw [Tri.pv_div h3 h1] at h4
      exact .inl ⟨by omega, h4⟩

/-- Overlaps, its answer as a Bool. -/
theorem over_val {w : World} {B g c : Nat} {N : Nat → Nat → Option Nat} {S : Nat → Nat → Bool} (hT : TrieAt w B g N S c) (a n : Nat) (ha : a < 4294967296) (hn : n ≤ 32) (hr : Tri.right a (n : Int) = true) (r : Bool) (hv : r = true ↔ OverP S a n) :
    Calls Try.prog 41 #[.pointer (some ⟨g, 0, none⟩), .agg #[.int .u32 (a : Int), .int .i64 (n : Int)]] w fun e w' => e = .returned (.bool r) ∧ Below w.heap.size w w' :=
  (over_right hT a n ha hn hr).mono fun e w' ⟨q, h1, h2, h3⟩ => ⟨by rw [h1, show q = r from by rw [Bool.eq_iff_iff, h2, hv]], h3⟩

set_option maxRecDepth 100000 in
set_option maxHeartbeats 2000000 in
theorem two_any (a bt c more : Nat) (ha : a < 4294967296) (hbits : bt < 256) (hc : c < 4294967296) (hmore : more < 256) (w : World) :
    Calls Try.prog 7 #[.int .u32 (a : Int), .int .u8 (bt : Int), .int .u32 (c : Int), .int .u8 (more : Int)] w fun e w' => e = .returned (.bool true) ∧ Below w.heap.size w w' := by
  have hx : bits BinOp.xor IntKind.u32 (a : Int) ((c : Int) % 512) = ((a ^^^ (c % 512) : Nat) : Int) := by
    have := u32_xor_nat a (c % 512) ha (by omega)
    simpa using this
  have hxl : a ^^^ (c % 512) < 4294967296 := by
    have := Nat.xor_lt_two_pow (n := 32) (x := a) (y := c % 512) (by omega) (by omega)
    simpa using this
  obtain ⟨a2, ha2⟩ : ∃ a2, a2 = a ^^^ (c % 512) := ⟨_, rfl⟩
  rw [← ha2] at hx hxl
  have B1 := fun W => block01_some a bt ha hbits W
  have B2 := fun W => block01_some a2 more hxl hmore W
  have HB1 := hide B1
  have HB2 := hide B2
  clear B1 B2 ha2
  go_enter Try.func7, Try.ntmps7
  go_wp2_with fail
  refine (trie_awake _).mono ?_
  rintro e w1 ⟨rfl, hb1⟩
  have L1 := hide hb1
  clear hb1
  go_wp2_with fail
  refine (unhide HB1 _).mono ?_
  rintro e w2 ⟨A1, n1, hA1, hn1, hm1, hr1, rfl, hb2⟩
  have L2 := hide ((unhide L1).trans (hb2.mono (unhide L1).size))
  clear hb2 L1
  go_wp2_with fail
  refine (unhide HB2 _).mono ?_
  rintro e w3 ⟨A2, n2, hA2, hn2, hm2, hr2, rfl, hb3⟩
  have L3 := hide ((unhide L2).trans (hb3.mono (unhide L2).size))
  clear hb3 L2
  have hT0 := trie_new ((w3.alloc (.cells #[.int .u32 (A1 : Int), .int .i64 (n1 : Int)] 88)).alloc (.cells #[.int .u32 (A2 : Int), .int .i64 (n2 : Int)] 88))
  have hX0 : Blk (((w3.alloc (.cells #[.int .u32 (A1 : Int), .int .i64 (n1 : Int)] 88)).alloc (.cells #[.int .u32 (A2 : Int), .int .i64 (n2 : Int)] 88)).alloc (.cells #[.bool false, .pointer none, .pointer none, .int .i64 0] 96)) w3.heap.size 88 #[.int .u32 (A1 : Int), .int .i64 (n1 : Int)] := ((Blk.new w3 _ _).alloc _).alloc _
  have hY0 : Blk (((w3.alloc (.cells #[.int .u32 (A1 : Int), .int .i64 (n1 : Int)] 88)).alloc (.cells #[.int .u32 (A2 : Int), .int .i64 (n2 : Int)] 88)).alloc (.cells #[.bool false, .pointer none, .pointer none, .int .i64 0] 96)) (w3.heap.size + 1) 88 #[.int .u32 (A2 : Int), .int .i64 (n2 : Int)] := (Blk.new_at (w := w3.alloc _) (by simp)).alloc _
  have L0 : Below w.heap.size w (((w3.alloc (.cells #[.int .u32 (A1 : Int), .int .i64 (n1 : Int)] 88)).alloc (.cells #[.int .u32 (A2 : Int), .int .i64 (n2 : Int)] 88)).alloc (.cells #[.bool false, .pointer none, .pointer none, .int .i64 0] 96)) := (((unhide L3).alloc (unhide L3).size _).alloc (by have := (unhide L3).size; simp; omega) _).alloc (by have := (unhide L3).size; simp; omega) _
  simp only [World.size_alloc] at hT0
  obtain ⟨G, hG⟩ : ∃ G, G = w3.heap.size + 1 + 1 := ⟨_, rfl⟩
  have hGw : w.heap.size ≤ G := by have := (unhide L3).size; omega
  have hGx : w3.heap.size < G := by omega
  have hGy : w3.heap.size + 1 < G := by omega
  rw [← hG] at hT0
  have HG := hide hG
  have H0 := hide hT0
  have HX0 := hide hX0
  have HY0 := hide hY0
  have HL0 := hide L0
  clear hT0 hX0 hY0 L0 L3 hG
  go_wp2_with fail
  rw [← unhide HG]
  have hsz0 : G ≤ (((w3.alloc (.cells #[.int .u32 (A1 : Int), .int .i64 (n1 : Int)] 88)).alloc (.cells #[.int .u32 (A2 : Int), .int .i64 (n2 : Int)] 88)).alloc (.cells #[.bool false, .pointer none, .pointer none, .int .i64 0] 96)).heap.size := by have := unhide HG; simp; omega
  refine (over_val (unhide H0) A2 n2 hA2 hn2 hr2 false ⟨(by intro h; cases h), fun h => by rcases h with ⟨k, _, h⟩ | ⟨k, v, _, h, _⟩ <;> cases h⟩).mono ?_
  rintro e w4 ⟨rfl, hb4⟩
  have T4 := hide ((unhide H0).below hb4)
  have X4 := hide ((unhide HX0).below hb4 (unhide HX0).lt)
  have Y4 := hide ((unhide HY0).below hb4 (unhide HY0).lt)
  have L4 := hide ((unhide HL0).trans (hb4.mono (unhide HL0).size))
  have z4 : G ≤ w4.heap.size := Nat.le_trans hsz0 hb4.size
  have x0 : w4.cell? ⟨w3.heap.size, 0, none⟩ = some (.int .u32 (A1 : Int)) := (unhide X4).cell 0
  have x1 : w4.cell? ⟨w3.heap.size, 1, none⟩ = some (.int .i64 (n1 : Int)) := (unhide X4).cell 1
  have y0 : w4.cell? ⟨w3.heap.size + 1, 0, none⟩ = some (.int .u32 (A2 : Int)) := (unhide Y4).cell 0
  have y1 : w4.cell? ⟨w3.heap.size + 1, 1, none⟩ = some (.int .i64 (n2 : Int)) := (unhide Y4).cell 1
  clear hb4 H0 HX0 HY0 HL0 hsz0
  go_wp2_with fail
  clear x0 x1 y0 y1
  refine (put_new (unhide T4) A1 n1 hA1 hn1 hr1 z4 (by omega) rfl).mono ?_
  rintro e w5 ⟨rfl, N5, hT5, hF5, _⟩
  have b5 := hF5.to_below z4 (unhide T4).foot_base
  have T5 := hide hT5
  have X5 := hide ((unhide X4).below b5 hGx)
  have Y5 := hide ((unhide Y4).below b5 hGy)
  have L5 := hide ((unhide L4).trans (b5.mono hGw))
  have z5 : G ≤ w5.heap.size := Nat.le_trans z4 b5.size
  have x0 : w5.cell? ⟨w3.heap.size, 0, none⟩ = some (.int .u32 (A1 : Int)) := (unhide X5).cell 0
  have x1 : w5.cell? ⟨w3.heap.size, 1, none⟩ = some (.int .i64 (n1 : Int)) := (unhide X5).cell 1
  have y0 : w5.cell? ⟨w3.heap.size + 1, 0, none⟩ = some (.int .u32 (A2 : Int)) := (unhide Y5).cell 0
  have y1 : w5.cell? ⟨w3.heap.size + 1, 1, none⟩ = some (.int .i64 (n2 : Int)) := (unhide Y5).cell 1
  clear hT5 hF5 b5 T4 X4 Y4 L4
  go_wp2_with fail
  clear x0 x1 y0 y1
  refine (put_taken (unhide T5) A1 n1 hA1 hn1 hr1 z5 (by omega) (updS_same _ _ _ _)).mono ?_
  rintro e w6 ⟨rfl, N6, hT6, hF6, _⟩
  have b6 := hF6.to_below z5 (unhide T5).foot_base
  have T6 := hide hT6
  have X6 := hide ((unhide X5).below b6 hGx)
  have Y6 := hide ((unhide Y5).below b6 hGy)
  have L6 := hide ((unhide L5).trans (b6.mono hGw))
  have z6 : G ≤ w6.heap.size := Nat.le_trans z5 b6.size
  have x0 : w6.cell? ⟨w3.heap.size, 0, none⟩ = some (.int .u32 (A1 : Int)) := (unhide X6).cell 0
  have x1 : w6.cell? ⟨w3.heap.size, 1, none⟩ = some (.int .i64 (n1 : Int)) := (unhide X6).cell 1
  have y0 : w6.cell? ⟨w3.heap.size + 1, 0, none⟩ = some (.int .u32 (A2 : Int)) := (unhide Y6).cell 0
  have y1 : w6.cell? ⟨w3.heap.size + 1, 1, none⟩ = some (.int .i64 (n2 : Int)) := (unhide Y6).cell 1
  clear hT6 hF6 b6 T5 X5 Y5 L5
  have k0 := cell_regrown x0
  have k1 := cell_regrown x1
  have k2 := cell_regrown y0
  have k3 := cell_regrown y1
  have hmo : Try.prog.follows .mixedOrders = true := by kernel_rfl
  obtain ⟨r, hov⟩ : ∃ r, overlap A1 n1 A2 n2 = r := ⟨_, rfl⟩
  have hor : (r = true) ↔ OverP (updS S0 n1 (Tri.pv A1 n1) true) A2 n2 := by rw [← over_is hn1 hr1 hr2, hov]
  have q1 : ∀ d os, Calls Try.prog 41 #[.pointer (some ⟨G, 0, none⟩), .agg #[.int .u32 (A2 : Int), .int .i64 (n2 : Int)]] (grow (redrawn w6 d) os) fun e w' => e = .returned (.bool r) ∧ ∃ p : Regrown, w' = grow (redrawn w6 p.d) p.os := fun d os => Calls.regrown_of (over_val ((unhide T6).below (below_regrown w6 d os)) A2 n2 hA2 hn2 hr2 r hor)
  have q2 : ∀ d os, Calls Try.prog 43 #[.agg #[.int .u32 (A1 : Int), .int .i64 (n1 : Int)], .agg #[.int .u32 (A2 : Int), .int .i64 (n2 : Int)]] (grow (redrawn w6 d) os) fun e w' => e = .returned (.bool r) ∧ ∃ p : Regrown, w' = grow (redrawn w6 p.d) p.os := fun d os => Calls.regrown_of (hov ▸ overlap_block A1 A2 n1 n2 hA1 hA2 _)
  have hown : OverP (updS S0 n1 (Tri.pv A1 n1) true) A1 n1 := .inl ⟨n1, Nat.le_refl _, updS_same _ _ _ _⟩
  have q4 : ∀ d os, Calls Try.prog 41 #[.pointer (some ⟨G, 0, none⟩), .agg #[.int .u32 (A1 : Int), .int .i64 (n1 : Int)]] (grow (redrawn w6 d) os) fun e w' => e = .returned (.bool true) ∧ ∃ p : Regrown, w' = grow (redrawn w6 p.d) p.os := fun d os => Calls.regrown_of (over_val ((unhide T6).below (below_regrown w6 d os)) A1 n1 hA1 hn1 hr1 true ⟨fun _ => hown, fun _ => rfl⟩)
  have Q1 := hide q1
  have Q2 := hide q2
  have Q4 := hide q4
  clear q1 q2 q4 hor hown x0 x1 y0 y1
  by_cases heq : A1 = A2 ∧ n1 = n2
  · obtain ⟨rfl, rfl⟩ := heq
    have hh : hasF (updS S0 n1 (Tri.pv A1 n1) true) A1 (n1 : Int) = true := by
      unfold hasF
      rw [hr1, Int.toNat_natCast, Bool.true_and, updS_same]
    have hrt : r = true := by rw [← hov]; unfold overlap within; rw [hr1]; simp
    subst hrt
    have q3 : ∀ d os, Calls Try.prog 44 #[.pointer (some ⟨G, 0, none⟩), .agg #[.int .u32 (A1 : Int), .int .i64 (n1 : Int)]] (grow (redrawn w6 d) os) fun e w' => e = .returned (.bool true) ∧ ∃ p : Regrown, w' = grow (redrawn w6 p.d) p.os := fun d os => Calls.regrown_of (hh ▸ has_any ((unhide T6).below (below_regrown w6 d os)) A1 n1 hA1)
    have Q3 := hide q3
    have HNEW := hide (updS_same S0 n1 (Tri.pv A1 n1) true)
    clear q3 hh hov
    go_wp2_with fail
    refine wp_region_quiet_below hmo (by kernel_rfl) ?_
    repeat (first | go_big_quiet_step (first | with_reducible exact (unhide Q1) _ _ | with_reducible exact (unhide Q2) _ _ | with_reducible exact (unhide Q3) _ _ | with_reducible exact (unhide Q4) _ _) | quiet_step (first | with_reducible exact (unhide Q1) _ _ | with_reducible exact (unhide Q2) _ _ | with_reducible exact (unhide Q3) _ _ | with_reducible exact (unhide Q4) _ _))
    refine wpQuiet_nil ?_
    intro _ hw'
    obtain ⟨⟨dq, osq⟩, hw''⟩ := hw'
    subst hw''
    have b7 := below_regrown w6 dq osq
    obtain ⟨w7, h7⟩ : ∃ w7, w7 = grow (redrawn w6 dq) osq := ⟨_, rfl⟩
    rw [← h7] at b7 ⊢
    have T7 := hide ((unhide T6).below b7)
    have X7 := hide ((unhide X6).below b7 (unhide X6).lt)
    have Y7 := hide ((unhide Y6).below b7 (unhide Y6).lt)
    have L7 := hide ((unhide L6).trans (b7.mono (unhide L6).size))
    have z7 : G ≤ w7.heap.size := Nat.le_trans z6 b7.size
    have x0 : w7.cell? ⟨w3.heap.size, 0, none⟩ = some (.int .u32 (A1 : Int)) := (unhide X7).cell 0
    have x1 : w7.cell? ⟨w3.heap.size, 1, none⟩ = some (.int .i64 (n1 : Int)) := (unhide X7).cell 1
    have y0 : w7.cell? ⟨w3.heap.size + 1, 0, none⟩ = some (.int .u32 (A1 : Int)) := (unhide Y7).cell 0
    have y1 : w7.cell? ⟨w3.heap.size + 1, 1, none⟩ = some (.int .i64 (n1 : Int)) := (unhide Y7).cell 1
    clear b7 h7 k0 k1 k2 k3 Q1 Q2 Q3 Q4
    go_wp2_with fail
    go_region_held3 (fun w' => Below G w7 w' ∧ w'.cell? ⟨w3.heap.size, 0, none⟩ = some (.int .u32 (A1 : Int)) ∧ w'.cell? ⟨w3.heap.size, 1, none⟩ = some (.int .i64 (n1 : Int)) ∧ w'.cell? ⟨w3.heap.size + 1, 0, none⟩ = some (.int .u32 (A1 : Int)) ∧ w'.cell? ⟨w3.heap.size + 1, 1, none⟩ = some (.int .i64 (n1 : Int)))
      (first | exact ⟨(Below.refl _ _).drew, x0, x1, y0, y1⟩ | exact ⟨b8, (b8.cell hGx).trans x0, (b8.cell hGx).trans x1, (b8.cell hGy).trans y0, (b8.cell hGy).trans y1⟩)
      (first | (go_at_call 42; refine (put_taken ((unhide T7).below (Below.refl _ _).drew) A1 n1 hA2 hn2 hr2 z7 (by omega) (unhide HNEW)).mono ?_; rintro e w8 ⟨rfl, N8, hT8, hF8, _⟩; have b8 : Below G w7 w8 := (Below.refl G w7).drew.trans (hF8.to_below z7 (unhide T7).foot_base)))
    all_goals
      go_wp2_with fail
      go_ret
      exact ⟨rfl, (unhide L7).trans (b8.mono hGw)⟩
  · have hnew : updS S0 n1 (Tri.pv A1 n1) true n2 (Tri.pv A2 n2) = false := by
      unfold updS S0
      split
      · rename_i h
        obtain ⟨r1, r2, r3⟩ := Tri.right_iff.1 hr1
        obtain ⟨s1, s2, s3⟩ := Tri.right_iff.1 hr2
        rw [show (32 - (n1 : Int)).toNat = 32 - n1 from by omega] at r3
        rw [show (32 - (n2 : Int)).toNat = 32 - n2 from by omega] at s3
        obtain ⟨rfl, h4⟩ := h
        exact absurd ⟨(Tri.base_inj r3 s3 h4.symm), rfl⟩ heq
      · rfl
    have hh : hasF (updS S0 n1 (Tri.pv A1 n1) true) A2 (n2 : Int) = false := by
      unfold hasF
      rw [hr2, Int.toNat_natCast, Bool.true_and]
      exact hnew
    have q3 : ∀ d os, Calls Try.prog 44 #[.pointer (some ⟨G, 0, none⟩), .agg #[.int .u32 (A2 : Int), .int .i64 (n2 : Int)]] (grow (redrawn w6 d) os) fun e w' => e = .returned (.bool false) ∧ ∃ p : Regrown, w' = grow (redrawn w6 p.d) p.os := fun d os => Calls.regrown_of (hh ▸ has_any ((unhide T6).below (below_regrown w6 d os)) A2 n2 hA2)
    have Q3 := hide q3
    have HNEW := hide hnew
    clear q3 hh hov hnew
    by_cases hA : A1 = A2
    · subst hA
      have hnn : ¬ ((n1 : Int) = (n2 : Int)) := fun h => heq ⟨rfl, by omega⟩
      clear heq
      cases r
      all_goals
        go_wp2_with fail
        refine wp_region_quiet_below hmo (by kernel_rfl) ?_
        repeat (first | go_big_quiet_step (first | with_reducible exact (unhide Q1) _ _ | with_reducible exact (unhide Q2) _ _ | with_reducible exact (unhide Q3) _ _ | with_reducible exact (unhide Q4) _ _) | quiet_step (first | with_reducible exact (unhide Q1) _ _ | with_reducible exact (unhide Q2) _ _ | with_reducible exact (unhide Q3) _ _ | with_reducible exact (unhide Q4) _ _))
        refine wpQuiet_nil ?_
        intro _ hw'
        obtain ⟨⟨dq, osq⟩, hw''⟩ := hw'
        subst hw''
        have b7 := below_regrown w6 dq osq
        obtain ⟨w7, h7⟩ : ∃ w7, w7 = grow (redrawn w6 dq) osq := ⟨_, rfl⟩
        rw [← h7] at b7 ⊢
        have T7 := hide ((unhide T6).below b7)
        have X7 := hide ((unhide X6).below b7 (unhide X6).lt)
        have Y7 := hide ((unhide Y6).below b7 (unhide Y6).lt)
        have L7 := hide ((unhide L6).trans (b7.mono (unhide L6).size))
        have z7 : G ≤ w7.heap.size := Nat.le_trans z6 b7.size
        have x0 : w7.cell? ⟨w3.heap.size, 0, none⟩ = some (.int .u32 (A1 : Int)) := (unhide X7).cell 0
        have x1 : w7.cell? ⟨w3.heap.size, 1, none⟩ = some (.int .i64 (n1 : Int)) := (unhide X7).cell 1
        have y0 : w7.cell? ⟨w3.heap.size + 1, 0, none⟩ = some (.int .u32 (A1 : Int)) := (unhide Y7).cell 0
        have y1 : w7.cell? ⟨w3.heap.size + 1, 1, none⟩ = some (.int .i64 (n2 : Int)) := (unhide Y7).cell 1
        clear b7 h7 k0 k1 k2 k3 Q1 Q2 Q3 Q4
        go_wp2_with fail
        go_region_held3 (fun w' => Below G w7 w' ∧ w'.cell? ⟨w3.heap.size, 0, none⟩ = some (.int .u32 (A1 : Int)) ∧ w'.cell? ⟨w3.heap.size, 1, none⟩ = some (.int .i64 (n1 : Int)) ∧ w'.cell? ⟨w3.heap.size + 1, 0, none⟩ = some (.int .u32 (A1 : Int)) ∧ w'.cell? ⟨w3.heap.size + 1, 1, none⟩ = some (.int .i64 (n2 : Int)))
          (first | exact ⟨(Below.refl _ _).drew, x0, x1, y0, y1⟩ | exact ⟨b8, (b8.cell hGx).trans x0, (b8.cell hGx).trans x1, (b8.cell hGy).trans y0, (b8.cell hGy).trans y1⟩)
          (first | (go_at_call 42; refine (put_new ((unhide T7).below (Below.refl _ _).drew) A1 n2 hA2 hn2 hr2 z7 (by omega) (unhide HNEW)).mono ?_; rintro e w8 ⟨rfl, N8, hT8, hF8, _⟩; have b8 : Below G w7 w8 := (Below.refl G w7).drew.trans (hF8.to_below z7 (unhide T7).foot_base)))
        all_goals
          go_wp2_with fail
          go_ret
          exact ⟨rfl, (unhide L7).trans (b8.mono hGw)⟩
    · have hAA : ¬ ((A1 : Int) = (A2 : Int)) := fun h => hA (by omega)
      clear heq hA
      cases r
      all_goals
        go_wp2_with fail
        refine wp_region_quiet_below hmo (by kernel_rfl) ?_
        repeat (first | go_big_quiet_step (first | with_reducible exact (unhide Q1) _ _ | with_reducible exact (unhide Q2) _ _ | with_reducible exact (unhide Q3) _ _ | with_reducible exact (unhide Q4) _ _) | quiet_step (first | with_reducible exact (unhide Q1) _ _ | with_reducible exact (unhide Q2) _ _ | with_reducible exact (unhide Q3) _ _ | with_reducible exact (unhide Q4) _ _))
        refine wpQuiet_nil ?_
        intro _ hw'
        obtain ⟨⟨dq, osq⟩, hw''⟩ := hw'
        subst hw''
        have b7 := below_regrown w6 dq osq
        obtain ⟨w7, h7⟩ : ∃ w7, w7 = grow (redrawn w6 dq) osq := ⟨_, rfl⟩
        rw [← h7] at b7 ⊢
        have T7 := hide ((unhide T6).below b7)
        have X7 := hide ((unhide X6).below b7 (unhide X6).lt)
        have Y7 := hide ((unhide Y6).below b7 (unhide Y6).lt)
        have L7 := hide ((unhide L6).trans (b7.mono (unhide L6).size))
        have z7 : G ≤ w7.heap.size := Nat.le_trans z6 b7.size
        have x0 : w7.cell? ⟨w3.heap.size, 0, none⟩ = some (.int .u32 (A1 : Int)) := (unhide X7).cell 0
        have x1 : w7.cell? ⟨w3.heap.size, 1, none⟩ = some (.int .i64 (n1 : Int)) := (unhide X7).cell 1
        have y0 : w7.cell? ⟨w3.heap.size + 1, 0, none⟩ = some (.int .u32 (A2 : Int)) := (unhide Y7).cell 0
        have y1 : w7.cell? ⟨w3.heap.size + 1, 1, none⟩ = some (.int .i64 (n2 : Int)) := (unhide Y7).cell 1
        clear b7 h7 k0 k1 k2 k3 Q1 Q2 Q3 Q4
        go_wp2_with fail
        go_region_held3 (fun w' => Below G w7 w' ∧ w'.cell? ⟨w3.heap.size, 0, none⟩ = some (.int .u32 (A1 : Int)) ∧ w'.cell? ⟨w3.heap.size, 1, none⟩ = some (.int .i64 (n1 : Int)) ∧ w'.cell? ⟨w3.heap.size + 1, 0, none⟩ = some (.int .u32 (A2 : Int)) ∧ w'.cell? ⟨w3.heap.size + 1, 1, none⟩ = some (.int .i64 (n2 : Int)))
          (first | exact ⟨(Below.refl _ _).drew, x0, x1, y0, y1⟩ | exact ⟨b8, (b8.cell hGx).trans x0, (b8.cell hGx).trans x1, (b8.cell hGy).trans y0, (b8.cell hGy).trans y1⟩)
          (first | (go_at_call 42; refine (put_new ((unhide T7).below (Below.refl _ _).drew) A2 n2 hA2 hn2 hr2 z7 (by omega) (unhide HNEW)).mono ?_; rintro e w8 ⟨rfl, N8, hT8, hF8, _⟩; have b8 : Below G w7 w8 := (Below.refl G w7).drew.trans (hF8.to_below z7 (unhide T7).foot_base)))
        all_goals
          go_wp2_with fail
          go_ret
          exact ⟨rfl, (unhide L7).trans (b8.mono hGw)⟩
end Go.Proofs.Ytlpmjkbpcobgdaa

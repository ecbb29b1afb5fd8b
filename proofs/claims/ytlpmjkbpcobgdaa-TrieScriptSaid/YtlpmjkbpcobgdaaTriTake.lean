/-
  The contract of (*Trie).Take.
-/
import Derived.Test.YtlpmjkbpcobgdaaTriAwake
namespace Go.Proofs.Ytlpmjkbpcobgdaa
open Go.RowKit Go.Sort

theorem take_bad {w : World} {B g c : Nat} {N : Nat → Nat → Option Nat} {S : Nat → Nat → Bool} (hT : TrieAt w B g N S c) (a : Nat) (n : Int) (ha : a < 4294967296) (hh : hasF S a n = false) :
    Calls Try.prog 53 #[.pointer (some ⟨g, 0, none⟩), .agg #[.int .u32 (a : Int), .int .i64 n]] w fun e w' => e = .returned (.int .i64 7) ∧ Below w.heap.size w w' := by
  have R : ∀ {W}, TrieAt W B g N S c → Calls Try.prog 44 #[.pointer (some ⟨g, 0, none⟩), .agg #[.int .u32 (a : Int), .int .i64 n]] W fun e w' => e = .returned (.bool false) ∧ Below W.heap.size W w' := fun h => hh ▸ has_any h a n ha
  have hr := R (hT.below ((Below.refl _ _).alloc (Nat.le_refl _) (.cells #[.int .u32 (a : Int), .int .i64 n] 88)))
  have HR := hide hr
  clear R hh hr hT
  go_enter Try.func53, Try.ntmps53
  go_wp2_with fail
  refine (unhide HR).mono ?_
  rintro e w1 ⟨rfl, hb1⟩
  go_wp2_with fail
  go_ret
  exact ⟨rfl, ((Below.refl _ _).alloc (Nat.le_refl _) _).trans (hb1.mono (by simp))⟩

def TakeOut (B g c : Nat) (N : Nat → Nat → Option Nat) (S : Nat → Nat → Bool) (a n : Nat) (w : World) (e : Ending) (w' : World) : Prop :=
  e = .returned (.int .i64 0) ∧ ∃ N', TrieAt w' B g N' (updS S n (Tri.pv a n) false) (c - 1) ∧ Frm (foot N) w w' ∧ (∀ i, foot N' i → foot N i)

def TakeRel (B g c : Nat) (N : Nat → Nat → Option Nat) (S : Nat → Nat → Bool) (a n g' cap b0 : Nat) (w : World) (i : Value) (wr : World) : Prop :=
  ∃ k : Nat, k ≤ n ∧ i = .int .i64 (k : Int) ∧ ∃ N', TrieX wr B g N' (updS S n (Tri.pv a n) false) c (fun k' v' => v' = Tri.pv a k' ∧ k' ≤ k) ∧ (∀ j, j ≤ k → N' j (Tri.pv a j) = N j (Tri.pv a j)) ∧
    Frm (foot N) w wr ∧ (∀ i, foot N' i → foot N i) ∧ Blk wr w.heap.size 88 #[.int .u32 (a : Int), .int .i64 (n : Int)] ∧
    wr.ownsRow b0 91 1 (.slice (some ⟨g', 0, none⟩) (n + 1) cap) (n + 1) (ptrs N a n)

theorem take_live {w : World} {B g c : Nat} {N : Nat → Nat → Option Nat} {S : Nat → Nat → Bool} {a k β : Nat} (hk : k ≤ 32) (hβ : β < 2) (h : TrieX w B g N S c (fun k' v' => v' = Tri.pv a k' ∧ k' ≤ k))
    (hne : S k (Tri.pv a k) = true ∨ (N (k + 1) (2 * Tri.pv a k + β)).isSome = true) : TrieAt w B g N S c := by
  refine h.relive fun k' v' hk' _ ⟨hv, hle⟩ => .inl ?_
  subst hv
  rcases hne with hs | hs
  · exact ⟨k, _, hle, hs, Tri.pv_div hle hk⟩
  · rcases h.live _ _ (by omega) hs with ⟨k2, v2, h1, h2, h3⟩ | ⟨_, h1⟩
    · refine ⟨k2, v2, by omega, h2, ?_⟩
      have e1 : v2 / 2 ^ (k2 - k) = Tri.pv a k := by
        have : v2 / 2 ^ (k2 - k) = v2 / 2 ^ (k2 - (k + 1)) / 2 := by
          rw [Nat.div_div_eq_div_mul, ← Nat.pow_succ, show (k2 - (k + 1)).succ = k2 - k from by omega]
        rw [this, h3]
        omega
      have e2 : v2 / 2 ^ (k2 - k') = v2 / 2 ^ (k2 - k) / 2 ^ (k - k') := by
        rw [Nat.div_div_eq_div_mul, ← Nat.pow_add, show k2 - k + (k - k') = k2 - k' from by omega]
      rw [e2, e1, Tri.pv_div hle hk]
    · omega

set_option maxRecDepth 100000 in
set_option maxHeartbeats 1000000 in
theorem take_good {w : World} {B g c : Nat} {N : Nat → Nat → Option Nat} {S : Nat → Nat → Bool} (hT : TrieAt w B g N S c) (a n : Nat) (ha : a < 4294967296) (hn : n ≤ 32) (hr : Tri.right a (n : Int) = true) (hs : S n (Tri.pv a n) = true) (hc0 : 0 < c) (hc : c < 4294967296) :
    Calls Try.prog 53 #[.pointer (some ⟨g, 0, none⟩), .agg #[.int .u32 (a : Int), .int .i64 (n : Int)]] w (TakeOut B g c N S a n w) := by
  obtain ⟨c', rfl⟩ : ∃ c', c = c' + 1 := ⟨c - 1, by omega⟩
  have hh : hasF S a (n : Int) = true := by unfold hasF; rw [hr, Bool.true_and, Int.toNat_natCast, hs]
  have hB0 : Below w.heap.size w (w.alloc (.cells #[.int .u32 (a : Int), .int .i64 (n : Int)] 88)) := (Below.refl _ _).alloc (Nat.le_refl _) _
  have hR : Calls Try.prog 44 #[.pointer (some ⟨g, 0, none⟩), .agg #[.int .u32 (a : Int), .int .i64 (n : Int)]] (w.alloc (.cells #[.int .u32 (a : Int), .int .i64 (n : Int)] 88)) fun e w' => e = .returned (.bool true) ∧ Below (w.alloc (.cells #[.int .u32 (a : Int), .int .i64 (n : Int)] 88)).heap.size (w.alloc (.cells #[.int .u32 (a : Int), .int .i64 (n : Int)] 88)) w' := hh ▸ has_any (hT.below hB0) a n ha
  have hreach : reach N a n = n := reach_at (hT.set _ _ hs)
  obtain ⟨b, hNb⟩ := Option.isSome_iff_exists.1 (hT.set _ _ hs)
  have HT := hide hT
  have HR := hide hR
  have HB0 := hide hB0
  have HRE := hide hreach
  have HNB := hide hNb
  have HS := hide hs
  clear hT hr hh hR hB0 hreach hNb hs
  go_enter Try.func53, Try.ntmps53
  go_wp2_with fail
  refine (unhide HR).mono ?_
  rintro e w1 ⟨rfl, b1⟩
  have K1 := hide ((Blk.new w 88 #[.int .u32 (a : Int), .int .i64 (n : Int)]).below b1 (by simp))
  have B1 := hide ((unhide HB0).trans (b1.mono (unhide HB0).size))
  have hz1 : w.heap.size < w1.heap.size := (unhide K1).lt
  clear b1 HR HB0
  have c0 : w1.cell? ⟨w.heap.size, 0, none⟩ = some (.int .u32 (a : Int)) := (unhide K1).cell 0
  have c1 : w1.cell? ⟨w.heap.size, 1, none⟩ = some (.int .i64 (n : Int)) := (unhide K1).cell 1
  go_wp2_with fail
  clear c0 c1
  refine (walk_any ((unhide HT).below (unhide B1)) a n ha hn).mono ?_
  rintro e w2 ⟨v, rfl, hown, b2⟩
  rw [unhide HRE] at hown
  obtain ⟨g', cap, rfl, hg1, hg2⟩ := row_form hown
  have K2 := hide ((unhide K1).below b2 (unhide K1).lt)
  have B2 := hide ((unhide B1).trans (b2.mono (unhide B1).size))
  have T2 := hide ((unhide HT).below (unhide B2))
  have hz2 : w1.heap.size ≤ w2.heap.size := b2.size
  have c1 : w2.cell? ⟨w.heap.size, 1, none⟩ = some (.int .i64 (n : Int)) := (unhide K2).cell 1
  have d0 : w2.cell? ⟨g', n, none⟩ = some (.pointer (some ⟨b, 0, none⟩)) := by
    rw [hown.cellAt n (by omega), ptrs_get N a n n (Nat.le_refl _), unhide HNB]
    rfl
  have d1 : w2.cell? ⟨b, 0, none⟩ = some (.bool true) := by have := ((unhide T2).cells (unhide HNB)).1; rwa [unhide HS] at this
  have d2 : w2.frozen? ⟨b, 0, none⟩ = false := (unhide T2).free (unhide HNB) 0
  have hbw : b < w.heap.size := (unhide HT).lt (unhide HNB)
  have hne : (⟨b, 0, none⟩ : Addr) ≠ ⟨w.heap.size, 1, none⟩ := by simp
  have c1' : (w2.setCell ⟨b, 0, none⟩ (.bool false)).cell? ⟨w.heap.size, 1, none⟩ = some (.int .i64 (n : Int)) := (World.cell?_setCell_other w2 _ _ _ hne).trans c1
  have HO := hide hown
  clear hown b2 B1 K1
  go_wp2_with fail
  go_loopw [6] (TakeRel B g (c' + 1) N S a n g' cap w1.heap.size w) (fun i _ => (intOf i).toNat)
  case atStart =>
    refine ⟨n, Nat.le_refl _, rfl, N, ?_, fun _ _ => rfl, (Frm.of_below (unhide B2)).setCell (.inl ⟨n, _, unhide HNB⟩) _, fun _ h => h, (unhide K2).far (p := ⟨b, 0, none⟩) (by show w.heap.size ≠ b; omega) _, ownsRow_setCell_below (unhide HO) (a := ⟨b, 0, none⟩) (by show b < w1.heap.size; omega) _⟩
    refine (unhide T2).mark false (unhide HNB) fun k' v' hk' hv' => ?_
    rcases (unhide T2).live k' v' hk' hv' with ⟨k2, v2, h1, h2, h3⟩ | h1
    · by_cases he : k2 = n ∧ v2 = Tri.pv a n
      · obtain ⟨rfl, rfl⟩ := he
        exact .inr ⟨by rw [← h3, Tri.pv_div h1 hn], h1⟩
      · exact .inl ⟨k2, v2, h1, by rw [updS_other he]; exact h2, h3⟩
    · exact h1.elim
  case round =>
    obtain ⟨k, hk, rfl, N', hX, hpath, hF, hfoot, hB, hO⟩ := hrel
    have hgc : wr.cell? ⟨g, 3, none⟩ = some (.int .i64 ((c' : Int) + 1)) := hX.head.cell 3
    have hgf : wr.frozen? ⟨g, 3, none⟩ = false := hX.head.frozen 3
    have HX := hide hX
    have HP := hide hpath
    have HF := hide hF
    have HFT := hide hfoot
    have HK := hide hB
    have HO2 := hide hO
    have hfin : ∀ (W : World) (M : Nat → Nat → Option Nat), TrieAt W B g M (updS S n (Tri.pv a n) false) (c' + 1) → Frm (foot N) w W → (∀ i, foot M i → foot N i) →
        TakeOut B g (c' + 1) N S a n w (.returned (.int .i64 0)) (W.setCell ⟨g, 3, none⟩ (.int .i64 (c' : Int))) := fun _ _ h1 h2 h3 => ⟨rfl, _, h1.recount c', h2.setCell (.inl ⟨0, 0, (unhide HT).root⟩) _, h3⟩
    have HFIN := hide hfin
    clear hX hpath hF hfoot hB hO hfin
    cases k with
    | zero =>
      have hat : TrieAt wr B g N' (updS S n (Tri.pv a n) false) (c' + 1) := (unhide HX).relive fun k' _ hk' _ ⟨_, h⟩ => by omega
      have HAT := hide hat
      clear hat
      go_wp2_with fail
      go_ret
      exact unhide HFIN _ _ (unhide HAT) (unhide HF) (unhide HFT)
    | succ j =>
      have hsome : (N' (j + 1) (Tri.pv a (j + 1))).isSome = true := by
        rw [unhide HP (j + 1) (Nat.le_refl _)]
        exact ((unhide HT).reach_iff ha hk hn).2 (by rw [unhide HRE]; exact hk)
      obtain ⟨bk, hNk⟩ := Option.isSome_iff_exists.1 hsome
      have e0 : wr.cell? ⟨g', j + 1, none⟩ = some (.pointer (some ⟨bk, 0, none⟩)) := by
        rw [(unhide HO2).cellAt (j + 1) (by omega), ptrs_get N a n (j + 1) hk, ← unhide HP (j + 1) (Nat.le_refl _), hNk]
        rfl
      obtain ⟨f0, f1, f2⟩ := (unhide HX).cells hNk
      have hE := empty_any f0 f1 f2
      cases hq : (!(updS S n (Tri.pv a n) false (j + 1) (Tri.pv a (j + 1))) && ((N' (j + 1 + 1) (2 * Tri.pv a (j + 1))).isNone && (N' (j + 1 + 1) (2 * Tri.pv a (j + 1) + 1)).isNone)) with
      | false =>
        rw [hq] at hE
        have hat : TrieAt wr B g N' (updS S n (Tri.pv a n) false) (c' + 1) := by
          simp only [Bool.and_eq_false_iff, Bool.not_eq_false'] at hq
          rcases hq with h | h | h
          · exact take_live (β := 0) (by omega) (by omega) (unhide HX) (.inl h)
          · exact take_live (β := 0) (by omega) (by omega) (unhide HX) (.inr (by cases hz : N' (j + 1 + 1) (2 * Tri.pv a (j + 1)) <;> simp_all))
          · exact take_live (β := 1) (by omega) (by omega) (unhide HX) (.inr (by cases hz : N' (j + 1 + 1) (2 * Tri.pv a (j + 1) + 1) <;> simp_all))
        have HAT := hide hat
        have HE := hide hE
        clear hat hE hq hsome hNk f0 f1 f2
        go_wp2_with (go_at_call 64; refine (unhide HE).mono ?_; rintro e w' ⟨rfl, rfl⟩)
        go_ret
        exact unhide HFIN _ _ (unhide HAT) (unhide HF) (unhide HFT)
      | true =>
        rw [hq] at hE
        simp only [Bool.and_eq_true, Bool.not_eq_true', Option.isNone_iff_eq_none] at hq
        obtain ⟨q1, q2, q3⟩ := hq
        have hsome2 : (N' j (Tri.pv a j)).isSome = true := (unhide HX).up (by omega) hsome
        obtain ⟨bp, hNp⟩ := Option.isSome_iff_exists.1 hsome2
        have e1 : wr.cell? ⟨g', j, none⟩ = some (.pointer (some ⟨bp, 0, none⟩)) := by
          rw [(unhide HO2).cellAt j (by omega), ptrs_get N a n j (by omega), ← unhide HP j (by omega), hNp]
          rfl
        obtain ⟨β, hβ⟩ : ∃ β, β = a / 2 ^ (31 - j) % 2 := ⟨_, rfl⟩
        have hβ2 : β < 2 := by rw [hβ]; exact Nat.mod_lt _ (by omega)
        have hpv : Tri.pv a (j + 1) = 2 * Tri.pv a j + β := by rw [hβ]; exact Tri.pv_succ (by omega)
        have hkid := (unhide HX).kid hNp hβ2
        rw [← hpv, hNk, np_some] at hkid
        have hfr : wr.frozen? ⟨bp, 1 + β, none⟩ = false := (unhide HX).free hNp _
        have hbp : bp < w.heap.size := by obtain ⟨z1, z2, hz⟩ := unhide HFT bp ⟨_, _, hNp⟩; exact (unhide HT).lt hz
        have hbit : ∀ W, Calls Try.prog 65 #[.int .u32 (a : Int), .int .i64 (j : Int)] W fun e w' => e = .returned (.int .i64 (β : Int)) ∧ W = w' := fun W => hβ ▸ bit_any a j ha (by omega) W
        have c0 : wr.cell? ⟨w.heap.size, 0, none⟩ = some (.int .u32 (a : Int)) := (unhide HK).cell 0
        have hX2 := (unhide HX).rekid (o := none) (X' := fun k' v' => v' = Tri.pv a k' ∧ k' ≤ j) (by omega) hβ2 hNp (by rintro b' ⟨⟩) (by rintro b' k' v' ⟨⟩) (by rintro b' ⟨⟩) (fun _ => by rw [← hpv]; exact q1) (fun _ => by rw [← hpv]; exact ⟨q2, q3⟩) (fun k' v' hk' hv' => by
          by_cases he : k' = j + 1 ∧ v' = 2 * Tri.pv a j + β
          · rw [he.1, he.2, updN_same] at hv'; cases hv'
          · rw [updN_other he] at hv'
            rcases (unhide HX).live k' v' hk' hv' with h | ⟨h1, h2⟩
            · exact .inl h
            · refine .inr ⟨h1, ?_⟩
              rcases Nat.lt_or_ge j k' with h | h
              · exfalso
                apply he
                have : k' = j + 1 := by omega
                subst this
                exact ⟨rfl, by rw [h1, hpv]⟩
              · exact h)
        have HX2 := hide hX2
        have HE := hide hE
        have HBIT := hide hbit
        have HNP := hide hNp
        clear hE hsome hNk f0 f1 f2 q1 q2 q3 hsome2 hNp hβ hpv hbit hX2
        go_wp2_with (go_at_call 64; refine (unhide HE).mono ?_; rintro e w' ⟨rfl, rfl⟩)
        have hj0 : (0 : Int) ≤ (j : Int) := by omega
        have hj1 : (j : Int) < (n : Int) + 1 := by omega
        have hj2 : j < n + 1 := by omega
        have hb0 : (0 : Int) ≤ (β : Int) := by omega
        have hb2 : (β : Int) < 2 := by omega
        have hne1 : (⟨bp, 1 + β, none⟩ : Addr) ≠ ⟨g', j, none⟩ := by intro e; injection e with e; omega
        have hne2 : (⟨bp, 1 + β, none⟩ : Addr) ≠ ⟨w.heap.size, 0, none⟩ := by intro e; injection e with e; omega
        have hw1 : IntKind.i64.wrap (j : Int) = (j : Int) := IntWalk.i64_in _ (by omega)
        have hw2 : IntKind.i64.wrap ((j : Int) + 1 - 1) = (j : Int) := by rw [Int.add_sub_cancel]; exact hw1
        go_region_held3 (fun w' => w'.cell? ⟨g', j, none⟩ = some (.pointer (some ⟨bp, 0, none⟩)) ∧ w'.cell? ⟨w.heap.size, 0, none⟩ = some (.int .u32 (a : Int)))
          (first | (go_keep; done) | exact ⟨(World.cell?_setCell_other wr _ _ _ hne1).trans e1, (World.cell?_setCell_other wr _ _ _ hne2).trans c0⟩)
          (first | (go_at_call 65; refine (unhide HBIT _).mono ?_; rintro e w' ⟨rfl, rfl⟩))
        go_wp2_with fail
        go_roundw
        case rel =>
          refine ⟨j, by omega, rfl, _, (unhide HX2).below ((Below.refl _ _).drew), fun i hi => ?_, ((unhide HF).setCell (unhide HFT bp ⟨_, _, unhide HNP⟩ |> .inl) _).drewN 1, ?_, ((unhide HK).far (p := ⟨bp, 1 + β, none⟩) (by show w.heap.size ≠ bp; omega) _).drew, (ownsRow_setCell_below (unhide HO2) (a := ⟨bp, 1 + β, none⟩) (by show bp < w1.heap.size; omega) _).drew⟩
          · rw [updN_other (by omega)]
            exact unhide HP i (by omega)
          · rintro i ⟨k', v', hi⟩
            by_cases he : k' = j + 1 ∧ v' = 2 * Tri.pv a j + β
            · rw [he.1, he.2, updN_same] at hi; cases hi
            · rw [updN_other he] at hi
              exact unhide HFT i ⟨k', v', hi⟩
        case measure => simp [intOf]
end Go.Proofs.Ytlpmjkbpcobgdaa

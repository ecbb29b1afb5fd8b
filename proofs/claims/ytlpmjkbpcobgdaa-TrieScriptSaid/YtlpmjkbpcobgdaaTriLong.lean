/-
  The contracts of (*Trie).Longest and (*Trie).Len.
-/
import Derived.Test.YtlpmjkbpcobgdaaTriOver
namespace Go.Proofs.Ytlpmjkbpcobgdaa
open Go.RowKit Go.Sort

theorem len_any {w : World} {B g c : Nat} {N : Nat → Nat → Option Nat} {S : Nat → Nat → Bool} (hT : TrieAt w B g N S c) :
    Calls Try.prog 47 #[.pointer (some ⟨g, 0, none⟩)] w fun e w' => e = .returned (.int .i64 (c : Int)) ∧ w = w' := by
  have hc : w.cell? ⟨g, 3, none⟩ = some (.int .i64 (c : Int)) := hT.head.cell 3
  have HT := hide hT
  clear hT
  go_enter Try.func47, Try.ntmps47
  go_wp2
  go_ret
  exact ⟨rfl, rfl⟩

/-- The smallest prefix that has an address. -/
def LongP (S : Nat → Nat → Bool) (a : Nat) (o : Option Nat) : Prop :=
  match o with
  | none => ∀ j, j ≤ 32 → S j (Tri.pv a j) = false
  | some k => k ≤ 32 ∧ S k (Tri.pv a k) = true ∧ ∀ j, k < j → j ≤ 32 → S j (Tri.pv a j) = false
def longVal (a : Nat) : Option Nat → Value
  | none => .tuple #[.agg #[.int .u32 0, .int .i64 0], .bool false]
  | some k => .tuple #[bl (Tri.pv a k) k, .bool true]
def LongOut (S : Nat → Nat → Bool) (a : Nat) (w : World) (e : Ending) (w' : World) : Prop := ∃ o, LongP S a o ∧ e = .returned (longVal a o) ∧ Below w.heap.size w w'

def LongRel (S : Nat → Nat → Bool) (a m : Nat) (best is i : Value) : Prop :=
  ∃ k : Nat, k ≤ m + 1 ∧ i = .int .i64 (k : Int) ∧
    ((is = .bool false ∧ best = .int .i64 0 ∧ ∀ j, j < k → S j (Tri.pv a j) = false) ∨
     ∃ t : Nat, t < k ∧ is = .bool true ∧ best = .int .i64 (t : Int) ∧ S t (Tri.pv a t) = true ∧ ∀ j, t < j → j < k → S j (Tri.pv a j) = false)

set_option maxRecDepth 100000 in
set_option maxHeartbeats 2000000 in
theorem longest_any {w : World} {B g c : Nat} {N : Nat → Nat → Option Nat} {S : Nat → Nat → Bool} (hT : TrieAt w B g N S c) (a : Nat) (ha : a < 4294967296) :
    Calls Try.prog 51 #[.pointer (some ⟨g, 0, none⟩), .int .u32 (a : Int)] w (LongOut S a w) := by
  have HT := hide hT
  have W0 : ∀ (W : World), TrieAt W B g N S c → Calls Try.prog 63 #[.pointer (some ⟨g, 0, none⟩), .agg #[.int .u32 (a : Int), .int .i64 32]] W (WalkOut N a 32 W) := fun _ h => walk_any h a 32 ha (by omega)
  have HW := hide W0
  clear hT W0
  go_enter Try.func51, Try.ntmps51
  go_wp2_with fail
  refine (unhide HW _ ((unhide HT).below ((Below.refl _ _).alloc (Nat.le_refl _) _))).mono ?_
  rintro e w2 ⟨v, rfl, hown, hb2⟩
  obtain ⟨g', cap, rfl, hg1, hg2⟩ := row_form hown
  have k2 := (Blk.new w 88 #[.int .u32 0, .int .i64 0]).below hb2 (by simp)
  have B2 : Below w.heap.size w w2 := ((Below.refl _ _).alloc (Nat.le_refl _) _).trans (hb2.mono (by simp))
  have T2 := (unhide HT).below B2
  have hri := fun k hk => T2.reach_iff (a := a) (n := 32) (k := k) ha hk (Nat.le_refl _)
  have hrl := reach_le N a 32
  obtain ⟨r, hrr⟩ : ∃ r, r = reach N a 32 := ⟨_, rfl⟩
  rw [← hrr] at hown hri hrl ⊢
  have e0 : w2.cell? ⟨w.heap.size, 0, none⟩ = some (.int .u32 0) := k2.cell 0
  have e1 : w2.cell? ⟨w.heap.size, 1, none⟩ = some (.int .i64 0) := k2.cell 1
  have f0 : w2.frozen? ⟨w.heap.size, 0, none⟩ = false := k2.frozen 0
  have f1 : w2.frozen? ⟨w.heap.size, 1, none⟩ = false := k2.frozen 1
  have HB2 := hide B2
  have HT2 := hide T2
  have HRI := hide hri
  have HO := hide hown
  have hsz := k2.lt
  clear hown B2 T2 hri hb2 hrr k2
  go_wp2_with fail
  go_loop [6, 7, 15] (LongRel S a r) (fun _ _ i => r + 1 - (intOf i).toNat)
  case atStart => exact ⟨0, Nat.zero_le _, rfl, .inl ⟨rfl, rfl, fun j hj => absurd hj (by omega)⟩⟩
  case round =>
    obtain ⟨k, hk, rfl, hcase⟩ := hrel
    by_cases hlt : k < r + 1
    · obtain ⟨b, hN⟩ := Option.isSome_iff_exists.1 ((unhide HRI k (by omega)).2 (by omega))
      have c2 : w2.cell? ⟨g', k, none⟩ = some (.pointer (some ⟨b, 0, none⟩)) := by
        rw [(unhide HO).cellAt k (by omega), ptrs_get N a r k (by omega), hN]
        rfl
      have c3 := ((unhide HT2).cells hN).1
      have HC := hide hcase
      clear hcase
      cases hs : S k (Tri.pv a k) with
      | true =>
        rw [hs] at c3
        have HS := hide hs
        clear hs hN
        go_wp2_with fail
        go_round
        case rel => exact ⟨k + 1, by omega, by go_num, .inr ⟨k, by omega, rfl, rfl, unhide HS, fun j h1 h2 => by omega⟩⟩
        case measure => simp [intOf]; omega
      | false =>
        rw [hs] at c3
        have HS := hide hs
        clear hs hN
        go_wp2_with fail
        go_round
        case rel =>
          refine ⟨k + 1, by omega, by go_num, ?_⟩
          rcases unhide HC with ⟨h1, h2, h3⟩ | ⟨t, h1, h2, h3, h4, h5⟩
          · exact .inl ⟨h1, h2, fun j hj => by
              rcases Nat.lt_or_ge j k with h | h
              · exact h3 j h
              · obtain rfl : j = k := by omega
                exact unhide HS⟩
          · exact .inr ⟨t, by omega, h2, h3, h4, fun j hj1 hj2 => by
              rcases Nat.lt_or_ge j k with h | h
              · exact h5 j hj1 h
              · obtain rfl : j = k := by omega
                exact unhide HS⟩
        case measure => simp [intOf]; omega
    · obtain rfl : k = r + 1 := by omega
      have hbeyond : ∀ j, r < j → j ≤ 32 → S j (Tri.pv a j) = false := by
        intro j h1 h2
        cases hs : S j (Tri.pv a j) with
        | false => rfl
        | true => exact absurd ((unhide HRI j h2).1 ((unhide HT2).set _ _ hs)) (by omega)
      have HBY := hide hbeyond
      clear hbeyond
      rcases hcase with ⟨rfl, rfl, h3⟩ | ⟨t, h1, rfl, rfl, h4, h5⟩
      · have hno : LongP S a none := fun j hj => by
          rcases Nat.lt_or_ge j (r + 1) with h | h
          · exact h3 j h
          · exact unhide HBY j (by omega) hj
        have HNO := hide hno
        clear h3 hno
        go_wp2_with fail
        refine bodyPost_ret (v := longVal a none) (by simp [results, Try.results51, go_sem, longVal, e0, e1]) rfl ⟨none, unhide HNO, rfl, ?_⟩
        repeat (first | exact unhide HB2 | refine Below.setCell ?_ (by simp <;> omega) _)
      · have hyes : LongP S a (some t) := ⟨by omega, h4, fun j hj1 hj2 => by
          rcases Nat.lt_or_ge j (r + 1) with h | h
          · exact h5 j hj1 h
          · exact unhide HBY j (by omega) hj2⟩
        have hmk := fun W => make_block a t ha (by omega) W
        have hbl : longVal a (some t) = .tuple #[.agg #[.int .u32 ((Tri.pv a t * 2 ^ (32 - t) : Nat) : Int), .int .i64 (t : Int)], .bool true] := rfl
        have HBL := hide hbl
        generalize Tri.pv a t * 2 ^ (32 - t) = A at *
        have HYES := hide hyes
        have HMK := hide hmk
        clear h4 h5 hyes hmk hbl
        go_wp2_with fail
        refine (unhide HMK _).mono ?_
        rintro e w3 ⟨rfl, hb3⟩
        have e0' : w3.cell? ⟨w.heap.size, 0, none⟩ = some (.int .u32 0) := (hb3.cell (p := ⟨w.heap.size, 0, none⟩) (by simpa using hsz)).trans e0
        have e1' : w3.cell? ⟨w.heap.size, 1, none⟩ = some (.int .i64 0) := (hb3.cell (p := ⟨w.heap.size, 1, none⟩) (by simpa using hsz)).trans e1
        have f0' : w3.frozen? ⟨w.heap.size, 0, none⟩ = false := (hb3.frozen (p := ⟨w.heap.size, 0, none⟩) (by simpa using hsz)).trans f0
        have f1' : w3.frozen? ⟨w.heap.size, 1, none⟩ = false := (hb3.frozen (p := ⟨w.heap.size, 1, none⟩) (by simpa using hsz)).trans f1
        have B3 := (unhide HB2).trans (hb3.mono (unhide HB2).size)
        have HB3 := hide B3
        clear hb3 B3 e0 e1 f0 f1
        go_wp2_with fail
        refine bodyPost_ret (v := .tuple #[.agg #[.int .u32 (A : Int), .int .i64 (t : Int)], .bool true]) (by simp [results, Try.results51, go_sem, e0', e1']) rfl ⟨some t, unhide HYES, by rw [unhide HBL], ?_⟩
        repeat (first | exact unhide HB3 | refine Below.setCell ?_ (by simp <;> omega) _)
end Go.Proofs.Ytlpmjkbpcobgdaa

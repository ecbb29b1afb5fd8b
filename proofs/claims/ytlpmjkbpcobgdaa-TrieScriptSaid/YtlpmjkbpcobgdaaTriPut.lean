/-
  The contract of (*Trie).Put.
-/
import Derived.Test.YtlpmjkbpcobgdaaTriUpd
namespace Go.Proofs.Ytlpmjkbpcobgdaa
open Go.RowKit Go.Sort

def PutRel (B g c : Nat) (N : Nat → Nat → Option Nat) (S : Nat → Nat → Bool) (a n : Nat) (w : World) (p i : Value) (wr : World) : Prop :=
  ∃ k : Nat, k ≤ n ∧ i = .int .i64 (k : Int) ∧ ∃ N' b, TrieX wr B g N' S c (fun k' v' => v' = Tri.pv a k' ∧ k' ≤ n) ∧ N' k (Tri.pv a k) = some b ∧ p = .pointer (some ⟨b, 0, none⟩) ∧
    Frm (foot N) w wr ∧ (∀ i, foot N' i → foot N i ∨ w.heap.size + 1 ≤ i) ∧ Blk wr w.heap.size 88 #[.int .u32 (a : Int), .int .i64 (n : Int)] ∧ w.heap.size < wr.heap.size

/-- What Put leaves. -/
def PutOut (B g c : Nat) (N : Nat → Nat → Option Nat) (S : Nat → Nat → Bool) (a n : Nat) (w : World) (e : Ending) (w' : World) : Prop :=
  ∃ N' S' c', TrieAt w' B g N' S' c' ∧ Frm (foot N) w w' ∧ (∀ i, foot N' i → foot N i ∨ w.heap.size ≤ i) ∧
    ((S n (Tri.pv a n) = true ∧ e = .returned (.int .i64 6) ∧ S' = S ∧ c' = c) ∨
     (S n (Tri.pv a n) = false ∧ e = .returned (.int .i64 0) ∧ S' = updS S n (Tri.pv a n) true ∧ c' = c + 1))

theorem put_bad {w : World} (g a : Nat) (n : Int) (ha : a < 4294967296) (hr : Tri.right a n = false) :
    Calls Try.prog 42 #[.pointer (some ⟨g, 0, none⟩), .agg #[.int .u32 (a : Int), .int .i64 n]] w fun e w' => e = .returned (.int .i64 12) ∧ Below w.heap.size w w' := by
  have R : ∀ W, Calls Try.prog 54 #[.agg #[.int .u32 (a : Int), .int .i64 n]] W fun e w' => e = .returned (.bool false) ∧ Below W.heap.size W w' := fun W => hr ▸ right_block a n ha W
  have HR := hide R
  clear R hr
  go_enter Try.func42, Try.ntmps42
  go_wp2_with fail
  refine (unhide HR _).mono ?_
  rintro e w1 ⟨rfl, hb1⟩
  go_wp2_with fail
  go_ret
  exact ⟨rfl, ((Below.refl _ _).alloc (Nat.le_refl _) _).trans (hb1.mono (by simp))⟩

theorem TrieX.relive {w : World} {B g c : Nat} {N : Nat → Nat → Option Nat} {S : Nat → Nat → Bool} {X X' : Nat → Nat → Prop} (h : TrieX w B g N S c X)
    (hl : ∀ k v, 0 < k → (N k v).isSome = true → X k v → (∃ k' v', k ≤ k' ∧ S k' v' = true ∧ v' / 2 ^ (k' - k) = v) ∨ X' k v) : TrieX w B g N S c X' :=
  ⟨h.root, h.head, h.node, h.inj, h.parent, h.deep, h.set, fun k v hk hv => (h.live k v hk hv).elim .inl (hl k v hk hv), h.base⟩

theorem pv_excused {w : World} {B g c : Nat} {N : Nat → Nat → Option Nat} {S : Nat → Nat → Bool} {a n : Nat} (hn : n ≤ 32) (h : TrieX w B g N S c (fun k' v' => v' = Tri.pv a k' ∧ k' ≤ n)) (hs : S n (Tri.pv a n) = true) : TrieAt w B g N S c :=
  h.relive fun _ _ _ _ ⟨e, h2⟩ => .inl ⟨n, _, h2, hs, by rw [e]; exact Tri.pv_div h2 hn⟩

set_option maxRecDepth 100000 in
set_option maxHeartbeats 2000000 in
theorem put_right {w : World} {B g c : Nat} {N : Nat → Nat → Option Nat} {S : Nat → Nat → Bool} (hT : TrieAt w B g N S c) (a n : Nat) (ha : a < 4294967296) (hn : n ≤ 32) (hr : Tri.right a (n : Int) = true) (hBw : B ≤ w.heap.size) (hc : c < 4294967296) :
    Calls Try.prog 42 #[.pointer (some ⟨g, 0, none⟩), .agg #[.int .u32 (a : Int), .int .i64 (n : Int)]] w (PutOut B g c N S a n w) := by
  have HT := hide hT
  have R : ∀ W, Calls Try.prog 54 #[.agg #[.int .u32 (a : Int), .int .i64 (n : Int)]] W fun e w' => e = .returned (.bool true) ∧ Below W.heap.size W w' := fun W => hr ▸ right_block a n ha W
  have HR := hide R
  clear hT R hr
  go_enter Try.func42, Try.ntmps42
  go_wp2_with fail
  refine (unhide HR _).mono ?_
  rintro e w1 ⟨rfl, hb1⟩
  have B1 : Below w.heap.size w w1 := ((Below.refl _ _).alloc (Nat.le_refl _) _).trans (hb1.mono (by simp))
  have k1 := (Blk.new w 88 #[.int .u32 (a : Int), .int .i64 (n : Int)]).below hb1 (by simp)
  have c0 : w1.cell? ⟨w.heap.size, 0, none⟩ = some (.int .u32 (a : Int)) := k1.cell 0
  have c1 : w1.cell? ⟨w.heap.size, 1, none⟩ = some (.int .i64 (n : Int)) := k1.cell 1
  have HB1 := hide B1
  have HK1 := hide k1
  clear hb1 B1 k1
  go_wp2_with fail
  go_loopw [5, 16] (PutRel B g c N S a n w) (fun _ i _ => n - (intOf i).toNat)
  case atStart =>
    have T1 := (unhide HT).below (unhide HB1)
    refine ⟨0, Nat.zero_le _, rfl, N, g, T1.relive (fun _ _ _ _ h => h.elim), ?_, rfl, Frm.of_below (unhide HB1), fun i hi => .inl hi, unhide HK1, (unhide HK1).lt⟩
    rw [Tri.pv_zero ha, T1.root]
  case round =>
    obtain ⟨k, hk, rfl, N', b, hX, hN, rfl, hF, hfoot, hB, hsz⟩ := hrel
    have hold : ∀ i, foot N i → i < w.heap.size := fun i ⟨_, _, h⟩ => (unhide HT).lt h
    have HX := hide hX
    have HN := hide hN
    have HF := hide hF
    have HFT := hide hfoot
    have HK := hide hB
    have HOLD := hide hold
    have hblt : b < wr.heap.size := hX.lt hN
    clear HB1 HK1 hX hN hF hfoot hB hold c0 c1
    by_cases hlt : k < n
    · have c0 : wr.cell? ⟨w.heap.size, 0, none⟩ = some (.int .u32 (a : Int)) := (unhide HK).cell 0
      obtain ⟨β, hβ⟩ : ∃ β, β = a / 2 ^ (31 - k) % 2 := ⟨_, rfl⟩
      have hβ2 : β < 2 := by rw [hβ]; exact Nat.mod_lt _ (by omega)
      have hpv : Tri.pv a (k + 1) = 2 * Tri.pv a k + β := by rw [hβ]; exact Tri.pv_succ (by omega)
      have hcell := (unhide HX).kid (unhide HN) hβ2
      rw [← hpv] at hcell
      have hbit : ∀ W, Calls Try.prog 65 #[.int .u32 (a : Int), .int .i64 (k : Int)] W fun e w' => e = .returned (.int .i64 (β : Int)) ∧ w' = W := fun W => hβ ▸ (bit_any a k ha (by omega) W).mono fun _ _ h => ⟨h.1, h.2.symm⟩
      have HBIT := hide hbit
      have HPV := hide hpv
      clear hbit hpv hβ
      rcases hN2 : N' (k + 1) (Tri.pv a (k + 1)) with _ | b2
      · rw [hN2, np_none] at hcell
        have hfree : wr.frozen? ⟨b, 1 + β, none⟩ = false := (unhide HX).free (unhide HN) _
        have hne : b ≠ wr.heap.size := by omega
        have HN2 := hide hN2
        clear hN2
        go_wp2_with fail
        go_quiet ((go_at_call 65; exact Calls.quiet_of_same (unhide HBIT _)))
        have hcell' : ((wr.drewN nq).alloc (Obj.cells #[Value.bool false, Value.pointer none, Value.pointer none] 94)).cell? ⟨b, 1 + β, none⟩ = some (.pointer none) := (World.cell?_alloc_lt (wr.drewN nq) _ ⟨b, 1 + β, none⟩ hblt).trans hcell
        have hfree' : ((wr.drewN nq).alloc (Obj.cells #[Value.bool false, Value.pointer none, Value.pointer none] 94)).frozen? ⟨b, 1 + β, none⟩ = false := (World.frozen?_alloc_old (wr.drewN nq) _ ⟨b, 1 + β, none⟩ (Nat.ne_of_lt hblt)).trans hfree
        have hset := World.cell?_setCell_same ((wr.drewN nq).alloc (Obj.cells #[Value.bool false, Value.pointer none, Value.pointer none] 94)) ⟨b, 1 + β, none⟩ (.pointer (some ⟨wr.heap.size, 0, none⟩)) hcell'
        go_wp2_with fail
        go_roundw
        case rel =>
          have hX0 : TrieX ((wr.drewN nq).alloc (Obj.cells #[Value.bool false, Value.pointer none, Value.pointer none] 94)) B g N' S c _ := (unhide HX).below ((below_drewN (Below.refl wr.heap.size wr) nq).alloc (Nat.le_refl _) _)
          have hdead : ∀ i, N' (k + 2) (2 * Tri.pv a (k + 1) + i) = none ∨ 2 ≤ i := by
            intro i
            rcases Nat.lt_or_ge i 2 with hi | hi
            · refine .inl ?_
              rcases hq : N' (k + 2) (2 * Tri.pv a (k + 1) + i) with _ | z
              · rfl
              · have := (unhide HX).parent (k + 1) _ (by rw [hq]; rfl)
                rw [show (2 * Tri.pv a (k + 1) + i) / 2 = Tri.pv a (k + 1) from by omega, unhide HN2] at this
                cases this
            · exact .inr hi
          have hS1 : S (k + 1) (Tri.pv a (k + 1)) = false := (unhide HX).not_set (unhide HN2)
          have hd0 := (hdead 0).resolve_right (by omega)
          have hd1 := (hdead 1).resolve_right (by omega)
          have hX1 := hX0.rekid (o := some wr.heap.size) (X' := fun k' v' => v' = Tri.pv a k' ∧ k' ≤ n) (by omega) hβ2 (unhide HN)
            (by
              rintro b' ⟨⟩
              rw [← unhide HPV, hS1, ← Nat.add_zero (2 * Tri.pv a (k + 1)), hd0, Nat.add_zero, hd1]
              exact (Blk.new (wr.drewN nq) _ _).far (p := ⟨b, 1 + β, none⟩) (fun e => hne e.symm) _)
            (by
              rintro b' k' v' ⟨⟩ hq
              exact absurd ((unhide HX).lt hq) (by omega))
            (by rintro b' ⟨⟩; omega) (by rintro ⟨⟩) (by rintro ⟨⟩)
            (by
              intro k' v' hk' hs
              by_cases he : k' = k + 1 ∧ v' = 2 * Tri.pv a k + β
              · exact .inr ⟨by rw [he.1, unhide HPV, he.2], by omega⟩
              · rw [updN_other he] at hs
                exact (unhide HX).live k' v' hk' hs)
          refine ⟨k + 1, by omega, by go_num, _, wr.heap.size, hX1, by rw [unhide HPV, updN_same], rfl, (((unhide HF).drewN nq).alloc _).setCell (unhide HFT b ⟨_, _, unhide HN⟩ |>.imp id (fun h => by show w.heap.size ≤ b; omega)) _, ?_, ?_, ?_⟩
          · rintro i ⟨k', v', hi⟩
            by_cases he : k' = k + 1 ∧ v' = 2 * Tri.pv a k + β
            · rw [he.1, he.2, updN_same] at hi
              injection hi with hi
              exact .inr (by omega)
            · rw [updN_other he] at hi
              exact unhide HFT i ⟨k', v', hi⟩
          · refine (((unhide HK).drewN nq).alloc _).far (p := ⟨b, 1 + β, none⟩) ?_ _
            rintro rfl
            rcases unhide HFT _ ⟨_, _, unhide HN⟩ with h1 | h1
            · exact absurd (unhide HOLD _ h1) (by omega)
            · omega
          · simp
            omega
        case measure => simp [intOf]; omega
      · rw [hN2, np_some] at hcell
        have HN2 := hide hN2
        clear hN2
        go_wp2_with fail
        go_quiet ((go_at_call 65; exact Calls.quiet_of_same (unhide HBIT _)))
        go_wp2_with fail
        go_roundw
        case rel => exact ⟨k + 1, by omega, by go_num, N', b2, (unhide HX).below (below_drewN (Below.refl _ _) nq), unhide HN2, rfl, (unhide HF).drewN nq, unhide HFT, unhide HK, hsz⟩
        case measure => simp [intOf]; omega
    · obtain rfl : k = n := by omega
      have hc0 := ((unhide HX).cells (unhide HN)).1
      have hf0 := (unhide HX).free (unhide HN) 0
      have hgc : wr.cell? ⟨g, 3, none⟩ = some (.int .i64 (c : Int)) := (unhide HX).head.cell 3
      have hgf : wr.frozen? ⟨g, 3, none⟩ = false := (unhide HX).head.frozen 3
      cases hs : S k (Tri.pv a k) with
      | true =>
        rw [hs] at hc0
        have HS := hide hs
        clear hs
        go_wp2_with fail
        go_ret
        exact ⟨N', S, c, pv_excused hn (unhide HX) (unhide HS), unhide HF, fun i hi => (unhide HFT i hi).imp id (fun h => by omega), .inl ⟨unhide HS, rfl, rfl, rfl⟩⟩
      | false =>
        rw [hs] at hc0
        have HS := hide hs
        clear hs
        have hne : (⟨b, 0, none⟩ : Addr) ≠ ⟨g, 3, none⟩ := by simp
        have hgc' : (wr.setCell ⟨b, 0, none⟩ (.bool true)).cell? ⟨g, 3, none⟩ = some (.int .i64 (c : Int)) := (World.cell?_setCell_other wr _ _ _ hne).trans hgc
        have hgf' : (wr.setCell ⟨b, 0, none⟩ (.bool true)).frozen? ⟨g, 3, none⟩ = false := by rw [World.frozen?_setCell]; exact hgf
        go_wp2_with fail
        go_ret
        have hX1 := (unhide HX).mark (X' := fun _ _ => False) true (unhide HN) (fun k' v' hk' hs => by
          rcases (unhide HX).live k' v' hk' hs with ⟨k2, v2, h1, h2, h3⟩ | ⟨h1, h2⟩
          · refine .inl ⟨k2, v2, h1, ?_, h3⟩
            unfold updS
            split
            · rfl
            · exact h2
          · exact .inl ⟨k, Tri.pv a k, h2, updS_same _ _ _ _, by rw [h1]; exact Tri.pv_div h2 hn⟩)
        have hX2 := hX1.recount (c + 1)
        refine ⟨N', _, c + 1, by simpa using hX2, ((unhide HF).setCell ((unhide HFT b ⟨_, _, unhide HN⟩).imp id (fun h => by show w.heap.size ≤ b; omega)) _).setCell (.inl ⟨0, 0, (unhide HT).root⟩) _, fun i hi => (unhide HFT i hi).imp id (fun h => by omega), .inr ⟨unhide HS, rfl, rfl, rfl⟩⟩
end Go.Proofs.Ytlpmjkbpcobgdaa

/-
  The contract of (*Trie).walk: the pointers of the nodes on the way, as far as there are some.
-/
import Derived.Test.YtlpmjkbpcobgdaaTriMem
namespace Go.Proofs.Ytlpmjkbpcobgdaa
open Go.RowKit Go.Sort

theorem Try.infoNodePtr : (Try.prog.info? 91).map (fun i => (i.zero, i.size, i.bytes)) = some (some (.pointer none), 1, 8) := by kernel_rfl

theorem np_none : np none = .pointer none := rfl
theorem np_some (b : Nat) : np (some b) = .pointer (some ⟨b, 0, none⟩) := rfl
theorem ownsRow_down {w : World} {base base' : Nat} {e : TypeId} {size n : Nat} {v : Value} {xs : List Value} (h : w.ownsRow base e size v n xs) (hb : base' ≤ base) : w.ownsRow base' e size v n xs := by
  obtain ⟨h1, h2 | ⟨g, cap, cur, hv, hg, r⟩⟩ := h
  · exact ⟨h1, .inl h2⟩
  · exact ⟨h1, .inr ⟨g, cap, cur, hv, by omega, r⟩⟩

def WalkOut (N : Nat → Nat → Option Nat) (a n : Nat) (w : World) (e : Ending) (w' : World) : Prop :=
  ∃ v, e = .returned v ∧ w'.ownsRow w.heap.size 91 1 v (reach N a n + 1) (ptrs N a (reach N a n)) ∧ Below w.heap.size w w'

def WalkRel (N : Nat → Nat → Option Nat) (a n : Nat) (w : World) (p out i : Value) (wr : World) : Prop :=
  ∃ k m : Nat, k ≤ n ∧ i = .int .i64 (k : Int) ∧ reach N a k = m ∧ p = np (N k (Tri.pv a k)) ∧ wr.ownsRow (w.heap.size + 1) 91 1 out (m + 1) (ptrs N a m) ∧
    Below w.heap.size w wr ∧ Blk wr w.heap.size 88 #[.int .u32 (a : Int), .int .i64 (n : Int)]

set_option maxRecDepth 100000 in
set_option maxHeartbeats 1000000 in
theorem walk_any {w : World} {B g c : Nat} {N : Nat → Nat → Option Nat} {S : Nat → Nat → Bool} (hT : TrieAt w B g N S c) (a n : Nat) (ha : a < 4294967296) (hn : n ≤ 32) :
    Calls Try.prog 63 #[.pointer (some ⟨g, 0, none⟩), .agg #[.int .u32 (a : Int), .int .i64 (n : Int)]] w (WalkOut N a n w) := by
  obtain ⟨i0, hi, hz0, hz1, hz2⟩ := info_parts Try.infoNodePtr
  have HT := hide hT
  clear hT
  go_enter Try.func63, Try.ntmps63
  go_wp2
  go_loopw [5, 6, 7] (WalkRel N a n w) (fun _ _ i _ => n - (intOf i).toNat)
  case atStart =>
    refine ⟨0, 0, Nat.zero_le _, rfl, rfl, ?_, ?_, ((Below.refl _ _).alloc (Nat.le_refl _) _).alloc (by simp) _, (Blk.new w _ _).alloc _⟩
    · rw [Tri.pv_zero ha, (unhide HT).root]
      rfl
    · have e : ptrs N a 0 = [Value.pointer (some ⟨g, 0, none⟩)] := by
        unfold ptrs
        simp only [Nat.zero_add, List.range_one, List.map_cons, List.map_nil, Tri.pv_zero ha, (unhide HT).root]
        rfl
      rw [e]
      have := World.ownsRow_lit (base := w.heap.size + 1) (e := 91) (size := 1) (w.alloc (.cells #[.int .u32 (a : Int), .int .i64 (n : Int)] 88)) #[Value.pointer (some ⟨g, 0, none⟩)] 1 (by simp) (by decide) rfl
      simpa using this
  case round =>
    obtain ⟨k, m, hk, rfl, hm, rfl, hown, hb, hB⟩ := hrel
    have HR := hide hm
    have HO := hide hown
    have HBL := hide hb
    have hsz : w.heap.size ≤ wr.heap.size := hb.size
    have c0 : wr.cell? ⟨w.heap.size, 0, none⟩ = some (.int .u32 (a : Int)) := hB.cell 0
    have c1 : wr.cell? ⟨w.heap.size, 1, none⟩ = some (.int .i64 (n : Int)) := hB.cell 1
    have HK := hide hB
    clear hm hown hb hB
    by_cases hlt : k < n
    · rcases hN : N k (Tri.pv a k) with _ | b
      · have hfin : reach N a n = m := by rw [(unhide HT).reach_end hN (by omega) hn]; exact unhide HR
        have HF := hide hfin
        clear hfin hN
        simp only [np_none]
        go_wp2
        go_ret
        refine ⟨_, rfl, ?_, unhide HBL⟩
        rw [unhide HF]
        exact ownsRow_down (unhide HO) (by omega)
      · have hT' := (unhide HT).below (unhide HBL)
        obtain ⟨β, hβ⟩ : ∃ β, β = a / 2 ^ (31 - k) % 2 := ⟨_, rfl⟩
        have hβ2 : β < 2 := by rw [hβ]; exact Nat.mod_lt _ (by omega)
        have hpv : Tri.pv a (k + 1) = 2 * Tri.pv a k + β := by rw [hβ]; exact Tri.pv_succ (by omega)
        have hcell := hT'.kid hN hβ2
        rw [← hpv] at hcell
        have hbit : ∀ W, Calls Try.prog 65 #[.int .u32 (a : Int), .int .i64 (k : Int)] W fun e w' => e = .returned (.int .i64 (β : Int)) ∧ w' = W := fun W => hβ ▸ (bit_any a k ha (by omega) W).mono fun _ _ h => ⟨h.1, h.2.symm⟩
        have hmk : m = k := by rw [← unhide HR]; exact reach_at (by rw [hN]; rfl)
        subst hmk
        have HBIT := hide hbit
        have HPV := hide hpv
        have HN := hide hN
        clear hbit hpv hT' hβ hN
        simp only [np_some]
        rcases hN2 : N (m + 1) (Tri.pv a (m + 1)) with _ | b2
        · rw [hN2, np_none] at hcell
          have hr2 : reach N a (m + 1) = m := by rw [reach, hN2]; simpa using unhide HR
          have HN2 := hide hN2
          have HR2 := hide hr2
          clear hN2 hr2
          go_wp2_with fail
          go_quiet ((go_at_call 65; exact Calls.quiet_of_same (unhide HBIT _)))
          go_wp2_with fail
          go_roundw
          case rel => exact ⟨m + 1, m, by omega, by go_num, unhide HR2, by rw [unhide HN2]; rfl, unhide HO, below_drewN (unhide HBL) _, unhide HK⟩
          case measure => simp [intOf]; omega
        · rw [hN2, np_some] at hcell
          have hr2 : reach N a (m + 1) = m + 1 := reach_at (by rw [hN2]; rfl)
          have HN2 := hide hN2
          have HR2 := hide hr2
          clear hN2 hr2
          go_wp2_with fail
          go_quiet ((go_at_call 65; exact Calls.quiet_of_same (unhide HBIT _)))
          have hown2 : ((wr.drewN nq).alloc (.cells #[Value.pointer (some ⟨b2, 0, none⟩)] 91)).ownsRow (w.heap.size + 1) 91 1 u6 (m + 1) (ptrs N a m) := World.ownsRow.alloc (w := wr.drewN nq) (unhide HO) _
          have q1 := cell_one_new (wr.drewN nq) (Value.pointer (some ⟨b2, 0, none⟩)) 91
          have q2 : ∀ u ∈ [Value.pointer (some ⟨b2, 0, none⟩)], u.oneCell' = true := by intro u hu; simp at hu; subst hu; rfl
          have q3 : m + 1 + 1 ≤ maxLen := by unfold maxLen; omega
          have q4 : (m + 1 + 1) * 8 ≤ 140737488355328 := by omega
          have q5 : w.heap.size + 1 ≤ ((wr.drewN nq).alloc (.cells #[Value.pointer (some ⟨b2, 0, none⟩)] 91)).heap.size := by simp; omega
          have Q1 := hide q1
          have Q2 := hide q2
          have Q3 := hide q3
          have Q4 := hide q4
          have Q5 := hide q5
          have HO2 := hide hown2
          clear q1 q2 q3 q4 q5 hown2
          go_wp2_with (at_builtin; refine wpList_append_own _ rfl (.tmp 34) (.tmp 36) 130 rfl (w.heap.size + 1) 91 i0 (.pointer none) 1 8 Try.underlying130 hi hz0 hz1 hz2 rfl (by decide) u6 (m + 1) (ptrs N a m) rfl (unhide HO2) ⟨wr.heap.size, 0, none⟩ 1 1 [Value.pointer (some ⟨b2, 0, none⟩)] rfl rfl (unhide Q1) (unhide Q2) (unhide Q3) (unhide Q4) (unhide Q5) ?_; intro v' w1 hown3 hgrow _; have HO3 := hide hown3; have HG := hide hgrow; clear hown3 hgrow)
          go_roundw
          case rel =>
            have hnb : ∀ z, u6.ownBlock = some z → w.heap.size + 1 ≤ z := fun z hz => ((unhide HO).lt z hz).1
            refine ⟨m + 1, m + 1, by omega, by go_num, unhide HR2, by rw [unhide HN2]; rfl, ?_, ?_, ?_⟩
            · rw [ptrs_succ, unhide HN2]
              exact unhide HO3
            · exact (((below_drewN (unhide HBL) nq).alloc hsz _)).grown (unhide HG) (by simp; omega) (fun z hz => by have := hnb z hz; omega)
            · exact (((unhide HK).drewN nq).alloc _).grown (unhide HG) (fun e => by have := hnb _ e.symm; omega)
          case measure => simp [intOf]; omega
    · obtain rfl : k = n := by omega
      go_wp2
      go_ret
      refine ⟨_, rfl, ?_, unhide HBL⟩
      rw [unhide HR]
      exact ownsRow_down (unhide HO) (by omega)
end Go.Proofs.Ytlpmjkbpcobgdaa

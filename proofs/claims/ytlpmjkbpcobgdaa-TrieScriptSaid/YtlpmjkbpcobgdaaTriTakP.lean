/-
  A tree and the list of what is in it: put, append, take.
-/
import Derived.Test.YtlpmjkbpcobgdaaTriOrd
namespace Go.Proofs.Ytlpmjkbpcobgdaa
open Go.RowKit Go.Sort

/-- The list has what is there, each once. -/
structure ListIs (S : Nat → Nat → Bool) (c : Nat) (P : List (Nat × Nat)) : Prop where
  mem : ∀ k v, S k v = true ↔ (k, v) ∈ P
  nodup : P.Nodup
  deep : ∀ p ∈ P, p.1 ≤ 32 ∧ p.2 < 2 ^ p.1
  count : c = P.length

/-- A tree and beside it the row of a list: no block of the one is the other's. -/
def Tak (B g base : Nat) (S : Nat → Nat → Bool) (c : Nat) (P : List (Nat × Nat)) (vo : Value) (w : World) : Prop :=
  B ≤ w.heap.size ∧ base ≤ w.heap.size ∧ (∃ N, TrieAt w B g N S c ∧ ∀ i, foot N i → vo.ownBlock ≠ some i) ∧ w.ownsRow base 88 2 vo P.length (listCells P)

theorem Tak.below {B g base c : Nat} {S : Nat → Nat → Bool} {P : List (Nat × Nat)} {vo : Value} {w w' : World} (h : Tak B g base S c P vo w) (hb : Below w.heap.size w w') : Tak B g base S c P vo w' := by
  obtain ⟨h0, h1, ⟨N, h2, h3⟩, h4⟩ := h
  exact ⟨Nat.le_trans h0 hb.size, Nat.le_trans h1 hb.size, ⟨N, h2.below hb, h3⟩, h4.kept (row := none) ⟨hb.os, hb.tape, hb.output, hb.size, fun i hi _ => hb.block i hi⟩ (by cases vo.ownBlock <;> simp)⟩

theorem Frm.row {F : Nat → Prop} {w w' : World} {base n : Nat} {vo : Value} {xs : List Value} (h : w.ownsRow base 88 2 vo n xs) (hf : Frm F w w') (hn : ∀ i, vo.ownBlock = some i → ¬ F i) : w'.ownsRow base 88 2 vo n xs := by
  refine ⟨h.1, ?_⟩
  rcases h.2 with h2 | ⟨g, cap, cur, rfl, h3, h4, h5⟩
  · exact .inl h2
  · exact .inr ⟨g, cap, cur, rfl, h3, hf.blk h4 (hn g rfl), h5⟩

theorem Tak.put {B g base c : Nat} {S : Nat → Nat → Bool} {P : List (Nat × Nat)} {vo : Value} {w : World} (h : Tak B g base S c P vo w) (x : ActD) (hx : x.Ok) (hc : c < 4294967296) :
    Calls Try.prog 42 #[.pointer (some ⟨g, 0, none⟩), .agg #[.int .u32 (x.A : Int), .int .i64 x.n]] w fun e w' => e = .returned (.int .i64 (putE S x.A x.n)) ∧ Tak B g base (putS S x.A x.n) (putC S x.A x.n c) P vo w' ∧ Below B w w' := by
  obtain ⟨h0, h1, ⟨N, h2, h3⟩, h4⟩ := h
  refine (put_any h2 x.A x.n (ActD.A_lt hx) h0 hc).mono fun e w' ⟨he, N', k1, k2, k3⟩ => ⟨he, ⟨Nat.le_trans h0 k2.size, Nat.le_trans h1 k2.size, ⟨N', k1, fun i hi ho => ?_⟩, Frm.row h4 k2 (fun i ho hi => h3 i hi ho)⟩, k2.to_below h0 h2.foot_base⟩
  rcases k3 i hi with h5 | h5
  · exact h3 i h5 ho
  · have := (h4.lt i ho).2
    omega

theorem Tak.append {B g base c : Nat} {S : Nat → Nat → Bool} {P : List (Nat × Nat)} {vo vo' : Value} {w w' : World} {p : Nat × Nat} (h : Tak B g base S c P vo w)
    (h1 : w'.ownsRow base 88 2 vo' (P.length + 1) (listCells P ++ blCells p)) (h2 : w.grownBy w' vo.ownBlock) (h3 : vo'.ownBlock = vo.ownBlock ∨ vo'.ownBlock = some w.heap.size) : Tak B g base S c (P ++ [p]) vo' w' := by
  obtain ⟨k0, k1, ⟨N, k2, k3⟩, k4⟩ := h
  have hf : Frm (fun i => vo.ownBlock = some i) w w' := ⟨h2.os, h2.tape, h2.output, h2.size, fun i hi hn => h2.block i hi (fun e => hn e.symm)⟩
  refine ⟨Nat.le_trans k0 h2.size, Nat.le_trans k1 h2.size, ⟨N, k2.frm hf k3, fun i hi ho => ?_⟩, ?_⟩
  · rcases h3 with h3 | h3
    · exact k3 i hi (h3 ▸ ho)
    · rw [h3] at ho
      obtain ⟨k, v, e⟩ := hi
      have := k2.lt e
      cases ho
      omega
  · rw [List.length_append, listCells_append]
    have : listCells [p] = blCells p := by simp [listCells]
    rw [this]
    exact h1

theorem right_form {a : Nat} {n : Int} (ha : a < 4294967296) (hr : Tri.right a n = true) : ∃ m : Nat, n = (m : Int) ∧ m ≤ 32 ∧ a = Tri.pv a m * 2 ^ (32 - m) ∧ Tri.pv a m < 2 ^ m := by
  obtain ⟨h0, h32, hz⟩ := Tri.right_iff.1 hr
  obtain ⟨m, rfl⟩ := Int.eq_ofNat_of_zero_le h0
  have hm : m ≤ 32 := by omega
  rw [show (32 - (m : Int)).toNat = 32 - m from by omega] at hz
  exact ⟨m, rfl, hm, Tri.base_eq hz, Tri.pv_lt ha hm⟩

theorem ListIs.put {S : Nat → Nat → Bool} {c : Nat} {P : List (Nat × Nat)} (h : ListIs S c P) {a : Nat} {n : Int} (ha : a < 4294967296) :
    (putE S a n = 0 ∧ ∃ m : Nat, n = (m : Int) ∧ m ≤ 32 ∧ a = Tri.pv a m * 2 ^ (32 - m) ∧ ListIs (putS S a n) (putC S a n c) (P ++ [(m, Tri.pv a m)])) ∨
    (putE S a n ≠ 0 ∧ ListIs (putS S a n) (putC S a n c) P) := by
  cases hr : Tri.right a n with
  | false =>
    refine .inr ⟨by simp [putE, hr], ?_⟩
    have h2 : putS S a n = S := by simp [putS, hr]
    have h3 : putC S a n c = c := by simp [putC, putE, hr]
    rw [h2, h3]
    exact h
  | true =>
    obtain ⟨m, rfl, hm, hb, hl⟩ := right_form ha hr
    cases hs : S m (Tri.pv a m) with
    | true =>
      have h1 : putE S a (m : Int) = 6 := by simp [putE, hr, hs]
      have h2 : putS S a (m : Int) = S := by simp only [putS, hr, if_true, Int.toNat_natCast]; exact updS_self hs
      have h3 : putC S a (m : Int) c = c := by simp [putC, h1]
      rw [h1, h2, h3]
      exact .inr ⟨by decide, h⟩
    | false =>
      have h1 : putE S a (m : Int) = 0 := by simp [putE, hr, hs]
      have h2 : putS S a (m : Int) = updS S m (Tri.pv a m) true := by simp [putS, hr]
      have h3 : putC S a (m : Int) c = c + 1 := by simp [putC, h1]
      have hnot : (m, Tri.pv a m) ∉ P := fun hm' => by
        have := (h.mem _ _).2 hm'
        rw [hs] at this
        cases this
      rw [h2, h3]
      refine .inl ⟨h1, m, rfl, hm, hb, ⟨fun k v => ?_, ?_, ?_, by rw [List.length_append, h.count]; rfl⟩⟩
      · unfold updS
        rw [List.mem_append, ← h.mem]
        by_cases e : k = m ∧ v = Tri.pv a m
        · rw [if_pos e]
          simp [e.1, e.2]
        · rw [if_neg e]
          simp [e]
      · rw [List.nodup_append]
        refine ⟨h.nodup, by simp, fun p hp q hq => ?_⟩
        simp at hq
        subst hq
        exact fun e => hnot (e ▸ hp)
      · intro p hp
        rcases List.mem_append.1 hp with h5 | h5
        · exact h.deep p h5
        · simp at h5
          subst h5
          exact ⟨hm, hl⟩
end Go.Proofs.Ytlpmjkbpcobgdaa

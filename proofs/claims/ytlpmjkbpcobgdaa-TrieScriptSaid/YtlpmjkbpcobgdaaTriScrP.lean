/-
  The plain law of TrieScript: where a prefix stands in the list, which one is the best, and what a list is behind a deletion.
-/
import Derived.Test.YtlpmjkbpcobgdaaTriTak
namespace Go.Proofs.Ytlpmjkbpcobgdaa
open Go.RowKit Go.Sort

def pbase (p : Nat × Nat) : Nat := p.2 * 2 ^ (32 - p.1)
def isB (A : Nat) (n : Int) (p : Nat × Nat) : Bool := decide (pbase p = A) && decide ((p.1 : Int) = n)
theorem isB_iff {A : Nat} {n : Int} {p : Nat × Nat} : isB A n p = true ↔ pbase p = A ∧ (p.1 : Int) = n := by simp [isB]

/-- The place of the last one that is (A, n), among the first j; -1: none. -/
def findAt (P : List (Nat × Nat)) (A : Nat) (n : Int) : Nat → Int
  | 0 => -1
  | j + 1 => match P[j]? with
    | some p => if isB A n p then (j : Int) else findAt P A n j
    | none => findAt P A n j
theorem findAt_yes {P : List (Nat × Nat)} {A : Nat} {n : Int} {j : Nat} {p : Nat × Nat} (h : P[j]? = some p) (hb : isB A n p = true) : findAt P A n (j + 1) = (j : Int) := by
  simp [findAt, h, hb]
theorem findAt_no {P : List (Nat × Nat)} {A : Nat} {n : Int} {j : Nat} {p : Nat × Nat} (h : P[j]? = some p) (hb : isB A n p = false) : findAt P A n (j + 1) = findAt P A n j := by
  simp [findAt, h, hb]
theorem findAt_is {P : List (Nat × Nat)} {A : Nat} {n : Int} : ∀ (j : Nat), j ≤ P.length → (findAt P A n j = -1 ∧ ∀ i p, i < j → P[i]? = some p → isB A n p = false) ∨ ∃ (i : Nat) (p : Nat × Nat), findAt P A n j = (i : Int) ∧ i < j ∧ P[i]? = some p ∧ isB A n p = true
  | 0, _ => .inl ⟨rfl, fun i p hi => absurd hi (by omega)⟩
  | j + 1, hj => by
    obtain ⟨p, hp⟩ : ∃ p, P[j]? = some p := ⟨_, List.getElem?_eq_getElem (by omega)⟩
    cases hb : isB A n p with
    | true => exact .inr ⟨j, p, findAt_yes hp hb, by omega, hp, hb⟩
    | false =>
      rw [findAt_no hp hb]
      rcases findAt_is (P := P) (A := A) (n := n) j (by omega) with ⟨h1, h2⟩ | ⟨i, q, h1, h2, h3, h4⟩
      · refine .inl ⟨h1, fun i q hi hq => ?_⟩
        rcases Nat.lt_or_ge i j with h | h
        · exact h2 i q h hq
        · obtain rfl : i = j := by omega
          rw [hp] at hq
          cases hq
          exact hb
      · exact .inr ⟨i, q, h1, by omega, h3, h4⟩
theorem findAt_bounds {P : List (Nat × Nat)} {A : Nat} {n : Int} {j : Nat} (hj : j ≤ P.length) : -1 ≤ findAt P A n j ∧ findAt P A n j < (j : Int) + 1 := by
  rcases findAt_is (A := A) (n := n) j hj with ⟨h, _⟩ | ⟨i, _, h, hi, _⟩
  · rw [h]; omega
  · rw [h]; omega

/-- Where it stands tells whether it is there. -/
def Found (S : Nat → Nat → Bool) (P : List (Nat × Nat)) (A : Nat) (n : Int) (i : Nat) : Prop :=
  ∃ m u : Nat, P[i]? = some (m, u) ∧ A = u * 2 ^ (32 - m) ∧ n = (m : Int) ∧ m ≤ 32 ∧ u < 2 ^ m ∧ S m u = true
theorem find_end {S : Nat → Nat → Bool} {c : Nat} {P : List (Nat × Nat)} (h : ListIs S c P) {A : Nat} {n : Int} (hA : A < 4294967296) :
    (findAt P A n P.length = -1 ∧ hasF S A n = false) ∨ ∃ i : Nat, findAt P A n P.length = (i : Int) ∧ i < P.length ∧ hasF S A n = true ∧ Found S P A n i := by
  rcases findAt_is (A := A) (n := n) P.length (Nat.le_refl _) with ⟨h1, h2⟩ | ⟨i, ⟨m, u⟩, h1, h2, h3, h4⟩
  · refine .inl ⟨h1, ?_⟩
    cases hh : hasF S A n with
    | false => rfl
    | true =>
      exfalso
      unfold hasF at hh
      rw [Bool.and_eq_true] at hh
      obtain ⟨hr, hs⟩ := hh
      obtain ⟨m, rfl, hm, hb, hl⟩ := right_form hA hr
      rw [Int.toNat_natCast] at hs
      obtain ⟨i, hi⟩ := List.getElem?_of_mem ((h.mem _ _).1 hs)
      have := h2 i _ (List.getElem?_eq_some_iff.1 hi).1 hi
      rw [Bool.eq_false_iff] at this
      exact this (isB_iff.2 ⟨hb.symm, rfl⟩)
  · obtain ⟨hb, hn⟩ := isB_iff.1 h4
    have hmem := List.mem_of_getElem? h3
    obtain ⟨hm, hu⟩ := h.deep _ hmem
    have hs := (h.mem m u).2 hmem
    refine .inr ⟨i, h1, h2, ?_, m, u, h3, hb.symm, hn.symm, hm, hu, hs⟩
    subst hb
    subst hn
    unfold hasF pbase
    rw [right_bl hm, Int.toNat_natCast, Tri.pv_base]
    exact hs

/-- Is an address a prefix's? -/
def hasB (x : Nat) (p : Nat × Nat) : Bool := decide (Tri.pv x p.1 = p.2)
def better (o : Option (Nat × Nat)) (p : Nat × Nat) : Bool := match o with
  | none => true
  | some q => decide (q.1 < p.1)
/-- The smallest prefix that has an address, among the first j. -/
def bestF (P : List (Nat × Nat)) (x : Nat) : Nat → Option (Nat × Nat)
  | 0 => none
  | j + 1 => match P[j]? with
    | some p => if hasB x p && better (bestF P x j) p then some p else bestF P x j
    | none => bestF P x j
theorem bestF_yes {P : List (Nat × Nat)} {x j : Nat} {p : Nat × Nat} (h : P[j]? = some p) (h1 : hasB x p = true) (h2 : better (bestF P x j) p = true) : bestF P x (j + 1) = some p := by
  simp [bestF, h, h1, h2]
theorem bestF_no {P : List (Nat × Nat)} {x j : Nat} {p : Nat × Nat} (h : P[j]? = some p) (h1 : hasB x p = false) : bestF P x (j + 1) = bestF P x j := by
  simp [bestF, h, h1]
theorem bestF_not {P : List (Nat × Nat)} {x j : Nat} {p : Nat × Nat} (h : P[j]? = some p) (h2 : better (bestF P x j) p = false) : bestF P x (j + 1) = bestF P x j := by
  simp [bestF, h, h2]
theorem bestF_is {P : List (Nat × Nat)} {x : Nat} : ∀ (j : Nat), j ≤ P.length → (bestF P x j = none ∧ ∀ i p, i < j → P[i]? = some p → hasB x p = false) ∨
    ∃ q, bestF P x j = some q ∧ q ∈ P ∧ hasB x q = true ∧ ∀ i p, i < j → P[i]? = some p → hasB x p = true → p.1 ≤ q.1
  | 0, _ => .inl ⟨rfl, fun i p hi => absurd hi (by omega)⟩
  | j + 1, hj => by
    obtain ⟨p, hp⟩ : ∃ p, P[j]? = some p := ⟨_, List.getElem?_eq_getElem (by omega)⟩
    have last : ∀ {i : Nat} {r : Nat × Nat}, i < j + 1 → ¬ i < j → P[i]? = some r → r = p := fun {i r} hi hn hr => by
      obtain rfl : i = j := by omega
      rw [hp] at hr
      cases hr
      rfl
    rcases bestF_is (P := P) (x := x) j (by omega) with ⟨h1, h2⟩ | ⟨q, h1, h2, h3, h4⟩
    · cases hb : hasB x p with
      | true =>
        refine .inr ⟨p, bestF_yes hp hb (by rw [h1]; rfl), List.mem_of_getElem? hp, hb, fun i r hi hr hhr => ?_⟩
        by_cases h : i < j
        · rw [h2 i r h hr] at hhr
          cases hhr
        · rw [last hi h hr]
          exact Nat.le_refl _
      | false =>
        refine .inl ⟨by rw [bestF_no hp hb, h1], fun i r hi hr => ?_⟩
        by_cases h : i < j
        · exact h2 i r h hr
        · rw [last hi h hr]
          exact hb
    · cases hb : hasB x p with
      | true =>
        cases hbt : better (bestF P x j) p with
        | true =>
          have hlt : q.1 < p.1 := by
            rw [h1] at hbt
            simpa [better] using hbt
          refine .inr ⟨p, bestF_yes hp hb hbt, List.mem_of_getElem? hp, hb, fun i r hi hr hhr => ?_⟩
          by_cases h : i < j
          · exact Nat.le_of_lt (Nat.lt_of_le_of_lt (h4 i r h hr hhr) hlt)
          · rw [last hi h hr]
            exact Nat.le_refl _
        | false =>
          have hle : p.1 ≤ q.1 := by
            rw [h1] at hbt
            simpa [better] using hbt
          refine .inr ⟨q, by rw [bestF_not hp hbt, h1], h2, h3, fun i r hi hr hhr => ?_⟩
          by_cases h : i < j
          · exact h4 i r h hr hhr
          · rw [last hi h hr]
            exact hle
      | false =>
        refine .inr ⟨q, by rw [bestF_no hp hb, h1], h2, h3, fun i r hi hr hhr => ?_⟩
        by_cases h : i < j
        · exact h4 i r h hr hhr
        · rw [last hi h hr, hb] at hhr
          cases hhr
theorem best_end {S : Nat → Nat → Bool} {c : Nat} {P : List (Nat × Nat)} (h : ListIs S c P) {x : Nat} {o : Option Nat} (ho : LongP S x o) : bestF P x P.length = o.map fun k => (k, Tri.pv x k) := by
  rcases bestF_is (P := P) (x := x) P.length (Nat.le_refl _) with ⟨h1, h2⟩ | ⟨⟨m, u⟩, h1, h2, h3, h4⟩
  · rw [h1]
    cases o with
    | none => rfl
    | some k =>
      exfalso
      obtain ⟨hk, hs, _⟩ := ho
      obtain ⟨i, hi⟩ := List.getElem?_of_mem ((h.mem _ _).1 hs)
      have := h2 i _ (List.getElem?_eq_some_iff.1 hi).1 hi
      simp [hasB] at this
  · have hu : Tri.pv x m = u := by simpa [hasB] using h3
    have hm := (h.deep _ h2).1
    have hs := (h.mem m u).2 h2
    rw [h1]
    cases o with
    | none =>
      have := ho m hm
      rw [hu, hs] at this
      cases this
    | some k =>
      obtain ⟨hk, hsk, hmax⟩ := ho
      obtain ⟨i, hi⟩ := List.getElem?_of_mem ((h.mem _ _).1 hsk)
      have h5 := h4 i _ (List.getElem?_eq_some_iff.1 hi).1 hi (by simp [hasB])
      simp only at h5
      rcases Nat.lt_or_ge k m with hlt | hge
      · have := hmax m hlt hm
        rw [hu, hs] at this
        cases this
      · obtain rfl : k = m := by omega
        rw [Option.map_some, hu]

/-- Has one of the first j addresses of (A, n)? -/
def overF (P : List (Nat × Nat)) (A : Nat) (n : Int) : Nat → Bool
  | 0 => false
  | j + 1 => match P[j]? with
    | some p => overF P A n j || overlap (pbase p) p.1 A n
    | none => overF P A n j
theorem overF_next {P : List (Nat × Nat)} {A : Nat} {n : Int} {j : Nat} {p : Nat × Nat} (h : P[j]? = some p) : overF P A n (j + 1) = (overF P A n j || overlap (pbase p) p.1 A n) := by simp [overF, h]
theorem overF_is {P : List (Nat × Nat)} {A : Nat} {n : Int} : ∀ (j : Nat), j ≤ P.length → (overF P A n j = true ↔ ∃ i p, i < j ∧ P[i]? = some p ∧ overlap (pbase p) p.1 A n = true)
  | 0, _ => by simp [overF]
  | j + 1, hj => by
    obtain ⟨p, hp⟩ : ∃ p, P[j]? = some p := ⟨_, List.getElem?_eq_getElem (by omega)⟩
    rw [overF_next hp, Bool.or_eq_true, overF_is j (by omega)]
    constructor
    · rintro (⟨i, q, h1, h2, h3⟩ | h)
      · exact ⟨i, q, by omega, h2, h3⟩
      · exact ⟨j, p, by omega, hp, h⟩
    · rintro ⟨i, q, h1, h2, h3⟩
      by_cases h : i < j
      · exact .inl ⟨i, q, h, h2, h3⟩
      · obtain rfl : i = j := by omega
        rw [hp] at h2
        cases h2
        exact .inr h3
theorem overlap_bad {A B : Nat} {n m : Int} (h : Tri.right B m = false) : overlap A n B m = false := by simp [overlap, within, h]
theorem overlap_one {m u A n : Nat} (hm : m ≤ 32) (hr : Tri.right A (n : Int) = true) : overlap (u * 2 ^ (32 - m)) m A n = true ↔ (m ≤ n ∧ Tri.pv A m = u) ∨ (n ≤ m ∧ u / 2 ^ (m - n) = Tri.pv A n) := by
  unfold overlap within
  rw [right_bl hm, hr]
  simp only [Bool.true_and, Bool.or_eq_true, Bool.and_eq_true, decide_eq_true_eq, Int.toNat_natCast, Tri.pv_base]
  constructor
  · rintro (⟨h1, h2⟩ | ⟨h1, h2⟩)
    · rw [Tri.pv_of_base (by omega) hm] at h2
      exact .inr ⟨by omega, h2⟩
    · exact .inl ⟨by omega, h2⟩
  · rintro (⟨h1, h2⟩ | ⟨h1, h2⟩)
    · exact .inr ⟨by omega, h2⟩
    · refine .inl ⟨by omega, ?_⟩
      rw [Tri.pv_of_base h1 hm]
      exact h2
theorem over_end {S : Nat → Nat → Bool} {c : Nat} {P : List (Nat × Nat)} (h : ListIs S c P) {A n : Nat} (hr : Tri.right A (n : Int) = true) : overF P A n P.length = true ↔ OverP S A n := by
  rw [overF_is P.length (Nat.le_refl _)]
  unfold OverP
  constructor
  · rintro ⟨i, ⟨m, u⟩, h1, h2, h3⟩
    have hmem := List.mem_of_getElem? h2
    have hs := (h.mem m u).2 hmem
    rcases (overlap_one (h.deep _ hmem).1 hr).1 h3 with ⟨h4, h5⟩ | ⟨h4, h5⟩
    · exact .inl ⟨m, h4, by rw [h5]; exact hs⟩
    · exact .inr ⟨m, u, h4, hs, h5⟩
  · rintro (⟨k, h4, hs⟩ | ⟨k, v, h4, hs, h5⟩)
    · have hmem := (h.mem _ _).1 hs
      obtain ⟨i, hi⟩ := List.getElem?_of_mem hmem
      exact ⟨i, _, (List.getElem?_eq_some_iff.1 hi).1, hi, (overlap_one (h.deep _ hmem).1 hr).2 (.inl ⟨h4, rfl⟩)⟩
    · have hmem := (h.mem _ _).1 hs
      obtain ⟨i, hi⟩ := List.getElem?_of_mem hmem
      exact ⟨i, _, (List.getElem?_eq_some_iff.1 hi).1, hi, (overlap_one (h.deep _ hmem).1 hr).2 (.inr ⟨h4, h5⟩)⟩
theorem over_end_bad {P : List (Nat × Nat)} {A : Nat} {n : Int} (hr : Tri.right A n = false) : overF P A n P.length = false := by
  rw [Bool.eq_false_iff]
  intro h
  obtain ⟨i, p, _, _, h3⟩ := (overF_is P.length (Nat.le_refl _)).1 h
  rw [overlap_bad hr] at h3
  cases h3

/-! ### a deletion -/
theorem ListIs.erase {S : Nat → Nat → Bool} {c : Nat} {P : List (Nat × Nat)} (h : ListIs S c P) {i m u : Nat} (hi : P[i]? = some (m, u)) : ListIs (updS S m u false) (c - 1) (P.eraseIdx i) := by
  have hlt := (List.getElem?_eq_some_iff.1 hi).1
  have hget := (List.getElem?_eq_some_iff.1 hi).2
  have hnd := h.nodup
  have hmem : ∀ q, q ∈ P.eraseIdx i ↔ q ∈ P ∧ q ≠ (m, u) := fun q => by
    rw [List.mem_eraseIdx_iff_getElem]
    constructor
    · rintro ⟨j, hj, hne, rfl⟩
      refine ⟨List.getElem_mem _, fun e => hne ?_⟩
      rw [← hget] at e
      exact (List.getElem_inj hnd).1 e
    · rintro ⟨hq, hne⟩
      obtain ⟨j, hj, rfl⟩ := List.getElem_of_mem hq
      exact ⟨j, hj, fun e => hne (by subst e; exact hget), rfl⟩
  refine ⟨fun k v => ?_, hnd.sublist (List.eraseIdx_sublist _ _), fun p hp => h.deep p ((hmem p).1 hp).1, by rw [List.length_eraseIdx, if_pos hlt, h.count]⟩
  rw [hmem]
  unfold updS
  by_cases e : k = m ∧ v = u
  · rw [if_pos e, e.1, e.2]
    simp
  · rw [if_neg e, h.mem]
    constructor
    · exact fun h1 => ⟨h1, fun e2 => e ⟨congrArg Prod.fst e2, congrArg Prod.snd e2⟩⟩
    · exact fun h1 => h1.1
theorem listCells_erase (P : List (Nat × Nat)) (i : Nat) : listCells (P.eraseIdx i) = listCells (P.take i) ++ listCells (P.drop (i + 1)) := by
  rw [List.eraseIdx_eq_take_drop_succ, listCells_append]
theorem setCells_at {w : World} {g : Nat} {t : TypeId} {cs : Array Value} (h : Blk w g t cs) (o : Nat) (l : List Value) : ∃ cs' : Array Value, Blk (w.setCells g o l) g t cs' ∧ cs'.size = cs.size ∧ (∀ j, j < o → cs'[j]? = cs[j]?) ∧ (∀ j, j < l.length → o + j < cs.size → cs'[o + j]? = l[j]?) := by
  refine ⟨_, h.setCells o l, by simp, fun j hj => ?_, fun j hj hs => ?_⟩
  · rw [Array.getElem?_ofFn]
    by_cases hs : j < cs.size
    · rw [dif_pos hs]
      simp only
      rw [if_neg (by omega)]
      simp [hs]
    · rw [dif_neg hs, Array.getElem?_eq_none (by omega)]
  · rw [Array.getElem?_ofFn, dif_pos hs]
    simp only
    rw [if_pos (by omega)]
    rw [show o + j - o = j from by omega]
    simp [hj]

def Fresh (m : Nat) (w w' : World) : Prop := ∀ i t cs, m ≤ i → Blk w i t cs → Blk w' i t cs
theorem Fresh.refl (m : Nat) (w : World) : Fresh m w w := fun _ _ _ _ h => h
theorem Fresh.trans {m : Nat} {w w' w'' : World} (h : Fresh m w w') (k : Fresh m w' w'') : Fresh m w w'' := fun i t cs hi hb => k i t cs hi (h i t cs hi hb)
theorem Fresh.of_below {m : Nat} {w w' : World} (h : Below w.heap.size w w') : Fresh m w w' := fun _ _ _ _ hb => hb.below h hb.lt

theorem row_delete {w : World} {base gg cap : Nat} {P : List (Nat × Nat)} {i : Nat} (h : w.ownsRow base 88 2 (.slice (some ⟨gg, 0, none⟩) P.length cap) P.length (listCells P)) (hi : i < P.length) :
    (w.setCells gg (i * 2) (listCells (P.drop (i + 1)))).ownsRow base 88 2 (.slice (some ⟨gg, 0, none⟩) (i + (P.length - (i + 1))) cap) (P.eraseIdx i).length (listCells (P.eraseIdx i)) := by
  have hlen : (P.eraseIdx i).length = i + (P.length - (i + 1)) := by rw [List.length_eraseIdx, if_pos hi]; omega
  obtain ⟨h0, h1 | ⟨g, cp, cur, hv, hg, hb, hn, hm, hs, ht⟩⟩ := h
  · exact absurd h1.2 (by omega)
  · cases hv
    refine ⟨by rw [listCells_length], .inr ?_⟩
    have hdl : (listCells (P.drop (i + 1))).length = (P.length - (i + 1)) * 2 := by rw [listCells_length, List.length_drop]
    obtain ⟨cs', k1, k2, k3, k4⟩ := setCells_at (w := w) (g := gg) (t := 88) (cs := cur) hb (i * 2) (listCells (P.drop (i + 1)))
    refine ⟨gg, cap, cs', by rw [hlen], hg, k1, by omega, hm, by rw [k2, hs], ?_⟩
    rw [listCells_erase]
    have hcur : ∀ j, j < P.length * 2 → cur[j]? = (listCells P)[j]? := fun j hj => by
      rw [← ht, List.getElem?_take, if_pos hj]
      simp
    have happ : listCells P = listCells (P.take i) ++ listCells (P.drop i) := by rw [← listCells_append, List.take_append_drop]
    have htl : (listCells (P.take i)).length = i * 2 := by rw [listCells_length, List.length_take]; omega
    apply List.ext_getElem?
    intro j
    rw [List.getElem?_take]
    by_cases hj : j < (P.eraseIdx i).length * 2
    · rw [if_pos hj]
      rw [hlen] at hj
      rcases Nat.lt_or_ge j (i * 2) with hlt | hge
      · rw [List.getElem?_append_left (by omega)]
        have := k3 j hlt
        rw [Array.getElem?_toList, this, hcur j (by omega), happ, List.getElem?_append_left (by omega)]
      · obtain ⟨d, rfl⟩ : ∃ d, j = i * 2 + d := ⟨j - i * 2, by omega⟩
        rw [List.getElem?_append_right (by omega), htl, Nat.add_sub_cancel_left]
        have := k4 d (by omega) (by rw [hs]; omega)
        rw [Array.getElem?_toList, this]
    · rw [if_neg hj, List.getElem?_eq_none]
      rw [List.length_append, htl, hdl]
      rw [hlen] at hj
      omega

theorem Tak.delete {B g base c gg cap : Nat} {S : Nat → Nat → Bool} {P : List (Nat × Nat)} {w : World} {i : Nat} (h : Tak B g base S c P (.slice (some ⟨gg, 0, none⟩) P.length cap) w) (hi : i < P.length) (l : List Value) (hl : l = listCells (P.drop (i + 1))) :
    Tak B g base S c (P.eraseIdx i) (.slice (some ⟨gg, 0, none⟩) (i + (P.length - (i + 1))) cap) (w.setCells gg (i * 2) l) := by
  subst hl
  obtain ⟨h0, h1, ⟨N, h2, h3⟩, h4⟩ := h
  have hg := grownBy_setCells gg (listCells (P.drop (i + 1))) (i * 2) w
  have hf : Frm (fun j => j = gg) w (w.setCells gg (i * 2) (listCells (P.drop (i + 1)))) := ⟨hg.os, hg.tape, hg.output, hg.size, fun j hj hn => hg.block j hj (fun e => hn (by cases e; rfl))⟩
  exact ⟨Nat.le_trans h0 hg.size, Nat.le_trans h1 hg.size, ⟨N, h2.frm hf (fun j hj e => h3 j hj (by rw [e]; rfl)), h3⟩, row_delete h4 hi⟩

/-- How many there are, behind a take. -/
theorem take_len {S : Nat → Nat → Bool} {c m u : Nat} (hm : m ≤ 32) (hu : u < 2 ^ m) (hs : S m u = true) (h : c = (pre S 32 0 0).length) : 0 < c ∧ c - 1 = (pre (updS S m u false) 32 0 0).length := by
  have hz : u / 2 ^ (m - 0) = 0 := Nat.div_eq_of_lt (by simpa using hu)
  have := pre_len (S := S) (n := m) (u := u) (b := false) 32 (k := 0) (v := 0) (by omega) (by omega) hz
  rw [hs] at this
  simp at this
  omega

/-! ### all, in order -/
def aheadP (p q : Nat × Nat) : Prop := pbase p < pbase q ∨ (pbase p = pbase q ∧ p.1 < q.1)
theorem pre_mem {S : Nat → Nat → Bool} : ∀ (d : Nat) {k v : Nat} {p : Nat × Nat}, p ∈ pre S d k v → k ≤ p.1 ∧ p.1 ≤ k + d ∧ p.2 / 2 ^ (p.1 - k) = v ∧ S p.1 p.2 = true
  | 0, k, v, p, h => by
    unfold pre at h
    split at h
    · simp at h
      subst h
      simp_all
    · simp at h
  | d + 1, k, v, p, h => by
    unfold pre at h
    rcases List.mem_append.1 h with h | h
    · split at h
      · simp at h
        subst h
        simp_all
      · simp at h
    · have step : ∀ β, β < 2 → p ∈ pre S d (k + 1) (2 * v + β) → k ≤ p.1 ∧ p.1 ≤ k + (d + 1) ∧ p.2 / 2 ^ (p.1 - k) = v ∧ S p.1 p.2 = true := fun β hβ hp => by
        obtain ⟨h1, h2, h3, h4⟩ := pre_mem d hp
        refine ⟨by omega, by omega, ?_, h4⟩
        rw [show p.1 - k = (p.1 - (k + 1)) + 1 from by omega, Nat.pow_succ, ← Nat.div_div_eq_div_mul, h3]
        omega
      rcases List.mem_append.1 h with h | h
      · exact step 0 (by omega) h
      · exact step 1 (by omega) h
theorem pbase_bounds {k v : Nat} {p : Nat × Nat} (h1 : k ≤ p.1) (h2 : p.1 ≤ 32) (h3 : p.2 / 2 ^ (p.1 - k) = v) : v * 2 ^ (32 - k) ≤ pbase p ∧ pbase p < (v + 1) * 2 ^ (32 - k) := by
  unfold pbase
  have e : 2 ^ (32 - k) = 2 ^ (p.1 - k) * 2 ^ (32 - p.1) := by rw [← Nat.pow_add]; congr 1; omega
  have hp := Nat.two_pow_pos (p.1 - k)
  have hq := Nat.two_pow_pos (32 - p.1)
  have hd := Nat.div_add_mod p.2 (2 ^ (p.1 - k))
  have hm := Nat.mod_lt p.2 hp
  rw [h3] at hd
  rw [e, ← Nat.mul_assoc, ← Nat.mul_assoc]
  refine ⟨Nat.mul_le_mul_right _ (by rw [Nat.mul_comm]; omega), Nat.mul_lt_mul_of_pos_right ?_ hq⟩
  rw [Nat.add_mul, Nat.one_mul, Nat.mul_comm]
  omega
theorem pre_sorted {S : Nat → Nat → Bool} : ∀ (d : Nat) {k v : Nat}, k + d ≤ 32 → (pre S d k v).Pairwise aheadP
  | 0, k, v, _ => by
    unfold pre
    split <;> simp
  | d + 1, k, v, hd => by
    unfold pre
    rw [List.pairwise_append]
    refine ⟨by split <;> simp, ?_, ?_⟩
    · rw [List.pairwise_append]
      refine ⟨pre_sorted d (by omega), pre_sorted d (by omega), fun p hp q hq => .inl ?_⟩
      obtain ⟨p1, p2, p3, _⟩ := pre_mem d hp
      obtain ⟨q1, q2, q3, _⟩ := pre_mem d hq
      exact Nat.lt_of_lt_of_le (pbase_bounds p1 (by omega) p3).2 (pbase_bounds q1 (by omega) q3).1
    · intro p hp q hq
      split at hp
      · simp at hp
        subst hp
        have hq' : k + 1 ≤ q.1 ∧ q.1 ≤ 32 ∧ q.2 / 2 ^ (q.1 - k) = v := by
          have step : ∀ β, β < 2 → q ∈ pre S d (k + 1) (2 * v + β) → k + 1 ≤ q.1 ∧ q.1 ≤ 32 ∧ q.2 / 2 ^ (q.1 - k) = v := fun β hβ hq => by
            obtain ⟨h1, h2, h3, _⟩ := pre_mem d hq
            refine ⟨h1, by omega, ?_⟩
            rw [show q.1 - k = (q.1 - (k + 1)) + 1 from by omega, Nat.pow_succ, ← Nat.div_div_eq_div_mul, h3]
            omega
          rcases List.mem_append.1 hq with h | h
          · exact step 0 (by omega) h
          · exact step 1 (by omega) h
        have := (pbase_bounds (by omega) hq'.2.1 hq'.2.2).1
        have e : pbase (k, v) = v * 2 ^ (32 - k) := rfl
        unfold aheadP
        rw [e]
        simp only
        omega
      · simp at hp
end Go.Proofs.Ytlpmjkbpcobgdaa

/-
  A row of puts: what is there behind it, in whichever order; and two tries beside one another.
-/
import Derived.Test.YtlpmjkbpcobgdaaTriSeq
namespace Go.Proofs.Ytlpmjkbpcobgdaa
open Go.RowKit Go.Sort

def stepS (p : (Nat → Nat → Bool) × Nat) (x : ActD) : (Nat → Nat → Bool) × Nat := (putS p.1 x.A x.n, putC p.1 x.A x.n p.2)
def runS (l : List ActD) : (Nat → Nat → Bool) × Nat := l.foldl stepS (S0, 0)

theorem runS_succ {l : List ActD} {k : Nat} {x : ActD} (h : l[k]? = some x) : runS (l.take (k + 1)) = stepS (runS (l.take k)) x := by
  unfold runS
  rw [List.take_add_one, h, Option.toList_some, List.foldl_append, List.foldl_cons, List.foldl_nil]

theorem runS_snoc (l : List ActD) (x : ActD) : runS (l ++ [x]) = stepS (runS l) x := by
  unfold runS
  rw [List.foldl_append, List.foldl_cons, List.foldl_nil]

theorem snoc_rec {α : Type} {p : List α → Prop} (h0 : p []) (h1 : ∀ l x, p l → p (l ++ [x])) (l : List α) : p l := by
  have h : ∀ m : List α, p m.reverse := fun m => by
    induction m with
    | nil => exact h0
    | cons x m ih =>
      rw [List.reverse_cons]
      exact h1 _ _ ih
  have := h l.reverse
  rwa [List.reverse_reverse] at this

def isAt (x : ActD) (k v : Nat) : Bool := Tri.right x.A x.n && decide (x.n.toNat = k) && decide (Tri.pv x.A k = v)

theorem putS_at (S : Nat → Nat → Bool) (x : ActD) (k v : Nat) : putS S x.A x.n k v = (S k v || isAt x k v) := by
  unfold putS isAt
  cases hr : Tri.right x.A x.n with
  | false => simp
  | true =>
    simp only [if_true, Bool.true_and]
    unfold updS
    split
    · rename_i h
      obtain ⟨rfl, rfl⟩ := h
      simp
    · rename_i h
      by_cases hk : x.n.toNat = k
      · subst hk
        have : Tri.pv x.A x.n.toNat ≠ v := fun e => h ⟨rfl, e.symm⟩
        simp [this]
      · simp [hk]

theorem runS_at (l : List ActD) (k v : Nat) : (runS l).1 k v = l.any (fun x => isAt x k v) := by
  refine snoc_rec (p := fun l => (runS l).1 k v = l.any (fun x => isAt x k v)) rfl (fun l x ih => ?_) l
  · rw [runS_snoc]
    show putS (runS l).1 x.A x.n k v = _
    rw [putS_at, ih, List.any_append, List.any_cons, List.any_nil, Bool.or_false]

theorem runS_reverse (l : List ActD) : (runS l.reverse).1 = (runS l).1 := by
  funext k v
  rw [runS_at, runS_at, List.any_reverse]

theorem putC_len {S : Nat → Nat → Bool} {a : Nat} {n : Int} {c : Nat} (ha : a < 4294967296) (h : c = (pre S 32 0 0).length) : putC S a n c = (pre (putS S a n) 32 0 0).length := by
  unfold putC putE putS
  cases hr : Tri.right a n with
  | false => simp [h]
  | true =>
    obtain ⟨h0, h32, _⟩ := Tri.right_iff.1 hr
    obtain ⟨m, rfl⟩ := Int.eq_ofNat_of_zero_le h0
    have hm : m ≤ 32 := by omega
    have hz : Tri.pv a m / 2 ^ (m - 0) = 0 := Nat.div_eq_of_lt (by simpa using Tri.pv_lt ha hm)
    have := pre_len (S := S) (n := m) (u := Tri.pv a m) (b := true) 32 (k := 0) (v := 0) (by omega) (by omega) hz
    simp only [if_true, Int.toNat_natCast]
    by_cases hs : S m (Tri.pv a m) = true
    · rw [hs] at this
      rw [if_pos hs, if_neg (by decide)]
      simp at this
      omega
    · rw [Bool.eq_false_iff.2 hs] at this
      rw [if_neg hs, if_pos rfl]
      simp at this
      omega

theorem pre_S0 : ∀ (d k v : Nat), pre S0 d k v = []
  | 0, _, _ => rfl
  | d + 1, k, v => by
    unfold pre
    rw [pre_S0 d, pre_S0 d]
    rfl

theorem runS_len (l : List ActD) (h : ∀ x ∈ l, x.Ok) : (runS l).2 = (pre (runS l).1 32 0 0).length ∧ (runS l).2 ≤ l.length := by
  revert h
  refine snoc_rec (p := fun l => (∀ x ∈ l, x.Ok) → (runS l).2 = (pre (runS l).1 32 0 0).length ∧ (runS l).2 ≤ l.length) (fun _ => ⟨by show 0 = (pre S0 32 0 0).length; rw [pre_S0]; rfl, Nat.zero_le _⟩) (fun l x ih h => ?_) l
  · obtain ⟨h1, h2⟩ := ih (fun y hy => h y (List.mem_append_left _ hy))
    rw [runS_snoc]
    refine ⟨putC_len (ActD.A_lt (h x (by simp))) h1, ?_⟩
    show putC _ _ _ _ ≤ _
    unfold putC
    split <;> simp <;> omega

/-- Both tries, neither of which has a block of the other. -/
def Both (B gx gy : Nat) (SX SY : (Nat → Nat → Bool) × Nat) (w : World) : Prop :=
  B ≤ w.heap.size ∧ ∃ NX NY, TrieAt w B gx NX SX.1 SX.2 ∧ TrieAt w B gy NY SY.1 SY.2 ∧ ∀ i, foot NX i → ¬ foot NY i

theorem Both.swap {B gx gy : Nat} {SX SY : (Nat → Nat → Bool) × Nat} {w : World} (h : Both B gx gy SX SY w) : Both B gy gx SY SX w := by
  obtain ⟨h0, NX, NY, h1, h2, h3⟩ := h
  exact ⟨h0, NY, NX, h2, h1, fun i hi hj => h3 i hj hi⟩
theorem Both.below {B gx gy : Nat} {SX SY : (Nat → Nat → Bool) × Nat} {w w' : World} (h : Both B gx gy SX SY w) (hb : Below w.heap.size w w') : Both B gx gy SX SY w' := by
  obtain ⟨h0, NX, NY, h1, h2, h3⟩ := h
  exact ⟨Nat.le_trans h0 hb.size, NX, NY, h1.below hb, h2.below hb, h3⟩

theorem Both.put {B gx gy : Nat} {SX SY : (Nat → Nat → Bool) × Nat} {w : World} (h : Both B gx gy SX SY w) (x : ActD) (hx : x.Ok) (hc : SX.2 < 4294967296) :
    Calls Try.prog 42 #[.pointer (some ⟨gx, 0, none⟩), .agg #[.int .u32 (x.A : Int), .int .i64 x.n]] w fun e w' => e = .returned (.int .i64 (putE SX.1 x.A x.n)) ∧ Both B gx gy (stepS SX x) SY w' ∧ Below B w w' := by
  obtain ⟨h0, NX, NY, h1, h2, h3⟩ := h
  refine (put_any h1 x.A x.n (ActD.A_lt hx) h0 hc).mono fun e w' ⟨he, N', k1, k2, k3⟩ => ⟨he, ⟨Nat.le_trans h0 k2.size, N', NY, k1, h2.frm k2 (fun i hi hj => h3 i hj hi), fun i hi hj => ?_⟩, k2.to_below h0 h1.foot_base⟩
  rcases k3 i hi with h4 | h4
  · exact h3 i h4 hj
  · obtain ⟨k, v, e⟩ := hj
    have := h2.lt e
    omega
end Go.Proofs.Ytlpmjkbpcobgdaa

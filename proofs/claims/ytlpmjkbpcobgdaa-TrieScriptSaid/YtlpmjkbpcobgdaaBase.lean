/-
  Small words that all proofs of this seat use: what a block of cells holds, how that is kept, and the last step of a row.
-/
import Derived.Test.YtlpmjkbpcobgdaaRows
import Derived.WalkKit
import Derived.WalkSpells
import Derived.WalkLawsBesides
import Derived.ProofKit
import Derived.BigQuiet
import Derived.Deep.QuietTactic
import Derived.Deep.Draws
import Derived.Lib.Hide
import Derived.OpenShut
import Derived.Deep.RegionWith
import Derived.Deep.RegionHeld3
import Derived.Deep.RegionLaw
import Derived.Deep.AppendLies
import Derived.Deep.DeepCutAuto
import Derived.Deep.DeepFit
import Derived.Deep.DeepMust
import Derived.Deep.Slices
import Derived.Deep.Fields
import Derived.Deep.OwnShut
import Derived.Maps.AppendAt
import Derived.Lib.SmallJoins
import Derived.Deep.MidRow
import Derived.StillTailTactics
namespace Go.Proofs.Ytlpmjkbpcobgdaa
open Go.RowKit Go.WideShapes Go.ChangeShapes

/-- Block g holds just the cells cs (of element type t), none of them frozen. -/
def Blk (w : World) (g : Nat) (t : TypeId) (cs : Array Value) : Prop := w.heap[g]? = some (.cells cs t (0, 0))

section
variable {w w' : World} {g : Nat} {t : TypeId} {cs : Array Value}
theorem Blk.lt (h : Blk w g t cs) : g < w.heap.size := by
  rcases Nat.lt_or_ge g w.heap.size with hlt | hge
  · exact hlt
  · unfold Blk at h; rw [Array.getElem?_eq_none hge] at h; cases h
theorem Blk.cell (h : Blk w g t cs) (i : Nat) : w.cell? ⟨g, i, none⟩ = cs[i]? := cell_of_row w g i cs t (0, 0) h
theorem Blk.frozen (h : Blk w g t cs) (i : Nat) : w.frozen? ⟨g, i, none⟩ = false := by
  unfold Blk at h
  simp [World.frozen?, h]
theorem Blk.new (w : World) (t : TypeId) (cs : Array Value) : Blk (w.alloc (.cells cs t)) w.heap.size t cs := heap_alloc_new w _
theorem Blk.new_at {n : Nat} (hn : n = w.heap.size) : Blk (w.alloc (.cells cs t)) n t cs := by subst hn; exact heap_alloc_new w _
theorem Blk.drew (h : Blk w g t cs) : Blk w.drew g t cs := h
theorem Blk.drewN (h : Blk w g t cs) (n : Nat) : Blk (w.drewN n) g t cs := h
theorem Blk.alloc (h : Blk w g t cs) (o : Obj) : Blk (w.alloc o) g t cs := (Below.heap_alloc w o g h.lt).trans h
theorem Blk.store (h : Blk w g t cs) (i : Nat) (u : Value) : Blk (w.setCell ⟨g, i, none⟩ u) g t (cs.setIfInBounds i u) := by
  unfold Blk at h ⊢
  simp [World.setCell, Array.getElem?_modify, h]
theorem Blk.far (h : Blk w g t cs) {p : Addr} (hp : g ≠ p.block) (u : Value) : Blk (w.setCell p u) g t cs := (Below.heap_setCell w p u g hp).trans h
theorem Blk.below {B : Nat} (h : Blk w g t cs) (hb : Below B w w') (hg : g < B) : Blk w' g t cs := (hb.block g hg).trans h
theorem Blk.grown {row : Option Nat} (h : Blk w g t cs) (hb : w.grownBy w' row) (hg : some g ≠ row) : Blk w' g t cs := (hb.block g h.lt hg).trans h
end

theorem Blk.there {w : World} {g : Nat} {t : TypeId} {cs : Array Value} (h : Blk w g t cs) {o n : Nat} (hn : o + n ≤ cs.size) : w.there g o n := fun j hj =>
  ⟨by rw [h.cell, Array.getElem?_eq_getElem (by omega)]; rfl, h.frozen _⟩
theorem Blk.range {w : World} {g : Nat} {t : TypeId} {cs : Array Value} (h : Blk w g t cs) {o : Nat} {l : List Value} (hl : ∀ j v, l[j]? = some v → cs[o + j]? = some v) : w.rangeAt g o l := fun j v hv =>
  (h.cell _).trans (hl j v hv)
/-- A whole block written anew. -/
theorem Blk.setCells {w : World} {g : Nat} {t : TypeId} {cs : Array Value} (h : Blk w g t cs) (o : Nat) (l : List Value) :
    Blk (w.setCells g o l) g t (Array.ofFn (n := cs.size) fun i => if o ≤ i.val ∧ i.val < o + l.length then l.getD (i.val - o) undef else cs[i]) := by
  induction l generalizing w o cs with
  | nil =>
    have e : (Array.ofFn (n := cs.size) fun i => if o ≤ i.val ∧ i.val < o + ([] : List Value).length then ([] : List Value).getD (i.val - o) undef else cs[i]) = cs := by
      apply Array.ext
      · simp
      · intro i h1 h2
        simp only [Array.getElem_ofFn]
        exact if_neg (by rintro ⟨h3, h4⟩; simp only [List.length_nil] at h4; omega)
    rw [e]
    exact h
  | cons v r ih =>
    rw [World.setCells]
    have := ih (h.store o v) (o + 1)
    have e : ∀ (A B : Array Value), Blk (World.setCells (w.setCell ⟨g, o, none⟩ v) g (o + 1) r) g t A → A = B → Blk (World.setCells (w.setCell ⟨g, o, none⟩ v) g (o + 1) r) g t B := fun A B hA e => e ▸ hA
    refine e _ _ this ?_
    apply Array.ext
    · simp
    · intro i h1 h2
      simp only [Array.getElem_ofFn, List.length_cons, Fin.getElem_fin, Array.size_setIfInBounds, Array.size_ofFn] at h1 h2 ⊢
      by_cases h0 : i = o
      · subst h0
        rw [if_neg (by omega), if_pos (by omega)]
        simp
      · by_cases h3 : o + 1 ≤ i ∧ i < o + 1 + r.length
        · rw [if_pos h3, if_pos (by omega)]
          obtain ⟨k, rfl⟩ : ∃ k, i = o + 1 + k := ⟨i - (o + 1), by omega⟩
          rw [show o + 1 + k - (o + 1) = k from by omega, show o + 1 + k - o = k + 1 from by omega]
          simp
        · rw [if_neg h3, if_neg (by omega)]
          rw [Array.getElem_setIfInBounds_ne (by simpa using h2) (by omega)]
theorem Blk.setAll {w : World} {g : Nat} {t : TypeId} {cs cs' : Array Value} (h : Blk w g t cs) (hs : cs'.size = cs.size) : Blk (w.setCells g 0 cs'.toList) g t cs' := by
  have := h.setCells 0 cs'.toList
  have e : ∀ (A B : Array Value), Blk (w.setCells g 0 cs'.toList) g t A → A = B → Blk (w.setCells g 0 cs'.toList) g t B := fun A B hA e => e ▸ hA
  refine e _ _ this ?_
  apply Array.ext
  · simp [hs]
  · intro i h1 h2
    simp only [Array.getElem_ofFn]
    rw [if_pos (by simp; omega)]
    simp [h2]
theorem below_setCells {B : Nat} {a : World} (g : Nat) (hg : B ≤ g) (l : List Value) : ∀ (o : Nat) {w : World}, Below B a w → Below B a (w.setCells g o l) := by
  induction l with
  | nil => intro o w h; exact h
  | cons v r ih => intro o w h; rw [World.setCells]; exact ih _ (h.setCell hg v)
theorem oneCells {l : List Value} (h : l.all (·.oneCell') = true) : l.toArray.all (·.oneCell') = true := by simpa using h
theorem grownBy_setCells (g : Nat) (l : List Value) : ∀ (o : Nat) (w : World), w.grownBy (w.setCells g o l) (some g) := by
  induction l with
  | nil => intro o w; exact World.grownBy.refl w _
  | cons v r ih =>
    intro o w
    rw [World.setCells]
    have h := ih (o + 1) (w.setCell ⟨g, o, none⟩ v)
    exact ⟨h.os, h.tape, h.output, by have := h.size; simpa [World.setCell] using this, fun i hi hne => (h.block i (by simpa [World.setCell] using hi) hne).trans (Below.heap_setCell w _ v i (fun e => hne (by rw [e])))⟩
/-- A whole value is stored into a block that is known whole: the world behind it is a name. -/
theorem wpList_store_blk {P : Program} {ops : Array Oper} {rest : List Oper} {op : Oper} {a : Act} {w : World} {Q : Exit → Act → World → Prop} (hgd : op.guard = none) (ty : TypeId) (x y : Operand) (ho : op.op = .store ty x y)
    (g : Nat) (cells cs : Array Value) (t : TypeId) (hx : a.eval x = .pointer (some ⟨g, 0, none⟩)) (hy : a.eval y = .agg cells) (hB : Blk w g t cs) (hs : cells.size = cs.size)
    (hi : (P.info? ty).map (·.size) = some cells.size) (h1 : cells.all (·.oneCell') = true)
    (h : ∀ w', Blk w' g t cells → w.grownBy w' (some g) → wpList P ops Q rest (a.put op.dst undef) w') : wpList P ops Q (op :: rest) a w :=
  wpList_store_mid hgd ty x y ho g 0 cells hx hy (hB.there (by omega)) hi h1 (h _ (hB.setAll hs) (grownBy_setCells g _ _ _))
theorem hide {p : Prop} (h : p) : Hid p := h
theorem unhide {p : Prop} (h : Hid p) : p := h

theorem below_drewN {B : Nat} {a w : World} (h : Below B a w) (n : Nat) : Below B a (w.drewN n) := ⟨h.os, h.tape, h.output, h.size, h.block⟩

theorem ret_int {k : IntKind} {a b : Int} (h : a = b) : Ending.returned (.int k a) = .returned (.int k b) := by rw [h]
theorem ret_bool {a b : Bool} (h : a = b) : Ending.returned (.bool a) = .returned (.bool b) := by rw [h]

section
variable {H : Type} {enc : TypeId × Value → H} {P : Program}
/-- The row's last step, where of the world behind the call 'Below' is known. -/
theorem post_of_below {f : Func} {s : ChangeSpec} {apart fresh handsOn again : Bool} {W W' : World} {args : Array Value} {v : Value} {ds gs : List (DataW H)} {before pa pv : List MemPlace}
    (hW : DataW.Whole enc P f.params.toList s.vars apart W args.toList ds gs before)
    (hres : ∀ (b : Nat) (sp : Nat → Bool) (hd : Bool), DataW.TrodAll enc P W' b sp hd f.resultTypes.toList (v.resultList f.resultTypes.size) (s.fn H (ds ++ gs)).results [])
    (hargs : ∀ sp : Nat → Bool, (∀ p ∈ before, sp p.block = true) → DataW.TrodAll enc P W' 0 sp true f.params.toList args.toList (s.fn H (ds ++ gs)).args pa)
    (hvars : ∀ sp : Nat → Bool, (∀ p ∈ before, sp p.block = true) → DataW.TrodVars enc P W' sp s.vars (s.fn H (ds ++ gs)).vars pv)
    (hps : before = pa ++ pv) (hb : Below W.heap.size W W')
    (hok : ∀ (j : Nat) (t : TypeId) (r : Value), f.resultTypes[j]? = some t → (v.resultList f.resultTypes.size)[j]? = some r → Value.okWide P W' .any 0 t r) :
    s.post enc P f apart fresh handsOn again W args v W' := by
  have hlt : ∀ p ∈ before, p.block < W.heap.size := fun p hp => hW.lt p hp
  have hold : ∀ p ∈ before, (fun b => decide (b < W.heap.size)) p.block = true := fun p hp => by simpa using hlt p hp
  refine ⟨ds, gs, before, [], pa, pv, hW, hres _ _ _, hargs _ hold, hvars _ hold, World.keptBut_mono (fun p hp => ⟨hp, ?_⟩) (hb.frame (· ∈ before)), fun _ => ?_⟩
  · rw [hps, List.mem_append] at hp
    exact Or.inr hp
  · obtain ⟨_, _, _, _, _, hz, hn⟩ := hW
    refine ⟨hok, _, _, ([] ++ pa) ++ pv, ⟨[] ++ pa, pv, trodAll_append (hargs _ (fun _ _ => rfl)) (hres _ _ _), hvars _ (fun _ _ => rfl), rfl, ?_, ?_⟩, ?_⟩
    · intro b off hp
      have hin : MemPlace.cell b off ∈ before := by rw [hps]; simpa using hp
      rw [hb.frozen (hlt _ hin)]
      exact hz b off hin
    · intro ha
      have := hn ha
      rw [hps] at this
      simpa using this
    · intro p hp _
      rw [hps]
      simpa using hp
end
end Go.Proofs.Ytlpmjkbpcobgdaa

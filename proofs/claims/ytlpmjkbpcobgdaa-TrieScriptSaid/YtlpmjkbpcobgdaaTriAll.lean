/-
  The prefixes of a tree in order, and the contract of (*Trie).All.
-/
import Derived.Test.YtlpmjkbpcobgdaaTriTake
import Derived.Great.BuildSlice
namespace Go.Proofs.Ytlpmjkbpcobgdaa
open Go.RowKit Go.Sort

/-- The prefixes at or below (k, v), d bits deep: the greater one first, then by their bits. -/
def pre (S : Nat → Nat → Bool) : Nat → Nat → Nat → List (Nat × Nat)
  | 0, k, v => if S k v then [(k, v)] else []
  | d + 1, k, v => (if S k v then [(k, v)] else []) ++ (pre S d (k + 1) (2 * v) ++ pre S d (k + 1) (2 * v + 1))

def blCells (p : Nat × Nat) : List Value := [.int .u32 ((p.2 * 2 ^ (32 - p.1) : Nat) : Int), .int .i64 (p.1 : Int)]
def listCells (l : List (Nat × Nat)) : List Value := l.flatMap blCells
theorem listCells_append (l m : List (Nat × Nat)) : listCells (l ++ m) = listCells l ++ listCells m := by simp [listCells]
theorem listCells_length (l : List (Nat × Nat)) : (listCells l).length = l.length * 2 := by
  induction l with
  | nil => rfl
  | cons p r ih => simp [listCells, blCells] at ih ⊢; omega

theorem Try.infoBlock : (Try.prog.info? 88).map (fun i => (i.zero, i.size, i.bytes)) = some (some (.agg #[.int .u32 0, .int .i64 0]), 2, 16) := by kernel_rfl

theorem pre_none {w : World} {B g c : Nat} {N : Nat → Nat → Option Nat} {S : Nat → Nat → Bool} {X : Nat → Nat → Prop} (h : TrieX w B g N S c X) : ∀ (d : Nat) {k v : Nat}, N k v = none → pre S d k v = []
  | 0, k, v, hn => by unfold pre; rw [h.not_set hn]; rfl
  | d + 1, k, v, hn => by
    have h0 : N (k + 1) (2 * v) = none := by
      cases hq : N (k + 1) (2 * v) with
      | none => rfl
      | some b => have := h.parent k (2 * v) (by rw [hq]; rfl); rw [show 2 * v / 2 = v from by omega, hn] at this; cases this
    have h1 : N (k + 1) (2 * v + 1) = none := by
      cases hq : N (k + 1) (2 * v + 1) with
      | none => rfl
      | some b => have := h.parent k (2 * v + 1) (by rw [hq]; rfl); rw [show (2 * v + 1) / 2 = v from by omega, hn] at this; cases this
    unfold pre
    rw [h.not_set hn, pre_none h d h0, pre_none h d h1]
    rfl

theorem TrieX.frm {w w' : World} {B g c : Nat} {N : Nat → Nat → Option Nat} {S : Nat → Nat → Bool} {X : Nat → Nat → Prop} {F : Nat → Prop} (h : TrieX w B g N S c X) (hf : Frm F w w') (hn : ∀ i, foot N i → ¬ F i) : TrieX w' B g N S c X :=
  ⟨h.root, hf.blk h.head (hn g ⟨0, 0, h.root⟩), fun k v b hk e => hf.blk (h.node k v b hk e) (hn b ⟨k, v, e⟩), h.inj, h.parent, h.deep, h.set, h.live, h.base⟩

def visitF (bo bv : Nat) : Value := .func (.func 67) #[] #[.pointer (some ⟨bo, 0, none⟩), .pointer (some ⟨bv, 0, none⟩)]

/-- What the walk of All keeps. -/
structure AllCtx (w : World) (B g c : Nat) (N : Nat → Nat → Option Nat) (S : Nat → Nat → Bool) (base bo bv n : Nat) (vo : Value) (xs : List Value) : Prop where
  tree : TrieAt w B g N S c
  out : Blk w bo 105 #[vo]
  vis : Blk w bv 134 #[visitF bo bv]
  row : w.ownsRow base 88 2 vo n xs
  size : base ≤ w.heap.size
  foot_lt : ∀ i, foot N i → i < base
  bo_lt : bo < base
  bv_lt : bv < base
  bo_bv : bo ≠ bv
  bo_foot : ¬ foot N bo
  bv_foot : ¬ foot N bv

def Step (base bo : Nat) (vo : Value) (n : Nat) (xs : List Value) (L : List (Nat × Nat)) (w : World) (vo' : Value) (w' : World) : Prop :=
  Blk w' bo 105 #[vo'] ∧ w'.ownsRow base 88 2 vo' (n + L.length) (xs ++ listCells L) ∧ Frm (fun i => i = bo ∨ vo.ownBlock = some i) w w' ∧ (∀ i, vo'.ownBlock = some i → vo.ownBlock = some i ∨ w.heap.size ≤ i)

theorem Step.trans {base bo n : Nat} {vo vo1 vo2 : Value} {xs : List Value} {L M : List (Nat × Nat)} {w w1 w2 : World} (h : Step base bo vo n xs L w vo1 w1) (k : Step base bo vo1 (n + L.length) (xs ++ listCells L) M w1 vo2 w2) : Step base bo vo n xs (L ++ M) w vo2 w2 := by
  obtain ⟨h1, h2, h3, h4⟩ := h
  obtain ⟨k1, k2, k3, k4⟩ := k
  refine ⟨k1, ?_, h3.trans k3 ?_, ?_⟩
  · rw [listCells_append, List.length_append, ← List.append_assoc, ← Nat.add_assoc]
    exact k2
  · rintro i (rfl | hi)
    · exact .inl (.inl rfl)
    · rcases h4 i hi with h5 | h5
      · exact .inl (.inr h5)
      · exact .inr h5
  · intro i hi
    rcases k4 i hi with h5 | h5
    · exact h4 i h5
    · exact .inr (Nat.le_trans h3.size h5)

theorem Step.after {base bo n : Nat} {vo vo1 : Value} {xs : List Value} {L : List (Nat × Nat)} {w w0 w1 : World} (hb : Below w.heap.size w w0) (h : Step base bo vo n xs L w0 vo1 w1) : Step base bo vo n xs L w vo1 w1 :=
  ⟨h.1, h.2.1, (Frm.of_below hb).trans h.2.2.1 (fun _ hi => .inl hi), fun i hi => (h.2.2.2 i hi).imp id (fun hle => Nat.le_trans hb.size hle)⟩

theorem Step.away {base bo n : Nat} {vo vo1 : Value} {xs : List Value} {L : List (Nat × Nat)} {w w1 : World} (h : Step base bo vo n xs L w vo1 w1) {g : Nat} {t : TypeId} {cs : Array Value} (hk : Blk w g t cs) (h1 : bo ≠ g) (h2 : vo.ownBlock ≠ some g) : Blk w1 g t cs :=
  h.2.2.1.blk hk (fun hf => by
    rcases hf with hf | hf
    · exact h1 hf.symm
    · exact h2 hf)

theorem AllCtx.next {w w' : World} {B g c : Nat} {N : Nat → Nat → Option Nat} {S : Nat → Nat → Bool} {base bo bv n : Nat} {vo vo' : Value} {xs : List Value} {L : List (Nat × Nat)} (h : AllCtx w B g c N S base bo bv n vo xs)
    (h1 : Step base bo vo n xs L w vo' w') : AllCtx w' B g c N S base bo bv (n + L.length) vo' (xs ++ listCells L) :=
  ⟨h.tree.frm h1.2.2.1 (fun i hi hf => by
      rcases hf with rfl | hf
      · exact h.bo_foot hi
      · have := (h.row.lt i hf).1
        have := h.foot_lt i hi
        omega), h1.1, h1.2.2.1.blk h.vis (fun hf => by
      rcases hf with hf | hf
      · exact h.bo_bv hf.symm
      · have := (h.row.lt _ hf).1
        have := h.bv_lt
        omega), h1.2.1, Nat.le_trans h.size h1.2.2.1.size, h.foot_lt, h.bo_lt, h.bv_lt, h.bo_bv, h.bo_foot, h.bv_foot⟩
theorem AllCtx.below {w w' : World} {B g c : Nat} {N : Nat → Nat → Option Nat} {S : Nat → Nat → Bool} {base bo bv n : Nat} {vo : Value} {xs : List Value} (h : AllCtx w B g c N S base bo bv n vo xs) (hb : Below w.heap.size w w') : AllCtx w' B g c N S base bo bv n vo xs :=
  ⟨h.tree.below hb, h.out.below hb h.out.lt, h.vis.below hb h.vis.lt, h.row.kept (row := none) ⟨hb.os, hb.tape, hb.output, hb.size, fun i hi _ => hb.block i hi⟩ (by cases vo.ownBlock <;> simp), Nat.le_trans h.size hb.size, h.foot_lt, h.bo_lt, h.bv_lt, h.bo_bv, h.bo_foot, h.bv_foot⟩

set_option maxRecDepth 100000 in
set_option maxHeartbeats 400000 in
def VisitOut (base bo : Nat) (vo : Value) (n : Nat) (xs : List Value) (L : List (Nat × Nat)) (w : World) (e : Ending) (w' : World) : Prop := e = .returned (.tuple #[]) ∧ ∃ vo', Step base bo vo n xs L w vo' w'

def VisitAt (B g c : Nat) (N : Nat → Nat → Option Nat) (S : Nat → Nat → Bool) (base bo bv d : Nat) : Prop := ∀ (w : World) (n : Nat) (vo : Value) (xs : List Value) (k v b : Nat), k + d = 32 → AllCtx w B g c N S base bo bv n vo xs → N k v = some b →
    n + (pre S d k v).length ≤ 4294967296 → Calls Try.prog 67 #[.pointer (some ⟨b, 0, none⟩), bl v k, .pointer (some ⟨bo, 0, none⟩), .pointer (some ⟨bv, 0, none⟩)] w (VisitOut base bo vo n xs (pre S d k v) w)

/-- The prefix itself. -/
def one (S : Nat → Nat → Bool) (k v : Nat) : List (Nat × Nat) := if S k v then [(k, v)] else []
def CutRel (base bo : Nat) (vo : Value) (n : Nat) (xs : List Value) (L : List (Nat × Nat)) (b0 A k : Nat) (w w' : World) : Prop := (∃ vo', Step base bo vo n xs L w vo' w') ∧ Blk w' b0 88 #[.int .u32 (A : Int), .int .i64 (k : Int)]

theorem np_ptr (o : Option Nat) : ∃ p, np o = .pointer p := by cases o <;> exact ⟨_, rfl⟩

set_option maxRecDepth 100000 in
set_option maxHeartbeats 400000 in
/-- The visit of a node and of all below it. -/
theorem visit_any {B g c : Nat} {N : Nat → Nat → Option Nat} {S : Nat → Nat → Bool} {base bo bv : Nat} (d : Nat) : VisitAt B g c N S base bo bv d := by
  induction d with
  | zero =>
    intro w n vo xs k v b hk hC hN hlen
    obtain ⟨i0, hi, hz0, hz1, hz2⟩ := info_parts Try.infoBlock
    obtain ⟨c0, c1, c2⟩ := hC.tree.cells hN
    have o0 : w.cell? ⟨bo, 0, none⟩ = some vo := hC.out.cell 0
    have of : w.frozen? ⟨bo, 0, none⟩ = false := hC.out.frozen 0
    have hob := hC.out.lt
    have hbl := hC.tree.lt hN
    have hone : n + (one S k v).length ≤ 4294967296 := by
      exact hlen
    have HONE := hide hone
    have HC := hide hC
    clear hC hone
    unfold bl
    obtain ⟨A, hA⟩ : ∃ A, A = v * 2 ^ (32 - k) := ⟨_, rfl⟩
    rw [← hA]
    have HA := hide hA
    clear hA
    go_enter Try.func67, Try.ntmps67
    go_upto_if 12 with fail
    go_cut [] from 6 (fun wx => CutRel base bo vo n xs (one S k v) w.heap.size A k w wx)
    case first =>
      cases hS : S k v
      · go_wp2_with fail
        go_meet
        case rel =>
          have e : one S k v = [] := by unfold one; rw [hS]; rfl
          rw [e]
          have hb : Below w.heap.size w (w.alloc (.cells #[.int .u32 (A : Int), .int .i64 (k : Int)] 88)) := (Below.refl _ _).alloc (Nat.le_refl _) _
          have hc := (unhide HC).below hb
          exact ⟨⟨vo, hc.out, by simpa [listCells] using hc.row, Frm.of_below hb, fun _ h => .inl h⟩, Blk.new _ _ _⟩
      · have hb : Below w.heap.size w ((w.alloc (.cells #[.int .u32 (A : Int), .int .i64 (k : Int)] 88)).alloc (.cells #[.int .u32 (A : Int), .int .i64 (k : Int)] 88)) := ((Below.refl _ _).alloc (Nat.le_refl _) _).alloc (by simp) _
        have hc := (unhide HC).below hb
        have HR := hide hc.row
        have HO := hide hc.out
        have HBX := hide ((Blk.new w 88 #[.int .u32 (A : Int), .int .i64 (k : Int)]).alloc (.cells #[.int .u32 (A : Int), .int .i64 (k : Int)] 88))
        have hnew : ∀ j u, ([Value.int .u32 (A : Int), Value.int .i64 (k : Int)] : List Value)[j]? = some u → ((w.alloc (.cells #[.int .u32 (A : Int), .int .i64 (k : Int)] 88)).alloc (.cells #[.int .u32 (A : Int), .int .i64 (k : Int)] 88)).cell? ((⟨w.heap.size + 1, 0, none⟩ : Addr).add j) = some u := by
          intro j u hj
          have hz : (w.alloc (.cells #[.int .u32 (A : Int), .int .i64 (k : Int)] 88)).heap.size = w.heap.size + 1 := by simp
          have := (Blk.new_at (w := w.alloc (.cells #[.int .u32 (A : Int), .int .i64 (k : Int)] 88)) (cs := #[.int .u32 (A : Int), .int .i64 (k : Int)]) (t := 88) hz.symm).cell j
          rw [show ((⟨w.heap.size + 1, 0, none⟩ : Addr).add j) = ⟨w.heap.size + 1, j, none⟩ from by cases j <;> simp [Addr.add], this]
          simpa using hj
        have h1c : ∀ u ∈ ([Value.int .u32 (A : Int), Value.int .i64 (k : Int)] : List Value), u.oneCell' = true := by simp [Value.oneCell']
        have hlen1 : n + 1 ≤ 4294967296 := by
          have := unhide HONE
          unfold one at this
          rw [hS] at this
          simpa using this
        have h63 : n + 1 ≤ maxLen := by unfold maxLen; omega
        have hby : (n + 1) * 16 ≤ 140737488355328 := by omega
        have hbs := hc.size
        have HNEW := hide hnew
        have H1C := hide h1c
        have H63 := hide h63
        have HBY := hide hby
        have HBS := hide hbs
        have hon : ∀ i, vo.ownBlock = some i → i ≠ bo := fun i e h => by
          have := (hc.row.lt i e).1
          have := hc.bo_lt
          omega
        have HON := hide hon
        clear hc hnew h1c h63 hby hbs hlen1 hon
        generalize hW : ((w.alloc (.cells #[.int .u32 (A : Int), .int .i64 (k : Int)] 88)).alloc (.cells #[.int .u32 (A : Int), .int .i64 (k : Int)] 88)) = W2 at HR HO HBX HNEW HBS hb
        subst hW
        go_wp2_with (at_builtin; go_loud (refine wpList_append_own_at _ rfl (.tmp 13) (.tmp 15) 105 rfl base 88 i0 (.agg #[.int .u32 0, .int .i64 0]) 2 16 Try.underlying105 hi hz0 hz1 hz2 rfl (by decide) vo n xs rfl (unhide HR) ⟨w.heap.size + 1, 0, none⟩ 1 1 [Value.int .u32 (A : Int), Value.int .i64 (k : Int)] rfl rfl (unhide HNEW) (unhide H1C) (unhide H63) (unhide HBY) (unhide HBS) ?_); intro v' w1 hown hgrow _ hv; obtain ⟨g', cap', rfl, hg1, hg2⟩ := row_form hown; have HO3 := hide ((unhide HO).grown hgrow (fun e => unhide HON _ e.symm rfl)); have HBX3 := hide hgrow; have HR3 := hide hown; have HV := hide hv; clear hown hgrow hv hg1 hg2; have p0 : w1.cell? ⟨bo, 0, none⟩ = some vo := (unhide HO3).cell 0; have p1 : w1.frozen? ⟨bo, 0, none⟩ = false := (unhide HO3).frozen 0; have p2 := (unhide HO3).lt)
        go_meet
        case rel =>
          have e : one S k v = [(k, v)] := by unfold one; rw [hS]; rfl
          have e2 : listCells [(k, v)] = [Value.int .u32 (A : Int), Value.int .i64 (k : Int)] := by rw [unhide HA]; rfl
          have hw2 := hb.size
          refine ⟨⟨_, (unhide HO3).store 0 _, ?_, ?_, ?_⟩, ?_⟩
          · rw [e, e2]
            exact ownsRow_setCell_below (unhide HR3) (unhide HC).bo_lt _
          · have hg := unhide HBX3
            exact ((Frm.of_below (F := fun i => i = bo ∨ vo.ownBlock = some i) hb).trans (F' := fun i => vo.ownBlock = some i) ⟨hg.os, hg.tape, hg.output, hg.size, fun i hi hn => hg.block i hi (fun e => hn e.symm)⟩ (fun i h => .inl (.inr h))).setCell (.inl (.inl rfl)) _
          · intro i hi
            rcases unhide HV with h | h
            · exact .inl (h ▸ hi)
            · rw [h] at hi
              exact .inr (by cases hi; exact hw2)
          · refine ((unhide HBX).grown (unhide HBX3) ?_).far ?_ _
            · intro e
              have := ((unhide HC).row.lt _ e.symm).2
              omega
            · simp; omega
    case rest =>
      obtain ⟨⟨vo1, hs1⟩, hbx⟩ := hcut
      obtain rfl : k = 32 := by omega
      have hC1 := (unhide HC).next hs1
      have f0 : wc.cell? ⟨w.heap.size, 0, none⟩ = some (.int .u32 (A : Int)) := hbx.cell 0
      have f1 : wc.cell? ⟨w.heap.size, 1, none⟩ = some (.int .i64 32) := hbx.cell 1
      have hwc := hbx.lt
      have hv : v < 2 ^ 32 := (hC1.tree.deep 32 v (by rw [hN]; rfl)).2
      have half : Calls Try.prog 48 #[.agg #[.int .u32 (A : Int), .int .i64 32]] wc fun e w' => e = .returned (.tuple #[.agg #[.int .u32 0, .int .i64 0], .agg #[.int .u32 0, .int .i64 0], .bool false]) ∧ Below wc.heap.size wc w' := by
        rw [unhide HA]
        exact halves_one v hv wc
      have HALF := hide half
      have HS1 := hide hs1
      have HC1 := hide hC1
      clear c0 c1 c2 o0 of hob hbl hbx half hs1 hC1 HC hv
      go_wp2_with (go_at_call 48; refine (unhide HALF).mono ?_; rintro e w2 ⟨rfl, hb2⟩)
      refine bodyPost_ret (results_none rfl _ _ _) rfl ?_
      have hb3 : Below wc.heap.size wc ((w2.alloc (.cells #[.int .u32 0, .int .i64 0] 88)).alloc (.cells #[.int .u32 0, .int .i64 0] 88)) := (hb2.alloc hb2.size _).alloc (by have := hb2.size; simp; omega) _
      have hC2 := (unhide HC1).below hb3
      have hs := unhide HS1
      exact ⟨rfl, vo1, hC2.out, hC2.row, hs.2.2.1.below hb3, hs.2.2.2⟩
  | succ d ih =>
    intro w n vo xs k v b hk hC hN hlen
    obtain ⟨i0, hi, hz0, hz1, hz2⟩ := info_parts Try.infoBlock
    obtain ⟨c0, c1, c2⟩ := hC.tree.cells hN
    have o0 : w.cell? ⟨bo, 0, none⟩ = some vo := hC.out.cell 0
    have of : w.frozen? ⟨bo, 0, none⟩ = false := hC.out.frozen 0
    have hob := hC.out.lt
    have hbl := hC.tree.lt hN
    have hone : n + (one S k v).length ≤ 4294967296 := by
      have e : pre S (d + 1) k v = one S k v ++ (pre S d (k + 1) (2 * v) ++ pre S d (k + 1) (2 * v + 1)) := rfl
      rw [e, List.length_append] at hlen
      omega
    have HONE := hide hone
    have HC := hide hC
    clear hC hone
    unfold bl
    obtain ⟨A, hA⟩ : ∃ A, A = v * 2 ^ (32 - k) := ⟨_, rfl⟩
    rw [← hA]
    have HA := hide hA
    clear hA
    go_enter Try.func67, Try.ntmps67
    go_upto_if 12 with fail
    go_cut [] from 6 (fun wx => CutRel base bo vo n xs (one S k v) w.heap.size A k w wx)
    case first =>
      cases hS : S k v
      · go_wp2_with fail
        go_meet
        case rel =>
          have e : one S k v = [] := by unfold one; rw [hS]; rfl
          rw [e]
          have hb : Below w.heap.size w (w.alloc (.cells #[.int .u32 (A : Int), .int .i64 (k : Int)] 88)) := (Below.refl _ _).alloc (Nat.le_refl _) _
          have hc := (unhide HC).below hb
          exact ⟨⟨vo, hc.out, by simpa [listCells] using hc.row, Frm.of_below hb, fun _ h => .inl h⟩, Blk.new _ _ _⟩
      · have hb : Below w.heap.size w ((w.alloc (.cells #[.int .u32 (A : Int), .int .i64 (k : Int)] 88)).alloc (.cells #[.int .u32 (A : Int), .int .i64 (k : Int)] 88)) := ((Below.refl _ _).alloc (Nat.le_refl _) _).alloc (by simp) _
        have hc := (unhide HC).below hb
        have HR := hide hc.row
        have HO := hide hc.out
        have HBX := hide ((Blk.new w 88 #[.int .u32 (A : Int), .int .i64 (k : Int)]).alloc (.cells #[.int .u32 (A : Int), .int .i64 (k : Int)] 88))
        have hnew : ∀ j u, ([Value.int .u32 (A : Int), Value.int .i64 (k : Int)] : List Value)[j]? = some u → ((w.alloc (.cells #[.int .u32 (A : Int), .int .i64 (k : Int)] 88)).alloc (.cells #[.int .u32 (A : Int), .int .i64 (k : Int)] 88)).cell? ((⟨w.heap.size + 1, 0, none⟩ : Addr).add j) = some u := by
          intro j u hj
          have hz : (w.alloc (.cells #[.int .u32 (A : Int), .int .i64 (k : Int)] 88)).heap.size = w.heap.size + 1 := by simp
          have := (Blk.new_at (w := w.alloc (.cells #[.int .u32 (A : Int), .int .i64 (k : Int)] 88)) (cs := #[.int .u32 (A : Int), .int .i64 (k : Int)]) (t := 88) hz.symm).cell j
          rw [show ((⟨w.heap.size + 1, 0, none⟩ : Addr).add j) = ⟨w.heap.size + 1, j, none⟩ from by cases j <;> simp [Addr.add], this]
          simpa using hj
        have h1c : ∀ u ∈ ([Value.int .u32 (A : Int), Value.int .i64 (k : Int)] : List Value), u.oneCell' = true := by simp [Value.oneCell']
        have hlen1 : n + 1 ≤ 4294967296 := by
          have := unhide HONE
          unfold one at this
          rw [hS] at this
          simpa using this
        have h63 : n + 1 ≤ maxLen := by unfold maxLen; omega
        have hby : (n + 1) * 16 ≤ 140737488355328 := by omega
        have hbs := hc.size
        have HNEW := hide hnew
        have H1C := hide h1c
        have H63 := hide h63
        have HBY := hide hby
        have HBS := hide hbs
        have hon : ∀ i, vo.ownBlock = some i → i ≠ bo := fun i e h => by
          have := (hc.row.lt i e).1
          have := hc.bo_lt
          omega
        have HON := hide hon
        clear hc hnew h1c h63 hby hbs hlen1 hon
        generalize hW : ((w.alloc (.cells #[.int .u32 (A : Int), .int .i64 (k : Int)] 88)).alloc (.cells #[.int .u32 (A : Int), .int .i64 (k : Int)] 88)) = W2 at HR HO HBX HNEW HBS hb
        subst hW
        go_wp2_with (at_builtin; go_loud (refine wpList_append_own_at _ rfl (.tmp 13) (.tmp 15) 105 rfl base 88 i0 (.agg #[.int .u32 0, .int .i64 0]) 2 16 Try.underlying105 hi hz0 hz1 hz2 rfl (by decide) vo n xs rfl (unhide HR) ⟨w.heap.size + 1, 0, none⟩ 1 1 [Value.int .u32 (A : Int), Value.int .i64 (k : Int)] rfl rfl (unhide HNEW) (unhide H1C) (unhide H63) (unhide HBY) (unhide HBS) ?_); intro v' w1 hown hgrow _ hv; obtain ⟨g', cap', rfl, hg1, hg2⟩ := row_form hown; have HO3 := hide ((unhide HO).grown hgrow (fun e => unhide HON _ e.symm rfl)); have HBX3 := hide hgrow; have HR3 := hide hown; have HV := hide hv; clear hown hgrow hv hg1 hg2; have p0 : w1.cell? ⟨bo, 0, none⟩ = some vo := (unhide HO3).cell 0; have p1 : w1.frozen? ⟨bo, 0, none⟩ = false := (unhide HO3).frozen 0; have p2 := (unhide HO3).lt)
        go_meet
        case rel =>
          have e : one S k v = [(k, v)] := by unfold one; rw [hS]; rfl
          have e2 : listCells [(k, v)] = [Value.int .u32 (A : Int), Value.int .i64 (k : Int)] := by rw [unhide HA]; rfl
          have hw2 := hb.size
          refine ⟨⟨_, (unhide HO3).store 0 _, ?_, ?_, ?_⟩, ?_⟩
          · rw [e, e2]
            exact ownsRow_setCell_below (unhide HR3) (unhide HC).bo_lt _
          · have hg := unhide HBX3
            exact ((Frm.of_below (F := fun i => i = bo ∨ vo.ownBlock = some i) hb).trans (F' := fun i => vo.ownBlock = some i) ⟨hg.os, hg.tape, hg.output, hg.size, fun i hi hn => hg.block i hi (fun e => hn e.symm)⟩ (fun i h => .inl (.inr h))).setCell (.inl (.inl rfl)) _
          · intro i hi
            rcases unhide HV with h | h
            · exact .inl (h ▸ hi)
            · rw [h] at hi
              exact .inr (by cases hi; exact hw2)
          · refine ((unhide HBX).grown (unhide HBX3) ?_).far ?_ _
            · intro e
              have := ((unhide HC).row.lt _ e.symm).2
              omega
            · simp; omega
    case rest =>
      obtain ⟨⟨vo1, hs1⟩, hbx⟩ := hcut
      have hC1 := (unhide HC).next hs1
      have f0 : wc.cell? ⟨w.heap.size, 0, none⟩ = some (.int .u32 (A : Int)) := hbx.cell 0
      have f1 : wc.cell? ⟨w.heap.size, 1, none⟩ = some (.int .i64 (k : Int)) := hbx.cell 1
      have hwc := hbx.lt
      have hv : v < 2 ^ k := (hC1.tree.deep k v (by rw [hN]; rfl)).2
      obtain ⟨A1, hA1⟩ : ∃ A1, A1 = 2 * v * 2 ^ (32 - (k + 1)) := ⟨_, rfl⟩
      obtain ⟨A2, hA2⟩ : ∃ A2, A2 = (2 * v + 1) * 2 ^ (32 - (k + 1)) := ⟨_, rfl⟩
      obtain ⟨K1, hK1⟩ : ∃ K1, K1 = k + 1 := ⟨_, rfl⟩
      have half : ∀ W, Calls Try.prog 48 #[.agg #[.int .u32 (A : Int), .int .i64 (k : Int)]] W fun e w' => e = .returned (.tuple #[.agg #[.int .u32 (A1 : Int), .int .i64 (K1 : Int)], .agg #[.int .u32 (A2 : Int), .int .i64 (K1 : Int)], .bool true]) ∧ Below W.heap.size W w' := fun W => by
        have := halves_bl v k (by omega) hv W
        unfold bl at this
        rw [unhide HA, hA1, hA2, hK1]
        exact this
      have HALF := hide half
      have HS1 := hide hs1
      have HC1 := hide hC1
      have HA1 := hide hA1
      have HA2 := hide hA2
      have HK1 := hide hK1
      clear c0 c1 c2 o0 of hob hbl hbx half hs1 hC1 hA1 hA2 hK1 HC hv
      go_upto_if 30 with (go_at_call 48; refine (unhide HALF _).mono ?_; rintro e w2 ⟨rfl, hb2⟩; have HC2 := hide ((unhide HC1).below hb2); have HB2 := hide hb2; clear HALF hb2; obtain ⟨_, c1, c2⟩ := (unhide HC2).tree.cells hN; obtain ⟨p1, hp1⟩ : ∃ p1, np (N (k + 1) (2 * v)) = .pointer p1 := np_ptr _; obtain ⟨p2, hp2⟩ : ∃ p2, np (N (k + 1) (2 * v + 1)) = .pointer p2 := np_ptr _; rw [hp1] at c1; rw [hp2] at c2; have hbl := (unhide HC2).tree.lt hN; have hbv := (unhide HC2).vis.lt; have v0 : w2.cell? ⟨bv, 0, none⟩ = some (.func (.func 67) #[] #[.pointer (some ⟨bo, 0, none⟩), .pointer (some ⟨bv, 0, none⟩)]) := (unhide HC2).vis.cell 0)
      have hb3 : Below w2.heap.size w2 ((w2.alloc (.cells #[.int .u32 (A1 : Int), .int .i64 (K1 : Int)] 88)).alloc (.cells #[.int .u32 (A2 : Int), .int .i64 (K1 : Int)] 88)) := ((Below.refl _ _).alloc (Nat.le_refl _) _).alloc (by simp) _
      have hBL := (Blk.new w2 88 #[.int .u32 (A1 : Int), .int .i64 (K1 : Int)]).alloc (.cells #[.int .u32 (A2 : Int), .int .i64 (K1 : Int)] 88)
      have hBR := Blk.new_at (w := w2.alloc (.cells #[.int .u32 (A1 : Int), .int .i64 (K1 : Int)] 88)) (n := w2.heap.size + 1) (cs := #[.int .u32 (A2 : Int), .int .i64 (K1 : Int)]) (t := 88) (by simp)
      clear c1 c2 v0 hbl hbv f0 f1
      generalize ((w2.alloc (.cells #[.int .u32 (A1 : Int), .int .i64 (K1 : Int)] 88)).alloc (.cells #[.int .u32 (A2 : Int), .int .i64 (K1 : Int)] 88)) = W3 at hb3 hBL hBR ⊢
      have hC3 := (unhide HC2).below hb3
      obtain ⟨_, c1, c2⟩ := hC3.tree.cells hN
      rw [hp1] at c1
      rw [hp2] at c2
      have v0 : W3.cell? ⟨bv, 0, none⟩ = some (.func (.func 67) #[] #[.pointer (some ⟨bo, 0, none⟩), .pointer (some ⟨bv, 0, none⟩)]) := hC3.vis.cell 0
      have l0 : W3.cell? ⟨w2.heap.size, 0, none⟩ = some (.int .u32 (A1 : Int)) := hBL.cell 0
      have l1 : W3.cell? ⟨w2.heap.size, 1, none⟩ = some (.int .i64 (K1 : Int)) := hBL.cell 1
      have hvo1 : ∀ i, vo1.ownBlock = some i → i < w2.heap.size := fun i e => ((unhide HC2).row.lt i e).2
      have hbo2 : bo < w2.heap.size := (unhide HC2).out.lt
      have HC3 := hide hC3
      have HBL := hide hBL
      have HBR := hide hBR
      have HB3 := hide hb3
      have HVO := hide hvo1
      have HBO := hide hbo2
      clear hC3 hBL hBR hb3 hvo1 hbo2
      have hlen' : n + (one S k v).length + (pre S d (k + 1) (2 * v)).length + (pre S d (k + 1) (2 * v + 1)).length ≤ 4294967296 := by
        have e : pre S (d + 1) k v = one S k v ++ (pre S d (k + 1) (2 * v) ++ pre S d (k + 1) (2 * v + 1)) := rfl
        rw [e, List.length_append, List.length_append] at hlen
        omega
      have HLEN := hide hlen'
      clear hlen hlen'
      go_cut [] from 31 (fun wx => CutRel base bo vo1 (n + (one S k v).length) (xs ++ listCells (one S k v)) (pre S d (k + 1) (2 * v)) (w2.heap.size + 1) A2 K1 W3 wx)
      case first =>
        cases hN0 : N (k + 1) (2 * v) with
        | none =>
          obtain rfl : p1 = none := by simpa [np, hN0] using hp1.symm
          have e := pre_none (unhide HC3).tree d hN0
          go_wp2_with fail
          go_meet
          case rel =>
            rw [e]
            exact ⟨⟨vo1, (unhide HC3).out, by simpa [listCells] using (unhide HC3).row, Frm.refl _ _, fun _ h => .inl h⟩, unhide HBR⟩
        | some b1 =>
          obtain rfl : p1 = some ⟨b1, 0, none⟩ := by simpa [np, hN0] using hp1.symm
          have r : Calls Try.prog 67 #[.pointer (some ⟨b1, 0, none⟩), .agg #[.int .u32 (A1 : Int), .int .i64 (K1 : Int)], .pointer (some ⟨bo, 0, none⟩), .pointer (some ⟨bv, 0, none⟩)] W3.drew (VisitOut base bo vo1 (n + (one S k v).length) (xs ++ listCells (one S k v)) (pre S d (k + 1) (2 * v)) W3.drew) := by
            rw [unhide HA1, unhide HK1]
            exact ih _ _ _ _ (k + 1) (2 * v) b1 (by omega) ((unhide HC3).below (Below.refl _ _).drew) hN0 (by have := unhide HLEN; omega)
          have R := hide r
          clear r
          go_wp2_with fail
          go_region_held3 (fun w' => w'.cell? ⟨bv, 0, none⟩ = some (.func (.func 67) #[] #[.pointer (some ⟨bo, 0, none⟩), .pointer (some ⟨bv, 0, none⟩)]) ∧ w'.cell? ⟨b, 1, none⟩ = some (.pointer (some ⟨b1, 0, none⟩)) ∧ w'.cell? ⟨w2.heap.size, 0, none⟩ = some (.int .u32 (A1 : Int)) ∧ w'.cell? ⟨w2.heap.size, 1, none⟩ = some (.int .i64 (K1 : Int)))
            (first | (go_keep; done))
            (first | (go_at_call 67; refine (unhide R).mono ?_; rintro e w' ⟨rfl, vo2, hs2⟩; have hs3 := hs2.after (w := W3) (Below.refl _ _).drew; have hC4 := (unhide HC3).next hs3; have q1 : w'.cell? ⟨bv, 0, none⟩ = some (.func (.func 67) #[] #[.pointer (some ⟨bo, 0, none⟩), .pointer (some ⟨bv, 0, none⟩)]) := hC4.vis.cell 0; have q2 : w'.cell? ⟨b, 1, none⟩ = some (.pointer (some ⟨b1, 0, none⟩)) := (by rw [(hC4.tree.cells hN).2.1, hN0]; rfl); have hL := hs3.away (unhide HBL) (Nat.ne_of_lt (unhide HBO)) (fun e => absurd (unhide HVO _ e) (Nat.lt_irrefl _)); have q3 : w'.cell? ⟨w2.heap.size, 0, none⟩ = some (.int .u32 (A1 : Int)) := hL.cell 0; have q4 : w'.cell? ⟨w2.heap.size, 1, none⟩ = some (.int .i64 (K1 : Int)) := hL.cell 1))
          go_wp2_with fail
          go_meet
          case rel => exact ⟨⟨vo2, hs3⟩, hs3.away (unhide HBR) (Nat.ne_of_lt (Nat.lt_succ_of_lt (unhide HBO))) (fun e => absurd (unhide HVO _ e) (by omega))⟩
      case rest =>
        obtain ⟨⟨vo2, hs2⟩, hbr⟩ := hcut
        have hC4 := (unhide HC3).next hs2
        rename World => W4
        clear c1 c2 v0 l0 l1
        obtain ⟨_, _, c2⟩ := hC4.tree.cells hN
        rw [hp2] at c2
        have v0 : W4.cell? ⟨bv, 0, none⟩ = some (.func (.func 67) #[] #[.pointer (some ⟨bo, 0, none⟩), .pointer (some ⟨bv, 0, none⟩)]) := hC4.vis.cell 0
        have l0 : W4.cell? ⟨w2.heap.size + 1, 0, none⟩ = some (.int .u32 (A2 : Int)) := hbr.cell 0
        have l1 : W4.cell? ⟨w2.heap.size + 1, 1, none⟩ = some (.int .i64 (K1 : Int)) := hbr.cell 1
        have HS2 := hide hs2
        have HC4 := hide hC4
        have HBR4 := hide hbr
        have hOut : ∀ w' vo3, Step base bo vo2 (n + (one S k v).length + (pre S d (k + 1) (2 * v)).length) (xs ++ listCells (one S k v) ++ listCells (pre S d (k + 1) (2 * v))) (pre S d (k + 1) (2 * v + 1)) W4 vo3 w' → VisitOut base bo vo n xs (pre S (d + 1) k v) w (.returned (.tuple #[])) w' := fun _ _ hs4 =>
          ⟨rfl, _, (unhide HS1).trans ((hs2.trans hs4).after ((unhide HB2).trans ((unhide HB3).mono (unhide HB2).size)))⟩
        have HOUT := hide hOut
        have hw2 : w2.heap.size + 1 < W4.heap.size := hbr.lt
        have hvo2 : vo2.ownBlock ≠ some (w2.heap.size + 1) := fun e => by
          have h3 := (unhide HBR).lt
          rcases hs2.2.2.2 _ e with h | h
          · have := unhide HVO _ h
            omega
          · omega
        have HVO4 := hide hvo2
        clear hs2 hC4 hbr hOut hvo2
        cases hN1 : N (k + 1) (2 * v + 1) with
        | none =>
          obtain rfl : p2 = none := by simpa [np, hN1] using hp2.symm
          have e := pre_none (unhide HC4).tree d hN1
          go_wp2_with fail
          refine bodyPost_ret (results_none rfl _ _ _) rfl (unhide HOUT _ vo2 ?_)
          rw [e]
          exact ⟨(unhide HC4).out, by simpa [listCells] using (unhide HC4).row, Frm.refl _ _, fun _ h => .inl h⟩
        | some b1 =>
          obtain rfl : p2 = some ⟨b1, 0, none⟩ := by simpa [np, hN1] using hp2.symm
          have r : Calls Try.prog 67 #[.pointer (some ⟨b1, 0, none⟩), .agg #[.int .u32 (A2 : Int), .int .i64 (K1 : Int)], .pointer (some ⟨bo, 0, none⟩), .pointer (some ⟨bv, 0, none⟩)] W4.drew (VisitOut base bo vo2 (n + (one S k v).length + (pre S d (k + 1) (2 * v)).length) (xs ++ listCells (one S k v) ++ listCells (pre S d (k + 1) (2 * v))) (pre S d (k + 1) (2 * v + 1)) W4.drew) := by
            rw [unhide HA2, unhide HK1]
            exact ih _ _ _ _ (k + 1) (2 * v + 1) b1 (by omega) ((unhide HC4).below (Below.refl _ _).drew) hN1 (by have := unhide HLEN; omega)
          have R := hide r
          clear r
          go_wp2_with fail
          go_region_held3 (fun w' => w'.cell? ⟨bv, 0, none⟩ = some (.func (.func 67) #[] #[.pointer (some ⟨bo, 0, none⟩), .pointer (some ⟨bv, 0, none⟩)]) ∧ w'.cell? ⟨b, 2, none⟩ = some (.pointer (some ⟨b1, 0, none⟩)) ∧ w'.cell? ⟨w2.heap.size + 1, 0, none⟩ = some (.int .u32 (A2 : Int)) ∧ w'.cell? ⟨w2.heap.size + 1, 1, none⟩ = some (.int .i64 (K1 : Int)))
            (first | (go_keep; done))
            (first | (go_at_call 67; refine (unhide R).mono ?_; rintro e w' ⟨rfl, vo3, hs3⟩; have hs4 := hs3.after (w := W4) (Below.refl _ _).drew; have hC5 := (unhide HC4).next hs4; have q1 : w'.cell? ⟨bv, 0, none⟩ = some (.func (.func 67) #[] #[.pointer (some ⟨bo, 0, none⟩), .pointer (some ⟨bv, 0, none⟩)]) := hC5.vis.cell 0; have q2 : w'.cell? ⟨b, 2, none⟩ = some (.pointer (some ⟨b1, 0, none⟩)) := (by rw [(hC5.tree.cells hN).2.2, hN1]; rfl); have hL := hs4.away (unhide HBR4) (Nat.ne_of_lt (Nat.lt_succ_of_lt (unhide HBO))) (unhide HVO4); have q3 : w'.cell? ⟨w2.heap.size + 1, 0, none⟩ = some (.int .u32 (A2 : Int)) := hL.cell 0; have q4 : w'.cell? ⟨w2.heap.size + 1, 1, none⟩ = some (.int .i64 (K1 : Int)) := hL.cell 1))
          go_wp2_with fail
          exact bodyPost_ret (results_none rfl _ _ _) rfl (unhide HOUT _ vo3 hs4)

theorem wpList_store_blk1 {P : Program} {ops : Array Oper} {rest : List Oper} {op : Oper} {a : Act} {w : World} {Q : Exit → Act → World → Prop} (hgd : op.guard = none) (ty : TypeId) (x y : Operand) (ho : op.op = .store ty x y)
    (g : Nat) (v old : Value) (t : TypeId) (hx : a.eval x = .pointer (some ⟨g, 0, none⟩)) (hy : a.eval y = v) (h1 : v.oneCell' = true) (hB : Blk w g t #[old]) (hi : (P.info? ty).map (·.size) = some 1)
    (h : ∀ w', Blk w' g t #[v] → w.grownBy w' (some g) → wpList P ops Q rest (a.put op.dst undef) w') : wpList P ops Q (op :: rest) a w := by
  subst hy
  refine wpList_store_one hgd ty x y ho g hx h1 t old hB hi (h _ ?_ ?_)
  · exact setRow_heap w g _ _ t _ hB
  · exact ⟨rfl, rfl, rfl, by simp, fun i _ hne => setRow_other w g i _ (fun e => hne (by rw [e]))⟩

def AllOut (S : Nat → Nat → Bool) (w : World) (e : Ending) (w' : World) : Prop := ∃ vo, e = .returned vo ∧ w'.ownsRow w.heap.size 88 2 vo (pre S 32 0 0).length (listCells (pre S 32 0 0)) ∧ Below w.heap.size w w'

set_option maxHeartbeats 400000 in
theorem all_any {w : World} {B g c : Nat} {N : Nat → Nat → Option Nat} {S : Nat → Nat → Bool} (hT : TrieAt w B g N S c) (hlen : (pre S 32 0 0).length ≤ 4294967296) :
    Calls Try.prog 46 #[.pointer (some ⟨g, 0, none⟩)] w (AllOut S w) := by
  have HT := hide hT
  have HLEN := hide hlen
  clear hT hlen
  go_enter Try.func46, Try.ntmps46
  go_wp2_with (refine wpList_store_blk1 rfl 134 (.tmp 4) (.tmp 5) rfl (w.heap.size + 1) (visitF w.heap.size (w.heap.size + 1)) .nilFunc 134 rfl rfl rfl (Blk.new_at (by simp)) (by kernel_rfl) ?_; intro W3 hv hg; have HV := hide hv; have HG := hide hg; clear hv hg; have v0 : W3.cell? ⟨w.heap.size + 1, 0, none⟩ = some (.func (.func 67) #[] #[.pointer (some ⟨w.heap.size, 0, none⟩), .pointer (some ⟨w.heap.size + 1, 0, none⟩)]) := (unhide HV).cell 0)
  have hb3 : Below w.heap.size w W3 := (((Below.refl w.heap.size w).alloc (Nat.le_refl _) (.cells #[.slice none 0 0] 105)).alloc (by simp) (.cells #[.nilFunc] 134)).grown (unhide HG) (by simp; omega) (fun z hz => by cases hz; omega)
  have hsz : w.heap.size + 2 ≤ W3.heap.size := by have := (unhide HG).size; simp at this; omega
  have hctx : AllCtx W3 B g c N S (w.heap.size + 2) w.heap.size (w.heap.size + 1) 0 (.slice none 0 0) [] :=
    ⟨(unhide HT).below hb3, (((Blk.new w 105 #[.slice none 0 0]).alloc _)).grown (unhide HG) (by simp), unhide HV, ⟨rfl, .inl ⟨rfl, rfl⟩⟩, hsz, fun i ⟨k, v, hi⟩ => by have := (unhide HT).lt hi; omega, by omega, by omega, by omega, fun ⟨k, v, hi⟩ => by have := (unhide HT).lt hi; omega, fun ⟨k, v, hi⟩ => by have := (unhide HT).lt hi; omega⟩
  have r : Calls Try.prog 67 #[.pointer (some ⟨g, 0, none⟩), .agg #[.int .u32 0, .int .i64 0], .pointer (some ⟨w.heap.size, 0, none⟩), .pointer (some ⟨w.heap.size + 1, 0, none⟩)] W3.drew (VisitOut (w.heap.size + 2) w.heap.size (.slice none 0 0) 0 [] (pre S 32 0 0) W3.drew) :=
    visit_any 32 _ _ _ _ 0 0 g rfl (hctx.below (Below.refl _ _).drew) (unhide HT).root (by have := unhide HLEN; omega)
  have R := hide r
  have HB3 := hide hb3
  clear r hctx hb3
  go_region_held3 (fun w' => w'.cell? ⟨w.heap.size + 1, 0, none⟩ = some (.func (.func 67) #[] #[.pointer (some ⟨w.heap.size, 0, none⟩), .pointer (some ⟨w.heap.size + 1, 0, none⟩)]))
    (first | (go_keep; done))
    (first | (go_at_call 67; refine (unhide R).mono ?_; rintro e w' ⟨rfl, vo2, hs2⟩; have q1 : w'.cell? ⟨w.heap.size + 1, 0, none⟩ = some (.func (.func 67) #[] #[.pointer (some ⟨w.heap.size, 0, none⟩), .pointer (some ⟨w.heap.size + 1, 0, none⟩)]) := (hs2.away ((unhide HV).drew) (by omega) (by simp [Value.ownBlock])).cell 0))
  have o0 : w'.cell? ⟨w.heap.size, 0, none⟩ = some vo2 := hs2.1.cell 0
  go_wp2_with fail
  refine bodyPost_ret (v := vo2) (by simp [results, Try.results46, go_sem]) rfl ⟨vo2, rfl, ?_, ?_⟩
  · obtain ⟨h1, h2⟩ := hs2.2.1
    have : w'.ownsRow w.heap.size 88 2 vo2 (0 + (pre S 32 0 0).length) ([] ++ listCells (pre S 32 0 0)) := ⟨h1, h2.imp id fun ⟨g, cap, cur, k1, k2, k3⟩ => ⟨g, cap, cur, k1, by omega, k3⟩⟩
    simpa using this
  · exact (unhide HB3).trans ((((Below.refl W3.heap.size W3).drew).mono (by omega)).trans (hs2.2.2.1.to_below (by show w.heap.size ≤ W3.heap.size; omega) (fun i hi => by
      rcases hi with rfl | hi
      · exact Nat.le_refl _
      · simp [Value.ownBlock] at hi)))

end Go.Proofs.Ytlpmjkbpcobgdaa

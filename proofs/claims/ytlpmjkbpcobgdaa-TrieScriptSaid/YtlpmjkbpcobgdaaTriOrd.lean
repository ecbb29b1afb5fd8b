/-
  The walk of TrieOrder.
-/
import Derived.Test.YtlpmjkbpcobgdaaTriOrdP
namespace Go.Proofs.Ytlpmjkbpcobgdaa
open Go.RowKit Go.Sort

def OrdRel (L : List ActD) (B gx gy : Nat) (w : World) (i : Value) (wr : World) : Prop :=
  ∃ k : Nat, k ≤ L.length ∧ i = .int .i64 (k : Int) ∧ Both B gx gy (runS (L.take k)) (runS (L.reverse.take k)) wr ∧ Below w.heap.size w wr

theorem rangeAt_below {w w' : World} {b o : Nat} {cs : List Value} (hb : Below w.heap.size w w') (h : w.rangeAt b o cs) : w'.rangeAt b o cs := fun j v hv => by
  have h1 := h j v hv
  exact (hb.cell (block_lt_of_cell h1)).trans h1

theorem TrieX.to_base {w : World} {B B' g c : Nat} {N : Nat → Nat → Option Nat} {S : Nat → Nat → Bool} {X : Nat → Nat → Prop} (h : TrieX w B g N S c X) (hB : B' ≤ B) : TrieX w B' g N S c X :=
  ⟨h.root, h.head, h.node, h.inj, h.parent, h.deep, h.set, h.live, fun k v b e => Nat.le_trans hB (h.base k v b e)⟩

theorem both_new (w : World) : Both w.heap.size w.heap.size (w.heap.size + 1) (S0, 0) (S0, 0) ((w.alloc (.cells #[.bool false, .pointer none, .pointer none, .int .i64 0] 96)).alloc (.cells #[.bool false, .pointer none, .pointer none, .int .i64 0] 96)) := by
  have hz : (w.alloc (.cells #[.bool false, .pointer none, .pointer none, .int .i64 0] 96)).heap.size = w.heap.size + 1 := by simp
  have h2 := trie_new (w.alloc (.cells #[.bool false, .pointer none, .pointer none, .int .i64 0] 96))
  rw [hz] at h2
  refine ⟨by simp; omega, N0 w.heap.size, N0 (w.heap.size + 1), (trie_new w).below ((Below.refl _ _).alloc (Nat.le_refl _) _), h2.to_base (by omega), ?_⟩
  rintro i ⟨k, v, e⟩ ⟨k', v', e'⟩
  have h3 := (N0_some e).2.2
  have h4 := (N0_some e').2.2
  omega

theorem row_shape {w : World} {base : Nat} {e : TypeId} {v : Value} {n : Nat} {xs : List Value} (h : w.ownsRow base e 2 v n xs) :
    ∃ sa cp, v = .slice sa n cp ∧ n ≤ cp ∧ ∀ i, i < n → ∃ g, sa = some ⟨g, 0, none⟩ ∧ w.cell? ⟨g, i * 2, none⟩ = xs[i * 2]? ∧ w.cell? ⟨g, i * 2 + 1, none⟩ = xs[i * 2 + 1]? := by
  have h0 := h
  rcases h.2 with ⟨rfl, rfl⟩ | ⟨g, cap, cur, rfl, _, _, h3, _⟩
  · exact ⟨none, 0, rfl, Nat.le_refl _, fun i hi => absurd hi (by omega)⟩
  · exact ⟨_, _, rfl, h3, fun i hi => ⟨g, rfl, h0.cellAt (i * 2) (by omega), h0.cellAt (i * 2 + 1) (by omega)⟩⟩

theorem listCells_at : ∀ (P : List (Nat × Nat)) (i : Nat) (p : Nat × Nat), P[i]? = some p → (listCells P)[i * 2]? = some (.int .u32 ((p.2 * 2 ^ (32 - p.1) : Nat) : Int)) ∧ (listCells P)[i * 2 + 1]? = some (.int .i64 (p.1 : Int))
  | q :: P, 0, p, h => by
    obtain rfl : q = p := by simpa using h
    exact ⟨rfl, rfl⟩
  | q :: P, i + 1, p, h => by
    have := listCells_at P i p (by simpa using h)
    have e : listCells (q :: P) = blCells q ++ listCells P := rfl
    rw [e, show (i + 1) * 2 = i * 2 + 1 + 1 from by omega]
    exact this

def SameRel (n : Nat) (W : World) (i : Value) (wr : World) : Prop := ∃ k : Nat, k ≤ n ∧ i = .int .i64 (k : Int) ∧ Below W.heap.size W wr

set_option maxRecDepth 100000 in
set_option maxHeartbeats 400000 in
theorem order_any (l : List ActD) (v : Value) (w : World) (hA : ActsAt w v l) :
    Calls Try.prog 8 #[v] w fun e w' => e = .returned (.bool true) ∧ Below w.heap.size w w' := by
  obtain ⟨sa, cap, rfl, hcap, hmax, hl⟩ := hA
  have HL := hide hl
  clear hl
  go_enter Try.func8, Try.ntmps8
  go_wp2_with fail
  refine (trie_awake _).mono ?_
  rintro e w1 ⟨rfl, hb1⟩
  have L1 := hide hb1
  clear hb1
  obtain ⟨L, hL⟩ : ∃ L, L = l.take 60 := ⟨_, rfl⟩
  have hL60 : L.length ≤ 60 := by rw [hL, List.length_take]; omega
  have hLl : L.length ≤ l.length := by rw [hL, List.length_take]; omega
  have hact : ∀ i x, L[i]? = some x → x.Ok ∧ ∃ b o, sa = some ⟨b, o, none⟩ ∧ w.rangeAt b (o + i * 6) (actCells x) := fun i x hx => by
    rw [hL, List.getElem?_take] at hx
    split at hx
    · exact unhide HL i x hx
    · cases hx
  have hok : ∀ z ∈ L, z.Ok := fun z hz => by
    obtain ⟨i, hi⟩ := List.getElem?_of_mem hz
    exact (hact i z hi).1
  have HACT := hide hact
  have HOK := hide hok
  clear hact HL hok
  go_upto_region 4 with fail
  go_cut [0] from 15 (fun s0 wx => s0 = .slice sa L.length cap ∧ wx = (w1.alloc (.cells #[.bool false, .pointer none, .pointer none, .int .i64 0] 96)).alloc (.cells #[.bool false, .pointer none, .pointer none, .int .i64 0] 96))
  case first =>
    have hmm : (l.length : Int) ≤ 60 → L.length = l.length := fun h => by rw [hL, List.length_take]; omega
    have hmm2 : 60 < (l.length : Int) → L.length = 60 := fun h => by rw [hL, List.length_take]; omega
    go_wp2_with fail
    all_goals
      go_meet
      case rel =>
        refine ⟨?_, rfl⟩
        first
          | (rw [hmm (by omega)]; done)
          | (rw [hmm2 (by omega)]; done)
  case rest =>
    clear hL
    obtain ⟨rfl, rfl⟩ := hcut
    have hb0 := both_new w1
    have hbl : Below w.heap.size w ((w1.alloc (.cells #[.bool false, .pointer none, .pointer none, .int .i64 0] 96)).alloc (.cells #[.bool false, .pointer none, .pointer none, .int .i64 0] 96)) := ((unhide L1).alloc (unhide L1).size _).alloc (by have := (unhide L1).size; simp; omega) _
    have hB0 : w.heap.size ≤ w1.heap.size := (unhide L1).size
    generalize ((w1.alloc (.cells #[.bool false, .pointer none, .pointer none, .int .i64 0] 96)).alloc (.cells #[.bool false, .pointer none, .pointer none, .int .i64 0] 96)) = W3 at hb0 hbl ⊢
    generalize hgx : w1.heap.size = gx at hb0 hB0 ⊢
    have HB0 := hide hb0
    have HBL := hide hbl
    clear hb0 hbl L1
    go_wp2_with fail
    go_loopw [22] (OrdRel L gx gx (gx + 1) w) (fun i _ => L.length - (intOf i).toNat)
    case atStart => exact ⟨0, Nat.zero_le _, rfl, by simpa [runS] using unhide HB0, unhide HBL⟩
    case round =>
      obtain ⟨k, hk, rfl, hbo, hbw⟩ := hrel
      have HBO := hide hbo
      have HBW := hide hbw
      clear hbo hbw
      rcases Nat.lt_or_ge k L.length with hlt | hge
      · obtain ⟨x, hx⟩ : ∃ x, L[k]? = some x := ⟨_, List.getElem?_eq_getElem hlt⟩
        obtain ⟨y, hy⟩ : ∃ y, L.reverse[k]? = some y := ⟨_, List.getElem?_eq_getElem (by simpa using hlt)⟩
        have hy' : L[L.length - 1 - k]? = some y := by rwa [List.getElem?_reverse hlt] at hy
        obtain ⟨okx, b, o, rfl, hrx⟩ := unhide HACT k x hx
        obtain ⟨oky, b', o', hbo', hry⟩ := unhide HACT _ y hy'
        obtain ⟨rfl, rfl⟩ : b = b' ∧ o = o' := by simpa using hbo'
        have HX := hide hx
        have HY := hide hy
        have RX := hide (rangeAt_below (unhide HBW) hrx)
        have RY := hide hry
        have hkn : (k : Int) < (L.length : Int) := by omega
        clear hrx hry hx hy hy' hbo'
        have hcx : (runS (L.take k)).2 < 4294967296 := by
          have h1 := (runS_len (L.take k) (fun z hz => unhide HOK z (List.mem_of_mem_take hz))).2
          rw [List.length_take] at h1
          omega
        have hcy : (runS (L.reverse.take k)).2 < 4294967296 := by
          have h1 := (runS_len (L.reverse.take k) (fun z hz => unhide HOK z (List.mem_reverse.1 (List.mem_of_mem_take hz)))).2
          rw [List.length_take, List.length_reverse] at h1
          omega
        have HCX := hide hcx
        have HCY := hide hcy
        have hgz : gx ≤ wr.heap.size := (unhide HBO).1
        clear hcx hcy
        generalize hsx : runS (L.take k) = SX at HBO HCX
        generalize hsy : runS (L.reverse.take k) = SY at HBO HCY
        go_wp2_with (refine wpList_load_mid rfl 103 (.tmp 28) rfl b (o + k * 6) rfl (actCells x) _ (unhide RX) Try.underlying103 rfl (by kernel_rfl) ?_)
        refine (act_block x okx _).mono ?_
        rintro e w4 ⟨rfl, b4⟩
        have HBO4 := hide ((unhide HBO).below b4)
        have HBW4 := hide ((unhide HBW).trans (b4.mono (unhide HBW).size))
        clear b4 HBO HBW RX
        go_wp2_with fail
        refine ((unhide HBO4).put x okx (unhide HCX)).mono ?_
        rintro e w5 ⟨rfl, t5, b5⟩
        have HBW5 := hide ((unhide HBW4).trans (b5.mono hB0))
        have RY5 := hide (rangeAt_below (unhide HBW5) (unhide RY))
        have T5 := hide t5
        clear b5 t5 HBW4 RY HBO4
        go_wp2_with (refine wpList_load_mid rfl 103 (.tmp 39) rfl b (o + (L.length - 1 - k) * 6) rfl (actCells y) _ (unhide RY5) Try.underlying103 rfl (by kernel_rfl) ?_)
        refine (act_block y oky _).mono ?_
        rintro e w6 ⟨rfl, b6⟩
        have HBO6 := hide ((unhide T5).below b6)
        have HBW6 := hide ((unhide HBW5).trans (b6.mono (unhide HBW5).size))
        clear b6 T5 HBW5 RY5
        go_wp2_with fail
        refine ((unhide HBO6).swap.put y oky (unhide HCY)).mono ?_
        rintro e w7 ⟨rfl, t7, b7⟩
        have T7 := hide t7.swap
        have HBW7 := hide ((unhide HBW6).trans (b7.mono hB0))
        clear t7 b7 HBO6 HBW6
        have hw1 : IntKind.i64.wrap ((k : Int) + 1) = (k : Int) + 1 := IntWalk.i64_in _ (by omega)
        go_wp2_with fail
        go_roundw
        case rel =>
          refine ⟨k + 1, by omega, by simp, ?_, unhide HBW7⟩
          rw [runS_succ (unhide HX), runS_succ (unhide HY), hsx, hsy]
          exact unhide T7
        case measure => simp [intOf]; omega
      · obtain rfl : k = L.length := by omega
        have hbo := unhide HBO
        rw [List.take_length, show L.length = L.reverse.length from by simp, List.take_length] at hbo
        have HBO := hide hbo
        clear hbo
        have hkn : ¬ ((L.length : Int) < (L.length : Int)) := by omega
        have hlx := runS_len L (unhide HOK)
        have hly := runS_len L.reverse (fun z hz => unhide HOK z (List.mem_reverse.1 hz))
        rw [List.length_reverse] at hly
        have hss := runS_reverse L
        generalize runS L.reverse = RY at HBO hly hss
        generalize runS L = RX at HBO hlx hss
        obtain ⟨SX, cx⟩ := RX
        obtain ⟨SY, cy⟩ := RY
        obtain ⟨hx1, hx2⟩ := hlx
        obtain ⟨hy1, hy2⟩ := hly
        simp only at hx1 hx2 hy1 hy2 hss
        subst hss
        obtain rfl : cx = cy := by rw [hx1, hy1]
        obtain ⟨hgz, NX, NY, hTX, hTY, _⟩ := unhide HBO
        have HTX := hide hTX
        have HTY := hide hTY
        clear hTX hTY HBO hgz
        have hp : (pre SY 32 0 0).length ≤ 4294967296 := by omega
        go_wp2_with fail
        refine (all_any (unhide HTX) hp).mono ?_
        rintro e w2 ⟨va, rfl, hra, b2⟩
        have HRA := hide hra
        have HTY2 := hide ((unhide HTY).below b2)
        have HTX2 := hide ((unhide HTX).below b2)
        have HBW2 := hide ((unhide HBW).trans (b2.mono (unhide HBW).size))
        clear hra b2 HTX HTY HBW
        go_wp2_with fail
        refine (all_any (unhide HTY2) hp).mono ?_
        rintro e w3 ⟨vb, rfl, hrb, b3⟩
        have hBW3 := (unhide HBW2).trans (b3.mono (unhide HBW2).size)
        have hTX3 := (unhide HTX2).below b3
        obtain ⟨sva, cva, rfl, hcva, hra⟩ := row_shape (unhide HRA)
        obtain ⟨svb, cvb, rfl, hcvb, hrb'⟩ := row_shape hrb
        have hcell : ∀ i, i < cx → ∃ ga gb A n, sva = some ⟨ga, 0, none⟩ ∧ svb = some ⟨gb, 0, none⟩ ∧ w3.cell? ⟨ga, i * 2, none⟩ = some (.int .u32 A) ∧ w3.cell? ⟨ga, i * 2 + 1, none⟩ = some (.int .i64 n) ∧ w3.cell? ⟨gb, i * 2, none⟩ = some (.int .u32 A) ∧ w3.cell? ⟨gb, i * 2 + 1, none⟩ = some (.int .i64 n) := fun i hi => by
          obtain ⟨p, hp⟩ : ∃ p, (pre SY 32 0 0)[i]? = some p := ⟨_, List.getElem?_eq_getElem (by omega)⟩
          obtain ⟨l1, l2⟩ := listCells_at _ i p hp
          obtain ⟨ga, e1, e2, e3⟩ := hra i (by omega)
          obtain ⟨gb, f1, f2, f3⟩ := hrb' i (by omega)
          rw [l1] at e2 f2
          rw [l2] at e3 f3
          exact ⟨ga, gb, _, _, e1, f1, (b3.cell (block_lt_of_cell e2)).trans e2, (b3.cell (block_lt_of_cell e3)).trans e3, f2, f3⟩
        have HCELL := hide hcell
        have HBW3 := hide hBW3
        have HTX3 := hide hTX3
        rw [← hx1] at hcva hcvb ⊢
        clear hra hrb hrb' HRA hcell hBW3 hTX3 b3 HBW2 HTX2 HTY2 hx1 hy1 hp
        go_wp2_with (go_at_call 47; refine (len_any (unhide HTX3)).mono ?_; rintro e w4 ⟨rfl, rfl⟩)
        go_loopw [62] (SameRel cx w3) (fun i _ => cx - (intOf i).toNat)
        case atStart => exact ⟨0, Nat.zero_le _, rfl, Below.refl _ _⟩
        case round =>
          obtain ⟨k, hk2, rfl, hb9⟩ := hrel
          rcases Nat.lt_or_ge k cx with hlt | hge
          · obtain ⟨ga, gb, A, n, rfl, rfl, e1, e2, e3, e4⟩ := unhide HCELL k hlt
            have f1 := (hb9.cell (block_lt_of_cell e1)).trans e1
            have f2 := (hb9.cell (block_lt_of_cell e2)).trans e2
            have f3 := (hb9.cell (block_lt_of_cell e3)).trans e3
            have f4 := (hb9.cell (block_lt_of_cell e4)).trans e4
            have hkn2 : (k : Int) < (cx : Int) := by omega
            have hw1 : IntKind.i64.wrap ((k : Int) + 1) = (k : Int) + 1 := IntWalk.i64_in _ (by omega)
            have HB9 := hide hb9
            clear hb9 e1 e2 e3 e4
            go_wp2_with fail
            go_region
            go_wp2_with fail
            exact ⟨⟨k + 1, by omega, by simp, (unhide HB9).drew⟩, by simp [intOf]; omega⟩
          · obtain rfl : k = cx := by omega
            have hkn2 : ¬ ((k : Int) < (k : Int)) := by omega
            have HB9 := hide ((unhide HBW3).trans (hb9.mono (unhide HBW3).size))
            clear hb9
            go_wp2_with fail
            go_ret
            exact ⟨rfl, unhide HB9⟩
end Go.Proofs.Ytlpmjkbpcobgdaa

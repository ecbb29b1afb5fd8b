/-
  The walk of TrieScript.
-/
import Derived.Test.YtlpmjkbpcobgdaaTriScrP
import Derived.Lib.QuietBelow
namespace Go.Proofs.Ytlpmjkbpcobgdaa
open Go.RowKit Go.Sort

theorem ahead_any (a b : Nat) (n m : Int) (h : a < b ∨ (a = b ∧ n < m)) (w : World) :
    Calls Try.prog 55 #[.agg #[.int .u32 (a : Int), .int .i64 n], .agg #[.int .u32 (b : Int), .int .i64 m]] w fun e w' => e = .returned (.bool true) ∧ Below w.heap.size w w' := by
  rcases h with h | ⟨rfl, h⟩
  · have h1 : (a : Int) < (b : Int) := by omega
    go_enter Try.func55, Try.ntmps55
    go_wp2
    go_ret
    exact ⟨rfl, ((Below.refl _ _).alloc (Nat.le_refl _) _).alloc (by simp) _⟩
  · have h1 : ¬ ((a : Int) < (a : Int)) := by omega
    go_enter Try.func55, Try.ntmps55
    go_wp2
    go_ret
    exact ⟨rfl, ((Below.refl _ _).alloc (Nat.le_refl _) _).alloc (by simp) _⟩

theorem Tak.take_at {B g base c : Nat} {S : Nat → Nat → Bool} {P : List (Nat × Nat)} {vo : Value} {wr w : World} (h : Tak B g base S c P vo wr) (hb : Below wr.heap.size wr w) {m u : Nat} (hm : m ≤ 32) (hu : u < 2 ^ m) (hs : S m u = true) (hc0 : 0 < c) (hc : c < 4294967296) :
    Calls Try.prog 53 #[.pointer (some ⟨g, 0, none⟩), .agg #[.int .u32 ((u * 2 ^ (32 - m) : Nat) : Int), .int .i64 (m : Int)]] w fun e w' => e = .returned (.int .i64 0) ∧ Tak B g base (updS S m u false) (c - 1) P vo w' ∧ Below B w w' ∧ Fresh wr.heap.size w w' := by
  obtain ⟨h0, h1, ⟨N, h2, h3⟩, h4⟩ := h
  have h4' : w.ownsRow base 88 2 vo P.length (listCells P) := h4.kept (row := none) ⟨hb.os, hb.tape, hb.output, hb.size, fun i hi _ => hb.block i hi⟩ (by cases vo.ownBlock <;> simp)
  refine (take_good (h2.below hb) (u * 2 ^ (32 - m)) m (Tri.base_lt hm hu) hm (right_bl hm) (by rw [Tri.pv_base]; exact hs) hc0 hc).mono fun e w' ⟨he, N', k1, k2, k3⟩ => ⟨he, ⟨Nat.le_trans h0 (Nat.le_trans hb.size k2.size), Nat.le_trans h1 (Nat.le_trans hb.size k2.size), ⟨N', by rw [Tri.pv_base] at k1; exact k1, fun i hi ho => h3 i (k3 i hi) ho⟩, Frm.row h4' k2 (fun i ho hi => h3 i hi ho)⟩, k2.to_below (Nat.le_trans h0 hb.size) h2.foot_base, fun i t cs hi hk => k2.blk hk ?_⟩
  rintro ⟨k, v, e⟩
  have := h2.lt e
  omega

theorem Fresh.row {m : Nat} {w w' : World} {r : Option Nat} (h : w.grownBy w' r) (hr : ∀ i, r = some i → i < m) : Fresh m w w' := fun i t cs hi hb => hb.grown h (fun e => by have := hr i e.symm; omega)

theorem row_cells {w : World} {base cap n m gg : Nat} {e : TypeId} {xs : List Value} (h : w.ownsRow base e 2 (.slice (some ⟨gg, 0, none⟩) n cap) m xs) : ∀ q u, xs[q]? = some u → w.cell? ⟨gg, q, none⟩ = some u := fun q u hu => by
  have := h.cells (g := gg) rfl q u hu
  rwa [Addr.add_lit, Nat.zero_add] at this
theorem listCells_drop (P : List (Nat × Nat)) (i : Nat) : (listCells P).drop (i * 2) = listCells (P.drop i) := by
  rcases Nat.le_total i P.length with h | h
  · have h1 : listCells P = listCells (P.take i) ++ listCells (P.drop i) := by rw [← listCells_append, List.take_append_drop]
    have h2 : (listCells (P.take i)).length = i * 2 := by rw [listCells_length, List.length_take]; omega
    rw [h1, ← h2, List.drop_left]
  · rw [show List.drop i P = [] from List.drop_eq_nil_of_le h, List.drop_eq_nil_of_le (by rw [listCells_length]; omega)]
    rfl
theorem drop_cell {w : World} {P : List (Nat × Nat)} {gg i : Nat} (h : ∀ q u, (listCells P)[q]? = some u → w.cell? ⟨gg, q, none⟩ = some u) {q : Nat} {u : Value} (hu : (listCells (P.drop (i + 1)))[q]? = some u) : w.drew.cell? ⟨gg, (i + 1) * 2 + q, none⟩ = some u := by
  rw [← listCells_drop, List.getElem?_drop] at hu
  exact h _ _ hu
theorem listCells_one (P : List (Nat × Nat)) : ∀ u ∈ listCells P, u.oneCell' = true := by
  intro u hu
  obtain ⟨p, _, hp⟩ := List.mem_flatMap.1 hu
  unfold blCells at hp
  simp at hp
  rcases hp with rfl | rfl <;> rfl
theorem room_cell {w : World} {base cap n n' gg i q : Nat} {e : TypeId} {xs : List Value} (h : w.ownsRow base e 2 (.slice (some ⟨gg, 0, none⟩) n cap) n' xs) (hq : i * 2 + q < n' * 2) : (w.drew.cell? ⟨gg, i * 2 + q, none⟩).isSome = true ∧ w.drew.frozen? ⟨gg, i * 2 + q, none⟩ = false := by
  have hl := h.1
  have hb : ∃ cur : Array Value, w.heap[gg]? = some (.cells cur e (0, 0)) := by
    rcases h.2 with ⟨h1, _⟩ | ⟨g, cp, cur, hv, _, hb, _⟩
    · cases h1
    · cases hv
      exact ⟨cur, hb⟩
  obtain ⟨cur, hb⟩ := hb
  refine ⟨?_, Blk.frozen (w := w) (cs := cur) (t := e) hb _⟩
  have := row_cells h (i * 2 + q) _ (List.getElem?_eq_getElem (by omega))
  show (w.cell? _).isSome = true
  rw [this]
  rfl

/-- Behind the deed: what there is, in the tree and in the list. -/
def Mid (ga gb G k : Nat) (x : ActD) (w0 : World) (vo : Value) (w : World) : Prop :=
  ∃ (S : Nat → Nat → Bool) (c : Nat) (P : List (Nat × Nat)), P.length ≤ k + 1 ∧ ListIs S c P ∧ c = (pre S 32 0 0).length ∧ Tak G G (G + 1) S c P vo w ∧
    Blk w ga 103 (actCells x).toArray ∧ Blk w gb 88 #[.int .u32 (x.A : Int), .int .i64 x.n] ∧ Below w0.heap.size w0 w

def ScrRel (L : List ActD) (G : Nat) (w0 : World) (vo i : Value) (wr : World) : Prop :=
  ∃ (k : Nat) (S : Nat → Nat → Bool) (c : Nat) (P : List (Nat × Nat)), k ≤ L.length ∧ i = .int .i64 (k : Int) ∧ P.length ≤ k ∧ ListIs S c P ∧ c = (pre S 32 0 0).length ∧ Tak G G (G + 1) S c P vo wr ∧ Below w0.heap.size w0 wr

def FindRel (P : List (Nat × Nat)) (A : Nat) (n : Int) (m : Nat) (wq : World) (at_ i : Value) (w : World) : Prop :=
  ∃ j : Nat, j ≤ m ∧ i = .int .i64 (j : Int) ∧ at_ = .int .i64 (findAt P A n j) ∧ Below wq.heap.size wq w

def bestCells : Option (Nat × Nat) → Array Value
  | none => #[.int .u32 0, .int .i64 0]
  | some p => #[.int .u32 (pbase p : Int), .int .i64 (p.1 : Int)]
def ScanRel (P : List (Nat × Nat)) (A : Nat) (n : Int) (X m gq : Nat) (wq : World) (is over i : Value) (w : World) : Prop :=
  ∃ j : Nat, j ≤ m ∧ i = .int .i64 (j : Int) ∧ is = .bool (bestF P X j).isSome ∧ over = .bool (overF P A n j) ∧ Blk w gq 88 (bestCells (bestF P X j)) ∧ Below gq wq w
theorem bestF_next {P : List (Nat × Nat)} {x j : Nat} {p : Nat × Nat} (h : P[j]? = some p) : bestF P x (j + 1) = if hasB x p && better (bestF P x j) p then some p else bestF P x j := by
  simp [bestF, h]
theorem bestCells_two (o : Option (Nat × Nat)) : ∃ u v, bestCells o = #[u, v] := by cases o <;> exact ⟨_, _, rfl⟩
theorem has_is {X : Nat} {p : Nat × Nat} (hm : p.1 ≤ 32) : (Tri.right (pbase p) (p.1 : Int) && decide (Tri.pv X (p.1 : Int).toNat = Tri.pv (pbase p) (p.1 : Int).toNat)) = hasB X p := by
  unfold pbase hasB
  rw [right_bl hm, Int.toNat_natCast, Tri.pv_base, Bool.true_and]

set_option maxRecDepth 100000 in
set_option maxHeartbeats 8000000 in
theorem script_law (l : List ActD) (v : Value) (w : World) (hA : ActsAt w v l) :
    Calls Try.prog 11 #[v] w fun e w' => e = .returned (.bool true) ∧ Below w.heap.size w w' := by
  obtain ⟨sa, cap, rfl, hcap, hmax, hl⟩ := hA
  obtain ⟨i0, hi, hz0, hz1, hz2⟩ := info_parts Try.infoBlock
  have HL := hide hl
  clear hl
  go_enter Try.func11, Try.ntmps11
  go_wp2_with fail
  refine (trie_awake _).mono ?_
  rintro e w1 ⟨rfl, hb1⟩
  have L1 := hide hb1
  clear hb1
  obtain ⟨L, hL⟩ : ∃ L, L = l.take 120 := ⟨_, rfl⟩
  have hL120 : L.length ≤ 120 := by rw [hL, List.length_take]; omega
  have hLl : L.length ≤ l.length := by rw [hL, List.length_take]; omega
  have hact : ∀ i x, L[i]? = some x → x.Ok ∧ ∃ b o, sa = some ⟨b, o, none⟩ ∧ w.rangeAt b (o + i * 6) (actCells x) := fun i x hx => by
    rw [hL, List.getElem?_take] at hx
    split at hx
    · exact unhide HL i x hx
    · cases hx
  have HACT := hide hact
  clear hact HL
  go_upto_region 5 with fail
  go_cut [33, 34, 35] (fun s33 s34 s35 wx => s33 = .slice sa L.length cap ∧ s34 = .int .i64 (L.length : Int) ∧ s35 = .int .i64 0 ∧ wx = w1.alloc (.cells #[.bool false, .pointer none, .pointer none, .int .i64 0] 96))
  case first =>
    have hmm : (l.length : Int) ≤ 120 → L.length = l.length := fun h => by rw [hL, List.length_take]; omega
    have hmm2 : 120 < (l.length : Int) → L.length = 120 := fun h => by rw [hL, List.length_take]; omega
    go_wp2_with fail
    all_goals
      go_meet
      case rel =>
        refine ⟨?_, ?_, rfl, rfl⟩
        all_goals
          first
            | (rw [hmm (by omega)]; done)
            | (rw [hmm2 (by omega)]; done)
            | (rw [hmm2 (by omega)]; rfl)
  case rest =>
    clear hL
    obtain ⟨rfl, rfl, rfl, rfl⟩ := hcut
    have hT0 := trie_new w1
    have hbl : Below w.heap.size w (w1.alloc (.cells #[.bool false, .pointer none, .pointer none, .int .i64 0] 96)) := (unhide L1).alloc (unhide L1).size _
    have hzz : w1.heap.size + 1 ≤ (w1.alloc (.cells #[.bool false, .pointer none, .pointer none, .int .i64 0] 96)).heap.size := by simp
    have hB0 : w.heap.size ≤ w1.heap.size := (unhide L1).size
    generalize (w1.alloc (.cells #[.bool false, .pointer none, .pointer none, .int .i64 0] 96)) = W3 at hT0 hbl hzz ⊢
    generalize hgx : w1.heap.size = G at hT0 hzz hB0 ⊢
    have hTak : Tak G G (G + 1) S0 0 [] (.slice none 0 0) W3 := ⟨by omega, by omega, ⟨_, hT0, fun i _ => by simp [Value.ownBlock]⟩, ⟨rfl, .inl ⟨rfl, rfl⟩⟩⟩
    have HTAK := hide hTak
    have HBL := hide hbl
    clear hT0 hbl hTak L1
    go_wp2_with fail
    go_loopw [4, 35] (fun vo i wr => ScrRel L G w vo i wr) (fun _ i _ => L.length - (intOf i).toNat)
    case atStart => exact ⟨0, S0, 0, [], Nat.zero_le _, rfl, Nat.le_refl _, ⟨by simp [S0], List.nodup_nil, by simp, rfl⟩, by rw [pre_S0]; rfl, unhide HTAK, unhide HBL⟩
    case round =>
      obtain ⟨k, S, c, P, hk, rfl, hPk, hli, hlen, htk, hbw⟩ := hrel
      have HLI := hide hli
      have HLEN := hide hlen
      have HTK := hide htk
      have HBW := hide hbw
      clear hli hlen htk hbw HTAK HBL
      obtain ⟨sva, cva, rfl, hcva, hrow⟩ := row_shape (unhide HTK).2.2.2
      obtain ⟨pn, hpn⟩ : ∃ pn, pn = P.length := ⟨_, rfl⟩
      have HPN := hide hpn
      rw [← hpn] at hcva hPk HTK hrow ⊢
      have HROW := hide hrow
      clear hpn hrow
      rcases Nat.lt_or_ge k L.length with hlt | hge
      · obtain ⟨x, hx⟩ : ∃ x, L[k]? = some x := ⟨_, List.getElem?_eq_getElem hlt⟩
        obtain ⟨okx, b, o, rfl, hrx⟩ := unhide HACT k x hx
        have RX := hide (rangeAt_below (unhide HBW) hrx)
        have hkn : (k : Int) < (L.length : Int) := by omega
        clear hrx hx
        have h1c : (actCells x).toArray.all (·.oneCell') = true := oneCells rfl
        have hsz6 : (Try.prog.info? 103).map (·.size) = some (actCells x).toArray.size := by kernel_rfl
        go_wp2_with (first
          | (refine wpList_load_mid rfl 103 (.tmp 37) rfl b (o + k * 6) rfl (actCells x) _ (unhide RX) Try.underlying103 rfl (by kernel_rfl) ?_)
          | (refine wpList_store_blk rfl 103 (.tmp 6) (.tmp 38) rfl wr.heap.size (actCells x).toArray _ 103 rfl rfl (Blk.new_at rfl) rfl hsz6 h1c ?_; intro w3 blk3 hg3; have HK3 := hide blk3; have HG3 := hide hg3; clear blk3 hg3)
          | (refine wpList_load_row rfl 103 (.tmp 6) rfl wr.heap.size rfl 103 (actCells x).toArray (0, 0) _ (unhide HK3) Try.underlying103 rfl hsz6 ?_))
        have hb3 : Below wr.heap.size wr w3 := ((Below.refl wr.heap.size wr).alloc (Nat.le_refl _) _).grown (unhide HG3) (by simp) (by rintro _ ⟨⟩; exact Nat.le_refl _)
        refine (act_block x okx _).mono ?_
        rintro e w4 ⟨rfl, b4⟩
        have K4 := (unhide HK3).below b4 (unhide HK3).lt
        have hb4 := hb3.trans (b4.mono hb3.size)
        have hAlt := ActD.A_lt okx
        obtain ⟨A, hA⟩ : ∃ A, A = x.A := ⟨_, rfl⟩
        obtain ⟨n, hn⟩ : ∃ n, n = x.n := ⟨_, rfl⟩
        rw [← hA, ← hn]
        rw [← hA] at hAlt
        have HAX := hide hA
        have HNX := hide hn
        have HB4 := hide hb4
        have HK4 := hide K4
        clear b4 hb3 hb4 K4 HK3 HG3 hA hn RX
        go_upto_region 10 with fail
        have hb5 : Below wr.heap.size wr (w4.alloc (.cells #[.int .u32 (A : Int), .int .i64 n] 88)) := (unhide HB4).alloc (unhide HB4).size _
        have KA := hide ((unhide HK4).alloc (.cells #[.int .u32 (A : Int), .int .i64 n] 88))
        have KB := hide (Blk.new w4 88 #[.int .u32 (A : Int), .int .i64 n])
        have HT5 := hide ((unhide HTK).below hb5)
        have HBW5 := hide ((unhide HBW).trans (hb5.mono (unhide HBW).size))
        have hga : wr.heap.size ≤ w4.heap.size := (unhide HB4).size
        generalize hW5 : (w4.alloc (.cells #[.int .u32 (A : Int), .int .i64 n] 88)) = w5 at KA KB HT5 HBW5 hb5 ⊢
        clear hW5
        generalize hga' : wr.heap.size = ga at KA hga hb5 ⊢
        generalize hgb' : w4.heap.size = gb at KB hga ⊢
        have HGA := hide hga'
        have HB5 := hide hb5
        clear HB4 HK4 HBW hga' hgb' hb5
        obtain ⟨wo, hwo⟩ : ∃ wo, wo = wr := ⟨_, rfl⟩
        subst hwo
        go_wp2_with fail
        go_loopw [8, 43] (fun at_ i wq => FindRel P A n pn w5 at_ i wq) (fun _ i _ => pn - (intOf i).toNat)
        case atStart => exact ⟨0, Nat.zero_le _, rfl, rfl, Below.refl _ _⟩
        case round =>
          obtain ⟨j, hj, rfl, rfl, hbq⟩ := hrel
          rcases Nat.lt_or_ge j pn with hjlt | hjge
          · as_aux_lemma =>
            have hjn : (j : Int) < (pn : Int) := by omega
            obtain ⟨p, hp⟩ : ∃ p, P[j]? = some p := ⟨_, List.getElem?_eq_getElem (by have := unhide HPN; omega)⟩
            obtain ⟨l1, l2⟩ := listCells_at _ _ _ hp
            obtain ⟨gg, rfl, r1, r2⟩ := unhide HROW j hjlt
            rw [l1] at r1
            rw [l2] at r2
            have hlr := block_lt_of_cell r1
            have hlrg : gg < ga := Nat.lt_of_lt_of_le hlr (Nat.le_of_eq (unhide HGA))
            have hlr5 : gg < w5.heap.size := Nat.lt_of_lt_of_le hlr (by have := (unhide HB5).size; have := unhide HGA; omega)
            have e1 : wr.cell? ⟨gg, j * 2, none⟩ = some (.int .u32 ((pbase p : Nat) : Int)) := (hbq.cell hlr5).trans (((unhide HB5).cell hlrg).trans r1)
            have e2 : wr.cell? ⟨gg, j * 2 + 1, none⟩ = some (.int .i64 (p.1 : Int)) := (hbq.cell hlr5).trans (((unhide HB5).cell hlrg).trans r2)
            have kb := (unhide KB).below hbq (unhide KB).lt
            have c0 : wr.cell? ⟨gb, 0, none⟩ = some (.int .u32 (A : Int)) := kb.cell 0
            have c1 : wr.cell? ⟨gb, 1, none⟩ = some (.int .i64 n) := kb.cell 1
            have hgb : gb < wr.heap.size := kb.lt
            have HFAT := hide hp
            have HBQ := hide hbq
            obtain ⟨pb, hpb⟩ : ∃ pb, pb = pbase p := ⟨_, rfl⟩
            obtain ⟨pm, hpm⟩ : ∃ pm, pm = p.1 := ⟨_, rfl⟩
            rw [← hpb] at e1
            rw [← hpm] at e2
            have HPB := hide hpb
            have HPM := hide hpm
            clear hp l1 l2 r1 r2 hlr hlrg hlr5 kb hbq hpb hpm
            by_cases hA1 : pb = A
            · by_cases hN1 : (pm : Int) = n
              · subst hA1
                subst hN1
                have hfa := findAt_yes (unhide HFAT) (isB_iff.2 ⟨(unhide HPB).symm, by rw [unhide HPM]⟩ : isB pb (pm : Int) p = true)
                have HFA := hide hfa
                clear hfa
                go_wp2_with fail
                exact ⟨⟨j + 1, by omega, by simp, by rw [unhide HFA], (unhide HBQ).alloc (unhide HBQ).size _⟩, by simp [intOf]; omega⟩
              · subst hA1
                have hfa := findAt_no (unhide HFAT) (by rw [Bool.eq_false_iff]; intro h; exact hN1 (by rw [unhide HPM]; exact (isB_iff.1 h).2) : isB pb n p = false)
                have HFA := hide hfa
                clear hfa
                go_wp2_with fail
                exact ⟨⟨j + 1, by omega, by simp, by rw [unhide HFA], (unhide HBQ).alloc (unhide HBQ).size _⟩, by simp [intOf]; omega⟩
            · have hA2 : ¬ ((pb : Int) = (A : Int)) := by omega
              have hfa := findAt_no (unhide HFAT) (by rw [Bool.eq_false_iff]; intro h; exact hA1 (by rw [unhide HPB]; exact (isB_iff.1 h).1) : isB A n p = false)
              have HFA := hide hfa
              clear hfa
              go_wp2_with fail
              exact ⟨⟨j + 1, by omega, by simp, by rw [unhide HFA], (unhide HBQ).alloc (unhide HBQ).size _⟩, by simp [intOf]; omega⟩
          · obtain rfl : j = pn := by omega
            have hjn : ¬ ((j : Int) < (j : Int)) := by omega
            have HT6 := hide ((unhide HT5).below hbq)
            have HBW6 := hide ((unhide HBW5).trans (hbq.mono (unhide HBW5).size))
            have KA6 := hide ((unhide KA).below hbq (unhide KA).lt)
            have KB6 := hide ((unhide KB).below hbq (unhide KB).lt)
            have HBO6 := hide ((by have := unhide HB5; rwa [← unhide HGA] at this : Below wo.heap.size wo w5).trans (hbq.mono (by have := (unhide HB5).size; exact this)))
            have hga6 : wo.heap.size ≤ ga := Nat.le_of_eq (unhide HGA)
            have hfind := find_end (unhide HLI) (A := A) (n := n) hAlt
            rw [← unhide HPN] at hfind
            have hfb := findAt_bounds (P := P) (A := A) (n := n) (j := j) (by have := unhide HPN; omega)
            generalize findAt P A n j = fa at hfind hfb ⊢
            have HFIND := hide hfind
            clear hbq hfind HT5 HBW5 KA KB HROW
            generalize hw6 : wr = w6 at HT6 HBW6 HBO6 KA6 KB6 ⊢
            clear hw6
            go_upto_region 16 with fail
            go_cut [58] (fun s wx => s = .bool false ∧ Below w6.heap.size w6 wx)
            case first =>
              have c0 : w6.cell? ⟨gb, 0, none⟩ = some (.int .u32 (A : Int)) := (unhide KB6).cell 0
              have c1 : w6.cell? ⟨gb, 1, none⟩ = some (.int .i64 n) := (unhide KB6).cell 1
              obtain ⟨N, hT, -⟩ := (unhide HT6).2.2.1
              have hHas := has_any hT A n hAlt
              rcases unhide HFIND with ⟨rfl, hh⟩ | ⟨i, rfl, hi2, hh, -⟩
              all_goals
                rw [hh] at hHas
                have HHAS := hide hHas
                clear hHas hh hT
                go_wp2_with fail
                refine (unhide HHAS).mono ?_
                rintro e w7 ⟨rfl, b7⟩
                go_wp2_with fail
                go_meet
                case rel => exact ⟨rfl, b7⟩
            case rest =>
              obtain ⟨rfl, b7⟩ := hcut
              have HT7 := hide ((unhide HT6).below b7)
              have HBW7 := hide ((unhide HBW6).trans (b7.mono (unhide HBW6).size))
              have HBO7 := hide ((unhide HBO6).trans (b7.mono (unhide HBO6).size))
              have KA7 := hide ((unhide KA6).below b7 (unhide KA6).lt)
              have KB7 := hide ((unhide KB6).below b7 (unhide KB6).lt)
              clear b7 HT6 HBW6 HBO6 KA6 KB6
              have a0 : wc.cell? ⟨ga, 0, none⟩ = some (.int .u8 (x.op : Int)) := (unhide KA7).cell 0
              have hop := okx.op
              go_upto_if 62 with fail
              clear a0
              go_cut [4] (fun vo wx => Mid ga gb G k x w vo wx)
              case first =>
                have c0 : wc.cell? ⟨gb, 0, none⟩ = some (.int .u32 (A : Int)) := (unhide KB7).cell 0
                have c1 : wc.cell? ⟨gb, 1, none⟩ = some (.int .i64 n) := (unhide KB7).cell 1
                go_wp2_with fail
                · rcases unhide HFIND with ⟨rfl, hh⟩ | ⟨i, rfl, hi2, hh, m, u, hpi, hAu, hnm, hm32, hu, hs⟩
                  · obtain ⟨N, hT, -⟩ := (unhide HT7).2.2.1
                    have hTB := take_bad hT A n hAlt hh
                    have HTB := hide hTB
                    clear hT hTB hh
                    refine (unhide HTB).mono ?_
                    rintro e w8 ⟨rfl, b8⟩
                    go_wp2_with fail
                    go_meet
                    case rel => exact ⟨S, c, P, by have := unhide HPN; omega, unhide HLI, unhide HLEN, (unhide HT7).below b8, (unhide KA7).below b8 (unhide KA7).lt, (by have := (unhide KB7).below b8 (unhide KB7).lt; rwa [unhide HAX, unhide HNX] at this), (unhide HBW7).trans (b8.mono (unhide HBW7).size)⟩
                  · obtain ⟨hc0, hlen8⟩ := take_len hm32 hu hs (unhide HLEN)
                    have hTG := (unhide HTK).take_at (unhide HBO7) hm32 hu hs hc0 (by have := (unhide HLI).count; have := unhide HPN; omega)
                    rw [← hAu, ← hnm] at hTG
                    have HTG := hide hTG
                    have HLI8 := hide ((unhide HLI).erase hpi)
                    have HLEN8 := hide hlen8
                    have HPI := hide hpi
                    clear hc0 hlen8 hTG hAu hnm hpi hs hh
                    refine (unhide HTG).mono ?_
                    rintro e w8 ⟨rfl, t8, b8, f8⟩
                    have HT8 := hide t8
                    have HBW8 := hide ((unhide HBW7).trans (b8.mono hB0))
                    have HF8 := hide f8
                    clear t8 b8 f8
                    go_wp2_with fail
                    obtain ⟨sv9, cv9, hsv9, -, hrow8⟩ := row_shape (unhide HT8).2.2.2
                    obtain ⟨rfl, rfl⟩ : sva = sv9 ∧ cva = cv9 := by
                      injection hsv9 with q1 q2 q3
                      exact ⟨q1, q3⟩
                    obtain ⟨gg, rfl, -, -⟩ := hrow8 i (by have := unhide HPN; omega)
                    have HROW8 := hide (unhide HT8).2.2.2
                    obtain ⟨NEWS, hNEWS⟩ : ∃ NEWS, NEWS = listCells (P.drop (i + 1)) := ⟨_, rfl⟩
                    have hcells := row_cells (unhide HROW8)
                    obtain ⟨A', hA', hnews⟩ : ∃ A' : Addr, (if cva = i + 1 then some (⟨gg, 0, none⟩ : Addr) else some ⟨gg, (i + 1) * 2, none⟩) = some A' ∧ Hid (∀ q u, NEWS[q]? = some u → w8.drew.cell? (A'.add q) = some u) := by
                      by_cases h : cva = i + 1
                      · refine ⟨⟨gg, 0, none⟩, by simp [h], fun q u hu => ?_⟩
                        have h0 : NEWS.length = 0 := by rw [hNEWS, listCells_length, List.length_drop]; have := unhide HPN; omega
                        rw [List.length_eq_zero_iff.1 h0] at hu
                        simp at hu
                      · refine ⟨⟨gg, (i + 1) * 2, none⟩, by simp [h], fun q u hu => ?_⟩
                        rw [hNEWS] at hu
                        rw [Addr.add_lit]
                        exact drop_cell (w := w8) hcells hu
                    have s1 : Hid (NEWS.length = (j - (i + 1)) * 2) := by
                      show NEWS.length = _
                      rw [hNEWS, listCells_length, List.length_drop, unhide HPN]
                    have s2 : Hid (∀ u ∈ NEWS, u.oneCell' = true) := by
                      rw [hNEWS]
                      exact listCells_one _
                    have s3 : Hid (∀ q, q < NEWS.length → (w8.drew.cell? ⟨gg, 0 + i * 2 + q, none⟩).isSome = true ∧ w8.drew.frozen? ⟨gg, 0 + i * 2 + q, none⟩ = false) := by
                      intro q hq
                      rw [hNEWS, listCells_length, List.length_drop] at hq
                      rw [Nat.zero_add]
                      exact room_cell (w := w8) (unhide HROW8) (by omega)
                    have hic : i ≤ cva := by omega
                    have hwr : IntKind.i64.wrap ((i : Int) + 1) = (i : Int) + 1 := IntWalk.i64_in _ (by omega)
                    have hp0 : (0 : Int) ≤ (i : Int) + 1 := by omega
                    have hp1 : (i : Int) + 1 ≤ (j : Int) := by omega
                    have hp2 : ((i : Int) + 1).toNat = i + 1 := by omega
                    have HNEWS := hide hNEWS
                    clear hNEWS hcells hrow8 hsv9
                    go_region_law (refine step_append_room rfl (.tmp 83) (.tmp 87) 105 rfl 88 i0 2 Try.underlying105 hi hz1 gg 0 i cva (by simp [Act.eval, Act.put]) A' (j - (i + 1)) (cva - (i + 1)) NEWS (by simp [Act.eval, Act.put]) s1.out hnews.out s2.out (by omega) s3.out ?_)
                    simp only [List.getElem_toArray, List.getElem_cons_succ, List.getElem_cons_zero, Act.put, List.setIfInBounds_toArray, List.set_cons_succ, List.set_cons_zero]
                    refine Met.intro ?_
                    go_step
                    go_meet
                    case rel =>
                      have ht9 : Tak G G (G + 1) (updS S m u false) (c - 1) P (.slice (some ⟨gg, 0, none⟩) P.length cva) w8.drew := by
                        rw [← unhide HPN]
                        exact (unhide HT8).below ((Below.refl _ _).drew)
                      have ht10 := ht9.delete (by have := unhide HPN; omega) NEWS (unhide HNEWS)
                      rw [← unhide HPN] at ht10
                      have hgw := grownBy_setCells gg NEWS (i * 2) w8.drew
                      have hgg := ht9.2.2.2.lt gg rfl
                      have hggo := (unhide HTK).2.2.2.lt gg rfl
                      have hfr : Fresh wo.heap.size wc (w8.drew.setCells gg (i * 2) NEWS) := (unhide HF8).trans ((Fresh.of_below (w := w8) (Below.refl _ _).drew).trans (Fresh.row hgw (by rintro _ ⟨⟩; exact hggo.2)))
                      refine ⟨_, _, P.eraseIdx i, ?_, unhide HLI8, unhide HLEN8, ht10, hfr _ _ _ (Nat.le_of_eq (unhide HGA)) (unhide KA7), ?_, ?_⟩
                      · have := unhide HPN
                        rw [List.length_eraseIdx]
                        split <;> omega
                      · have := hfr _ _ _ (by have := unhide HGA; omega) (unhide KB7)
                        rwa [unhide HAX, unhide HNX] at this
                      · exact ((unhide HBW8).drew).grown hgw ((unhide HBW8).size) (by rintro _ ⟨⟩; omega)
                · have hr := right_block A n hAlt
                  have hput := (unhide HTK).put_at (unhide HBO7) x okx (by have := (unhide HLI).count; have := unhide HPN; omega)
                  rw [← unhide HAX, ← unhide HNX] at hput
                  have HPUT := hide hput
                  have HR := hide hr
                  clear hput hr
                  refine (unhide HPUT).mono ?_
                  rintro e w8 ⟨rfl, t8, b8, f8⟩
                  have HT8 := hide t8
                  have HBW8 := hide ((unhide HBW7).trans (b8.mono hB0))
                  have KA8 := hide (f8 _ _ _ (Nat.le_of_eq (unhide HGA)) (unhide KA7))
                  have KB8 := hide (f8 _ _ _ (by have := unhide HGA; omega) (unhide KB7))
                  clear t8 b8 f8
                  have d0 : w8.cell? ⟨gb, 0, none⟩ = some (.int .u32 (A : Int)) := (unhide KB8).cell 0
                  have d1 : w8.cell? ⟨gb, 1, none⟩ = some (.int .i64 n) := (unhide KB8).cell 1
                  have hlen8 := putC_len (S := S) (a := A) (n := n) hAlt (unhide HLEN)
                  have HLEN8 := hide hlen8
                  have hput := (unhide HLI).put (a := A) (n := n) hAlt
                  have HPL := hide hput
                  clear hlen8 hput
                  cases hr : Tri.right A n with
                  | false =>
                    rw [hr] at HR
                    have he : putE S A n = 12 := by simp [putE, hr]
                    rw [he]
                    have hli8 : ListIs (putS S A n) (putC S A n c) P := by
                      rcases unhide HPL with ⟨h, _⟩ | ⟨_, h⟩
                      · rw [he] at h; cases h
                      · exact h
                    have HLI8 := hide hli8
                    clear hli8 he hr
                    go_wp2_with fail
                    refine (unhide HR _).mono ?_
                    rintro e w9 ⟨rfl, b9⟩
                    go_wp2_with fail
                    go_meet
                    case rel => exact ⟨_, _, P, by have := unhide HPN; omega, unhide HLI8, unhide HLEN8, (unhide HT8).below b9, (unhide KA8).below b9 (unhide KA8).lt, (by have := (unhide KB8).below b9 (unhide KB8).lt; rwa [unhide HAX, unhide HNX] at this), (unhide HBW8).trans (b9.mono (unhide HBW8).size)⟩
                  | true =>
                    rw [hr] at HR
                    rcases unhide HFIND with ⟨rfl, hh⟩ | ⟨i, rfl, hi2, hh, -⟩
                    · have hs : S n.toNat (Tri.pv A n.toNat) = false := by
                        unfold hasF at hh
                        rwa [hr, Bool.true_and] at hh
                      have he : putE S A n = 0 := by simp [putE, hr, hs]
                      rw [he]
                      have hli8 : ∃ m : Nat, n = (m : Int) ∧ m ≤ 32 ∧ A = Tri.pv A m * 2 ^ (32 - m) ∧ ListIs (putS S A n) (putC S A n c) (P ++ [(m, Tri.pv A m)]) := by
                        rcases unhide HPL with ⟨_, h⟩ | ⟨h, _⟩
                        · exact h
                        · exact absurd he h
                      obtain ⟨m, hnm, hm32, hAu, hli8⟩ := hli8
                      have HLI8 := hide hli8
                      have HNM := hide hnm
                      have HAU := hide hAu
                      clear hli8 he hr hs hh hnm hAu
                      go_wp2_with fail
                      refine (unhide HR _).mono ?_
                      rintro e w9 ⟨rfl, b9⟩
                      have KA9 := hide ((unhide KA8).below b9 (unhide KA8).lt)
                      have KB9 := hide ((unhide KB8).below b9 (unhide KB8).lt)
                      have HT9 := hide ((unhide HT8).below b9)
                      have HBW9 := hide ((unhide HBW8).trans (b9.mono (unhide HBW8).size))
                      clear b9 d0 d1 HT8 HBW8 KA8 KB8
                      have d0 : w9.cell? ⟨gb, 0, none⟩ = some (.int .u32 (A : Int)) := (unhide KB9).cell 0
                      have d1 : w9.cell? ⟨gb, 1, none⟩ = some (.int .i64 n) := (unhide KB9).cell 1
                      have hbx : Below w9.heap.size w9 (w9.alloc (.cells #[.int .u32 (A : Int), .int .i64 n] 88)) := (Below.refl _ _).alloc (Nat.le_refl _) _
                      have hT6 := (unhide HT9).below hbx
                      have KA10 := hide ((unhide KA9).below hbx (unhide KA9).lt)
                      have KB10 := hide ((unhide KB9).below hbx (unhide KB9).lt)
                      have HBW10 := hide ((unhide HBW9).trans (hbx.mono (unhide HBW9).size))
                      have HR6 := hide hT6.2.2.2
                      have HBS := hide hT6.2.1
                      have HT10 := hide hT6
                      have hnew : ∀ j u, ([Value.int .u32 (A : Int), Value.int .i64 n] : List Value)[j]? = some u → (w9.alloc (.cells #[.int .u32 (A : Int), .int .i64 n] 88)).cell? ((⟨w9.heap.size, 0, none⟩ : Addr).add j) = some u := by
                        intro j u hj
                        have := (Blk.new w9 88 #[.int .u32 (A : Int), .int .i64 n]).cell j
                        rw [show ((⟨w9.heap.size, 0, none⟩ : Addr).add j) = ⟨w9.heap.size, j, none⟩ from by cases j <;> simp [Addr.add], this]
                        simpa using hj
                      have h1c2 : ∀ u ∈ ([Value.int .u32 (A : Int), Value.int .i64 n] : List Value), u.oneCell' = true := by simp [Value.oneCell']
                      have h63 : P.length + 1 ≤ maxLen := by have := unhide HPN; unfold maxLen; omega
                      have hby : (P.length + 1) * 16 ≤ 140737488355328 := by have := unhide HPN; omega
                      rw [← unhide HPN] at HR6 h63 hby
                      have HNEW := hide hnew
                      have H1C := hide h1c2
                      have H63 := hide h63
                      have HBY := hide hby
                      clear hnew h1c2 h63 hby hbx hT6
                      go_wp2_with (at_builtin; go_loud (refine wpList_append_own_at _ rfl (.tmp 102) (.tmp 104) 105 rfl (G + 1) 88 i0 (.agg #[.int .u32 0, .int .i64 0]) 2 16 Try.underlying105 hi hz0 hz1 hz2 rfl (by decide) (.slice sva j cva) j (listCells P) rfl (unhide HR6) ⟨w9.heap.size, 0, none⟩ 1 1 [Value.int .u32 (A : Int), Value.int .i64 n] rfl rfl (unhide HNEW) (unhide H1C) (unhide H63) (unhide HBY) (unhide HBS) ?_); intro v' w11 hown hgrow _ hv; have HO7 := hide hown; have HG7 := hide hgrow; have HV7 := hide hv; clear hown hgrow hv)
                      go_meet
                      case rel =>
                        have hrow11 := (unhide HTK).2.2.2.lt
                        have hfr : Fresh wo.heap.size (w9.alloc (.cells #[.int .u32 (A : Int), .int .i64 n] 88)) w11 := Fresh.row (unhide HG7) (fun q hq => (hrow11 q hq).2)
                        refine ⟨_, _, P ++ [(m, Tri.pv A m)], ?_, unhide HLI8, unhide HLEN8, ?_, hfr _ _ _ (Nat.le_of_eq (unhide HGA)) (unhide KA10), ?_, ?_⟩
                        · have := unhide HPN
                          simp
                          omega
                        · have hc : blCells (m, Tri.pv A m) = [Value.int .u32 (A : Int), Value.int .i64 n] := by
                            unfold blCells
                            rw [← unhide HAU, unhide HNM]
                          exact (unhide HT10).append (by rw [hc, ← unhide HPN]; exact unhide HO7) (unhide HG7) (unhide HV7)
                        · have := hfr _ _ _ (by have := unhide HGA; omega) (unhide KB10)
                          rwa [unhide HAX, unhide HNX] at this
                        · exact (unhide HBW10).grown (unhide HG7) ((unhide HBW10).size) (fun z hz => by
                            have := (hrow11 z hz).1
                            omega)
                    · have hs : S n.toNat (Tri.pv A n.toNat) = true := by
                        unfold hasF at hh
                        rwa [hr, Bool.true_and] at hh
                      have he : putE S A n = 6 := by simp [putE, hr, hs]
                      rw [he]
                      have hli8 : ListIs (putS S A n) (putC S A n c) P := by
                        rcases unhide HPL with ⟨h, _⟩ | ⟨_, h⟩
                        · rw [he] at h; cases h
                        · exact h
                      have HLI8 := hide hli8
                      clear hli8 he hr hs hh
                      go_wp2_with fail
                      refine (unhide HR _).mono ?_
                      rintro e w9 ⟨rfl, b9⟩
                      go_wp2_with fail
                      go_meet
                      case rel => exact ⟨_, _, P, by have := unhide HPN; omega, unhide HLI8, unhide HLEN8, (unhide HT8).below b9, (unhide KA8).below b9 (unhide KA8).lt, (by have := (unhide KB8).below b9 (unhide KB8).lt; rwa [unhide HAX, unhide HNX] at this), (unhide HBW8).trans (b9.mono (unhide HBW8).size)⟩
              case rest =>
                as_aux_lemma =>
                obtain ⟨S1, c1, P1, hP1, hli, hlen, htk, ka, kb, hbw⟩ := hcut
                have HLI1 := hide hli
                have HLEN1 := hide hlen
                have HBW1 := hide hbw
                have KB1 := hide kb
                obtain ⟨sv1, cv1, rfl, hcv1, hrow⟩ := row_shape htk.2.2.2
                obtain ⟨n1, hn1⟩ : ∃ n1, n1 = P1.length := ⟨_, rfl⟩
                have HN1 := hide hn1
                rw [← hn1] at hcv1 htk hrow hP1 ⊢
                have HROW1 := hide hrow
                have HTK1 := hide htk
                obtain ⟨X, hX⟩ : ∃ X, X = 167772160 + x.base % 4096 := ⟨_, rfl⟩
                have hX32 : X < 4294967296 := by omega
                have a1 : wc.cell? ⟨ga, 1, none⟩ = some (.int .u32 (x.base : Int)) := ka.cell 1
                have hbase := okx.base
                have HXE := hide hX
                clear hli hlen hbw htk hrow hn1 hX ka kb HLI HLEN HTK HT7 HBW7 HBO7 KA7 KB7 HFIND HPN HB5 HGA
                go_upto_region 33 with fail
                go_cut [14] (fun s wx => s = .int .u32 (X : Int) ∧ wx = wc)
                case first =>
                  go_wp2_with fail
                  go_meet
                  case rel =>
                    refine ⟨?_, rfl⟩
                    rw [unhide HXE]
                    exact congrArg (Value.int .u32) (by omega)
                case rest =>
                  obtain ⟨rfl, rfl⟩ := hcut
                  clear a1 hbase
                  obtain ⟨wd, hwd⟩ : ∃ wd, wd = wc := ⟨_, rfl⟩
                  subst hwd
                  go_upto_region 35 with fail
                  have hbq0 : Below wd.heap.size wd (wd.alloc (.cells #[.int .u32 0, .int .i64 0] 88)) := (Below.refl _ _).alloc (Nat.le_refl _) _
                  have KQ := hide (Blk.new wd 88 #[.int .u32 0, .int .i64 0])
                  have HBQ0 := hide hbq0
                  clear hbq0
                  obtain ⟨gq, hgq⟩ : ∃ gq, gq = wd.heap.size := ⟨_, rfl⟩
                  have HGQ := hide hgq
                  rw [← hgq] at KQ HBQ0 ⊢
                  clear hgq
                  generalize hwq : (wd.alloc (.cells #[.int .u32 0, .int .i64 0] 88)) = wq at KQ HBQ0 ⊢
                  clear hwq
                  go_wp2_with fail
                  go_loopw [16, 17, 112] (fun is over i wr => ScanRel P1 A n X n1 gq wd is over i wr) (fun _ _ i _ => n1 - (intOf i).toNat)
                  case atStart => exact ⟨0, Nat.zero_le _, rfl, rfl, rfl, unhide KQ, unhide HBQ0⟩
                  case round =>
                    obtain ⟨j2, hj2, rfl, rfl, rfl, hkq, hbq⟩ := hrel
                    have HKQ := hide hkq
                    have HBQ := hide hbq
                    clear hkq hbq KQ HBQ0
                    rcases Nat.lt_or_ge j2 n1 with hjlt | hjge
                    · as_aux_lemma =>
                      have hjn : (j2 : Int) < (n1 : Int) := by omega
                      obtain ⟨p, hp⟩ : ∃ p, P1[j2]? = some p := ⟨_, List.getElem?_eq_getElem (by have := unhide HN1; omega)⟩
                      obtain ⟨l1, l2⟩ := listCells_at _ _ _ hp
                      obtain ⟨gg, rfl, r1, r2⟩ := unhide HROW1 j2 hjlt
                      rw [l1] at r1
                      rw [l2] at r2
                      have hlr : gg < gq := by rw [unhide HGQ]; exact block_lt_of_cell r1
                      have e1 : wr.cell? ⟨gg, j2 * 2, none⟩ = some (.int .u32 ((pbase p : Nat) : Int)) := ((unhide HBQ).cell hlr).trans r1
                      have e2 : wr.cell? ⟨gg, j2 * 2 + 1, none⟩ = some (.int .i64 (p.1 : Int)) := ((unhide HBQ).cell hlr).trans r2
                      have hgqr : gq < wr.heap.size := (unhide HKQ).lt
                      have hdeep := (unhide HLI1).deep p (List.mem_of_getElem? hp)
                      have hhas := has_is (X := X) hdeep.1
                      have hpb32 : pbase p < 4294967296 := Tri.base_lt hdeep.1 hdeep.2
                      obtain ⟨pb, hpb⟩ : ∃ pb, pb = pbase p := ⟨_, rfl⟩
                      obtain ⟨pm, hpm⟩ : ∃ pm, pm = p.1 := ⟨_, rfl⟩
                      rw [← hpb] at e1 hpb32
                      rw [← hpm] at e2
                      have hHas : ∀ W, Calls Try.prog 52 #[.agg #[.int .u32 (pb : Int), .int .i64 (pm : Int)], .int .u32 (X : Int)] W fun e w' => e = .returned (.bool (hasB X p)) ∧ Below W.heap.size W w' := fun W => by
                        have := has_addr pb X (pm : Int) hpb32 hX32 W
                        rw [hpb, hpm, hhas] at this
                        rw [hpb, hpm]
                        exact this
                      have HHAS := hide hHas
                      have hnx := bestF_next (x := X) hp
                      have hov := overF_next (A := A) (n := n) hp
                      have HNX2 := hide hnx
                      have HOV := hide hov
                      have HPB := hide hpb
                      have HPM := hide hpm
                      clear hp l1 l2 r1 r2 hdeep hhas hHas hnx hov hpb hpm
                      go_upto_region 39 with fail
                      clear e1 e2
                      have KQ1 := hide ((unhide HKQ).alloc (.cells #[.int .u32 (pb : Int), .int .i64 (pm : Int)] 88))
                      have KY1 := hide (Blk.new wr 88 #[.int .u32 (pb : Int), .int .i64 (pm : Int)])
                      have HBQ1 := hide ((unhide HBQ).alloc (by have := (unhide HBQ).size; have := unhide HGQ; omega) (.cells #[.int .u32 (pb : Int), .int .i64 (pm : Int)] 88))
                      generalize hgy : wr.heap.size = gy at KY1 hgqr ⊢
                      generalize hwy : (wr.alloc (.cells #[.int .u32 (pb : Int), .int .i64 (pm : Int)] 88)) = wy at KQ1 KY1 HBQ1 ⊢
                      clear hgy hwy HKQ HBQ
                      go_cut [16, 129] (fun s16 s wx => s16 = .bool (bestF P1 X j2).isSome ∧ s = .bool (hasB X p && better (bestF P1 X j2) p) ∧ Below wy.heap.size wy wx)
                      case first =>
                        have y0 : wy.cell? ⟨gy, 0, none⟩ = some (.int .u32 (pb : Int)) := (unhide KY1).cell 0
                        have y1 : wy.cell? ⟨gy, 1, none⟩ = some (.int .i64 (pm : Int)) := (unhide KY1).cell 1
                        cases hh : hasB X p with
                        | false =>
                          rw [hh] at HHAS
                          have HH := hide hh
                          clear hh
                          go_wp2_with fail
                          refine (unhide HHAS _).mono ?_
                          rintro e w9 ⟨rfl, b9⟩
                          go_wp2_with fail
                          go_meet
                          case rel => exact ⟨rfl, by rw [unhide HH, Bool.false_and], b9⟩
                        | true =>
                          rw [hh] at HHAS
                          have HH := hide hh
                          clear hh
                          cases hbo : bestF P1 X j2 with
                          | none =>
                            have HBO := hide hbo
                            clear hbo
                            go_wp2_with fail
                            refine (unhide HHAS _).mono ?_
                            rintro e w9 ⟨rfl, b9⟩
                            go_wp2_with fail
                            go_meet
                            case rel => exact ⟨by rw [unhide HBO]; rfl, by rw [unhide HH, unhide HBO]; rfl, b9⟩
                          | some q =>
                            rw [hbo] at KQ1
                            have HBO := hide hbo
                            clear hbo
                            go_wp2_with fail
                            refine (unhide HHAS _).mono ?_
                            rintro e w9 ⟨rfl, b9⟩
                            have ky := (unhide KY1).below b9 (unhide KY1).lt
                            have kq := (unhide KQ1).below b9 (unhide KQ1).lt
                            have z1 : w9.cell? ⟨gy, 1, none⟩ = some (.int .i64 (pm : Int)) := ky.cell 1
                            have q1 : w9.cell? ⟨gq, 1, none⟩ = some (.int .i64 (q.1 : Int)) := kq.cell 1
                            have HB9 := hide b9
                            clear ky kq b9
                            by_cases hlt2 : q.1 < p.1
                            · have hlt3 : (q.1 : Int) < (pm : Int) := by have := unhide HPM; omega
                              go_wp2_with fail
                              go_meet
                              case rel => exact ⟨by rw [unhide HBO]; rfl, by rw [unhide HH, unhide HBO]; have hq := unhide HPM; simp [better]; omega, unhide HB9⟩
                            · have hlt3 : ¬ (q.1 : Int) < (pm : Int) := by have := unhide HPM; omega
                              go_wp2_with fail
                              go_meet
                              case rel => exact ⟨by rw [unhide HBO]; rfl, by rw [unhide HH, unhide HBO]; have hq := unhide HPM; simp [better]; omega, unhide HB9⟩
                      case rest =>
                        obtain ⟨rfl, rfl, b9⟩ := hcut
                        have KY2 := hide ((unhide KY1).below b9 (unhide KY1).lt)
                        have KQ2 := hide ((unhide KQ1).below b9 (unhide KQ1).lt)
                        have HBQ2 := hide ((unhide HBQ1).trans (b9.mono (Nat.le_of_lt (unhide KQ1).lt)))
                        clear b9 KY1 KQ1 HBQ1
                        obtain ⟨up, hup⟩ : ∃ up, up = (hasB X p && better (bestF P1 X j2) p) := ⟨_, rfl⟩
                        rw [← hup]
                        have hnx := unhide HNX2
                        rw [← hup] at hnx
                        have HNX3 := hide hnx
                        clear hup hnx HNX2
                        have hgne : gq ≠ gy := Nat.ne_of_lt hgqr
                        go_upto_if 129 with fail
                        go_cut [16] (fun s wx => s = .bool (bestF P1 X (j2 + 1)).isSome ∧ Blk wx gq 88 (bestCells (bestF P1 X (j2 + 1))) ∧ Blk wx gy 88 #[.int .u32 (pb : Int), .int .i64 (pm : Int)] ∧ Below gq wd wx)
                        case first =>
                          cases up with
                          | false =>
                            go_wp2_with fail
                            go_meet
                            case rel =>
                              rw [unhide HNX3]
                              exact ⟨rfl, unhide KQ2, unhide KY2, unhide HBQ2⟩
                          | true =>
                            have y0 : wc.cell? ⟨gy, 0, none⟩ = some (.int .u32 (pb : Int)) := (unhide KY2).cell 0
                            have y1 : wc.cell? ⟨gy, 1, none⟩ = some (.int .i64 (pm : Int)) := (unhide KY2).cell 1
                            obtain ⟨u, v, huv⟩ := bestCells_two (bestF P1 X j2)
                            rw [huv] at KQ2
                            have q0 : wc.cell? ⟨gq, 0, none⟩ = some u := (unhide KQ2).cell 0
                            have q1 : wc.cell? ⟨gq, 1, none⟩ = some v := (unhide KQ2).cell 1
                            have f0 := (unhide KQ2).frozen 0
                            have f1 := (unhide KQ2).frozen 1
                            clear huv
                            go_wp2_with fail
                            go_meet
                            case rel =>
                              rw [unhide HNX3]
                              have k1 := ((unhide KQ2).store 0 (.int .u32 (pb : Int))).store 1 (.int .i64 (pm : Int))
                              refine ⟨rfl, ?_, ((unhide KY2).far (p := ⟨gq, 0, none⟩) (Ne.symm hgne) _).far (p := ⟨gq, 1, none⟩) (Ne.symm hgne) _, ((unhide HBQ2).setCell (Nat.le_refl _) _).setCell (Nat.le_refl _) _⟩
                              have hpe : bestCells (some p) = #[.int .u32 (pb : Int), .int .i64 (pm : Int)] := by rw [unhide HPB, unhide HPM]; rfl
                              first | rw [if_pos trivial, hpe] | rw [if_pos rfl, hpe]
                              exact k1
                        case rest =>
                          obtain ⟨rfl, kq, ky, hbq⟩ := hcut
                          have KQ3 := hide kq
                          have KY3 := hide ky
                          have HBQ3 := hide hbq
                          clear kq ky hbq KQ2 KY2 HBQ2
                          have hov := unhide HOV
                          rw [← unhide HPB, ← unhide HPM] at hov
                          have HOV2 := hide hov
                          clear hov HOV
                          cases hof : overF P1 A n j2 with
                          | true =>
                            have HOF := hide hof
                            clear hof
                            go_wp2_with fail
                            exact ⟨⟨j2 + 1, by omega, by simp, rfl, by rw [unhide HOV2, unhide HOF]; rfl, unhide KQ3, unhide HBQ3⟩, by simp [intOf]; omega⟩
                          | false =>
                            have HOF := hide hof
                            clear hof
                            have y0 : wc.cell? ⟨gy, 0, none⟩ = some (.int .u32 (pb : Int)) := (unhide KY3).cell 0
                            have y1 : wc.cell? ⟨gy, 1, none⟩ = some (.int .i64 (pm : Int)) := (unhide KY3).cell 1
                            have hgb2 : gb < gq := by rw [unhide HGQ]; exact (unhide KB1).lt
                            have kb := (unhide KB1).below (unhide HBQ3) hgb2
                            have b0 : wc.cell? ⟨gb, 0, none⟩ = some (.int .u32 (x.A : Int)) := kb.cell 0
                            have b1 : wc.cell? ⟨gb, 1, none⟩ = some (.int .i64 x.n) := kb.cell 1
                            rw [← unhide HAX] at b0
                            rw [← unhide HNX] at b1
                            have hov : ∀ W, Calls Try.prog 43 #[.agg #[.int .u32 (pb : Int), .int .i64 (pm : Int)], .agg #[.int .u32 (A : Int), .int .i64 n]] W fun e w' => e = .returned (.bool (overlap pb pm A n)) ∧ Below W.heap.size W w' := fun W => overlap_block pb A pm n hpb32 hAlt W
                            have HOVC := hide hov
                            clear kb hov
                            go_wp2_with fail
                            refine (unhide HOVC _).mono ?_
                            rintro e w9 ⟨rfl, b9⟩
                            have KQ4 := hide ((unhide KQ3).below b9 (unhide KQ3).lt)
                            have HBQ4 := hide ((unhide HBQ3).trans (b9.mono (Nat.le_of_lt (unhide KQ3).lt)))
                            clear b9 y0 y1 b0 b1 KQ3 KY3 HBQ3
                            go_wp2_with fail
                            exact ⟨⟨j2 + 1, by omega, by simp, rfl, by rw [unhide HOV2, unhide HOF]; rfl, unhide KQ4, unhide HBQ4⟩, by simp [intOf]; omega⟩
                    · as_aux_lemma =>
                      obtain rfl : j2 = n1 := by omega
                      have hjn : ¬ ((j2 : Int) < (j2 : Int)) := by omega
                      have hbq := unhide HBQ
                      rw [unhide HGQ] at hbq
                      have HT8 := hide ((unhide HTK1).below hbq)
                      have HBW8 := hide ((unhide HBW1).trans (hbq.mono (unhide HBW1).size))
                      have KB8 := hide ((unhide KB1).below hbq (unhide KB1).lt)
                      have HKQ8 := HKQ
                      clear hbq HBQ HKQ HTK1 HBW1 KB1 HROW1
                      have hbe := fun o (ho : LongP S1 X o) => best_end (unhide HLI1) ho
                      rw [← unhide HN1] at hbe
                      have HBE := hide hbe
                      clear hbe
                      obtain ⟨NT, hNT, -⟩ := (unhide HT8).2.2.1
                      have HNT := hide hNT
                      clear hNT
                      go_wp2_with fail
                      refine (longest_any (unhide HNT) X hX32).mono ?_
                      rintro e w9 ⟨ol, hol, rfl, b9⟩
                      rw [unhide HBE ol hol] at HKQ8 ⊢
                      have HT9 := hide ((unhide HT8).below b9)
                      have HNT9 := hide ((unhide HNT).below b9)
                      have HBW9 := hide ((unhide HBW8).trans (b9.mono (unhide HBW8).size))
                      have KB9 := hide ((unhide KB8).below b9 (unhide KB8).lt)
                      have KQ9 := hide ((unhide HKQ8).below b9 (unhide HKQ8).lt)
                      clear b9 hol HBE HT8 HNT HBW8 KB8 HKQ8
                      have hov : ∀ W, TrieAt W G G NT S1 c1 → Calls Try.prog 41 #[.pointer (some ⟨G, 0, none⟩), .agg #[.int .u32 (A : Int), .int .i64 n]] W fun e w' => e = .returned (.bool (overF P1 A n j2)) ∧ Below W.heap.size W w' := fun W hW => by
                        cases hr : Tri.right A n with
                        | false => rw [unhide HN1, over_end_bad hr]; exact over_bad G A n hAlt hr
                        | true =>
                          obtain ⟨m, rfl, hm, _, _⟩ := right_form hAlt hr
                          exact over_val hW A m hAlt hm hr _ (by rw [unhide HN1]; exact over_end (unhide HLI1) hr)
                      have hlenc : c1 = j2 := by rw [(unhide HLI1).count, unhide HN1]
                      have b0 : w9.cell? ⟨gb, 0, none⟩ = some (.int .u32 (x.A : Int)) := (unhide KB9).cell 0
                      have b1 : w9.cell? ⟨gb, 1, none⟩ = some (.int .i64 x.n) := (unhide KB9).cell 1
                      rw [← unhide HAX] at b0
                      rw [← unhide HNX] at b1
                      have hgbl : gb < w9.heap.size := (unhide KB9).lt
                      have hgql : gq < w9.heap.size := (unhide KQ9).lt
                      have HOV := hide hov
                      clear hov KB9
                      subst hlenc
                      have fin : ∀ w10 : World, Below w9.heap.size w9 w10 → ScrRel L G w (.slice sv1 c1 cv1) (.int .i64 ((k : Int) + 1)) w10 := fun w10 hb => ⟨k + 1, S1, c1, P1, by omega, by simp, by have := unhide HN1; omega, unhide HLI1, unhide HLEN1, (unhide HT9).below hb, (unhide HBW9).trans (hb.mono (unhide HBW9).size)⟩
                      have HFIN := hide fin
                      clear fin
                      generalize overF P1 A n c1 = ov at HOV ⊢
                      cases ol with
                      | none =>
                        have q0 : w9.cell? ⟨gq, 0, none⟩ = some (.int .u32 0) := (unhide KQ9).cell 0
                        have q1 : w9.cell? ⟨gq, 1, none⟩ = some (.int .i64 0) := (unhide KQ9).cell 1
                        have hlv : longVal X none = .tuple #[.agg #[.int .u32 0, .int .i64 0], .bool false] := rfl
                        rw [hlv]
                        clear hlv
                        have hbl : Below w9.heap.size w9 (w9.alloc (.cells #[.int .u32 0, .int .i64 0] 88)) := (Below.refl _ _).alloc (Nat.le_refl _) _
                        have HOVN := hide (unhide HOV _ ((unhide HNT9).below hbl))
                        have HNTL := hide ((unhide HNT9).below hbl)
                        have HBLL := hide hbl
                        clear hbl HOV
                        cases ov
                        all_goals
                          go_wp2_with fail
                          refine (unhide HOVN).mono ?_
                          rintro e w10 ⟨rfl, b10⟩
                          have HNT10 := hide ((unhide HNTL).below b10)
                          have HB10 := hide ((unhide HBLL).trans (b10.mono (unhide HBLL).size))
                          clear b10
                          go_wp2_with (go_at_call 47; refine (len_any (unhide HNT10)).mono ?_; rintro e w11 ⟨rfl, rfl⟩)
                          exact ⟨unhide HFIN _ (unhide HB10), by simp [intOf]; omega⟩
                      | some kk =>
                        obtain ⟨AL, hAL⟩ : ∃ AL, AL = pbase (kk, Tri.pv X kk) := ⟨_, rfl⟩
                        have hlv : longVal X (some kk) = .tuple #[.agg #[.int .u32 (AL : Int), .int .i64 (kk : Int)], .bool true] := by rw [hAL]; rfl
                        have q0 : w9.cell? ⟨gq, 0, none⟩ = some (.int .u32 (pbase (kk, Tri.pv X kk) : Int)) := (unhide KQ9).cell 0
                        rw [← hAL] at q0
                        have q1 : w9.cell? ⟨gq, 1, none⟩ = some (.int .i64 (kk : Int)) := (unhide KQ9).cell 1
                        rw [hlv]
                        clear hlv hAL
                        have hbl : Below w9.heap.size w9 (w9.alloc (.cells #[.int .u32 (AL : Int), .int .i64 (kk : Int)] 88)) := (Below.refl _ _).alloc (Nat.le_refl _) _
                        have HOVN := hide (unhide HOV _ ((unhide HNT9).below hbl))
                        have HNTL := hide ((unhide HNT9).below hbl)
                        have HBLL := hide hbl
                        clear hbl HOV
                        cases ov
                        all_goals
                          go_wp2_with fail
                          refine (unhide HOVN).mono ?_
                          rintro e w10 ⟨rfl, b10⟩
                          have HNT10 := hide ((unhide HNTL).below b10)
                          have HB10 := hide ((unhide HBLL).trans (b10.mono (unhide HBLL).size))
                          clear b10
                          go_wp2_with (go_at_call 47; refine (len_any (unhide HNT10)).mono ?_; rintro e w11 ⟨rfl, rfl⟩)
                          exact ⟨unhide HFIN _ (unhide HB10), by simp [intOf]; omega⟩
      · as_aux_lemma =>
        obtain rfl : k = L.length := by omega
        have hkn : ¬ ((L.length : Int) < (L.length : Int)) := by omega
        obtain ⟨N, hT, -⟩ := (unhide HTK).2.2.1
        have hc1 : c = pn := by rw [(unhide HLI).count, unhide HPN]
        have hp : (pre S 32 0 0).length ≤ 4294967296 := by rw [← unhide HLEN]; omega
        have HT := hide hT
        have HP := hide hp
        have HC1 := hide hc1
        clear hT hp hc1 HACT HROW
        go_wp2_with fail
        refine (all_any (unhide HT) (unhide HP)).mono ?_
        rintro e w2 ⟨va, rfl, hra, b2⟩
        have HT2 := hide ((unhide HT).below b2)
        have HBW2 := hide ((unhide HBW).trans (b2.mono (unhide HBW).size))
        obtain ⟨sv2, cv2, rfl, hcv2, hr2⟩ := row_shape hra
        rw [← unhide HLEN, unhide HC1] at hcv2 hr2 ⊢
        have HR2 := hide hr2
        clear hra b2 hr2 HT HBW
        go_wp2_with fail
        go_loopw [176] (SameRel pn w2) (fun i _ => pn - (intOf i).toNat)
        case atStart => exact ⟨0, Nat.zero_le _, rfl, Below.refl _ _⟩
        case round =>
          obtain ⟨k2, hk2, rfl, hb9⟩ := hrel
          rcases Nat.lt_or_ge k2 pn with hlt | hge2
          · have hkn2 : (k2 : Int) < (pn : Int) := by omega
            have hpl : k2 < (pre S 32 0 0).length := by rw [← unhide HLEN, unhide HC1]; exact hlt
            obtain ⟨p, hp⟩ : ∃ p, (pre S 32 0 0)[k2]? = some p := ⟨_, List.getElem?_eq_getElem hpl⟩
            obtain ⟨l1, l2⟩ := listCells_at _ _ _ hp
            obtain ⟨gg, rfl, r1, r2⟩ := unhide HR2 k2 hlt
            rw [l1] at r1
            rw [l2] at r2
            have hlr : gg < w2.heap.size := block_lt_of_cell r1
            have e1 : wr.cell? ⟨gg, k2 * 2, none⟩ = some (.int .u32 ((pbase p : Nat) : Int)) := (hb9.cell (p := ⟨gg, k2 * 2, none⟩) hlr).trans r1
            have e2 : wr.cell? ⟨gg, k2 * 2 + 1, none⟩ = some (.int .i64 (p.1 : Int)) := (hb9.cell (p := ⟨gg, k2 * 2 + 1, none⟩) hlr).trans r2
            have hmemp := List.mem_of_getElem? hp
            obtain ⟨-, hm32, -, hS⟩ := pre_mem 32 hmemp
            have hu := ((unhide HLI).deep p (((unhide HLI).mem _ _).1 hS)).2
            have hm32' : p.1 ≤ 32 := by omega
            have hpb32 : pbase p < 4294967296 := Tri.base_lt hm32' hu
            have hhas : hasF S (pbase p) (p.1 : Int) = true := by
              unfold hasF pbase
              rw [right_bl hm32', Int.toNat_natCast, Tri.pv_base]
              exact hS
            have hkgy : gg < wr.heap.size := Nat.lt_of_lt_of_le hlr hb9.size
            have hbw : Below w2.heap.size w2 (wr.alloc (.cells #[.int .u32 (pbase p : Int), .int .i64 (p.1 : Int)] 88)) := hb9.alloc hb9.size _
            have hY := Blk.new wr 88 #[.int .u32 (pbase p : Int), .int .i64 (p.1 : Int)]
            have HHAS := hide hhas
            have HBY := hide hbw
            have hw1 : IntKind.i64.wrap ((k2 : Int) + 1) = (k2 : Int) + 1 := IntWalk.i64_in _ (by omega)
            have hmo : Try.prog.follows .mixedOrders = true := by kernel_rfl
            have HSORT := hide (pre_sorted (S := S) 32 (k := 0) (v := 0) (by omega))
            rcases Nat.eq_zero_or_pos k2 with h0 | hpos
            · subst h0
              obtain ⟨pb, hpb⟩ : ∃ pb, pb = pbase p := ⟨_, rfl⟩
              obtain ⟨pm, hpm⟩ : ∃ pm, pm = p.1 := ⟨_, rfl⟩
              rw [← hpb] at e1 hpb32 hhas hY
              rw [← hpb, ← hpm] at HHAS HBY
              rw [← hpm] at e2 hY
              clear hp l1 l2 r1 r2 hmemp hS hu hhas hbw hb9 hpb hpm
              go_upto_region 53 with fail
              generalize hgx2 : wr.heap.size = gx at hY ⊢
              generalize hwy : (wr.alloc (.cells #[.int .u32 (pb : Int), .int .i64 (pm : Int)] 88)) = wy at hY HBY ⊢
              clear hgx2 hwy e1 e2
              have y0 : wy.cell? ⟨gx, 0, none⟩ = some (.int .u32 (pb : Int)) := hY.cell 0
              have y1 : wy.cell? ⟨gx, 1, none⟩ = some (.int .i64 (pm : Int)) := hY.cell 1
              have k0 := cell_regrown y0
              have k1 := cell_regrown y1
              have q3 : ∀ d os, Calls Try.prog 44 #[.pointer (some ⟨G, 0, none⟩), .agg #[.int .u32 (pb : Int), .int .i64 (pm : Int)]] (grow (redrawn wy d) os) fun e w' => e = .returned (.bool true) ∧ ∃ p : Regrown, w' = grow (redrawn wy p.d) p.os := fun d os => Calls.regrown_of ((unhide HHAS) ▸ has_any ((unhide HT2).below ((unhide HBY).trans ((below_regrown wy d os).mono (unhide HBY).size))) pb pm hpb32)
              have Q3 := hide q3
              clear q3 y0 y1 hY
              refine wp_region_quiet_below hmo (by kernel_rfl) ?_
              repeat (first | go_big_quiet_step (first | with_reducible exact (unhide Q3) _ _) | quiet_step (first | with_reducible exact (unhide Q3) _ _))
              refine wpQuiet_nil ?_
              intro _ hw'
              obtain ⟨⟨dq, osq⟩, hw''⟩ := hw'
              subst hw''
              have b7 := below_regrown wy dq osq
              generalize grow (redrawn wy dq) osq = w7 at b7 ⊢
              have HB7 := hide ((unhide HBY).trans (b7.mono (unhide HBY).size))
              clear b7 k0 k1
              go_wp2_with fail
              exact ⟨⟨1, by omega, rfl, unhide HB7⟩, by simp [intOf]; omega⟩
            · have hq0 : k2 - 1 < (pre S 32 0 0).length := by omega
              obtain ⟨q, hq⟩ : ∃ q, (pre S 32 0 0)[k2 - 1]? = some q := ⟨_, List.getElem?_eq_getElem hq0⟩
              obtain ⟨m1, m2⟩ := listCells_at _ _ _ hq
              obtain ⟨gg', hgg, s1, s2⟩ := unhide HR2 (k2 - 1) (by omega)
              obtain rfl : gg = gg' := by simpa using hgg
              rw [m1] at s1
              rw [m2] at s2
              have hmemq := List.mem_of_getElem? hq
              obtain ⟨-, hq32, -, hSq⟩ := pre_mem 32 hmemq
              have huq := ((unhide HLI).deep q (((unhide HLI).mem _ _).1 hSq)).2
              have hqb32 : pbase q < 4294967296 := Tri.base_lt (by omega) huq
              have hah : aheadP q p := by
                have h1 := List.pairwise_iff_getElem.1 (unhide HSORT) (k2 - 1) k2 hq0 hpl (by omega)
                rw [(List.getElem?_eq_some_iff.1 hq).2, (List.getElem?_eq_some_iff.1 hp).2] at h1
                exact h1
              have hah2 : pbase q < pbase p ∨ (pbase q = pbase p ∧ (q.1 : Int) < (p.1 : Int)) := by
                rcases hah with h | ⟨h, h'⟩
                · exact .inl h
                · exact .inr ⟨h, by omega⟩
              have g0 : (wr.alloc (.cells #[.int .u32 (pbase p : Int), .int .i64 (p.1 : Int)] 88)).cell? ⟨gg, (k2 - 1) * 2, none⟩ = some (.int .u32 ((pbase q : Nat) : Int)) := (hbw.cell (p := ⟨gg, (k2 - 1) * 2, none⟩) hlr).trans s1
              have g1 : (wr.alloc (.cells #[.int .u32 (pbase p : Int), .int .i64 (p.1 : Int)] 88)).cell? ⟨gg, (k2 - 1) * 2 + 1, none⟩ = some (.int .i64 (q.1 : Int)) := (hbw.cell (p := ⟨gg, (k2 - 1) * 2 + 1, none⟩) hlr).trans s2
              have qa : ∀ W, Calls Try.prog 55 #[.agg #[.int .u32 (pbase q : Int), .int .i64 (q.1 : Int)], .agg #[.int .u32 (pbase p : Int), .int .i64 (p.1 : Int)]] W fun e w' => e = .returned (.bool true) ∧ Below W.heap.size W w' := fun W => ahead_any _ _ _ _ hah2 W
              have hmp1 : (k2 : Int) - 1 < (pn : Int) := by omega
              have hmp0 : (0 : Int) ≤ (k2 : Int) - 1 := by omega
              have hmp2 : (0 : Int) < (k2 : Int) := by omega
              have hmpn : ((k2 : Int) - 1).toNat = k2 - 1 := by omega
              have hw2 : IntKind.i64.wrap ((k2 : Int) - 1) = (k2 : Int) - 1 := IntWalk.i64_in _ (by omega)
              obtain ⟨pb, hpb⟩ : ∃ pb, pb = pbase p := ⟨_, rfl⟩
              obtain ⟨pm, hpm⟩ : ∃ pm, pm = p.1 := ⟨_, rfl⟩
              obtain ⟨qb, hqb⟩ : ∃ qb, qb = pbase q := ⟨_, rfl⟩
              obtain ⟨qm, hqm⟩ : ∃ qm, qm = q.1 := ⟨_, rfl⟩
              have QA := hide qa
              rw [← hpb, ← hpm] at HHAS HBY g0 g1 hY
              rw [← hpb, ← hqb, ← hpm, ← hqm] at QA
              rw [← hpb] at e1 hpb32
              rw [← hpm] at e2
              rw [← hqb] at g0
              rw [← hqm] at g1
              clear hp l1 l2 r1 r2 hmemp hS hu hhas hbw hb9 hpb hpm hq m1 m2 s1 s2 hgg hmemq hSq huq hah hah2 qa hqb hqm
              go_upto_region 53 with fail
              generalize hgx2 : wr.heap.size = gx at hY ⊢
              generalize hwy : (wr.alloc (.cells #[.int .u32 (pb : Int), .int .i64 (pm : Int)] 88)) = wy at hY HBY g0 g1 ⊢
              clear hgx2 hwy e1 e2
              have y0 : wy.cell? ⟨gx, 0, none⟩ = some (.int .u32 (pb : Int)) := hY.cell 0
              have y1 : wy.cell? ⟨gx, 1, none⟩ = some (.int .i64 (pm : Int)) := hY.cell 1
              have k0 := cell_regrown y0
              have k1 := cell_regrown y1
              have k3 := cell_regrown g0
              have k4 := cell_regrown g1
              have q3 : ∀ d os, Calls Try.prog 44 #[.pointer (some ⟨G, 0, none⟩), .agg #[.int .u32 (pb : Int), .int .i64 (pm : Int)]] (grow (redrawn wy d) os) fun e w' => e = .returned (.bool true) ∧ ∃ p : Regrown, w' = grow (redrawn wy p.d) p.os := fun d os => Calls.regrown_of ((unhide HHAS) ▸ has_any ((unhide HT2).below ((unhide HBY).trans ((below_regrown wy d os).mono (unhide HBY).size))) pb pm hpb32)
              have q4 : ∀ d os, Calls Try.prog 55 #[.agg #[.int .u32 (qb : Int), .int .i64 (qm : Int)], .agg #[.int .u32 (pb : Int), .int .i64 (pm : Int)]] (grow (redrawn wy d) os) fun e w' => e = .returned (.bool true) ∧ ∃ p : Regrown, w' = grow (redrawn wy p.d) p.os := fun d os => Calls.regrown_of (unhide QA _)
              have Q3 := hide q3
              have Q4 := hide q4
              clear q3 q4 QA y0 y1 g0 g1 hY
              refine wp_region_quiet_below hmo (by kernel_rfl) ?_
              repeat (first | go_big_quiet_step (first | with_reducible exact (unhide Q3) _ _ | with_reducible exact (unhide Q4) _ _) | quiet_step (first | with_reducible exact (unhide Q3) _ _ | with_reducible exact (unhide Q4) _ _))
              refine wpQuiet_nil ?_
              intro _ hw'
              obtain ⟨⟨dq, osq⟩, hw''⟩ := hw'
              subst hw''
              have b7 := below_regrown wy dq osq
              generalize grow (redrawn wy dq) osq = w7 at b7 ⊢
              have HB7 := hide ((unhide HBY).trans (b7.mono (unhide HBY).size))
              clear b7 k0 k1 k3 k4
              go_wp2_with fail
              exact ⟨⟨k2 + 1, by omega, by simp, unhide HB7⟩, by simp [intOf]; omega⟩
          · obtain rfl : k2 = pn := by omega
            have hkn2 : ¬ ((k2 : Int) < (k2 : Int)) := by omega
            have HB9 := hide ((unhide HBW2).trans (hb9.mono (unhide HBW2).size))
            clear hb9
            go_wp2_with fail
            go_ret
            exact ⟨rfl, unhide HB9⟩
end Go.Proofs.Ytlpmjkbpcobgdaa

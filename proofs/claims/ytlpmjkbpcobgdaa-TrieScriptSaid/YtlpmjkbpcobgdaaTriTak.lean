/-
  The walk of TrieTake.
-/
import Derived.Test.YtlpmjkbpcobgdaaTriTakP
import Derived.Test.YtlpmjkbpcobgdaaTriTwo
namespace Go.Proofs.Ytlpmjkbpcobgdaa
open Go.RowKit Go.Sort

theorem Tak.put_at {B g base c : Nat} {S : Nat → Nat → Bool} {P : List (Nat × Nat)} {vo : Value} {wr w : World} (h : Tak B g base S c P vo wr) (hb : Below wr.heap.size wr w) (x : ActD) (hx : x.Ok) (hc : c < 4294967296) :
    Calls Try.prog 42 #[.pointer (some ⟨g, 0, none⟩), .agg #[.int .u32 (x.A : Int), .int .i64 x.n]] w fun e w' => e = .returned (.int .i64 (putE S x.A x.n)) ∧ Tak B g base (putS S x.A x.n) (putC S x.A x.n c) P vo w' ∧ Below B w w' ∧ ∀ i t cs, wr.heap.size ≤ i → Blk w i t cs → Blk w' i t cs := by
  obtain ⟨h0, h1, ⟨N, h2, h3⟩, h4⟩ := h
  have h4' : w.ownsRow base 88 2 vo P.length (listCells P) := h4.kept (row := none) ⟨hb.os, hb.tape, hb.output, hb.size, fun i hi _ => hb.block i hi⟩ (by cases vo.ownBlock <;> simp)
  refine (put_any (h2.below hb) x.A x.n (ActD.A_lt hx) (Nat.le_trans h0 hb.size) hc).mono fun e w' ⟨he, N', k1, k2, k3⟩ => ⟨he, ⟨Nat.le_trans h0 (Nat.le_trans hb.size k2.size), Nat.le_trans h1 (Nat.le_trans hb.size k2.size), ⟨N', k1, fun i hi ho => ?_⟩, Frm.row h4' k2 (fun i ho hi => h3 i hi ho)⟩, k2.to_below (Nat.le_trans h0 hb.size) h2.foot_base, fun i t cs hi hk => k2.blk hk ?_⟩
  · rcases k3 i hi with h5 | h5
    · exact h3 i h5 ho
    · have := (h4'.lt i ho).2
      omega
  · rintro ⟨k, v, e⟩
    have := h2.lt e
    omega

def TakRel (L : List ActD) (B g base : Nat) (w0 : World) (vo i : Value) (wr : World) : Prop :=
  ∃ (k : Nat) (P : List (Nat × Nat)), k ≤ L.length ∧ i = .int .i64 (k : Int) ∧ P.length ≤ k ∧ ListIs (runS (L.take k)).1 (runS (L.take k)).2 P ∧ Tak B g base (runS (L.take k)).1 (runS (L.take k)).2 P vo wr ∧ Below w0.heap.size w0 wr

/-- Behind k takes, from the end. -/
def UnRel (B g base : Nat) (P : List (Nat × Nat)) (n : Nat) (vo : Value) (w0 : World) (i : Value) (wr : World) : Prop :=
  ∃ k : Nat, k ≤ n ∧ i = .int .i64 (k : Int) ∧ ∃ S, ListIs S (n - k) (P.take (n - k)) ∧ Tak B g base S (n - k) P vo wr ∧ Below w0.heap.size w0 wr

theorem ListIs.last {S : Nat → Nat → Bool} {c : Nat} {P : List (Nat × Nat)} {p : Nat × Nat} (h : ListIs S (c + 1) (P ++ [p])) : S p.1 p.2 = true ∧ p.1 ≤ 32 ∧ p.2 < 2 ^ p.1 ∧ ListIs (updS S p.1 p.2 false) c P := by
  have hnd := List.nodup_append.1 h.nodup
  have hnot : p ∉ P := fun hp => hnd.2.2 p hp p (by simp) rfl
  refine ⟨(h.mem _ _).2 (by simp), (h.deep p (by simp)).1, (h.deep p (by simp)).2, fun k v => ?_, hnd.1, fun q hq => h.deep q (List.mem_append_left _ hq), by have := h.count; simp at this; omega⟩
  unfold updS
  by_cases e : k = p.1 ∧ v = p.2
  · rw [if_pos e, e.1, e.2]
    simp only [Bool.false_eq_true, false_iff]
    exact hnot
  · rw [if_neg e, h.mem, List.mem_append]
    constructor
    · rintro (h1 | h1)
      · exact h1
      · simp at h1
        exact absurd ⟨by rw [← h1], by rw [← h1]⟩ e
    · exact .inl

theorem Tak.take {B g base c : Nat} {S : Nat → Nat → Bool} {P : List (Nat × Nat)} {vo : Value} {w : World} (h : Tak B g base S c P vo w) {m u : Nat} (hm : m ≤ 32) (hu : u < 2 ^ m) (hs : S m u = true) (hc0 : 0 < c) (hc : c < 4294967296) :
    Calls Try.prog 53 #[.pointer (some ⟨g, 0, none⟩), .agg #[.int .u32 ((u * 2 ^ (32 - m) : Nat) : Int), .int .i64 (m : Int)]] w fun e w' => e = .returned (.int .i64 0) ∧ Tak B g base (updS S m u false) (c - 1) P vo w' ∧ Below B w w' := by
  obtain ⟨h0, h1, ⟨N, h2, h3⟩, h4⟩ := h
  refine (take_good h2 (u * 2 ^ (32 - m)) m (Tri.base_lt hm hu) hm (right_bl hm) (by rw [Tri.pv_base]; exact hs) hc0 hc).mono fun e w' ⟨he, N', k1, k2, k3⟩ => ⟨he, ⟨Nat.le_trans h0 k2.size, Nat.le_trans h1 k2.size, ⟨N', by rw [Tri.pv_base] at k1; exact k1, fun i hi ho => h3 i (k3 i hi) ho⟩, Frm.row h4 k2 (fun i ho hi => h3 i hi ho)⟩, k2.to_below h0 h2.foot_base⟩

theorem row_last {w : World} {base d n cp n' : Nat} {e : TypeId} {sa : Option Addr} {xs : List Value} {u v : Value} (h : w.ownsRow base e 2 (.slice sa n cp) n' xs) (hd : d < n') (h1 : xs[d * 2]? = some u) (h2 : xs[d * 2 + 1]? = some v) :
    ∃ g, sa = some ⟨g, 0, none⟩ ∧ w.cell? ⟨g, d * 2, none⟩ = some u ∧ w.cell? ⟨g, d * 2 + 1, none⟩ = some v := by
  obtain ⟨sa', cp', hv, _, hc⟩ := row_shape h
  cases hv
  obtain ⟨g, rfl, e1, e2⟩ := hc d hd
  exact ⟨g, rfl, e1.trans h1, e2.trans h2⟩

theorem Tak.untake {B g base c : Nat} {S : Nat → Nat → Bool} {P : List (Nat × Nat)} {vo : Value} {w : World} (h : Tak B g base S c P vo w) {m u : Nat} (hm : m ≤ 32) (hu : u < 2 ^ m) (hs : S m u = false) :
    Calls Try.prog 53 #[.pointer (some ⟨g, 0, none⟩), .agg #[.int .u32 ((u * 2 ^ (32 - m) : Nat) : Int), .int .i64 (m : Int)]] w fun e w' => e = .returned (.int .i64 7) ∧ Below w.heap.size w w' := by
  obtain ⟨h0, h1, ⟨N, h2, h3⟩, h4⟩ := h
  refine take_bad h2 (u * 2 ^ (32 - m)) (m : Int) (Tri.base_lt hm hu) ?_
  unfold hasF
  rw [Int.toNat_natCast, Tri.pv_base, hs, Bool.and_false]

set_option maxRecDepth 100000 in
set_option maxHeartbeats 400000 in
theorem take_law (l : List ActD) (v : Value) (w : World) (hA : ActsAt w v l) :
    Calls Try.prog 10 #[v] w fun e w' => e = .returned (.bool true) ∧ Below w.heap.size w w' := by
  obtain ⟨sa, cap, rfl, hcap, hmax, hl⟩ := hA
  obtain ⟨i0, hi, hz0, hz1, hz2⟩ := info_parts Try.infoBlock
  have HL := hide hl
  clear hl
  go_enter Try.func10, Try.ntmps10
  go_wp2_with fail
  refine (trie_awake _).mono ?_
  rintro e w1 ⟨rfl, hb1⟩
  have L1 := hide hb1
  clear hb1
  obtain ⟨L, hL⟩ : ∃ L, L = l.take 60 := ⟨_, rfl⟩
  have hL60 : L.length ≤ 60 := by rw [hL, List.length_take]; omega
  have hLl : L.length ≤ l.length := by rw [hL, List.length_take]; omega
  have hact : ∀ i x, L[i]? = some x → x.Ok ∧ ∃ b o, sa = some ⟨b, o, none⟩ ∧ w.rangeAt b (o + i * 6) (actCells x) := fun i x hx => by
    rw [hL, List.getElem?_take] at hx
    split at hx
    · exact unhide HL i x hx
    · cases hx
  have hok : ∀ z ∈ L, z.Ok := fun z hz => by
    obtain ⟨i, hi⟩ := List.getElem?_of_mem hz
    exact (hact i z hi).1
  have HACT := hide hact
  have HOK := hide hok
  clear hact HL hok
  go_upto_region 5 with fail
  go_cut [18, 19, 20] (fun s18 s19 s20 wx => s18 = .slice sa L.length cap ∧ s19 = .int .i64 (L.length : Int) ∧ s20 = .int .i64 0 ∧ wx = w1.alloc (.cells #[.bool false, .pointer none, .pointer none, .int .i64 0] 96))
  case first =>
    have hmm : (l.length : Int) ≤ 60 → L.length = l.length := fun h => by rw [hL, List.length_take]; omega
    have hmm2 : 60 < (l.length : Int) → L.length = 60 := fun h => by rw [hL, List.length_take]; omega
    go_wp2_with fail
    all_goals
      go_meet
      case rel =>
        refine ⟨?_, ?_, rfl, rfl⟩
        all_goals
          first
            | (rw [hmm (by omega)]; done)
            | (rw [hmm2 (by omega)]; done)
            | (rw [hmm2 (by omega)]; rfl)
  case rest =>
    clear hL
    obtain ⟨rfl, rfl, rfl, rfl⟩ := hcut
    have hT0 := trie_new w1
    have hbl : Below w.heap.size w (w1.alloc (.cells #[.bool false, .pointer none, .pointer none, .int .i64 0] 96)) := (unhide L1).alloc (unhide L1).size _
    have hzz : w1.heap.size + 1 ≤ (w1.alloc (.cells #[.bool false, .pointer none, .pointer none, .int .i64 0] 96)).heap.size := by simp
    have hB0 : w.heap.size ≤ w1.heap.size := (unhide L1).size
    generalize (w1.alloc (.cells #[.bool false, .pointer none, .pointer none, .int .i64 0] 96)) = W3 at hT0 hbl hzz ⊢
    generalize hgx : w1.heap.size = G at hT0 hzz hB0 ⊢
    have hTak : Tak G G (G + 1) S0 0 [] (.slice none 0 0) W3 := ⟨by omega, by omega, ⟨_, hT0, fun i _ => by simp [Value.ownBlock]⟩, ⟨rfl, .inl ⟨rfl, rfl⟩⟩⟩
    have HTAK := hide hTak
    have HBL := hide hbl
    clear hT0 hbl hTak L1
    go_wp2_with fail
    go_loopw [4, 20] (fun vo i wr => TakRel L G G (G + 1) w vo i wr) (fun _ i _ => L.length - (intOf i).toNat)
    case atStart => exact ⟨0, [], Nat.zero_le _, rfl, Nat.le_refl _, ⟨by simp [runS, S0], List.nodup_nil, by simp, rfl⟩, by simpa [runS] using unhide HTAK, unhide HBL⟩
    case round =>
      obtain ⟨k, P, hk, rfl, hPk, hli, htk, hbw⟩ := hrel
      have HLI := hide hli
      have HTK := hide htk
      have HBW := hide hbw
      clear hli htk hbw HTAK HBL
      rcases Nat.lt_or_ge k L.length with hlt | hge
      · obtain ⟨x, hx⟩ : ∃ x, L[k]? = some x := ⟨_, List.getElem?_eq_getElem hlt⟩
        obtain ⟨okx, b, o, rfl, hrx⟩ := unhide HACT k x hx
        have HX := hide hx
        have RX := hide (rangeAt_below (unhide HBW) hrx)
        have hkn : (k : Int) < (L.length : Int) := by omega
        clear hrx hx
        have hcx : (runS (L.take k)).2 < 4294967296 := by
          have h1 := (runS_len (L.take k) (fun z hz => unhide HOK z (List.mem_of_mem_take hz))).2
          rw [List.length_take] at h1
          omega
        have HCX := hide hcx
        clear hcx
        have hsx := runS_succ (unhide HX)
        generalize runS (L.take k) = SX at HLI HTK HCX hsx
        obtain ⟨S, c⟩ := SX
        have HSX := hide hsx
        clear hsx
        have h1c : (actCells x).toArray.all (·.oneCell') = true := oneCells rfl
        have hsz6 : (Try.prog.info? 103).map (·.size) = some (actCells x).toArray.size := by kernel_rfl
        go_wp2_with (first
          | (refine wpList_load_mid rfl 103 (.tmp 22) rfl b (o + k * 6) rfl (actCells x) _ (unhide RX) Try.underlying103 rfl (by kernel_rfl) ?_)
          | (refine wpList_store_blk rfl 103 (.tmp 6) (.tmp 23) rfl wr.heap.size (actCells x).toArray _ 103 rfl rfl (Blk.new_at rfl) rfl hsz6 h1c ?_; intro w3 blk3 hg3; have HK3 := hide blk3; have HG3 := hide hg3; clear blk3 hg3)
          | (refine wpList_load_row rfl 103 (.tmp 6) rfl wr.heap.size rfl 103 (actCells x).toArray (0, 0) _ (unhide HK3) Try.underlying103 rfl hsz6 ?_))
        have hb3 : Below wr.heap.size wr w3 := ((Below.refl wr.heap.size wr).alloc (Nat.le_refl _) _).grown (unhide HG3) (by simp) (by rintro _ ⟨⟩; exact Nat.le_refl _)
        refine (act_block x okx _).mono ?_
        rintro e w4 ⟨rfl, b4⟩
        have K4 := (unhide HK3).below b4 (unhide HK3).lt
        have hb4 := hb3.trans (b4.mono hb3.size)
        have HB4 := hide hb4
        have HK4 := hide K4
        clear b4 hb3 hb4 K4 HK3 HG3
        go_wp2_with fail
        refine ((unhide HTK).put_at (unhide HB4) x okx (unhide HCX)).mono ?_
        rintro e w5 ⟨rfl, t5, b5, keep5⟩
        have HK5 := hide (keep5 _ _ _ (Nat.le_refl _) (unhide HK4))
        have HBW5 := hide (((unhide HBW).trans ((unhide HB4).mono (unhide HBW).size)).trans (b5.mono hB0))
        have HT5 := hide t5
        clear b5 t5 keep5 HK4 HB4 HTK HBW
        rcases (unhide HLI).put (a := x.A) (n := x.n) (ActD.A_lt okx) with ⟨he0, m, hm, hm32, hbase, hli⟩ | ⟨hne, hli⟩
        · rw [he0]
          have HLI2 := hide hli
          have HE0 := hide he0
          have HM := hide hm
          have HBASE := hide hbase
          clear HLI hli he0 hm hbase
          go_wp2_with (first
            | (refine wpList_load_row rfl 103 (.tmp 6) rfl wr.heap.size rfl 103 (actCells x).toArray (0, 0) _ (unhide HK5) Try.underlying103 rfl hsz6 ?_))
          refine (act_block x okx _).mono ?_
          rintro e w6 ⟨rfl, b6⟩
          have hbx : Below w5.heap.size w5 (w6.alloc (.cells #[.int .u32 (x.A : Int), .int .i64 x.n] 88)) := b6.alloc b6.size _
          have hT6 := (unhide HT5).below hbx
          have HBW6 := hide ((unhide HBW5).trans (hbx.mono (unhide HBW5).size))
          have HR6 := hide hT6.2.2.2
          have HBS := hide hT6.2.1
          have HT6 := hide hT6
          have hnew : ∀ j u, ([Value.int .u32 (x.A : Int), Value.int .i64 x.n] : List Value)[j]? = some u → (w6.alloc (.cells #[.int .u32 (x.A : Int), .int .i64 x.n] 88)).cell? ((⟨w6.heap.size, 0, none⟩ : Addr).add j) = some u := by
            intro j u hj
            have := (Blk.new w6 88 #[.int .u32 (x.A : Int), .int .i64 x.n]).cell j
            rw [show ((⟨w6.heap.size, 0, none⟩ : Addr).add j) = ⟨w6.heap.size, j, none⟩ from by cases j <;> simp [Addr.add], this]
            simpa using hj
          have h1c2 : ∀ u ∈ ([Value.int .u32 (x.A : Int), Value.int .i64 x.n] : List Value), u.oneCell' = true := by simp [Value.oneCell']
          have h63 : P.length + 1 ≤ maxLen := by unfold maxLen; omega
          have hby : (P.length + 1) * 16 ≤ 140737488355328 := by omega
          have HNEW := hide hnew
          have H1C := hide h1c2
          have H63 := hide h63
          have HBY := hide hby
          clear hnew h1c2 h63 hby hbx hT6 b6 HBW5 HT5 HK5
          go_wp2_with (at_builtin; go_loud (refine wpList_append_own_at _ rfl (.tmp 29) (.tmp 32) 105 rfl (G + 1) 88 i0 (.agg #[.int .u32 0, .int .i64 0]) 2 16 Try.underlying105 hi hz0 hz1 hz2 rfl (by decide) u4 P.length (listCells P) rfl (unhide HR6) ⟨w6.heap.size, 0, none⟩ 1 1 [Value.int .u32 (x.A : Int), Value.int .i64 x.n] rfl rfl (unhide HNEW) (unhide H1C) (unhide H63) (unhide HBY) (unhide HBS) ?_); intro v' w7 hown hgrow _ hv; have HO7 := hide hown; have HG7 := hide hgrow; have HV7 := hide hv; clear hown hgrow hv)
          refine ⟨⟨k + 1, P ++ [(m, Tri.pv x.A m)], by omega, by simp, by simp; omega, ?_, ?_, ?_⟩, by simp [intOf]; omega⟩
          · rw [unhide HSX]
            exact unhide HLI2
          · rw [unhide HSX]
            have hc : blCells (m, Tri.pv x.A m) = [Value.int .u32 (x.A : Int), Value.int .i64 x.n] := by
              unfold blCells
              rw [← unhide HBASE, unhide HM]
            exact (unhide HT6).append (by rw [hc]; exact unhide HO7) (unhide HG7) (unhide HV7)
          · exact (unhide HBW6).grown (unhide HG7) (by have := (unhide HBW6).size; omega) (fun z hz => by
              have := ((unhide HR6).lt z hz).1
              omega)
        · have hne2 : ¬ (putE S x.A x.n = 0) := hne
          have HLI2 := hide hli
          clear HLI hli hne
          go_wp2_with fail
          refine ⟨⟨k + 1, P, by omega, by simp, by omega, ?_, ?_, unhide HBW5⟩, by simp [intOf]; omega⟩
          · rw [unhide HSX]
            exact unhide HLI2
          · rw [unhide HSX]
            exact unhide HT5
      · obtain rfl : k = L.length := by omega
        have hkn : ¬ ((L.length : Int) < (L.length : Int)) := by omega
        rw [List.take_length] at HLI HTK
        have hlx := runS_len L (unhide HOK)
        generalize runS L = R at HLI HTK hlx
        obtain ⟨S, c⟩ := R
        obtain ⟨hx1, hx2⟩ := hlx
        simp only at hx1 hx2 HLI HTK
        obtain ⟨sva, cva, rfl, hcva, hra⟩ := row_shape (unhide HTK).2.2.2
        obtain rfl : c = P.length := (unhide HLI).count
        obtain ⟨n, hn⟩ : ∃ n, n = P.length := ⟨_, rfl⟩
        have HN := hide hn
        rw [← hn] at HLI HTK hcva hra hx2 hPk ⊢
        clear hn hx1 HACT hra
        go_wp2_with fail
        go_loopw [37] (fun i wr => UnRel G G (G + 1) P n (.slice sva n cva) w i wr) (fun i _ => n - (intOf i).toNat)
        case atStart => exact ⟨0, Nat.zero_le _, rfl, S, by rw [Nat.sub_zero]; rw [unhide HN, List.take_length, ← unhide HN]; exact unhide HLI, unhide HTK, unhide HBW⟩
        case round =>
          obtain ⟨k, hk2, rfl, S', hli, htk, hbw⟩ := hrel
          have HLI3 := hide hli
          have HTK3 := hide htk
          have HBW3 := hide hbw
          clear hli htk hbw HLI HTK HBW
          rcases Nat.lt_or_ge k n with hlt | hge
          · have hkn2 : (k : Int) < (n : Int) := by omega
            have hdP : n - 1 - k < P.length := by have := unhide HN; omega
            obtain ⟨⟨pm, pu⟩, hp⟩ : ∃ p, P[n - 1 - k]? = some p := ⟨_, List.getElem?_eq_getElem hdP⟩
            have htl : P.take (n - k) = P.take (n - 1 - k) ++ [(pm, pu)] := by rw [show n - k = n - 1 - k + 1 from by omega, List.take_add_one, hp]; rfl
            have hli3 : ListIs S' (n - 1 - k + 1) (P.take (n - 1 - k) ++ [(pm, pu)]) := by
              rw [← htl, show n - 1 - k + 1 = n - k from by omega]
              exact unhide HLI3
            obtain ⟨hs, hm32, hu, hli2⟩ := hli3.last
            simp only at hs hm32 hu hli2
            obtain ⟨l1, l2⟩ := listCells_at _ (n - 1 - k) _ hp
            simp only at l1 l2
            have hlast := row_last (unhide HTK3).2.2.2 hdP l1 l2
            obtain ⟨gg, rfl, e1, e2⟩ := hlast
            obtain ⟨A, hA⟩ : ∃ A, A = pu * 2 ^ (32 - pm) := ⟨_, rfl⟩
            have T1 := (unhide HTK3).take hm32 hu hs (by omega) (by have := unhide HN; omega)
            rw [← hA] at e1 l1 T1
            rw [show n - k - 1 = n - 1 - k from by omega] at T1
            have TL : Calls Try.prog 47 #[.pointer (some ⟨G, 0, none⟩)] wr fun e w' => e = .returned (.int .i64 ((n : Int) - (k : Int))) ∧ wr = w' := by
              have := len_any (unhide HTK3).2.2.1.choose_spec.1
              rw [show ((n - k : Nat) : Int) = (n : Int) - (k : Int) from by omega] at this
              exact this
            have HT1 := hide T1
            have HTL := hide TL
            have HL1 := hide l1
            have HL2 := hide l2
            have HLI4 := hide hli2
            have HA := hide hA
            have HDP := hide hdP
            clear htl hp hs hli2 hA T1 TL l1 l2 HLI3 hli3 hdP
            go_wp2_with (go_at_call 47; refine (unhide HTL).mono ?_; rintro e w4 ⟨rfl, rfl⟩)
            refine (unhide HT1).mono ?_
            rintro e w5 ⟨rfl, t5, b5⟩
            have f0 := t5.2.2.2
            obtain ⟨gg', hgg, f1, f2⟩ := row_last f0 (unhide HDP) (unhide HL1) (unhide HL2)
            obtain rfl : gg = gg' := by simpa using hgg
            have HBW5 := hide ((unhide HBW3).trans (b5.mono hB0))
            have T2 : Calls Try.prog 53 #[.pointer (some ⟨G, 0, none⟩), .agg #[.int .u32 (A : Int), .int .i64 (pm : Int)]] w5 fun e w' => e = .returned (.int .i64 7) ∧ Below w5.heap.size w5 w' := by
              rw [unhide HA]
              exact t5.untake hm32 hu (updS_same _ _ _ _)
            have HT2 := hide T2
            have HT5 := hide t5
            clear f0 hgg e1 e2 T2 t5 b5 HT1 HTK3 HBW3 HTL
            go_wp2_with fail
            refine (unhide HT2).mono ?_
            rintro e w6 ⟨rfl, b6⟩
            have HT6 := hide ((unhide HT5).below b6)
            have HBW6 := hide ((unhide HBW5).trans (b6.mono (unhide HBW5).size))
            clear b6 HT5 HBW5 f1 f2
            go_wp2_with fail
            go_roundw
            case rel =>
              refine ⟨k + 1, by omega, by simp, updS S' pm pu false, ?_, ?_, unhide HBW6⟩
              · rw [show n - (k + 1) = n - 1 - k from by omega]
                exact unhide HLI4
              · rw [show n - (k + 1) = n - 1 - k from by omega]
                exact unhide HT6
            case measure => simp [intOf]; omega
          · obtain rfl : k = n := by omega
            rw [Nat.sub_self] at HLI3 HTK3
            have hkn2 : ¬ ((k : Int) < (k : Int)) := by omega
            have hS : S' = S0 := by
              funext i j
              cases hs : S' i j with
              | false => rfl
              | true => exact absurd ((unhide HLI3).mem i j |>.1 hs) (by simp)
            subst hS
            obtain ⟨N, hT, -⟩ := (unhide HTK3).2.2.1
            have HT := hide hT
            clear hT HTK3 HLI3
            go_wp2_with fail
            refine (longest_any (unhide HT) 167772160 (by omega)).mono ?_
            rintro e w5 ⟨o, ho, rfl, b5⟩
            obtain rfl : o = none := by
              cases o with
              | none => rfl
              | some j => exact absurd ho.2.1 (by simp [S0])
            have HT5 := hide ((unhide HT).below b5)
            have HBW5 := hide ((unhide HBW3).trans (b5.mono (unhide HBW3).size))
            clear ho b5 HT HBW3
            unfold longVal
            go_wp2_with fail
            have hbx : Below w5.heap.size w5 (w5.alloc (.cells #[.int .u32 0, .int .i64 0] 88)) := (Below.refl _ _).alloc (Nat.le_refl _) _
            have HT6 := hide ((unhide HT5).below hbx)
            have HBW6 := hide ((unhide HBW5).trans (hbx.mono (unhide HBW5).size))
            clear hbx HT5 HBW5
            refine (len_any (unhide HT6)).mono ?_
            rintro e w7 ⟨rfl, rfl⟩
            go_wp2_with fail
            refine (all_any (unhide HT6) (by rw [pre_S0]; simp)).mono ?_
            rintro e w8 ⟨va, rfl, hra, b8⟩
            rw [pre_S0] at hra
            obtain ⟨sv8, cv8, rfl, -, -⟩ := row_shape hra
            have HT8 := hide ((unhide HT6).below b8)
            have HBW8 := hide ((unhide HBW6).trans (b8.mono (unhide HBW6).size))
            clear hra b8 HT6 HBW6
            go_wp2_with fail
            refine (over_val (unhide HT8) 0 0 (by omega) (by omega) rfl false ⟨(by intro h; cases h), fun h => by rcases h with ⟨k, _, h⟩ | ⟨k, v, _, h, _⟩ <;> cases h⟩).mono ?_
            rintro e w9 ⟨rfl, b9⟩
            have HBW9 := hide ((unhide HBW8).trans (b9.mono (unhide HBW8).size))
            clear b9 HT8 HBW8
            go_wp2_with fail
            go_ret
            exact ⟨rfl, unhide HBW9⟩
end Go.Proofs.Ytlpmjkbpcobgdaa

/-
  Deeds: the argument []Act opened to its cells, and the contract of Act.block.
-/
import Derived.Test.YtlpmjkbpcobgdaaTriAll
namespace Go.Proofs.Ytlpmjkbpcobgdaa
open Go.RowKit Go.Sort

/-- A deed. -/
structure ActD where
  op : Nat
  base : Nat
  bits : Nat
  raw : Bool
  ab : Nat
  an : Int

def actCells (x : ActD) : List Value := [.int .u8 (x.op : Int), .int .u32 (x.base : Int), .int .u8 (x.bits : Int), .bool x.raw, .int .u32 (x.ab : Int), .int .i64 x.an]
structure ActD.Ok (x : ActD) : Prop where
  op : x.op < 256
  base : x.base < 4294967296
  bits : x.bits < 256
  ab : x.ab < 4294967296
  lo : -9223372036854775808 ≤ x.an
  hi : x.an < 9223372036854775808
def ActD.n (x : ActD) : Int := if x.raw then x.an else ((20 + x.bits % 13 : Nat) : Int)
def ActD.A (x : ActD) : Nat := if x.raw then x.ab else Tri.pv (167772160 + x.base % 2048) (20 + x.bits % 13) * 2 ^ (32 - (20 + x.bits % 13))

theorem ActD.A_lt {x : ActD} (h : x.Ok) : x.A < 4294967296 := by
  unfold ActD.A
  split
  · exact h.ab
  · have hk : 20 + x.bits % 13 ≤ 32 := by omega
    exact Tri.base_lt hk (Tri.pv_lt (by omega) hk)

set_option maxHeartbeats 400000 in
theorem act_block (x : ActD) (hx : x.Ok) (w : World) :
    Calls Try.prog 45 #[.agg (actCells x).toArray] w fun e w' => e = .returned (.agg #[.int .u32 (x.A : Int), .int .i64 x.n]) ∧ Below w.heap.size w w' := by
  obtain ⟨op, base, bits, raw, ab, an⟩ := x
  have hb : base < 4294967296 := hx.base
  have hbt : bits < 256 := hx.bits
  cases raw with
  | true =>
    show Calls _ _ #[.agg #[.int .u8 (op : Int), .int .u32 (base : Int), .int .u8 (bits : Int), .bool true, .int .u32 (ab : Int), .int .i64 an]] w fun e w' => e = .returned (.agg #[.int .u32 (ab : Int), .int .i64 an]) ∧ Below w.heap.size w w'
    go_enter Try.func45, Try.ntmps45
    go_wp2_with fail
    exact bodyPost_ret (v := .agg #[.int .u32 (ab : Int), .int .i64 an]) (by simp [results, Try.results45, go_sem]) rfl ⟨rfl, ((Below.refl _ _).alloc (Nat.le_refl _) _).alloc (by simp) _⟩
  | false =>
    have B := fun W => block01 (167772160 + base % 2048) bits (by omega) hbt W
    have hbl : ∃ A n, bl (Tri.pv (167772160 + base % 2048) (20 + bits % 13)) (20 + bits % 13) = .agg #[.int .u32 A, .int .i64 n] := ⟨_, _, rfl⟩
    obtain ⟨A, n, hbl⟩ := hbl
    rw [hbl] at B
    rw [show ((167772160 + base % 2048 : Nat) : Int) = 167772160 + (base : Int) % 2048 from by omega] at B
    have HB := hide B
    clear B
    show Calls _ _ #[.agg #[.int .u8 (op : Int), .int .u32 (base : Int), .int .u8 (bits : Int), .bool false, .int .u32 (ab : Int), .int .i64 an]] w fun e w' => e = .returned (bl (Tri.pv (167772160 + base % 2048) (20 + bits % 13)) (20 + bits % 13)) ∧ Below w.heap.size w w'
    rw [hbl]
    clear hbl
    go_enter Try.func45, Try.ntmps45
    go_wp2_with (go_at_call 40; refine (unhide HB _).mono ?_; rintro e w1 ⟨rfl, hb1⟩; have hz := hb1.size; simp at hz; have K : Blk w1 (w.heap.size + 1) 88 #[.int .u32 0, .int .i64 0] := (Blk.new_at (by simp)).below hb1 (by simp); have c0 : w1.cell? ⟨w.heap.size + 1, 0, none⟩ = some (.int .u32 0) := K.cell 0; have c1 : w1.cell? ⟨w.heap.size + 1, 1, none⟩ = some (.int .i64 0) := K.cell 1; have z0 := K.frozen 0; have z1 := K.frozen 1; have HB1 := hide hb1; have hlt := K.lt; clear hb1)
    have hb1 := unhide HB1
    exact bodyPost_ret (v := .agg #[.int .u32 A, .int .i64 n]) (by simp [results, Try.results45, go_sem, c0, c1]) rfl ⟨rfl, ((((((Below.refl w.heap.size w).alloc (Nat.le_refl _) _).alloc (by simp) _).trans (hb1.mono (by simp; omega))).setCell (by simp) _).setCell (by simp) _)⟩

def ActsAt (W : World) (v : Value) (l : List ActD) : Prop :=
  ∃ sa cap, v = .slice sa l.length cap ∧ l.length ≤ cap ∧ cap ≤ maxLen ∧ ∀ i x, l[i]? = some x → x.Ok ∧ ∃ b o, sa = some ⟨b, o, none⟩ ∧ W.rangeAt b (o + i * 6) (actCells x)

theorem Try.cellsBlock : Try.prog.cellsOf 88 = 2 := by kernel_rfl
theorem Try.cellsAct : Try.prog.cellsOf 103 = 6 := by kernel_rfl
theorem Try.cellsAddr : Try.prog.cellsOf 42 = 1 := by kernel_rfl
theorem Try.cellsInt : Try.prog.cellsOf 3 = 1 := by kernel_rfl
theorem Try.cellsU8 : Try.prog.cellsOf 5 = 1 := by kernel_rfl
theorem Try.cellsU32 : Try.prog.cellsOf 41 = 1 := by kernel_rfl
theorem Try.cellsBool : Try.prog.cellsOf 4 = 1 := by kernel_rfl

theorem trod_block {H : Type} {enc : TypeId × Value → H} {W : World} {base n : Nat} {spare : Nat → Bool} {held : Bool} {cs : List Value} {y : DataW H × List MemPlace} (h : DataW.trod enc Try.prog W base spare held n 88 cs = some y) :
    ∃ (a : Nat) (m : Int), cs = [.int .u32 (a : Int), .int .i64 m] ∧ a < 4294967296 ∧ -9223372036854775808 ≤ m ∧ m < 9223372036854775808 := by
  obtain ⟨ys, n', _, _, hlen, hys, hf⟩ := DataW.trod_struct Try.underlying88 h
  have hys : ys.length = 2 := hys
  rw [Try.cellsBlock] at hlen
  obtain ⟨v0, v1, rfl⟩ : ∃ v0 v1, cs = [v0, v1] := by
    cases cs with
    | nil => cases hlen
    | cons v0 r => cases r with
      | nil => cases hlen
      | cons v1 r => cases r with
        | nil => exact ⟨_, _, rfl⟩
        | cons _ _ => simp at hlen
  have f0 : DataW.trod enc Try.prog W base spare held n' 42 (List.take (Try.prog.cellsOf 42) [v0, v1]) = ys[0]? := hf 0 _ rfl
  have f1 : DataW.trod enc Try.prog W base spare held n' 3 (List.take (Try.prog.cellsOf 3) [v1]) = ys[1]? := hf 1 _ rfl
  rw [Try.cellsAddr] at f0
  rw [Try.cellsInt] at f1
  rw [List.getElem?_eq_getElem (by omega)] at f0 f1
  obtain ⟨a, ha, -, wa⟩ := DataW.trod_int Try.underlying42 f0
  obtain ⟨m, hm, -, wm⟩ := DataW.trod_int Try.underlying3 f1
  have ba := bounds_u32 wa
  have bm := bounds_i64 wm
  obtain rfl : v0 = .int .u32 a := by simpa using ha
  obtain rfl : v1 = .int .i64 m := by simpa using hm
  obtain ⟨a, rfl⟩ := Int.eq_ofNat_of_zero_le ba.1
  exact ⟨a, m, rfl, by omega, by omega, by omega⟩

theorem six_of {α : Type} : ∀ {cs : List α}, cs.length = 6 → ∃ v0 v1 v2 v3 v4 v5, cs = [v0, v1, v2, v3, v4, v5]
  | [_, _, _, _, _, _], _ => ⟨_, _, _, _, _, _, rfl⟩

theorem trod_act {H : Type} {enc : TypeId × Value → H} {W : World} {base n : Nat} {spare : Nat → Bool} {held : Bool} {cs : List Value} {y : DataW H × List MemPlace} (h : DataW.trod enc Try.prog W base spare held n 103 cs = some y) :
    ∃ x : ActD, x.Ok ∧ cs = actCells x := by
  obtain ⟨ys, n', _, _, hlen, hys, hf⟩ := DataW.trod_struct Try.underlying103 h
  have hys : ys.length = 5 := hys
  rw [Try.cellsAct] at hlen
  obtain ⟨v0, v1, v2, v3, v4, v5, rfl⟩ : ∃ v0 v1 v2 v3 v4 v5, cs = [v0, v1, v2, v3, v4, v5] := six_of hlen
  have f0 : DataW.trod enc Try.prog W base spare held n' 5 (List.take (Try.prog.cellsOf 5) [v0, v1, v2, v3, v4, v5]) = ys[0]? := hf 0 _ rfl
  have f1 : DataW.trod enc Try.prog W base spare held n' 41 (List.take (Try.prog.cellsOf 41) [v1, v2, v3, v4, v5]) = ys[1]? := hf 1 _ rfl
  have f2 : DataW.trod enc Try.prog W base spare held n' 5 (List.take (Try.prog.cellsOf 5) [v2, v3, v4, v5]) = ys[2]? := hf 2 _ rfl
  have f3 : DataW.trod enc Try.prog W base spare held n' 4 (List.take (Try.prog.cellsOf 4) [v3, v4, v5]) = ys[3]? := hf 3 _ rfl
  have f4 : DataW.trod enc Try.prog W base spare held n' 88 (List.take (Try.prog.cellsOf 88) [v4, v5]) = ys[4]? := hf 4 _ rfl
  rw [Try.cellsU8] at f0 f2
  rw [Try.cellsU32] at f1
  rw [Try.cellsBool] at f3
  rw [Try.cellsBlock] at f4
  rw [List.getElem?_eq_getElem (by omega)] at f0 f1 f2 f3 f4
  obtain ⟨op, h0, -, w0⟩ := DataW.trod_int Try.underlying5 f0
  obtain ⟨bs, h1, -, w1⟩ := DataW.trod_int Try.underlying41 f1
  obtain ⟨bt, h2, -, w2⟩ := DataW.trod_int Try.underlying5 f2
  obtain ⟨raw, h3, -⟩ := DataW.trod_bool Try.underlying4 f3
  obtain ⟨a, m, h4, ba, bm0, bm1⟩ := trod_block f4
  have b0 := bounds_u8 w0
  have b1 := bounds_u32 w1
  have b2 := bounds_u8 w2
  obtain rfl : v0 = .int .u8 op := by simpa using h0
  obtain rfl : v1 = .int .u32 bs := by simpa using h1
  obtain rfl : v2 = .int .u8 bt := by simpa using h2
  obtain rfl : v3 = .bool raw := by simpa using h3
  obtain ⟨rfl, rfl⟩ : v4 = .int .u32 (a : Int) ∧ v5 = .int .i64 m := by simpa using h4
  obtain ⟨op, rfl⟩ := Int.eq_ofNat_of_zero_le b0.1
  obtain ⟨bs, rfl⟩ := Int.eq_ofNat_of_zero_le b1.1
  obtain ⟨bt, rfl⟩ := Int.eq_ofNat_of_zero_le b2.1
  exact ⟨⟨op, bs, bt, raw, a, m⟩, ⟨by show op < 256; omega, by show bs < 4294967296; omega, by show bt < 256; omega, ba, bm0, bm1⟩, rfl⟩

theorem acts_open {H : Type} {enc : TypeId × Value → H} {W : World} {base n : Nat} {spare : Nat → Bool} {held : Bool} {v : Value} {y : DataW H × List MemPlace} (h : DataW.trod enc Try.prog W base spare held n 101 [v] = some y) :
    ∃ l, ActsAt W v l := by
  rcases Go.Deep.open_slice Try.underlying101 h with ⟨hc, _⟩ | ⟨a, len, cap, m, k, D, Pl, hc, _, hl, hm, hmm, _, hall⟩
  · obtain rfl : v = .slice none 0 0 := by simpa using hc
    exact ⟨[], none, 0, rfl, Nat.le_refl _, Nat.zero_le _, fun i x hx => by simp at hx⟩
  · obtain rfl : v = .slice (some a) len cap := by simpa using hc
    have hlm : len ≤ m := by rw [hmm]; split <;> omega
    have each : ∀ i, i < len → ∃ x : ActD, x.Ok ∧ ∀ j u, (actCells x)[j]? = some u → W.cell? (a.add (i * 6 + j)) = some u := fun i hi => by
      obtain ⟨cs', h1, h2⟩ := hall i (by omega)
      obtain ⟨x, hx, rfl⟩ := trod_act h2
      rw [Try.cellsAct] at h1
      refine ⟨x, hx, fun j u hj => ?_⟩
      obtain ⟨_, _, hat⟩ := World.cells?_some h1
      have hj6 : j < 6 := (List.getElem?_eq_some_iff.1 hj).1
      rw [← Go.Deep.add_add, hat j hj6, hj]
    obtain ⟨f, hf⟩ : ∃ f : Nat → ActD, ∀ i, i < len → (f i).Ok ∧ ∀ j u, (actCells (f i))[j]? = some u → W.cell? (a.add (i * 6 + j)) = some u :=
      ⟨fun i => if h : i < len then (each i h).choose else ⟨0, 0, 0, false, 0, 0⟩, fun i hi => by
        simp only [dif_pos hi]
        exact (each i hi).choose_spec⟩
    refine ⟨(List.range len).map f, some a, cap, by simp, by simpa using hl, hm, fun i x hx => ?_⟩
    obtain ⟨hi, rfl⟩ : i < len ∧ f i = x := by
      simp only [List.getElem?_map, Option.map_eq_some_iff] at hx
      obtain ⟨j, hj, rfl⟩ := hx
      rw [List.getElem?_eq_some_iff] at hj
      obtain ⟨hlt, hj⟩ := hj
      simp at hlt hj
      subst hj
      exact ⟨hlt, rfl⟩
    refine ⟨(hf i hi).1, ?_⟩
    obtain ⟨b, o, spot⟩ := a
    have hsp : spot = none := by
      have := (hf 0 (by omega)).2 0 _ rfl
      simpa [Addr.add] using World.cell?_spot this
    subst hsp
    exact ⟨b, o, rfl, fun j u hj => by
      have := (hf i hi).2 j u hj
      rw [Addr.add_mid] at this
      rw [Nat.add_assoc]
      exact this⟩

end Go.Proofs.Ytlpmjkbpcobgdaa

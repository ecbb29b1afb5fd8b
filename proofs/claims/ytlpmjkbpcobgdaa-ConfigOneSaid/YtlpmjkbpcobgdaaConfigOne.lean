/-
  ConfigOne: a choice that may be, but one of it, is told of that one. For every input; no condition.
-/
import Derived.Test.YtlpmjkbpcobgdaaLawBase
import Derived.Test.YtlpmjkbpcobgdaaCfgOne0
import Derived.Test.YtlpmjkbpcobgdaaCfgOne1
import Derived.Test.YtlpmjkbpcobgdaaCfgOne2
import Derived.Test.YtlpmjkbpcobgdaaCfgOne3
import Derived.Test.YtlpmjkbpcobgdaaCfgOne4
import Derived.Test.YtlpmjkbpcobgdaaCfgOne5
import Derived.Test.YtlpmjkbpcobgdaaCfgOne6
import Derived.Test.YtlpmjkbpcobgdaaCfgOne7
import Derived.Test.YtlpmjkbpcobgdaaCfgOne8
namespace Go.Proofs.Ytlpmjkbpcobgdaa
open Go.ChangeShapes Go.WideShapes Go.ChangeAt Go.RowKit Go.Joins Go.Deep

theorem one_any (b0 b1 b2 b3 b4 b5 b6 b7 b8 m n : Int) (h0 : 0 ≤ b0 ∧ b0 < 256) (h1 : 0 ≤ b1 ∧ b1 < 256) (h2 : 0 ≤ b2 ∧ b2 < 256) (h3 : 0 ≤ b3 ∧ b3 < 256) (h4 : 0 ≤ b4 ∧ b4 < 256) (h5 : 0 ≤ b5 ∧ b5 < 256) (h6 : 0 ≤ b6 ∧ b6 < 256) (h7 : 0 ≤ b7 ∧ b7 < 256) (h8 : 0 ≤ b8 ∧ b8 < 256) (hm : 0 ≤ m ∧ m < 256) (w : World) :
    Calls Try.prog 3 #[.agg #[.int .u8 b0, .int .u8 b1, .int .u8 b2, .int .u8 b3, .int .u8 b4, .int .u8 b5, .int .u8 b6, .int .u8 b7, .int .u8 b8], .int .u8 m, .int .i64 n] w fun e w' => e = .returned (.bool true) ∧ Below w.heap.size w w' := by
  have hk : m % 9 = 0 ∨ m % 9 = 1 ∨ m % 9 = 2 ∨ m % 9 = 3 ∨ m % 9 = 4 ∨ m % 9 = 5 ∨ m % 9 = 6 ∨ m % 9 = 7 ∨ m % 9 = 8 := by omega
  rcases hk with hk | hk | hk | hk | hk | hk | hk | hk | hk
  · exact one_at0 b0 b1 b2 b3 b4 b5 b6 b7 b8 m n h0 h1 h2 h3 h4 h5 h6 h7 h8 hm.1 hm.2 hk w
  · exact one_at1 b0 b1 b2 b3 b4 b5 b6 b7 b8 m n h0 h1 h2 h3 h4 h5 h6 h7 h8 hm.1 hm.2 hk w
  · exact one_at2 b0 b1 b2 b3 b4 b5 b6 b7 b8 m n h0 h1 h2 h3 h4 h5 h6 h7 h8 hm.1 hm.2 hk w
  · exact one_at3 b0 b1 b2 b3 b4 b5 b6 b7 b8 m n h0 h1 h2 h3 h4 h5 h6 h7 h8 hm.1 hm.2 hk w
  · exact one_at4 b0 b1 b2 b3 b4 b5 b6 b7 b8 m n h0 h1 h2 h3 h4 h5 h6 h7 h8 hm.1 hm.2 hk w
  · exact one_at5 b0 b1 b2 b3 b4 b5 b6 b7 b8 m n h0 h1 h2 h3 h4 h5 h6 h7 h8 hm.1 hm.2 hk w
  · exact one_at6 b0 b1 b2 b3 b4 b5 b6 b7 b8 m n h0 h1 h2 h3 h4 h5 h6 h7 h8 hm.1 hm.2 hk w
  · exact one_at7 b0 b1 b2 b3 b4 b5 b6 b7 b8 m n h0 h1 h2 h3 h4 h5 h6 h7 h8 hm.1 hm.2 hk w
  · exact one_at8 b0 b1 b2 b3 b4 b5 b6 b7 b8 m n h0 h1 h2 h3 h4 h5 h6 h7 h8 hm.1 hm.2 hk w

theorem u8_bounds {b : Int} (h : (Lit.int .u8 b).wf = true) : 0 ≤ b ∧ b < 256 := by
  have := bounds_u8 h
  omega

section
variable {H : Type} {enc : TypeId × Value → H} {w : World} {base : Nat} {spare : Nat → Bool} {held : Bool}
set_option maxRecDepth 100000 in
theorem open_choice {r : Reach} {b0 : Nat} {v : Value} {d : DataW H} {p : List MemPlace}
    (hv : Value.okWide Try.prog w r b0 23 v) (h : DataW.Trod enc Try.prog w base spare held 23 v d p) :
    ∃ b0 b1 b2 b3 b4 b5 b6 b7 b8 : Int, v = .agg #[.int .u8 b0, .int .u8 b1, .int .u8 b2, .int .u8 b3, .int .u8 b4, .int .u8 b5, .int .u8 b6, .int .u8 b7, .int .u8 b8] ∧
      (0 ≤ b0 ∧ b0 < 256) ∧ (0 ≤ b1 ∧ b1 < 256) ∧ (0 ≤ b2 ∧ b2 < 256) ∧ (0 ≤ b3 ∧ b3 < 256) ∧ (0 ≤ b4 ∧ b4 < 256) ∧ (0 ≤ b5 ∧ b5 < 256) ∧ (0 ≤ b6 ∧ b6 < 256) ∧ (0 ≤ b7 ∧ b7 < 256) ∧ (0 ≤ b8 ∧ b8 < 256) := by
  obtain ⟨cs, rfl, hsz⟩ := okWide_struct Try.underlying23 hv
  have hC : Try.prog.cellsOf 23 = 9 := by kernel_rfl
  obtain ⟨l⟩ := cs
  match l, hsz.trans hC with
  | [c0, c1, c2, c3, c4, c5, c6, c7, c8], _ =>
    obtain ⟨fuel, hf⟩ := h
    obtain ⟨xs, n, _, hx, _, hlen, hg⟩ := DataW.trod_struct Try.underlying23 hf
    have one : ∀ (k : Nat) (c : Value) (y : DataW H × List MemPlace), DataW.trod enc Try.prog w base spare held n 5 [c] = some y → ∃ b : Int, c = .int .u8 b ∧ 0 ≤ b ∧ b < 256 := by
      intro k c y hy
      obtain ⟨b, hb, _, wb⟩ := DataW.trod_int Try.underlying5 hy
      have e : c = .int .u8 b := by simpa using hb
      exact ⟨b, e, u8_bounds wb⟩
    have h1 : Try.prog.cellsOf 5 = 1 := by kernel_rfl
    match xs, hlen with
    | [y0, y1, y2, y3, y4, y5, y6, y7, y8], _ =>
      obtain ⟨b0, rfl, k0⟩ := one 0 c0 y0 (by simpa [Value.cells, h1] using hg 0 _ rfl)
      obtain ⟨b1, rfl, k1⟩ := one 1 c1 y1 (by simpa [Value.cells, h1] using hg 1 _ rfl)
      obtain ⟨b2, rfl, k2⟩ := one 2 c2 y2 (by simpa [Value.cells, h1] using hg 2 _ rfl)
      obtain ⟨b3, rfl, k3⟩ := one 3 c3 y3 (by simpa [Value.cells, h1] using hg 3 _ rfl)
      obtain ⟨b4, rfl, k4⟩ := one 4 c4 y4 (by simpa [Value.cells, h1] using hg 4 _ rfl)
      obtain ⟨b5, rfl, k5⟩ := one 5 c5 y5 (by simpa [Value.cells, h1] using hg 5 _ rfl)
      obtain ⟨b6, rfl, k6⟩ := one 6 c6 y6 (by simpa [Value.cells, h1] using hg 6 _ rfl)
      obtain ⟨b7, rfl, k7⟩ := one 7 c7 y7 (by simpa [Value.cells, h1] using hg 7 _ rfl)
      obtain ⟨b8, rfl, k8⟩ := one 8 c8 y8 (by simpa [Value.cells, h1] using hg 8 _ rfl)
      exact ⟨b0, b1, b2, b3, b4, b5, b6, b7, b8, rfl, k0, k1, k2, k3, k4, k5, k6, k7, k8⟩
end

set_option maxRecDepth 100000 in
theorem configOne_lifted (os : Os) (started : os.Started) (H : Type) (enc : TypeId × Value → H) :
    ReturnsInHanded {} Try.checked os 3 .any (Rows.configOneSpec.pre6 enc Try.prog Try.f3 Rows.configOneRow.domain false) (Rows.configOneSpec.post enc Try.prog Try.f3 false true false false) := by
  refine returnsInHanded_of_change (C := Try.checked) Try.own started (by kernel_rfl) Try.func3
    (ChangeSpec.witness6 (enc := enc) (C := Try.checked) false ⟨#[], #[.agg #[.int .u8 0, .int .u8 0, .int .u8 0, .int .u8 0, .int .u8 0, .int .u8 0, .int .u8 0, .int .u8 0, .int .u8 0], .int .u8 0, .int .i64 0], []⟩ 8 (by kernel_rfl) (by kernel_rfl) (by kernel_rfl) (by kernel_rfl)) ?_
  intro W base args ds gs before hval0 hW hcnd _
  have hval : ∀ (j : Nat) t v, Try.f3.params[j]? = some t → args[j]? = some v → Value.okWide Try.prog W .any base t v := hval0
  have hW' := hW
  obtain ⟨p, q, hA0, hV, rfl, hfz, hnd⟩ := hW
  have hA : DataW.TrodAll enc Try.prog W 0 (fun _ => true) true Try.f3.params.toList args.toList ds p := hA0
  rw [Try.params3] at hA hval
  obtain ⟨v0, v1, v2, d0, d1, d2, p0, p1, p2, hargs, rfl, rfl, h0, h1, h2⟩ := trodAll_three hA
  obtain rfl : args = #[v0, v1, v2] := by cases args; simp_all
  obtain ⟨rfl, rfl⟩ := trodVars_none hV
  obtain ⟨b0, b1, b2, b3, b4, b5, b6, b7, b8, rfl, k0, k1, k2, k3, k4, k5, k6, k7, k8⟩ := open_choice (hval 0 _ v0 rfl rfl) h0
  obtain ⟨m, rfl, -, -, wm⟩ := open_int Try.underlying5 (hval 1 _ v1 rfl rfl) h1
  obtain ⟨n, rfl, -, -, wn⟩ := open_int Try.underlying3 (hval 2 _ v2 rfl rfl) h2
  clear hA0 hval0
  refine (one_any b0 b1 b2 b3 b4 b5 b6 b7 b8 m n k0 k1 k2 k3 k4 k5 k6 k7 k8 (u8_bounds wm) W).mono fun e W' ⟨he, hb⟩ => ?_
  subst he
  exact ⟨_, rfl, law_post Try.laidOut (tb := 4) (by kernel_rfl) rfl Try.underlying4 rfl rfl hW' hb⟩

theorem configOne_holds : Rows.ConfigOneSaid :=
  OpenClaim.holds_of_wide 3 Try.f3 rfl rfl rfl rfl rfl rfl rfl ⟨rfl, rfl, rfl, rfl, rfl⟩ rfl rfl rfl rfl rfl (by kernel_rfl) Try.func3 (by kernel_rfl)
    (of_decide_eq_true (by kernel_rfl)) (by unfold Func.isWrapper; rw [if_neg (of_decide_eq_false (by kernel_rfl))]; exact ⟨rfl, rfl⟩)
    (fun os started H enc _ => configOne_lifted os started H enc)
#print axioms configOne_holds
end Go.Proofs.Ytlpmjkbpcobgdaa

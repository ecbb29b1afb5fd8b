/-
  TrieHalves: of two halves one has each address of the whole, and neither is in the way of what is beside. For every input; no condition.
-/
import Derived.Test.YtlpmjkbpcobgdaaLawBase
import Derived.Test.YtlpmjkbpcobgdaaTriHalvAny
namespace Go.Proofs.Ytlpmjkbpcobgdaa
open Go.ChangeShapes Go.WideShapes Go.ChangeAt Go.RowKit Go.Joins Go.Deep

set_option maxRecDepth 100000 in
theorem trieHalves_lifted (os : Os) (started : os.Started) (H : Type) (enc : TypeId × Value → H) :
    ReturnsInHanded {} Try.checked os 9 .any (Rows.trieHalvesSpec.pre6 enc Try.prog Try.f9 Rows.trieHalvesRow.domain false) (Rows.trieHalvesSpec.post enc Try.prog Try.f9 false true false false) := by
  refine returnsInHanded_of_change (C := Try.checked) Try.own started (by kernel_rfl) Try.func9
    (ChangeSpec.witness6 (enc := enc) (C := Try.checked) false ⟨#[], #[.int .u32 0, .int .u8 0, .int .u16 0], []⟩ 8 (by kernel_rfl) (by kernel_rfl) (by kernel_rfl) (by kernel_rfl)) ?_
  intro W base args ds gs before hval0 hW _hcnd _
  have hval : ∀ (j : Nat) t v, Try.f9.params[j]? = some t → args[j]? = some v → Value.okWide Try.prog W .any base t v := hval0
  have hW' := hW
  obtain ⟨p, q, hA0, hV, rfl, _hfz, _hnd⟩ := hW
  have hA : DataW.TrodAll enc Try.prog W 0 (fun _ => true) true Try.f9.params.toList args.toList ds p := hA0
  rw [Try.params9] at hA hval
  obtain ⟨v0, v1, v2, d0, d1, d2, p0, p1, p2, hargs, rfl, rfl, h0, h1, h2⟩ := trodAll_three hA
  obtain rfl : args = #[v0, v1, v2] := by cases args; simp_all
  obtain ⟨rfl, rfl⟩ := trodVars_none hV
  obtain ⟨a, rfl, -, -, wa⟩ := open_int Try.underlying41 (hval 0 _ v0 rfl rfl) h0
  obtain ⟨b, rfl, -, -, wb⟩ := open_int Try.underlying5 (hval 1 _ v1 rfl rfl) h1
  obtain ⟨c, rfl, -, -, wc⟩ := open_int Try.underlying108 (hval 2 _ v2 rfl rfl) h2
  have ba := bounds_u32 wa
  have bb := bounds_u8 wb
  have bc := bounds_u16 wc
  obtain ⟨a, rfl⟩ := Int.eq_ofNat_of_zero_le ba.1
  obtain ⟨b, rfl⟩ := Int.eq_ofNat_of_zero_le bb.1
  obtain ⟨c, rfl⟩ := Int.eq_ofNat_of_zero_le bc.1
  clear hA0 hval0
  refine (halv_any a b c (by omega) (by omega) (by omega) W).mono fun e W' ⟨he, hb⟩ => ?_
  subst he
  exact ⟨_, rfl, law_post Try.laidOut (tb := 4) (by kernel_rfl) rfl Try.underlying4 rfl rfl hW' hb⟩

theorem trieHalves_holds : Rows.TrieHalvesSaid :=
  OpenClaim.holds_of_wide 9 Try.f9 rfl rfl rfl rfl rfl rfl rfl ⟨rfl, rfl, rfl, rfl, rfl⟩ rfl rfl rfl rfl rfl (by kernel_rfl) Try.func9 (by kernel_rfl)
    (of_decide_eq_true (by kernel_rfl)) (by unfold Func.isWrapper; rw [if_neg (of_decide_eq_false (by kernel_rfl))]; exact ⟨rfl, rfl⟩)
    (fun os started H enc _ => trieHalves_lifted os started H enc)
#print axioms trieHalves_holds
end Go.Proofs.Ytlpmjkbpcobgdaa

/-
  TrieHalves answers true for every address, every number of bits and every place.
-/
import Derived.Test.YtlpmjkbpcobgdaaTriHalv
namespace Go.Proofs.Ytlpmjkbpcobgdaa
open Go.RowKit Go.Sort

theorem halv_any (a bt at_ : Nat) (ha : a < 4294967296) (hbt : bt < 256) (hat : at_ < 65536) (w : World) :
    Calls Try.prog 9 #[.int .u32 (a : Int), .int .u8 (bt : Int), .int .u16 (at_ : Int)] w fun e w' => e = .returned (.bool true) ∧ Below w.heap.size w w' := by
  have hB := fun W => block01 a bt ha hbt W
  have hlo : 20 ≤ 20 + bt % 13 := by omega
  have hhi : 20 + bt % 13 ≤ 32 := by omega
  generalize 20 + bt % 13 = n at *
  have hv : Tri.pv a n < 2 ^ n := Tri.pv_lt ha hhi
  generalize Tri.pv a n = v at *
  rcases Nat.lt_or_ge n 32 with hn | hn
  · have hF := half_facts hlo hn hv
    have hH := fun W => halves_bl v n hn hv W
    have hS := fun W => size_bl v n hhi hv W
    have hA := fun W => at_bl v n (at_ % 2 ^ (32 - n)) hhi hv (Nat.mod_lt _ hF.P0) W
    have hX : bits BinOp.xor IntKind.u32 ((v * 2 ^ (32 - n) : Nat) : Int) ((2 : Int) ^ (32 - n) % 4294967296) = (((v * 2 ^ (32 - n)) ^^^ 2 ^ (32 - n) : Nat) : Int) := by
      have e1 : ((2 : Int) ^ (32 - n)) = ((2 ^ (32 - n) : Nat) : Int) := by simp
      have h1 := hF.P31
      rw [e1, Int.emod_eq_of_lt (Int.natCast_nonneg _) (by omega)]
      exact u32_xor_nat _ _ hF.A32 (by omega)
    unfold bl at hB hH hS hA
    exact halv_two a bt at_ hat hF hB hH hS (fun W => by simpa using hA W) hX w
  · obtain rfl : n = 32 := by omega
    exact halv_one a bt at_ v (by simpa using hv) hB w
end Go.Proofs.Ytlpmjkbpcobgdaa

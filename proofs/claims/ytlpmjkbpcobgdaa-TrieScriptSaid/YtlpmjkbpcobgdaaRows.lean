/-
  No cell of these rows narrows 'for every input' (looked for: loops, veiled, ifaces, maps, wideKeys, modest, calm, conditions, laid).
  DERIVED. THE GIVEN ROWS OF THIS SEAT. 9 by the template 'for every input the law returns true; each argument reads behind the call as it read before'; 0 by the template 'total and deterministic' (their statements: YtlpmjkbpcobgdaaTotals.lean).
  GIVEN WITH THE SEED: the statements are not yours to turn. If you find one false, say at which input.
  Laid BY PROGRAM, IN A SANDBOX (cutbox-rows.mjs): the forced cells as the released guide's own fill.sh prints them over the translation 0f68a88936c38a59… (all of the seat's roots in one cut). By AI agents, Wed Nov 11 2026. No macro, syntax, notation, axiom, sorry.
-/
import Derived.Test.YtlpmjkbpcobgdaaChecked
import GoSem.Claim
import GoSem.ClaimJoined
import GoSem.ClaimMapViews
import Derived.JoinedTies
import Derived.KernelRfl
namespace Go.Proofs.Ytlpmjkbpcobgdaa
/- THE CELL 'sum', in the pinned program and in every row, IS THE sha256 OF THE DUMP (.gsa) THAT YtlpmjkbpcobgdaaProg.lean LOADS. Nothing in Lean hashes anything: it is a label: what it is worth is what the hold of that sum in a sandbox is worth. -/
noncomputable def Try.pinned : Pinned := { name := "ytlpmjkbpcobgdaa", sum := "0f68a88936c38a59dcc2b5c433ac24c8b3d0492996ac1d894399cfc79bd704b1", checked := Try.checked }
namespace Rows
def none {H : Type} : Left H := { results := [], args := [] }

/-- 'terrierlaw10.ConfigOne': WHATEVER THE INPUT: true; the input reads as it did. -/
def configOneSpec : ChangeSpec := { name := "configOne", fn := fun _ => fun
  | [d1, d2, d3] => { results := [.lit (.bool true)], args := [d1, d2, d3] }
  | _ => none }
def configOneRow : OpenClaim := { program := "ytlpmjkbpcobgdaa", sum := "0f68a88936c38a59dcc2b5c433ac24c8b3d0492996ac1d894399cfc79bd704b1", func := "terrier/terrierlaw10.ConfigOne", spec := "configOne", unfollowed := true, recurses := true, apart := false }
def ConfigOneSaid : Prop := configOneRow.holds Try.pinned (OpenSpec.ofChange configOneSpec)

/-- ITS FALSE NEIGHBOUR: 'it returns false'. Refute it at one input. -/
def configOneWrong : ChangeSpec := { name := "configOne", fn := fun _ => fun
  | [d1, d2, d3] => { results := [.lit (.bool false)], args := [d1, d2, d3] }
  | _ => none }
def ConfigOneWrongFalsely : Prop := configOneRow.holds Try.pinned (OpenSpec.ofChange configOneWrong)

/-- 'terrierlaw12.SeenScript': WHATEVER THE INPUT: true; the input reads as it did. -/
def seenScriptSpec : ChangeSpec := { name := "seenScript", fn := fun _ => fun
  | [d1, d2] => { results := [.lit (.bool true)], args := [d1, d2] }
  | _ => none }
def seenScriptRow : OpenClaim := { program := "ytlpmjkbpcobgdaa", sum := "0f68a88936c38a59dcc2b5c433ac24c8b3d0492996ac1d894399cfc79bd704b1", func := "terrier/terrierlaw12.SeenScript", spec := "seenScript", unfollowed := true, recurses := true, apart := false }
def SeenScriptSaid : Prop := seenScriptRow.holds Try.pinned (OpenSpec.ofChange seenScriptSpec)

/-- ITS FALSE NEIGHBOUR: 'it returns false'. Refute it at one input. -/
def seenScriptWrong : ChangeSpec := { name := "seenScript", fn := fun _ => fun
  | [d1, d2] => { results := [.lit (.bool false)], args := [d1, d2] }
  | _ => none }
def SeenScriptWrongFalsely : Prop := seenScriptRow.holds Try.pinned (OpenSpec.ofChange seenScriptWrong)

/-- 'terrierlaw12.SeenRight': WHATEVER THE INPUT: true; the input reads as it did. -/
def seenRightSpec : ChangeSpec := { name := "seenRight", fn := fun _ => fun
  | [d1, d2, d3, d4] => { results := [.lit (.bool true)], args := [d1, d2, d3, d4] }
  | _ => none }
def seenRightRow : OpenClaim := { program := "ytlpmjkbpcobgdaa", sum := "0f68a88936c38a59dcc2b5c433ac24c8b3d0492996ac1d894399cfc79bd704b1", func := "terrier/terrierlaw12.SeenRight", spec := "seenRight", unfollowed := true, recurses := true, apart := false }
def SeenRightSaid : Prop := seenRightRow.holds Try.pinned (OpenSpec.ofChange seenRightSpec)

/-- ITS FALSE NEIGHBOUR: 'it returns false'. Refute it at one input. -/
def seenRightWrong : ChangeSpec := { name := "seenRight", fn := fun _ => fun
  | [d1, d2, d3, d4] => { results := [.lit (.bool false)], args := [d1, d2, d3, d4] }
  | _ => none }
def SeenRightWrongFalsely : Prop := seenRightRow.holds Try.pinned (OpenSpec.ofChange seenRightWrong)

/-- 'terrierlaw05.DiskScript': WHATEVER THE INPUT: true; the input reads as it did. -/
def diskScriptSpec : ChangeSpec := { name := "diskScript", fn := fun _ => fun
  | [d1, d2] => { results := [.lit (.bool true)], args := [d1, d2] }
  | _ => none }
def diskScriptRow : OpenClaim := { program := "ytlpmjkbpcobgdaa", sum := "0f68a88936c38a59dcc2b5c433ac24c8b3d0492996ac1d894399cfc79bd704b1", func := "terrier/terrierlaw05.DiskScript", spec := "diskScript", unfollowed := true, recurses := true, apart := false }
def DiskScriptSaid : Prop := diskScriptRow.holds Try.pinned (OpenSpec.ofChange diskScriptSpec)

/-- ITS FALSE NEIGHBOUR: 'it returns false'. Refute it at one input. -/
def diskScriptWrong : ChangeSpec := { name := "diskScript", fn := fun _ => fun
  | [d1, d2] => { results := [.lit (.bool false)], args := [d1, d2] }
  | _ => none }
def DiskScriptWrongFalsely : Prop := diskScriptRow.holds Try.pinned (OpenSpec.ofChange diskScriptWrong)

/-- 'terrierlaw09.TrieTwo': WHATEVER THE INPUT: true; the input reads as it did. -/
def trieTwoSpec : ChangeSpec := { name := "trieTwo", fn := fun _ => fun
  | [d1, d2, d3, d4] => { results := [.lit (.bool true)], args := [d1, d2, d3, d4] }
  | _ => none }
def trieTwoRow : OpenClaim := { program := "ytlpmjkbpcobgdaa", sum := "0f68a88936c38a59dcc2b5c433ac24c8b3d0492996ac1d894399cfc79bd704b1", func := "terrier/terrierlaw09.TrieTwo", spec := "trieTwo", apart := false }
def TrieTwoSaid : Prop := trieTwoRow.holds Try.pinned (OpenSpec.ofChange trieTwoSpec)

/-- ITS FALSE NEIGHBOUR: 'it returns false'. Refute it at one input. -/
def trieTwoWrong : ChangeSpec := { name := "trieTwo", fn := fun _ => fun
  | [d1, d2, d3, d4] => { results := [.lit (.bool false)], args := [d1, d2, d3, d4] }
  | _ => none }
def TrieTwoWrongFalsely : Prop := trieTwoRow.holds Try.pinned (OpenSpec.ofChange trieTwoWrong)

/-- 'terrierlaw09.TrieOrder': WHATEVER THE INPUT: true; the input reads as it did. -/
def trieOrderSpec : ChangeSpec := { name := "trieOrder", fn := fun _ => fun
  | [d] => { results := [.lit (.bool true)], args := [d] }
  | _ => none }
def trieOrderRow : OpenClaim := { program := "ytlpmjkbpcobgdaa", sum := "0f68a88936c38a59dcc2b5c433ac24c8b3d0492996ac1d894399cfc79bd704b1", func := "terrier/terrierlaw09.TrieOrder", spec := "trieOrder", unfollowed := true, recurses := true, apart := false }
def TrieOrderSaid : Prop := trieOrderRow.holds Try.pinned (OpenSpec.ofChange trieOrderSpec)

/-- ITS FALSE NEIGHBOUR: 'it returns false'. Refute it at one input. -/
def trieOrderWrong : ChangeSpec := { name := "trieOrder", fn := fun _ => fun
  | [d] => { results := [.lit (.bool false)], args := [d] }
  | _ => none }
def TrieOrderWrongFalsely : Prop := trieOrderRow.holds Try.pinned (OpenSpec.ofChange trieOrderWrong)

/-- 'terrierlaw09.TrieHalves': WHATEVER THE INPUT: true; the input reads as it did. -/
def trieHalvesSpec : ChangeSpec := { name := "trieHalves", fn := fun _ => fun
  | [d1, d2, d3] => { results := [.lit (.bool true)], args := [d1, d2, d3] }
  | _ => none }
def trieHalvesRow : OpenClaim := { program := "ytlpmjkbpcobgdaa", sum := "0f68a88936c38a59dcc2b5c433ac24c8b3d0492996ac1d894399cfc79bd704b1", func := "terrier/terrierlaw09.TrieHalves", spec := "trieHalves", apart := false }
def TrieHalvesSaid : Prop := trieHalvesRow.holds Try.pinned (OpenSpec.ofChange trieHalvesSpec)

/-- ITS FALSE NEIGHBOUR: 'it returns false'. Refute it at one input. -/
def trieHalvesWrong : ChangeSpec := { name := "trieHalves", fn := fun _ => fun
  | [d1, d2, d3] => { results := [.lit (.bool false)], args := [d1, d2, d3] }
  | _ => none }
def TrieHalvesWrongFalsely : Prop := trieHalvesRow.holds Try.pinned (OpenSpec.ofChange trieHalvesWrong)

/-- 'terrierlaw09.TrieTake': WHATEVER THE INPUT: true; the input reads as it did. -/
def trieTakeSpec : ChangeSpec := { name := "trieTake", fn := fun _ => fun
  | [d] => { results := [.lit (.bool true)], args := [d] }
  | _ => none }
def trieTakeRow : OpenClaim := { program := "ytlpmjkbpcobgdaa", sum := "0f68a88936c38a59dcc2b5c433ac24c8b3d0492996ac1d894399cfc79bd704b1", func := "terrier/terrierlaw09.TrieTake", spec := "trieTake", unfollowed := true, recurses := true, apart := false }
def TrieTakeSaid : Prop := trieTakeRow.holds Try.pinned (OpenSpec.ofChange trieTakeSpec)

/-- ITS FALSE NEIGHBOUR: 'it returns false'. Refute it at one input. -/
def trieTakeWrong : ChangeSpec := { name := "trieTake", fn := fun _ => fun
  | [d] => { results := [.lit (.bool false)], args := [d] }
  | _ => none }
def TrieTakeWrongFalsely : Prop := trieTakeRow.holds Try.pinned (OpenSpec.ofChange trieTakeWrong)

/-- 'terrierlaw09.TrieScript': WHATEVER THE INPUT: true; the input reads as it did. -/
def trieScriptSpec : ChangeSpec := { name := "trieScript", fn := fun _ => fun
  | [d] => { results := [.lit (.bool true)], args := [d] }
  | _ => none }
def trieScriptRow : OpenClaim := { program := "ytlpmjkbpcobgdaa", sum := "0f68a88936c38a59dcc2b5c433ac24c8b3d0492996ac1d894399cfc79bd704b1", func := "terrier/terrierlaw09.TrieScript", spec := "trieScript", unfollowed := true, recurses := true, apart := false }
def TrieScriptSaid : Prop := trieScriptRow.holds Try.pinned (OpenSpec.ofChange trieScriptSpec)

/-- ITS FALSE NEIGHBOUR: 'it returns false'. Refute it at one input. -/
def trieScriptWrong : ChangeSpec := { name := "trieScript", fn := fun _ => fun
  | [d] => { results := [.lit (.bool false)], args := [d] }
  | _ => none }
def TrieScriptWrongFalsely : Prop := trieScriptRow.holds Try.pinned (OpenSpec.ofChange trieScriptWrong)

/- THE SECOND FORM. 'bulk': how many values and letters a reading holds, each counted each time it is reached (what is shared counts as often as it is met; a slice's spare places count too). A statement '..UptoSaid' is the law's where the arguments, and the package variables that the reading takes, are together of bulk at most 1048576: NARROWER than '..Said'. Prove '..Said' where nothing that the law and all that it calls make is longer than what came in: it says more and counts as full. Else prove '..UptoSaid'. A law counts once. -/
mutual
def uptoBulk {H : Type} : DataW H → Nat
  | .lit (.string bytes) => bytes.length + 1
  | .lit _ => 1
  | .nil => 1
  | .ptr d => uptoBulk d + 1
  | .slice elems spare => uptoBulkAll elems + uptoBulkAll spare + 1
  | .agg parts => uptoBulkAll parts + 1
  | .iface _ d => uptoBulk d + 1
  | .map entries => uptoBulkEntries entries + 1
  | .held _ => 1
def uptoBulkAll {H : Type} : List (DataW H) → Nat
  | [] => 0
  | d :: r => uptoBulk d + uptoBulkAll r
def uptoBulkEntries {H : Type} : List (Lit × DataW H) → Nat
  | [] => 0
  | x :: r => uptoBulkEntry x + uptoBulkEntries r
def uptoBulkEntry {H : Type} : Lit × DataW H → Nat
  | (.string bytes, d) => bytes.length + uptoBulk d + 1
  | (_, d) => uptoBulk d + 1
 end
def uptoSmall : (H : Type) → List (DataW H) → Bool := fun _ ds => decide (uptoBulkAll ds ≤ 1048576)
def OpenSpec.upto (s : _root_.Go.ChangeSpec) : _root_.Go.OpenSpec := { _root_.Go.OpenSpec.ofChange s with cond := some uptoSmall }

/-- 'terrierlaw10.ConfigOne', WHERE WHAT IT READS IS OF BULK AT MOST 1048576: true; the input reads as it did. -/
def configOneUptoRow : OpenClaim := { program := "ytlpmjkbpcobgdaa", sum := "0f68a88936c38a59dcc2b5c433ac24c8b3d0492996ac1d894399cfc79bd704b1", func := "terrier/terrierlaw10.ConfigOne", spec := "configOne", unfollowed := true, recurses := true, apart := false, narrowed := true }
def ConfigOneUptoSaid : Prop := configOneUptoRow.holds Try.pinned (OpenSpec.upto configOneSpec)

/-- 'terrierlaw12.SeenScript', WHERE WHAT IT READS IS OF BULK AT MOST 1048576: true; the input reads as it did. -/
def seenScriptUptoRow : OpenClaim := { program := "ytlpmjkbpcobgdaa", sum := "0f68a88936c38a59dcc2b5c433ac24c8b3d0492996ac1d894399cfc79bd704b1", func := "terrier/terrierlaw12.SeenScript", spec := "seenScript", unfollowed := true, recurses := true, apart := false, narrowed := true }
def SeenScriptUptoSaid : Prop := seenScriptUptoRow.holds Try.pinned (OpenSpec.upto seenScriptSpec)

/-- 'terrierlaw12.SeenRight', WHERE WHAT IT READS IS OF BULK AT MOST 1048576: true; the input reads as it did. -/
def seenRightUptoRow : OpenClaim := { program := "ytlpmjkbpcobgdaa", sum := "0f68a88936c38a59dcc2b5c433ac24c8b3d0492996ac1d894399cfc79bd704b1", func := "terrier/terrierlaw12.SeenRight", spec := "seenRight", unfollowed := true, recurses := true, apart := false, narrowed := true }
def SeenRightUptoSaid : Prop := seenRightUptoRow.holds Try.pinned (OpenSpec.upto seenRightSpec)

/-- 'terrierlaw05.DiskScript', WHERE WHAT IT READS IS OF BULK AT MOST 1048576: true; the input reads as it did. -/
def diskScriptUptoRow : OpenClaim := { program := "ytlpmjkbpcobgdaa", sum := "0f68a88936c38a59dcc2b5c433ac24c8b3d0492996ac1d894399cfc79bd704b1", func := "terrier/terrierlaw05.DiskScript", spec := "diskScript", unfollowed := true, recurses := true, apart := false, narrowed := true }
def DiskScriptUptoSaid : Prop := diskScriptUptoRow.holds Try.pinned (OpenSpec.upto diskScriptSpec)

/-- 'terrierlaw09.TrieTwo', WHERE WHAT IT READS IS OF BULK AT MOST 1048576: true; the input reads as it did. -/
def trieTwoUptoRow : OpenClaim := { program := "ytlpmjkbpcobgdaa", sum := "0f68a88936c38a59dcc2b5c433ac24c8b3d0492996ac1d894399cfc79bd704b1", func := "terrier/terrierlaw09.TrieTwo", spec := "trieTwo", apart := false, narrowed := true }
def TrieTwoUptoSaid : Prop := trieTwoUptoRow.holds Try.pinned (OpenSpec.upto trieTwoSpec)

/-- 'terrierlaw09.TrieOrder', WHERE WHAT IT READS IS OF BULK AT MOST 1048576: true; the input reads as it did. -/
def trieOrderUptoRow : OpenClaim := { program := "ytlpmjkbpcobgdaa", sum := "0f68a88936c38a59dcc2b5c433ac24c8b3d0492996ac1d894399cfc79bd704b1", func := "terrier/terrierlaw09.TrieOrder", spec := "trieOrder", unfollowed := true, recurses := true, apart := false, narrowed := true }
def TrieOrderUptoSaid : Prop := trieOrderUptoRow.holds Try.pinned (OpenSpec.upto trieOrderSpec)

/-- 'terrierlaw09.TrieHalves', WHERE WHAT IT READS IS OF BULK AT MOST 1048576: true; the input reads as it did. -/
def trieHalvesUptoRow : OpenClaim := { program := "ytlpmjkbpcobgdaa", sum := "0f68a88936c38a59dcc2b5c433ac24c8b3d0492996ac1d894399cfc79bd704b1", func := "terrier/terrierlaw09.TrieHalves", spec := "trieHalves", apart := false, narrowed := true }
def TrieHalvesUptoSaid : Prop := trieHalvesUptoRow.holds Try.pinned (OpenSpec.upto trieHalvesSpec)

/-- 'terrierlaw09.TrieTake', WHERE WHAT IT READS IS OF BULK AT MOST 1048576: true; the input reads as it did. -/
def trieTakeUptoRow : OpenClaim := { program := "ytlpmjkbpcobgdaa", sum := "0f68a88936c38a59dcc2b5c433ac24c8b3d0492996ac1d894399cfc79bd704b1", func := "terrier/terrierlaw09.TrieTake", spec := "trieTake", unfollowed := true, recurses := true, apart := false, narrowed := true }
def TrieTakeUptoSaid : Prop := trieTakeUptoRow.holds Try.pinned (OpenSpec.upto trieTakeSpec)

/-- 'terrierlaw09.TrieScript', WHERE WHAT IT READS IS OF BULK AT MOST 1048576: true; the input reads as it did. -/
def trieScriptUptoRow : OpenClaim := { program := "ytlpmjkbpcobgdaa", sum := "0f68a88936c38a59dcc2b5c433ac24c8b3d0492996ac1d894399cfc79bd704b1", func := "terrier/terrierlaw09.TrieScript", spec := "trieScript", unfollowed := true, recurses := true, apart := false, narrowed := true }
def TrieScriptUptoSaid : Prop := trieScriptUptoRow.holds Try.pinned (OpenSpec.upto trieScriptSpec)

end Rows
end Go.Proofs.Ytlpmjkbpcobgdaa

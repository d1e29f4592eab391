/-
  No cell of these rows narrows 'for every input' (looked for: loops, veiled, ifaces, maps, wideKeys, modest, calm, conditions, laid).
  DERIVED. THE GIVEN ROWS OF THIS SEAT. 6 by the template 'for every input the law returns true; each argument reads behind the call as it read before'; 0 by the template 'total and deterministic' (their statements: YtoibnghkcdopeaaTotals.lean).
  GIVEN WITH THE SEED: the statements are not yours to turn. If you find one false, say at which input.
  Laid BY PROGRAM, IN A SANDBOX (cutbox-rows.mjs): the forced cells as the released guide's own fill.sh prints them over the translation 9a48b9dfa603884b… (all of the seat's roots in one cut). By AI agents, Wed Nov 11 2026. No macro, syntax, notation, axiom, sorry.
-/
import Derived.Test.YtoibnghkcdopeaaChecked
import GoSem.Claim
import GoSem.ClaimJoined
import GoSem.ClaimMapViews
import Derived.JoinedTies
import Derived.KernelRfl
namespace Go.Proofs.Ytoibnghkcdopeaa
/- THE CELL 'sum', in the pinned program and in every row, IS THE sha256 OF THE DUMP (.gsa) THAT YtoibnghkcdopeaaProg.lean LOADS. Nothing in Lean hashes anything: it is a label: what it is worth is what the hold of that sum in a sandbox is worth. -/
noncomputable def Try.pinned : Pinned := { name := "ytoibnghkcdopeaa", sum := "9a48b9dfa603884b9f655208c3f388865792ee8920214d9ef7477cc711496a73", checked := Try.checked }
namespace Rows
def none {H : Type} : Left H := { results := [], args := [] }

/-- 'hibernaclelaw07.ParityCuts': WHATEVER THE INPUT: true; the input reads as it did. -/
def parityCutsSpec : ChangeSpec := { name := "parityCuts", fn := fun _ => fun
  | [d1, d2] => { results := [.lit (.bool true)], args := [d1, d2] }
  | _ => none }
def parityCutsRow : OpenClaim := { program := "ytoibnghkcdopeaa", sum := "9a48b9dfa603884b9f655208c3f388865792ee8920214d9ef7477cc711496a73", func := "hibernacle/hibernaclelaw07.ParityCuts", spec := "parityCuts", inPlace := ["internal/abi.NoEscape", "internal/bytealg.MakeNoZero"], unfollowed := true, recurses := true, apart := false }
def ParityCutsSaid : Prop := parityCutsRow.holds Try.pinned (OpenSpec.ofChange parityCutsSpec)

/-- ITS FALSE NEIGHBOUR: 'it returns false'. Refute it at one input. -/
def parityCutsWrong : ChangeSpec := { name := "parityCuts", fn := fun _ => fun
  | [d1, d2] => { results := [.lit (.bool false)], args := [d1, d2] }
  | _ => none }
def ParityCutsWrongFalsely : Prop := parityCutsRow.holds Try.pinned (OpenSpec.ofChange parityCutsWrong)

/-- 'hibernaclelaw07.ParityOr': WHATEVER THE INPUT: true; the input reads as it did. -/
def parityOrSpec : ChangeSpec := { name := "parityOr", fn := fun _ => fun
  | [d1, d2] => { results := [.lit (.bool true)], args := [d1, d2] }
  | _ => none }
def parityOrRow : OpenClaim := { program := "ytoibnghkcdopeaa", sum := "9a48b9dfa603884b9f655208c3f388865792ee8920214d9ef7477cc711496a73", func := "hibernacle/hibernaclelaw07.ParityOr", spec := "parityOr", inPlace := ["internal/abi.NoEscape", "internal/bytealg.MakeNoZero"], unfollowed := true, recurses := true, apart := false }
def ParityOrSaid : Prop := parityOrRow.holds Try.pinned (OpenSpec.ofChange parityOrSpec)

/-- ITS FALSE NEIGHBOUR: 'it returns false'. Refute it at one input. -/
def parityOrWrong : ChangeSpec := { name := "parityOr", fn := fun _ => fun
  | [d1, d2] => { results := [.lit (.bool false)], args := [d1, d2] }
  | _ => none }
def ParityOrWrongFalsely : Prop := parityOrRow.holds Try.pinned (OpenSpec.ofChange parityOrWrong)

/-- 'hibernaclelaw07.ParityPoly': WHATEVER THE INPUT: true; the input reads as it did. -/
def parityPolySpec : ChangeSpec := { name := "parityPoly", fn := fun _ => fun
  | [d] => { results := [.lit (.bool true)], args := [d] }
  | _ => none }
def parityPolyRow : OpenClaim := { program := "ytoibnghkcdopeaa", sum := "9a48b9dfa603884b9f655208c3f388865792ee8920214d9ef7477cc711496a73", func := "hibernacle/hibernaclelaw07.ParityPoly", spec := "parityPoly", inPlace := ["internal/abi.NoEscape", "internal/bytealg.MakeNoZero"], unfollowed := true, recurses := true, apart := false }
def ParityPolySaid : Prop := parityPolyRow.holds Try.pinned (OpenSpec.ofChange parityPolySpec)

/-- ITS FALSE NEIGHBOUR: 'it returns false'. Refute it at one input. -/
def parityPolyWrong : ChangeSpec := { name := "parityPoly", fn := fun _ => fun
  | [d] => { results := [.lit (.bool false)], args := [d] }
  | _ => none }
def ParityPolyWrongFalsely : Prop := parityPolyRow.holds Try.pinned (OpenSpec.ofChange parityPolyWrong)

/-- 'hibernaclelaw07.ParityJoins': WHATEVER THE INPUT: true; the input reads as it did. -/
def parityJoinsSpec : ChangeSpec := { name := "parityJoins", fn := fun _ => fun
  | [d1, d2] => { results := [.lit (.bool true)], args := [d1, d2] }
  | _ => none }
def parityJoinsRow : OpenClaim := { program := "ytoibnghkcdopeaa", sum := "9a48b9dfa603884b9f655208c3f388865792ee8920214d9ef7477cc711496a73", func := "hibernacle/hibernaclelaw07.ParityJoins", spec := "parityJoins", inPlace := ["internal/abi.NoEscape", "internal/bytealg.MakeNoZero"], unfollowed := true, recurses := true, apart := false }
def ParityJoinsSaid : Prop := parityJoinsRow.holds Try.pinned (OpenSpec.ofChange parityJoinsSpec)

/-- ITS FALSE NEIGHBOUR: 'it returns false'. Refute it at one input. -/
def parityJoinsWrong : ChangeSpec := { name := "parityJoins", fn := fun _ => fun
  | [d1, d2] => { results := [.lit (.bool false)], args := [d1, d2] }
  | _ => none }
def ParityJoinsWrongFalsely : Prop := parityJoinsRow.holds Try.pinned (OpenSpec.ofChange parityJoinsWrong)

/-- 'hibernaclelaw07.ParityThree': WHATEVER THE INPUT: true; the input reads as it did. -/
def parityThreeSpec : ChangeSpec := { name := "parityThree", fn := fun _ => fun
  | [d1, d2, d3] => { results := [.lit (.bool true)], args := [d1, d2, d3] }
  | _ => none }
def parityThreeRow : OpenClaim := { program := "ytoibnghkcdopeaa", sum := "9a48b9dfa603884b9f655208c3f388865792ee8920214d9ef7477cc711496a73", func := "hibernacle/hibernaclelaw07.ParityThree", spec := "parityThree", inPlace := ["internal/abi.NoEscape", "internal/bytealg.MakeNoZero"], unfollowed := true, recurses := true, apart := false }
def ParityThreeSaid : Prop := parityThreeRow.holds Try.pinned (OpenSpec.ofChange parityThreeSpec)

/-- ITS FALSE NEIGHBOUR: 'it returns false'. Refute it at one input. -/
def parityThreeWrong : ChangeSpec := { name := "parityThree", fn := fun _ => fun
  | [d1, d2, d3] => { results := [.lit (.bool false)], args := [d1, d2, d3] }
  | _ => none }
def ParityThreeWrongFalsely : Prop := parityThreeRow.holds Try.pinned (OpenSpec.ofChange parityThreeWrong)

/-- 'hibernaclelaw07.ParityBent': WHATEVER THE INPUT: true; the input reads as it did. -/
def parityBentSpec : ChangeSpec := { name := "parityBent", fn := fun _ => fun
  | [d1, d2, d3] => { results := [.lit (.bool true)], args := [d1, d2, d3] }
  | _ => none }
def parityBentRow : OpenClaim := { program := "ytoibnghkcdopeaa", sum := "9a48b9dfa603884b9f655208c3f388865792ee8920214d9ef7477cc711496a73", func := "hibernacle/hibernaclelaw07.ParityBent", spec := "parityBent", inPlace := ["internal/abi.NoEscape", "internal/bytealg.MakeNoZero"], unfollowed := true, recurses := true, apart := false }
def ParityBentSaid : Prop := parityBentRow.holds Try.pinned (OpenSpec.ofChange parityBentSpec)

/-- ITS FALSE NEIGHBOUR: 'it returns false'. Refute it at one input. -/
def parityBentWrong : ChangeSpec := { name := "parityBent", fn := fun _ => fun
  | [d1, d2, d3] => { results := [.lit (.bool false)], args := [d1, d2, d3] }
  | _ => none }
def ParityBentWrongFalsely : Prop := parityBentRow.holds Try.pinned (OpenSpec.ofChange parityBentWrong)

/- THE SECOND FORM. 'bulk': how many values and letters a reading holds, each counted each time it is reached (what is shared counts as often as it is met; a slice's spare places count too). A statement '..UptoSaid' is the law's where the arguments, and the package variables that the reading takes, are together of bulk at most 1048576: NARROWER than '..Said'. Prove '..Said' where nothing that the law and all that it calls make is longer than what came in: it says more and counts as full. Else prove '..UptoSaid'. A law counts once. -/
mutual
def uptoBulk {H : Type} : DataW H → Nat
  | .lit (.string bytes) => bytes.length + 1
  | .lit _ => 1
  | .nil => 1
  | .ptr d => uptoBulk d + 1
  | .slice elems spare => uptoBulkAll elems + uptoBulkAll spare + 1
  | .agg parts => uptoBulkAll parts + 1
  | .iface _ d => uptoBulk d + 1
  | .map entries => uptoBulkEntries entries + 1
  | .held _ => 1
def uptoBulkAll {H : Type} : List (DataW H) → Nat
  | [] => 0
  | d :: r => uptoBulk d + uptoBulkAll r
def uptoBulkEntries {H : Type} : List (Lit × DataW H) → Nat
  | [] => 0
  | x :: r => uptoBulkEntry x + uptoBulkEntries r
def uptoBulkEntry {H : Type} : Lit × DataW H → Nat
  | (.string bytes, d) => bytes.length + uptoBulk d + 1
  | (_, d) => uptoBulk d + 1
 end
def uptoSmall : (H : Type) → List (DataW H) → Bool := fun _ ds => decide (uptoBulkAll ds ≤ 1048576)
def OpenSpec.upto (s : _root_.Go.ChangeSpec) : _root_.Go.OpenSpec := { _root_.Go.OpenSpec.ofChange s with cond := some uptoSmall }

/-- 'hibernaclelaw07.ParityCuts', WHERE WHAT IT READS IS OF BULK AT MOST 1048576: true; the input reads as it did. -/
def parityCutsUptoRow : OpenClaim := { program := "ytoibnghkcdopeaa", sum := "9a48b9dfa603884b9f655208c3f388865792ee8920214d9ef7477cc711496a73", func := "hibernacle/hibernaclelaw07.ParityCuts", spec := "parityCuts", inPlace := ["internal/abi.NoEscape", "internal/bytealg.MakeNoZero"], unfollowed := true, recurses := true, apart := false, narrowed := true }
def ParityCutsUptoSaid : Prop := parityCutsUptoRow.holds Try.pinned (OpenSpec.upto parityCutsSpec)

/-- 'hibernaclelaw07.ParityOr', WHERE WHAT IT READS IS OF BULK AT MOST 1048576: true; the input reads as it did. -/
def parityOrUptoRow : OpenClaim := { program := "ytoibnghkcdopeaa", sum := "9a48b9dfa603884b9f655208c3f388865792ee8920214d9ef7477cc711496a73", func := "hibernacle/hibernaclelaw07.ParityOr", spec := "parityOr", inPlace := ["internal/abi.NoEscape", "internal/bytealg.MakeNoZero"], unfollowed := true, recurses := true, apart := false, narrowed := true }
def ParityOrUptoSaid : Prop := parityOrUptoRow.holds Try.pinned (OpenSpec.upto parityOrSpec)

/-- 'hibernaclelaw07.ParityPoly', WHERE WHAT IT READS IS OF BULK AT MOST 1048576: true; the input reads as it did. -/
def parityPolyUptoRow : OpenClaim := { program := "ytoibnghkcdopeaa", sum := "9a48b9dfa603884b9f655208c3f388865792ee8920214d9ef7477cc711496a73", func := "hibernacle/hibernaclelaw07.ParityPoly", spec := "parityPoly", inPlace := ["internal/abi.NoEscape", "internal/bytealg.MakeNoZero"], unfollowed := true, recurses := true, apart := false, narrowed := true }
def ParityPolyUptoSaid : Prop := parityPolyUptoRow.holds Try.pinned (OpenSpec.upto parityPolySpec)

/-- 'hibernaclelaw07.ParityJoins', WHERE WHAT IT READS IS OF BULK AT MOST 1048576: true; the input reads as it did. -/
def parityJoinsUptoRow : OpenClaim := { program := "ytoibnghkcdopeaa", sum := "9a48b9dfa603884b9f655208c3f388865792ee8920214d9ef7477cc711496a73", func := "hibernacle/hibernaclelaw07.ParityJoins", spec := "parityJoins", inPlace := ["internal/abi.NoEscape", "internal/bytealg.MakeNoZero"], unfollowed := true, recurses := true, apart := false, narrowed := true }
def ParityJoinsUptoSaid : Prop := parityJoinsUptoRow.holds Try.pinned (OpenSpec.upto parityJoinsSpec)

/-- 'hibernaclelaw07.ParityThree', WHERE WHAT IT READS IS OF BULK AT MOST 1048576: true; the input reads as it did. -/
def parityThreeUptoRow : OpenClaim := { program := "ytoibnghkcdopeaa", sum := "9a48b9dfa603884b9f655208c3f388865792ee8920214d9ef7477cc711496a73", func := "hibernacle/hibernaclelaw07.ParityThree", spec := "parityThree", inPlace := ["internal/abi.NoEscape", "internal/bytealg.MakeNoZero"], unfollowed := true, recurses := true, apart := false, narrowed := true }
def ParityThreeUptoSaid : Prop := parityThreeUptoRow.holds Try.pinned (OpenSpec.upto parityThreeSpec)

/-- 'hibernaclelaw07.ParityBent', WHERE WHAT IT READS IS OF BULK AT MOST 1048576: true; the input reads as it did. -/
def parityBentUptoRow : OpenClaim := { program := "ytoibnghkcdopeaa", sum := "9a48b9dfa603884b9f655208c3f388865792ee8920214d9ef7477cc711496a73", func := "hibernacle/hibernaclelaw07.ParityBent", spec := "parityBent", inPlace := ["internal/abi.NoEscape", "internal/bytealg.MakeNoZero"], unfollowed := true, recurses := true, apart := false, narrowed := true }
def ParityBentUptoSaid : Prop := parityBentUptoRow.holds Try.pinned (OpenSpec.upto parityBentSpec)

end Rows
end Go.Proofs.Ytoibnghkcdopeaa

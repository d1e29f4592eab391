/-
  No cell of these rows narrows 'for every input' (looked for: loops, veiled, ifaces, maps, wideKeys, modest, calm, conditions, laid).
  DERIVED. THE GIVEN ROWS OF THIS SEAT. 15 by the template 'for every input the law returns true; each argument reads behind the call as it read before'; 0 by the template 'total and deterministic' (their statements: YtgalfkjhogidmaaTotals.lean).
  GIVEN WITH THE SEED: the statements are not yours to turn. If you find one false, say at which input.
  Laid BY PROGRAM, IN A SANDBOX (cutbox-rows.mjs): the forced cells as the released guide's own fill.sh prints them over the translation 5d49bddcd6cb1f70… (all of the seat's roots in one cut). By AI agents, Wed Nov 11 2026. No macro, syntax, notation, axiom, sorry.
-/
import Derived.Test.YtgalfkjhogidmaaChecked
import GoSem.Claim
import GoSem.ClaimJoined
import GoSem.ClaimMapViews
import Derived.JoinedTies
import Derived.KernelRfl
namespace Go.Proofs.Ytgalfkjhogidmaa
/- THE CELL 'sum', in the pinned program and in every row, IS THE sha256 OF THE DUMP (.gsa) THAT YtgalfkjhogidmaaProg.lean LOADS. Nothing in Lean hashes anything: it is a label: what it is worth is what the hold of that sum in a sandbox is worth. -/
noncomputable def Try.pinned : Pinned := { name := "ytgalfkjhogidmaa", sum := "5d49bddcd6cb1f702bbba35582cb0488542bb21458eea2af7168c51aaee97c57", checked := Try.checked }
namespace Rows
def none {H : Type} : Left H := { results := [], args := [] }

/-- 'hibernaclelaw06.ShareSplits': WHATEVER THE INPUT: true; the input reads as it did. -/
def shareSplitsSpec : ChangeSpec := { name := "shareSplits", fn := fun _ => fun
  | [d1, d2, d3] => { results := [.lit (.bool true)], args := [d1, d2, d3] }
  | _ => none }
def shareSplitsRow : OpenClaim := { program := "ytgalfkjhogidmaa", sum := "5d49bddcd6cb1f702bbba35582cb0488542bb21458eea2af7168c51aaee97c57", func := "hibernacle/hibernaclelaw06.ShareSplits", spec := "shareSplits", apart := false }
def ShareSplitsSaid : Prop := shareSplitsRow.holds Try.pinned (OpenSpec.ofChange shareSplitsSpec)

/-- ITS FALSE NEIGHBOUR: 'it returns false'. Refute it at one input. -/
def shareSplitsWrong : ChangeSpec := { name := "shareSplits", fn := fun _ => fun
  | [d1, d2, d3] => { results := [.lit (.bool false)], args := [d1, d2, d3] }
  | _ => none }
def ShareSplitsWrongFalsely : Prop := shareSplitsRow.holds Try.pinned (OpenSpec.ofChange shareSplitsWrong)

/-- 'hibernaclelaw06.ShareFits': WHATEVER THE INPUT: true; the input reads as it did. -/
def shareFitsSpec : ChangeSpec := { name := "shareFits", fn := fun _ => fun
  | [d1, d2, d3, d4, d5] => { results := [.lit (.bool true)], args := [d1, d2, d3, d4, d5] }
  | _ => none }
def shareFitsRow : OpenClaim := { program := "ytgalfkjhogidmaa", sum := "5d49bddcd6cb1f702bbba35582cb0488542bb21458eea2af7168c51aaee97c57", func := "hibernacle/hibernaclelaw06.ShareFits", spec := "shareFits", apart := false }
def ShareFitsSaid : Prop := shareFitsRow.holds Try.pinned (OpenSpec.ofChange shareFitsSpec)

/-- ITS FALSE NEIGHBOUR: 'it returns false'. Refute it at one input. -/
def shareFitsWrong : ChangeSpec := { name := "shareFits", fn := fun _ => fun
  | [d1, d2, d3, d4, d5] => { results := [.lit (.bool false)], args := [d1, d2, d3, d4, d5] }
  | _ => none }
def ShareFitsWrongFalsely : Prop := shareFitsRow.holds Try.pinned (OpenSpec.ofChange shareFitsWrong)

/-- 'hibernaclelaw06.ShareSums': WHATEVER THE INPUT: true; the input reads as it did. -/
def shareSumsSpec : ChangeSpec := { name := "shareSums", fn := fun _ => fun
  | [d1, d2, d3, d4] => { results := [.lit (.bool true)], args := [d1, d2, d3, d4] }
  | _ => none }
def shareSumsRow : OpenClaim := { program := "ytgalfkjhogidmaa", sum := "5d49bddcd6cb1f702bbba35582cb0488542bb21458eea2af7168c51aaee97c57", func := "hibernacle/hibernaclelaw06.ShareSums", spec := "shareSums", apart := false }
def ShareSumsSaid : Prop := shareSumsRow.holds Try.pinned (OpenSpec.ofChange shareSumsSpec)

/-- ITS FALSE NEIGHBOUR: 'it returns false'. Refute it at one input. -/
def shareSumsWrong : ChangeSpec := { name := "shareSums", fn := fun _ => fun
  | [d1, d2, d3, d4] => { results := [.lit (.bool false)], args := [d1, d2, d3, d4] }
  | _ => none }
def ShareSumsWrongFalsely : Prop := shareSumsRow.holds Try.pinned (OpenSpec.ofChange shareSumsWrong)

/-- 'hibernaclelaw06.ShareMore': WHATEVER THE INPUT: true; the input reads as it did. -/
def shareMoreSpec : ChangeSpec := { name := "shareMore", fn := fun _ => fun
  | [d1, d2, d3, d4] => { results := [.lit (.bool true)], args := [d1, d2, d3, d4] }
  | _ => none }
def shareMoreRow : OpenClaim := { program := "ytgalfkjhogidmaa", sum := "5d49bddcd6cb1f702bbba35582cb0488542bb21458eea2af7168c51aaee97c57", func := "hibernacle/hibernaclelaw06.ShareMore", spec := "shareMore", apart := false }
def ShareMoreSaid : Prop := shareMoreRow.holds Try.pinned (OpenSpec.ofChange shareMoreSpec)

/-- ITS FALSE NEIGHBOUR: 'it returns false'. Refute it at one input. -/
def shareMoreWrong : ChangeSpec := { name := "shareMore", fn := fun _ => fun
  | [d1, d2, d3, d4] => { results := [.lit (.bool false)], args := [d1, d2, d3, d4] }
  | _ => none }
def ShareMoreWrongFalsely : Prop := shareMoreRow.holds Try.pinned (OpenSpec.ofChange shareMoreWrong)

/-- 'hibernaclelaw05.FieldMuls': WHATEVER THE INPUT: true; the input reads as it did. -/
def fieldMulsSpec : ChangeSpec := { name := "fieldMuls", fn := fun _ => fun
  | [d1, d2] => { results := [.lit (.bool true)], args := [d1, d2] }
  | _ => none }
def fieldMulsRow : OpenClaim := { program := "ytgalfkjhogidmaa", sum := "5d49bddcd6cb1f702bbba35582cb0488542bb21458eea2af7168c51aaee97c57", func := "hibernacle/hibernaclelaw05.FieldMuls", spec := "fieldMuls", apart := false }
def FieldMulsSaid : Prop := fieldMulsRow.holds Try.pinned (OpenSpec.ofChange fieldMulsSpec)

/-- ITS FALSE NEIGHBOUR: 'it returns false'. Refute it at one input. -/
def fieldMulsWrong : ChangeSpec := { name := "fieldMuls", fn := fun _ => fun
  | [d1, d2] => { results := [.lit (.bool false)], args := [d1, d2] }
  | _ => none }
def FieldMulsWrongFalsely : Prop := fieldMulsRow.holds Try.pinned (OpenSpec.ofChange fieldMulsWrong)

/-- 'hibernaclelaw05.FieldLaws': WHATEVER THE INPUT: true; the input reads as it did. -/
def fieldLawsSpec : ChangeSpec := { name := "fieldLaws", fn := fun _ => fun
  | [d1, d2, d3] => { results := [.lit (.bool true)], args := [d1, d2, d3] }
  | _ => none }
def fieldLawsRow : OpenClaim := { program := "ytgalfkjhogidmaa", sum := "5d49bddcd6cb1f702bbba35582cb0488542bb21458eea2af7168c51aaee97c57", func := "hibernacle/hibernaclelaw05.FieldLaws", spec := "fieldLaws", apart := false }
def FieldLawsSaid : Prop := fieldLawsRow.holds Try.pinned (OpenSpec.ofChange fieldLawsSpec)

/-- ITS FALSE NEIGHBOUR: 'it returns false'. Refute it at one input. -/
def fieldLawsWrong : ChangeSpec := { name := "fieldLaws", fn := fun _ => fun
  | [d1, d2, d3] => { results := [.lit (.bool false)], args := [d1, d2, d3] }
  | _ => none }
def FieldLawsWrongFalsely : Prop := fieldLawsRow.holds Try.pinned (OpenSpec.ofChange fieldLawsWrong)

/-- 'hibernaclelaw05.FieldEvals': WHATEVER THE INPUT: true; the input reads as it did. -/
def fieldEvalsSpec : ChangeSpec := { name := "fieldEvals", fn := fun _ => fun
  | [d1, d2, d3] => { results := [.lit (.bool true)], args := [d1, d2, d3] }
  | _ => none }
def fieldEvalsRow : OpenClaim := { program := "ytgalfkjhogidmaa", sum := "5d49bddcd6cb1f702bbba35582cb0488542bb21458eea2af7168c51aaee97c57", func := "hibernacle/hibernaclelaw05.FieldEvals", spec := "fieldEvals", apart := false }
def FieldEvalsSaid : Prop := fieldEvalsRow.holds Try.pinned (OpenSpec.ofChange fieldEvalsSpec)

/-- ITS FALSE NEIGHBOUR: 'it returns false'. Refute it at one input. -/
def fieldEvalsWrong : ChangeSpec := { name := "fieldEvals", fn := fun _ => fun
  | [d1, d2, d3] => { results := [.lit (.bool false)], args := [d1, d2, d3] }
  | _ => none }
def FieldEvalsWrongFalsely : Prop := fieldEvalsRow.holds Try.pinned (OpenSpec.ofChange fieldEvalsWrong)

/-- 'hibernaclelaw05.FieldThrough': WHATEVER THE INPUT: true; the input reads as it did. -/
def fieldThroughSpec : ChangeSpec := { name := "fieldThrough", fn := fun _ => fun
  | [d1, d2, d3] => { results := [.lit (.bool true)], args := [d1, d2, d3] }
  | _ => none }
def fieldThroughRow : OpenClaim := { program := "ytgalfkjhogidmaa", sum := "5d49bddcd6cb1f702bbba35582cb0488542bb21458eea2af7168c51aaee97c57", func := "hibernacle/hibernaclelaw05.FieldThrough", spec := "fieldThrough", apart := false }
def FieldThroughSaid : Prop := fieldThroughRow.holds Try.pinned (OpenSpec.ofChange fieldThroughSpec)

/-- ITS FALSE NEIGHBOUR: 'it returns false'. Refute it at one input. -/
def fieldThroughWrong : ChangeSpec := { name := "fieldThrough", fn := fun _ => fun
  | [d1, d2, d3] => { results := [.lit (.bool false)], args := [d1, d2, d3] }
  | _ => none }
def FieldThroughWrongFalsely : Prop := fieldThroughRow.holds Try.pinned (OpenSpec.ofChange fieldThroughWrong)

/-- 'hibernaclelaw05.FieldFree': WHATEVER THE INPUT: true; the input reads as it did. -/
def fieldFreeSpec : ChangeSpec := { name := "fieldFree", fn := fun _ => fun
  | [d1, d2, d3] => { results := [.lit (.bool true)], args := [d1, d2, d3] }
  | _ => none }
def fieldFreeRow : OpenClaim := { program := "ytgalfkjhogidmaa", sum := "5d49bddcd6cb1f702bbba35582cb0488542bb21458eea2af7168c51aaee97c57", func := "hibernacle/hibernaclelaw05.FieldFree", spec := "fieldFree", apart := false }
def FieldFreeSaid : Prop := fieldFreeRow.holds Try.pinned (OpenSpec.ofChange fieldFreeSpec)

/-- ITS FALSE NEIGHBOUR: 'it returns false'. Refute it at one input. -/
def fieldFreeWrong : ChangeSpec := { name := "fieldFree", fn := fun _ => fun
  | [d1, d2, d3] => { results := [.lit (.bool false)], args := [d1, d2, d3] }
  | _ => none }
def FieldFreeWrongFalsely : Prop := fieldFreeRow.holds Try.pinned (OpenSpec.ofChange fieldFreeWrong)

/-- 'hibernaclelaw05.FieldRoots': WHATEVER THE INPUT: true; the input reads as it did. -/
def fieldRootsSpec : ChangeSpec := { name := "fieldRoots", fn := fun _ => fun
  | [d1, d2, d3] => { results := [.lit (.bool true)], args := [d1, d2, d3] }
  | _ => none }
def fieldRootsRow : OpenClaim := { program := "ytgalfkjhogidmaa", sum := "5d49bddcd6cb1f702bbba35582cb0488542bb21458eea2af7168c51aaee97c57", func := "hibernacle/hibernaclelaw05.FieldRoots", spec := "fieldRoots", apart := false }
def FieldRootsSaid : Prop := fieldRootsRow.holds Try.pinned (OpenSpec.ofChange fieldRootsSpec)

/-- ITS FALSE NEIGHBOUR: 'it returns false'. Refute it at one input. -/
def fieldRootsWrong : ChangeSpec := { name := "fieldRoots", fn := fun _ => fun
  | [d1, d2, d3] => { results := [.lit (.bool false)], args := [d1, d2, d3] }
  | _ => none }
def FieldRootsWrongFalsely : Prop := fieldRootsRow.holds Try.pinned (OpenSpec.ofChange fieldRootsWrong)

/-- 'hibernaclelaw06.ShareJoins': WHATEVER THE INPUT: true; the input reads as it did. -/
def shareJoinsSpec : ChangeSpec := { name := "shareJoins", fn := fun _ => fun
  | [d] => { results := [.lit (.bool true)], args := [d] }
  | _ => none }
def shareJoinsRow : OpenClaim := { program := "ytgalfkjhogidmaa", sum := "5d49bddcd6cb1f702bbba35582cb0488542bb21458eea2af7168c51aaee97c57", func := "hibernacle/hibernaclelaw06.ShareJoins", spec := "shareJoins", apart := false }
def ShareJoinsSaid : Prop := shareJoinsRow.holds Try.pinned (OpenSpec.ofChange shareJoinsSpec)

/-- ITS FALSE NEIGHBOUR: 'it returns false'. Refute it at one input. -/
def shareJoinsWrong : ChangeSpec := { name := "shareJoins", fn := fun _ => fun
  | [d] => { results := [.lit (.bool false)], args := [d] }
  | _ => none }
def ShareJoinsWrongFalsely : Prop := shareJoinsRow.holds Try.pinned (OpenSpec.ofChange shareJoinsWrong)

/-- 'hibernaclelaw06.ShareAny': WHATEVER THE INPUT: true; the input reads as it did. -/
def shareAnySpec : ChangeSpec := { name := "shareAny", fn := fun _ => fun
  | [d1, d2, d3, d4] => { results := [.lit (.bool true)], args := [d1, d2, d3, d4] }
  | _ => none }
def shareAnyRow : OpenClaim := { program := "ytgalfkjhogidmaa", sum := "5d49bddcd6cb1f702bbba35582cb0488542bb21458eea2af7168c51aaee97c57", func := "hibernacle/hibernaclelaw06.ShareAny", spec := "shareAny", apart := false }
def ShareAnySaid : Prop := shareAnyRow.holds Try.pinned (OpenSpec.ofChange shareAnySpec)

/-- ITS FALSE NEIGHBOUR: 'it returns false'. Refute it at one input. -/
def shareAnyWrong : ChangeSpec := { name := "shareAny", fn := fun _ => fun
  | [d1, d2, d3, d4] => { results := [.lit (.bool false)], args := [d1, d2, d3, d4] }
  | _ => none }
def ShareAnyWrongFalsely : Prop := shareAnyRow.holds Try.pinned (OpenSpec.ofChange shareAnyWrong)

/-- 'hibernaclelaw06.ShareBlind': WHATEVER THE INPUT: true; the input reads as it did. -/
def shareBlindSpec : ChangeSpec := { name := "shareBlind", fn := fun _ => fun
  | [d1, d2, d3, d4, d5] => { results := [.lit (.bool true)], args := [d1, d2, d3, d4, d5] }
  | _ => none }
def shareBlindRow : OpenClaim := { program := "ytgalfkjhogidmaa", sum := "5d49bddcd6cb1f702bbba35582cb0488542bb21458eea2af7168c51aaee97c57", func := "hibernacle/hibernaclelaw06.ShareBlind", spec := "shareBlind", apart := false }
def ShareBlindSaid : Prop := shareBlindRow.holds Try.pinned (OpenSpec.ofChange shareBlindSpec)

/-- ITS FALSE NEIGHBOUR: 'it returns false'. Refute it at one input. -/
def shareBlindWrong : ChangeSpec := { name := "shareBlind", fn := fun _ => fun
  | [d1, d2, d3, d4, d5] => { results := [.lit (.bool false)], args := [d1, d2, d3, d4, d5] }
  | _ => none }
def ShareBlindWrongFalsely : Prop := shareBlindRow.holds Try.pinned (OpenSpec.ofChange shareBlindWrong)

/-- 'hibernacletop.TopTwoFit': WHATEVER THE INPUT: true; the input reads as it did. -/
def topTwoFitSpec : ChangeSpec := { name := "topTwoFit", fn := fun _ => fun
  | [d1, d2, d3, d4, d5, d6] => { results := [.lit (.bool true)], args := [d1, d2, d3, d4, d5, d6] }
  | _ => none }
def topTwoFitRow : OpenClaim := { program := "ytgalfkjhogidmaa", sum := "5d49bddcd6cb1f702bbba35582cb0488542bb21458eea2af7168c51aaee97c57", func := "hibernacle/hibernacletop.TopTwoFit", spec := "topTwoFit", apart := false }
def TopTwoFitSaid : Prop := topTwoFitRow.holds Try.pinned (OpenSpec.ofChange topTwoFitSpec)

/-- ITS FALSE NEIGHBOUR: 'it returns false'. Refute it at one input. -/
def topTwoFitWrong : ChangeSpec := { name := "topTwoFit", fn := fun _ => fun
  | [d1, d2, d3, d4, d5, d6] => { results := [.lit (.bool false)], args := [d1, d2, d3, d4, d5, d6] }
  | _ => none }
def TopTwoFitWrongFalsely : Prop := topTwoFitRow.holds Try.pinned (OpenSpec.ofChange topTwoFitWrong)

/-- 'hibernacletop.TopThree': WHATEVER THE INPUT: true; the input reads as it did. -/
def topThreeSpec : ChangeSpec := { name := "topThree", fn := fun _ => fun
  | [d1, d2, d3, d4, d5, d6] => { results := [.lit (.bool true)], args := [d1, d2, d3, d4, d5, d6] }
  | _ => none }
def topThreeRow : OpenClaim := { program := "ytgalfkjhogidmaa", sum := "5d49bddcd6cb1f702bbba35582cb0488542bb21458eea2af7168c51aaee97c57", func := "hibernacle/hibernacletop.TopThree", spec := "topThree", apart := false }
def TopThreeSaid : Prop := topThreeRow.holds Try.pinned (OpenSpec.ofChange topThreeSpec)

/-- ITS FALSE NEIGHBOUR: 'it returns false'. Refute it at one input. -/
def topThreeWrong : ChangeSpec := { name := "topThree", fn := fun _ => fun
  | [d1, d2, d3, d4, d5, d6] => { results := [.lit (.bool false)], args := [d1, d2, d3, d4, d5, d6] }
  | _ => none }
def TopThreeWrongFalsely : Prop := topThreeRow.holds Try.pinned (OpenSpec.ofChange topThreeWrong)

/- THE SECOND FORM. 'bulk': how many values and letters a reading holds, each counted each time it is reached (what is shared counts as often as it is met; a slice's spare places count too). A statement '..UptoSaid' is the law's where the arguments, and the package variables that the reading takes, are together of bulk at most 1048576: NARROWER than '..Said'. Prove '..Said' where nothing that the law and all that it calls make is longer than what came in: it says more and counts as full. Else prove '..UptoSaid'. A law counts once. -/
mutual
def uptoBulk {H : Type} : DataW H → Nat
  | .lit (.string bytes) => bytes.length + 1
  | .lit _ => 1
  | .nil => 1
  | .ptr d => uptoBulk d + 1
  | .slice elems spare => uptoBulkAll elems + uptoBulkAll spare + 1
  | .agg parts => uptoBulkAll parts + 1
  | .iface _ d => uptoBulk d + 1
  | .map entries => uptoBulkEntries entries + 1
  | .held _ => 1
def uptoBulkAll {H : Type} : List (DataW H) → Nat
  | [] => 0
  | d :: r => uptoBulk d + uptoBulkAll r
def uptoBulkEntries {H : Type} : List (Lit × DataW H) → Nat
  | [] => 0
  | x :: r => uptoBulkEntry x + uptoBulkEntries r
def uptoBulkEntry {H : Type} : Lit × DataW H → Nat
  | (.string bytes, d) => bytes.length + uptoBulk d + 1
  | (_, d) => uptoBulk d + 1
 end
def uptoSmall : (H : Type) → List (DataW H) → Bool := fun _ ds => decide (uptoBulkAll ds ≤ 1048576)
def OpenSpec.upto (s : _root_.Go.ChangeSpec) : _root_.Go.OpenSpec := { _root_.Go.OpenSpec.ofChange s with cond := some uptoSmall }

/-- 'hibernaclelaw06.ShareSplits', WHERE WHAT IT READS IS OF BULK AT MOST 1048576: true; the input reads as it did. -/
def shareSplitsUptoRow : OpenClaim := { program := "ytgalfkjhogidmaa", sum := "5d49bddcd6cb1f702bbba35582cb0488542bb21458eea2af7168c51aaee97c57", func := "hibernacle/hibernaclelaw06.ShareSplits", spec := "shareSplits", apart := false, narrowed := true }
def ShareSplitsUptoSaid : Prop := shareSplitsUptoRow.holds Try.pinned (OpenSpec.upto shareSplitsSpec)

/-- 'hibernaclelaw06.ShareFits', WHERE WHAT IT READS IS OF BULK AT MOST 1048576: true; the input reads as it did. -/
def shareFitsUptoRow : OpenClaim := { program := "ytgalfkjhogidmaa", sum := "5d49bddcd6cb1f702bbba35582cb0488542bb21458eea2af7168c51aaee97c57", func := "hibernacle/hibernaclelaw06.ShareFits", spec := "shareFits", apart := false, narrowed := true }
def ShareFitsUptoSaid : Prop := shareFitsUptoRow.holds Try.pinned (OpenSpec.upto shareFitsSpec)

/-- 'hibernaclelaw06.ShareSums', WHERE WHAT IT READS IS OF BULK AT MOST 1048576: true; the input reads as it did. -/
def shareSumsUptoRow : OpenClaim := { program := "ytgalfkjhogidmaa", sum := "5d49bddcd6cb1f702bbba35582cb0488542bb21458eea2af7168c51aaee97c57", func := "hibernacle/hibernaclelaw06.ShareSums", spec := "shareSums", apart := false, narrowed := true }
def ShareSumsUptoSaid : Prop := shareSumsUptoRow.holds Try.pinned (OpenSpec.upto shareSumsSpec)

/-- 'hibernaclelaw06.ShareMore', WHERE WHAT IT READS IS OF BULK AT MOST 1048576: true; the input reads as it did. -/
def shareMoreUptoRow : OpenClaim := { program := "ytgalfkjhogidmaa", sum := "5d49bddcd6cb1f702bbba35582cb0488542bb21458eea2af7168c51aaee97c57", func := "hibernacle/hibernaclelaw06.ShareMore", spec := "shareMore", apart := false, narrowed := true }
def ShareMoreUptoSaid : Prop := shareMoreUptoRow.holds Try.pinned (OpenSpec.upto shareMoreSpec)

/-- 'hibernaclelaw05.FieldMuls', WHERE WHAT IT READS IS OF BULK AT MOST 1048576: true; the input reads as it did. -/
def fieldMulsUptoRow : OpenClaim := { program := "ytgalfkjhogidmaa", sum := "5d49bddcd6cb1f702bbba35582cb0488542bb21458eea2af7168c51aaee97c57", func := "hibernacle/hibernaclelaw05.FieldMuls", spec := "fieldMuls", apart := false, narrowed := true }
def FieldMulsUptoSaid : Prop := fieldMulsUptoRow.holds Try.pinned (OpenSpec.upto fieldMulsSpec)

/-- 'hibernaclelaw05.FieldLaws', WHERE WHAT IT READS IS OF BULK AT MOST 1048576: true; the input reads as it did. -/
def fieldLawsUptoRow : OpenClaim := { program := "ytgalfkjhogidmaa", sum := "5d49bddcd6cb1f702bbba35582cb0488542bb21458eea2af7168c51aaee97c57", func := "hibernacle/hibernaclelaw05.FieldLaws", spec := "fieldLaws", apart := false, narrowed := true }
def FieldLawsUptoSaid : Prop := fieldLawsUptoRow.holds Try.pinned (OpenSpec.upto fieldLawsSpec)

/-- 'hibernaclelaw05.FieldEvals', WHERE WHAT IT READS IS OF BULK AT MOST 1048576: true; the input reads as it did. -/
def fieldEvalsUptoRow : OpenClaim := { program := "ytgalfkjhogidmaa", sum := "5d49bddcd6cb1f702bbba35582cb0488542bb21458eea2af7168c51aaee97c57", func := "hibernacle/hibernaclelaw05.FieldEvals", spec := "fieldEvals", apart := false, narrowed := true }
def FieldEvalsUptoSaid : Prop := fieldEvalsUptoRow.holds Try.pinned (OpenSpec.upto fieldEvalsSpec)

/-- 'hibernaclelaw05.FieldThrough', WHERE WHAT IT READS IS OF BULK AT MOST 1048576: true; the input reads as it did. -/
def fieldThroughUptoRow : OpenClaim := { program := "ytgalfkjhogidmaa", sum := "5d49bddcd6cb1f702bbba35582cb0488542bb21458eea2af7168c51aaee97c57", func := "hibernacle/hibernaclelaw05.FieldThrough", spec := "fieldThrough", apart := false, narrowed := true }
def FieldThroughUptoSaid : Prop := fieldThroughUptoRow.holds Try.pinned (OpenSpec.upto fieldThroughSpec)

/-- 'hibernaclelaw05.FieldFree', WHERE WHAT IT READS IS OF BULK AT MOST 1048576: true; the input reads as it did. -/
def fieldFreeUptoRow : OpenClaim := { program := "ytgalfkjhogidmaa", sum := "5d49bddcd6cb1f702bbba35582cb0488542bb21458eea2af7168c51aaee97c57", func := "hibernacle/hibernaclelaw05.FieldFree", spec := "fieldFree", apart := false, narrowed := true }
def FieldFreeUptoSaid : Prop := fieldFreeUptoRow.holds Try.pinned (OpenSpec.upto fieldFreeSpec)

/-- 'hibernaclelaw05.FieldRoots', WHERE WHAT IT READS IS OF BULK AT MOST 1048576: true; the input reads as it did. -/
def fieldRootsUptoRow : OpenClaim := { program := "ytgalfkjhogidmaa", sum := "5d49bddcd6cb1f702bbba35582cb0488542bb21458eea2af7168c51aaee97c57", func := "hibernacle/hibernaclelaw05.FieldRoots", spec := "fieldRoots", apart := false, narrowed := true }
def FieldRootsUptoSaid : Prop := fieldRootsUptoRow.holds Try.pinned (OpenSpec.upto fieldRootsSpec)

/-- 'hibernaclelaw06.ShareJoins', WHERE WHAT IT READS IS OF BULK AT MOST 1048576: true; the input reads as it did. -/
def shareJoinsUptoRow : OpenClaim := { program := "ytgalfkjhogidmaa", sum := "5d49bddcd6cb1f702bbba35582cb0488542bb21458eea2af7168c51aaee97c57", func := "hibernacle/hibernaclelaw06.ShareJoins", spec := "shareJoins", apart := false, narrowed := true }
def ShareJoinsUptoSaid : Prop := shareJoinsUptoRow.holds Try.pinned (OpenSpec.upto shareJoinsSpec)

/-- 'hibernaclelaw06.ShareAny', WHERE WHAT IT READS IS OF BULK AT MOST 1048576: true; the input reads as it did. -/
def shareAnyUptoRow : OpenClaim := { program := "ytgalfkjhogidmaa", sum := "5d49bddcd6cb1f702bbba35582cb0488542bb21458eea2af7168c51aaee97c57", func := "hibernacle/hibernaclelaw06.ShareAny", spec := "shareAny", apart := false, narrowed := true }
def ShareAnyUptoSaid : Prop := shareAnyUptoRow.holds Try.pinned (OpenSpec.upto shareAnySpec)

/-- 'hibernaclelaw06.ShareBlind', WHERE WHAT IT READS IS OF BULK AT MOST 1048576: true; the input reads as it did. -/
def shareBlindUptoRow : OpenClaim := { program := "ytgalfkjhogidmaa", sum := "5d49bddcd6cb1f702bbba35582cb0488542bb21458eea2af7168c51aaee97c57", func := "hibernacle/hibernaclelaw06.ShareBlind", spec := "shareBlind", apart := false, narrowed := true }
def ShareBlindUptoSaid : Prop := shareBlindUptoRow.holds Try.pinned (OpenSpec.upto shareBlindSpec)

/-- 'hibernacletop.TopTwoFit', WHERE WHAT IT READS IS OF BULK AT MOST 1048576: true; the input reads as it did. -/
def topTwoFitUptoRow : OpenClaim := { program := "ytgalfkjhogidmaa", sum := "5d49bddcd6cb1f702bbba35582cb0488542bb21458eea2af7168c51aaee97c57", func := "hibernacle/hibernacletop.TopTwoFit", spec := "topTwoFit", apart := false, narrowed := true }
def TopTwoFitUptoSaid : Prop := topTwoFitUptoRow.holds Try.pinned (OpenSpec.upto topTwoFitSpec)

/-- 'hibernacletop.TopThree', WHERE WHAT IT READS IS OF BULK AT MOST 1048576: true; the input reads as it did. -/
def topThreeUptoRow : OpenClaim := { program := "ytgalfkjhogidmaa", sum := "5d49bddcd6cb1f702bbba35582cb0488542bb21458eea2af7168c51aaee97c57", func := "hibernacle/hibernacletop.TopThree", spec := "topThree", apart := false, narrowed := true }
def TopThreeUptoSaid : Prop := topThreeUptoRow.holds Try.pinned (OpenSpec.upto topThreeSpec)

end Rows
end Go.Proofs.Ytgalfkjhogidmaa

/-
  No cell of these rows narrows 'for every input' (looked for: loops, veiled, ifaces, maps, wideKeys, modest, calm, conditions, laid).
  DERIVED. THE GIVEN ROWS OF THIS SEAT. 8 by the template 'for every input the law returns true; each argument reads behind the call as it read before'; 0 by the template 'total and deterministic' (their statements: YthikkiacgmgdhaaTotals.lean).
  GIVEN WITH THE SEED: the statements are not yours to turn. If you find one false, say at which input.
  Laid BY PROGRAM, IN A SANDBOX (cutbox-rows.mjs): the forced cells as the released guide's own fill.sh prints them over the translation ee51ac0584fa81c8… (all of the seat's roots in one cut). By AI agents, Wed Nov 11 2026. No macro, syntax, notation, axiom, sorry.
-/
import Derived.Test.YthikkiacgmgdhaaChecked
import GoSem.Claim
import GoSem.ClaimJoined
import GoSem.ClaimMapViews
import Derived.JoinedTies
import Derived.KernelRfl
namespace Go.Proofs.Ythikkiacgmgdhaa
/- THE CELL 'sum', in the pinned program and in every row, IS THE sha256 OF THE DUMP (.gsa) THAT YthikkiacgmgdhaaProg.lean LOADS. Nothing in Lean hashes anything: it is a label: what it is worth is what the hold of that sum in a sandbox is worth. -/
noncomputable def Try.pinned : Pinned := { name := "ythikkiacgmgdhaa", sum := "ee51ac0584fa81c87ba0823a755b7524a543551d1cbdd9699d6431a1b1de8f51", checked := Try.checked }
namespace Rows
def none {H : Type} : Left H := { results := [], args := [] }

/-- 'schismalaw36.MergeMatchesReference': WHATEVER THE INPUT: true; the input reads as it did. -/
def mergeMatchesReferenceSpec : ChangeSpec := { name := "mergeMatchesReference", fn := fun _ => fun
  | [d1, d2, d3, d4] => { results := [.lit (.bool true)], args := [d1, d2, d3, d4] }
  | _ => none }
def mergeMatchesReferenceRow : OpenClaim := { program := "ythikkiacgmgdhaa", sum := "ee51ac0584fa81c87ba0823a755b7524a543551d1cbdd9699d6431a1b1de8f51", func := "schisma/schismalaw36.MergeMatchesReference", spec := "mergeMatchesReference", unfollowed := true, recurses := true, plainKeys := false, apart := false }
def MergeMatchesReferenceSaid : Prop := mergeMatchesReferenceRow.holds Try.pinned (OpenSpec.ofChange mergeMatchesReferenceSpec)

/-- ITS FALSE NEIGHBOUR: 'it returns false'. Refute it at one input. -/
def mergeMatchesReferenceWrong : ChangeSpec := { name := "mergeMatchesReference", fn := fun _ => fun
  | [d1, d2, d3, d4] => { results := [.lit (.bool false)], args := [d1, d2, d3, d4] }
  | _ => none }
def MergeMatchesReferenceWrongFalsely : Prop := mergeMatchesReferenceRow.holds Try.pinned (OpenSpec.ofChange mergeMatchesReferenceWrong)

/-- 'schismalaw36.MergeUnion': WHATEVER THE INPUT: true; the input reads as it did. -/
def mergeUnionSpec : ChangeSpec := { name := "mergeUnion", fn := fun _ => fun
  | [d1, d2] => { results := [.lit (.bool true)], args := [d1, d2] }
  | _ => none }
def mergeUnionRow : OpenClaim := { program := "ythikkiacgmgdhaa", sum := "ee51ac0584fa81c87ba0823a755b7524a543551d1cbdd9699d6431a1b1de8f51", func := "schisma/schismalaw36.MergeUnion", spec := "mergeUnion", unfollowed := true, recurses := true, plainKeys := false, apart := false }
def MergeUnionSaid : Prop := mergeUnionRow.holds Try.pinned (OpenSpec.ofChange mergeUnionSpec)

/-- ITS FALSE NEIGHBOUR: 'it returns false'. Refute it at one input. -/
def mergeUnionWrong : ChangeSpec := { name := "mergeUnion", fn := fun _ => fun
  | [d1, d2] => { results := [.lit (.bool false)], args := [d1, d2] }
  | _ => none }
def MergeUnionWrongFalsely : Prop := mergeUnionRow.holds Try.pinned (OpenSpec.ofChange mergeUnionWrong)

/-- 'schismalaw36.MergeOrder': WHATEVER THE INPUT: true; the input reads as it did. -/
def mergeOrderSpec : ChangeSpec := { name := "mergeOrder", fn := fun _ => fun
  | [d1, d2, d3] => { results := [.lit (.bool true)], args := [d1, d2, d3] }
  | _ => none }
def mergeOrderRow : OpenClaim := { program := "ythikkiacgmgdhaa", sum := "ee51ac0584fa81c87ba0823a755b7524a543551d1cbdd9699d6431a1b1de8f51", func := "schisma/schismalaw36.MergeOrder", spec := "mergeOrder", unfollowed := true, recurses := true, plainKeys := false, apart := false }
def MergeOrderSaid : Prop := mergeOrderRow.holds Try.pinned (OpenSpec.ofChange mergeOrderSpec)

/-- ITS FALSE NEIGHBOUR: 'it returns false'. Refute it at one input. -/
def mergeOrderWrong : ChangeSpec := { name := "mergeOrder", fn := fun _ => fun
  | [d1, d2, d3] => { results := [.lit (.bool false)], args := [d1, d2, d3] }
  | _ => none }
def MergeOrderWrongFalsely : Prop := mergeOrderRow.holds Try.pinned (OpenSpec.ofChange mergeOrderWrong)

/-- 'schismalaw36.MergeClashes': WHATEVER THE INPUT: true; the input reads as it did. -/
def mergeClashesSpec : ChangeSpec := { name := "mergeClashes", fn := fun _ => fun
  | [d1, d2] => { results := [.lit (.bool true)], args := [d1, d2] }
  | _ => none }
def mergeClashesRow : OpenClaim := { program := "ythikkiacgmgdhaa", sum := "ee51ac0584fa81c87ba0823a755b7524a543551d1cbdd9699d6431a1b1de8f51", func := "schisma/schismalaw36.MergeClashes", spec := "mergeClashes", unfollowed := true, recurses := true, plainKeys := false, apart := false }
def MergeClashesSaid : Prop := mergeClashesRow.holds Try.pinned (OpenSpec.ofChange mergeClashesSpec)

/-- ITS FALSE NEIGHBOUR: 'it returns false'. Refute it at one input. -/
def mergeClashesWrong : ChangeSpec := { name := "mergeClashes", fn := fun _ => fun
  | [d1, d2] => { results := [.lit (.bool false)], args := [d1, d2] }
  | _ => none }
def MergeClashesWrongFalsely : Prop := mergeClashesRow.holds Try.pinned (OpenSpec.ofChange mergeClashesWrong)

/-- 'schismalaw36.MergeCommon': WHATEVER THE INPUT: true; the input reads as it did. -/
def mergeCommonSpec : ChangeSpec := { name := "mergeCommon", fn := fun _ => fun
  | [d1, d2, d3, d4] => { results := [.lit (.bool true)], args := [d1, d2, d3, d4] }
  | _ => none }
def mergeCommonRow : OpenClaim := { program := "ythikkiacgmgdhaa", sum := "ee51ac0584fa81c87ba0823a755b7524a543551d1cbdd9699d6431a1b1de8f51", func := "schisma/schismalaw36.MergeCommon", spec := "mergeCommon", unfollowed := true, recurses := true, plainKeys := false, apart := false }
def MergeCommonSaid : Prop := mergeCommonRow.holds Try.pinned (OpenSpec.ofChange mergeCommonSpec)

/-- ITS FALSE NEIGHBOUR: 'it returns false'. Refute it at one input. -/
def mergeCommonWrong : ChangeSpec := { name := "mergeCommon", fn := fun _ => fun
  | [d1, d2, d3, d4] => { results := [.lit (.bool false)], args := [d1, d2, d3, d4] }
  | _ => none }
def MergeCommonWrongFalsely : Prop := mergeCommonRow.holds Try.pinned (OpenSpec.ofChange mergeCommonWrong)

/-- 'schismalaw36.MergeLiars': WHATEVER THE INPUT: true; the input reads as it did. -/
def mergeLiarsSpec : ChangeSpec := { name := "mergeLiars", fn := fun _ => fun
  | [d1, d2] => { results := [.lit (.bool true)], args := [d1, d2] }
  | _ => none }
def mergeLiarsRow : OpenClaim := { program := "ythikkiacgmgdhaa", sum := "ee51ac0584fa81c87ba0823a755b7524a543551d1cbdd9699d6431a1b1de8f51", func := "schisma/schismalaw36.MergeLiars", spec := "mergeLiars", unfollowed := true, recurses := true, plainKeys := false, apart := false }
def MergeLiarsSaid : Prop := mergeLiarsRow.holds Try.pinned (OpenSpec.ofChange mergeLiarsSpec)

/-- ITS FALSE NEIGHBOUR: 'it returns false'. Refute it at one input. -/
def mergeLiarsWrong : ChangeSpec := { name := "mergeLiars", fn := fun _ => fun
  | [d1, d2] => { results := [.lit (.bool false)], args := [d1, d2] }
  | _ => none }
def MergeLiarsWrongFalsely : Prop := mergeLiarsRow.holds Try.pinned (OpenSpec.ofChange mergeLiarsWrong)

/-- 'schismalaw36.MergePrefix': WHATEVER THE INPUT: true; the input reads as it did. -/
def mergePrefixSpec : ChangeSpec := { name := "mergePrefix", fn := fun _ => fun
  | [d1, d2, d3] => { results := [.lit (.bool true)], args := [d1, d2, d3] }
  | _ => none }
def mergePrefixRow : OpenClaim := { program := "ythikkiacgmgdhaa", sum := "ee51ac0584fa81c87ba0823a755b7524a543551d1cbdd9699d6431a1b1de8f51", func := "schisma/schismalaw36.MergePrefix", spec := "mergePrefix", unfollowed := true, recurses := true, plainKeys := false, apart := false }
def MergePrefixSaid : Prop := mergePrefixRow.holds Try.pinned (OpenSpec.ofChange mergePrefixSpec)

/-- ITS FALSE NEIGHBOUR: 'it returns false'. Refute it at one input. -/
def mergePrefixWrong : ChangeSpec := { name := "mergePrefix", fn := fun _ => fun
  | [d1, d2, d3] => { results := [.lit (.bool false)], args := [d1, d2, d3] }
  | _ => none }
def MergePrefixWrongFalsely : Prop := mergePrefixRow.holds Try.pinned (OpenSpec.ofChange mergePrefixWrong)

/-- 'schismalaw36.MergeHonest': WHATEVER THE INPUT: true; the input reads as it did. -/
def mergeHonestSpec : ChangeSpec := { name := "mergeHonest", fn := fun _ => fun
  | [d1, d2, d3] => { results := [.lit (.bool true)], args := [d1, d2, d3] }
  | _ => none }
def mergeHonestRow : OpenClaim := { program := "ythikkiacgmgdhaa", sum := "ee51ac0584fa81c87ba0823a755b7524a543551d1cbdd9699d6431a1b1de8f51", func := "schisma/schismalaw36.MergeHonest", spec := "mergeHonest", unfollowed := true, recurses := true, plainKeys := false, apart := false }
def MergeHonestSaid : Prop := mergeHonestRow.holds Try.pinned (OpenSpec.ofChange mergeHonestSpec)

/-- ITS FALSE NEIGHBOUR: 'it returns false'. Refute it at one input. -/
def mergeHonestWrong : ChangeSpec := { name := "mergeHonest", fn := fun _ => fun
  | [d1, d2, d3] => { results := [.lit (.bool false)], args := [d1, d2, d3] }
  | _ => none }
def MergeHonestWrongFalsely : Prop := mergeHonestRow.holds Try.pinned (OpenSpec.ofChange mergeHonestWrong)

/- THE SECOND FORM. 'bulk': how many values and letters a reading holds, each counted each time it is reached (what is shared counts as often as it is met; a slice's spare places count too). A statement '..UptoSaid' is the law's where the arguments, and the package variables that the reading takes, are together of bulk at most 1048576: NARROWER than '..Said'. Prove '..Said' where nothing that the law and all that it calls make is longer than what came in: it says more and counts as full. Else prove '..UptoSaid'. A law counts once. -/
mutual
def uptoBulk {H : Type} : DataW H → Nat
  | .lit (.string bytes) => bytes.length + 1
  | .lit _ => 1
  | .nil => 1
  | .ptr d => uptoBulk d + 1
  | .slice elems spare => uptoBulkAll elems + uptoBulkAll spare + 1
  | .agg parts => uptoBulkAll parts + 1
  | .iface _ d => uptoBulk d + 1
  | .map entries => uptoBulkEntries entries + 1
  | .held _ => 1
def uptoBulkAll {H : Type} : List (DataW H) → Nat
  | [] => 0
  | d :: r => uptoBulk d + uptoBulkAll r
def uptoBulkEntries {H : Type} : List (Lit × DataW H) → Nat
  | [] => 0
  | x :: r => uptoBulkEntry x + uptoBulkEntries r
def uptoBulkEntry {H : Type} : Lit × DataW H → Nat
  | (.string bytes, d) => bytes.length + uptoBulk d + 1
  | (_, d) => uptoBulk d + 1
 end
def uptoSmall : (H : Type) → List (DataW H) → Bool := fun _ ds => decide (uptoBulkAll ds ≤ 1048576)
def OpenSpec.upto (s : _root_.Go.ChangeSpec) : _root_.Go.OpenSpec := { _root_.Go.OpenSpec.ofChange s with cond := some uptoSmall }

/-- 'schismalaw36.MergeMatchesReference', WHERE WHAT IT READS IS OF BULK AT MOST 1048576: true; the input reads as it did. -/
def mergeMatchesReferenceUptoRow : OpenClaim := { program := "ythikkiacgmgdhaa", sum := "ee51ac0584fa81c87ba0823a755b7524a543551d1cbdd9699d6431a1b1de8f51", func := "schisma/schismalaw36.MergeMatchesReference", spec := "mergeMatchesReference", unfollowed := true, recurses := true, plainKeys := false, apart := false, narrowed := true }
def MergeMatchesReferenceUptoSaid : Prop := mergeMatchesReferenceUptoRow.holds Try.pinned (OpenSpec.upto mergeMatchesReferenceSpec)

/-- 'schismalaw36.MergeUnion', WHERE WHAT IT READS IS OF BULK AT MOST 1048576: true; the input reads as it did. -/
def mergeUnionUptoRow : OpenClaim := { program := "ythikkiacgmgdhaa", sum := "ee51ac0584fa81c87ba0823a755b7524a543551d1cbdd9699d6431a1b1de8f51", func := "schisma/schismalaw36.MergeUnion", spec := "mergeUnion", unfollowed := true, recurses := true, plainKeys := false, apart := false, narrowed := true }
def MergeUnionUptoSaid : Prop := mergeUnionUptoRow.holds Try.pinned (OpenSpec.upto mergeUnionSpec)

/-- 'schismalaw36.MergeOrder', WHERE WHAT IT READS IS OF BULK AT MOST 1048576: true; the input reads as it did. -/
def mergeOrderUptoRow : OpenClaim := { program := "ythikkiacgmgdhaa", sum := "ee51ac0584fa81c87ba0823a755b7524a543551d1cbdd9699d6431a1b1de8f51", func := "schisma/schismalaw36.MergeOrder", spec := "mergeOrder", unfollowed := true, recurses := true, plainKeys := false, apart := false, narrowed := true }
def MergeOrderUptoSaid : Prop := mergeOrderUptoRow.holds Try.pinned (OpenSpec.upto mergeOrderSpec)

/-- 'schismalaw36.MergeClashes', WHERE WHAT IT READS IS OF BULK AT MOST 1048576: true; the input reads as it did. -/
def mergeClashesUptoRow : OpenClaim := { program := "ythikkiacgmgdhaa", sum := "ee51ac0584fa81c87ba0823a755b7524a543551d1cbdd9699d6431a1b1de8f51", func := "schisma/schismalaw36.MergeClashes", spec := "mergeClashes", unfollowed := true, recurses := true, plainKeys := false, apart := false, narrowed := true }
def MergeClashesUptoSaid : Prop := mergeClashesUptoRow.holds Try.pinned (OpenSpec.upto mergeClashesSpec)

/-- 'schismalaw36.MergeCommon', WHERE WHAT IT READS IS OF BULK AT MOST 1048576: true; the input reads as it did. -/
def mergeCommonUptoRow : OpenClaim := { program := "ythikkiacgmgdhaa", sum := "ee51ac0584fa81c87ba0823a755b7524a543551d1cbdd9699d6431a1b1de8f51", func := "schisma/schismalaw36.MergeCommon", spec := "mergeCommon", unfollowed := true, recurses := true, plainKeys := false, apart := false, narrowed := true }
def MergeCommonUptoSaid : Prop := mergeCommonUptoRow.holds Try.pinned (OpenSpec.upto mergeCommonSpec)

/-- 'schismalaw36.MergeLiars', WHERE WHAT IT READS IS OF BULK AT MOST 1048576: true; the input reads as it did. -/
def mergeLiarsUptoRow : OpenClaim := { program := "ythikkiacgmgdhaa", sum := "ee51ac0584fa81c87ba0823a755b7524a543551d1cbdd9699d6431a1b1de8f51", func := "schisma/schismalaw36.MergeLiars", spec := "mergeLiars", unfollowed := true, recurses := true, plainKeys := false, apart := false, narrowed := true }
def MergeLiarsUptoSaid : Prop := mergeLiarsUptoRow.holds Try.pinned (OpenSpec.upto mergeLiarsSpec)

/-- 'schismalaw36.MergePrefix', WHERE WHAT IT READS IS OF BULK AT MOST 1048576: true; the input reads as it did. -/
def mergePrefixUptoRow : OpenClaim := { program := "ythikkiacgmgdhaa", sum := "ee51ac0584fa81c87ba0823a755b7524a543551d1cbdd9699d6431a1b1de8f51", func := "schisma/schismalaw36.MergePrefix", spec := "mergePrefix", unfollowed := true, recurses := true, plainKeys := false, apart := false, narrowed := true }
def MergePrefixUptoSaid : Prop := mergePrefixUptoRow.holds Try.pinned (OpenSpec.upto mergePrefixSpec)

/-- 'schismalaw36.MergeHonest', WHERE WHAT IT READS IS OF BULK AT MOST 1048576: true; the input reads as it did. -/
def mergeHonestUptoRow : OpenClaim := { program := "ythikkiacgmgdhaa", sum := "ee51ac0584fa81c87ba0823a755b7524a543551d1cbdd9699d6431a1b1de8f51", func := "schisma/schismalaw36.MergeHonest", spec := "mergeHonest", unfollowed := true, recurses := true, plainKeys := false, apart := false, narrowed := true }
def MergeHonestUptoSaid : Prop := mergeHonestUptoRow.holds Try.pinned (OpenSpec.upto mergeHonestSpec)

end Rows
end Go.Proofs.Ythikkiacgmgdhaa

/-
  No cell of these rows narrows 'for every input' (looked for: loops, veiled, ifaces, maps, wideKeys, modest, calm, conditions, laid).
  DERIVED. THE GIVEN ROWS OF THIS SEAT. 8 by the template 'for every input the law returns true; each argument reads behind the call as it read before'; 0 by the template 'total and deterministic' (their statements: YtmglcamgpgkblaaTotals.lean).
  GIVEN WITH THE SEED: the statements are not yours to turn. If you find one false, say at which input.
  Laid BY PROGRAM, IN A SANDBOX (cutbox-rows.mjs): the forced cells as the released guide's own fill.sh prints them over the translation d46a7db347b72519… (all of the seat's roots in one cut). By AI agents, Wed Nov 11 2026. No macro, syntax, notation, axiom, sorry.
-/
import Derived.Test.YtmglcamgpgkblaaChecked
import GoSem.Claim
import GoSem.ClaimJoined
import GoSem.ClaimMapViews
import Derived.JoinedTies
import Derived.KernelRfl
namespace Go.Proofs.Ytmglcamgpgkblaa
/- THE CELL 'sum', in the pinned program and in every row, IS THE sha256 OF THE DUMP (.gsa) THAT YtmglcamgpgkblaaProg.lean LOADS. Nothing in Lean hashes anything: it is a label: what it is worth is what the hold of that sum in a sandbox is worth. -/
noncomputable def Try.pinned : Pinned := { name := "ytmglcamgpgkblaa", sum := "d46a7db347b725198690c3a3b9a0b92880a9a62e464c34a226295b7863bdb335", checked := Try.checked }
namespace Rows
def none {H : Type} : Left H := { results := [], args := [] }

/-- 'schismalaw21.ChainMatchesReference': WHATEVER THE INPUT: true; the input reads as it did. -/
def chainMatchesReferenceSpec : ChangeSpec := { name := "chainMatchesReference", fn := fun _ => fun
  | [d1, d2, d3] => { results := [.lit (.bool true)], args := [d1, d2, d3] }
  | _ => none }
def chainMatchesReferenceRow : OpenClaim := { program := "ytmglcamgpgkblaa", sum := "d46a7db347b725198690c3a3b9a0b92880a9a62e464c34a226295b7863bdb335", func := "schisma/schismalaw21.ChainMatchesReference", spec := "chainMatchesReference", unfollowed := true, recurses := true, apart := false }
def ChainMatchesReferenceSaid : Prop := chainMatchesReferenceRow.holds Try.pinned (OpenSpec.ofChange chainMatchesReferenceSpec)

/-- ITS FALSE NEIGHBOUR: 'it returns false'. Refute it at one input. -/
def chainMatchesReferenceWrong : ChangeSpec := { name := "chainMatchesReference", fn := fun _ => fun
  | [d1, d2, d3] => { results := [.lit (.bool false)], args := [d1, d2, d3] }
  | _ => none }
def ChainMatchesReferenceWrongFalsely : Prop := chainMatchesReferenceRow.holds Try.pinned (OpenSpec.ofChange chainMatchesReferenceWrong)

/-- 'schismalaw21.ChainProducts': WHATEVER THE INPUT: true; the input reads as it did. -/
def chainProductsSpec : ChangeSpec := { name := "chainProducts", fn := fun _ => fun
  | [d1, d2, d3] => { results := [.lit (.bool true)], args := [d1, d2, d3] }
  | _ => none }
def chainProductsRow : OpenClaim := { program := "ytmglcamgpgkblaa", sum := "d46a7db347b725198690c3a3b9a0b92880a9a62e464c34a226295b7863bdb335", func := "schisma/schismalaw21.ChainProducts", spec := "chainProducts", unfollowed := true, recurses := true, apart := false }
def ChainProductsSaid : Prop := chainProductsRow.holds Try.pinned (OpenSpec.ofChange chainProductsSpec)

/-- ITS FALSE NEIGHBOUR: 'it returns false'. Refute it at one input. -/
def chainProductsWrong : ChangeSpec := { name := "chainProducts", fn := fun _ => fun
  | [d1, d2, d3] => { results := [.lit (.bool false)], args := [d1, d2, d3] }
  | _ => none }
def ChainProductsWrongFalsely : Prop := chainProductsRow.holds Try.pinned (OpenSpec.ofChange chainProductsWrong)

/-- 'schismalaw21.ChainShortest': WHATEVER THE INPUT: true; the input reads as it did. -/
def chainShortestSpec : ChangeSpec := { name := "chainShortest", fn := fun _ => fun
  | [d1, d2] => { results := [.lit (.bool true)], args := [d1, d2] }
  | _ => none }
def chainShortestRow : OpenClaim := { program := "ytmglcamgpgkblaa", sum := "d46a7db347b725198690c3a3b9a0b92880a9a62e464c34a226295b7863bdb335", func := "schisma/schismalaw21.ChainShortest", spec := "chainShortest", unfollowed := true, recurses := true, apart := false }
def ChainShortestSaid : Prop := chainShortestRow.holds Try.pinned (OpenSpec.ofChange chainShortestSpec)

/-- ITS FALSE NEIGHBOUR: 'it returns false'. Refute it at one input. -/
def chainShortestWrong : ChangeSpec := { name := "chainShortest", fn := fun _ => fun
  | [d1, d2] => { results := [.lit (.bool false)], args := [d1, d2] }
  | _ => none }
def ChainShortestWrongFalsely : Prop := chainShortestRow.holds Try.pinned (OpenSpec.ofChange chainShortestWrong)

/-- 'schismalaw21.ChainNone': WHATEVER THE INPUT: true; the input reads as it did. -/
def chainNoneSpec : ChangeSpec := { name := "chainNone", fn := fun _ => fun
  | [d1, d2, d3] => { results := [.lit (.bool true)], args := [d1, d2, d3] }
  | _ => none }
def chainNoneRow : OpenClaim := { program := "ytmglcamgpgkblaa", sum := "d46a7db347b725198690c3a3b9a0b92880a9a62e464c34a226295b7863bdb335", func := "schisma/schismalaw21.ChainNone", spec := "chainNone", unfollowed := true, recurses := true, apart := false }
def ChainNoneSaid : Prop := chainNoneRow.holds Try.pinned (OpenSpec.ofChange chainNoneSpec)

/-- ITS FALSE NEIGHBOUR: 'it returns false'. Refute it at one input. -/
def chainNoneWrong : ChangeSpec := { name := "chainNone", fn := fun _ => fun
  | [d1, d2, d3] => { results := [.lit (.bool false)], args := [d1, d2, d3] }
  | _ => none }
def ChainNoneWrongFalsely : Prop := chainNoneRow.holds Try.pinned (OpenSpec.ofChange chainNoneWrong)

/-- 'schismalaw21.ChainConsistent': WHATEVER THE INPUT: true; the input reads as it did. -/
def chainConsistentSpec : ChangeSpec := { name := "chainConsistent", fn := fun _ => fun
  | [d] => { results := [.lit (.bool true)], args := [d] }
  | _ => none }
def chainConsistentRow : OpenClaim := { program := "ytmglcamgpgkblaa", sum := "d46a7db347b725198690c3a3b9a0b92880a9a62e464c34a226295b7863bdb335", func := "schisma/schismalaw21.ChainConsistent", spec := "chainConsistent", unfollowed := true, recurses := true, apart := false }
def ChainConsistentSaid : Prop := chainConsistentRow.holds Try.pinned (OpenSpec.ofChange chainConsistentSpec)

/-- ITS FALSE NEIGHBOUR: 'it returns false'. Refute it at one input. -/
def chainConsistentWrong : ChangeSpec := { name := "chainConsistent", fn := fun _ => fun
  | [d] => { results := [.lit (.bool false)], args := [d] }
  | _ => none }
def ChainConsistentWrongFalsely : Prop := chainConsistentRow.holds Try.pinned (OpenSpec.ofChange chainConsistentWrong)

/-- 'schismalaw21.ChainThrough': WHATEVER THE INPUT: true; the input reads as it did. -/
def chainThroughSpec : ChangeSpec := { name := "chainThrough", fn := fun _ => fun
  | [d1, d2, d3] => { results := [.lit (.bool true)], args := [d1, d2, d3] }
  | _ => none }
def chainThroughRow : OpenClaim := { program := "ytmglcamgpgkblaa", sum := "d46a7db347b725198690c3a3b9a0b92880a9a62e464c34a226295b7863bdb335", func := "schisma/schismalaw21.ChainThrough", spec := "chainThrough", unfollowed := true, recurses := true, apart := false }
def ChainThroughSaid : Prop := chainThroughRow.holds Try.pinned (OpenSpec.ofChange chainThroughSpec)

/-- ITS FALSE NEIGHBOUR: 'it returns false'. Refute it at one input. -/
def chainThroughWrong : ChangeSpec := { name := "chainThrough", fn := fun _ => fun
  | [d1, d2, d3] => { results := [.lit (.bool false)], args := [d1, d2, d3] }
  | _ => none }
def ChainThroughWrongFalsely : Prop := chainThroughRow.holds Try.pinned (OpenSpec.ofChange chainThroughWrong)

/-- 'schismalaw21.ChainFree': WHATEVER THE INPUT: true; the input reads as it did. -/
def chainFreeSpec : ChangeSpec := { name := "chainFree", fn := fun _ => fun
  | [d1, d2, d3] => { results := [.lit (.bool true)], args := [d1, d2, d3] }
  | _ => none }
def chainFreeRow : OpenClaim := { program := "ytmglcamgpgkblaa", sum := "d46a7db347b725198690c3a3b9a0b92880a9a62e464c34a226295b7863bdb335", func := "schisma/schismalaw21.ChainFree", spec := "chainFree", unfollowed := true, recurses := true, apart := false }
def ChainFreeSaid : Prop := chainFreeRow.holds Try.pinned (OpenSpec.ofChange chainFreeSpec)

/-- ITS FALSE NEIGHBOUR: 'it returns false'. Refute it at one input. -/
def chainFreeWrong : ChangeSpec := { name := "chainFree", fn := fun _ => fun
  | [d1, d2, d3] => { results := [.lit (.bool false)], args := [d1, d2, d3] }
  | _ => none }
def ChainFreeWrongFalsely : Prop := chainFreeRow.holds Try.pinned (OpenSpec.ofChange chainFreeWrong)

/-- 'schismalaw21.ChainMoved': WHATEVER THE INPUT: true; the input reads as it did. -/
def chainMovedSpec : ChangeSpec := { name := "chainMoved", fn := fun _ => fun
  | [d1, d2, d3] => { results := [.lit (.bool true)], args := [d1, d2, d3] }
  | _ => none }
def chainMovedRow : OpenClaim := { program := "ytmglcamgpgkblaa", sum := "d46a7db347b725198690c3a3b9a0b92880a9a62e464c34a226295b7863bdb335", func := "schisma/schismalaw21.ChainMoved", spec := "chainMoved", unfollowed := true, recurses := true, apart := false }
def ChainMovedSaid : Prop := chainMovedRow.holds Try.pinned (OpenSpec.ofChange chainMovedSpec)

/-- ITS FALSE NEIGHBOUR: 'it returns false'. Refute it at one input. -/
def chainMovedWrong : ChangeSpec := { name := "chainMoved", fn := fun _ => fun
  | [d1, d2, d3] => { results := [.lit (.bool false)], args := [d1, d2, d3] }
  | _ => none }
def ChainMovedWrongFalsely : Prop := chainMovedRow.holds Try.pinned (OpenSpec.ofChange chainMovedWrong)

/- THE SECOND FORM. 'bulk': how many values and letters a reading holds, each counted each time it is reached (what is shared counts as often as it is met; a slice's spare places count too). A statement '..UptoSaid' is the law's where the arguments, and the package variables that the reading takes, are together of bulk at most 1048576: NARROWER than '..Said'. Prove '..Said' where nothing that the law and all that it calls make is longer than what came in: it says more and counts as full. Else prove '..UptoSaid'. A law counts once. -/
mutual
def uptoBulk {H : Type} : DataW H → Nat
  | .lit (.string bytes) => bytes.length + 1
  | .lit _ => 1
  | .nil => 1
  | .ptr d => uptoBulk d + 1
  | .slice elems spare => uptoBulkAll elems + uptoBulkAll spare + 1
  | .agg parts => uptoBulkAll parts + 1
  | .iface _ d => uptoBulk d + 1
  | .map entries => uptoBulkEntries entries + 1
  | .held _ => 1
def uptoBulkAll {H : Type} : List (DataW H) → Nat
  | [] => 0
  | d :: r => uptoBulk d + uptoBulkAll r
def uptoBulkEntries {H : Type} : List (Lit × DataW H) → Nat
  | [] => 0
  | x :: r => uptoBulkEntry x + uptoBulkEntries r
def uptoBulkEntry {H : Type} : Lit × DataW H → Nat
  | (.string bytes, d) => bytes.length + uptoBulk d + 1
  | (_, d) => uptoBulk d + 1
 end
def uptoSmall : (H : Type) → List (DataW H) → Bool := fun _ ds => decide (uptoBulkAll ds ≤ 1048576)
def OpenSpec.upto (s : _root_.Go.ChangeSpec) : _root_.Go.OpenSpec := { _root_.Go.OpenSpec.ofChange s with cond := some uptoSmall }

/-- 'schismalaw21.ChainMatchesReference', WHERE WHAT IT READS IS OF BULK AT MOST 1048576: true; the input reads as it did. -/
def chainMatchesReferenceUptoRow : OpenClaim := { program := "ytmglcamgpgkblaa", sum := "d46a7db347b725198690c3a3b9a0b92880a9a62e464c34a226295b7863bdb335", func := "schisma/schismalaw21.ChainMatchesReference", spec := "chainMatchesReference", unfollowed := true, recurses := true, apart := false, narrowed := true }
def ChainMatchesReferenceUptoSaid : Prop := chainMatchesReferenceUptoRow.holds Try.pinned (OpenSpec.upto chainMatchesReferenceSpec)

/-- 'schismalaw21.ChainProducts', WHERE WHAT IT READS IS OF BULK AT MOST 1048576: true; the input reads as it did. -/
def chainProductsUptoRow : OpenClaim := { program := "ytmglcamgpgkblaa", sum := "d46a7db347b725198690c3a3b9a0b92880a9a62e464c34a226295b7863bdb335", func := "schisma/schismalaw21.ChainProducts", spec := "chainProducts", unfollowed := true, recurses := true, apart := false, narrowed := true }
def ChainProductsUptoSaid : Prop := chainProductsUptoRow.holds Try.pinned (OpenSpec.upto chainProductsSpec)

/-- 'schismalaw21.ChainShortest', WHERE WHAT IT READS IS OF BULK AT MOST 1048576: true; the input reads as it did. -/
def chainShortestUptoRow : OpenClaim := { program := "ytmglcamgpgkblaa", sum := "d46a7db347b725198690c3a3b9a0b92880a9a62e464c34a226295b7863bdb335", func := "schisma/schismalaw21.ChainShortest", spec := "chainShortest", unfollowed := true, recurses := true, apart := false, narrowed := true }
def ChainShortestUptoSaid : Prop := chainShortestUptoRow.holds Try.pinned (OpenSpec.upto chainShortestSpec)

/-- 'schismalaw21.ChainNone', WHERE WHAT IT READS IS OF BULK AT MOST 1048576: true; the input reads as it did. -/
def chainNoneUptoRow : OpenClaim := { program := "ytmglcamgpgkblaa", sum := "d46a7db347b725198690c3a3b9a0b92880a9a62e464c34a226295b7863bdb335", func := "schisma/schismalaw21.ChainNone", spec := "chainNone", unfollowed := true, recurses := true, apart := false, narrowed := true }
def ChainNoneUptoSaid : Prop := chainNoneUptoRow.holds Try.pinned (OpenSpec.upto chainNoneSpec)

/-- 'schismalaw21.ChainConsistent', WHERE WHAT IT READS IS OF BULK AT MOST 1048576: true; the input reads as it did. -/
def chainConsistentUptoRow : OpenClaim := { program := "ytmglcamgpgkblaa", sum := "d46a7db347b725198690c3a3b9a0b92880a9a62e464c34a226295b7863bdb335", func := "schisma/schismalaw21.ChainConsistent", spec := "chainConsistent", unfollowed := true, recurses := true, apart := false, narrowed := true }
def ChainConsistentUptoSaid : Prop := chainConsistentUptoRow.holds Try.pinned (OpenSpec.upto chainConsistentSpec)

/-- 'schismalaw21.ChainThrough', WHERE WHAT IT READS IS OF BULK AT MOST 1048576: true; the input reads as it did. -/
def chainThroughUptoRow : OpenClaim := { program := "ytmglcamgpgkblaa", sum := "d46a7db347b725198690c3a3b9a0b92880a9a62e464c34a226295b7863bdb335", func := "schisma/schismalaw21.ChainThrough", spec := "chainThrough", unfollowed := true, recurses := true, apart := false, narrowed := true }
def ChainThroughUptoSaid : Prop := chainThroughUptoRow.holds Try.pinned (OpenSpec.upto chainThroughSpec)

/-- 'schismalaw21.ChainFree', WHERE WHAT IT READS IS OF BULK AT MOST 1048576: true; the input reads as it did. -/
def chainFreeUptoRow : OpenClaim := { program := "ytmglcamgpgkblaa", sum := "d46a7db347b725198690c3a3b9a0b92880a9a62e464c34a226295b7863bdb335", func := "schisma/schismalaw21.ChainFree", spec := "chainFree", unfollowed := true, recurses := true, apart := false, narrowed := true }
def ChainFreeUptoSaid : Prop := chainFreeUptoRow.holds Try.pinned (OpenSpec.upto chainFreeSpec)

/-- 'schismalaw21.ChainMoved', WHERE WHAT IT READS IS OF BULK AT MOST 1048576: true; the input reads as it did. -/
def chainMovedUptoRow : OpenClaim := { program := "ytmglcamgpgkblaa", sum := "d46a7db347b725198690c3a3b9a0b92880a9a62e464c34a226295b7863bdb335", func := "schisma/schismalaw21.ChainMoved", spec := "chainMoved", unfollowed := true, recurses := true, apart := false, narrowed := true }
def ChainMovedUptoSaid : Prop := chainMovedUptoRow.holds Try.pinned (OpenSpec.upto chainMovedSpec)

end Rows
end Go.Proofs.Ytmglcamgpgkblaa

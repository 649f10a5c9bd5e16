/-
  No cell of these rows narrows 'for every input' (looked for: loops, veiled, ifaces, maps, wideKeys, modest, calm, conditions, laid).
  DERIVED. THE GIVEN ROWS OF THIS SEAT. 7 by the template 'for every input the law returns true; each argument reads behind the call as it read before'; 0 by the template 'total and deterministic' (their statements: YtiandkdhonbjpaaTotals.lean).
  GIVEN WITH THE SEED: the statements are not yours to turn. If you find one false, say at which input.
  Laid BY PROGRAM, IN A SANDBOX (cutbox-rows.mjs): the forced cells as the released guide's own fill.sh prints them over the translation d76689276739ceb2… (all of the seat's roots in one cut). By AI agents, Wed Nov 11 2026. No macro, syntax, notation, axiom, sorry.
-/
import Derived.Test.YtiandkdhonbjpaaChecked
import GoSem.Claim
import GoSem.ClaimJoined
import GoSem.ClaimMapViews
import Derived.JoinedTies
import Derived.KernelRfl
namespace Go.Proofs.Ytiandkdhonbjpaa
/- THE CELL 'sum', in the pinned program and in every row, IS THE sha256 OF THE DUMP (.gsa) THAT YtiandkdhonbjpaaProg.lean LOADS. Nothing in Lean hashes anything: it is a label: what it is worth is what the hold of that sum in a sandbox is worth. -/
noncomputable def Try.pinned : Pinned := { name := "ytiandkdhonbjpaa", sum := "d76689276739ceb22ee7380a30f074c2221dd9bd016f306405ea14fb9316147f", checked := Try.checked }
namespace Rows
def none {H : Type} : Left H := { results := [], args := [] }

/-- 'schismalaw31.EpochMatchesReference': WHATEVER THE INPUT: true; the input reads as it did. -/
def epochMatchesReferenceSpec : ChangeSpec := { name := "epochMatchesReference", fn := fun _ => fun
  | [d1, d2, d3, d4] => { results := [.lit (.bool true)], args := [d1, d2, d3, d4] }
  | _ => none }
def epochMatchesReferenceRow : OpenClaim := { program := "ytiandkdhonbjpaa", sum := "d76689276739ceb22ee7380a30f074c2221dd9bd016f306405ea14fb9316147f", func := "schisma/schismalaw31.EpochMatchesReference", spec := "epochMatchesReference", inPlace := ["slices.overlaps[schisma/api.Take]"], unfollowed := true, recurses := true, apart := false }
def EpochMatchesReferenceSaid : Prop := epochMatchesReferenceRow.holds Try.pinned (OpenSpec.ofChange epochMatchesReferenceSpec)

/-- ITS FALSE NEIGHBOUR: 'it returns false'. Refute it at one input. -/
def epochMatchesReferenceWrong : ChangeSpec := { name := "epochMatchesReference", fn := fun _ => fun
  | [d1, d2, d3, d4] => { results := [.lit (.bool false)], args := [d1, d2, d3, d4] }
  | _ => none }
def EpochMatchesReferenceWrongFalsely : Prop := epochMatchesReferenceRow.holds Try.pinned (OpenSpec.ofChange epochMatchesReferenceWrong)

/-- 'schismalaw31.EpochLearning': WHATEVER THE INPUT: true; the input reads as it did. -/
def epochLearningSpec : ChangeSpec := { name := "epochLearning", fn := fun _ => fun
  | [d1, d2] => { results := [.lit (.bool true)], args := [d1, d2] }
  | _ => none }
def epochLearningRow : OpenClaim := { program := "ytiandkdhonbjpaa", sum := "d76689276739ceb22ee7380a30f074c2221dd9bd016f306405ea14fb9316147f", func := "schisma/schismalaw31.EpochLearning", spec := "epochLearning", inPlace := ["slices.overlaps[schisma/api.Take]"], unfollowed := true, recurses := true, apart := false }
def EpochLearningSaid : Prop := epochLearningRow.holds Try.pinned (OpenSpec.ofChange epochLearningSpec)

/-- ITS FALSE NEIGHBOUR: 'it returns false'. Refute it at one input. -/
def epochLearningWrong : ChangeSpec := { name := "epochLearning", fn := fun _ => fun
  | [d1, d2] => { results := [.lit (.bool false)], args := [d1, d2] }
  | _ => none }
def EpochLearningWrongFalsely : Prop := epochLearningRow.holds Try.pinned (OpenSpec.ofChange epochLearningWrong)

/-- 'schismalaw31.EpochOrder': WHATEVER THE INPUT: true; the input reads as it did. -/
def epochOrderSpec : ChangeSpec := { name := "epochOrder", fn := fun _ => fun
  | [d1, d2, d3] => { results := [.lit (.bool true)], args := [d1, d2, d3] }
  | _ => none }
def epochOrderRow : OpenClaim := { program := "ytiandkdhonbjpaa", sum := "d76689276739ceb22ee7380a30f074c2221dd9bd016f306405ea14fb9316147f", func := "schisma/schismalaw31.EpochOrder", spec := "epochOrder", inPlace := ["slices.overlaps[schisma/api.Take]"], unfollowed := true, recurses := true, apart := false }
def EpochOrderSaid : Prop := epochOrderRow.holds Try.pinned (OpenSpec.ofChange epochOrderSpec)

/-- ITS FALSE NEIGHBOUR: 'it returns false'. Refute it at one input. -/
def epochOrderWrong : ChangeSpec := { name := "epochOrder", fn := fun _ => fun
  | [d1, d2, d3] => { results := [.lit (.bool false)], args := [d1, d2, d3] }
  | _ => none }
def EpochOrderWrongFalsely : Prop := epochOrderRow.holds Try.pinned (OpenSpec.ofChange epochOrderWrong)

/-- 'schismalaw31.EpochKnown': WHATEVER THE INPUT: true; the input reads as it did. -/
def epochKnownSpec : ChangeSpec := { name := "epochKnown", fn := fun _ => fun
  | [d1, d2] => { results := [.lit (.bool true)], args := [d1, d2] }
  | _ => none }
def epochKnownRow : OpenClaim := { program := "ytiandkdhonbjpaa", sum := "d76689276739ceb22ee7380a30f074c2221dd9bd016f306405ea14fb9316147f", func := "schisma/schismalaw31.EpochKnown", spec := "epochKnown", inPlace := ["slices.overlaps[schisma/api.Take]"], unfollowed := true, recurses := true, apart := false }
def EpochKnownSaid : Prop := epochKnownRow.holds Try.pinned (OpenSpec.ofChange epochKnownSpec)

/-- ITS FALSE NEIGHBOUR: 'it returns false'. Refute it at one input. -/
def epochKnownWrong : ChangeSpec := { name := "epochKnown", fn := fun _ => fun
  | [d1, d2] => { results := [.lit (.bool false)], args := [d1, d2] }
  | _ => none }
def EpochKnownWrongFalsely : Prop := epochKnownRow.holds Try.pinned (OpenSpec.ofChange epochKnownWrong)

/-- 'schismalaw31.EpochMerging': WHATEVER THE INPUT: true; the input reads as it did. -/
def epochMergingSpec : ChangeSpec := { name := "epochMerging", fn := fun _ => fun
  | [d1, d2, d3] => { results := [.lit (.bool true)], args := [d1, d2, d3] }
  | _ => none }
def epochMergingRow : OpenClaim := { program := "ytiandkdhonbjpaa", sum := "d76689276739ceb22ee7380a30f074c2221dd9bd016f306405ea14fb9316147f", func := "schisma/schismalaw31.EpochMerging", spec := "epochMerging", inPlace := ["slices.overlaps[schisma/api.Take]"], unfollowed := true, recurses := true, apart := false }
def EpochMergingSaid : Prop := epochMergingRow.holds Try.pinned (OpenSpec.ofChange epochMergingSpec)

/-- ITS FALSE NEIGHBOUR: 'it returns false'. Refute it at one input. -/
def epochMergingWrong : ChangeSpec := { name := "epochMerging", fn := fun _ => fun
  | [d1, d2, d3] => { results := [.lit (.bool false)], args := [d1, d2, d3] }
  | _ => none }
def EpochMergingWrongFalsely : Prop := epochMergingRow.holds Try.pinned (OpenSpec.ofChange epochMergingWrong)

/-- 'schismalaw31.EpochOneByOne': WHATEVER THE INPUT: true; the input reads as it did. -/
def epochOneByOneSpec : ChangeSpec := { name := "epochOneByOne", fn := fun _ => fun
  | [d1, d2] => { results := [.lit (.bool true)], args := [d1, d2] }
  | _ => none }
def epochOneByOneRow : OpenClaim := { program := "ytiandkdhonbjpaa", sum := "d76689276739ceb22ee7380a30f074c2221dd9bd016f306405ea14fb9316147f", func := "schisma/schismalaw31.EpochOneByOne", spec := "epochOneByOne", inPlace := ["slices.overlaps[schisma/api.Take]"], unfollowed := true, recurses := true, apart := false }
def EpochOneByOneSaid : Prop := epochOneByOneRow.holds Try.pinned (OpenSpec.ofChange epochOneByOneSpec)

/-- ITS FALSE NEIGHBOUR: 'it returns false'. Refute it at one input. -/
def epochOneByOneWrong : ChangeSpec := { name := "epochOneByOne", fn := fun _ => fun
  | [d1, d2] => { results := [.lit (.bool false)], args := [d1, d2] }
  | _ => none }
def EpochOneByOneWrongFalsely : Prop := epochOneByOneRow.holds Try.pinned (OpenSpec.ofChange epochOneByOneWrong)

/-- 'schismalaw31.EpochMissing': WHATEVER THE INPUT: true; the input reads as it did. -/
def epochMissingSpec : ChangeSpec := { name := "epochMissing", fn := fun _ => fun
  | [d1, d2] => { results := [.lit (.bool true)], args := [d1, d2] }
  | _ => none }
def epochMissingRow : OpenClaim := { program := "ytiandkdhonbjpaa", sum := "d76689276739ceb22ee7380a30f074c2221dd9bd016f306405ea14fb9316147f", func := "schisma/schismalaw31.EpochMissing", spec := "epochMissing", inPlace := ["slices.overlaps[schisma/api.Take]"], unfollowed := true, recurses := true, apart := false }
def EpochMissingSaid : Prop := epochMissingRow.holds Try.pinned (OpenSpec.ofChange epochMissingSpec)

/-- ITS FALSE NEIGHBOUR: 'it returns false'. Refute it at one input. -/
def epochMissingWrong : ChangeSpec := { name := "epochMissing", fn := fun _ => fun
  | [d1, d2] => { results := [.lit (.bool false)], args := [d1, d2] }
  | _ => none }
def EpochMissingWrongFalsely : Prop := epochMissingRow.holds Try.pinned (OpenSpec.ofChange epochMissingWrong)

/- THE SECOND FORM. 'bulk': how many values and letters a reading holds, each counted each time it is reached (what is shared counts as often as it is met; a slice's spare places count too). A statement '..UptoSaid' is the law's where the arguments, and the package variables that the reading takes, are together of bulk at most 1048576: NARROWER than '..Said'. Prove '..Said' where nothing that the law and all that it calls make is longer than what came in: it says more and counts as full. Else prove '..UptoSaid'. A law counts once. -/
mutual
def uptoBulk {H : Type} : DataW H → Nat
  | .lit (.string bytes) => bytes.length + 1
  | .lit _ => 1
  | .nil => 1
  | .ptr d => uptoBulk d + 1
  | .slice elems spare => uptoBulkAll elems + uptoBulkAll spare + 1
  | .agg parts => uptoBulkAll parts + 1
  | .iface _ d => uptoBulk d + 1
  | .map entries => uptoBulkEntries entries + 1
  | .held _ => 1
def uptoBulkAll {H : Type} : List (DataW H) → Nat
  | [] => 0
  | d :: r => uptoBulk d + uptoBulkAll r
def uptoBulkEntries {H : Type} : List (Lit × DataW H) → Nat
  | [] => 0
  | x :: r => uptoBulkEntry x + uptoBulkEntries r
def uptoBulkEntry {H : Type} : Lit × DataW H → Nat
  | (.string bytes, d) => bytes.length + uptoBulk d + 1
  | (_, d) => uptoBulk d + 1
 end
def uptoSmall : (H : Type) → List (DataW H) → Bool := fun _ ds => decide (uptoBulkAll ds ≤ 1048576)
def OpenSpec.upto (s : _root_.Go.ChangeSpec) : _root_.Go.OpenSpec := { _root_.Go.OpenSpec.ofChange s with cond := some uptoSmall }

/-- 'schismalaw31.EpochMatchesReference', WHERE WHAT IT READS IS OF BULK AT MOST 1048576: true; the input reads as it did. -/
def epochMatchesReferenceUptoRow : OpenClaim := { program := "ytiandkdhonbjpaa", sum := "d76689276739ceb22ee7380a30f074c2221dd9bd016f306405ea14fb9316147f", func := "schisma/schismalaw31.EpochMatchesReference", spec := "epochMatchesReference", inPlace := ["slices.overlaps[schisma/api.Take]"], unfollowed := true, recurses := true, apart := false, narrowed := true }
def EpochMatchesReferenceUptoSaid : Prop := epochMatchesReferenceUptoRow.holds Try.pinned (OpenSpec.upto epochMatchesReferenceSpec)

/-- 'schismalaw31.EpochLearning', WHERE WHAT IT READS IS OF BULK AT MOST 1048576: true; the input reads as it did. -/
def epochLearningUptoRow : OpenClaim := { program := "ytiandkdhonbjpaa", sum := "d76689276739ceb22ee7380a30f074c2221dd9bd016f306405ea14fb9316147f", func := "schisma/schismalaw31.EpochLearning", spec := "epochLearning", inPlace := ["slices.overlaps[schisma/api.Take]"], unfollowed := true, recurses := true, apart := false, narrowed := true }
def EpochLearningUptoSaid : Prop := epochLearningUptoRow.holds Try.pinned (OpenSpec.upto epochLearningSpec)

/-- 'schismalaw31.EpochOrder', WHERE WHAT IT READS IS OF BULK AT MOST 1048576: true; the input reads as it did. -/
def epochOrderUptoRow : OpenClaim := { program := "ytiandkdhonbjpaa", sum := "d76689276739ceb22ee7380a30f074c2221dd9bd016f306405ea14fb9316147f", func := "schisma/schismalaw31.EpochOrder", spec := "epochOrder", inPlace := ["slices.overlaps[schisma/api.Take]"], unfollowed := true, recurses := true, apart := false, narrowed := true }
def EpochOrderUptoSaid : Prop := epochOrderUptoRow.holds Try.pinned (OpenSpec.upto epochOrderSpec)

/-- 'schismalaw31.EpochKnown', WHERE WHAT IT READS IS OF BULK AT MOST 1048576: true; the input reads as it did. -/
def epochKnownUptoRow : OpenClaim := { program := "ytiandkdhonbjpaa", sum := "d76689276739ceb22ee7380a30f074c2221dd9bd016f306405ea14fb9316147f", func := "schisma/schismalaw31.EpochKnown", spec := "epochKnown", inPlace := ["slices.overlaps[schisma/api.Take]"], unfollowed := true, recurses := true, apart := false, narrowed := true }
def EpochKnownUptoSaid : Prop := epochKnownUptoRow.holds Try.pinned (OpenSpec.upto epochKnownSpec)

/-- 'schismalaw31.EpochMerging', WHERE WHAT IT READS IS OF BULK AT MOST 1048576: true; the input reads as it did. -/
def epochMergingUptoRow : OpenClaim := { program := "ytiandkdhonbjpaa", sum := "d76689276739ceb22ee7380a30f074c2221dd9bd016f306405ea14fb9316147f", func := "schisma/schismalaw31.EpochMerging", spec := "epochMerging", inPlace := ["slices.overlaps[schisma/api.Take]"], unfollowed := true, recurses := true, apart := false, narrowed := true }
def EpochMergingUptoSaid : Prop := epochMergingUptoRow.holds Try.pinned (OpenSpec.upto epochMergingSpec)

/-- 'schismalaw31.EpochOneByOne', WHERE WHAT IT READS IS OF BULK AT MOST 1048576: true; the input reads as it did. -/
def epochOneByOneUptoRow : OpenClaim := { program := "ytiandkdhonbjpaa", sum := "d76689276739ceb22ee7380a30f074c2221dd9bd016f306405ea14fb9316147f", func := "schisma/schismalaw31.EpochOneByOne", spec := "epochOneByOne", inPlace := ["slices.overlaps[schisma/api.Take]"], unfollowed := true, recurses := true, apart := false, narrowed := true }
def EpochOneByOneUptoSaid : Prop := epochOneByOneUptoRow.holds Try.pinned (OpenSpec.upto epochOneByOneSpec)

/-- 'schismalaw31.EpochMissing', WHERE WHAT IT READS IS OF BULK AT MOST 1048576: true; the input reads as it did. -/
def epochMissingUptoRow : OpenClaim := { program := "ytiandkdhonbjpaa", sum := "d76689276739ceb22ee7380a30f074c2221dd9bd016f306405ea14fb9316147f", func := "schisma/schismalaw31.EpochMissing", spec := "epochMissing", inPlace := ["slices.overlaps[schisma/api.Take]"], unfollowed := true, recurses := true, apart := false, narrowed := true }
def EpochMissingUptoSaid : Prop := epochMissingUptoRow.holds Try.pinned (OpenSpec.upto epochMissingSpec)

end Rows
end Go.Proofs.Ytiandkdhonbjpaa

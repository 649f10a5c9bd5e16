/-
  No cell of these rows narrows 'for every input' (looked for: loops, veiled, ifaces, maps, wideKeys, modest, calm, conditions, laid).
  DERIVED. THE GIVEN ROWS OF THIS SEAT. 7 by the template 'for every input the law returns true; each argument reads behind the call as it read before'; 0 by the template 'total and deterministic' (their statements: YteebphpfgboenaaTotals.lean).
  GIVEN WITH THE SEED: the statements are not yours to turn. If you find one false, say at which input.
  Laid BY PROGRAM, IN A SANDBOX (cutbox-rows.mjs): the forced cells as the released guide's own fill.sh prints them over the translation ebf1f8cfaa1c2fcb… (all of the seat's roots in one cut). By AI agents, Wed Nov 11 2026. No macro, syntax, notation, axiom, sorry.
-/
import Derived.Test.YteebphpfgboenaaChecked
import GoSem.Claim
import GoSem.ClaimJoined
import GoSem.ClaimMapViews
import Derived.JoinedTies
import Derived.KernelRfl
namespace Go.Proofs.Yteebphpfgboenaa
/- THE CELL 'sum', in the pinned program and in every row, IS THE sha256 OF THE DUMP (.gsa) THAT YteebphpfgboenaaProg.lean LOADS. Nothing in Lean hashes anything: it is a label: what it is worth is what the hold of that sum in a sandbox is worth. -/
noncomputable def Try.pinned : Pinned := { name := "yteebphpfgboenaa", sum := "ebf1f8cfaa1c2fcb543ca593438ebc7771b0e394c07c23acd9ce32602543ccdb", checked := Try.checked }
namespace Rows
def none {H : Type} : Left H := { results := [], args := [] }

/-- 'schismalaw30.QuorumOneValue': WHATEVER THE INPUT: true; the input reads as it did. -/
def quorumOneValueSpec : ChangeSpec := { name := "quorumOneValue", fn := fun _ => fun
  | [d1, d2] => { results := [.lit (.bool true)], args := [d1, d2] }
  | _ => none }
def quorumOneValueRow : OpenClaim := { program := "yteebphpfgboenaa", sum := "ebf1f8cfaa1c2fcb543ca593438ebc7771b0e394c07c23acd9ce32602543ccdb", func := "schisma/schismalaw30.QuorumOneValue", spec := "quorumOneValue", unfollowed := true, recurses := true, plainKeys := false, apart := false }
def QuorumOneValueSaid : Prop := quorumOneValueRow.holds Try.pinned (OpenSpec.ofChange quorumOneValueSpec)

/-- ITS FALSE NEIGHBOUR: 'it returns false'. Refute it at one input. -/
def quorumOneValueWrong : ChangeSpec := { name := "quorumOneValue", fn := fun _ => fun
  | [d1, d2] => { results := [.lit (.bool false)], args := [d1, d2] }
  | _ => none }
def QuorumOneValueWrongFalsely : Prop := quorumOneValueRow.holds Try.pinned (OpenSpec.ofChange quorumOneValueWrong)

/-- 'schismalaw30.QuorumLater': WHATEVER THE INPUT: true; the input reads as it did. -/
def quorumLaterSpec : ChangeSpec := { name := "quorumLater", fn := fun _ => fun
  | [d1, d2] => { results := [.lit (.bool true)], args := [d1, d2] }
  | _ => none }
def quorumLaterRow : OpenClaim := { program := "yteebphpfgboenaa", sum := "ebf1f8cfaa1c2fcb543ca593438ebc7771b0e394c07c23acd9ce32602543ccdb", func := "schisma/schismalaw30.QuorumLater", spec := "quorumLater", unfollowed := true, recurses := true, plainKeys := false, apart := false }
def QuorumLaterSaid : Prop := quorumLaterRow.holds Try.pinned (OpenSpec.ofChange quorumLaterSpec)

/-- ITS FALSE NEIGHBOUR: 'it returns false'. Refute it at one input. -/
def quorumLaterWrong : ChangeSpec := { name := "quorumLater", fn := fun _ => fun
  | [d1, d2] => { results := [.lit (.bool false)], args := [d1, d2] }
  | _ => none }
def QuorumLaterWrongFalsely : Prop := quorumLaterRow.holds Try.pinned (OpenSpec.ofChange quorumLaterWrong)

/-- 'schismalaw30.QuorumForward': WHATEVER THE INPUT: true; the input reads as it did. -/
def quorumForwardSpec : ChangeSpec := { name := "quorumForward", fn := fun _ => fun
  | [d1, d2, d3] => { results := [.lit (.bool true)], args := [d1, d2, d3] }
  | _ => none }
def quorumForwardRow : OpenClaim := { program := "yteebphpfgboenaa", sum := "ebf1f8cfaa1c2fcb543ca593438ebc7771b0e394c07c23acd9ce32602543ccdb", func := "schisma/schismalaw30.QuorumForward", spec := "quorumForward", unfollowed := true, recurses := true, plainKeys := false, apart := false }
def QuorumForwardSaid : Prop := quorumForwardRow.holds Try.pinned (OpenSpec.ofChange quorumForwardSpec)

/-- ITS FALSE NEIGHBOUR: 'it returns false'. Refute it at one input. -/
def quorumForwardWrong : ChangeSpec := { name := "quorumForward", fn := fun _ => fun
  | [d1, d2, d3] => { results := [.lit (.bool false)], args := [d1, d2, d3] }
  | _ => none }
def QuorumForwardWrongFalsely : Prop := quorumForwardRow.holds Try.pinned (OpenSpec.ofChange quorumForwardWrong)

/-- 'schismalaw30.QuorumProposed': WHATEVER THE INPUT: true; the input reads as it did. -/
def quorumProposedSpec : ChangeSpec := { name := "quorumProposed", fn := fun _ => fun
  | [d1, d2] => { results := [.lit (.bool true)], args := [d1, d2] }
  | _ => none }
def quorumProposedRow : OpenClaim := { program := "yteebphpfgboenaa", sum := "ebf1f8cfaa1c2fcb543ca593438ebc7771b0e394c07c23acd9ce32602543ccdb", func := "schisma/schismalaw30.QuorumProposed", spec := "quorumProposed", unfollowed := true, recurses := true, plainKeys := false, apart := false }
def QuorumProposedSaid : Prop := quorumProposedRow.holds Try.pinned (OpenSpec.ofChange quorumProposedSpec)

/-- ITS FALSE NEIGHBOUR: 'it returns false'. Refute it at one input. -/
def quorumProposedWrong : ChangeSpec := { name := "quorumProposed", fn := fun _ => fun
  | [d1, d2] => { results := [.lit (.bool false)], args := [d1, d2] }
  | _ => none }
def QuorumProposedWrongFalsely : Prop := quorumProposedRow.holds Try.pinned (OpenSpec.ofChange quorumProposedWrong)

/-- 'schismalaw30.QuorumOneStart': WHATEVER THE INPUT: true; the input reads as it did. -/
def quorumOneStartSpec : ChangeSpec := { name := "quorumOneStart", fn := fun _ => fun
  | [d1, d2] => { results := [.lit (.bool true)], args := [d1, d2] }
  | _ => none }
def quorumOneStartRow : OpenClaim := { program := "yteebphpfgboenaa", sum := "ebf1f8cfaa1c2fcb543ca593438ebc7771b0e394c07c23acd9ce32602543ccdb", func := "schisma/schismalaw30.QuorumOneStart", spec := "quorumOneStart", unfollowed := true, recurses := true, plainKeys := false, apart := false }
def QuorumOneStartSaid : Prop := quorumOneStartRow.holds Try.pinned (OpenSpec.ofChange quorumOneStartSpec)

/-- ITS FALSE NEIGHBOUR: 'it returns false'. Refute it at one input. -/
def quorumOneStartWrong : ChangeSpec := { name := "quorumOneStart", fn := fun _ => fun
  | [d1, d2] => { results := [.lit (.bool false)], args := [d1, d2] }
  | _ => none }
def QuorumOneStartWrongFalsely : Prop := quorumOneStartRow.holds Try.pinned (OpenSpec.ofChange quorumOneStartWrong)

/-- 'schismalaw30.QuorumProgress': WHATEVER THE INPUT: true; the input reads as it did. -/
def quorumProgressSpec : ChangeSpec := { name := "quorumProgress", fn := fun _ => fun
  | [d1, d2, d3, d4] => { results := [.lit (.bool true)], args := [d1, d2, d3, d4] }
  | _ => none }
def quorumProgressRow : OpenClaim := { program := "yteebphpfgboenaa", sum := "ebf1f8cfaa1c2fcb543ca593438ebc7771b0e394c07c23acd9ce32602543ccdb", func := "schisma/schismalaw30.QuorumProgress", spec := "quorumProgress", unfollowed := true, recurses := true, plainKeys := false, apart := false }
def QuorumProgressSaid : Prop := quorumProgressRow.holds Try.pinned (OpenSpec.ofChange quorumProgressSpec)

/-- ITS FALSE NEIGHBOUR: 'it returns false'. Refute it at one input. -/
def quorumProgressWrong : ChangeSpec := { name := "quorumProgress", fn := fun _ => fun
  | [d1, d2, d3, d4] => { results := [.lit (.bool false)], args := [d1, d2, d3, d4] }
  | _ => none }
def QuorumProgressWrongFalsely : Prop := quorumProgressRow.holds Try.pinned (OpenSpec.ofChange quorumProgressWrong)

/-- 'schismalaw30.QuorumRepeated': WHATEVER THE INPUT: true; the input reads as it did. -/
def quorumRepeatedSpec : ChangeSpec := { name := "quorumRepeated", fn := fun _ => fun
  | [d1, d2, d3] => { results := [.lit (.bool true)], args := [d1, d2, d3] }
  | _ => none }
def quorumRepeatedRow : OpenClaim := { program := "yteebphpfgboenaa", sum := "ebf1f8cfaa1c2fcb543ca593438ebc7771b0e394c07c23acd9ce32602543ccdb", func := "schisma/schismalaw30.QuorumRepeated", spec := "quorumRepeated", unfollowed := true, recurses := true, plainKeys := false, apart := false }
def QuorumRepeatedSaid : Prop := quorumRepeatedRow.holds Try.pinned (OpenSpec.ofChange quorumRepeatedSpec)

/-- ITS FALSE NEIGHBOUR: 'it returns false'. Refute it at one input. -/
def quorumRepeatedWrong : ChangeSpec := { name := "quorumRepeated", fn := fun _ => fun
  | [d1, d2, d3] => { results := [.lit (.bool false)], args := [d1, d2, d3] }
  | _ => none }
def QuorumRepeatedWrongFalsely : Prop := quorumRepeatedRow.holds Try.pinned (OpenSpec.ofChange quorumRepeatedWrong)

/- THE SECOND FORM. 'bulk': how many values and letters a reading holds, each counted each time it is reached (what is shared counts as often as it is met; a slice's spare places count too). A statement '..UptoSaid' is the law's where the arguments, and the package variables that the reading takes, are together of bulk at most 1048576: NARROWER than '..Said'. Prove '..Said' where nothing that the law and all that it calls make is longer than what came in: it says more and counts as full. Else prove '..UptoSaid'. A law counts once. -/
mutual
def uptoBulk {H : Type} : DataW H → Nat
  | .lit (.string bytes) => bytes.length + 1
  | .lit _ => 1
  | .nil => 1
  | .ptr d => uptoBulk d + 1
  | .slice elems spare => uptoBulkAll elems + uptoBulkAll spare + 1
  | .agg parts => uptoBulkAll parts + 1
  | .iface _ d => uptoBulk d + 1
  | .map entries => uptoBulkEntries entries + 1
  | .held _ => 1
def uptoBulkAll {H : Type} : List (DataW H) → Nat
  | [] => 0
  | d :: r => uptoBulk d + uptoBulkAll r
def uptoBulkEntries {H : Type} : List (Lit × DataW H) → Nat
  | [] => 0
  | x :: r => uptoBulkEntry x + uptoBulkEntries r
def uptoBulkEntry {H : Type} : Lit × DataW H → Nat
  | (.string bytes, d) => bytes.length + uptoBulk d + 1
  | (_, d) => uptoBulk d + 1
 end
def uptoSmall : (H : Type) → List (DataW H) → Bool := fun _ ds => decide (uptoBulkAll ds ≤ 1048576)
def OpenSpec.upto (s : _root_.Go.ChangeSpec) : _root_.Go.OpenSpec := { _root_.Go.OpenSpec.ofChange s with cond := some uptoSmall }

/-- 'schismalaw30.QuorumOneValue', WHERE WHAT IT READS IS OF BULK AT MOST 1048576: true; the input reads as it did. -/
def quorumOneValueUptoRow : OpenClaim := { program := "yteebphpfgboenaa", sum := "ebf1f8cfaa1c2fcb543ca593438ebc7771b0e394c07c23acd9ce32602543ccdb", func := "schisma/schismalaw30.QuorumOneValue", spec := "quorumOneValue", unfollowed := true, recurses := true, plainKeys := false, apart := false, narrowed := true }
def QuorumOneValueUptoSaid : Prop := quorumOneValueUptoRow.holds Try.pinned (OpenSpec.upto quorumOneValueSpec)

/-- 'schismalaw30.QuorumLater', WHERE WHAT IT READS IS OF BULK AT MOST 1048576: true; the input reads as it did. -/
def quorumLaterUptoRow : OpenClaim := { program := "yteebphpfgboenaa", sum := "ebf1f8cfaa1c2fcb543ca593438ebc7771b0e394c07c23acd9ce32602543ccdb", func := "schisma/schismalaw30.QuorumLater", spec := "quorumLater", unfollowed := true, recurses := true, plainKeys := false, apart := false, narrowed := true }
def QuorumLaterUptoSaid : Prop := quorumLaterUptoRow.holds Try.pinned (OpenSpec.upto quorumLaterSpec)

/-- 'schismalaw30.QuorumForward', WHERE WHAT IT READS IS OF BULK AT MOST 1048576: true; the input reads as it did. -/
def quorumForwardUptoRow : OpenClaim := { program := "yteebphpfgboenaa", sum := "ebf1f8cfaa1c2fcb543ca593438ebc7771b0e394c07c23acd9ce32602543ccdb", func := "schisma/schismalaw30.QuorumForward", spec := "quorumForward", unfollowed := true, recurses := true, plainKeys := false, apart := false, narrowed := true }
def QuorumForwardUptoSaid : Prop := quorumForwardUptoRow.holds Try.pinned (OpenSpec.upto quorumForwardSpec)

/-- 'schismalaw30.QuorumProposed', WHERE WHAT IT READS IS OF BULK AT MOST 1048576: true; the input reads as it did. -/
def quorumProposedUptoRow : OpenClaim := { program := "yteebphpfgboenaa", sum := "ebf1f8cfaa1c2fcb543ca593438ebc7771b0e394c07c23acd9ce32602543ccdb", func := "schisma/schismalaw30.QuorumProposed", spec := "quorumProposed", unfollowed := true, recurses := true, plainKeys := false, apart := false, narrowed := true }
def QuorumProposedUptoSaid : Prop := quorumProposedUptoRow.holds Try.pinned (OpenSpec.upto quorumProposedSpec)

/-- 'schismalaw30.QuorumOneStart', WHERE WHAT IT READS IS OF BULK AT MOST 1048576: true; the input reads as it did. -/
def quorumOneStartUptoRow : OpenClaim := { program := "yteebphpfgboenaa", sum := "ebf1f8cfaa1c2fcb543ca593438ebc7771b0e394c07c23acd9ce32602543ccdb", func := "schisma/schismalaw30.QuorumOneStart", spec := "quorumOneStart", unfollowed := true, recurses := true, plainKeys := false, apart := false, narrowed := true }
def QuorumOneStartUptoSaid : Prop := quorumOneStartUptoRow.holds Try.pinned (OpenSpec.upto quorumOneStartSpec)

/-- 'schismalaw30.QuorumProgress', WHERE WHAT IT READS IS OF BULK AT MOST 1048576: true; the input reads as it did. -/
def quorumProgressUptoRow : OpenClaim := { program := "yteebphpfgboenaa", sum := "ebf1f8cfaa1c2fcb543ca593438ebc7771b0e394c07c23acd9ce32602543ccdb", func := "schisma/schismalaw30.QuorumProgress", spec := "quorumProgress", unfollowed := true, recurses := true, plainKeys := false, apart := false, narrowed := true }
def QuorumProgressUptoSaid : Prop := quorumProgressUptoRow.holds Try.pinned (OpenSpec.upto quorumProgressSpec)

/-- 'schismalaw30.QuorumRepeated', WHERE WHAT IT READS IS OF BULK AT MOST 1048576: true; the input reads as it did. -/
def quorumRepeatedUptoRow : OpenClaim := { program := "yteebphpfgboenaa", sum := "ebf1f8cfaa1c2fcb543ca593438ebc7771b0e394c07c23acd9ce32602543ccdb", func := "schisma/schismalaw30.QuorumRepeated", spec := "quorumRepeated", unfollowed := true, recurses := true, plainKeys := false, apart := false, narrowed := true }
def QuorumRepeatedUptoSaid : Prop := quorumRepeatedUptoRow.holds Try.pinned (OpenSpec.upto quorumRepeatedSpec)

end Rows
end Go.Proofs.Yteebphpfgboenaa

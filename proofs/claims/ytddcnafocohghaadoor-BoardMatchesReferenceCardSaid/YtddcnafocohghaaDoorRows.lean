/-
  NARROWER THAN 'FOR EVERY INPUT', by the rows' own cells (each row's printed sentence says how): BoardMatchesReference: laid · BoardFound: laid · BoardHands: laid · BoardChords: laid · BoardFewer: laid · BoardBetter: laid · BoardPlace: laid · BoardTransposed: laid.
  DERIVED. THE GIVEN ROWS OF THIS SEAT. 8 by the template 'for every input the law returns true; each argument reads behind the call as it read before'; 0 by the template 'total and deterministic' (their statements: YtddcnafocohghaaDoorTotals.lean).
  GIVEN WITH THE SEED: the statements are not yours to turn. If you find one false, say at which input.
  Laid BY PROGRAM, IN A SANDBOX (cutbox-rows.mjs): the forced cells as the released guide's own fill.sh prints them over the translation 41ef6a1244fa4f8a… (all of the seat's roots in one cut). By AI agents, Wed Nov 11 2026. No macro, syntax, notation, axiom, sorry.
-/
import Derived.Test.YtddcnafocohghaaDoorChecked
import GoSem.Claim
import GoSem.ClaimJoined
import GoSem.ClaimMapViews
import Derived.JoinedTies
import Derived.KernelRfl
namespace Go.Proofs.YtddcnafocohghaaDoor
/- THE CELL 'sum', in the pinned program and in every row, IS THE sha256 OF THE DUMP (.gsa) THAT YtddcnafocohghaaDoorProg.lean LOADS. Nothing in Lean hashes anything: it is a label: what it is worth is what the hold of that sum in a sandbox is worth. -/
noncomputable def Tryd.pinned : Pinned := { name := "ytddcnafocohghaadoor", sum := "41ef6a1244fa4f8ad8054f783a7882ac56c486b19477623afb8bd0d8f28bf060", checked := Tryd.checked }
namespace Rows
def none {H : Type} : Left H := { results := [], args := [] }

/- WHAT THE LISTED PACKAGE-LEVEL VARIABLES READ AS WHEN THE CALL BEGINS. Each datum BY PROGRAM (the guide's laid-datum.mjs) off the statement by which the dump's own 'gosem.cut.vars' lays the variable. In a bare row this is a premise. The card (YtddcnafocohghaaDoorCards.lean) ties it to the program's text. -/
def laid_schisma_size_logs {H : Type} : DataW H := .agg [.agg [.lit (.int .i64 1000000000), .lit (.int .i64 1000000000)], .agg [.lit (.int .i64 1584962500), .lit (.int .i64 1584962501)], .agg [.lit (.int .i64 2321928094), .lit (.int .i64 2321928095)], .agg [.lit (.int .i64 2807354922), .lit (.int .i64 2807354923)], .agg [.lit (.int .i64 3459431618), .lit (.int .i64 3459431619)], .agg [.lit (.int .i64 3700439718), .lit (.int .i64 3700439719)]]

/-- 'schismalaw10.BoardMatchesReference': WHATEVER THE INPUT: true; the input reads as it did. -/
def boardMatchesReferenceSpec : ChangeSpec := { name := "boardMatchesReference", fn := fun _ => fun
  | [d1, d2, d3, d4] => { results := [.lit (.bool true)], args := [d1, d2, d3, d4] }
  | _ => none }
def boardMatchesReferenceRow : OpenClaim := { program := "ytddcnafocohghaadoor", sum := "41ef6a1244fa4f8ad8054f783a7882ac56c486b19477623afb8bd0d8f28bf060", func := "schisma/schismalaw10.BoardMatchesReference", spec := "boardMatchesReference", unfollowed := true, recurses := true, named := ["schisma/size.logs"], plainKeys := false, apart := false, laid := [("schisma/size.logs", laid_schisma_size_logs)] }
def BoardMatchesReferenceSaid : Prop := boardMatchesReferenceRow.holds Tryd.pinned (OpenSpec.ofChange boardMatchesReferenceSpec)

/-- ITS FALSE NEIGHBOUR: 'it returns false'. Refute it at one input. -/
def boardMatchesReferenceWrong : ChangeSpec := { name := "boardMatchesReference", fn := fun _ => fun
  | [d1, d2, d3, d4] => { results := [.lit (.bool false)], args := [d1, d2, d3, d4] }
  | _ => none }
def BoardMatchesReferenceWrongFalsely : Prop := boardMatchesReferenceRow.holds Tryd.pinned (OpenSpec.ofChange boardMatchesReferenceWrong)

/-- 'schismalaw10.BoardFound': WHATEVER THE INPUT: true; the input reads as it did. -/
def boardFoundSpec : ChangeSpec := { name := "boardFound", fn := fun _ => fun
  | [d1, d2] => { results := [.lit (.bool true)], args := [d1, d2] }
  | _ => none }
def boardFoundRow : OpenClaim := { program := "ytddcnafocohghaadoor", sum := "41ef6a1244fa4f8ad8054f783a7882ac56c486b19477623afb8bd0d8f28bf060", func := "schisma/schismalaw10.BoardFound", spec := "boardFound", unfollowed := true, recurses := true, named := ["schisma/size.logs"], plainKeys := false, apart := false, laid := [("schisma/size.logs", laid_schisma_size_logs)] }
def BoardFoundSaid : Prop := boardFoundRow.holds Tryd.pinned (OpenSpec.ofChange boardFoundSpec)

/-- ITS FALSE NEIGHBOUR: 'it returns false'. Refute it at one input. -/
def boardFoundWrong : ChangeSpec := { name := "boardFound", fn := fun _ => fun
  | [d1, d2] => { results := [.lit (.bool false)], args := [d1, d2] }
  | _ => none }
def BoardFoundWrongFalsely : Prop := boardFoundRow.holds Tryd.pinned (OpenSpec.ofChange boardFoundWrong)

/-- 'schismalaw10.BoardHands': WHATEVER THE INPUT: true; the input reads as it did. -/
def boardHandsSpec : ChangeSpec := { name := "boardHands", fn := fun _ => fun
  | [d1, d2, d3] => { results := [.lit (.bool true)], args := [d1, d2, d3] }
  | _ => none }
def boardHandsRow : OpenClaim := { program := "ytddcnafocohghaadoor", sum := "41ef6a1244fa4f8ad8054f783a7882ac56c486b19477623afb8bd0d8f28bf060", func := "schisma/schismalaw10.BoardHands", spec := "boardHands", unfollowed := true, recurses := true, named := ["schisma/size.logs"], plainKeys := false, apart := false, laid := [("schisma/size.logs", laid_schisma_size_logs)] }
def BoardHandsSaid : Prop := boardHandsRow.holds Tryd.pinned (OpenSpec.ofChange boardHandsSpec)

/-- ITS FALSE NEIGHBOUR: 'it returns false'. Refute it at one input. -/
def boardHandsWrong : ChangeSpec := { name := "boardHands", fn := fun _ => fun
  | [d1, d2, d3] => { results := [.lit (.bool false)], args := [d1, d2, d3] }
  | _ => none }
def BoardHandsWrongFalsely : Prop := boardHandsRow.holds Tryd.pinned (OpenSpec.ofChange boardHandsWrong)

/-- 'schismalaw10.BoardChords': WHATEVER THE INPUT: true; the input reads as it did. -/
def boardChordsSpec : ChangeSpec := { name := "boardChords", fn := fun _ => fun
  | [d1, d2, d3] => { results := [.lit (.bool true)], args := [d1, d2, d3] }
  | _ => none }
def boardChordsRow : OpenClaim := { program := "ytddcnafocohghaadoor", sum := "41ef6a1244fa4f8ad8054f783a7882ac56c486b19477623afb8bd0d8f28bf060", func := "schisma/schismalaw10.BoardChords", spec := "boardChords", unfollowed := true, recurses := true, named := ["schisma/size.logs"], plainKeys := false, apart := false, laid := [("schisma/size.logs", laid_schisma_size_logs)] }
def BoardChordsSaid : Prop := boardChordsRow.holds Tryd.pinned (OpenSpec.ofChange boardChordsSpec)

/-- ITS FALSE NEIGHBOUR: 'it returns false'. Refute it at one input. -/
def boardChordsWrong : ChangeSpec := { name := "boardChords", fn := fun _ => fun
  | [d1, d2, d3] => { results := [.lit (.bool false)], args := [d1, d2, d3] }
  | _ => none }
def BoardChordsWrongFalsely : Prop := boardChordsRow.holds Tryd.pinned (OpenSpec.ofChange boardChordsWrong)

/-- 'schismalaw10.BoardFewer': WHATEVER THE INPUT: true; the input reads as it did. -/
def boardFewerSpec : ChangeSpec := { name := "boardFewer", fn := fun _ => fun
  | [d1, d2, d3] => { results := [.lit (.bool true)], args := [d1, d2, d3] }
  | _ => none }
def boardFewerRow : OpenClaim := { program := "ytddcnafocohghaadoor", sum := "41ef6a1244fa4f8ad8054f783a7882ac56c486b19477623afb8bd0d8f28bf060", func := "schisma/schismalaw10.BoardFewer", spec := "boardFewer", unfollowed := true, recurses := true, named := ["schisma/size.logs"], plainKeys := false, apart := false, laid := [("schisma/size.logs", laid_schisma_size_logs)] }
def BoardFewerSaid : Prop := boardFewerRow.holds Tryd.pinned (OpenSpec.ofChange boardFewerSpec)

/-- ITS FALSE NEIGHBOUR: 'it returns false'. Refute it at one input. -/
def boardFewerWrong : ChangeSpec := { name := "boardFewer", fn := fun _ => fun
  | [d1, d2, d3] => { results := [.lit (.bool false)], args := [d1, d2, d3] }
  | _ => none }
def BoardFewerWrongFalsely : Prop := boardFewerRow.holds Tryd.pinned (OpenSpec.ofChange boardFewerWrong)

/-- 'schismalaw10.BoardBetter': WHATEVER THE INPUT: true; the input reads as it did. -/
def boardBetterSpec : ChangeSpec := { name := "boardBetter", fn := fun _ => fun
  | [d1, d2, d3, d4, d5] => { results := [.lit (.bool true)], args := [d1, d2, d3, d4, d5] }
  | _ => none }
def boardBetterRow : OpenClaim := { program := "ytddcnafocohghaadoor", sum := "41ef6a1244fa4f8ad8054f783a7882ac56c486b19477623afb8bd0d8f28bf060", func := "schisma/schismalaw10.BoardBetter", spec := "boardBetter", unfollowed := true, recurses := true, named := ["schisma/size.logs"], plainKeys := false, apart := false, laid := [("schisma/size.logs", laid_schisma_size_logs)] }
def BoardBetterSaid : Prop := boardBetterRow.holds Tryd.pinned (OpenSpec.ofChange boardBetterSpec)

/-- ITS FALSE NEIGHBOUR: 'it returns false'. Refute it at one input. -/
def boardBetterWrong : ChangeSpec := { name := "boardBetter", fn := fun _ => fun
  | [d1, d2, d3, d4, d5] => { results := [.lit (.bool false)], args := [d1, d2, d3, d4, d5] }
  | _ => none }
def BoardBetterWrongFalsely : Prop := boardBetterRow.holds Tryd.pinned (OpenSpec.ofChange boardBetterWrong)

/-- 'schismalaw10.BoardPlace': WHATEVER THE INPUT: true; the input reads as it did. -/
def boardPlaceSpec : ChangeSpec := { name := "boardPlace", fn := fun _ => fun
  | [d1, d2, d3, d4, d5] => { results := [.lit (.bool true)], args := [d1, d2, d3, d4, d5] }
  | _ => none }
def boardPlaceRow : OpenClaim := { program := "ytddcnafocohghaadoor", sum := "41ef6a1244fa4f8ad8054f783a7882ac56c486b19477623afb8bd0d8f28bf060", func := "schisma/schismalaw10.BoardPlace", spec := "boardPlace", unfollowed := true, recurses := true, named := ["schisma/size.logs"], plainKeys := false, apart := false, laid := [("schisma/size.logs", laid_schisma_size_logs)] }
def BoardPlaceSaid : Prop := boardPlaceRow.holds Tryd.pinned (OpenSpec.ofChange boardPlaceSpec)

/-- ITS FALSE NEIGHBOUR: 'it returns false'. Refute it at one input. -/
def boardPlaceWrong : ChangeSpec := { name := "boardPlace", fn := fun _ => fun
  | [d1, d2, d3, d4, d5] => { results := [.lit (.bool false)], args := [d1, d2, d3, d4, d5] }
  | _ => none }
def BoardPlaceWrongFalsely : Prop := boardPlaceRow.holds Tryd.pinned (OpenSpec.ofChange boardPlaceWrong)

/-- 'schismalaw10.BoardTransposed': WHATEVER THE INPUT: true; the input reads as it did. -/
def boardTransposedSpec : ChangeSpec := { name := "boardTransposed", fn := fun _ => fun
  | [d1, d2, d3] => { results := [.lit (.bool true)], args := [d1, d2, d3] }
  | _ => none }
def boardTransposedRow : OpenClaim := { program := "ytddcnafocohghaadoor", sum := "41ef6a1244fa4f8ad8054f783a7882ac56c486b19477623afb8bd0d8f28bf060", func := "schisma/schismalaw10.BoardTransposed", spec := "boardTransposed", unfollowed := true, recurses := true, named := ["schisma/size.logs"], plainKeys := false, apart := false, laid := [("schisma/size.logs", laid_schisma_size_logs)] }
def BoardTransposedSaid : Prop := boardTransposedRow.holds Tryd.pinned (OpenSpec.ofChange boardTransposedSpec)

/-- ITS FALSE NEIGHBOUR: 'it returns false'. Refute it at one input. -/
def boardTransposedWrong : ChangeSpec := { name := "boardTransposed", fn := fun _ => fun
  | [d1, d2, d3] => { results := [.lit (.bool false)], args := [d1, d2, d3] }
  | _ => none }
def BoardTransposedWrongFalsely : Prop := boardTransposedRow.holds Tryd.pinned (OpenSpec.ofChange boardTransposedWrong)

/- THE SECOND FORM. 'bulk': how many values and letters a reading holds, each counted each time it is reached (what is shared counts as often as it is met; a slice's spare places count too). A statement '..UptoSaid' is the law's where the arguments, and the package variables that the reading takes, are together of bulk at most 1048576: NARROWER than '..Said'. Prove '..Said' where nothing that the law and all that it calls make is longer than what came in: it says more and counts as full. Else prove '..UptoSaid'. A law counts once. -/
mutual
def uptoBulk {H : Type} : DataW H → Nat
  | .lit (.string bytes) => bytes.length + 1
  | .lit _ => 1
  | .nil => 1
  | .ptr d => uptoBulk d + 1
  | .slice elems spare => uptoBulkAll elems + uptoBulkAll spare + 1
  | .agg parts => uptoBulkAll parts + 1
  | .iface _ d => uptoBulk d + 1
  | .map entries => uptoBulkEntries entries + 1
  | .held _ => 1
def uptoBulkAll {H : Type} : List (DataW H) → Nat
  | [] => 0
  | d :: r => uptoBulk d + uptoBulkAll r
def uptoBulkEntries {H : Type} : List (Lit × DataW H) → Nat
  | [] => 0
  | x :: r => uptoBulkEntry x + uptoBulkEntries r
def uptoBulkEntry {H : Type} : Lit × DataW H → Nat
  | (.string bytes, d) => bytes.length + uptoBulk d + 1
  | (_, d) => uptoBulk d + 1
 end
def uptoSmall : (H : Type) → List (DataW H) → Bool := fun _ ds => decide (uptoBulkAll ds ≤ 1048576)
def OpenSpec.upto (s : _root_.Go.ChangeSpec) : _root_.Go.OpenSpec := { _root_.Go.OpenSpec.ofChange s with cond := some uptoSmall }

/-- 'schismalaw10.BoardMatchesReference', WHERE WHAT IT READS IS OF BULK AT MOST 1048576: true; the input reads as it did. -/
def boardMatchesReferenceUptoRow : OpenClaim := { program := "ytddcnafocohghaadoor", sum := "41ef6a1244fa4f8ad8054f783a7882ac56c486b19477623afb8bd0d8f28bf060", func := "schisma/schismalaw10.BoardMatchesReference", spec := "boardMatchesReference", unfollowed := true, recurses := true, named := ["schisma/size.logs"], plainKeys := false, apart := false, laid := [("schisma/size.logs", laid_schisma_size_logs)], narrowed := true }
def BoardMatchesReferenceUptoSaid : Prop := boardMatchesReferenceUptoRow.holds Tryd.pinned (OpenSpec.upto boardMatchesReferenceSpec)

/-- 'schismalaw10.BoardFound', WHERE WHAT IT READS IS OF BULK AT MOST 1048576: true; the input reads as it did. -/
def boardFoundUptoRow : OpenClaim := { program := "ytddcnafocohghaadoor", sum := "41ef6a1244fa4f8ad8054f783a7882ac56c486b19477623afb8bd0d8f28bf060", func := "schisma/schismalaw10.BoardFound", spec := "boardFound", unfollowed := true, recurses := true, named := ["schisma/size.logs"], plainKeys := false, apart := false, laid := [("schisma/size.logs", laid_schisma_size_logs)], narrowed := true }
def BoardFoundUptoSaid : Prop := boardFoundUptoRow.holds Tryd.pinned (OpenSpec.upto boardFoundSpec)

/-- 'schismalaw10.BoardHands', WHERE WHAT IT READS IS OF BULK AT MOST 1048576: true; the input reads as it did. -/
def boardHandsUptoRow : OpenClaim := { program := "ytddcnafocohghaadoor", sum := "41ef6a1244fa4f8ad8054f783a7882ac56c486b19477623afb8bd0d8f28bf060", func := "schisma/schismalaw10.BoardHands", spec := "boardHands", unfollowed := true, recurses := true, named := ["schisma/size.logs"], plainKeys := false, apart := false, laid := [("schisma/size.logs", laid_schisma_size_logs)], narrowed := true }
def BoardHandsUptoSaid : Prop := boardHandsUptoRow.holds Tryd.pinned (OpenSpec.upto boardHandsSpec)

/-- 'schismalaw10.BoardChords', WHERE WHAT IT READS IS OF BULK AT MOST 1048576: true; the input reads as it did. -/
def boardChordsUptoRow : OpenClaim := { program := "ytddcnafocohghaadoor", sum := "41ef6a1244fa4f8ad8054f783a7882ac56c486b19477623afb8bd0d8f28bf060", func := "schisma/schismalaw10.BoardChords", spec := "boardChords", unfollowed := true, recurses := true, named := ["schisma/size.logs"], plainKeys := false, apart := false, laid := [("schisma/size.logs", laid_schisma_size_logs)], narrowed := true }
def BoardChordsUptoSaid : Prop := boardChordsUptoRow.holds Tryd.pinned (OpenSpec.upto boardChordsSpec)

/-- 'schismalaw10.BoardFewer', WHERE WHAT IT READS IS OF BULK AT MOST 1048576: true; the input reads as it did. -/
def boardFewerUptoRow : OpenClaim := { program := "ytddcnafocohghaadoor", sum := "41ef6a1244fa4f8ad8054f783a7882ac56c486b19477623afb8bd0d8f28bf060", func := "schisma/schismalaw10.BoardFewer", spec := "boardFewer", unfollowed := true, recurses := true, named := ["schisma/size.logs"], plainKeys := false, apart := false, laid := [("schisma/size.logs", laid_schisma_size_logs)], narrowed := true }
def BoardFewerUptoSaid : Prop := boardFewerUptoRow.holds Tryd.pinned (OpenSpec.upto boardFewerSpec)

/-- 'schismalaw10.BoardBetter', WHERE WHAT IT READS IS OF BULK AT MOST 1048576: true; the input reads as it did. -/
def boardBetterUptoRow : OpenClaim := { program := "ytddcnafocohghaadoor", sum := "41ef6a1244fa4f8ad8054f783a7882ac56c486b19477623afb8bd0d8f28bf060", func := "schisma/schismalaw10.BoardBetter", spec := "boardBetter", unfollowed := true, recurses := true, named := ["schisma/size.logs"], plainKeys := false, apart := false, laid := [("schisma/size.logs", laid_schisma_size_logs)], narrowed := true }
def BoardBetterUptoSaid : Prop := boardBetterUptoRow.holds Tryd.pinned (OpenSpec.upto boardBetterSpec)

/-- 'schismalaw10.BoardPlace', WHERE WHAT IT READS IS OF BULK AT MOST 1048576: true; the input reads as it did. -/
def boardPlaceUptoRow : OpenClaim := { program := "ytddcnafocohghaadoor", sum := "41ef6a1244fa4f8ad8054f783a7882ac56c486b19477623afb8bd0d8f28bf060", func := "schisma/schismalaw10.BoardPlace", spec := "boardPlace", unfollowed := true, recurses := true, named := ["schisma/size.logs"], plainKeys := false, apart := false, laid := [("schisma/size.logs", laid_schisma_size_logs)], narrowed := true }
def BoardPlaceUptoSaid : Prop := boardPlaceUptoRow.holds Tryd.pinned (OpenSpec.upto boardPlaceSpec)

/-- 'schismalaw10.BoardTransposed', WHERE WHAT IT READS IS OF BULK AT MOST 1048576: true; the input reads as it did. -/
def boardTransposedUptoRow : OpenClaim := { program := "ytddcnafocohghaadoor", sum := "41ef6a1244fa4f8ad8054f783a7882ac56c486b19477623afb8bd0d8f28bf060", func := "schisma/schismalaw10.BoardTransposed", spec := "boardTransposed", unfollowed := true, recurses := true, named := ["schisma/size.logs"], plainKeys := false, apart := false, laid := [("schisma/size.logs", laid_schisma_size_logs)], narrowed := true }
def BoardTransposedUptoSaid : Prop := boardTransposedUptoRow.holds Tryd.pinned (OpenSpec.upto boardTransposedSpec)

end Rows
end Go.Proofs.YtddcnafocohghaaDoor

/-
  NARROWER THAN 'FOR EVERY INPUT', by the rows' own cells (each row's printed sentence says how): ScaleMatchesReference: laid · ScaleOctaves: laid · ScaleModes: laid · ScaleDegrees: laid · ScaleLonger: laid · ScaleThreeGaps: laid · ScaleSteps: laid · ScaleNearest: laid.
  DERIVED. THE GIVEN ROWS OF THIS SEAT. 8 by the template 'for every input the law returns true; each argument reads behind the call as it read before'; 0 by the template 'total and deterministic' (their statements: YtdglbjjenihdlaaDoorTotals.lean).
  GIVEN WITH THE SEED: the statements are not yours to turn. If you find one false, say at which input.
  Laid BY PROGRAM, IN A SANDBOX (cutbox-rows.mjs): the forced cells as the released guide's own fill.sh prints them over the translation 17193c8e2aaebf6e… (all of the seat's roots in one cut). By AI agents, Wed Nov 11 2026. No macro, syntax, notation, axiom, sorry.
-/
import Derived.Test.YtdglbjjenihdlaaDoorChecked
import GoSem.Claim
import GoSem.ClaimJoined
import GoSem.ClaimMapViews
import Derived.JoinedTies
import Derived.KernelRfl
namespace Go.Proofs.YtdglbjjenihdlaaDoor
/- THE CELL 'sum', in the pinned program and in every row, IS THE sha256 OF THE DUMP (.gsa) THAT YtdglbjjenihdlaaDoorProg.lean LOADS. Nothing in Lean hashes anything: it is a label: what it is worth is what the hold of that sum in a sandbox is worth. -/
noncomputable def Tryd.pinned : Pinned := { name := "ytdglbjjenihdlaadoor", sum := "17193c8e2aaebf6ecad74c77afe9a6766477fe534724dd22d15229788232198b", checked := Tryd.checked }
namespace Rows
def none {H : Type} : Left H := { results := [], args := [] }

/- WHAT THE LISTED PACKAGE-LEVEL VARIABLES READ AS WHEN THE CALL BEGINS. Each datum BY PROGRAM (the guide's laid-datum.mjs) off the statement by which the dump's own 'gosem.cut.vars' lays the variable. In a bare row this is a premise. The card (YtdglbjjenihdlaaDoorCards.lean) ties it to the program's text. -/
def laid_schisma_pitch_primes {H : Type} : DataW H := .agg [.lit (.int .i64 2), .lit (.int .i64 3), .lit (.int .i64 5), .lit (.int .i64 7), .lit (.int .i64 11), .lit (.int .i64 13)]

/-- 'schismalaw09.ScaleMatchesReference': WHATEVER THE INPUT: true; the input reads as it did. -/
def scaleMatchesReferenceSpec : ChangeSpec := { name := "scaleMatchesReference", fn := fun _ => fun
  | [d1, d2, d3, d4, d5] => { results := [.lit (.bool true)], args := [d1, d2, d3, d4, d5] }
  | _ => none }
def scaleMatchesReferenceRow : OpenClaim := { program := "ytdglbjjenihdlaadoor", sum := "17193c8e2aaebf6ecad74c77afe9a6766477fe534724dd22d15229788232198b", func := "schisma/schismalaw09.ScaleMatchesReference", spec := "scaleMatchesReference", unfollowed := true, recurses := true, named := ["schisma/pitch.primes"], apart := false, laid := [("schisma/pitch.primes", laid_schisma_pitch_primes)] }
def ScaleMatchesReferenceSaid : Prop := scaleMatchesReferenceRow.holds Tryd.pinned (OpenSpec.ofChange scaleMatchesReferenceSpec)

/-- ITS FALSE NEIGHBOUR: 'it returns false'. Refute it at one input. -/
def scaleMatchesReferenceWrong : ChangeSpec := { name := "scaleMatchesReference", fn := fun _ => fun
  | [d1, d2, d3, d4, d5] => { results := [.lit (.bool false)], args := [d1, d2, d3, d4, d5] }
  | _ => none }
def ScaleMatchesReferenceWrongFalsely : Prop := scaleMatchesReferenceRow.holds Tryd.pinned (OpenSpec.ofChange scaleMatchesReferenceWrong)

/-- 'schismalaw09.ScaleOctaves': WHATEVER THE INPUT: true; the input reads as it did. -/
def scaleOctavesSpec : ChangeSpec := { name := "scaleOctaves", fn := fun _ => fun
  | [d1, d2] => { results := [.lit (.bool true)], args := [d1, d2] }
  | _ => none }
def scaleOctavesRow : OpenClaim := { program := "ytdglbjjenihdlaadoor", sum := "17193c8e2aaebf6ecad74c77afe9a6766477fe534724dd22d15229788232198b", func := "schisma/schismalaw09.ScaleOctaves", spec := "scaleOctaves", unfollowed := true, recurses := true, named := ["schisma/pitch.primes"], apart := false, laid := [("schisma/pitch.primes", laid_schisma_pitch_primes)] }
def ScaleOctavesSaid : Prop := scaleOctavesRow.holds Tryd.pinned (OpenSpec.ofChange scaleOctavesSpec)

/-- ITS FALSE NEIGHBOUR: 'it returns false'. Refute it at one input. -/
def scaleOctavesWrong : ChangeSpec := { name := "scaleOctaves", fn := fun _ => fun
  | [d1, d2] => { results := [.lit (.bool false)], args := [d1, d2] }
  | _ => none }
def ScaleOctavesWrongFalsely : Prop := scaleOctavesRow.holds Tryd.pinned (OpenSpec.ofChange scaleOctavesWrong)

/-- 'schismalaw09.ScaleModes': WHATEVER THE INPUT: true; the input reads as it did. -/
def scaleModesSpec : ChangeSpec := { name := "scaleModes", fn := fun _ => fun
  | [d1, d2, d3] => { results := [.lit (.bool true)], args := [d1, d2, d3] }
  | _ => none }
def scaleModesRow : OpenClaim := { program := "ytdglbjjenihdlaadoor", sum := "17193c8e2aaebf6ecad74c77afe9a6766477fe534724dd22d15229788232198b", func := "schisma/schismalaw09.ScaleModes", spec := "scaleModes", unfollowed := true, recurses := true, named := ["schisma/pitch.primes"], apart := false, laid := [("schisma/pitch.primes", laid_schisma_pitch_primes)] }
def ScaleModesSaid : Prop := scaleModesRow.holds Tryd.pinned (OpenSpec.ofChange scaleModesSpec)

/-- ITS FALSE NEIGHBOUR: 'it returns false'. Refute it at one input. -/
def scaleModesWrong : ChangeSpec := { name := "scaleModes", fn := fun _ => fun
  | [d1, d2, d3] => { results := [.lit (.bool false)], args := [d1, d2, d3] }
  | _ => none }
def ScaleModesWrongFalsely : Prop := scaleModesRow.holds Tryd.pinned (OpenSpec.ofChange scaleModesWrong)

/-- 'schismalaw09.ScaleDegrees': WHATEVER THE INPUT: true; the input reads as it did. -/
def scaleDegreesSpec : ChangeSpec := { name := "scaleDegrees", fn := fun _ => fun
  | [d1, d2, d3] => { results := [.lit (.bool true)], args := [d1, d2, d3] }
  | _ => none }
def scaleDegreesRow : OpenClaim := { program := "ytdglbjjenihdlaadoor", sum := "17193c8e2aaebf6ecad74c77afe9a6766477fe534724dd22d15229788232198b", func := "schisma/schismalaw09.ScaleDegrees", spec := "scaleDegrees", unfollowed := true, recurses := true, named := ["schisma/pitch.primes"], apart := false, laid := [("schisma/pitch.primes", laid_schisma_pitch_primes)] }
def ScaleDegreesSaid : Prop := scaleDegreesRow.holds Tryd.pinned (OpenSpec.ofChange scaleDegreesSpec)

/-- ITS FALSE NEIGHBOUR: 'it returns false'. Refute it at one input. -/
def scaleDegreesWrong : ChangeSpec := { name := "scaleDegrees", fn := fun _ => fun
  | [d1, d2, d3] => { results := [.lit (.bool false)], args := [d1, d2, d3] }
  | _ => none }
def ScaleDegreesWrongFalsely : Prop := scaleDegreesRow.holds Tryd.pinned (OpenSpec.ofChange scaleDegreesWrong)

/-- 'schismalaw09.ScaleLonger': WHATEVER THE INPUT: true; the input reads as it did. -/
def scaleLongerSpec : ChangeSpec := { name := "scaleLonger", fn := fun _ => fun
  | [d1, d2] => { results := [.lit (.bool true)], args := [d1, d2] }
  | _ => none }
def scaleLongerRow : OpenClaim := { program := "ytdglbjjenihdlaadoor", sum := "17193c8e2aaebf6ecad74c77afe9a6766477fe534724dd22d15229788232198b", func := "schisma/schismalaw09.ScaleLonger", spec := "scaleLonger", unfollowed := true, recurses := true, named := ["schisma/pitch.primes"], apart := false, laid := [("schisma/pitch.primes", laid_schisma_pitch_primes)] }
def ScaleLongerSaid : Prop := scaleLongerRow.holds Tryd.pinned (OpenSpec.ofChange scaleLongerSpec)

/-- ITS FALSE NEIGHBOUR: 'it returns false'. Refute it at one input. -/
def scaleLongerWrong : ChangeSpec := { name := "scaleLonger", fn := fun _ => fun
  | [d1, d2] => { results := [.lit (.bool false)], args := [d1, d2] }
  | _ => none }
def ScaleLongerWrongFalsely : Prop := scaleLongerRow.holds Tryd.pinned (OpenSpec.ofChange scaleLongerWrong)

/-- 'schismalaw09.ScaleThreeGaps': WHATEVER THE INPUT: true; the input reads as it did. -/
def scaleThreeGapsSpec : ChangeSpec := { name := "scaleThreeGaps", fn := fun _ => fun
  | [d1, d2] => { results := [.lit (.bool true)], args := [d1, d2] }
  | _ => none }
def scaleThreeGapsRow : OpenClaim := { program := "ytdglbjjenihdlaadoor", sum := "17193c8e2aaebf6ecad74c77afe9a6766477fe534724dd22d15229788232198b", func := "schisma/schismalaw09.ScaleThreeGaps", spec := "scaleThreeGaps", unfollowed := true, recurses := true, named := ["schisma/pitch.primes"], apart := false, laid := [("schisma/pitch.primes", laid_schisma_pitch_primes)] }
def ScaleThreeGapsSaid : Prop := scaleThreeGapsRow.holds Tryd.pinned (OpenSpec.ofChange scaleThreeGapsSpec)

/-- ITS FALSE NEIGHBOUR: 'it returns false'. Refute it at one input. -/
def scaleThreeGapsWrong : ChangeSpec := { name := "scaleThreeGaps", fn := fun _ => fun
  | [d1, d2] => { results := [.lit (.bool false)], args := [d1, d2] }
  | _ => none }
def ScaleThreeGapsWrongFalsely : Prop := scaleThreeGapsRow.holds Tryd.pinned (OpenSpec.ofChange scaleThreeGapsWrong)

/-- 'schismalaw09.ScaleSteps': WHATEVER THE INPUT: true; the input reads as it did. -/
def scaleStepsSpec : ChangeSpec := { name := "scaleSteps", fn := fun _ => fun
  | [d] => { results := [.lit (.bool true)], args := [d] }
  | _ => none }
def scaleStepsRow : OpenClaim := { program := "ytdglbjjenihdlaadoor", sum := "17193c8e2aaebf6ecad74c77afe9a6766477fe534724dd22d15229788232198b", func := "schisma/schismalaw09.ScaleSteps", spec := "scaleSteps", unfollowed := true, recurses := true, named := ["schisma/pitch.primes"], apart := false, laid := [("schisma/pitch.primes", laid_schisma_pitch_primes)] }
def ScaleStepsSaid : Prop := scaleStepsRow.holds Tryd.pinned (OpenSpec.ofChange scaleStepsSpec)

/-- ITS FALSE NEIGHBOUR: 'it returns false'. Refute it at one input. -/
def scaleStepsWrong : ChangeSpec := { name := "scaleSteps", fn := fun _ => fun
  | [d] => { results := [.lit (.bool false)], args := [d] }
  | _ => none }
def ScaleStepsWrongFalsely : Prop := scaleStepsRow.holds Tryd.pinned (OpenSpec.ofChange scaleStepsWrong)

/-- 'schismalaw09.ScaleNearest': WHATEVER THE INPUT: true; the input reads as it did. -/
def scaleNearestSpec : ChangeSpec := { name := "scaleNearest", fn := fun _ => fun
  | [d1, d2, d3, d4] => { results := [.lit (.bool true)], args := [d1, d2, d3, d4] }
  | _ => none }
def scaleNearestRow : OpenClaim := { program := "ytdglbjjenihdlaadoor", sum := "17193c8e2aaebf6ecad74c77afe9a6766477fe534724dd22d15229788232198b", func := "schisma/schismalaw09.ScaleNearest", spec := "scaleNearest", unfollowed := true, recurses := true, named := ["schisma/pitch.primes"], apart := false, laid := [("schisma/pitch.primes", laid_schisma_pitch_primes)] }
def ScaleNearestSaid : Prop := scaleNearestRow.holds Tryd.pinned (OpenSpec.ofChange scaleNearestSpec)

/-- ITS FALSE NEIGHBOUR: 'it returns false'. Refute it at one input. -/
def scaleNearestWrong : ChangeSpec := { name := "scaleNearest", fn := fun _ => fun
  | [d1, d2, d3, d4] => { results := [.lit (.bool false)], args := [d1, d2, d3, d4] }
  | _ => none }
def ScaleNearestWrongFalsely : Prop := scaleNearestRow.holds Tryd.pinned (OpenSpec.ofChange scaleNearestWrong)

/- THE SECOND FORM. 'bulk': how many values and letters a reading holds, each counted each time it is reached (what is shared counts as often as it is met; a slice's spare places count too). A statement '..UptoSaid' is the law's where the arguments, and the package variables that the reading takes, are together of bulk at most 1048576: NARROWER than '..Said'. Prove '..Said' where nothing that the law and all that it calls make is longer than what came in: it says more and counts as full. Else prove '..UptoSaid'. A law counts once. -/
mutual
def uptoBulk {H : Type} : DataW H → Nat
  | .lit (.string bytes) => bytes.length + 1
  | .lit _ => 1
  | .nil => 1
  | .ptr d => uptoBulk d + 1
  | .slice elems spare => uptoBulkAll elems + uptoBulkAll spare + 1
  | .agg parts => uptoBulkAll parts + 1
  | .iface _ d => uptoBulk d + 1
  | .map entries => uptoBulkEntries entries + 1
  | .held _ => 1
def uptoBulkAll {H : Type} : List (DataW H) → Nat
  | [] => 0
  | d :: r => uptoBulk d + uptoBulkAll r
def uptoBulkEntries {H : Type} : List (Lit × DataW H) → Nat
  | [] => 0
  | x :: r => uptoBulkEntry x + uptoBulkEntries r
def uptoBulkEntry {H : Type} : Lit × DataW H → Nat
  | (.string bytes, d) => bytes.length + uptoBulk d + 1
  | (_, d) => uptoBulk d + 1
 end
def uptoSmall : (H : Type) → List (DataW H) → Bool := fun _ ds => decide (uptoBulkAll ds ≤ 1048576)
def OpenSpec.upto (s : _root_.Go.ChangeSpec) : _root_.Go.OpenSpec := { _root_.Go.OpenSpec.ofChange s with cond := some uptoSmall }

/-- 'schismalaw09.ScaleMatchesReference', WHERE WHAT IT READS IS OF BULK AT MOST 1048576: true; the input reads as it did. -/
def scaleMatchesReferenceUptoRow : OpenClaim := { program := "ytdglbjjenihdlaadoor", sum := "17193c8e2aaebf6ecad74c77afe9a6766477fe534724dd22d15229788232198b", func := "schisma/schismalaw09.ScaleMatchesReference", spec := "scaleMatchesReference", unfollowed := true, recurses := true, named := ["schisma/pitch.primes"], apart := false, laid := [("schisma/pitch.primes", laid_schisma_pitch_primes)], narrowed := true }
def ScaleMatchesReferenceUptoSaid : Prop := scaleMatchesReferenceUptoRow.holds Tryd.pinned (OpenSpec.upto scaleMatchesReferenceSpec)

/-- 'schismalaw09.ScaleOctaves', WHERE WHAT IT READS IS OF BULK AT MOST 1048576: true; the input reads as it did. -/
def scaleOctavesUptoRow : OpenClaim := { program := "ytdglbjjenihdlaadoor", sum := "17193c8e2aaebf6ecad74c77afe9a6766477fe534724dd22d15229788232198b", func := "schisma/schismalaw09.ScaleOctaves", spec := "scaleOctaves", unfollowed := true, recurses := true, named := ["schisma/pitch.primes"], apart := false, laid := [("schisma/pitch.primes", laid_schisma_pitch_primes)], narrowed := true }
def ScaleOctavesUptoSaid : Prop := scaleOctavesUptoRow.holds Tryd.pinned (OpenSpec.upto scaleOctavesSpec)

/-- 'schismalaw09.ScaleModes', WHERE WHAT IT READS IS OF BULK AT MOST 1048576: true; the input reads as it did. -/
def scaleModesUptoRow : OpenClaim := { program := "ytdglbjjenihdlaadoor", sum := "17193c8e2aaebf6ecad74c77afe9a6766477fe534724dd22d15229788232198b", func := "schisma/schismalaw09.ScaleModes", spec := "scaleModes", unfollowed := true, recurses := true, named := ["schisma/pitch.primes"], apart := false, laid := [("schisma/pitch.primes", laid_schisma_pitch_primes)], narrowed := true }
def ScaleModesUptoSaid : Prop := scaleModesUptoRow.holds Tryd.pinned (OpenSpec.upto scaleModesSpec)

/-- 'schismalaw09.ScaleDegrees', WHERE WHAT IT READS IS OF BULK AT MOST 1048576: true; the input reads as it did. -/
def scaleDegreesUptoRow : OpenClaim := { program := "ytdglbjjenihdlaadoor", sum := "17193c8e2aaebf6ecad74c77afe9a6766477fe534724dd22d15229788232198b", func := "schisma/schismalaw09.ScaleDegrees", spec := "scaleDegrees", unfollowed := true, recurses := true, named := ["schisma/pitch.primes"], apart := false, laid := [("schisma/pitch.primes", laid_schisma_pitch_primes)], narrowed := true }
def ScaleDegreesUptoSaid : Prop := scaleDegreesUptoRow.holds Tryd.pinned (OpenSpec.upto scaleDegreesSpec)

/-- 'schismalaw09.ScaleLonger', WHERE WHAT IT READS IS OF BULK AT MOST 1048576: true; the input reads as it did. -/
def scaleLongerUptoRow : OpenClaim := { program := "ytdglbjjenihdlaadoor", sum := "17193c8e2aaebf6ecad74c77afe9a6766477fe534724dd22d15229788232198b", func := "schisma/schismalaw09.ScaleLonger", spec := "scaleLonger", unfollowed := true, recurses := true, named := ["schisma/pitch.primes"], apart := false, laid := [("schisma/pitch.primes", laid_schisma_pitch_primes)], narrowed := true }
def ScaleLongerUptoSaid : Prop := scaleLongerUptoRow.holds Tryd.pinned (OpenSpec.upto scaleLongerSpec)

/-- 'schismalaw09.ScaleThreeGaps', WHERE WHAT IT READS IS OF BULK AT MOST 1048576: true; the input reads as it did. -/
def scaleThreeGapsUptoRow : OpenClaim := { program := "ytdglbjjenihdlaadoor", sum := "17193c8e2aaebf6ecad74c77afe9a6766477fe534724dd22d15229788232198b", func := "schisma/schismalaw09.ScaleThreeGaps", spec := "scaleThreeGaps", unfollowed := true, recurses := true, named := ["schisma/pitch.primes"], apart := false, laid := [("schisma/pitch.primes", laid_schisma_pitch_primes)], narrowed := true }
def ScaleThreeGapsUptoSaid : Prop := scaleThreeGapsUptoRow.holds Tryd.pinned (OpenSpec.upto scaleThreeGapsSpec)

/-- 'schismalaw09.ScaleSteps', WHERE WHAT IT READS IS OF BULK AT MOST 1048576: true; the input reads as it did. -/
def scaleStepsUptoRow : OpenClaim := { program := "ytdglbjjenihdlaadoor", sum := "17193c8e2aaebf6ecad74c77afe9a6766477fe534724dd22d15229788232198b", func := "schisma/schismalaw09.ScaleSteps", spec := "scaleSteps", unfollowed := true, recurses := true, named := ["schisma/pitch.primes"], apart := false, laid := [("schisma/pitch.primes", laid_schisma_pitch_primes)], narrowed := true }
def ScaleStepsUptoSaid : Prop := scaleStepsUptoRow.holds Tryd.pinned (OpenSpec.upto scaleStepsSpec)

/-- 'schismalaw09.ScaleNearest', WHERE WHAT IT READS IS OF BULK AT MOST 1048576: true; the input reads as it did. -/
def scaleNearestUptoRow : OpenClaim := { program := "ytdglbjjenihdlaadoor", sum := "17193c8e2aaebf6ecad74c77afe9a6766477fe534724dd22d15229788232198b", func := "schisma/schismalaw09.ScaleNearest", spec := "scaleNearest", unfollowed := true, recurses := true, named := ["schisma/pitch.primes"], apart := false, laid := [("schisma/pitch.primes", laid_schisma_pitch_primes)], narrowed := true }
def ScaleNearestUptoSaid : Prop := scaleNearestUptoRow.holds Tryd.pinned (OpenSpec.upto scaleNearestSpec)

end Rows
end Go.Proofs.YtdglbjjenihdlaaDoor

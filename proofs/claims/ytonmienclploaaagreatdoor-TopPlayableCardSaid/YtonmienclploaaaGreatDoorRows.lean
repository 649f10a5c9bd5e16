/-
  NARROWER THAN 'FOR EVERY INPUT', by the rows' own cells (each row's printed sentence says how): TopBreathed: laid · TopPlayable: laid.
  DERIVED. THE GIVEN ROWS OF THIS SEAT. 2 by the template 'for every input the law returns true; each argument reads behind the call as it read before'; 0 by the template 'total and deterministic' (their statements: YtonmienclploaaaGreatDoorTotals.lean).
  GIVEN WITH THE SEED: the statements are not yours to turn. If you find one false, say at which input.
  Laid BY PROGRAM, IN A SANDBOX (cutbox-rows.mjs): the forced cells as the released guide's own fill.sh prints them over the translation f8b5abd278e9ce23… (all of the seat's roots in one cut). By AI agents, Wed Nov 11 2026. No macro, syntax, notation, axiom, sorry.
-/
import Derived.Test.YtonmienclploaaaGreatDoorChecked
import GoSem.Claim
import GoSem.ClaimJoined
import GoSem.ClaimMapViews
import Derived.JoinedTies
import Derived.KernelRfl
namespace Go.Proofs.YtonmienclploaaaGreatDoor
/- THE CELL 'sum', in the pinned program and in every row, IS THE sha256 OF THE DUMP (.gsa) THAT YtonmienclploaaaGreatDoorProg.lean LOADS. Nothing in Lean hashes anything: it is a label: what it is worth is what the hold of that sum in a sandbox is worth. -/
noncomputable def Tryz.pinned : Pinned := { name := "ytonmienclploaaagreatdoor", sum := "f8b5abd278e9ce23d663744a6efeb8fd9546d5e142ead67b4eec0ae65dd9a772", checked := Tryz.checked }
namespace Rows
def none {H : Type} : Left H := { results := [], args := [] }

/- WHAT THE LISTED PACKAGE-LEVEL VARIABLES READ AS WHEN THE CALL BEGINS. Each datum BY PROGRAM (the guide's laid-datum.mjs) off the statement by which the dump's own 'gosem.cut.vars' lays the variable. In a bare row this is a premise. The card (YtonmienclploaaaGreatDoorCards.lean) ties it to the program's text. -/
def laid_schisma_pitch_primes {H : Type} : DataW H := .agg [.lit (.int .i64 2), .lit (.int .i64 3), .lit (.int .i64 5), .lit (.int .i64 7), .lit (.int .i64 11), .lit (.int .i64 13)]
def laid_schisma_size_logs {H : Type} : DataW H := .agg [.agg [.lit (.int .i64 1000000000), .lit (.int .i64 1000000000)], .agg [.lit (.int .i64 1584962500), .lit (.int .i64 1584962501)], .agg [.lit (.int .i64 2321928094), .lit (.int .i64 2321928095)], .agg [.lit (.int .i64 2807354922), .lit (.int .i64 2807354923)], .agg [.lit (.int .i64 3459431618), .lit (.int .i64 3459431619)], .agg [.lit (.int .i64 3700439718), .lit (.int .i64 3700439719)]]
def laid_schisma_brass_primes {H : Type} : DataW H := .agg [.lit (.int .i64 2), .lit (.int .i64 3), .lit (.int .i64 5), .lit (.int .i64 7), .lit (.int .i64 11), .lit (.int .i64 13)]

/-- 'schismatop.TopBreathed': WHATEVER THE INPUT: true; the input reads as it did. -/
def topBreathedSpec : ChangeSpec := { name := "topBreathed", fn := fun _ => fun
  | [d1, d2, d3] => { results := [.lit (.bool true)], args := [d1, d2, d3] }
  | _ => none }
def topBreathedRow : OpenClaim := { program := "ytonmienclploaaagreatdoor", sum := "f8b5abd278e9ce23d663744a6efeb8fd9546d5e142ead67b4eec0ae65dd9a772", func := "schisma/schismatop.TopBreathed", spec := "topBreathed", unfollowed := true, recurses := true, named := ["schisma/pitch.primes", "schisma/size.logs"], plainKeys := false, apart := false, laid := [("schisma/pitch.primes", laid_schisma_pitch_primes), ("schisma/size.logs", laid_schisma_size_logs)] }
def TopBreathedSaid : Prop := topBreathedRow.holds Tryz.pinned (OpenSpec.ofChange topBreathedSpec)

/-- ITS FALSE NEIGHBOUR: 'it returns false'. Refute it at one input. -/
def topBreathedWrong : ChangeSpec := { name := "topBreathed", fn := fun _ => fun
  | [d1, d2, d3] => { results := [.lit (.bool false)], args := [d1, d2, d3] }
  | _ => none }
def TopBreathedWrongFalsely : Prop := topBreathedRow.holds Tryz.pinned (OpenSpec.ofChange topBreathedWrong)

/-- 'schismatop.TopPlayable': WHATEVER THE INPUT: true; the input reads as it did. -/
def topPlayableSpec : ChangeSpec := { name := "topPlayable", fn := fun _ => fun
  | [d1, d2] => { results := [.lit (.bool true)], args := [d1, d2] }
  | _ => none }
def topPlayableRow : OpenClaim := { program := "ytonmienclploaaagreatdoor", sum := "f8b5abd278e9ce23d663744a6efeb8fd9546d5e142ead67b4eec0ae65dd9a772", func := "schisma/schismatop.TopPlayable", spec := "topPlayable", unfollowed := true, recurses := true, named := ["schisma/pitch.primes", "schisma/size.logs", "schisma/brass.primes"], plainKeys := false, apart := false, laid := [("schisma/pitch.primes", laid_schisma_pitch_primes), ("schisma/size.logs", laid_schisma_size_logs), ("schisma/brass.primes", laid_schisma_brass_primes)] }
def TopPlayableSaid : Prop := topPlayableRow.holds Tryz.pinned (OpenSpec.ofChange topPlayableSpec)

/-- ITS FALSE NEIGHBOUR: 'it returns false'. Refute it at one input. -/
def topPlayableWrong : ChangeSpec := { name := "topPlayable", fn := fun _ => fun
  | [d1, d2] => { results := [.lit (.bool false)], args := [d1, d2] }
  | _ => none }
def TopPlayableWrongFalsely : Prop := topPlayableRow.holds Tryz.pinned (OpenSpec.ofChange topPlayableWrong)

/- THE SECOND FORM. 'bulk': how many values and letters a reading holds, each counted each time it is reached (what is shared counts as often as it is met; a slice's spare places count too). A statement '..UptoSaid' is the law's where the arguments, and the package variables that the reading takes, are together of bulk at most 1048576: NARROWER than '..Said'. Prove '..Said' where nothing that the law and all that it calls make is longer than what came in: it says more and counts as full. Else prove '..UptoSaid'. A law counts once. -/
mutual
def uptoBulk {H : Type} : DataW H → Nat
  | .lit (.string bytes) => bytes.length + 1
  | .lit _ => 1
  | .nil => 1
  | .ptr d => uptoBulk d + 1
  | .slice elems spare => uptoBulkAll elems + uptoBulkAll spare + 1
  | .agg parts => uptoBulkAll parts + 1
  | .iface _ d => uptoBulk d + 1
  | .map entries => uptoBulkEntries entries + 1
  | .held _ => 1
def uptoBulkAll {H : Type} : List (DataW H) → Nat
  | [] => 0
  | d :: r => uptoBulk d + uptoBulkAll r
def uptoBulkEntries {H : Type} : List (Lit × DataW H) → Nat
  | [] => 0
  | x :: r => uptoBulkEntry x + uptoBulkEntries r
def uptoBulkEntry {H : Type} : Lit × DataW H → Nat
  | (.string bytes, d) => bytes.length + uptoBulk d + 1
  | (_, d) => uptoBulk d + 1
 end
def uptoSmall : (H : Type) → List (DataW H) → Bool := fun _ ds => decide (uptoBulkAll ds ≤ 1048576)
def OpenSpec.upto (s : _root_.Go.ChangeSpec) : _root_.Go.OpenSpec := { _root_.Go.OpenSpec.ofChange s with cond := some uptoSmall }

/-- 'schismatop.TopBreathed', WHERE WHAT IT READS IS OF BULK AT MOST 1048576: true; the input reads as it did. -/
def topBreathedUptoRow : OpenClaim := { program := "ytonmienclploaaagreatdoor", sum := "f8b5abd278e9ce23d663744a6efeb8fd9546d5e142ead67b4eec0ae65dd9a772", func := "schisma/schismatop.TopBreathed", spec := "topBreathed", unfollowed := true, recurses := true, named := ["schisma/pitch.primes", "schisma/size.logs"], plainKeys := false, apart := false, laid := [("schisma/pitch.primes", laid_schisma_pitch_primes), ("schisma/size.logs", laid_schisma_size_logs)], narrowed := true }
def TopBreathedUptoSaid : Prop := topBreathedUptoRow.holds Tryz.pinned (OpenSpec.upto topBreathedSpec)

/-- 'schismatop.TopPlayable', WHERE WHAT IT READS IS OF BULK AT MOST 1048576: true; the input reads as it did. -/
def topPlayableUptoRow : OpenClaim := { program := "ytonmienclploaaagreatdoor", sum := "f8b5abd278e9ce23d663744a6efeb8fd9546d5e142ead67b4eec0ae65dd9a772", func := "schisma/schismatop.TopPlayable", spec := "topPlayable", unfollowed := true, recurses := true, named := ["schisma/pitch.primes", "schisma/size.logs", "schisma/brass.primes"], plainKeys := false, apart := false, laid := [("schisma/pitch.primes", laid_schisma_pitch_primes), ("schisma/size.logs", laid_schisma_size_logs), ("schisma/brass.primes", laid_schisma_brass_primes)], narrowed := true }
def TopPlayableUptoSaid : Prop := topPlayableUptoRow.holds Tryz.pinned (OpenSpec.upto topPlayableSpec)

end Rows
end Go.Proofs.YtonmienclploaaaGreatDoor

/-
  DERIVED. GIVEN WITH THE SEED: THE CARDS: each row of YtonmienclploaaaGreatDoorRows.lean that lists a variable, with what it lists TIED to the program's text (the seventh form; the later family's looks); each row that meets fmt, with fmt's text TOLD by the authors' own Lean function (tested against real Go, not proved from fmt's source: count such statements apart). THE CARD IS WHAT COUNTS. Prove the row's statement (the work); the ties are given (YtonmienclploaaaGreatDoorTie.lean); close each card by the builder's one call (the guide's Derived/Test/ToyasCard.lean, 'card_holds'). Laid BY PROGRAM, IN A SANDBOX (cutbox-door.mjs). By AI agents, Wed Nov 11 2026. No macro, syntax, notation, axiom, sorry.
-/
import Derived.Test.YtonmienclploaaaGreatDoorRows
import GoSem.ClaimSeven
namespace Go.Proofs.YtonmienclploaaaGreatDoor
namespace Rows

/-- THE TIED CARD OF 'schismatop.TopBreathed'. -/
def topBreathedCard : Claim7 := { stood := { row := topBreathedRow, standIns := [], harness := (true, "16d1337e2fd2854471060f72ad17ce512eb1322c1c621be3d73071357ebf018e"), looks := true }, kinds := [], alts := [], laidByText := true, laidKinds := [.data, .data], laidTests := true, laidLooks := .later }
def TopBreathedCardSaid : Prop := Claim7.holds Tryz.pinned (.plain (OpenSpec.ofChange topBreathedSpec)) topBreathedCard

/-- THE TIED CARD OF 'schismatop.TopPlayable'. -/
def topPlayableCard : Claim7 := { stood := { row := topPlayableRow, standIns := [], harness := (true, "16d1337e2fd2854471060f72ad17ce512eb1322c1c621be3d73071357ebf018e"), looks := true }, kinds := [], alts := [], laidByText := true, laidKinds := [.data, .data, .data], laidTests := true, laidLooks := .later }
def TopPlayableCardSaid : Prop := Claim7.holds Tryz.pinned (.plain (OpenSpec.ofChange topPlayableSpec)) topPlayableCard

/-- THE SECOND FORM's CARD OF 'schismatop.TopBreathed'. -/
def topBreathedUptoCard : Claim7 := { stood := { row := topBreathedUptoRow, standIns := [], harness := (true, "16d1337e2fd2854471060f72ad17ce512eb1322c1c621be3d73071357ebf018e"), looks := true }, kinds := [], alts := [], laidByText := true, laidKinds := [.data, .data], laidTests := true, laidLooks := .later }
def TopBreathedUptoCardSaid : Prop := Claim7.holds Tryz.pinned (.plain (OpenSpec.upto topBreathedSpec)) topBreathedUptoCard

/-- THE SECOND FORM's CARD OF 'schismatop.TopPlayable'. -/
def topPlayableUptoCard : Claim7 := { stood := { row := topPlayableUptoRow, standIns := [], harness := (true, "16d1337e2fd2854471060f72ad17ce512eb1322c1c621be3d73071357ebf018e"), looks := true }, kinds := [], alts := [], laidByText := true, laidKinds := [.data, .data, .data], laidTests := true, laidLooks := .later }
def TopPlayableUptoCardSaid : Prop := Claim7.holds Tryz.pinned (.plain (OpenSpec.upto topPlayableSpec)) topPlayableUptoCard
end Rows
end Go.Proofs.YtonmienclploaaaGreatDoor

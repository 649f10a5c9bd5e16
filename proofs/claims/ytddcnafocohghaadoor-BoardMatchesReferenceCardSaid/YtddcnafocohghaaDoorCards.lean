/-
  DERIVED. GIVEN WITH THE SEED: THE CARDS: each row of YtddcnafocohghaaDoorRows.lean that lists a variable, with what it lists TIED to the program's text (the seventh form; the later family's looks); each row that meets fmt, with fmt's text TOLD by the authors' own Lean function (tested against real Go, not proved from fmt's source: count such statements apart). THE CARD IS WHAT COUNTS. Prove the row's statement (the work); the ties are given (YtddcnafocohghaaDoorTie.lean); close each card by the builder's one call (the guide's Derived/Test/ToyasCard.lean, 'card_holds'). Laid BY PROGRAM, IN A SANDBOX (cutbox-door.mjs). By AI agents, Wed Nov 11 2026. No macro, syntax, notation, axiom, sorry.
-/
import Derived.Test.YtddcnafocohghaaDoorRows
import GoSem.ClaimSeven
namespace Go.Proofs.YtddcnafocohghaaDoor
namespace Rows

/-- THE TIED CARD OF 'schismalaw10.BoardMatchesReference'. -/
def boardMatchesReferenceCard : Claim7 := { stood := { row := boardMatchesReferenceRow, standIns := [], harness := (true, "ed6620d6aeb807216b9949ae6c3df884ab9d7b4c4829489397076d8234fb303e"), looks := false }, kinds := [], alts := [], laidByText := true, laidKinds := [.data], laidTests := true, laidLooks := .later }
def BoardMatchesReferenceCardSaid : Prop := Claim7.holds Tryd.pinned (.plain (OpenSpec.ofChange boardMatchesReferenceSpec)) boardMatchesReferenceCard

/-- THE TIED CARD OF 'schismalaw10.BoardFound'. -/
def boardFoundCard : Claim7 := { stood := { row := boardFoundRow, standIns := [], harness := (true, "ed6620d6aeb807216b9949ae6c3df884ab9d7b4c4829489397076d8234fb303e"), looks := false }, kinds := [], alts := [], laidByText := true, laidKinds := [.data], laidTests := true, laidLooks := .later }
def BoardFoundCardSaid : Prop := Claim7.holds Tryd.pinned (.plain (OpenSpec.ofChange boardFoundSpec)) boardFoundCard

/-- THE TIED CARD OF 'schismalaw10.BoardHands'. -/
def boardHandsCard : Claim7 := { stood := { row := boardHandsRow, standIns := [], harness := (true, "ed6620d6aeb807216b9949ae6c3df884ab9d7b4c4829489397076d8234fb303e"), looks := false }, kinds := [], alts := [], laidByText := true, laidKinds := [.data], laidTests := true, laidLooks := .later }
def BoardHandsCardSaid : Prop := Claim7.holds Tryd.pinned (.plain (OpenSpec.ofChange boardHandsSpec)) boardHandsCard

/-- THE TIED CARD OF 'schismalaw10.BoardChords'. -/
def boardChordsCard : Claim7 := { stood := { row := boardChordsRow, standIns := [], harness := (true, "ed6620d6aeb807216b9949ae6c3df884ab9d7b4c4829489397076d8234fb303e"), looks := false }, kinds := [], alts := [], laidByText := true, laidKinds := [.data], laidTests := true, laidLooks := .later }
def BoardChordsCardSaid : Prop := Claim7.holds Tryd.pinned (.plain (OpenSpec.ofChange boardChordsSpec)) boardChordsCard

/-- THE TIED CARD OF 'schismalaw10.BoardFewer'. -/
def boardFewerCard : Claim7 := { stood := { row := boardFewerRow, standIns := [], harness := (true, "ed6620d6aeb807216b9949ae6c3df884ab9d7b4c4829489397076d8234fb303e"), looks := false }, kinds := [], alts := [], laidByText := true, laidKinds := [.data], laidTests := true, laidLooks := .later }
def BoardFewerCardSaid : Prop := Claim7.holds Tryd.pinned (.plain (OpenSpec.ofChange boardFewerSpec)) boardFewerCard

/-- THE TIED CARD OF 'schismalaw10.BoardBetter'. -/
def boardBetterCard : Claim7 := { stood := { row := boardBetterRow, standIns := [], harness := (true, "ed6620d6aeb807216b9949ae6c3df884ab9d7b4c4829489397076d8234fb303e"), looks := false }, kinds := [], alts := [], laidByText := true, laidKinds := [.data], laidTests := true, laidLooks := .later }
def BoardBetterCardSaid : Prop := Claim7.holds Tryd.pinned (.plain (OpenSpec.ofChange boardBetterSpec)) boardBetterCard

/-- THE TIED CARD OF 'schismalaw10.BoardPlace'. -/
def boardPlaceCard : Claim7 := { stood := { row := boardPlaceRow, standIns := [], harness := (true, "ed6620d6aeb807216b9949ae6c3df884ab9d7b4c4829489397076d8234fb303e"), looks := false }, kinds := [], alts := [], laidByText := true, laidKinds := [.data], laidTests := true, laidLooks := .later }
def BoardPlaceCardSaid : Prop := Claim7.holds Tryd.pinned (.plain (OpenSpec.ofChange boardPlaceSpec)) boardPlaceCard

/-- THE TIED CARD OF 'schismalaw10.BoardTransposed'. -/
def boardTransposedCard : Claim7 := { stood := { row := boardTransposedRow, standIns := [], harness := (true, "ed6620d6aeb807216b9949ae6c3df884ab9d7b4c4829489397076d8234fb303e"), looks := false }, kinds := [], alts := [], laidByText := true, laidKinds := [.data], laidTests := true, laidLooks := .later }
def BoardTransposedCardSaid : Prop := Claim7.holds Tryd.pinned (.plain (OpenSpec.ofChange boardTransposedSpec)) boardTransposedCard

/-- THE SECOND FORM's CARD OF 'schismalaw10.BoardMatchesReference'. -/
def boardMatchesReferenceUptoCard : Claim7 := { stood := { row := boardMatchesReferenceUptoRow, standIns := [], harness := (true, "ed6620d6aeb807216b9949ae6c3df884ab9d7b4c4829489397076d8234fb303e"), looks := false }, kinds := [], alts := [], laidByText := true, laidKinds := [.data], laidTests := true, laidLooks := .later }
def BoardMatchesReferenceUptoCardSaid : Prop := Claim7.holds Tryd.pinned (.plain (OpenSpec.upto boardMatchesReferenceSpec)) boardMatchesReferenceUptoCard

/-- THE SECOND FORM's CARD OF 'schismalaw10.BoardFound'. -/
def boardFoundUptoCard : Claim7 := { stood := { row := boardFoundUptoRow, standIns := [], harness := (true, "ed6620d6aeb807216b9949ae6c3df884ab9d7b4c4829489397076d8234fb303e"), looks := false }, kinds := [], alts := [], laidByText := true, laidKinds := [.data], laidTests := true, laidLooks := .later }
def BoardFoundUptoCardSaid : Prop := Claim7.holds Tryd.pinned (.plain (OpenSpec.upto boardFoundSpec)) boardFoundUptoCard

/-- THE SECOND FORM's CARD OF 'schismalaw10.BoardHands'. -/
def boardHandsUptoCard : Claim7 := { stood := { row := boardHandsUptoRow, standIns := [], harness := (true, "ed6620d6aeb807216b9949ae6c3df884ab9d7b4c4829489397076d8234fb303e"), looks := false }, kinds := [], alts := [], laidByText := true, laidKinds := [.data], laidTests := true, laidLooks := .later }
def BoardHandsUptoCardSaid : Prop := Claim7.holds Tryd.pinned (.plain (OpenSpec.upto boardHandsSpec)) boardHandsUptoCard

/-- THE SECOND FORM's CARD OF 'schismalaw10.BoardChords'. -/
def boardChordsUptoCard : Claim7 := { stood := { row := boardChordsUptoRow, standIns := [], harness := (true, "ed6620d6aeb807216b9949ae6c3df884ab9d7b4c4829489397076d8234fb303e"), looks := false }, kinds := [], alts := [], laidByText := true, laidKinds := [.data], laidTests := true, laidLooks := .later }
def BoardChordsUptoCardSaid : Prop := Claim7.holds Tryd.pinned (.plain (OpenSpec.upto boardChordsSpec)) boardChordsUptoCard

/-- THE SECOND FORM's CARD OF 'schismalaw10.BoardFewer'. -/
def boardFewerUptoCard : Claim7 := { stood := { row := boardFewerUptoRow, standIns := [], harness := (true, "ed6620d6aeb807216b9949ae6c3df884ab9d7b4c4829489397076d8234fb303e"), looks := false }, kinds := [], alts := [], laidByText := true, laidKinds := [.data], laidTests := true, laidLooks := .later }
def BoardFewerUptoCardSaid : Prop := Claim7.holds Tryd.pinned (.plain (OpenSpec.upto boardFewerSpec)) boardFewerUptoCard

/-- THE SECOND FORM's CARD OF 'schismalaw10.BoardBetter'. -/
def boardBetterUptoCard : Claim7 := { stood := { row := boardBetterUptoRow, standIns := [], harness := (true, "ed6620d6aeb807216b9949ae6c3df884ab9d7b4c4829489397076d8234fb303e"), looks := false }, kinds := [], alts := [], laidByText := true, laidKinds := [.data], laidTests := true, laidLooks := .later }
def BoardBetterUptoCardSaid : Prop := Claim7.holds Tryd.pinned (.plain (OpenSpec.upto boardBetterSpec)) boardBetterUptoCard

/-- THE SECOND FORM's CARD OF 'schismalaw10.BoardPlace'. -/
def boardPlaceUptoCard : Claim7 := { stood := { row := boardPlaceUptoRow, standIns := [], harness := (true, "ed6620d6aeb807216b9949ae6c3df884ab9d7b4c4829489397076d8234fb303e"), looks := false }, kinds := [], alts := [], laidByText := true, laidKinds := [.data], laidTests := true, laidLooks := .later }
def BoardPlaceUptoCardSaid : Prop := Claim7.holds Tryd.pinned (.plain (OpenSpec.upto boardPlaceSpec)) boardPlaceUptoCard

/-- THE SECOND FORM's CARD OF 'schismalaw10.BoardTransposed'. -/
def boardTransposedUptoCard : Claim7 := { stood := { row := boardTransposedUptoRow, standIns := [], harness := (true, "ed6620d6aeb807216b9949ae6c3df884ab9d7b4c4829489397076d8234fb303e"), looks := false }, kinds := [], alts := [], laidByText := true, laidKinds := [.data], laidTests := true, laidLooks := .later }
def BoardTransposedUptoCardSaid : Prop := Claim7.holds Tryd.pinned (.plain (OpenSpec.upto boardTransposedSpec)) boardTransposedUptoCard
end Rows
end Go.Proofs.YtddcnafocohghaaDoor

/-
  DERIVED. GIVEN WITH THE SEED: THE CARDS: each row of YtdglbjjenihdlaaDoorRows.lean that lists a variable, with what it lists TIED to the program's text (the seventh form; the later family's looks); each row that meets fmt, with fmt's text TOLD by the authors' own Lean function (tested against real Go, not proved from fmt's source: count such statements apart). THE CARD IS WHAT COUNTS. Prove the row's statement (the work); the ties are given (YtdglbjjenihdlaaDoorTie.lean); close each card by the builder's one call (the guide's Derived/Test/ToyasCard.lean, 'card_holds'). Laid BY PROGRAM, IN A SANDBOX (cutbox-door.mjs). By AI agents, Wed Nov 11 2026. No macro, syntax, notation, axiom, sorry.
-/
import Derived.Test.YtdglbjjenihdlaaDoorRows
import GoSem.ClaimSeven
namespace Go.Proofs.YtdglbjjenihdlaaDoor
namespace Rows

/-- THE TIED CARD OF 'schismalaw09.ScaleMatchesReference'. -/
def scaleMatchesReferenceCard : Claim7 := { stood := { row := scaleMatchesReferenceRow, standIns := [], harness := (true, "26c412428bd3a17c902e493df7a3e83f13cd8b4f1ff5bdaf58c663d8e5b763d1"), looks := true }, kinds := [], alts := [], laidByText := true, laidKinds := [.data], laidTests := true, laidLooks := .later }
def ScaleMatchesReferenceCardSaid : Prop := Claim7.holds Tryd.pinned (.plain (OpenSpec.ofChange scaleMatchesReferenceSpec)) scaleMatchesReferenceCard

/-- THE TIED CARD OF 'schismalaw09.ScaleOctaves'. -/
def scaleOctavesCard : Claim7 := { stood := { row := scaleOctavesRow, standIns := [], harness := (true, "26c412428bd3a17c902e493df7a3e83f13cd8b4f1ff5bdaf58c663d8e5b763d1"), looks := true }, kinds := [], alts := [], laidByText := true, laidKinds := [.data], laidTests := true, laidLooks := .later }
def ScaleOctavesCardSaid : Prop := Claim7.holds Tryd.pinned (.plain (OpenSpec.ofChange scaleOctavesSpec)) scaleOctavesCard

/-- THE TIED CARD OF 'schismalaw09.ScaleModes'. -/
def scaleModesCard : Claim7 := { stood := { row := scaleModesRow, standIns := [], harness := (true, "26c412428bd3a17c902e493df7a3e83f13cd8b4f1ff5bdaf58c663d8e5b763d1"), looks := true }, kinds := [], alts := [], laidByText := true, laidKinds := [.data], laidTests := true, laidLooks := .later }
def ScaleModesCardSaid : Prop := Claim7.holds Tryd.pinned (.plain (OpenSpec.ofChange scaleModesSpec)) scaleModesCard

/-- THE TIED CARD OF 'schismalaw09.ScaleDegrees'. -/
def scaleDegreesCard : Claim7 := { stood := { row := scaleDegreesRow, standIns := [], harness := (true, "26c412428bd3a17c902e493df7a3e83f13cd8b4f1ff5bdaf58c663d8e5b763d1"), looks := true }, kinds := [], alts := [], laidByText := true, laidKinds := [.data], laidTests := true, laidLooks := .later }
def ScaleDegreesCardSaid : Prop := Claim7.holds Tryd.pinned (.plain (OpenSpec.ofChange scaleDegreesSpec)) scaleDegreesCard

/-- THE TIED CARD OF 'schismalaw09.ScaleLonger'. -/
def scaleLongerCard : Claim7 := { stood := { row := scaleLongerRow, standIns := [], harness := (true, "26c412428bd3a17c902e493df7a3e83f13cd8b4f1ff5bdaf58c663d8e5b763d1"), looks := true }, kinds := [], alts := [], laidByText := true, laidKinds := [.data], laidTests := true, laidLooks := .later }
def ScaleLongerCardSaid : Prop := Claim7.holds Tryd.pinned (.plain (OpenSpec.ofChange scaleLongerSpec)) scaleLongerCard

/-- THE TIED CARD OF 'schismalaw09.ScaleThreeGaps'. -/
def scaleThreeGapsCard : Claim7 := { stood := { row := scaleThreeGapsRow, standIns := [], harness := (true, "26c412428bd3a17c902e493df7a3e83f13cd8b4f1ff5bdaf58c663d8e5b763d1"), looks := true }, kinds := [], alts := [], laidByText := true, laidKinds := [.data], laidTests := true, laidLooks := .later }
def ScaleThreeGapsCardSaid : Prop := Claim7.holds Tryd.pinned (.plain (OpenSpec.ofChange scaleThreeGapsSpec)) scaleThreeGapsCard

/-- THE TIED CARD OF 'schismalaw09.ScaleSteps'. -/
def scaleStepsCard : Claim7 := { stood := { row := scaleStepsRow, standIns := [], harness := (true, "26c412428bd3a17c902e493df7a3e83f13cd8b4f1ff5bdaf58c663d8e5b763d1"), looks := true }, kinds := [], alts := [], laidByText := true, laidKinds := [.data], laidTests := true, laidLooks := .later }
def ScaleStepsCardSaid : Prop := Claim7.holds Tryd.pinned (.plain (OpenSpec.ofChange scaleStepsSpec)) scaleStepsCard

/-- THE TIED CARD OF 'schismalaw09.ScaleNearest'. -/
def scaleNearestCard : Claim7 := { stood := { row := scaleNearestRow, standIns := [], harness := (true, "26c412428bd3a17c902e493df7a3e83f13cd8b4f1ff5bdaf58c663d8e5b763d1"), looks := true }, kinds := [], alts := [], laidByText := true, laidKinds := [.data], laidTests := true, laidLooks := .later }
def ScaleNearestCardSaid : Prop := Claim7.holds Tryd.pinned (.plain (OpenSpec.ofChange scaleNearestSpec)) scaleNearestCard

/-- THE SECOND FORM's CARD OF 'schismalaw09.ScaleMatchesReference'. -/
def scaleMatchesReferenceUptoCard : Claim7 := { stood := { row := scaleMatchesReferenceUptoRow, standIns := [], harness := (true, "26c412428bd3a17c902e493df7a3e83f13cd8b4f1ff5bdaf58c663d8e5b763d1"), looks := true }, kinds := [], alts := [], laidByText := true, laidKinds := [.data], laidTests := true, laidLooks := .later }
def ScaleMatchesReferenceUptoCardSaid : Prop := Claim7.holds Tryd.pinned (.plain (OpenSpec.upto scaleMatchesReferenceSpec)) scaleMatchesReferenceUptoCard

/-- THE SECOND FORM's CARD OF 'schismalaw09.ScaleOctaves'. -/
def scaleOctavesUptoCard : Claim7 := { stood := { row := scaleOctavesUptoRow, standIns := [], harness := (true, "26c412428bd3a17c902e493df7a3e83f13cd8b4f1ff5bdaf58c663d8e5b763d1"), looks := true }, kinds := [], alts := [], laidByText := true, laidKinds := [.data], laidTests := true, laidLooks := .later }
def ScaleOctavesUptoCardSaid : Prop := Claim7.holds Tryd.pinned (.plain (OpenSpec.upto scaleOctavesSpec)) scaleOctavesUptoCard

/-- THE SECOND FORM's CARD OF 'schismalaw09.ScaleModes'. -/
def scaleModesUptoCard : Claim7 := { stood := { row := scaleModesUptoRow, standIns := [], harness := (true, "26c412428bd3a17c902e493df7a3e83f13cd8b4f1ff5bdaf58c663d8e5b763d1"), looks := true }, kinds := [], alts := [], laidByText := true, laidKinds := [.data], laidTests := true, laidLooks := .later }
def ScaleModesUptoCardSaid : Prop := Claim7.holds Tryd.pinned (.plain (OpenSpec.upto scaleModesSpec)) scaleModesUptoCard

/-- THE SECOND FORM's CARD OF 'schismalaw09.ScaleDegrees'. -/
def scaleDegreesUptoCard : Claim7 := { stood := { row := scaleDegreesUptoRow, standIns := [], harness := (true, "26c412428bd3a17c902e493df7a3e83f13cd8b4f1ff5bdaf58c663d8e5b763d1"), looks := true }, kinds := [], alts := [], laidByText := true, laidKinds := [.data], laidTests := true, laidLooks := .later }
def ScaleDegreesUptoCardSaid : Prop := Claim7.holds Tryd.pinned (.plain (OpenSpec.upto scaleDegreesSpec)) scaleDegreesUptoCard

/-- THE SECOND FORM's CARD OF 'schismalaw09.ScaleLonger'. -/
def scaleLongerUptoCard : Claim7 := { stood := { row := scaleLongerUptoRow, standIns := [], harness := (true, "26c412428bd3a17c902e493df7a3e83f13cd8b4f1ff5bdaf58c663d8e5b763d1"), looks := true }, kinds := [], alts := [], laidByText := true, laidKinds := [.data], laidTests := true, laidLooks := .later }
def ScaleLongerUptoCardSaid : Prop := Claim7.holds Tryd.pinned (.plain (OpenSpec.upto scaleLongerSpec)) scaleLongerUptoCard

/-- THE SECOND FORM's CARD OF 'schismalaw09.ScaleThreeGaps'. -/
def scaleThreeGapsUptoCard : Claim7 := { stood := { row := scaleThreeGapsUptoRow, standIns := [], harness := (true, "26c412428bd3a17c902e493df7a3e83f13cd8b4f1ff5bdaf58c663d8e5b763d1"), looks := true }, kinds := [], alts := [], laidByText := true, laidKinds := [.data], laidTests := true, laidLooks := .later }
def ScaleThreeGapsUptoCardSaid : Prop := Claim7.holds Tryd.pinned (.plain (OpenSpec.upto scaleThreeGapsSpec)) scaleThreeGapsUptoCard

/-- THE SECOND FORM's CARD OF 'schismalaw09.ScaleSteps'. -/
def scaleStepsUptoCard : Claim7 := { stood := { row := scaleStepsUptoRow, standIns := [], harness := (true, "26c412428bd3a17c902e493df7a3e83f13cd8b4f1ff5bdaf58c663d8e5b763d1"), looks := true }, kinds := [], alts := [], laidByText := true, laidKinds := [.data], laidTests := true, laidLooks := .later }
def ScaleStepsUptoCardSaid : Prop := Claim7.holds Tryd.pinned (.plain (OpenSpec.upto scaleStepsSpec)) scaleStepsUptoCard

/-- THE SECOND FORM's CARD OF 'schismalaw09.ScaleNearest'. -/
def scaleNearestUptoCard : Claim7 := { stood := { row := scaleNearestUptoRow, standIns := [], harness := (true, "26c412428bd3a17c902e493df7a3e83f13cd8b4f1ff5bdaf58c663d8e5b763d1"), looks := true }, kinds := [], alts := [], laidByText := true, laidKinds := [.data], laidTests := true, laidLooks := .later }
def ScaleNearestUptoCardSaid : Prop := Claim7.holds Tryd.pinned (.plain (OpenSpec.upto scaleNearestSpec)) scaleNearestUptoCard
end Rows
end Go.Proofs.YtdglbjjenihdlaaDoor

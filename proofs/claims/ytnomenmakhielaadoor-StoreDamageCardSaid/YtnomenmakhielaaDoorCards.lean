/-
  DERIVED. GIVEN WITH THE SEED: THE CARDS: each row of YtnomenmakhielaaDoorRows.lean that lists a variable, with what it lists TIED to the program's text (the seventh form; the later family's looks); each row that meets fmt, with fmt's text TOLD by the authors' own Lean function (tested against real Go, not proved from fmt's source: count such statements apart). THE CARD IS WHAT COUNTS. Prove the row's statement (the work); the ties are given (YtnomenmakhielaaDoorTie.lean); close each card by the builder's one call (the guide's Derived/Test/ToyasCard.lean, 'card_holds'). Laid BY PROGRAM, IN A SANDBOX (cutbox-door.mjs). By AI agents, Wed Nov 11 2026. No macro, syntax, notation, axiom, sorry.
-/
import Derived.Test.YtnomenmakhielaaDoorRows
import GoSem.ClaimSeven
namespace Go.Proofs.YtnomenmakhielaaDoor
namespace Rows

/-- THE TIED CARD OF 'schismalaw32.StoreForward'. -/
def storeForwardCard : Claim7 := { stood := { row := storeForwardRow, standIns := [], harness := (true, "a2628f6aef343dc4706f0574fa685427b154b5bd74fe51d813e939ce1728c474"), looks := false }, kinds := [], alts := [], laidByText := true, laidKinds := [.data], laidTests := true, laidLooks := .later }
def StoreForwardCardSaid : Prop := Claim7.holds Tryd.pinned (.plain (OpenSpec.ofChange storeForwardSpec)) storeForwardCard

/-- THE TIED CARD OF 'schismalaw32.StoreSections'. -/
def storeSectionsCard : Claim7 := { stood := { row := storeSectionsRow, standIns := [], harness := (true, "a2628f6aef343dc4706f0574fa685427b154b5bd74fe51d813e939ce1728c474"), looks := false }, kinds := [], alts := [], laidByText := true, laidKinds := [.data], laidTests := true, laidLooks := .later }
def StoreSectionsCardSaid : Prop := Claim7.holds Tryd.pinned (.plain (OpenSpec.ofChange storeSectionsSpec)) storeSectionsCard

/-- THE TIED CARD OF 'schismalaw32.StoreCompact'. -/
def storeCompactCard : Claim7 := { stood := { row := storeCompactRow, standIns := [], harness := (true, "a2628f6aef343dc4706f0574fa685427b154b5bd74fe51d813e939ce1728c474"), looks := false }, kinds := [], alts := [], laidByText := true, laidKinds := [.data], laidTests := true, laidLooks := .later }
def StoreCompactCardSaid : Prop := Claim7.holds Tryd.pinned (.plain (OpenSpec.ofChange storeCompactSpec)) storeCompactCard

/-- THE TIED CARD OF 'schismalaw32.StoreContinued'. -/
def storeContinuedCard : Claim7 := { stood := { row := storeContinuedRow, standIns := [], harness := (true, "a2628f6aef343dc4706f0574fa685427b154b5bd74fe51d813e939ce1728c474"), looks := false }, kinds := [], alts := [], laidByText := true, laidKinds := [.data], laidTests := true, laidLooks := .later }
def StoreContinuedCardSaid : Prop := Claim7.holds Tryd.pinned (.plain (OpenSpec.ofChange storeContinuedSpec)) storeContinuedCard

/-- THE TIED CARD OF 'schismalaw32.StoreBack'. -/
def storeBackCard : Claim7 := { stood := { row := storeBackRow, standIns := [], harness := (true, "a2628f6aef343dc4706f0574fa685427b154b5bd74fe51d813e939ce1728c474"), looks := false }, kinds := [], alts := [], laidByText := true, laidKinds := [.data], laidTests := true, laidLooks := .later }
def StoreBackCardSaid : Prop := Claim7.holds Tryd.pinned (.plain (OpenSpec.ofChange storeBackSpec)) storeBackCard

/-- THE TIED CARD OF 'schismalaw32.StoreDamage'. -/
def storeDamageCard : Claim7 := { stood := { row := storeDamageRow, standIns := [], harness := (true, "a2628f6aef343dc4706f0574fa685427b154b5bd74fe51d813e939ce1728c474"), looks := false }, kinds := [], alts := [], laidByText := true, laidKinds := [.data], laidTests := true, laidLooks := .later }
def StoreDamageCardSaid : Prop := Claim7.holds Tryd.pinned (.plain (OpenSpec.ofChange storeDamageSpec)) storeDamageCard

/-- THE TIED CARD OF 'schismalaw32.StoreMatchesReference'. -/
def storeMatchesReferenceCard : Claim7 := { stood := { row := storeMatchesReferenceRow, standIns := [], harness := (true, "a2628f6aef343dc4706f0574fa685427b154b5bd74fe51d813e939ce1728c474"), looks := false }, kinds := [], alts := [], laidByText := true, laidKinds := [.data], laidTests := true, laidLooks := .later }
def StoreMatchesReferenceCardSaid : Prop := Claim7.holds Tryd.pinned (.plain (OpenSpec.ofChange storeMatchesReferenceSpec)) storeMatchesReferenceCard

/-- THE TIED CARD OF 'schismalaw32.StoreCrashes'. -/
def storeCrashesCard : Claim7 := { stood := { row := storeCrashesRow, standIns := [], harness := (true, "a2628f6aef343dc4706f0574fa685427b154b5bd74fe51d813e939ce1728c474"), looks := false }, kinds := [], alts := [], laidByText := true, laidKinds := [.data], laidTests := true, laidLooks := .later }
def StoreCrashesCardSaid : Prop := Claim7.holds Tryd.pinned (.plain (OpenSpec.ofChange storeCrashesSpec)) storeCrashesCard

/-- THE SECOND FORM's CARD OF 'schismalaw32.StoreForward'. -/
def storeForwardUptoCard : Claim7 := { stood := { row := storeForwardUptoRow, standIns := [], harness := (true, "a2628f6aef343dc4706f0574fa685427b154b5bd74fe51d813e939ce1728c474"), looks := false }, kinds := [], alts := [], laidByText := true, laidKinds := [.data], laidTests := true, laidLooks := .later }
def StoreForwardUptoCardSaid : Prop := Claim7.holds Tryd.pinned (.plain (OpenSpec.upto storeForwardSpec)) storeForwardUptoCard

/-- THE SECOND FORM's CARD OF 'schismalaw32.StoreSections'. -/
def storeSectionsUptoCard : Claim7 := { stood := { row := storeSectionsUptoRow, standIns := [], harness := (true, "a2628f6aef343dc4706f0574fa685427b154b5bd74fe51d813e939ce1728c474"), looks := false }, kinds := [], alts := [], laidByText := true, laidKinds := [.data], laidTests := true, laidLooks := .later }
def StoreSectionsUptoCardSaid : Prop := Claim7.holds Tryd.pinned (.plain (OpenSpec.upto storeSectionsSpec)) storeSectionsUptoCard

/-- THE SECOND FORM's CARD OF 'schismalaw32.StoreCompact'. -/
def storeCompactUptoCard : Claim7 := { stood := { row := storeCompactUptoRow, standIns := [], harness := (true, "a2628f6aef343dc4706f0574fa685427b154b5bd74fe51d813e939ce1728c474"), looks := false }, kinds := [], alts := [], laidByText := true, laidKinds := [.data], laidTests := true, laidLooks := .later }
def StoreCompactUptoCardSaid : Prop := Claim7.holds Tryd.pinned (.plain (OpenSpec.upto storeCompactSpec)) storeCompactUptoCard

/-- THE SECOND FORM's CARD OF 'schismalaw32.StoreContinued'. -/
def storeContinuedUptoCard : Claim7 := { stood := { row := storeContinuedUptoRow, standIns := [], harness := (true, "a2628f6aef343dc4706f0574fa685427b154b5bd74fe51d813e939ce1728c474"), looks := false }, kinds := [], alts := [], laidByText := true, laidKinds := [.data], laidTests := true, laidLooks := .later }
def StoreContinuedUptoCardSaid : Prop := Claim7.holds Tryd.pinned (.plain (OpenSpec.upto storeContinuedSpec)) storeContinuedUptoCard

/-- THE SECOND FORM's CARD OF 'schismalaw32.StoreBack'. -/
def storeBackUptoCard : Claim7 := { stood := { row := storeBackUptoRow, standIns := [], harness := (true, "a2628f6aef343dc4706f0574fa685427b154b5bd74fe51d813e939ce1728c474"), looks := false }, kinds := [], alts := [], laidByText := true, laidKinds := [.data], laidTests := true, laidLooks := .later }
def StoreBackUptoCardSaid : Prop := Claim7.holds Tryd.pinned (.plain (OpenSpec.upto storeBackSpec)) storeBackUptoCard

/-- THE SECOND FORM's CARD OF 'schismalaw32.StoreDamage'. -/
def storeDamageUptoCard : Claim7 := { stood := { row := storeDamageUptoRow, standIns := [], harness := (true, "a2628f6aef343dc4706f0574fa685427b154b5bd74fe51d813e939ce1728c474"), looks := false }, kinds := [], alts := [], laidByText := true, laidKinds := [.data], laidTests := true, laidLooks := .later }
def StoreDamageUptoCardSaid : Prop := Claim7.holds Tryd.pinned (.plain (OpenSpec.upto storeDamageSpec)) storeDamageUptoCard

/-- THE SECOND FORM's CARD OF 'schismalaw32.StoreMatchesReference'. -/
def storeMatchesReferenceUptoCard : Claim7 := { stood := { row := storeMatchesReferenceUptoRow, standIns := [], harness := (true, "a2628f6aef343dc4706f0574fa685427b154b5bd74fe51d813e939ce1728c474"), looks := false }, kinds := [], alts := [], laidByText := true, laidKinds := [.data], laidTests := true, laidLooks := .later }
def StoreMatchesReferenceUptoCardSaid : Prop := Claim7.holds Tryd.pinned (.plain (OpenSpec.upto storeMatchesReferenceSpec)) storeMatchesReferenceUptoCard

/-- THE SECOND FORM's CARD OF 'schismalaw32.StoreCrashes'. -/
def storeCrashesUptoCard : Claim7 := { stood := { row := storeCrashesUptoRow, standIns := [], harness := (true, "a2628f6aef343dc4706f0574fa685427b154b5bd74fe51d813e939ce1728c474"), looks := false }, kinds := [], alts := [], laidByText := true, laidKinds := [.data], laidTests := true, laidLooks := .later }
def StoreCrashesUptoCardSaid : Prop := Claim7.holds Tryd.pinned (.plain (OpenSpec.upto storeCrashesSpec)) storeCrashesUptoCard
end Rows
end Go.Proofs.YtnomenmakhielaaDoor

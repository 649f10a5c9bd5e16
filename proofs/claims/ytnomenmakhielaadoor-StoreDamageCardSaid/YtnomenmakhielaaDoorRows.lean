/-
  NARROWER THAN 'FOR EVERY INPUT', by the rows' own cells (each row's printed sentence says how): StoreForward: laid · StoreSections: laid · StoreCompact: laid · StoreContinued: laid · StoreBack: laid · StoreDamage: laid · StoreMatchesReference: laid · StoreCrashes: laid.
  DERIVED. THE GIVEN ROWS OF THIS SEAT. 8 by the template 'for every input the law returns true; each argument reads behind the call as it read before'; 0 by the template 'total and deterministic' (their statements: YtnomenmakhielaaDoorTotals.lean).
  GIVEN WITH THE SEED: the statements are not yours to turn. If you find one false, say at which input.
  Laid BY PROGRAM, IN A SANDBOX (cutbox-rows.mjs): the forced cells as the released guide's own fill.sh prints them over the translation bbd1fc7dc2926fe3… (all of the seat's roots in one cut). By AI agents, Wed Nov 11 2026. No macro, syntax, notation, axiom, sorry.
-/
import Derived.Test.YtnomenmakhielaaDoorChecked
import GoSem.Claim
import GoSem.ClaimJoined
import GoSem.ClaimMapViews
import Derived.JoinedTies
import Derived.KernelRfl
namespace Go.Proofs.YtnomenmakhielaaDoor
/- THE CELL 'sum', in the pinned program and in every row, IS THE sha256 OF THE DUMP (.gsa) THAT YtnomenmakhielaaDoorProg.lean LOADS. Nothing in Lean hashes anything: it is a label: what it is worth is what the hold of that sum in a sandbox is worth. -/
noncomputable def Tryd.pinned : Pinned := { name := "ytnomenmakhielaadoor", sum := "bbd1fc7dc2926fe30dd594bd963b1361fe6e7c1a5875a258783df2b107012c18", checked := Tryd.checked }
namespace Rows
def none {H : Type} : Left H := { results := [], args := [] }

/- WHAT THE LISTED PACKAGE-LEVEL VARIABLES READ AS WHEN THE CALL BEGINS. Each datum BY PROGRAM (the guide's laid-datum.mjs) off the statement by which the dump's own 'gosem.cut.vars' lays the variable. In a bare row this is a premise. The card (YtnomenmakhielaaDoorCards.lean) ties it to the program's text. -/
def laid_schisma_wire_nibbles {H : Type} : DataW H := .agg [.lit (.int .u32 0), .lit (.int .u32 498536548), .lit (.int .u32 997073096), .lit (.int .u32 651767980), .lit (.int .u32 1994146192), .lit (.int .u32 1802195444), .lit (.int .u32 1303535960), .lit (.int .u32 1342533948), .lit (.int .u32 3988292384), .lit (.int .u32 4027552580), .lit (.int .u32 3604390888), .lit (.int .u32 3412177804), .lit (.int .u32 2607071920), .lit (.int .u32 2262029012), .lit (.int .u32 2685067896), .lit (.int .u32 3183342108)]

/-- 'schismalaw32.StoreForward': WHATEVER THE INPUT: true; the input reads as it did. -/
def storeForwardSpec : ChangeSpec := { name := "storeForward", fn := fun _ => fun
  | [d1, d2] => { results := [.lit (.bool true)], args := [d1, d2] }
  | _ => none }
def storeForwardRow : OpenClaim := { program := "ytnomenmakhielaadoor", sum := "bbd1fc7dc2926fe30dd594bd963b1361fe6e7c1a5875a258783df2b107012c18", func := "schisma/schismalaw32.StoreForward", spec := "storeForward", inPlace := ["slices.overlaps[schisma/api.Take]"], unfollowed := true, recurses := true, named := ["schisma/wire.nibbles"], apart := false, laid := [("schisma/wire.nibbles", laid_schisma_wire_nibbles)] }
def StoreForwardSaid : Prop := storeForwardRow.holds Tryd.pinned (OpenSpec.ofChange storeForwardSpec)

/-- ITS FALSE NEIGHBOUR: 'it returns false'. Refute it at one input. -/
def storeForwardWrong : ChangeSpec := { name := "storeForward", fn := fun _ => fun
  | [d1, d2] => { results := [.lit (.bool false)], args := [d1, d2] }
  | _ => none }
def StoreForwardWrongFalsely : Prop := storeForwardRow.holds Tryd.pinned (OpenSpec.ofChange storeForwardWrong)

/-- 'schismalaw32.StoreSections': WHATEVER THE INPUT: true; the input reads as it did. -/
def storeSectionsSpec : ChangeSpec := { name := "storeSections", fn := fun _ => fun
  | [d1, d2] => { results := [.lit (.bool true)], args := [d1, d2] }
  | _ => none }
def storeSectionsRow : OpenClaim := { program := "ytnomenmakhielaadoor", sum := "bbd1fc7dc2926fe30dd594bd963b1361fe6e7c1a5875a258783df2b107012c18", func := "schisma/schismalaw32.StoreSections", spec := "storeSections", inPlace := ["slices.overlaps[schisma/api.Take]"], unfollowed := true, recurses := true, named := ["schisma/wire.nibbles"], apart := false, laid := [("schisma/wire.nibbles", laid_schisma_wire_nibbles)] }
def StoreSectionsSaid : Prop := storeSectionsRow.holds Tryd.pinned (OpenSpec.ofChange storeSectionsSpec)

/-- ITS FALSE NEIGHBOUR: 'it returns false'. Refute it at one input. -/
def storeSectionsWrong : ChangeSpec := { name := "storeSections", fn := fun _ => fun
  | [d1, d2] => { results := [.lit (.bool false)], args := [d1, d2] }
  | _ => none }
def StoreSectionsWrongFalsely : Prop := storeSectionsRow.holds Tryd.pinned (OpenSpec.ofChange storeSectionsWrong)

/-- 'schismalaw32.StoreCompact': WHATEVER THE INPUT: true; the input reads as it did. -/
def storeCompactSpec : ChangeSpec := { name := "storeCompact", fn := fun _ => fun
  | [d1, d2] => { results := [.lit (.bool true)], args := [d1, d2] }
  | _ => none }
def storeCompactRow : OpenClaim := { program := "ytnomenmakhielaadoor", sum := "bbd1fc7dc2926fe30dd594bd963b1361fe6e7c1a5875a258783df2b107012c18", func := "schisma/schismalaw32.StoreCompact", spec := "storeCompact", inPlace := ["slices.overlaps[schisma/api.Take]"], unfollowed := true, recurses := true, named := ["schisma/wire.nibbles"], apart := false, laid := [("schisma/wire.nibbles", laid_schisma_wire_nibbles)] }
def StoreCompactSaid : Prop := storeCompactRow.holds Tryd.pinned (OpenSpec.ofChange storeCompactSpec)

/-- ITS FALSE NEIGHBOUR: 'it returns false'. Refute it at one input. -/
def storeCompactWrong : ChangeSpec := { name := "storeCompact", fn := fun _ => fun
  | [d1, d2] => { results := [.lit (.bool false)], args := [d1, d2] }
  | _ => none }
def StoreCompactWrongFalsely : Prop := storeCompactRow.holds Tryd.pinned (OpenSpec.ofChange storeCompactWrong)

/-- 'schismalaw32.StoreContinued': WHATEVER THE INPUT: true; the input reads as it did. -/
def storeContinuedSpec : ChangeSpec := { name := "storeContinued", fn := fun _ => fun
  | [d1, d2] => { results := [.lit (.bool true)], args := [d1, d2] }
  | _ => none }
def storeContinuedRow : OpenClaim := { program := "ytnomenmakhielaadoor", sum := "bbd1fc7dc2926fe30dd594bd963b1361fe6e7c1a5875a258783df2b107012c18", func := "schisma/schismalaw32.StoreContinued", spec := "storeContinued", inPlace := ["slices.overlaps[schisma/api.Take]"], unfollowed := true, recurses := true, named := ["schisma/wire.nibbles"], apart := false, laid := [("schisma/wire.nibbles", laid_schisma_wire_nibbles)] }
def StoreContinuedSaid : Prop := storeContinuedRow.holds Tryd.pinned (OpenSpec.ofChange storeContinuedSpec)

/-- ITS FALSE NEIGHBOUR: 'it returns false'. Refute it at one input. -/
def storeContinuedWrong : ChangeSpec := { name := "storeContinued", fn := fun _ => fun
  | [d1, d2] => { results := [.lit (.bool false)], args := [d1, d2] }
  | _ => none }
def StoreContinuedWrongFalsely : Prop := storeContinuedRow.holds Tryd.pinned (OpenSpec.ofChange storeContinuedWrong)

/-- 'schismalaw32.StoreBack': WHATEVER THE INPUT: true; the input reads as it did. -/
def storeBackSpec : ChangeSpec := { name := "storeBack", fn := fun _ => fun
  | [d] => { results := [.lit (.bool true)], args := [d] }
  | _ => none }
def storeBackRow : OpenClaim := { program := "ytnomenmakhielaadoor", sum := "bbd1fc7dc2926fe30dd594bd963b1361fe6e7c1a5875a258783df2b107012c18", func := "schisma/schismalaw32.StoreBack", spec := "storeBack", inPlace := ["slices.overlaps[schisma/api.Take]"], unfollowed := true, recurses := true, named := ["schisma/wire.nibbles"], apart := false, laid := [("schisma/wire.nibbles", laid_schisma_wire_nibbles)] }
def StoreBackSaid : Prop := storeBackRow.holds Tryd.pinned (OpenSpec.ofChange storeBackSpec)

/-- ITS FALSE NEIGHBOUR: 'it returns false'. Refute it at one input. -/
def storeBackWrong : ChangeSpec := { name := "storeBack", fn := fun _ => fun
  | [d] => { results := [.lit (.bool false)], args := [d] }
  | _ => none }
def StoreBackWrongFalsely : Prop := storeBackRow.holds Tryd.pinned (OpenSpec.ofChange storeBackWrong)

/-- 'schismalaw32.StoreDamage': WHATEVER THE INPUT: true; the input reads as it did. -/
def storeDamageSpec : ChangeSpec := { name := "storeDamage", fn := fun _ => fun
  | [d1, d2, d3, d4] => { results := [.lit (.bool true)], args := [d1, d2, d3, d4] }
  | _ => none }
def storeDamageRow : OpenClaim := { program := "ytnomenmakhielaadoor", sum := "bbd1fc7dc2926fe30dd594bd963b1361fe6e7c1a5875a258783df2b107012c18", func := "schisma/schismalaw32.StoreDamage", spec := "storeDamage", inPlace := ["slices.overlaps[schisma/api.Take]"], unfollowed := true, recurses := true, named := ["schisma/wire.nibbles"], apart := false, laid := [("schisma/wire.nibbles", laid_schisma_wire_nibbles)] }
def StoreDamageSaid : Prop := storeDamageRow.holds Tryd.pinned (OpenSpec.ofChange storeDamageSpec)

/-- ITS FALSE NEIGHBOUR: 'it returns false'. Refute it at one input. -/
def storeDamageWrong : ChangeSpec := { name := "storeDamage", fn := fun _ => fun
  | [d1, d2, d3, d4] => { results := [.lit (.bool false)], args := [d1, d2, d3, d4] }
  | _ => none }
def StoreDamageWrongFalsely : Prop := storeDamageRow.holds Tryd.pinned (OpenSpec.ofChange storeDamageWrong)

/-- 'schismalaw32.StoreMatchesReference': WHATEVER THE INPUT: true; the input reads as it did. -/
def storeMatchesReferenceSpec : ChangeSpec := { name := "storeMatchesReference", fn := fun _ => fun
  | [d1, d2, d3, d4] => { results := [.lit (.bool true)], args := [d1, d2, d3, d4] }
  | _ => none }
def storeMatchesReferenceRow : OpenClaim := { program := "ytnomenmakhielaadoor", sum := "bbd1fc7dc2926fe30dd594bd963b1361fe6e7c1a5875a258783df2b107012c18", func := "schisma/schismalaw32.StoreMatchesReference", spec := "storeMatchesReference", inPlace := ["slices.overlaps[schisma/api.Take]"], unfollowed := true, recurses := true, named := ["schisma/wire.nibbles"], apart := false, laid := [("schisma/wire.nibbles", laid_schisma_wire_nibbles)] }
def StoreMatchesReferenceSaid : Prop := storeMatchesReferenceRow.holds Tryd.pinned (OpenSpec.ofChange storeMatchesReferenceSpec)

/-- ITS FALSE NEIGHBOUR: 'it returns false'. Refute it at one input. -/
def storeMatchesReferenceWrong : ChangeSpec := { name := "storeMatchesReference", fn := fun _ => fun
  | [d1, d2, d3, d4] => { results := [.lit (.bool false)], args := [d1, d2, d3, d4] }
  | _ => none }
def StoreMatchesReferenceWrongFalsely : Prop := storeMatchesReferenceRow.holds Tryd.pinned (OpenSpec.ofChange storeMatchesReferenceWrong)

/-- 'schismalaw32.StoreCrashes': WHATEVER THE INPUT: true; the input reads as it did. -/
def storeCrashesSpec : ChangeSpec := { name := "storeCrashes", fn := fun _ => fun
  | [d1, d2, d3, d4] => { results := [.lit (.bool true)], args := [d1, d2, d3, d4] }
  | _ => none }
def storeCrashesRow : OpenClaim := { program := "ytnomenmakhielaadoor", sum := "bbd1fc7dc2926fe30dd594bd963b1361fe6e7c1a5875a258783df2b107012c18", func := "schisma/schismalaw32.StoreCrashes", spec := "storeCrashes", inPlace := ["slices.overlaps[schisma/api.Take]"], unfollowed := true, recurses := true, named := ["schisma/wire.nibbles"], apart := false, laid := [("schisma/wire.nibbles", laid_schisma_wire_nibbles)] }
def StoreCrashesSaid : Prop := storeCrashesRow.holds Tryd.pinned (OpenSpec.ofChange storeCrashesSpec)

/-- ITS FALSE NEIGHBOUR: 'it returns false'. Refute it at one input. -/
def storeCrashesWrong : ChangeSpec := { name := "storeCrashes", fn := fun _ => fun
  | [d1, d2, d3, d4] => { results := [.lit (.bool false)], args := [d1, d2, d3, d4] }
  | _ => none }
def StoreCrashesWrongFalsely : Prop := storeCrashesRow.holds Tryd.pinned (OpenSpec.ofChange storeCrashesWrong)

/- THE SECOND FORM. 'bulk': how many values and letters a reading holds, each counted each time it is reached (what is shared counts as often as it is met; a slice's spare places count too). A statement '..UptoSaid' is the law's where the arguments, and the package variables that the reading takes, are together of bulk at most 1048576: NARROWER than '..Said'. Prove '..Said' where nothing that the law and all that it calls make is longer than what came in: it says more and counts as full. Else prove '..UptoSaid'. A law counts once. -/
mutual
def uptoBulk {H : Type} : DataW H → Nat
  | .lit (.string bytes) => bytes.length + 1
  | .lit _ => 1
  | .nil => 1
  | .ptr d => uptoBulk d + 1
  | .slice elems spare => uptoBulkAll elems + uptoBulkAll spare + 1
  | .agg parts => uptoBulkAll parts + 1
  | .iface _ d => uptoBulk d + 1
  | .map entries => uptoBulkEntries entries + 1
  | .held _ => 1
def uptoBulkAll {H : Type} : List (DataW H) → Nat
  | [] => 0
  | d :: r => uptoBulk d + uptoBulkAll r
def uptoBulkEntries {H : Type} : List (Lit × DataW H) → Nat
  | [] => 0
  | x :: r => uptoBulkEntry x + uptoBulkEntries r
def uptoBulkEntry {H : Type} : Lit × DataW H → Nat
  | (.string bytes, d) => bytes.length + uptoBulk d + 1
  | (_, d) => uptoBulk d + 1
 end
def uptoSmall : (H : Type) → List (DataW H) → Bool := fun _ ds => decide (uptoBulkAll ds ≤ 1048576)
def OpenSpec.upto (s : _root_.Go.ChangeSpec) : _root_.Go.OpenSpec := { _root_.Go.OpenSpec.ofChange s with cond := some uptoSmall }

/-- 'schismalaw32.StoreForward', WHERE WHAT IT READS IS OF BULK AT MOST 1048576: true; the input reads as it did. -/
def storeForwardUptoRow : OpenClaim := { program := "ytnomenmakhielaadoor", sum := "bbd1fc7dc2926fe30dd594bd963b1361fe6e7c1a5875a258783df2b107012c18", func := "schisma/schismalaw32.StoreForward", spec := "storeForward", inPlace := ["slices.overlaps[schisma/api.Take]"], unfollowed := true, recurses := true, named := ["schisma/wire.nibbles"], apart := false, laid := [("schisma/wire.nibbles", laid_schisma_wire_nibbles)], narrowed := true }
def StoreForwardUptoSaid : Prop := storeForwardUptoRow.holds Tryd.pinned (OpenSpec.upto storeForwardSpec)

/-- 'schismalaw32.StoreSections', WHERE WHAT IT READS IS OF BULK AT MOST 1048576: true; the input reads as it did. -/
def storeSectionsUptoRow : OpenClaim := { program := "ytnomenmakhielaadoor", sum := "bbd1fc7dc2926fe30dd594bd963b1361fe6e7c1a5875a258783df2b107012c18", func := "schisma/schismalaw32.StoreSections", spec := "storeSections", inPlace := ["slices.overlaps[schisma/api.Take]"], unfollowed := true, recurses := true, named := ["schisma/wire.nibbles"], apart := false, laid := [("schisma/wire.nibbles", laid_schisma_wire_nibbles)], narrowed := true }
def StoreSectionsUptoSaid : Prop := storeSectionsUptoRow.holds Tryd.pinned (OpenSpec.upto storeSectionsSpec)

/-- 'schismalaw32.StoreCompact', WHERE WHAT IT READS IS OF BULK AT MOST 1048576: true; the input reads as it did. -/
def storeCompactUptoRow : OpenClaim := { program := "ytnomenmakhielaadoor", sum := "bbd1fc7dc2926fe30dd594bd963b1361fe6e7c1a5875a258783df2b107012c18", func := "schisma/schismalaw32.StoreCompact", spec := "storeCompact", inPlace := ["slices.overlaps[schisma/api.Take]"], unfollowed := true, recurses := true, named := ["schisma/wire.nibbles"], apart := false, laid := [("schisma/wire.nibbles", laid_schisma_wire_nibbles)], narrowed := true }
def StoreCompactUptoSaid : Prop := storeCompactUptoRow.holds Tryd.pinned (OpenSpec.upto storeCompactSpec)

/-- 'schismalaw32.StoreContinued', WHERE WHAT IT READS IS OF BULK AT MOST 1048576: true; the input reads as it did. -/
def storeContinuedUptoRow : OpenClaim := { program := "ytnomenmakhielaadoor", sum := "bbd1fc7dc2926fe30dd594bd963b1361fe6e7c1a5875a258783df2b107012c18", func := "schisma/schismalaw32.StoreContinued", spec := "storeContinued", inPlace := ["slices.overlaps[schisma/api.Take]"], unfollowed := true, recurses := true, named := ["schisma/wire.nibbles"], apart := false, laid := [("schisma/wire.nibbles", laid_schisma_wire_nibbles)], narrowed := true }
def StoreContinuedUptoSaid : Prop := storeContinuedUptoRow.holds Tryd.pinned (OpenSpec.upto storeContinuedSpec)

/-- 'schismalaw32.StoreBack', WHERE WHAT IT READS IS OF BULK AT MOST 1048576: true; the input reads as it did. -/
def storeBackUptoRow : OpenClaim := { program := "ytnomenmakhielaadoor", sum := "bbd1fc7dc2926fe30dd594bd963b1361fe6e7c1a5875a258783df2b107012c18", func := "schisma/schismalaw32.StoreBack", spec := "storeBack", inPlace := ["slices.overlaps[schisma/api.Take]"], unfollowed := true, recurses := true, named := ["schisma/wire.nibbles"], apart := false, laid := [("schisma/wire.nibbles", laid_schisma_wire_nibbles)], narrowed := true }
def StoreBackUptoSaid : Prop := storeBackUptoRow.holds Tryd.pinned (OpenSpec.upto storeBackSpec)

/-- 'schismalaw32.StoreDamage', WHERE WHAT IT READS IS OF BULK AT MOST 1048576: true; the input reads as it did. -/
def storeDamageUptoRow : OpenClaim := { program := "ytnomenmakhielaadoor", sum := "bbd1fc7dc2926fe30dd594bd963b1361fe6e7c1a5875a258783df2b107012c18", func := "schisma/schismalaw32.StoreDamage", spec := "storeDamage", inPlace := ["slices.overlaps[schisma/api.Take]"], unfollowed := true, recurses := true, named := ["schisma/wire.nibbles"], apart := false, laid := [("schisma/wire.nibbles", laid_schisma_wire_nibbles)], narrowed := true }
def StoreDamageUptoSaid : Prop := storeDamageUptoRow.holds Tryd.pinned (OpenSpec.upto storeDamageSpec)

/-- 'schismalaw32.StoreMatchesReference', WHERE WHAT IT READS IS OF BULK AT MOST 1048576: true; the input reads as it did. -/
def storeMatchesReferenceUptoRow : OpenClaim := { program := "ytnomenmakhielaadoor", sum := "bbd1fc7dc2926fe30dd594bd963b1361fe6e7c1a5875a258783df2b107012c18", func := "schisma/schismalaw32.StoreMatchesReference", spec := "storeMatchesReference", inPlace := ["slices.overlaps[schisma/api.Take]"], unfollowed := true, recurses := true, named := ["schisma/wire.nibbles"], apart := false, laid := [("schisma/wire.nibbles", laid_schisma_wire_nibbles)], narrowed := true }
def StoreMatchesReferenceUptoSaid : Prop := storeMatchesReferenceUptoRow.holds Tryd.pinned (OpenSpec.upto storeMatchesReferenceSpec)

/-- 'schismalaw32.StoreCrashes', WHERE WHAT IT READS IS OF BULK AT MOST 1048576: true; the input reads as it did. -/
def storeCrashesUptoRow : OpenClaim := { program := "ytnomenmakhielaadoor", sum := "bbd1fc7dc2926fe30dd594bd963b1361fe6e7c1a5875a258783df2b107012c18", func := "schisma/schismalaw32.StoreCrashes", spec := "storeCrashes", inPlace := ["slices.overlaps[schisma/api.Take]"], unfollowed := true, recurses := true, named := ["schisma/wire.nibbles"], apart := false, laid := [("schisma/wire.nibbles", laid_schisma_wire_nibbles)], narrowed := true }
def StoreCrashesUptoSaid : Prop := storeCrashesUptoRow.holds Tryd.pinned (OpenSpec.upto storeCrashesSpec)

end Rows
end Go.Proofs.YtnomenmakhielaaDoor

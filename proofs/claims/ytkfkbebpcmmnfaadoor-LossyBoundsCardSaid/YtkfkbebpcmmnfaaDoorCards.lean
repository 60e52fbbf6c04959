/-
  DERIVED. GIVEN WITH THE SEED: THE CARDS: each row of YtkfkbebpcmmnfaaDoorRows.lean that lists a variable, with what it lists TIED to the program's text (the seventh form; the later family's looks); each row that meets fmt, with fmt's text TOLD by the authors' own Lean function (tested against real Go, not proved from fmt's source: count such statements apart). THE CARD IS WHAT COUNTS. Prove the row's statement (the work); the ties are given (YtkfkbebpcmmnfaaDoorTie.lean); close each card by the builder's one call (the guide's Derived/Test/ToyasCard.lean, 'card_holds'). Laid BY PROGRAM, IN A SANDBOX (cutbox-door.mjs). By AI agents, Wed Nov 11 2026. No macro, syntax, notation, axiom, sorry.
-/
import Derived.Test.YtkfkbebpcmmnfaaDoorRows
import GoSem.ClaimSeven
namespace Go.Proofs.YtkfkbebpcmmnfaaDoor
namespace Rows

/-- THE TIED CARD OF 'flywheellaw20.LossyCuts'. -/
def lossyCutsCard : Claim7 := { stood := { row := lossyCutsRow, standIns := [], harness := (true, "4846d10500592cce91548f0cbbdf0b5d811ff15638c993b8794100f68c99a328"), looks := false }, kinds := [], alts := [], laidByText := true, laidKinds := [.data], laidTests := true, laidLooks := .later }
def LossyCutsCardSaid : Prop := Claim7.holds Tryd.pinned (.plain (OpenSpec.ofChange lossyCutsSpec)) lossyCutsCard

/-- THE TIED CARD OF 'flywheellaw20.LossyPlays'. -/
def lossyPlaysCard : Claim7 := { stood := { row := lossyPlaysRow, standIns := [], harness := (true, "4846d10500592cce91548f0cbbdf0b5d811ff15638c993b8794100f68c99a328"), looks := false }, kinds := [], alts := [], laidByText := true, laidKinds := [.data], laidTests := true, laidLooks := .later }
def LossyPlaysCardSaid : Prop := Claim7.holds Tryd.pinned (.plain (OpenSpec.ofChange lossyPlaysSpec)) lossyPlaysCard

/-- THE TIED CARD OF 'flywheellaw20.LossyBounds'. -/
def lossyBoundsCard : Claim7 := { stood := { row := lossyBoundsRow, standIns := [], harness := (true, "4846d10500592cce91548f0cbbdf0b5d811ff15638c993b8794100f68c99a328"), looks := false }, kinds := [], alts := [], laidByText := true, laidKinds := [.data], laidTests := true, laidLooks := .later }
def LossyBoundsCardSaid : Prop := Claim7.holds Tryd.pinned (.plain (OpenSpec.ofChange lossyBoundsSpec)) lossyBoundsCard

/-- THE TIED CARD OF 'flywheellaw20.LossyNone'. -/
def lossyNoneCard : Claim7 := { stood := { row := lossyNoneRow, standIns := [], harness := (true, "4846d10500592cce91548f0cbbdf0b5d811ff15638c993b8794100f68c99a328"), looks := false }, kinds := [], alts := [], laidByText := true, laidKinds := [.data], laidTests := true, laidLooks := .later }
def LossyNoneCardSaid : Prop := Claim7.holds Tryd.pinned (.plain (OpenSpec.ofChange lossyNoneSpec)) lossyNoneCard

/-- THE SECOND FORM's CARD OF 'flywheellaw20.LossyCuts'. -/
def lossyCutsUptoCard : Claim7 := { stood := { row := lossyCutsUptoRow, standIns := [], harness := (true, "4846d10500592cce91548f0cbbdf0b5d811ff15638c993b8794100f68c99a328"), looks := false }, kinds := [], alts := [], laidByText := true, laidKinds := [.data], laidTests := true, laidLooks := .later }
def LossyCutsUptoCardSaid : Prop := Claim7.holds Tryd.pinned (.plain (OpenSpec.upto lossyCutsSpec)) lossyCutsUptoCard

/-- THE SECOND FORM's CARD OF 'flywheellaw20.LossyPlays'. -/
def lossyPlaysUptoCard : Claim7 := { stood := { row := lossyPlaysUptoRow, standIns := [], harness := (true, "4846d10500592cce91548f0cbbdf0b5d811ff15638c993b8794100f68c99a328"), looks := false }, kinds := [], alts := [], laidByText := true, laidKinds := [.data], laidTests := true, laidLooks := .later }
def LossyPlaysUptoCardSaid : Prop := Claim7.holds Tryd.pinned (.plain (OpenSpec.upto lossyPlaysSpec)) lossyPlaysUptoCard

/-- THE SECOND FORM's CARD OF 'flywheellaw20.LossyBounds'. -/
def lossyBoundsUptoCard : Claim7 := { stood := { row := lossyBoundsUptoRow, standIns := [], harness := (true, "4846d10500592cce91548f0cbbdf0b5d811ff15638c993b8794100f68c99a328"), looks := false }, kinds := [], alts := [], laidByText := true, laidKinds := [.data], laidTests := true, laidLooks := .later }
def LossyBoundsUptoCardSaid : Prop := Claim7.holds Tryd.pinned (.plain (OpenSpec.upto lossyBoundsSpec)) lossyBoundsUptoCard

/-- THE SECOND FORM's CARD OF 'flywheellaw20.LossyNone'. -/
def lossyNoneUptoCard : Claim7 := { stood := { row := lossyNoneUptoRow, standIns := [], harness := (true, "4846d10500592cce91548f0cbbdf0b5d811ff15638c993b8794100f68c99a328"), looks := false }, kinds := [], alts := [], laidByText := true, laidKinds := [.data], laidTests := true, laidLooks := .later }
def LossyNoneUptoCardSaid : Prop := Claim7.holds Tryd.pinned (.plain (OpenSpec.upto lossyNoneSpec)) lossyNoneUptoCard
end Rows
end Go.Proofs.YtkfkbebpcmmnfaaDoor

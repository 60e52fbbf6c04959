/-
  DERIVED. GIVEN WITH THE SEED: THE CARDS: each row of YtphgeljglhjamaaDoorRows.lean that lists a variable, with what it lists TIED to the program's text (the seventh form; the later family's looks); each row that meets fmt, with fmt's text TOLD by the authors' own Lean function (tested against real Go, not proved from fmt's source: count such statements apart). THE CARD IS WHAT COUNTS. Prove the row's statement (the work); the ties are given (YtphgeljglhjamaaDoorTie.lean); close each card by the builder's one call (the guide's Derived/Test/ToyasCard.lean, 'card_holds'). Laid BY PROGRAM, IN A SANDBOX (cutbox-door.mjs). By AI agents, Wed Nov 11 2026. No macro, syntax, notation, axiom, sorry.
-/
import Derived.Test.YtphgeljglhjamaaDoorRows
import GoSem.ClaimSeven
namespace Go.Proofs.YtphgeljglhjamaaDoor
namespace Rows

/-- THE TIED CARD OF 'flywheellaw22.GccBounds'. -/
def gccBoundsCard : Claim7 := { stood := { row := gccBoundsRow, standIns := [], harness := (true, "90cf0004c7ac8b2c7a9fd2806908a7448ebd62ce71c80ca3cc7493d2c7f9661e"), looks := false }, kinds := [], alts := [], laidByText := true, laidKinds := [.data], laidTests := true, laidLooks := .later }
def GccBoundsCardSaid : Prop := Claim7.holds Tryd.pinned (.plain (OpenSpec.ofChange gccBoundsSpec)) gccBoundsCard

/-- THE TIED CARD OF 'flywheellaw22.GccFills'. -/
def gccFillsCard : Claim7 := { stood := { row := gccFillsRow, standIns := [], harness := (true, "90cf0004c7ac8b2c7a9fd2806908a7448ebd62ce71c80ca3cc7493d2c7f9661e"), looks := false }, kinds := [], alts := [], laidByText := true, laidKinds := [.data], laidTests := true, laidLooks := .later }
def GccFillsCardSaid : Prop := Claim7.holds Tryd.pinned (.plain (OpenSpec.ofChange gccFillsSpec)) gccFillsCard

/-- THE TIED CARD OF 'flywheellaw22.GccNone'. -/
def gccNoneCard : Claim7 := { stood := { row := gccNoneRow, standIns := [], harness := (true, "90cf0004c7ac8b2c7a9fd2806908a7448ebd62ce71c80ca3cc7493d2c7f9661e"), looks := false }, kinds := [], alts := [], laidByText := true, laidKinds := [.data], laidTests := true, laidLooks := .later }
def GccNoneCardSaid : Prop := Claim7.holds Tryd.pinned (.plain (OpenSpec.ofChange gccNoneSpec)) gccNoneCard

/-- THE TIED CARD OF 'flywheellaw22.GccCalm'. -/
def gccCalmCard : Claim7 := { stood := { row := gccCalmRow, standIns := [], harness := (true, "90cf0004c7ac8b2c7a9fd2806908a7448ebd62ce71c80ca3cc7493d2c7f9661e"), looks := false }, kinds := [], alts := [], laidByText := true, laidKinds := [.data], laidTests := true, laidLooks := .later }
def GccCalmCardSaid : Prop := Claim7.holds Tryd.pinned (.plain (OpenSpec.ofChange gccCalmSpec)) gccCalmCard

/-- THE SECOND FORM's CARD OF 'flywheellaw22.GccBounds'. -/
def gccBoundsUptoCard : Claim7 := { stood := { row := gccBoundsUptoRow, standIns := [], harness := (true, "90cf0004c7ac8b2c7a9fd2806908a7448ebd62ce71c80ca3cc7493d2c7f9661e"), looks := false }, kinds := [], alts := [], laidByText := true, laidKinds := [.data], laidTests := true, laidLooks := .later }
def GccBoundsUptoCardSaid : Prop := Claim7.holds Tryd.pinned (.plain (OpenSpec.upto gccBoundsSpec)) gccBoundsUptoCard

/-- THE SECOND FORM's CARD OF 'flywheellaw22.GccFills'. -/
def gccFillsUptoCard : Claim7 := { stood := { row := gccFillsUptoRow, standIns := [], harness := (true, "90cf0004c7ac8b2c7a9fd2806908a7448ebd62ce71c80ca3cc7493d2c7f9661e"), looks := false }, kinds := [], alts := [], laidByText := true, laidKinds := [.data], laidTests := true, laidLooks := .later }
def GccFillsUptoCardSaid : Prop := Claim7.holds Tryd.pinned (.plain (OpenSpec.upto gccFillsSpec)) gccFillsUptoCard

/-- THE SECOND FORM's CARD OF 'flywheellaw22.GccNone'. -/
def gccNoneUptoCard : Claim7 := { stood := { row := gccNoneUptoRow, standIns := [], harness := (true, "90cf0004c7ac8b2c7a9fd2806908a7448ebd62ce71c80ca3cc7493d2c7f9661e"), looks := false }, kinds := [], alts := [], laidByText := true, laidKinds := [.data], laidTests := true, laidLooks := .later }
def GccNoneUptoCardSaid : Prop := Claim7.holds Tryd.pinned (.plain (OpenSpec.upto gccNoneSpec)) gccNoneUptoCard

/-- THE SECOND FORM's CARD OF 'flywheellaw22.GccCalm'. -/
def gccCalmUptoCard : Claim7 := { stood := { row := gccCalmUptoRow, standIns := [], harness := (true, "90cf0004c7ac8b2c7a9fd2806908a7448ebd62ce71c80ca3cc7493d2c7f9661e"), looks := false }, kinds := [], alts := [], laidByText := true, laidKinds := [.data], laidTests := true, laidLooks := .later }
def GccCalmUptoCardSaid : Prop := Claim7.holds Tryd.pinned (.plain (OpenSpec.upto gccCalmSpec)) gccCalmUptoCard
end Rows
end Go.Proofs.YtphgeljglhjamaaDoor

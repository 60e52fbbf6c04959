/-
  NARROWER THAN 'FOR EVERY INPUT', by the rows' own cells (each row's printed sentence says how): GccBounds: laid · GccFills: laid · GccNone: laid · GccCalm: laid.
  DERIVED. THE GIVEN ROWS OF THIS SEAT. 4 by the template 'for every input the law returns true; each argument reads behind the call as it read before'; 0 by the template 'total and deterministic' (their statements: YtphgeljglhjamaaDoorTotals.lean).
  GIVEN WITH THE SEED: the statements are not yours to turn. If you find one false, say at which input.
  Laid BY PROGRAM, IN A SANDBOX (cutbox-rows.mjs): the forced cells as the released guide's own fill.sh prints them over the translation 5f268d5ae8deb475… (all of the seat's roots in one cut). By AI agents, Wed Nov 11 2026. No macro, syntax, notation, axiom, sorry.
-/
import Derived.Test.YtphgeljglhjamaaDoorChecked
import GoSem.Claim
import GoSem.ClaimJoined
import GoSem.ClaimMapViews
import Derived.JoinedTies
import Derived.KernelRfl
namespace Go.Proofs.YtphgeljglhjamaaDoor
/- THE CELL 'sum', in the pinned program and in every row, IS THE sha256 OF THE DUMP (.gsa) THAT YtphgeljglhjamaaDoorProg.lean LOADS. Nothing in Lean hashes anything: it is a label: what it is worth is what the hold of that sum in a sandbox is worth. -/
noncomputable def Tryd.pinned : Pinned := { name := "ytphgeljglhjamaadoor", sum := "5f268d5ae8deb4756e86c07d08227b2e19a69a57bd78e0639b1b93e2b4baf249", checked := Tryd.checked }
namespace Rows
def none {H : Type} : Left H := { results := [], args := [] }

/- WHAT THE LISTED PACKAGE-LEVEL VARIABLES READ AS WHEN THE CALL BEGINS. Each datum BY PROGRAM (the guide's laid-datum.mjs) off the statement by which the dump's own 'gosem.cut.vars' lays the variable. In a bare row this is a premise. The card (YtphgeljglhjamaaDoorCards.lean) ties it to the program's text. -/
def laid_flywheel_lossy_rows {H : Type} : DataW H := .agg [.agg [.lit (.int .i64 5), .lit (.int .i64 105), .lit (.int .i64 100), .lit (.int .i64 1000), .lit (.int .i64 0)], .agg [.lit (.int .i64 26), .lit (.int .i64 1), .lit (.int .i64 1), .lit (.int .i64 0), .lit (.int .i64 0)], .agg [.lit (.int .i64 256), .lit (.int .i64 512), .lit (.int .i64 512), .lit (.int .i64 0), .lit (.int .i64 1)]]

/-- 'flywheellaw22.GccBounds': WHATEVER THE INPUT: true; the input reads as it did. -/
def gccBoundsSpec : ChangeSpec := { name := "gccBounds", fn := fun _ => fun
  | [d1, d2] => { results := [.lit (.bool true)], args := [d1, d2] }
  | _ => none }
def gccBoundsRow : OpenClaim := { program := "ytphgeljglhjamaadoor", sum := "5f268d5ae8deb4756e86c07d08227b2e19a69a57bd78e0639b1b93e2b4baf249", func := "flywheel/flywheellaw22.GccBounds", spec := "gccBounds", inPlace := ["math/bits.Sub64", "math/bits.Add64"], unfollowed := true, recurses := true, named := ["math/bits.divideError", "math/bits.overflowError", "flywheel/lossy.rows"], apart := false, laid := [("flywheel/lossy.rows", laid_flywheel_lossy_rows)] }
def GccBoundsSaid : Prop := gccBoundsRow.holds Tryd.pinned (OpenSpec.ofChange gccBoundsSpec)

/-- ITS FALSE NEIGHBOUR: 'it returns false'. Refute it at one input. -/
def gccBoundsWrong : ChangeSpec := { name := "gccBounds", fn := fun _ => fun
  | [d1, d2] => { results := [.lit (.bool false)], args := [d1, d2] }
  | _ => none }
def GccBoundsWrongFalsely : Prop := gccBoundsRow.holds Tryd.pinned (OpenSpec.ofChange gccBoundsWrong)

/-- 'flywheellaw22.GccFills': WHATEVER THE INPUT: true; the input reads as it did. -/
def gccFillsSpec : ChangeSpec := { name := "gccFills", fn := fun _ => fun
  | [d1, d2] => { results := [.lit (.bool true)], args := [d1, d2] }
  | _ => none }
def gccFillsRow : OpenClaim := { program := "ytphgeljglhjamaadoor", sum := "5f268d5ae8deb4756e86c07d08227b2e19a69a57bd78e0639b1b93e2b4baf249", func := "flywheel/flywheellaw22.GccFills", spec := "gccFills", inPlace := ["math/bits.Sub64", "math/bits.Add64"], unfollowed := true, recurses := true, named := ["math/bits.divideError", "math/bits.overflowError", "flywheel/lossy.rows"], apart := false, laid := [("flywheel/lossy.rows", laid_flywheel_lossy_rows)] }
def GccFillsSaid : Prop := gccFillsRow.holds Tryd.pinned (OpenSpec.ofChange gccFillsSpec)

/-- ITS FALSE NEIGHBOUR: 'it returns false'. Refute it at one input. -/
def gccFillsWrong : ChangeSpec := { name := "gccFills", fn := fun _ => fun
  | [d1, d2] => { results := [.lit (.bool false)], args := [d1, d2] }
  | _ => none }
def GccFillsWrongFalsely : Prop := gccFillsRow.holds Tryd.pinned (OpenSpec.ofChange gccFillsWrong)

/-- 'flywheellaw22.GccNone': WHATEVER THE INPUT: true; the input reads as it did. -/
def gccNoneSpec : ChangeSpec := { name := "gccNone", fn := fun _ => fun
  | [d1, d2] => { results := [.lit (.bool true)], args := [d1, d2] }
  | _ => none }
def gccNoneRow : OpenClaim := { program := "ytphgeljglhjamaadoor", sum := "5f268d5ae8deb4756e86c07d08227b2e19a69a57bd78e0639b1b93e2b4baf249", func := "flywheel/flywheellaw22.GccNone", spec := "gccNone", inPlace := ["math/bits.Sub64", "math/bits.Add64"], unfollowed := true, recurses := true, named := ["math/bits.divideError", "math/bits.overflowError", "flywheel/lossy.rows"], apart := false, laid := [("flywheel/lossy.rows", laid_flywheel_lossy_rows)] }
def GccNoneSaid : Prop := gccNoneRow.holds Tryd.pinned (OpenSpec.ofChange gccNoneSpec)

/-- ITS FALSE NEIGHBOUR: 'it returns false'. Refute it at one input. -/
def gccNoneWrong : ChangeSpec := { name := "gccNone", fn := fun _ => fun
  | [d1, d2] => { results := [.lit (.bool false)], args := [d1, d2] }
  | _ => none }
def GccNoneWrongFalsely : Prop := gccNoneRow.holds Tryd.pinned (OpenSpec.ofChange gccNoneWrong)

/-- 'flywheellaw22.GccCalm': WHATEVER THE INPUT: true; the input reads as it did. -/
def gccCalmSpec : ChangeSpec := { name := "gccCalm", fn := fun _ => fun
  | [d1, d2, d3] => { results := [.lit (.bool true)], args := [d1, d2, d3] }
  | _ => none }
def gccCalmRow : OpenClaim := { program := "ytphgeljglhjamaadoor", sum := "5f268d5ae8deb4756e86c07d08227b2e19a69a57bd78e0639b1b93e2b4baf249", func := "flywheel/flywheellaw22.GccCalm", spec := "gccCalm", inPlace := ["math/bits.Sub64", "math/bits.Add64"], unfollowed := true, recurses := true, named := ["math/bits.divideError", "math/bits.overflowError", "flywheel/lossy.rows"], apart := false, laid := [("flywheel/lossy.rows", laid_flywheel_lossy_rows)] }
def GccCalmSaid : Prop := gccCalmRow.holds Tryd.pinned (OpenSpec.ofChange gccCalmSpec)

/-- ITS FALSE NEIGHBOUR: 'it returns false'. Refute it at one input. -/
def gccCalmWrong : ChangeSpec := { name := "gccCalm", fn := fun _ => fun
  | [d1, d2, d3] => { results := [.lit (.bool false)], args := [d1, d2, d3] }
  | _ => none }
def GccCalmWrongFalsely : Prop := gccCalmRow.holds Tryd.pinned (OpenSpec.ofChange gccCalmWrong)

/- THE SECOND FORM. 'bulk': how many values and letters a reading holds, each counted each time it is reached (what is shared counts as often as it is met; a slice's spare places count too). A statement '..UptoSaid' is the law's where the arguments, and the package variables that the reading takes, are together of bulk at most 1048576: NARROWER than '..Said'. Prove '..Said' where nothing that the law and all that it calls make is longer than what came in: it says more and counts as full. Else prove '..UptoSaid'. A law counts once. -/
mutual
def uptoBulk {H : Type} : DataW H → Nat
  | .lit (.string bytes) => bytes.length + 1
  | .lit _ => 1
  | .nil => 1
  | .ptr d => uptoBulk d + 1
  | .slice elems spare => uptoBulkAll elems + uptoBulkAll spare + 1
  | .agg parts => uptoBulkAll parts + 1
  | .iface _ d => uptoBulk d + 1
  | .map entries => uptoBulkEntries entries + 1
  | .held _ => 1
def uptoBulkAll {H : Type} : List (DataW H) → Nat
  | [] => 0
  | d :: r => uptoBulk d + uptoBulkAll r
def uptoBulkEntries {H : Type} : List (Lit × DataW H) → Nat
  | [] => 0
  | x :: r => uptoBulkEntry x + uptoBulkEntries r
def uptoBulkEntry {H : Type} : Lit × DataW H → Nat
  | (.string bytes, d) => bytes.length + uptoBulk d + 1
  | (_, d) => uptoBulk d + 1
 end
def uptoSmall : (H : Type) → List (DataW H) → Bool := fun _ ds => decide (uptoBulkAll ds ≤ 1048576)
def OpenSpec.upto (s : _root_.Go.ChangeSpec) : _root_.Go.OpenSpec := { _root_.Go.OpenSpec.ofChange s with cond := some uptoSmall }

/-- 'flywheellaw22.GccBounds', WHERE WHAT IT READS IS OF BULK AT MOST 1048576: true; the input reads as it did. -/
def gccBoundsUptoRow : OpenClaim := { program := "ytphgeljglhjamaadoor", sum := "5f268d5ae8deb4756e86c07d08227b2e19a69a57bd78e0639b1b93e2b4baf249", func := "flywheel/flywheellaw22.GccBounds", spec := "gccBounds", inPlace := ["math/bits.Sub64", "math/bits.Add64"], unfollowed := true, recurses := true, named := ["math/bits.divideError", "math/bits.overflowError", "flywheel/lossy.rows"], apart := false, laid := [("flywheel/lossy.rows", laid_flywheel_lossy_rows)], narrowed := true }
def GccBoundsUptoSaid : Prop := gccBoundsUptoRow.holds Tryd.pinned (OpenSpec.upto gccBoundsSpec)

/-- 'flywheellaw22.GccFills', WHERE WHAT IT READS IS OF BULK AT MOST 1048576: true; the input reads as it did. -/
def gccFillsUptoRow : OpenClaim := { program := "ytphgeljglhjamaadoor", sum := "5f268d5ae8deb4756e86c07d08227b2e19a69a57bd78e0639b1b93e2b4baf249", func := "flywheel/flywheellaw22.GccFills", spec := "gccFills", inPlace := ["math/bits.Sub64", "math/bits.Add64"], unfollowed := true, recurses := true, named := ["math/bits.divideError", "math/bits.overflowError", "flywheel/lossy.rows"], apart := false, laid := [("flywheel/lossy.rows", laid_flywheel_lossy_rows)], narrowed := true }
def GccFillsUptoSaid : Prop := gccFillsUptoRow.holds Tryd.pinned (OpenSpec.upto gccFillsSpec)

/-- 'flywheellaw22.GccNone', WHERE WHAT IT READS IS OF BULK AT MOST 1048576: true; the input reads as it did. -/
def gccNoneUptoRow : OpenClaim := { program := "ytphgeljglhjamaadoor", sum := "5f268d5ae8deb4756e86c07d08227b2e19a69a57bd78e0639b1b93e2b4baf249", func := "flywheel/flywheellaw22.GccNone", spec := "gccNone", inPlace := ["math/bits.Sub64", "math/bits.Add64"], unfollowed := true, recurses := true, named := ["math/bits.divideError", "math/bits.overflowError", "flywheel/lossy.rows"], apart := false, laid := [("flywheel/lossy.rows", laid_flywheel_lossy_rows)], narrowed := true }
def GccNoneUptoSaid : Prop := gccNoneUptoRow.holds Tryd.pinned (OpenSpec.upto gccNoneSpec)

/-- 'flywheellaw22.GccCalm', WHERE WHAT IT READS IS OF BULK AT MOST 1048576: true; the input reads as it did. -/
def gccCalmUptoRow : OpenClaim := { program := "ytphgeljglhjamaadoor", sum := "5f268d5ae8deb4756e86c07d08227b2e19a69a57bd78e0639b1b93e2b4baf249", func := "flywheel/flywheellaw22.GccCalm", spec := "gccCalm", inPlace := ["math/bits.Sub64", "math/bits.Add64"], unfollowed := true, recurses := true, named := ["math/bits.divideError", "math/bits.overflowError", "flywheel/lossy.rows"], apart := false, laid := [("flywheel/lossy.rows", laid_flywheel_lossy_rows)], narrowed := true }
def GccCalmUptoSaid : Prop := gccCalmUptoRow.holds Tryd.pinned (OpenSpec.upto gccCalmSpec)

end Rows
end Go.Proofs.YtphgeljglhjamaaDoor

/-
  NARROWER THAN 'FOR EVERY INPUT', by the rows' own cells (each row's printed sentence says how): LossyCuts: laid · LossyPlays: laid · LossyBounds: laid · LossyNone: laid.
  DERIVED. THE GIVEN ROWS OF THIS SEAT. 4 by the template 'for every input the law returns true; each argument reads behind the call as it read before'; 0 by the template 'total and deterministic' (their statements: YtkfkbebpcmmnfaaDoorTotals.lean).
  GIVEN WITH THE SEED: the statements are not yours to turn. If you find one false, say at which input.
  Laid BY PROGRAM, IN A SANDBOX (cutbox-rows.mjs): the forced cells as the released guide's own fill.sh prints them over the translation 319f48411dd375ba… (all of the seat's roots in one cut). By AI agents, Wed Nov 11 2026. No macro, syntax, notation, axiom, sorry.
-/
import Derived.Test.YtkfkbebpcmmnfaaDoorChecked
import GoSem.Claim
import GoSem.ClaimJoined
import GoSem.ClaimMapViews
import Derived.JoinedTies
import Derived.KernelRfl
namespace Go.Proofs.YtkfkbebpcmmnfaaDoor
/- THE CELL 'sum', in the pinned program and in every row, IS THE sha256 OF THE DUMP (.gsa) THAT YtkfkbebpcmmnfaaDoorProg.lean LOADS. Nothing in Lean hashes anything: it is a label: what it is worth is what the hold of that sum in a sandbox is worth. -/
noncomputable def Tryd.pinned : Pinned := { name := "ytkfkbebpcmmnfaadoor", sum := "319f48411dd375bab66b1ded51df145b20c2a712873143d575385740052ccbdb", checked := Tryd.checked }
namespace Rows
def none {H : Type} : Left H := { results := [], args := [] }

/- WHAT THE LISTED PACKAGE-LEVEL VARIABLES READ AS WHEN THE CALL BEGINS. Each datum BY PROGRAM (the guide's laid-datum.mjs) off the statement by which the dump's own 'gosem.cut.vars' lays the variable. In a bare row this is a premise. The card (YtkfkbebpcmmnfaaDoorCards.lean) ties it to the program's text. -/
def laid_flywheel_lossy_rows {H : Type} : DataW H := .agg [.agg [.lit (.int .i64 5), .lit (.int .i64 105), .lit (.int .i64 100), .lit (.int .i64 1000), .lit (.int .i64 0)], .agg [.lit (.int .i64 26), .lit (.int .i64 1), .lit (.int .i64 1), .lit (.int .i64 0), .lit (.int .i64 0)], .agg [.lit (.int .i64 256), .lit (.int .i64 512), .lit (.int .i64 512), .lit (.int .i64 0), .lit (.int .i64 1)]]

/-- 'flywheellaw20.LossyCuts': WHATEVER THE INPUT: true; the input reads as it did. -/
def lossyCutsSpec : ChangeSpec := { name := "lossyCuts", fn := fun _ => fun
  | [d1, d2] => { results := [.lit (.bool true)], args := [d1, d2] }
  | _ => none }
def lossyCutsRow : OpenClaim := { program := "ytkfkbebpcmmnfaadoor", sum := "319f48411dd375bab66b1ded51df145b20c2a712873143d575385740052ccbdb", func := "flywheel/flywheellaw20.LossyCuts", spec := "lossyCuts", inPlace := ["math/bits.Add64"], named := ["flywheel/lossy.rows", "math/bits.divideError", "math/bits.overflowError"], apart := false, laid := [("flywheel/lossy.rows", laid_flywheel_lossy_rows)] }
def LossyCutsSaid : Prop := lossyCutsRow.holds Tryd.pinned (OpenSpec.ofChange lossyCutsSpec)

/-- ITS FALSE NEIGHBOUR: 'it returns false'. Refute it at one input. -/
def lossyCutsWrong : ChangeSpec := { name := "lossyCuts", fn := fun _ => fun
  | [d1, d2] => { results := [.lit (.bool false)], args := [d1, d2] }
  | _ => none }
def LossyCutsWrongFalsely : Prop := lossyCutsRow.holds Tryd.pinned (OpenSpec.ofChange lossyCutsWrong)

/-- 'flywheellaw20.LossyPlays': WHATEVER THE INPUT: true; the input reads as it did. -/
def lossyPlaysSpec : ChangeSpec := { name := "lossyPlays", fn := fun _ => fun
  | [d1, d2] => { results := [.lit (.bool true)], args := [d1, d2] }
  | _ => none }
def lossyPlaysRow : OpenClaim := { program := "ytkfkbebpcmmnfaadoor", sum := "319f48411dd375bab66b1ded51df145b20c2a712873143d575385740052ccbdb", func := "flywheel/flywheellaw20.LossyPlays", spec := "lossyPlays", inPlace := ["math/bits.Add64"], named := ["flywheel/lossy.rows", "math/bits.divideError", "math/bits.overflowError"], apart := false, laid := [("flywheel/lossy.rows", laid_flywheel_lossy_rows)] }
def LossyPlaysSaid : Prop := lossyPlaysRow.holds Tryd.pinned (OpenSpec.ofChange lossyPlaysSpec)

/-- ITS FALSE NEIGHBOUR: 'it returns false'. Refute it at one input. -/
def lossyPlaysWrong : ChangeSpec := { name := "lossyPlays", fn := fun _ => fun
  | [d1, d2] => { results := [.lit (.bool false)], args := [d1, d2] }
  | _ => none }
def LossyPlaysWrongFalsely : Prop := lossyPlaysRow.holds Tryd.pinned (OpenSpec.ofChange lossyPlaysWrong)

/-- 'flywheellaw20.LossyBounds': WHATEVER THE INPUT: true; the input reads as it did. -/
def lossyBoundsSpec : ChangeSpec := { name := "lossyBounds", fn := fun _ => fun
  | [d1, d2] => { results := [.lit (.bool true)], args := [d1, d2] }
  | _ => none }
def lossyBoundsRow : OpenClaim := { program := "ytkfkbebpcmmnfaadoor", sum := "319f48411dd375bab66b1ded51df145b20c2a712873143d575385740052ccbdb", func := "flywheel/flywheellaw20.LossyBounds", spec := "lossyBounds", inPlace := ["math/bits.Add64"], named := ["flywheel/lossy.rows", "math/bits.divideError", "math/bits.overflowError"], apart := false, laid := [("flywheel/lossy.rows", laid_flywheel_lossy_rows)] }
def LossyBoundsSaid : Prop := lossyBoundsRow.holds Tryd.pinned (OpenSpec.ofChange lossyBoundsSpec)

/-- ITS FALSE NEIGHBOUR: 'it returns false'. Refute it at one input. -/
def lossyBoundsWrong : ChangeSpec := { name := "lossyBounds", fn := fun _ => fun
  | [d1, d2] => { results := [.lit (.bool false)], args := [d1, d2] }
  | _ => none }
def LossyBoundsWrongFalsely : Prop := lossyBoundsRow.holds Tryd.pinned (OpenSpec.ofChange lossyBoundsWrong)

/-- 'flywheellaw20.LossyNone': WHATEVER THE INPUT: true; the input reads as it did. -/
def lossyNoneSpec : ChangeSpec := { name := "lossyNone", fn := fun _ => fun
  | [d] => { results := [.lit (.bool true)], args := [d] }
  | _ => none }
def lossyNoneRow : OpenClaim := { program := "ytkfkbebpcmmnfaadoor", sum := "319f48411dd375bab66b1ded51df145b20c2a712873143d575385740052ccbdb", func := "flywheel/flywheellaw20.LossyNone", spec := "lossyNone", inPlace := ["math/bits.Add64"], named := ["flywheel/lossy.rows", "math/bits.divideError", "math/bits.overflowError"], apart := false, laid := [("flywheel/lossy.rows", laid_flywheel_lossy_rows)] }
def LossyNoneSaid : Prop := lossyNoneRow.holds Tryd.pinned (OpenSpec.ofChange lossyNoneSpec)

/-- ITS FALSE NEIGHBOUR: 'it returns false'. Refute it at one input. -/
def lossyNoneWrong : ChangeSpec := { name := "lossyNone", fn := fun _ => fun
  | [d] => { results := [.lit (.bool false)], args := [d] }
  | _ => none }
def LossyNoneWrongFalsely : Prop := lossyNoneRow.holds Tryd.pinned (OpenSpec.ofChange lossyNoneWrong)

/- THE SECOND FORM. 'bulk': how many values and letters a reading holds, each counted each time it is reached (what is shared counts as often as it is met; a slice's spare places count too). A statement '..UptoSaid' is the law's where the arguments, and the package variables that the reading takes, are together of bulk at most 1048576: NARROWER than '..Said'. Prove '..Said' where nothing that the law and all that it calls make is longer than what came in: it says more and counts as full. Else prove '..UptoSaid'. A law counts once. -/
mutual
def uptoBulk {H : Type} : DataW H → Nat
  | .lit (.string bytes) => bytes.length + 1
  | .lit _ => 1
  | .nil => 1
  | .ptr d => uptoBulk d + 1
  | .slice elems spare => uptoBulkAll elems + uptoBulkAll spare + 1
  | .agg parts => uptoBulkAll parts + 1
  | .iface _ d => uptoBulk d + 1
  | .map entries => uptoBulkEntries entries + 1
  | .held _ => 1
def uptoBulkAll {H : Type} : List (DataW H) → Nat
  | [] => 0
  | d :: r => uptoBulk d + uptoBulkAll r
def uptoBulkEntries {H : Type} : List (Lit × DataW H) → Nat
  | [] => 0
  | x :: r => uptoBulkEntry x + uptoBulkEntries r
def uptoBulkEntry {H : Type} : Lit × DataW H → Nat
  | (.string bytes, d) => bytes.length + uptoBulk d + 1
  | (_, d) => uptoBulk d + 1
 end
def uptoSmall : (H : Type) → List (DataW H) → Bool := fun _ ds => decide (uptoBulkAll ds ≤ 1048576)
def OpenSpec.upto (s : _root_.Go.ChangeSpec) : _root_.Go.OpenSpec := { _root_.Go.OpenSpec.ofChange s with cond := some uptoSmall }

/-- 'flywheellaw20.LossyCuts', WHERE WHAT IT READS IS OF BULK AT MOST 1048576: true; the input reads as it did. -/
def lossyCutsUptoRow : OpenClaim := { program := "ytkfkbebpcmmnfaadoor", sum := "319f48411dd375bab66b1ded51df145b20c2a712873143d575385740052ccbdb", func := "flywheel/flywheellaw20.LossyCuts", spec := "lossyCuts", inPlace := ["math/bits.Add64"], named := ["flywheel/lossy.rows", "math/bits.divideError", "math/bits.overflowError"], apart := false, laid := [("flywheel/lossy.rows", laid_flywheel_lossy_rows)], narrowed := true }
def LossyCutsUptoSaid : Prop := lossyCutsUptoRow.holds Tryd.pinned (OpenSpec.upto lossyCutsSpec)

/-- 'flywheellaw20.LossyPlays', WHERE WHAT IT READS IS OF BULK AT MOST 1048576: true; the input reads as it did. -/
def lossyPlaysUptoRow : OpenClaim := { program := "ytkfkbebpcmmnfaadoor", sum := "319f48411dd375bab66b1ded51df145b20c2a712873143d575385740052ccbdb", func := "flywheel/flywheellaw20.LossyPlays", spec := "lossyPlays", inPlace := ["math/bits.Add64"], named := ["flywheel/lossy.rows", "math/bits.divideError", "math/bits.overflowError"], apart := false, laid := [("flywheel/lossy.rows", laid_flywheel_lossy_rows)], narrowed := true }
def LossyPlaysUptoSaid : Prop := lossyPlaysUptoRow.holds Tryd.pinned (OpenSpec.upto lossyPlaysSpec)

/-- 'flywheellaw20.LossyBounds', WHERE WHAT IT READS IS OF BULK AT MOST 1048576: true; the input reads as it did. -/
def lossyBoundsUptoRow : OpenClaim := { program := "ytkfkbebpcmmnfaadoor", sum := "319f48411dd375bab66b1ded51df145b20c2a712873143d575385740052ccbdb", func := "flywheel/flywheellaw20.LossyBounds", spec := "lossyBounds", inPlace := ["math/bits.Add64"], named := ["flywheel/lossy.rows", "math/bits.divideError", "math/bits.overflowError"], apart := false, laid := [("flywheel/lossy.rows", laid_flywheel_lossy_rows)], narrowed := true }
def LossyBoundsUptoSaid : Prop := lossyBoundsUptoRow.holds Tryd.pinned (OpenSpec.upto lossyBoundsSpec)

/-- 'flywheellaw20.LossyNone', WHERE WHAT IT READS IS OF BULK AT MOST 1048576: true; the input reads as it did. -/
def lossyNoneUptoRow : OpenClaim := { program := "ytkfkbebpcmmnfaadoor", sum := "319f48411dd375bab66b1ded51df145b20c2a712873143d575385740052ccbdb", func := "flywheel/flywheellaw20.LossyNone", spec := "lossyNone", inPlace := ["math/bits.Add64"], named := ["flywheel/lossy.rows", "math/bits.divideError", "math/bits.overflowError"], apart := false, laid := [("flywheel/lossy.rows", laid_flywheel_lossy_rows)], narrowed := true }
def LossyNoneUptoSaid : Prop := lossyNoneUptoRow.holds Tryd.pinned (OpenSpec.upto lossyNoneSpec)

end Rows
end Go.Proofs.YtkfkbebpcmmnfaaDoor

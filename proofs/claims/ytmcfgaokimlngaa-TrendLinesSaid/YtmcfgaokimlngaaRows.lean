/-
  No cell of these rows narrows 'for every input' (looked for: loops, veiled, ifaces, maps, wideKeys, modest, calm, conditions, laid).
  DERIVED. THE GIVEN ROWS OF THIS SEAT. 7 by the template 'for every input the law returns true; each argument reads behind the call as it read before'; 0 by the template 'total and deterministic' (their statements: YtmcfgaokimlngaaTotals.lean).
  GIVEN WITH THE SEED: the statements are not yours to turn. If you find one false, say at which input.
  Laid BY PROGRAM, IN A SANDBOX (cutbox-rows.mjs): the forced cells as the released guide's own fill.sh prints them over the translation 68fe5f3b002d19f0… (all of the seat's roots in one cut). By AI agents, Wed Nov 11 2026. No macro, syntax, notation, axiom, sorry.
-/
import Derived.Test.YtmcfgaokimlngaaChecked
import GoSem.Claim
import GoSem.ClaimJoined
import GoSem.ClaimMapViews
import Derived.JoinedTies
import Derived.KernelRfl
namespace Go.Proofs.Ytmcfgaokimlngaa
/- THE CELL 'sum', in the pinned program and in every row, IS THE sha256 OF THE DUMP (.gsa) THAT YtmcfgaokimlngaaProg.lean LOADS. Nothing in Lean hashes anything: it is a label: what it is worth is what the hold of that sum in a sandbox is worth. -/
noncomputable def Try.pinned : Pinned := { name := "ytmcfgaokimlngaa", sum := "68fe5f3b002d19f051c1164a14df0f39bc6575a5a33af17286c6c9e3e4e7d25c", checked := Try.checked }
namespace Rows
def none {H : Type} : Left H := { results := [], args := [] }

/-- 'flywheellaw17.TrendLines': WHATEVER THE INPUT: true; the input reads as it did. -/
def trendLinesSpec : ChangeSpec := { name := "trendLines", fn := fun _ => fun
  | [d1, d2] => { results := [.lit (.bool true)], args := [d1, d2] }
  | _ => none }
def trendLinesRow : OpenClaim := { program := "ytmcfgaokimlngaa", sum := "68fe5f3b002d19f051c1164a14df0f39bc6575a5a33af17286c6c9e3e4e7d25c", func := "flywheel/flywheellaw17.TrendLines", spec := "trendLines", inPlace := ["math/bits.Add64", "math/bits.Sub64"], named := ["math/bits.divideError", "math/bits.overflowError"], apart := false }
def TrendLinesSaid : Prop := trendLinesRow.holds Try.pinned (OpenSpec.ofChange trendLinesSpec)

/-- ITS FALSE NEIGHBOUR: 'it returns false'. Refute it at one input. -/
def trendLinesWrong : ChangeSpec := { name := "trendLines", fn := fun _ => fun
  | [d1, d2] => { results := [.lit (.bool false)], args := [d1, d2] }
  | _ => none }
def TrendLinesWrongFalsely : Prop := trendLinesRow.holds Try.pinned (OpenSpec.ofChange trendLinesWrong)

/-- 'flywheellaw17.TrendPlays': WHATEVER THE INPUT: true; the input reads as it did. -/
def trendPlaysSpec : ChangeSpec := { name := "trendPlays", fn := fun _ => fun
  | [d1, d2, d3] => { results := [.lit (.bool true)], args := [d1, d2, d3] }
  | _ => none }
def trendPlaysRow : OpenClaim := { program := "ytmcfgaokimlngaa", sum := "68fe5f3b002d19f051c1164a14df0f39bc6575a5a33af17286c6c9e3e4e7d25c", func := "flywheel/flywheellaw17.TrendPlays", spec := "trendPlays", inPlace := ["math/bits.Add64", "math/bits.Sub64"], named := ["math/bits.divideError", "math/bits.overflowError"], apart := false }
def TrendPlaysSaid : Prop := trendPlaysRow.holds Try.pinned (OpenSpec.ofChange trendPlaysSpec)

/-- ITS FALSE NEIGHBOUR: 'it returns false'. Refute it at one input. -/
def trendPlaysWrong : ChangeSpec := { name := "trendPlays", fn := fun _ => fun
  | [d1, d2, d3] => { results := [.lit (.bool false)], args := [d1, d2, d3] }
  | _ => none }
def TrendPlaysWrongFalsely : Prop := trendPlaysRow.holds Try.pinned (OpenSpec.ofChange trendPlaysWrong)

/-- 'flywheellaw17.TrendStraight': WHATEVER THE INPUT: true; the input reads as it did. -/
def trendStraightSpec : ChangeSpec := { name := "trendStraight", fn := fun _ => fun
  | [d1, d2, d3] => { results := [.lit (.bool true)], args := [d1, d2, d3] }
  | _ => none }
def trendStraightRow : OpenClaim := { program := "ytmcfgaokimlngaa", sum := "68fe5f3b002d19f051c1164a14df0f39bc6575a5a33af17286c6c9e3e4e7d25c", func := "flywheel/flywheellaw17.TrendStraight", spec := "trendStraight", inPlace := ["math/bits.Add64", "math/bits.Sub64"], named := ["math/bits.divideError", "math/bits.overflowError"], apart := false }
def TrendStraightSaid : Prop := trendStraightRow.holds Try.pinned (OpenSpec.ofChange trendStraightSpec)

/-- ITS FALSE NEIGHBOUR: 'it returns false'. Refute it at one input. -/
def trendStraightWrong : ChangeSpec := { name := "trendStraight", fn := fun _ => fun
  | [d1, d2, d3] => { results := [.lit (.bool false)], args := [d1, d2, d3] }
  | _ => none }
def TrendStraightWrongFalsely : Prop := trendStraightRow.holds Try.pinned (OpenSpec.ofChange trendStraightWrong)

/-- 'flywheellaw17.TrendMoved': WHATEVER THE INPUT: true; the input reads as it did. -/
def trendMovedSpec : ChangeSpec := { name := "trendMoved", fn := fun _ => fun
  | [d1, d2] => { results := [.lit (.bool true)], args := [d1, d2] }
  | _ => none }
def trendMovedRow : OpenClaim := { program := "ytmcfgaokimlngaa", sum := "68fe5f3b002d19f051c1164a14df0f39bc6575a5a33af17286c6c9e3e4e7d25c", func := "flywheel/flywheellaw17.TrendMoved", spec := "trendMoved", inPlace := ["math/bits.Sub64", "math/bits.Add64"], named := ["math/bits.divideError", "math/bits.overflowError"], apart := false }
def TrendMovedSaid : Prop := trendMovedRow.holds Try.pinned (OpenSpec.ofChange trendMovedSpec)

/-- ITS FALSE NEIGHBOUR: 'it returns false'. Refute it at one input. -/
def trendMovedWrong : ChangeSpec := { name := "trendMoved", fn := fun _ => fun
  | [d1, d2] => { results := [.lit (.bool false)], args := [d1, d2] }
  | _ => none }
def TrendMovedWrongFalsely : Prop := trendMovedRow.holds Try.pinned (OpenSpec.ofChange trendMovedWrong)

/-- 'flywheellaw17.TrendFlat': WHATEVER THE INPUT: true; the input reads as it did. -/
def trendFlatSpec : ChangeSpec := { name := "trendFlat", fn := fun _ => fun
  | [d1, d2] => { results := [.lit (.bool true)], args := [d1, d2] }
  | _ => none }
def trendFlatRow : OpenClaim := { program := "ytmcfgaokimlngaa", sum := "68fe5f3b002d19f051c1164a14df0f39bc6575a5a33af17286c6c9e3e4e7d25c", func := "flywheel/flywheellaw17.TrendFlat", spec := "trendFlat", inPlace := ["math/bits.Add64", "math/bits.Sub64"], named := ["math/bits.divideError", "math/bits.overflowError"], apart := false }
def TrendFlatSaid : Prop := trendFlatRow.holds Try.pinned (OpenSpec.ofChange trendFlatSpec)

/-- ITS FALSE NEIGHBOUR: 'it returns false'. Refute it at one input. -/
def trendFlatWrong : ChangeSpec := { name := "trendFlat", fn := fun _ => fun
  | [d1, d2] => { results := [.lit (.bool false)], args := [d1, d2] }
  | _ => none }
def TrendFlatWrongFalsely : Prop := trendFlatRow.holds Try.pinned (OpenSpec.ofChange trendFlatWrong)

/-- 'flywheellaw17.TrendNone': WHATEVER THE INPUT: true; the input reads as it did. -/
def trendNoneSpec : ChangeSpec := { name := "trendNone", fn := fun _ => fun
  | [d1, d2] => { results := [.lit (.bool true)], args := [d1, d2] }
  | _ => none }
def trendNoneRow : OpenClaim := { program := "ytmcfgaokimlngaa", sum := "68fe5f3b002d19f051c1164a14df0f39bc6575a5a33af17286c6c9e3e4e7d25c", func := "flywheel/flywheellaw17.TrendNone", spec := "trendNone", inPlace := ["math/bits.Add64", "math/bits.Sub64"], named := ["math/bits.divideError", "math/bits.overflowError"], apart := false }
def TrendNoneSaid : Prop := trendNoneRow.holds Try.pinned (OpenSpec.ofChange trendNoneSpec)

/-- ITS FALSE NEIGHBOUR: 'it returns false'. Refute it at one input. -/
def trendNoneWrong : ChangeSpec := { name := "trendNone", fn := fun _ => fun
  | [d1, d2] => { results := [.lit (.bool false)], args := [d1, d2] }
  | _ => none }
def TrendNoneWrongFalsely : Prop := trendNoneRow.holds Try.pinned (OpenSpec.ofChange trendNoneWrong)

/-- 'flywheellaw17.TrendTwice': WHATEVER THE INPUT: true; the input reads as it did. -/
def trendTwiceSpec : ChangeSpec := { name := "trendTwice", fn := fun _ => fun
  | [d] => { results := [.lit (.bool true)], args := [d] }
  | _ => none }
def trendTwiceRow : OpenClaim := { program := "ytmcfgaokimlngaa", sum := "68fe5f3b002d19f051c1164a14df0f39bc6575a5a33af17286c6c9e3e4e7d25c", func := "flywheel/flywheellaw17.TrendTwice", spec := "trendTwice", inPlace := ["math/bits.Sub64", "math/bits.Add64"], named := ["math/bits.divideError", "math/bits.overflowError"], apart := false }
def TrendTwiceSaid : Prop := trendTwiceRow.holds Try.pinned (OpenSpec.ofChange trendTwiceSpec)

/-- ITS FALSE NEIGHBOUR: 'it returns false'. Refute it at one input. -/
def trendTwiceWrong : ChangeSpec := { name := "trendTwice", fn := fun _ => fun
  | [d] => { results := [.lit (.bool false)], args := [d] }
  | _ => none }
def TrendTwiceWrongFalsely : Prop := trendTwiceRow.holds Try.pinned (OpenSpec.ofChange trendTwiceWrong)

/- THE SECOND FORM. 'bulk': how many values and letters a reading holds, each counted each time it is reached (what is shared counts as often as it is met; a slice's spare places count too). A statement '..UptoSaid' is the law's where the arguments, and the package variables that the reading takes, are together of bulk at most 1048576: NARROWER than '..Said'. Prove '..Said' where nothing that the law and all that it calls make is longer than what came in: it says more and counts as full. Else prove '..UptoSaid'. A law counts once. -/
mutual
def uptoBulk {H : Type} : DataW H → Nat
  | .lit (.string bytes) => bytes.length + 1
  | .lit _ => 1
  | .nil => 1
  | .ptr d => uptoBulk d + 1
  | .slice elems spare => uptoBulkAll elems + uptoBulkAll spare + 1
  | .agg parts => uptoBulkAll parts + 1
  | .iface _ d => uptoBulk d + 1
  | .map entries => uptoBulkEntries entries + 1
  | .held _ => 1
def uptoBulkAll {H : Type} : List (DataW H) → Nat
  | [] => 0
  | d :: r => uptoBulk d + uptoBulkAll r
def uptoBulkEntries {H : Type} : List (Lit × DataW H) → Nat
  | [] => 0
  | x :: r => uptoBulkEntry x + uptoBulkEntries r
def uptoBulkEntry {H : Type} : Lit × DataW H → Nat
  | (.string bytes, d) => bytes.length + uptoBulk d + 1
  | (_, d) => uptoBulk d + 1
 end
def uptoSmall : (H : Type) → List (DataW H) → Bool := fun _ ds => decide (uptoBulkAll ds ≤ 1048576)
def OpenSpec.upto (s : _root_.Go.ChangeSpec) : _root_.Go.OpenSpec := { _root_.Go.OpenSpec.ofChange s with cond := some uptoSmall }

/-- 'flywheellaw17.TrendLines', WHERE WHAT IT READS IS OF BULK AT MOST 1048576: true; the input reads as it did. -/
def trendLinesUptoRow : OpenClaim := { program := "ytmcfgaokimlngaa", sum := "68fe5f3b002d19f051c1164a14df0f39bc6575a5a33af17286c6c9e3e4e7d25c", func := "flywheel/flywheellaw17.TrendLines", spec := "trendLines", inPlace := ["math/bits.Add64", "math/bits.Sub64"], named := ["math/bits.divideError", "math/bits.overflowError"], apart := false, narrowed := true }
def TrendLinesUptoSaid : Prop := trendLinesUptoRow.holds Try.pinned (OpenSpec.upto trendLinesSpec)

/-- 'flywheellaw17.TrendPlays', WHERE WHAT IT READS IS OF BULK AT MOST 1048576: true; the input reads as it did. -/
def trendPlaysUptoRow : OpenClaim := { program := "ytmcfgaokimlngaa", sum := "68fe5f3b002d19f051c1164a14df0f39bc6575a5a33af17286c6c9e3e4e7d25c", func := "flywheel/flywheellaw17.TrendPlays", spec := "trendPlays", inPlace := ["math/bits.Add64", "math/bits.Sub64"], named := ["math/bits.divideError", "math/bits.overflowError"], apart := false, narrowed := true }
def TrendPlaysUptoSaid : Prop := trendPlaysUptoRow.holds Try.pinned (OpenSpec.upto trendPlaysSpec)

/-- 'flywheellaw17.TrendStraight', WHERE WHAT IT READS IS OF BULK AT MOST 1048576: true; the input reads as it did. -/
def trendStraightUptoRow : OpenClaim := { program := "ytmcfgaokimlngaa", sum := "68fe5f3b002d19f051c1164a14df0f39bc6575a5a33af17286c6c9e3e4e7d25c", func := "flywheel/flywheellaw17.TrendStraight", spec := "trendStraight", inPlace := ["math/bits.Add64", "math/bits.Sub64"], named := ["math/bits.divideError", "math/bits.overflowError"], apart := false, narrowed := true }
def TrendStraightUptoSaid : Prop := trendStraightUptoRow.holds Try.pinned (OpenSpec.upto trendStraightSpec)

/-- 'flywheellaw17.TrendMoved', WHERE WHAT IT READS IS OF BULK AT MOST 1048576: true; the input reads as it did. -/
def trendMovedUptoRow : OpenClaim := { program := "ytmcfgaokimlngaa", sum := "68fe5f3b002d19f051c1164a14df0f39bc6575a5a33af17286c6c9e3e4e7d25c", func := "flywheel/flywheellaw17.TrendMoved", spec := "trendMoved", inPlace := ["math/bits.Sub64", "math/bits.Add64"], named := ["math/bits.divideError", "math/bits.overflowError"], apart := false, narrowed := true }
def TrendMovedUptoSaid : Prop := trendMovedUptoRow.holds Try.pinned (OpenSpec.upto trendMovedSpec)

/-- 'flywheellaw17.TrendFlat', WHERE WHAT IT READS IS OF BULK AT MOST 1048576: true; the input reads as it did. -/
def trendFlatUptoRow : OpenClaim := { program := "ytmcfgaokimlngaa", sum := "68fe5f3b002d19f051c1164a14df0f39bc6575a5a33af17286c6c9e3e4e7d25c", func := "flywheel/flywheellaw17.TrendFlat", spec := "trendFlat", inPlace := ["math/bits.Add64", "math/bits.Sub64"], named := ["math/bits.divideError", "math/bits.overflowError"], apart := false, narrowed := true }
def TrendFlatUptoSaid : Prop := trendFlatUptoRow.holds Try.pinned (OpenSpec.upto trendFlatSpec)

/-- 'flywheellaw17.TrendNone', WHERE WHAT IT READS IS OF BULK AT MOST 1048576: true; the input reads as it did. -/
def trendNoneUptoRow : OpenClaim := { program := "ytmcfgaokimlngaa", sum := "68fe5f3b002d19f051c1164a14df0f39bc6575a5a33af17286c6c9e3e4e7d25c", func := "flywheel/flywheellaw17.TrendNone", spec := "trendNone", inPlace := ["math/bits.Add64", "math/bits.Sub64"], named := ["math/bits.divideError", "math/bits.overflowError"], apart := false, narrowed := true }
def TrendNoneUptoSaid : Prop := trendNoneUptoRow.holds Try.pinned (OpenSpec.upto trendNoneSpec)

/-- 'flywheellaw17.TrendTwice', WHERE WHAT IT READS IS OF BULK AT MOST 1048576: true; the input reads as it did. -/
def trendTwiceUptoRow : OpenClaim := { program := "ytmcfgaokimlngaa", sum := "68fe5f3b002d19f051c1164a14df0f39bc6575a5a33af17286c6c9e3e4e7d25c", func := "flywheel/flywheellaw17.TrendTwice", spec := "trendTwice", inPlace := ["math/bits.Sub64", "math/bits.Add64"], named := ["math/bits.divideError", "math/bits.overflowError"], apart := false, narrowed := true }
def TrendTwiceUptoSaid : Prop := trendTwiceUptoRow.holds Try.pinned (OpenSpec.upto trendTwiceSpec)

end Rows
end Go.Proofs.Ytmcfgaokimlngaa

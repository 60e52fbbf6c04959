/-
  No cell of these rows narrows 'for every input' (looked for: loops, veiled, ifaces, maps, wideKeys, modest, calm, conditions, laid).
  DERIVED. THE GIVEN ROWS OF THIS SEAT. 11 by the template 'for every input the law returns true; each argument reads behind the call as it read before'; 0 by the template 'total and deterministic' (their statements: YtaelmmbodigheaaTotals.lean).
  GIVEN WITH THE SEED: the statements are not yours to turn. If you find one false, say at which input.
  Laid BY PROGRAM, IN A SANDBOX (cutbox-rows.mjs): the forced cells as the released guide's own fill.sh prints them over the translation 4c1e88f1d4e00ab7… (all of the seat's roots in one cut). By AI agents, Wed Nov 11 2026. No macro, syntax, notation, axiom, sorry.
-/
import Derived.Test.YtaelmmbodigheaaChecked
import GoSem.Claim
import GoSem.ClaimJoined
import GoSem.ClaimMapViews
import Derived.JoinedTies
import Derived.KernelRfl
namespace Go.Proofs.Ytaelmmbodigheaa
/- THE CELL 'sum', in the pinned program and in every row, IS THE sha256 OF THE DUMP (.gsa) THAT YtaelmmbodigheaaProg.lean LOADS. Nothing in Lean hashes anything: it is a label: what it is worth is what the hold of that sum in a sandbox is worth. -/
noncomputable def Try.pinned : Pinned := { name := "ytaelmmbodigheaa", sum := "4c1e88f1d4e00ab716954a953323310389b4b381d0310825f780573d47ea0d98", checked := Try.checked }
namespace Rows
def none {H : Type} : Left H := { results := [], args := [] }

/-- 'flywheellaw19.AimdBounds': WHATEVER THE INPUT: true; the input reads as it did. -/
def aimdBoundsSpec : ChangeSpec := { name := "aimdBounds", fn := fun _ => fun
  | [d1, d2] => { results := [.lit (.bool true)], args := [d1, d2] }
  | _ => none }
def aimdBoundsRow : OpenClaim := { program := "ytaelmmbodigheaa", sum := "4c1e88f1d4e00ab716954a953323310389b4b381d0310825f780573d47ea0d98", func := "flywheel/flywheellaw19.AimdBounds", spec := "aimdBounds", inPlace := ["math/bits.Add64", "math/bits.Sub64"], unfollowed := true, recurses := true, named := ["math/bits.divideError", "math/bits.overflowError"], apart := false }
def AimdBoundsSaid : Prop := aimdBoundsRow.holds Try.pinned (OpenSpec.ofChange aimdBoundsSpec)

/-- ITS FALSE NEIGHBOUR: 'it returns false'. Refute it at one input. -/
def aimdBoundsWrong : ChangeSpec := { name := "aimdBounds", fn := fun _ => fun
  | [d1, d2] => { results := [.lit (.bool false)], args := [d1, d2] }
  | _ => none }
def AimdBoundsWrongFalsely : Prop := aimdBoundsRow.holds Try.pinned (OpenSpec.ofChange aimdBoundsWrong)

/-- 'flywheellaw19.AimdGrows': WHATEVER THE INPUT: true; the input reads as it did. -/
def aimdGrowsSpec : ChangeSpec := { name := "aimdGrows", fn := fun _ => fun
  | [d1, d2] => { results := [.lit (.bool true)], args := [d1, d2] }
  | _ => none }
def aimdGrowsRow : OpenClaim := { program := "ytaelmmbodigheaa", sum := "4c1e88f1d4e00ab716954a953323310389b4b381d0310825f780573d47ea0d98", func := "flywheel/flywheellaw19.AimdGrows", spec := "aimdGrows", inPlace := ["math/bits.Add64", "math/bits.Sub64"], unfollowed := true, recurses := true, named := ["math/bits.divideError", "math/bits.overflowError"], apart := false }
def AimdGrowsSaid : Prop := aimdGrowsRow.holds Try.pinned (OpenSpec.ofChange aimdGrowsSpec)

/-- ITS FALSE NEIGHBOUR: 'it returns false'. Refute it at one input. -/
def aimdGrowsWrong : ChangeSpec := { name := "aimdGrows", fn := fun _ => fun
  | [d1, d2] => { results := [.lit (.bool false)], args := [d1, d2] }
  | _ => none }
def AimdGrowsWrongFalsely : Prop := aimdGrowsRow.holds Try.pinned (OpenSpec.ofChange aimdGrowsWrong)

/-- 'flywheellaw19.AimdPlays': WHATEVER THE INPUT: true; the input reads as it did. -/
def aimdPlaysSpec : ChangeSpec := { name := "aimdPlays", fn := fun _ => fun
  | [d1, d2] => { results := [.lit (.bool true)], args := [d1, d2] }
  | _ => none }
def aimdPlaysRow : OpenClaim := { program := "ytaelmmbodigheaa", sum := "4c1e88f1d4e00ab716954a953323310389b4b381d0310825f780573d47ea0d98", func := "flywheel/flywheellaw19.AimdPlays", spec := "aimdPlays", inPlace := ["math/bits.Add64", "math/bits.Sub64"], unfollowed := true, recurses := true, named := ["math/bits.divideError", "math/bits.overflowError"], apart := false }
def AimdPlaysSaid : Prop := aimdPlaysRow.holds Try.pinned (OpenSpec.ofChange aimdPlaysSpec)

/-- ITS FALSE NEIGHBOUR: 'it returns false'. Refute it at one input. -/
def aimdPlaysWrong : ChangeSpec := { name := "aimdPlays", fn := fun _ => fun
  | [d1, d2] => { results := [.lit (.bool false)], args := [d1, d2] }
  | _ => none }
def AimdPlaysWrongFalsely : Prop := aimdPlaysRow.holds Try.pinned (OpenSpec.ofChange aimdPlaysWrong)

/-- 'flywheellaw19.AimdNone': WHATEVER THE INPUT: true; the input reads as it did. -/
def aimdNoneSpec : ChangeSpec := { name := "aimdNone", fn := fun _ => fun
  | [d] => { results := [.lit (.bool true)], args := [d] }
  | _ => none }
def aimdNoneRow : OpenClaim := { program := "ytaelmmbodigheaa", sum := "4c1e88f1d4e00ab716954a953323310389b4b381d0310825f780573d47ea0d98", func := "flywheel/flywheellaw19.AimdNone", spec := "aimdNone", inPlace := ["math/bits.Add64", "math/bits.Sub64"], unfollowed := true, recurses := true, named := ["math/bits.divideError", "math/bits.overflowError"], apart := false }
def AimdNoneSaid : Prop := aimdNoneRow.holds Try.pinned (OpenSpec.ofChange aimdNoneSpec)

/-- ITS FALSE NEIGHBOUR: 'it returns false'. Refute it at one input. -/
def aimdNoneWrong : ChangeSpec := { name := "aimdNone", fn := fun _ => fun
  | [d] => { results := [.lit (.bool false)], args := [d] }
  | _ => none }
def AimdNoneWrongFalsely : Prop := aimdNoneRow.holds Try.pinned (OpenSpec.ofChange aimdNoneWrong)

/-- 'flywheellaw19.AimdCuts': WHATEVER THE INPUT: true; the input reads as it did. -/
def aimdCutsSpec : ChangeSpec := { name := "aimdCuts", fn := fun _ => fun
  | [d1, d2, d3] => { results := [.lit (.bool true)], args := [d1, d2, d3] }
  | _ => none }
def aimdCutsRow : OpenClaim := { program := "ytaelmmbodigheaa", sum := "4c1e88f1d4e00ab716954a953323310389b4b381d0310825f780573d47ea0d98", func := "flywheel/flywheellaw19.AimdCuts", spec := "aimdCuts", inPlace := ["math/bits.Add64", "math/bits.Sub64"], unfollowed := true, recurses := true, named := ["math/bits.divideError", "math/bits.overflowError"], apart := false }
def AimdCutsSaid : Prop := aimdCutsRow.holds Try.pinned (OpenSpec.ofChange aimdCutsSpec)

/-- ITS FALSE NEIGHBOUR: 'it returns false'. Refute it at one input. -/
def aimdCutsWrong : ChangeSpec := { name := "aimdCuts", fn := fun _ => fun
  | [d1, d2, d3] => { results := [.lit (.bool false)], args := [d1, d2, d3] }
  | _ => none }
def AimdCutsWrongFalsely : Prop := aimdCutsRow.holds Try.pinned (OpenSpec.ofChange aimdCutsWrong)

/-- 'flywheellaw18.DetectPlays': WHATEVER THE INPUT: true; the input reads as it did. -/
def detectPlaysSpec : ChangeSpec := { name := "detectPlays", fn := fun _ => fun
  | [d] => { results := [.lit (.bool true)], args := [d] }
  | _ => none }
def detectPlaysRow : OpenClaim := { program := "ytaelmmbodigheaa", sum := "4c1e88f1d4e00ab716954a953323310389b4b381d0310825f780573d47ea0d98", func := "flywheel/flywheellaw18.DetectPlays", spec := "detectPlays", inPlace := ["math/bits.Sub64", "math/bits.Add64"], named := ["math/bits.divideError", "math/bits.overflowError"], apart := false }
def DetectPlaysSaid : Prop := detectPlaysRow.holds Try.pinned (OpenSpec.ofChange detectPlaysSpec)

/-- ITS FALSE NEIGHBOUR: 'it returns false'. Refute it at one input. -/
def detectPlaysWrong : ChangeSpec := { name := "detectPlays", fn := fun _ => fun
  | [d] => { results := [.lit (.bool false)], args := [d] }
  | _ => none }
def DetectPlaysWrongFalsely : Prop := detectPlaysRow.holds Try.pinned (OpenSpec.ofChange detectPlaysWrong)

/-- 'flywheellaw18.DetectHolds': WHATEVER THE INPUT: true; the input reads as it did. -/
def detectHoldsSpec : ChangeSpec := { name := "detectHolds", fn := fun _ => fun
  | [d] => { results := [.lit (.bool true)], args := [d] }
  | _ => none }
def detectHoldsRow : OpenClaim := { program := "ytaelmmbodigheaa", sum := "4c1e88f1d4e00ab716954a953323310389b4b381d0310825f780573d47ea0d98", func := "flywheel/flywheellaw18.DetectHolds", spec := "detectHolds", inPlace := ["math/bits.Sub64", "math/bits.Add64"], named := ["math/bits.divideError", "math/bits.overflowError"], apart := false }
def DetectHoldsSaid : Prop := detectHoldsRow.holds Try.pinned (OpenSpec.ofChange detectHoldsSpec)

/-- ITS FALSE NEIGHBOUR: 'it returns false'. Refute it at one input. -/
def detectHoldsWrong : ChangeSpec := { name := "detectHolds", fn := fun _ => fun
  | [d] => { results := [.lit (.bool false)], args := [d] }
  | _ => none }
def DetectHoldsWrongFalsely : Prop := detectHoldsRow.holds Try.pinned (OpenSpec.ofChange detectHoldsWrong)

/-- 'flywheellaw18.DetectFlat': WHATEVER THE INPUT: true; the input reads as it did. -/
def detectFlatSpec : ChangeSpec := { name := "detectFlat", fn := fun _ => fun
  | [d1, d2, d3] => { results := [.lit (.bool true)], args := [d1, d2, d3] }
  | _ => none }
def detectFlatRow : OpenClaim := { program := "ytaelmmbodigheaa", sum := "4c1e88f1d4e00ab716954a953323310389b4b381d0310825f780573d47ea0d98", func := "flywheel/flywheellaw18.DetectFlat", spec := "detectFlat", inPlace := ["math/bits.Sub64", "math/bits.Add64"], named := ["math/bits.divideError", "math/bits.overflowError"], apart := false }
def DetectFlatSaid : Prop := detectFlatRow.holds Try.pinned (OpenSpec.ofChange detectFlatSpec)

/-- ITS FALSE NEIGHBOUR: 'it returns false'. Refute it at one input. -/
def detectFlatWrong : ChangeSpec := { name := "detectFlat", fn := fun _ => fun
  | [d1, d2, d3] => { results := [.lit (.bool false)], args := [d1, d2, d3] }
  | _ => none }
def DetectFlatWrongFalsely : Prop := detectFlatRow.holds Try.pinned (OpenSpec.ofChange detectFlatWrong)

/-- 'flywheellaw18.DetectOnce': WHATEVER THE INPUT: true; the input reads as it did. -/
def detectOnceSpec : ChangeSpec := { name := "detectOnce", fn := fun _ => fun
  | [d1, d2, d3] => { results := [.lit (.bool true)], args := [d1, d2, d3] }
  | _ => none }
def detectOnceRow : OpenClaim := { program := "ytaelmmbodigheaa", sum := "4c1e88f1d4e00ab716954a953323310389b4b381d0310825f780573d47ea0d98", func := "flywheel/flywheellaw18.DetectOnce", spec := "detectOnce", inPlace := ["math/bits.Sub64", "math/bits.Add64"], named := ["math/bits.divideError", "math/bits.overflowError"], apart := false }
def DetectOnceSaid : Prop := detectOnceRow.holds Try.pinned (OpenSpec.ofChange detectOnceSpec)

/-- ITS FALSE NEIGHBOUR: 'it returns false'. Refute it at one input. -/
def detectOnceWrong : ChangeSpec := { name := "detectOnce", fn := fun _ => fun
  | [d1, d2, d3] => { results := [.lit (.bool false)], args := [d1, d2, d3] }
  | _ => none }
def DetectOnceWrongFalsely : Prop := detectOnceRow.holds Try.pinned (OpenSpec.ofChange detectOnceWrong)

/-- 'flywheellaw18.DetectNone': WHATEVER THE INPUT: true; the input reads as it did. -/
def detectNoneSpec : ChangeSpec := { name := "detectNone", fn := fun _ => fun
  | [d] => { results := [.lit (.bool true)], args := [d] }
  | _ => none }
def detectNoneRow : OpenClaim := { program := "ytaelmmbodigheaa", sum := "4c1e88f1d4e00ab716954a953323310389b4b381d0310825f780573d47ea0d98", func := "flywheel/flywheellaw18.DetectNone", spec := "detectNone", inPlace := ["math/bits.Sub64", "math/bits.Add64"], named := ["math/bits.divideError", "math/bits.overflowError"], apart := false }
def DetectNoneSaid : Prop := detectNoneRow.holds Try.pinned (OpenSpec.ofChange detectNoneSpec)

/-- ITS FALSE NEIGHBOUR: 'it returns false'. Refute it at one input. -/
def detectNoneWrong : ChangeSpec := { name := "detectNone", fn := fun _ => fun
  | [d] => { results := [.lit (.bool false)], args := [d] }
  | _ => none }
def DetectNoneWrongFalsely : Prop := detectNoneRow.holds Try.pinned (OpenSpec.ofChange detectNoneWrong)

/-- 'flywheellaw18.DetectUnder': WHATEVER THE INPUT: true; the input reads as it did. -/
def detectUnderSpec : ChangeSpec := { name := "detectUnder", fn := fun _ => fun
  | [d1, d2, d3] => { results := [.lit (.bool true)], args := [d1, d2, d3] }
  | _ => none }
def detectUnderRow : OpenClaim := { program := "ytaelmmbodigheaa", sum := "4c1e88f1d4e00ab716954a953323310389b4b381d0310825f780573d47ea0d98", func := "flywheel/flywheellaw18.DetectUnder", spec := "detectUnder", inPlace := ["math/bits.Sub64", "math/bits.Add64"], named := ["math/bits.divideError", "math/bits.overflowError"], apart := false }
def DetectUnderSaid : Prop := detectUnderRow.holds Try.pinned (OpenSpec.ofChange detectUnderSpec)

/-- ITS FALSE NEIGHBOUR: 'it returns false'. Refute it at one input. -/
def detectUnderWrong : ChangeSpec := { name := "detectUnder", fn := fun _ => fun
  | [d1, d2, d3] => { results := [.lit (.bool false)], args := [d1, d2, d3] }
  | _ => none }
def DetectUnderWrongFalsely : Prop := detectUnderRow.holds Try.pinned (OpenSpec.ofChange detectUnderWrong)

/- THE SECOND FORM. 'bulk': how many values and letters a reading holds, each counted each time it is reached (what is shared counts as often as it is met; a slice's spare places count too). A statement '..UptoSaid' is the law's where the arguments, and the package variables that the reading takes, are together of bulk at most 1048576: NARROWER than '..Said'. Prove '..Said' where nothing that the law and all that it calls make is longer than what came in: it says more and counts as full. Else prove '..UptoSaid'. A law counts once. -/
mutual
def uptoBulk {H : Type} : DataW H → Nat
  | .lit (.string bytes) => bytes.length + 1
  | .lit _ => 1
  | .nil => 1
  | .ptr d => uptoBulk d + 1
  | .slice elems spare => uptoBulkAll elems + uptoBulkAll spare + 1
  | .agg parts => uptoBulkAll parts + 1
  | .iface _ d => uptoBulk d + 1
  | .map entries => uptoBulkEntries entries + 1
  | .held _ => 1
def uptoBulkAll {H : Type} : List (DataW H) → Nat
  | [] => 0
  | d :: r => uptoBulk d + uptoBulkAll r
def uptoBulkEntries {H : Type} : List (Lit × DataW H) → Nat
  | [] => 0
  | x :: r => uptoBulkEntry x + uptoBulkEntries r
def uptoBulkEntry {H : Type} : Lit × DataW H → Nat
  | (.string bytes, d) => bytes.length + uptoBulk d + 1
  | (_, d) => uptoBulk d + 1
 end
def uptoSmall : (H : Type) → List (DataW H) → Bool := fun _ ds => decide (uptoBulkAll ds ≤ 1048576)
def OpenSpec.upto (s : _root_.Go.ChangeSpec) : _root_.Go.OpenSpec := { _root_.Go.OpenSpec.ofChange s with cond := some uptoSmall }

/-- 'flywheellaw19.AimdBounds', WHERE WHAT IT READS IS OF BULK AT MOST 1048576: true; the input reads as it did. -/
def aimdBoundsUptoRow : OpenClaim := { program := "ytaelmmbodigheaa", sum := "4c1e88f1d4e00ab716954a953323310389b4b381d0310825f780573d47ea0d98", func := "flywheel/flywheellaw19.AimdBounds", spec := "aimdBounds", inPlace := ["math/bits.Add64", "math/bits.Sub64"], unfollowed := true, recurses := true, named := ["math/bits.divideError", "math/bits.overflowError"], apart := false, narrowed := true }
def AimdBoundsUptoSaid : Prop := aimdBoundsUptoRow.holds Try.pinned (OpenSpec.upto aimdBoundsSpec)

/-- 'flywheellaw19.AimdGrows', WHERE WHAT IT READS IS OF BULK AT MOST 1048576: true; the input reads as it did. -/
def aimdGrowsUptoRow : OpenClaim := { program := "ytaelmmbodigheaa", sum := "4c1e88f1d4e00ab716954a953323310389b4b381d0310825f780573d47ea0d98", func := "flywheel/flywheellaw19.AimdGrows", spec := "aimdGrows", inPlace := ["math/bits.Add64", "math/bits.Sub64"], unfollowed := true, recurses := true, named := ["math/bits.divideError", "math/bits.overflowError"], apart := false, narrowed := true }
def AimdGrowsUptoSaid : Prop := aimdGrowsUptoRow.holds Try.pinned (OpenSpec.upto aimdGrowsSpec)

/-- 'flywheellaw19.AimdPlays', WHERE WHAT IT READS IS OF BULK AT MOST 1048576: true; the input reads as it did. -/
def aimdPlaysUptoRow : OpenClaim := { program := "ytaelmmbodigheaa", sum := "4c1e88f1d4e00ab716954a953323310389b4b381d0310825f780573d47ea0d98", func := "flywheel/flywheellaw19.AimdPlays", spec := "aimdPlays", inPlace := ["math/bits.Add64", "math/bits.Sub64"], unfollowed := true, recurses := true, named := ["math/bits.divideError", "math/bits.overflowError"], apart := false, narrowed := true }
def AimdPlaysUptoSaid : Prop := aimdPlaysUptoRow.holds Try.pinned (OpenSpec.upto aimdPlaysSpec)

/-- 'flywheellaw19.AimdNone', WHERE WHAT IT READS IS OF BULK AT MOST 1048576: true; the input reads as it did. -/
def aimdNoneUptoRow : OpenClaim := { program := "ytaelmmbodigheaa", sum := "4c1e88f1d4e00ab716954a953323310389b4b381d0310825f780573d47ea0d98", func := "flywheel/flywheellaw19.AimdNone", spec := "aimdNone", inPlace := ["math/bits.Add64", "math/bits.Sub64"], unfollowed := true, recurses := true, named := ["math/bits.divideError", "math/bits.overflowError"], apart := false, narrowed := true }
def AimdNoneUptoSaid : Prop := aimdNoneUptoRow.holds Try.pinned (OpenSpec.upto aimdNoneSpec)

/-- 'flywheellaw19.AimdCuts', WHERE WHAT IT READS IS OF BULK AT MOST 1048576: true; the input reads as it did. -/
def aimdCutsUptoRow : OpenClaim := { program := "ytaelmmbodigheaa", sum := "4c1e88f1d4e00ab716954a953323310389b4b381d0310825f780573d47ea0d98", func := "flywheel/flywheellaw19.AimdCuts", spec := "aimdCuts", inPlace := ["math/bits.Add64", "math/bits.Sub64"], unfollowed := true, recurses := true, named := ["math/bits.divideError", "math/bits.overflowError"], apart := false, narrowed := true }
def AimdCutsUptoSaid : Prop := aimdCutsUptoRow.holds Try.pinned (OpenSpec.upto aimdCutsSpec)

/-- 'flywheellaw18.DetectPlays', WHERE WHAT IT READS IS OF BULK AT MOST 1048576: true; the input reads as it did. -/
def detectPlaysUptoRow : OpenClaim := { program := "ytaelmmbodigheaa", sum := "4c1e88f1d4e00ab716954a953323310389b4b381d0310825f780573d47ea0d98", func := "flywheel/flywheellaw18.DetectPlays", spec := "detectPlays", inPlace := ["math/bits.Sub64", "math/bits.Add64"], named := ["math/bits.divideError", "math/bits.overflowError"], apart := false, narrowed := true }
def DetectPlaysUptoSaid : Prop := detectPlaysUptoRow.holds Try.pinned (OpenSpec.upto detectPlaysSpec)

/-- 'flywheellaw18.DetectHolds', WHERE WHAT IT READS IS OF BULK AT MOST 1048576: true; the input reads as it did. -/
def detectHoldsUptoRow : OpenClaim := { program := "ytaelmmbodigheaa", sum := "4c1e88f1d4e00ab716954a953323310389b4b381d0310825f780573d47ea0d98", func := "flywheel/flywheellaw18.DetectHolds", spec := "detectHolds", inPlace := ["math/bits.Sub64", "math/bits.Add64"], named := ["math/bits.divideError", "math/bits.overflowError"], apart := false, narrowed := true }
def DetectHoldsUptoSaid : Prop := detectHoldsUptoRow.holds Try.pinned (OpenSpec.upto detectHoldsSpec)

/-- 'flywheellaw18.DetectFlat', WHERE WHAT IT READS IS OF BULK AT MOST 1048576: true; the input reads as it did. -/
def detectFlatUptoRow : OpenClaim := { program := "ytaelmmbodigheaa", sum := "4c1e88f1d4e00ab716954a953323310389b4b381d0310825f780573d47ea0d98", func := "flywheel/flywheellaw18.DetectFlat", spec := "detectFlat", inPlace := ["math/bits.Sub64", "math/bits.Add64"], named := ["math/bits.divideError", "math/bits.overflowError"], apart := false, narrowed := true }
def DetectFlatUptoSaid : Prop := detectFlatUptoRow.holds Try.pinned (OpenSpec.upto detectFlatSpec)

/-- 'flywheellaw18.DetectOnce', WHERE WHAT IT READS IS OF BULK AT MOST 1048576: true; the input reads as it did. -/
def detectOnceUptoRow : OpenClaim := { program := "ytaelmmbodigheaa", sum := "4c1e88f1d4e00ab716954a953323310389b4b381d0310825f780573d47ea0d98", func := "flywheel/flywheellaw18.DetectOnce", spec := "detectOnce", inPlace := ["math/bits.Sub64", "math/bits.Add64"], named := ["math/bits.divideError", "math/bits.overflowError"], apart := false, narrowed := true }
def DetectOnceUptoSaid : Prop := detectOnceUptoRow.holds Try.pinned (OpenSpec.upto detectOnceSpec)

/-- 'flywheellaw18.DetectNone', WHERE WHAT IT READS IS OF BULK AT MOST 1048576: true; the input reads as it did. -/
def detectNoneUptoRow : OpenClaim := { program := "ytaelmmbodigheaa", sum := "4c1e88f1d4e00ab716954a953323310389b4b381d0310825f780573d47ea0d98", func := "flywheel/flywheellaw18.DetectNone", spec := "detectNone", inPlace := ["math/bits.Sub64", "math/bits.Add64"], named := ["math/bits.divideError", "math/bits.overflowError"], apart := false, narrowed := true }
def DetectNoneUptoSaid : Prop := detectNoneUptoRow.holds Try.pinned (OpenSpec.upto detectNoneSpec)

/-- 'flywheellaw18.DetectUnder', WHERE WHAT IT READS IS OF BULK AT MOST 1048576: true; the input reads as it did. -/
def detectUnderUptoRow : OpenClaim := { program := "ytaelmmbodigheaa", sum := "4c1e88f1d4e00ab716954a953323310389b4b381d0310825f780573d47ea0d98", func := "flywheel/flywheellaw18.DetectUnder", spec := "detectUnder", inPlace := ["math/bits.Sub64", "math/bits.Add64"], named := ["math/bits.divideError", "math/bits.overflowError"], apart := false, narrowed := true }
def DetectUnderUptoSaid : Prop := detectUnderUptoRow.holds Try.pinned (OpenSpec.upto detectUnderSpec)

end Rows
end Go.Proofs.Ytaelmmbodigheaa

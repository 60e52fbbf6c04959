/-
  No cell of these rows narrows 'for every input' (looked for: loops, veiled, ifaces, maps, wideKeys, modest, calm, conditions, laid).
  DERIVED. THE GIVEN ROWS OF THIS SEAT. 10 by the template 'for every input the law returns true; each argument reads behind the call as it read before'; 0 by the template 'total and deterministic' (their statements: YtlgfnclgkhfhpaaTotals.lean).
  GIVEN WITH THE SEED: the statements are not yours to turn. If you find one false, say at which input.
  Laid BY PROGRAM, IN A SANDBOX (cutbox-rows.mjs): the forced cells as the released guide's own fill.sh prints them over the translation 8a287b74899d3b34… (all of the seat's roots in one cut). By AI agents, Wed Nov 11 2026. No macro, syntax, notation, axiom, sorry.
-/
import Derived.Test.YtlgfnclgkhfhpaaChecked
import GoSem.Claim
import GoSem.ClaimJoined
import GoSem.ClaimMapViews
import Derived.JoinedTies
import Derived.KernelRfl
namespace Go.Proofs.Ytlgfnclgkhfhpaa
/- THE CELL 'sum', in the pinned program and in every row, IS THE sha256 OF THE DUMP (.gsa) THAT YtlgfnclgkhfhpaaProg.lean LOADS. Nothing in Lean hashes anything: it is a label: what it is worth is what the hold of that sum in a sandbox is worth. -/
noncomputable def Try.pinned : Pinned := { name := "ytlgfnclgkhfhpaa", sum := "8a287b74899d3b3491cf7438057409c379f7a0e62a7236c0e4c3e9a9954cf76c", checked := Try.checked }
namespace Rows
def none {H : Type} : Left H := { results := [], args := [] }

/-- 'flywheellaw27.AllocSplits': WHATEVER THE INPUT: true; the input reads as it did. -/
def allocSplitsSpec : ChangeSpec := { name := "allocSplits", fn := fun _ => fun
  | [d1, d2] => { results := [.lit (.bool true)], args := [d1, d2] }
  | _ => none }
def allocSplitsRow : OpenClaim := { program := "ytlgfnclgkhfhpaa", sum := "8a287b74899d3b3491cf7438057409c379f7a0e62a7236c0e4c3e9a9954cf76c", func := "flywheel/flywheellaw27.AllocSplits", spec := "allocSplits", inPlace := ["math/bits.Add64"], named := ["math/bits.divideError", "math/bits.overflowError"], apart := false }
def AllocSplitsSaid : Prop := allocSplitsRow.holds Try.pinned (OpenSpec.ofChange allocSplitsSpec)

/-- ITS FALSE NEIGHBOUR: 'it returns false'. Refute it at one input. -/
def allocSplitsWrong : ChangeSpec := { name := "allocSplits", fn := fun _ => fun
  | [d1, d2] => { results := [.lit (.bool false)], args := [d1, d2] }
  | _ => none }
def AllocSplitsWrongFalsely : Prop := allocSplitsRow.holds Try.pinned (OpenSpec.ofChange allocSplitsWrong)

/-- 'flywheellaw27.AllocFair': WHATEVER THE INPUT: true; the input reads as it did. -/
def allocFairSpec : ChangeSpec := { name := "allocFair", fn := fun _ => fun
  | [d1, d2, d3] => { results := [.lit (.bool true)], args := [d1, d2, d3] }
  | _ => none }
def allocFairRow : OpenClaim := { program := "ytlgfnclgkhfhpaa", sum := "8a287b74899d3b3491cf7438057409c379f7a0e62a7236c0e4c3e9a9954cf76c", func := "flywheel/flywheellaw27.AllocFair", spec := "allocFair", inPlace := ["math/bits.Add64"], named := ["math/bits.divideError", "math/bits.overflowError"], apart := false }
def AllocFairSaid : Prop := allocFairRow.holds Try.pinned (OpenSpec.ofChange allocFairSpec)

/-- ITS FALSE NEIGHBOUR: 'it returns false'. Refute it at one input. -/
def allocFairWrong : ChangeSpec := { name := "allocFair", fn := fun _ => fun
  | [d1, d2, d3] => { results := [.lit (.bool false)], args := [d1, d2, d3] }
  | _ => none }
def AllocFairWrongFalsely : Prop := allocFairRow.holds Try.pinned (OpenSpec.ofChange allocFairWrong)

/-- 'flywheellaw26.ProbeFew': WHATEVER THE INPUT: true; the input reads as it did. -/
def probeFewSpec : ChangeSpec := { name := "probeFew", fn := fun _ => fun
  | [d1, d2, d3] => { results := [.lit (.bool true)], args := [d1, d2, d3] }
  | _ => none }
def probeFewRow : OpenClaim := { program := "ytlgfnclgkhfhpaa", sum := "8a287b74899d3b3491cf7438057409c379f7a0e62a7236c0e4c3e9a9954cf76c", func := "flywheel/flywheellaw26.ProbeFew", spec := "probeFew", inPlace := ["math/bits.Add64"], unfollowed := true, recurses := true, named := ["math/bits.divideError", "math/bits.overflowError"], apart := false }
def ProbeFewSaid : Prop := probeFewRow.holds Try.pinned (OpenSpec.ofChange probeFewSpec)

/-- ITS FALSE NEIGHBOUR: 'it returns false'. Refute it at one input. -/
def probeFewWrong : ChangeSpec := { name := "probeFew", fn := fun _ => fun
  | [d1, d2, d3] => { results := [.lit (.bool false)], args := [d1, d2, d3] }
  | _ => none }
def ProbeFewWrongFalsely : Prop := probeFewRow.holds Try.pinned (OpenSpec.ofChange probeFewWrong)

/-- 'flywheellaw26.ProbePlays': WHATEVER THE INPUT: true; the input reads as it did. -/
def probePlaysSpec : ChangeSpec := { name := "probePlays", fn := fun _ => fun
  | [d] => { results := [.lit (.bool true)], args := [d] }
  | _ => none }
def probePlaysRow : OpenClaim := { program := "ytlgfnclgkhfhpaa", sum := "8a287b74899d3b3491cf7438057409c379f7a0e62a7236c0e4c3e9a9954cf76c", func := "flywheel/flywheellaw26.ProbePlays", spec := "probePlays", inPlace := ["math/bits.Add64"], unfollowed := true, recurses := true, named := ["math/bits.divideError", "math/bits.overflowError"], apart := false }
def ProbePlaysSaid : Prop := probePlaysRow.holds Try.pinned (OpenSpec.ofChange probePlaysSpec)

/-- ITS FALSE NEIGHBOUR: 'it returns false'. Refute it at one input. -/
def probePlaysWrong : ChangeSpec := { name := "probePlays", fn := fun _ => fun
  | [d] => { results := [.lit (.bool false)], args := [d] }
  | _ => none }
def ProbePlaysWrongFalsely : Prop := probePlaysRow.holds Try.pinned (OpenSpec.ofChange probePlaysWrong)

/-- 'flywheellaw26.ProbeFinds': WHATEVER THE INPUT: true; the input reads as it did. -/
def probeFindsSpec : ChangeSpec := { name := "probeFinds", fn := fun _ => fun
  | [d1, d2, d3] => { results := [.lit (.bool true)], args := [d1, d2, d3] }
  | _ => none }
def probeFindsRow : OpenClaim := { program := "ytlgfnclgkhfhpaa", sum := "8a287b74899d3b3491cf7438057409c379f7a0e62a7236c0e4c3e9a9954cf76c", func := "flywheel/flywheellaw26.ProbeFinds", spec := "probeFinds", inPlace := ["math/bits.Add64"], unfollowed := true, recurses := true, named := ["math/bits.divideError", "math/bits.overflowError"], apart := false }
def ProbeFindsSaid : Prop := probeFindsRow.holds Try.pinned (OpenSpec.ofChange probeFindsSpec)

/-- ITS FALSE NEIGHBOUR: 'it returns false'. Refute it at one input. -/
def probeFindsWrong : ChangeSpec := { name := "probeFinds", fn := fun _ => fun
  | [d1, d2, d3] => { results := [.lit (.bool false)], args := [d1, d2, d3] }
  | _ => none }
def ProbeFindsWrongFalsely : Prop := probeFindsRow.holds Try.pinned (OpenSpec.ofChange probeFindsWrong)

/-- 'flywheellaw26.ProbeNone': WHATEVER THE INPUT: true; the input reads as it did. -/
def probeNoneSpec : ChangeSpec := { name := "probeNone", fn := fun _ => fun
  | [d] => { results := [.lit (.bool true)], args := [d] }
  | _ => none }
def probeNoneRow : OpenClaim := { program := "ytlgfnclgkhfhpaa", sum := "8a287b74899d3b3491cf7438057409c379f7a0e62a7236c0e4c3e9a9954cf76c", func := "flywheel/flywheellaw26.ProbeNone", spec := "probeNone", inPlace := ["math/bits.Add64"], unfollowed := true, recurses := true, named := ["math/bits.divideError", "math/bits.overflowError"], apart := false }
def ProbeNoneSaid : Prop := probeNoneRow.holds Try.pinned (OpenSpec.ofChange probeNoneSpec)

/-- ITS FALSE NEIGHBOUR: 'it returns false'. Refute it at one input. -/
def probeNoneWrong : ChangeSpec := { name := "probeNone", fn := fun _ => fun
  | [d] => { results := [.lit (.bool false)], args := [d] }
  | _ => none }
def ProbeNoneWrongFalsely : Prop := probeNoneRow.holds Try.pinned (OpenSpec.ofChange probeNoneWrong)

/-- 'flywheellaw26.ProbeLeast': WHATEVER THE INPUT: true; the input reads as it did. -/
def probeLeastSpec : ChangeSpec := { name := "probeLeast", fn := fun _ => fun
  | [d1, d2] => { results := [.lit (.bool true)], args := [d1, d2] }
  | _ => none }
def probeLeastRow : OpenClaim := { program := "ytlgfnclgkhfhpaa", sum := "8a287b74899d3b3491cf7438057409c379f7a0e62a7236c0e4c3e9a9954cf76c", func := "flywheel/flywheellaw26.ProbeLeast", spec := "probeLeast", inPlace := ["math/bits.Add64"], unfollowed := true, recurses := true, named := ["math/bits.divideError", "math/bits.overflowError"], apart := false }
def ProbeLeastSaid : Prop := probeLeastRow.holds Try.pinned (OpenSpec.ofChange probeLeastSpec)

/-- ITS FALSE NEIGHBOUR: 'it returns false'. Refute it at one input. -/
def probeLeastWrong : ChangeSpec := { name := "probeLeast", fn := fun _ => fun
  | [d1, d2] => { results := [.lit (.bool false)], args := [d1, d2] }
  | _ => none }
def ProbeLeastWrongFalsely : Prop := probeLeastRow.holds Try.pinned (OpenSpec.ofChange probeLeastWrong)

/-- 'flywheellaw27.AllocShares': WHATEVER THE INPUT: true; the input reads as it did. -/
def allocSharesSpec : ChangeSpec := { name := "allocShares", fn := fun _ => fun
  | [d1, d2, d3] => { results := [.lit (.bool true)], args := [d1, d2, d3] }
  | _ => none }
def allocSharesRow : OpenClaim := { program := "ytlgfnclgkhfhpaa", sum := "8a287b74899d3b3491cf7438057409c379f7a0e62a7236c0e4c3e9a9954cf76c", func := "flywheel/flywheellaw27.AllocShares", spec := "allocShares", inPlace := ["math/bits.Add64"], named := ["math/bits.divideError", "math/bits.overflowError"], apart := false }
def AllocSharesSaid : Prop := allocSharesRow.holds Try.pinned (OpenSpec.ofChange allocSharesSpec)

/-- ITS FALSE NEIGHBOUR: 'it returns false'. Refute it at one input. -/
def allocSharesWrong : ChangeSpec := { name := "allocShares", fn := fun _ => fun
  | [d1, d2, d3] => { results := [.lit (.bool false)], args := [d1, d2, d3] }
  | _ => none }
def AllocSharesWrongFalsely : Prop := allocSharesRow.holds Try.pinned (OpenSpec.ofChange allocSharesWrong)

/-- 'flywheellaw27.AllocSums': WHATEVER THE INPUT: true; the input reads as it did. -/
def allocSumsSpec : ChangeSpec := { name := "allocSums", fn := fun _ => fun
  | [d1, d2, d3] => { results := [.lit (.bool true)], args := [d1, d2, d3] }
  | _ => none }
def allocSumsRow : OpenClaim := { program := "ytlgfnclgkhfhpaa", sum := "8a287b74899d3b3491cf7438057409c379f7a0e62a7236c0e4c3e9a9954cf76c", func := "flywheel/flywheellaw27.AllocSums", spec := "allocSums", inPlace := ["math/bits.Add64"], named := ["math/bits.divideError", "math/bits.overflowError"], apart := false }
def AllocSumsSaid : Prop := allocSumsRow.holds Try.pinned (OpenSpec.ofChange allocSumsSpec)

/-- ITS FALSE NEIGHBOUR: 'it returns false'. Refute it at one input. -/
def allocSumsWrong : ChangeSpec := { name := "allocSums", fn := fun _ => fun
  | [d1, d2, d3] => { results := [.lit (.bool false)], args := [d1, d2, d3] }
  | _ => none }
def AllocSumsWrongFalsely : Prop := allocSumsRow.holds Try.pinned (OpenSpec.ofChange allocSumsWrong)

/-- 'flywheellaw27.AllocOne': WHATEVER THE INPUT: true; the input reads as it did. -/
def allocOneSpec : ChangeSpec := { name := "allocOne", fn := fun _ => fun
  | [d1, d2, d3] => { results := [.lit (.bool true)], args := [d1, d2, d3] }
  | _ => none }
def allocOneRow : OpenClaim := { program := "ytlgfnclgkhfhpaa", sum := "8a287b74899d3b3491cf7438057409c379f7a0e62a7236c0e4c3e9a9954cf76c", func := "flywheel/flywheellaw27.AllocOne", spec := "allocOne", inPlace := ["math/bits.Add64"], named := ["math/bits.divideError", "math/bits.overflowError"], apart := false }
def AllocOneSaid : Prop := allocOneRow.holds Try.pinned (OpenSpec.ofChange allocOneSpec)

/-- ITS FALSE NEIGHBOUR: 'it returns false'. Refute it at one input. -/
def allocOneWrong : ChangeSpec := { name := "allocOne", fn := fun _ => fun
  | [d1, d2, d3] => { results := [.lit (.bool false)], args := [d1, d2, d3] }
  | _ => none }
def AllocOneWrongFalsely : Prop := allocOneRow.holds Try.pinned (OpenSpec.ofChange allocOneWrong)

/- THE SECOND FORM. 'bulk': how many values and letters a reading holds, each counted each time it is reached (what is shared counts as often as it is met; a slice's spare places count too). A statement '..UptoSaid' is the law's where the arguments, and the package variables that the reading takes, are together of bulk at most 1048576: NARROWER than '..Said'. Prove '..Said' where nothing that the law and all that it calls make is longer than what came in: it says more and counts as full. Else prove '..UptoSaid'. A law counts once. -/
mutual
def uptoBulk {H : Type} : DataW H → Nat
  | .lit (.string bytes) => bytes.length + 1
  | .lit _ => 1
  | .nil => 1
  | .ptr d => uptoBulk d + 1
  | .slice elems spare => uptoBulkAll elems + uptoBulkAll spare + 1
  | .agg parts => uptoBulkAll parts + 1
  | .iface _ d => uptoBulk d + 1
  | .map entries => uptoBulkEntries entries + 1
  | .held _ => 1
def uptoBulkAll {H : Type} : List (DataW H) → Nat
  | [] => 0
  | d :: r => uptoBulk d + uptoBulkAll r
def uptoBulkEntries {H : Type} : List (Lit × DataW H) → Nat
  | [] => 0
  | x :: r => uptoBulkEntry x + uptoBulkEntries r
def uptoBulkEntry {H : Type} : Lit × DataW H → Nat
  | (.string bytes, d) => bytes.length + uptoBulk d + 1
  | (_, d) => uptoBulk d + 1
 end
def uptoSmall : (H : Type) → List (DataW H) → Bool := fun _ ds => decide (uptoBulkAll ds ≤ 1048576)
def OpenSpec.upto (s : _root_.Go.ChangeSpec) : _root_.Go.OpenSpec := { _root_.Go.OpenSpec.ofChange s with cond := some uptoSmall }

/-- 'flywheellaw27.AllocSplits', WHERE WHAT IT READS IS OF BULK AT MOST 1048576: true; the input reads as it did. -/
def allocSplitsUptoRow : OpenClaim := { program := "ytlgfnclgkhfhpaa", sum := "8a287b74899d3b3491cf7438057409c379f7a0e62a7236c0e4c3e9a9954cf76c", func := "flywheel/flywheellaw27.AllocSplits", spec := "allocSplits", inPlace := ["math/bits.Add64"], named := ["math/bits.divideError", "math/bits.overflowError"], apart := false, narrowed := true }
def AllocSplitsUptoSaid : Prop := allocSplitsUptoRow.holds Try.pinned (OpenSpec.upto allocSplitsSpec)

/-- 'flywheellaw27.AllocFair', WHERE WHAT IT READS IS OF BULK AT MOST 1048576: true; the input reads as it did. -/
def allocFairUptoRow : OpenClaim := { program := "ytlgfnclgkhfhpaa", sum := "8a287b74899d3b3491cf7438057409c379f7a0e62a7236c0e4c3e9a9954cf76c", func := "flywheel/flywheellaw27.AllocFair", spec := "allocFair", inPlace := ["math/bits.Add64"], named := ["math/bits.divideError", "math/bits.overflowError"], apart := false, narrowed := true }
def AllocFairUptoSaid : Prop := allocFairUptoRow.holds Try.pinned (OpenSpec.upto allocFairSpec)

/-- 'flywheellaw26.ProbeFew', WHERE WHAT IT READS IS OF BULK AT MOST 1048576: true; the input reads as it did. -/
def probeFewUptoRow : OpenClaim := { program := "ytlgfnclgkhfhpaa", sum := "8a287b74899d3b3491cf7438057409c379f7a0e62a7236c0e4c3e9a9954cf76c", func := "flywheel/flywheellaw26.ProbeFew", spec := "probeFew", inPlace := ["math/bits.Add64"], unfollowed := true, recurses := true, named := ["math/bits.divideError", "math/bits.overflowError"], apart := false, narrowed := true }
def ProbeFewUptoSaid : Prop := probeFewUptoRow.holds Try.pinned (OpenSpec.upto probeFewSpec)

/-- 'flywheellaw26.ProbePlays', WHERE WHAT IT READS IS OF BULK AT MOST 1048576: true; the input reads as it did. -/
def probePlaysUptoRow : OpenClaim := { program := "ytlgfnclgkhfhpaa", sum := "8a287b74899d3b3491cf7438057409c379f7a0e62a7236c0e4c3e9a9954cf76c", func := "flywheel/flywheellaw26.ProbePlays", spec := "probePlays", inPlace := ["math/bits.Add64"], unfollowed := true, recurses := true, named := ["math/bits.divideError", "math/bits.overflowError"], apart := false, narrowed := true }
def ProbePlaysUptoSaid : Prop := probePlaysUptoRow.holds Try.pinned (OpenSpec.upto probePlaysSpec)

/-- 'flywheellaw26.ProbeFinds', WHERE WHAT IT READS IS OF BULK AT MOST 1048576: true; the input reads as it did. -/
def probeFindsUptoRow : OpenClaim := { program := "ytlgfnclgkhfhpaa", sum := "8a287b74899d3b3491cf7438057409c379f7a0e62a7236c0e4c3e9a9954cf76c", func := "flywheel/flywheellaw26.ProbeFinds", spec := "probeFinds", inPlace := ["math/bits.Add64"], unfollowed := true, recurses := true, named := ["math/bits.divideError", "math/bits.overflowError"], apart := false, narrowed := true }
def ProbeFindsUptoSaid : Prop := probeFindsUptoRow.holds Try.pinned (OpenSpec.upto probeFindsSpec)

/-- 'flywheellaw26.ProbeNone', WHERE WHAT IT READS IS OF BULK AT MOST 1048576: true; the input reads as it did. -/
def probeNoneUptoRow : OpenClaim := { program := "ytlgfnclgkhfhpaa", sum := "8a287b74899d3b3491cf7438057409c379f7a0e62a7236c0e4c3e9a9954cf76c", func := "flywheel/flywheellaw26.ProbeNone", spec := "probeNone", inPlace := ["math/bits.Add64"], unfollowed := true, recurses := true, named := ["math/bits.divideError", "math/bits.overflowError"], apart := false, narrowed := true }
def ProbeNoneUptoSaid : Prop := probeNoneUptoRow.holds Try.pinned (OpenSpec.upto probeNoneSpec)

/-- 'flywheellaw26.ProbeLeast', WHERE WHAT IT READS IS OF BULK AT MOST 1048576: true; the input reads as it did. -/
def probeLeastUptoRow : OpenClaim := { program := "ytlgfnclgkhfhpaa", sum := "8a287b74899d3b3491cf7438057409c379f7a0e62a7236c0e4c3e9a9954cf76c", func := "flywheel/flywheellaw26.ProbeLeast", spec := "probeLeast", inPlace := ["math/bits.Add64"], unfollowed := true, recurses := true, named := ["math/bits.divideError", "math/bits.overflowError"], apart := false, narrowed := true }
def ProbeLeastUptoSaid : Prop := probeLeastUptoRow.holds Try.pinned (OpenSpec.upto probeLeastSpec)

/-- 'flywheellaw27.AllocShares', WHERE WHAT IT READS IS OF BULK AT MOST 1048576: true; the input reads as it did. -/
def allocSharesUptoRow : OpenClaim := { program := "ytlgfnclgkhfhpaa", sum := "8a287b74899d3b3491cf7438057409c379f7a0e62a7236c0e4c3e9a9954cf76c", func := "flywheel/flywheellaw27.AllocShares", spec := "allocShares", inPlace := ["math/bits.Add64"], named := ["math/bits.divideError", "math/bits.overflowError"], apart := false, narrowed := true }
def AllocSharesUptoSaid : Prop := allocSharesUptoRow.holds Try.pinned (OpenSpec.upto allocSharesSpec)

/-- 'flywheellaw27.AllocSums', WHERE WHAT IT READS IS OF BULK AT MOST 1048576: true; the input reads as it did. -/
def allocSumsUptoRow : OpenClaim := { program := "ytlgfnclgkhfhpaa", sum := "8a287b74899d3b3491cf7438057409c379f7a0e62a7236c0e4c3e9a9954cf76c", func := "flywheel/flywheellaw27.AllocSums", spec := "allocSums", inPlace := ["math/bits.Add64"], named := ["math/bits.divideError", "math/bits.overflowError"], apart := false, narrowed := true }
def AllocSumsUptoSaid : Prop := allocSumsUptoRow.holds Try.pinned (OpenSpec.upto allocSumsSpec)

/-- 'flywheellaw27.AllocOne', WHERE WHAT IT READS IS OF BULK AT MOST 1048576: true; the input reads as it did. -/
def allocOneUptoRow : OpenClaim := { program := "ytlgfnclgkhfhpaa", sum := "8a287b74899d3b3491cf7438057409c379f7a0e62a7236c0e4c3e9a9954cf76c", func := "flywheel/flywheellaw27.AllocOne", spec := "allocOne", inPlace := ["math/bits.Add64"], named := ["math/bits.divideError", "math/bits.overflowError"], apart := false, narrowed := true }
def AllocOneUptoSaid : Prop := allocOneUptoRow.holds Try.pinned (OpenSpec.upto allocOneSpec)

end Rows
end Go.Proofs.Ytlgfnclgkhfhpaa

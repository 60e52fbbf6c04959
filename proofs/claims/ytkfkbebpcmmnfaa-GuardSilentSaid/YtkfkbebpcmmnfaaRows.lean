/-
  No cell of these rows narrows 'for every input' (looked for: loops, veiled, ifaces, maps, wideKeys, modest, calm, conditions, laid).
  DERIVED. THE GIVEN ROWS OF THIS SEAT. 6 by the template 'for every input the law returns true; each argument reads behind the call as it read before'; 0 by the template 'total and deterministic' (their statements: YtkfkbebpcmmnfaaTotals.lean).
  GIVEN WITH THE SEED: the statements are not yours to turn. If you find one false, say at which input.
  Laid BY PROGRAM, IN A SANDBOX (cutbox-rows.mjs): the forced cells as the released guide's own fill.sh prints them over the translation c19c6e82c9e5dd68… (all of the seat's roots in one cut). By AI agents, Wed Nov 11 2026. No macro, syntax, notation, axiom, sorry.
-/
import Derived.Test.YtkfkbebpcmmnfaaChecked
import GoSem.Claim
import GoSem.ClaimJoined
import GoSem.ClaimMapViews
import Derived.JoinedTies
import Derived.KernelRfl
namespace Go.Proofs.Ytkfkbebpcmmnfaa
/- THE CELL 'sum', in the pinned program and in every row, IS THE sha256 OF THE DUMP (.gsa) THAT YtkfkbebpcmmnfaaProg.lean LOADS. Nothing in Lean hashes anything: it is a label: what it is worth is what the hold of that sum in a sandbox is worth. -/
noncomputable def Try.pinned : Pinned := { name := "ytkfkbebpcmmnfaa", sum := "c19c6e82c9e5dd68d54e5e46ac2938096f0c9c8d8de395b04c47808380ae25ed", checked := Try.checked }
namespace Rows
def none {H : Type} : Left H := { results := [], args := [] }

/-- 'flywheellaw28.GuardBrakes': WHATEVER THE INPUT: true; the input reads as it did. -/
def guardBrakesSpec : ChangeSpec := { name := "guardBrakes", fn := fun _ => fun
  | [d1, d2] => { results := [.lit (.bool true)], args := [d1, d2] }
  | _ => none }
def guardBrakesRow : OpenClaim := { program := "ytkfkbebpcmmnfaa", sum := "c19c6e82c9e5dd68d54e5e46ac2938096f0c9c8d8de395b04c47808380ae25ed", func := "flywheel/flywheellaw28.GuardBrakes", spec := "guardBrakes", inPlace := ["math/bits.Add64"], unfollowed := true, recurses := true, named := ["math/bits.divideError", "math/bits.overflowError"], apart := false }
def GuardBrakesSaid : Prop := guardBrakesRow.holds Try.pinned (OpenSpec.ofChange guardBrakesSpec)

/-- ITS FALSE NEIGHBOUR: 'it returns false'. Refute it at one input. -/
def guardBrakesWrong : ChangeSpec := { name := "guardBrakes", fn := fun _ => fun
  | [d1, d2] => { results := [.lit (.bool false)], args := [d1, d2] }
  | _ => none }
def GuardBrakesWrongFalsely : Prop := guardBrakesRow.holds Try.pinned (OpenSpec.ofChange guardBrakesWrong)

/-- 'flywheellaw28.GuardFull': WHATEVER THE INPUT: true; the input reads as it did. -/
def guardFullSpec : ChangeSpec := { name := "guardFull", fn := fun _ => fun
  | [d1, d2] => { results := [.lit (.bool true)], args := [d1, d2] }
  | _ => none }
def guardFullRow : OpenClaim := { program := "ytkfkbebpcmmnfaa", sum := "c19c6e82c9e5dd68d54e5e46ac2938096f0c9c8d8de395b04c47808380ae25ed", func := "flywheel/flywheellaw28.GuardFull", spec := "guardFull", inPlace := ["math/bits.Add64"], unfollowed := true, recurses := true, named := ["math/bits.divideError", "math/bits.overflowError"], apart := false }
def GuardFullSaid : Prop := guardFullRow.holds Try.pinned (OpenSpec.ofChange guardFullSpec)

/-- ITS FALSE NEIGHBOUR: 'it returns false'. Refute it at one input. -/
def guardFullWrong : ChangeSpec := { name := "guardFull", fn := fun _ => fun
  | [d1, d2] => { results := [.lit (.bool false)], args := [d1, d2] }
  | _ => none }
def GuardFullWrongFalsely : Prop := guardFullRow.holds Try.pinned (OpenSpec.ofChange guardFullWrong)

/-- 'flywheellaw28.GuardFree': WHATEVER THE INPUT: true; the input reads as it did. -/
def guardFreeSpec : ChangeSpec := { name := "guardFree", fn := fun _ => fun
  | [d1, d2, d3] => { results := [.lit (.bool true)], args := [d1, d2, d3] }
  | _ => none }
def guardFreeRow : OpenClaim := { program := "ytkfkbebpcmmnfaa", sum := "c19c6e82c9e5dd68d54e5e46ac2938096f0c9c8d8de395b04c47808380ae25ed", func := "flywheel/flywheellaw28.GuardFree", spec := "guardFree", inPlace := ["math/bits.Add64"], unfollowed := true, recurses := true, named := ["math/bits.divideError", "math/bits.overflowError"], apart := false }
def GuardFreeSaid : Prop := guardFreeRow.holds Try.pinned (OpenSpec.ofChange guardFreeSpec)

/-- ITS FALSE NEIGHBOUR: 'it returns false'. Refute it at one input. -/
def guardFreeWrong : ChangeSpec := { name := "guardFree", fn := fun _ => fun
  | [d1, d2, d3] => { results := [.lit (.bool false)], args := [d1, d2, d3] }
  | _ => none }
def GuardFreeWrongFalsely : Prop := guardFreeRow.holds Try.pinned (OpenSpec.ofChange guardFreeWrong)

/-- 'flywheellaw28.GuardBounds': WHATEVER THE INPUT: true; the input reads as it did. -/
def guardBoundsSpec : ChangeSpec := { name := "guardBounds", fn := fun _ => fun
  | [d1, d2] => { results := [.lit (.bool true)], args := [d1, d2] }
  | _ => none }
def guardBoundsRow : OpenClaim := { program := "ytkfkbebpcmmnfaa", sum := "c19c6e82c9e5dd68d54e5e46ac2938096f0c9c8d8de395b04c47808380ae25ed", func := "flywheel/flywheellaw28.GuardBounds", spec := "guardBounds", inPlace := ["math/bits.Add64"], unfollowed := true, recurses := true, named := ["math/bits.divideError", "math/bits.overflowError"], apart := false }
def GuardBoundsSaid : Prop := guardBoundsRow.holds Try.pinned (OpenSpec.ofChange guardBoundsSpec)

/-- ITS FALSE NEIGHBOUR: 'it returns false'. Refute it at one input. -/
def guardBoundsWrong : ChangeSpec := { name := "guardBounds", fn := fun _ => fun
  | [d1, d2] => { results := [.lit (.bool false)], args := [d1, d2] }
  | _ => none }
def GuardBoundsWrongFalsely : Prop := guardBoundsRow.holds Try.pinned (OpenSpec.ofChange guardBoundsWrong)

/-- 'flywheellaw28.GuardSilent': WHATEVER THE INPUT: true; the input reads as it did. -/
def guardSilentSpec : ChangeSpec := { name := "guardSilent", fn := fun _ => fun
  | [d1, d2] => { results := [.lit (.bool true)], args := [d1, d2] }
  | _ => none }
def guardSilentRow : OpenClaim := { program := "ytkfkbebpcmmnfaa", sum := "c19c6e82c9e5dd68d54e5e46ac2938096f0c9c8d8de395b04c47808380ae25ed", func := "flywheel/flywheellaw28.GuardSilent", spec := "guardSilent", inPlace := ["math/bits.Add64"], unfollowed := true, recurses := true, named := ["math/bits.divideError", "math/bits.overflowError"], apart := false }
def GuardSilentSaid : Prop := guardSilentRow.holds Try.pinned (OpenSpec.ofChange guardSilentSpec)

/-- ITS FALSE NEIGHBOUR: 'it returns false'. Refute it at one input. -/
def guardSilentWrong : ChangeSpec := { name := "guardSilent", fn := fun _ => fun
  | [d1, d2] => { results := [.lit (.bool false)], args := [d1, d2] }
  | _ => none }
def GuardSilentWrongFalsely : Prop := guardSilentRow.holds Try.pinned (OpenSpec.ofChange guardSilentWrong)

/-- 'flywheellaw28.GuardNone': WHATEVER THE INPUT: true; the input reads as it did. -/
def guardNoneSpec : ChangeSpec := { name := "guardNone", fn := fun _ => fun
  | [d] => { results := [.lit (.bool true)], args := [d] }
  | _ => none }
def guardNoneRow : OpenClaim := { program := "ytkfkbebpcmmnfaa", sum := "c19c6e82c9e5dd68d54e5e46ac2938096f0c9c8d8de395b04c47808380ae25ed", func := "flywheel/flywheellaw28.GuardNone", spec := "guardNone", inPlace := ["math/bits.Add64"], unfollowed := true, recurses := true, named := ["math/bits.divideError", "math/bits.overflowError"], apart := false }
def GuardNoneSaid : Prop := guardNoneRow.holds Try.pinned (OpenSpec.ofChange guardNoneSpec)

/-- ITS FALSE NEIGHBOUR: 'it returns false'. Refute it at one input. -/
def guardNoneWrong : ChangeSpec := { name := "guardNone", fn := fun _ => fun
  | [d] => { results := [.lit (.bool false)], args := [d] }
  | _ => none }
def GuardNoneWrongFalsely : Prop := guardNoneRow.holds Try.pinned (OpenSpec.ofChange guardNoneWrong)

/- THE SECOND FORM. 'bulk': how many values and letters a reading holds, each counted each time it is reached (what is shared counts as often as it is met; a slice's spare places count too). A statement '..UptoSaid' is the law's where the arguments, and the package variables that the reading takes, are together of bulk at most 1048576: NARROWER than '..Said'. Prove '..Said' where nothing that the law and all that it calls make is longer than what came in: it says more and counts as full. Else prove '..UptoSaid'. A law counts once. -/
mutual
def uptoBulk {H : Type} : DataW H → Nat
  | .lit (.string bytes) => bytes.length + 1
  | .lit _ => 1
  | .nil => 1
  | .ptr d => uptoBulk d + 1
  | .slice elems spare => uptoBulkAll elems + uptoBulkAll spare + 1
  | .agg parts => uptoBulkAll parts + 1
  | .iface _ d => uptoBulk d + 1
  | .map entries => uptoBulkEntries entries + 1
  | .held _ => 1
def uptoBulkAll {H : Type} : List (DataW H) → Nat
  | [] => 0
  | d :: r => uptoBulk d + uptoBulkAll r
def uptoBulkEntries {H : Type} : List (Lit × DataW H) → Nat
  | [] => 0
  | x :: r => uptoBulkEntry x + uptoBulkEntries r
def uptoBulkEntry {H : Type} : Lit × DataW H → Nat
  | (.string bytes, d) => bytes.length + uptoBulk d + 1
  | (_, d) => uptoBulk d + 1
 end
def uptoSmall : (H : Type) → List (DataW H) → Bool := fun _ ds => decide (uptoBulkAll ds ≤ 1048576)
def OpenSpec.upto (s : _root_.Go.ChangeSpec) : _root_.Go.OpenSpec := { _root_.Go.OpenSpec.ofChange s with cond := some uptoSmall }

/-- 'flywheellaw28.GuardBrakes', WHERE WHAT IT READS IS OF BULK AT MOST 1048576: true; the input reads as it did. -/
def guardBrakesUptoRow : OpenClaim := { program := "ytkfkbebpcmmnfaa", sum := "c19c6e82c9e5dd68d54e5e46ac2938096f0c9c8d8de395b04c47808380ae25ed", func := "flywheel/flywheellaw28.GuardBrakes", spec := "guardBrakes", inPlace := ["math/bits.Add64"], unfollowed := true, recurses := true, named := ["math/bits.divideError", "math/bits.overflowError"], apart := false, narrowed := true }
def GuardBrakesUptoSaid : Prop := guardBrakesUptoRow.holds Try.pinned (OpenSpec.upto guardBrakesSpec)

/-- 'flywheellaw28.GuardFull', WHERE WHAT IT READS IS OF BULK AT MOST 1048576: true; the input reads as it did. -/
def guardFullUptoRow : OpenClaim := { program := "ytkfkbebpcmmnfaa", sum := "c19c6e82c9e5dd68d54e5e46ac2938096f0c9c8d8de395b04c47808380ae25ed", func := "flywheel/flywheellaw28.GuardFull", spec := "guardFull", inPlace := ["math/bits.Add64"], unfollowed := true, recurses := true, named := ["math/bits.divideError", "math/bits.overflowError"], apart := false, narrowed := true }
def GuardFullUptoSaid : Prop := guardFullUptoRow.holds Try.pinned (OpenSpec.upto guardFullSpec)

/-- 'flywheellaw28.GuardFree', WHERE WHAT IT READS IS OF BULK AT MOST 1048576: true; the input reads as it did. -/
def guardFreeUptoRow : OpenClaim := { program := "ytkfkbebpcmmnfaa", sum := "c19c6e82c9e5dd68d54e5e46ac2938096f0c9c8d8de395b04c47808380ae25ed", func := "flywheel/flywheellaw28.GuardFree", spec := "guardFree", inPlace := ["math/bits.Add64"], unfollowed := true, recurses := true, named := ["math/bits.divideError", "math/bits.overflowError"], apart := false, narrowed := true }
def GuardFreeUptoSaid : Prop := guardFreeUptoRow.holds Try.pinned (OpenSpec.upto guardFreeSpec)

/-- 'flywheellaw28.GuardBounds', WHERE WHAT IT READS IS OF BULK AT MOST 1048576: true; the input reads as it did. -/
def guardBoundsUptoRow : OpenClaim := { program := "ytkfkbebpcmmnfaa", sum := "c19c6e82c9e5dd68d54e5e46ac2938096f0c9c8d8de395b04c47808380ae25ed", func := "flywheel/flywheellaw28.GuardBounds", spec := "guardBounds", inPlace := ["math/bits.Add64"], unfollowed := true, recurses := true, named := ["math/bits.divideError", "math/bits.overflowError"], apart := false, narrowed := true }
def GuardBoundsUptoSaid : Prop := guardBoundsUptoRow.holds Try.pinned (OpenSpec.upto guardBoundsSpec)

/-- 'flywheellaw28.GuardSilent', WHERE WHAT IT READS IS OF BULK AT MOST 1048576: true; the input reads as it did. -/
def guardSilentUptoRow : OpenClaim := { program := "ytkfkbebpcmmnfaa", sum := "c19c6e82c9e5dd68d54e5e46ac2938096f0c9c8d8de395b04c47808380ae25ed", func := "flywheel/flywheellaw28.GuardSilent", spec := "guardSilent", inPlace := ["math/bits.Add64"], unfollowed := true, recurses := true, named := ["math/bits.divideError", "math/bits.overflowError"], apart := false, narrowed := true }
def GuardSilentUptoSaid : Prop := guardSilentUptoRow.holds Try.pinned (OpenSpec.upto guardSilentSpec)

/-- 'flywheellaw28.GuardNone', WHERE WHAT IT READS IS OF BULK AT MOST 1048576: true; the input reads as it did. -/
def guardNoneUptoRow : OpenClaim := { program := "ytkfkbebpcmmnfaa", sum := "c19c6e82c9e5dd68d54e5e46ac2938096f0c9c8d8de395b04c47808380ae25ed", func := "flywheel/flywheellaw28.GuardNone", spec := "guardNone", inPlace := ["math/bits.Add64"], unfollowed := true, recurses := true, named := ["math/bits.divideError", "math/bits.overflowError"], apart := false, narrowed := true }
def GuardNoneUptoSaid : Prop := guardNoneUptoRow.holds Try.pinned (OpenSpec.upto guardNoneSpec)

end Rows
end Go.Proofs.Ytkfkbebpcmmnfaa

/-
  No cell of these rows narrows 'for every input' (looked for: loops, veiled, ifaces, maps, wideKeys, modest, calm, conditions, laid).
  DERIVED. THE GIVEN ROWS OF THIS SEAT. 11 by the template 'for every input the law returns true; each argument reads behind the call as it read before'; 0 by the template 'total and deterministic' (their statements: YtipdmihaidpnpaaTotals.lean).
  GIVEN WITH THE SEED: the statements are not yours to turn. If you find one false, say at which input.
  Laid BY PROGRAM, IN A SANDBOX (cutbox-rows.mjs): the forced cells as the released guide's own fill.sh prints them over the translation 985aa0bcfe760986… (all of the seat's roots in one cut). By AI agents, Wed Nov 11 2026. No macro, syntax, notation, axiom, sorry.
-/
import Derived.Test.YtipdmihaidpnpaaChecked
import GoSem.Claim
import GoSem.ClaimJoined
import GoSem.ClaimMapViews
import Derived.JoinedTies
import Derived.KernelRfl
namespace Go.Proofs.Ytipdmihaidpnpaa
/- THE CELL 'sum', in the pinned program and in every row, IS THE sha256 OF THE DUMP (.gsa) THAT YtipdmihaidpnpaaProg.lean LOADS. Nothing in Lean hashes anything: it is a label: what it is worth is what the hold of that sum in a sandbox is worth. -/
noncomputable def Try.pinned : Pinned := { name := "ytipdmihaidpnpaa", sum := "985aa0bcfe760986bc3ef6fcdf277240e6bc8c585b6989aa4483918f330e6407", checked := Try.checked }
namespace Rows
def none {H : Type} : Left H := { results := [], args := [] }

/-- 'flywheellaw04.UnitsDoes': WHATEVER THE INPUT: true; the input reads as it did. -/
def unitsDoesSpec : ChangeSpec := { name := "unitsDoes", fn := fun _ => fun
  | [d1, d2] => { results := [.lit (.bool true)], args := [d1, d2] }
  | _ => none }
def unitsDoesRow : OpenClaim := { program := "ytipdmihaidpnpaa", sum := "985aa0bcfe760986bc3ef6fcdf277240e6bc8c585b6989aa4483918f330e6407", func := "flywheel/flywheellaw04.UnitsDoes", spec := "unitsDoes", inPlace := ["math/bits.Add64"], unfollowed := true, recurses := true, named := ["math/bits.divideError", "math/bits.overflowError"], apart := false }
def UnitsDoesSaid : Prop := unitsDoesRow.holds Try.pinned (OpenSpec.ofChange unitsDoesSpec)

/-- ITS FALSE NEIGHBOUR: 'it returns false'. Refute it at one input. -/
def unitsDoesWrong : ChangeSpec := { name := "unitsDoes", fn := fun _ => fun
  | [d1, d2] => { results := [.lit (.bool false)], args := [d1, d2] }
  | _ => none }
def UnitsDoesWrongFalsely : Prop := unitsDoesRow.holds Try.pinned (OpenSpec.ofChange unitsDoesWrong)

/-- 'flywheellaw04.UnitsBack': WHATEVER THE INPUT: true; the input reads as it did. -/
def unitsBackSpec : ChangeSpec := { name := "unitsBack", fn := fun _ => fun
  | [d1, d2, d3] => { results := [.lit (.bool true)], args := [d1, d2, d3] }
  | _ => none }
def unitsBackRow : OpenClaim := { program := "ytipdmihaidpnpaa", sum := "985aa0bcfe760986bc3ef6fcdf277240e6bc8c585b6989aa4483918f330e6407", func := "flywheel/flywheellaw04.UnitsBack", spec := "unitsBack", inPlace := ["math/bits.Add64"], unfollowed := true, recurses := true, named := ["math/bits.divideError", "math/bits.overflowError"], apart := false }
def UnitsBackSaid : Prop := unitsBackRow.holds Try.pinned (OpenSpec.ofChange unitsBackSpec)

/-- ITS FALSE NEIGHBOUR: 'it returns false'. Refute it at one input. -/
def unitsBackWrong : ChangeSpec := { name := "unitsBack", fn := fun _ => fun
  | [d1, d2, d3] => { results := [.lit (.bool false)], args := [d1, d2, d3] }
  | _ => none }
def UnitsBackWrongFalsely : Prop := unitsBackRow.holds Try.pinned (OpenSpec.ofChange unitsBackWrong)

/-- 'flywheellaw04.UnitsAdds': WHATEVER THE INPUT: true; the input reads as it did. -/
def unitsAddsSpec : ChangeSpec := { name := "unitsAdds", fn := fun _ => fun
  | [d1, d2, d3] => { results := [.lit (.bool true)], args := [d1, d2, d3] }
  | _ => none }
def unitsAddsRow : OpenClaim := { program := "ytipdmihaidpnpaa", sum := "985aa0bcfe760986bc3ef6fcdf277240e6bc8c585b6989aa4483918f330e6407", func := "flywheel/flywheellaw04.UnitsAdds", spec := "unitsAdds", inPlace := ["math/bits.Add64"], unfollowed := true, recurses := true, named := ["math/bits.divideError", "math/bits.overflowError"], apart := false }
def UnitsAddsSaid : Prop := unitsAddsRow.holds Try.pinned (OpenSpec.ofChange unitsAddsSpec)

/-- ITS FALSE NEIGHBOUR: 'it returns false'. Refute it at one input. -/
def unitsAddsWrong : ChangeSpec := { name := "unitsAdds", fn := fun _ => fun
  | [d1, d2, d3] => { results := [.lit (.bool false)], args := [d1, d2, d3] }
  | _ => none }
def UnitsAddsWrongFalsely : Prop := unitsAddsRow.holds Try.pinned (OpenSpec.ofChange unitsAddsWrong)

/-- 'flywheellaw02.MuldivRoots': WHATEVER THE INPUT: true; the input reads as it did. -/
def muldivRootsSpec : ChangeSpec := { name := "muldivRoots", fn := fun _ => fun
  | [d] => { results := [.lit (.bool true)], args := [d] }
  | _ => none }
def muldivRootsRow : OpenClaim := { program := "ytipdmihaidpnpaa", sum := "985aa0bcfe760986bc3ef6fcdf277240e6bc8c585b6989aa4483918f330e6407", func := "flywheel/flywheellaw02.MuldivRoots", spec := "muldivRoots", inPlace := ["math/bits.Add64"], named := ["math/bits.divideError", "math/bits.overflowError"], apart := false }
def MuldivRootsSaid : Prop := muldivRootsRow.holds Try.pinned (OpenSpec.ofChange muldivRootsSpec)

/-- ITS FALSE NEIGHBOUR: 'it returns false'. Refute it at one input. -/
def muldivRootsWrong : ChangeSpec := { name := "muldivRoots", fn := fun _ => fun
  | [d] => { results := [.lit (.bool false)], args := [d] }
  | _ => none }
def MuldivRootsWrongFalsely : Prop := muldivRootsRow.holds Try.pinned (OpenSpec.ofChange muldivRootsWrong)

/-- 'flywheellaw02.MuldivOrder': WHATEVER THE INPUT: true; the input reads as it did. -/
def muldivOrderSpec : ChangeSpec := { name := "muldivOrder", fn := fun _ => fun
  | [d1, d2, d3] => { results := [.lit (.bool true)], args := [d1, d2, d3] }
  | _ => none }
def muldivOrderRow : OpenClaim := { program := "ytipdmihaidpnpaa", sum := "985aa0bcfe760986bc3ef6fcdf277240e6bc8c585b6989aa4483918f330e6407", func := "flywheel/flywheellaw02.MuldivOrder", spec := "muldivOrder", inPlace := ["math/bits.Add64"], named := ["math/bits.divideError", "math/bits.overflowError"], apart := false }
def MuldivOrderSaid : Prop := muldivOrderRow.holds Try.pinned (OpenSpec.ofChange muldivOrderSpec)

/-- ITS FALSE NEIGHBOUR: 'it returns false'. Refute it at one input. -/
def muldivOrderWrong : ChangeSpec := { name := "muldivOrder", fn := fun _ => fun
  | [d1, d2, d3] => { results := [.lit (.bool false)], args := [d1, d2, d3] }
  | _ => none }
def MuldivOrderWrongFalsely : Prop := muldivOrderRow.holds Try.pinned (OpenSpec.ofChange muldivOrderWrong)

/-- 'flywheellaw02.MuldivWhole': WHATEVER THE INPUT: true; the input reads as it did. -/
def muldivWholeSpec : ChangeSpec := { name := "muldivWhole", fn := fun _ => fun
  | [d1, d2, d3] => { results := [.lit (.bool true)], args := [d1, d2, d3] }
  | _ => none }
def muldivWholeRow : OpenClaim := { program := "ytipdmihaidpnpaa", sum := "985aa0bcfe760986bc3ef6fcdf277240e6bc8c585b6989aa4483918f330e6407", func := "flywheel/flywheellaw02.MuldivWhole", spec := "muldivWhole", inPlace := ["math/bits.Add64"], named := ["math/bits.divideError", "math/bits.overflowError"], apart := false }
def MuldivWholeSaid : Prop := muldivWholeRow.holds Try.pinned (OpenSpec.ofChange muldivWholeSpec)

/-- ITS FALSE NEIGHBOUR: 'it returns false'. Refute it at one input. -/
def muldivWholeWrong : ChangeSpec := { name := "muldivWhole", fn := fun _ => fun
  | [d1, d2, d3] => { results := [.lit (.bool false)], args := [d1, d2, d3] }
  | _ => none }
def MuldivWholeWrongFalsely : Prop := muldivWholeRow.holds Try.pinned (OpenSpec.ofChange muldivWholeWrong)

/-- 'flywheellaw02.MuldivDoes': WHATEVER THE INPUT: true; the input reads as it did. -/
def muldivDoesSpec : ChangeSpec := { name := "muldivDoes", fn := fun _ => fun
  | [d] => { results := [.lit (.bool true)], args := [d] }
  | _ => none }
def muldivDoesRow : OpenClaim := { program := "ytipdmihaidpnpaa", sum := "985aa0bcfe760986bc3ef6fcdf277240e6bc8c585b6989aa4483918f330e6407", func := "flywheel/flywheellaw02.MuldivDoes", spec := "muldivDoes", inPlace := ["math/bits.Add64"], named := ["math/bits.divideError", "math/bits.overflowError"], apart := false }
def MuldivDoesSaid : Prop := muldivDoesRow.holds Try.pinned (OpenSpec.ofChange muldivDoesSpec)

/-- ITS FALSE NEIGHBOUR: 'it returns false'. Refute it at one input. -/
def muldivDoesWrong : ChangeSpec := { name := "muldivDoes", fn := fun _ => fun
  | [d] => { results := [.lit (.bool false)], args := [d] }
  | _ => none }
def MuldivDoesWrongFalsely : Prop := muldivDoesRow.holds Try.pinned (OpenSpec.ofChange muldivDoesWrong)

/-- 'flywheellaw02.MuldivBack': WHATEVER THE INPUT: true; the input reads as it did. -/
def muldivBackSpec : ChangeSpec := { name := "muldivBack", fn := fun _ => fun
  | [d1, d2, d3] => { results := [.lit (.bool true)], args := [d1, d2, d3] }
  | _ => none }
def muldivBackRow : OpenClaim := { program := "ytipdmihaidpnpaa", sum := "985aa0bcfe760986bc3ef6fcdf277240e6bc8c585b6989aa4483918f330e6407", func := "flywheel/flywheellaw02.MuldivBack", spec := "muldivBack", inPlace := ["math/bits.Add64"], named := ["math/bits.divideError", "math/bits.overflowError"], apart := false }
def MuldivBackSaid : Prop := muldivBackRow.holds Try.pinned (OpenSpec.ofChange muldivBackSpec)

/-- ITS FALSE NEIGHBOUR: 'it returns false'. Refute it at one input. -/
def muldivBackWrong : ChangeSpec := { name := "muldivBack", fn := fun _ => fun
  | [d1, d2, d3] => { results := [.lit (.bool false)], args := [d1, d2, d3] }
  | _ => none }
def MuldivBackWrongFalsely : Prop := muldivBackRow.holds Try.pinned (OpenSpec.ofChange muldivBackWrong)

/-- 'flywheellaw02.MuldivTurns': WHATEVER THE INPUT: true; the input reads as it did. -/
def muldivTurnsSpec : ChangeSpec := { name := "muldivTurns", fn := fun _ => fun
  | [d1, d2, d3] => { results := [.lit (.bool true)], args := [d1, d2, d3] }
  | _ => none }
def muldivTurnsRow : OpenClaim := { program := "ytipdmihaidpnpaa", sum := "985aa0bcfe760986bc3ef6fcdf277240e6bc8c585b6989aa4483918f330e6407", func := "flywheel/flywheellaw02.MuldivTurns", spec := "muldivTurns", inPlace := ["math/bits.Add64"], named := ["math/bits.divideError", "math/bits.overflowError"], apart := false }
def MuldivTurnsSaid : Prop := muldivTurnsRow.holds Try.pinned (OpenSpec.ofChange muldivTurnsSpec)

/-- ITS FALSE NEIGHBOUR: 'it returns false'. Refute it at one input. -/
def muldivTurnsWrong : ChangeSpec := { name := "muldivTurns", fn := fun _ => fun
  | [d1, d2, d3] => { results := [.lit (.bool false)], args := [d1, d2, d3] }
  | _ => none }
def MuldivTurnsWrongFalsely : Prop := muldivTurnsRow.holds Try.pinned (OpenSpec.ofChange muldivTurnsWrong)

/-- 'flywheellaw04.UnitsStamps': WHATEVER THE INPUT: true; the input reads as it did. -/
def unitsStampsSpec : ChangeSpec := { name := "unitsStamps", fn := fun _ => fun
  | [d1, d2, d3] => { results := [.lit (.bool true)], args := [d1, d2, d3] }
  | _ => none }
def unitsStampsRow : OpenClaim := { program := "ytipdmihaidpnpaa", sum := "985aa0bcfe760986bc3ef6fcdf277240e6bc8c585b6989aa4483918f330e6407", func := "flywheel/flywheellaw04.UnitsStamps", spec := "unitsStamps", inPlace := ["math/bits.Add64"], unfollowed := true, recurses := true, named := ["math/bits.divideError", "math/bits.overflowError"], apart := false }
def UnitsStampsSaid : Prop := unitsStampsRow.holds Try.pinned (OpenSpec.ofChange unitsStampsSpec)

/-- ITS FALSE NEIGHBOUR: 'it returns false'. Refute it at one input. -/
def unitsStampsWrong : ChangeSpec := { name := "unitsStamps", fn := fun _ => fun
  | [d1, d2, d3] => { results := [.lit (.bool false)], args := [d1, d2, d3] }
  | _ => none }
def UnitsStampsWrongFalsely : Prop := unitsStampsRow.holds Try.pinned (OpenSpec.ofChange unitsStampsWrong)

/-- 'flywheellaw04.UnitsTimes': WHATEVER THE INPUT: true; the input reads as it did. -/
def unitsTimesSpec : ChangeSpec := { name := "unitsTimes", fn := fun _ => fun
  | [d1, d2] => { results := [.lit (.bool true)], args := [d1, d2] }
  | _ => none }
def unitsTimesRow : OpenClaim := { program := "ytipdmihaidpnpaa", sum := "985aa0bcfe760986bc3ef6fcdf277240e6bc8c585b6989aa4483918f330e6407", func := "flywheel/flywheellaw04.UnitsTimes", spec := "unitsTimes", inPlace := ["math/bits.Add64"], unfollowed := true, recurses := true, named := ["math/bits.divideError", "math/bits.overflowError"], apart := false }
def UnitsTimesSaid : Prop := unitsTimesRow.holds Try.pinned (OpenSpec.ofChange unitsTimesSpec)

/-- ITS FALSE NEIGHBOUR: 'it returns false'. Refute it at one input. -/
def unitsTimesWrong : ChangeSpec := { name := "unitsTimes", fn := fun _ => fun
  | [d1, d2] => { results := [.lit (.bool false)], args := [d1, d2] }
  | _ => none }
def UnitsTimesWrongFalsely : Prop := unitsTimesRow.holds Try.pinned (OpenSpec.ofChange unitsTimesWrong)

/- THE SECOND FORM. 'bulk': how many values and letters a reading holds, each counted each time it is reached (what is shared counts as often as it is met; a slice's spare places count too). A statement '..UptoSaid' is the law's where the arguments, and the package variables that the reading takes, are together of bulk at most 1048576: NARROWER than '..Said'. Prove '..Said' where nothing that the law and all that it calls make is longer than what came in: it says more and counts as full. Else prove '..UptoSaid'. A law counts once. -/
mutual
def uptoBulk {H : Type} : DataW H → Nat
  | .lit (.string bytes) => bytes.length + 1
  | .lit _ => 1
  | .nil => 1
  | .ptr d => uptoBulk d + 1
  | .slice elems spare => uptoBulkAll elems + uptoBulkAll spare + 1
  | .agg parts => uptoBulkAll parts + 1
  | .iface _ d => uptoBulk d + 1
  | .map entries => uptoBulkEntries entries + 1
  | .held _ => 1
def uptoBulkAll {H : Type} : List (DataW H) → Nat
  | [] => 0
  | d :: r => uptoBulk d + uptoBulkAll r
def uptoBulkEntries {H : Type} : List (Lit × DataW H) → Nat
  | [] => 0
  | x :: r => uptoBulkEntry x + uptoBulkEntries r
def uptoBulkEntry {H : Type} : Lit × DataW H → Nat
  | (.string bytes, d) => bytes.length + uptoBulk d + 1
  | (_, d) => uptoBulk d + 1
 end
def uptoSmall : (H : Type) → List (DataW H) → Bool := fun _ ds => decide (uptoBulkAll ds ≤ 1048576)
def OpenSpec.upto (s : _root_.Go.ChangeSpec) : _root_.Go.OpenSpec := { _root_.Go.OpenSpec.ofChange s with cond := some uptoSmall }

/-- 'flywheellaw04.UnitsDoes', WHERE WHAT IT READS IS OF BULK AT MOST 1048576: true; the input reads as it did. -/
def unitsDoesUptoRow : OpenClaim := { program := "ytipdmihaidpnpaa", sum := "985aa0bcfe760986bc3ef6fcdf277240e6bc8c585b6989aa4483918f330e6407", func := "flywheel/flywheellaw04.UnitsDoes", spec := "unitsDoes", inPlace := ["math/bits.Add64"], unfollowed := true, recurses := true, named := ["math/bits.divideError", "math/bits.overflowError"], apart := false, narrowed := true }
def UnitsDoesUptoSaid : Prop := unitsDoesUptoRow.holds Try.pinned (OpenSpec.upto unitsDoesSpec)

/-- 'flywheellaw04.UnitsBack', WHERE WHAT IT READS IS OF BULK AT MOST 1048576: true; the input reads as it did. -/
def unitsBackUptoRow : OpenClaim := { program := "ytipdmihaidpnpaa", sum := "985aa0bcfe760986bc3ef6fcdf277240e6bc8c585b6989aa4483918f330e6407", func := "flywheel/flywheellaw04.UnitsBack", spec := "unitsBack", inPlace := ["math/bits.Add64"], unfollowed := true, recurses := true, named := ["math/bits.divideError", "math/bits.overflowError"], apart := false, narrowed := true }
def UnitsBackUptoSaid : Prop := unitsBackUptoRow.holds Try.pinned (OpenSpec.upto unitsBackSpec)

/-- 'flywheellaw04.UnitsAdds', WHERE WHAT IT READS IS OF BULK AT MOST 1048576: true; the input reads as it did. -/
def unitsAddsUptoRow : OpenClaim := { program := "ytipdmihaidpnpaa", sum := "985aa0bcfe760986bc3ef6fcdf277240e6bc8c585b6989aa4483918f330e6407", func := "flywheel/flywheellaw04.UnitsAdds", spec := "unitsAdds", inPlace := ["math/bits.Add64"], unfollowed := true, recurses := true, named := ["math/bits.divideError", "math/bits.overflowError"], apart := false, narrowed := true }
def UnitsAddsUptoSaid : Prop := unitsAddsUptoRow.holds Try.pinned (OpenSpec.upto unitsAddsSpec)

/-- 'flywheellaw02.MuldivRoots', WHERE WHAT IT READS IS OF BULK AT MOST 1048576: true; the input reads as it did. -/
def muldivRootsUptoRow : OpenClaim := { program := "ytipdmihaidpnpaa", sum := "985aa0bcfe760986bc3ef6fcdf277240e6bc8c585b6989aa4483918f330e6407", func := "flywheel/flywheellaw02.MuldivRoots", spec := "muldivRoots", inPlace := ["math/bits.Add64"], named := ["math/bits.divideError", "math/bits.overflowError"], apart := false, narrowed := true }
def MuldivRootsUptoSaid : Prop := muldivRootsUptoRow.holds Try.pinned (OpenSpec.upto muldivRootsSpec)

/-- 'flywheellaw02.MuldivOrder', WHERE WHAT IT READS IS OF BULK AT MOST 1048576: true; the input reads as it did. -/
def muldivOrderUptoRow : OpenClaim := { program := "ytipdmihaidpnpaa", sum := "985aa0bcfe760986bc3ef6fcdf277240e6bc8c585b6989aa4483918f330e6407", func := "flywheel/flywheellaw02.MuldivOrder", spec := "muldivOrder", inPlace := ["math/bits.Add64"], named := ["math/bits.divideError", "math/bits.overflowError"], apart := false, narrowed := true }
def MuldivOrderUptoSaid : Prop := muldivOrderUptoRow.holds Try.pinned (OpenSpec.upto muldivOrderSpec)

/-- 'flywheellaw02.MuldivWhole', WHERE WHAT IT READS IS OF BULK AT MOST 1048576: true; the input reads as it did. -/
def muldivWholeUptoRow : OpenClaim := { program := "ytipdmihaidpnpaa", sum := "985aa0bcfe760986bc3ef6fcdf277240e6bc8c585b6989aa4483918f330e6407", func := "flywheel/flywheellaw02.MuldivWhole", spec := "muldivWhole", inPlace := ["math/bits.Add64"], named := ["math/bits.divideError", "math/bits.overflowError"], apart := false, narrowed := true }
def MuldivWholeUptoSaid : Prop := muldivWholeUptoRow.holds Try.pinned (OpenSpec.upto muldivWholeSpec)

/-- 'flywheellaw02.MuldivDoes', WHERE WHAT IT READS IS OF BULK AT MOST 1048576: true; the input reads as it did. -/
def muldivDoesUptoRow : OpenClaim := { program := "ytipdmihaidpnpaa", sum := "985aa0bcfe760986bc3ef6fcdf277240e6bc8c585b6989aa4483918f330e6407", func := "flywheel/flywheellaw02.MuldivDoes", spec := "muldivDoes", inPlace := ["math/bits.Add64"], named := ["math/bits.divideError", "math/bits.overflowError"], apart := false, narrowed := true }
def MuldivDoesUptoSaid : Prop := muldivDoesUptoRow.holds Try.pinned (OpenSpec.upto muldivDoesSpec)

/-- 'flywheellaw02.MuldivBack', WHERE WHAT IT READS IS OF BULK AT MOST 1048576: true; the input reads as it did. -/
def muldivBackUptoRow : OpenClaim := { program := "ytipdmihaidpnpaa", sum := "985aa0bcfe760986bc3ef6fcdf277240e6bc8c585b6989aa4483918f330e6407", func := "flywheel/flywheellaw02.MuldivBack", spec := "muldivBack", inPlace := ["math/bits.Add64"], named := ["math/bits.divideError", "math/bits.overflowError"], apart := false, narrowed := true }
def MuldivBackUptoSaid : Prop := muldivBackUptoRow.holds Try.pinned (OpenSpec.upto muldivBackSpec)

/-- 'flywheellaw02.MuldivTurns', WHERE WHAT IT READS IS OF BULK AT MOST 1048576: true; the input reads as it did. -/
def muldivTurnsUptoRow : OpenClaim := { program := "ytipdmihaidpnpaa", sum := "985aa0bcfe760986bc3ef6fcdf277240e6bc8c585b6989aa4483918f330e6407", func := "flywheel/flywheellaw02.MuldivTurns", spec := "muldivTurns", inPlace := ["math/bits.Add64"], named := ["math/bits.divideError", "math/bits.overflowError"], apart := false, narrowed := true }
def MuldivTurnsUptoSaid : Prop := muldivTurnsUptoRow.holds Try.pinned (OpenSpec.upto muldivTurnsSpec)

/-- 'flywheellaw04.UnitsStamps', WHERE WHAT IT READS IS OF BULK AT MOST 1048576: true; the input reads as it did. -/
def unitsStampsUptoRow : OpenClaim := { program := "ytipdmihaidpnpaa", sum := "985aa0bcfe760986bc3ef6fcdf277240e6bc8c585b6989aa4483918f330e6407", func := "flywheel/flywheellaw04.UnitsStamps", spec := "unitsStamps", inPlace := ["math/bits.Add64"], unfollowed := true, recurses := true, named := ["math/bits.divideError", "math/bits.overflowError"], apart := false, narrowed := true }
def UnitsStampsUptoSaid : Prop := unitsStampsUptoRow.holds Try.pinned (OpenSpec.upto unitsStampsSpec)

/-- 'flywheellaw04.UnitsTimes', WHERE WHAT IT READS IS OF BULK AT MOST 1048576: true; the input reads as it did. -/
def unitsTimesUptoRow : OpenClaim := { program := "ytipdmihaidpnpaa", sum := "985aa0bcfe760986bc3ef6fcdf277240e6bc8c585b6989aa4483918f330e6407", func := "flywheel/flywheellaw04.UnitsTimes", spec := "unitsTimes", inPlace := ["math/bits.Add64"], unfollowed := true, recurses := true, named := ["math/bits.divideError", "math/bits.overflowError"], apart := false, narrowed := true }
def UnitsTimesUptoSaid : Prop := unitsTimesUptoRow.holds Try.pinned (OpenSpec.upto unitsTimesSpec)

end Rows
end Go.Proofs.Ytipdmihaidpnpaa

-- PUT TOGETHER by a program of this session: of the claim's texts, what is used
import Derived.Test.YtphgeljglhjamaaDoorKGccNone3
import Derived.Test.YtphgeljglhjamaaDoorKGccNone4
import Derived.MapKept
import Derived.ChangeMaps4
import Derived.Below
import Derived.Carry
section
namespace Go.Proofs.YtphgeljglhjamaaDoor.P
open Go.RowKit Go.MapKept Go.ChangeMaps Go.Proofs.YtphgeljglhjamaaDoorW.PrintWords Go.Proofs.YtphgeljglhjamaaDoorW.PrintLast
set_option linter.unusedVariables false
def fnv (f : Nat) : Value := .func (.func f) #[] #[]
structure FMap (W w : World) (m : Nat) (l : List (Int × Nat)) : Prop where
  bel : Below W.heap.size W w
  mem : W.heap.size ≤ m
  blk : ∃ es c, w.heap[m]? = some (.map es c) ∧ es.toList.map (fun e => (e.key, e.val)) = l.map (fun p => (Value.int .i64 p.1, fnv p.2))
end Go.Proofs.YtphgeljglhjamaaDoor.P
end

-- PUT TOGETHER by a program of this session: of the claim's texts, what is used
import Derived.Test.YtdddpmmpfemibaaKProbePlays3
import Derived.Laws.StructEq
section
namespace Go.Proofs.YtdddpmmpfemibaaW.PrintWords
open Go.RowKit
section
variable {P : Program} {d : Nat} {xs ys : Array Value} {f : Field} {fs : List Field} {a b : Value} {r s : Bool} {w : World}
end
end Go.Proofs.YtdddpmmpfemibaaW.PrintWords
end

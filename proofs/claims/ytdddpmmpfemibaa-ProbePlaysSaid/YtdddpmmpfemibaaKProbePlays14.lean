-- PUT TOGETHER by a program of this session: of the claim's texts, what is used
import Derived.SizedLaws
import Derived.ChangeSlices
section
namespace Go.Proofs.YtdddpmmpfemibaaW.PrintWords
open Go.ChangeShapes Go.WideShapes
end Go.Proofs.YtdddpmmpfemibaaW.PrintWords
end

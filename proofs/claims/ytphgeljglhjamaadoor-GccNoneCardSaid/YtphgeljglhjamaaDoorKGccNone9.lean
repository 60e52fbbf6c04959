-- PUT TOGETHER by a program of this session: of the claim's texts, what is used
import Derived.Laws.ComplexArith
import Derived.Laws.FloatBits
section
namespace Go.Proofs.YtphgeljglhjamaaDoor.FInt
open Ieee
set_option linter.unusedVariables false
set_option linter.unusedSimpArgs false
end Go.Proofs.YtphgeljglhjamaaDoor.FInt
end

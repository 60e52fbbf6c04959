-- PUT TOGETHER by a program of this session: of the claim's texts, what is used
import Derived.ScopeJumps
import Derived.WalkKit
section
namespace Go.Proofs.Ytdddpmmpfemibaa.P
set_option linter.unusedVariables false
section
variable {P : Program} {a : Act} {w : World} {Q : Exit → Act → World → Prop}
end
end Go.Proofs.Ytdddpmmpfemibaa.P
end

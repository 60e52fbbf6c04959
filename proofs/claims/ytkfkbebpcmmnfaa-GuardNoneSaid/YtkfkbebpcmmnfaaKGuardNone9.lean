-- PUT TOGETHER by a program of this session: of the claim's texts, what is used
import Derived.Test.YtkfkbebpcmmnfaaKGuardNone7
import Derived.Test.YtkfkbebpcmmnfaaKGuardNone8
import Derived.WalkArith
import Derived.KernelRfl
section
namespace Go.Proofs.Ytkfkbebpcmmnfaa.P
open Go.RowKit
set_option linter.unusedVariables false
set_option linter.unusedSimpArgs false
end Go.Proofs.Ytkfkbebpcmmnfaa.P
end

section
namespace Go.Proofs.Ytkfkbebpcmmnfaa.P
open Go.RowKit
set_option linter.unusedVariables false
set_option linter.unusedSimpArgs false
end Go.Proofs.Ytkfkbebpcmmnfaa.P
end

section
namespace Go.Proofs.Ytkfkbebpcmmnfaa.P
open Go.RowKit Go.Proofs.YtkfkbebpcmmnfaaW.PrintWords Go.Proofs.YtkfkbebpcmmnfaaW.PrintLast Go.Proofs.YtkfkbebpcmmnfaaW.PrintMore
set_option linter.unusedVariables false
set_option linter.unusedSimpArgs false
structure GC (c1 c2 c3 c4 c5 c7 : Int) : Prop where
  lo : 1 ≤ c1
  s0 : c1 ≤ c3
  s1 : c3 ≤ c2
  hi : c2 ≤ 17179869184
  l0 : 0 ≤ c5
  l1 : c5 ≤ c4
  l2 : c4 ≤ 1000000
  q0 : 1000 ≤ c7
  q1 : c7 ≤ 1125899906842624
theorem wakes28 : flywheellaw28_wakes.f = some true := by kernel_rfl
theorem wk28 : (flywheellaw28_wakes.f.bind fun t => some t) = some true := by rw [wakes28]; rfl
end Go.Proofs.Ytkfkbebpcmmnfaa.P
end

section
namespace Go.Proofs.Ytkfkbebpcmmnfaa.Pure
open Go.RowKit Go.Proofs.Ytkfkbebpcmmnfaa.P Go.Proofs.YtkfkbebpcmmnfaaW.PrintWords Go.Proofs.YtkfkbebpcmmnfaaW.PrintLast Go.Proofs.YtkfkbebpcmmnfaaW.PrintMore
set_option linter.unusedVariables false
set_option linter.unusedSimpArgs false
end Go.Proofs.Ytkfkbebpcmmnfaa.Pure
end

section
namespace Go.Proofs.Ytkfkbebpcmmnfaa.Pure
open Go.RowKit Go.Proofs.Ytkfkbebpcmmnfaa.P Go.Proofs.YtkfkbebpcmmnfaaW.PrintWords Go.Proofs.YtkfkbebpcmmnfaaW.PrintLast Go.Proofs.YtkfkbebpcmmnfaaW.PrintMore
set_option linter.unusedVariables false
set_option linter.unusedSimpArgs false
theorem GuardNone : flywheellaw28_GuardNone.Pure := by
  intro a b c d e f _ _ _ _ _
  unfold flywheellaw28_GuardNone.f guard_Guard_Hear.nilrecv.f guard_Guard_Tick.nilrecv.f guard_Guard_Target.nilrecv.f guard_Guard_Brakes.nilrecv.f
  rw [Option.bind_some, if_pos rfl, Option.bind_some, if_pos rfl, Option.bind_some, if_pos rfl, Option.bind_some, if_neg (by decide)]
  exact wk28
end Go.Proofs.Ytkfkbebpcmmnfaa.Pure
end

section

end

-- PUT TOGETHER by a program of this session: of the claim's texts, what is used
import Derived.Test.YtkfkbebpcmmnfaaDoorKLossyNone7
import Derived.Test.YtkfkbebpcmmnfaaDoorKLossyNone8
import Derived.WalkArith
import Derived.KernelRfl
section
namespace Go.Proofs.YtkfkbebpcmmnfaaDoor.P
open Go.RowKit
set_option linter.unusedVariables false
set_option linter.unusedSimpArgs false
end Go.Proofs.YtkfkbebpcmmnfaaDoor.P
end

section
namespace Go.Proofs.YtkfkbebpcmmnfaaDoor.P
open Go.RowKit
end Go.Proofs.YtkfkbebpcmmnfaaDoor.P
end

section
namespace Go.Proofs.YtkfkbebpcmmnfaaDoor.P
open Go.RowKit Go.Proofs.YtkfkbebpcmmnfaaDoorW.PrintWords Go.Proofs.YtkfkbebpcmmnfaaDoorW.PrintLast Go.Proofs.YtkfkbebpcmmnfaaDoorW.PrintMore
set_option linter.unusedVariables false
set_option linter.unusedSimpArgs false
structure LI (r lo hi la : Int) : Prop where
  lo1 : 1 ≤ lo
  r0 : lo ≤ r
  r1 : r ≤ hi
  hi1 : hi ≤ 17179869184
  la0 : 0 ≤ la
  la1 : la ≤ 1125899906842624
end Go.Proofs.YtkfkbebpcmmnfaaDoor.P
end

section
namespace Go.Proofs.YtkfkbebpcmmnfaaDoor.Pure
open Go.RowKit Go.Proofs.YtkfkbebpcmmnfaaDoor.P Go.Proofs.YtkfkbebpcmmnfaaDoorW.PrintWords Go.Proofs.YtkfkbebpcmmnfaaDoorW.PrintLast Go.Proofs.YtkfkbebpcmmnfaaDoorW.PrintMore
set_option linter.unusedVariables false
set_option linter.unusedSimpArgs false
theorem wakes20 : flywheellaw20_wakes.f = some true := by kernel_rfl
theorem wk20 : ((flywheellaw20_wakes.f).bind fun t => some t) = some true := by rw [wakes20]; rfl
theorem LossyNone : flywheellaw20_LossyNone.Pure := by
  intro a b _ _
  unfold flywheellaw20_LossyNone.f lossy_Lossy_Update.nilrecv.f lossy_Lossy_Rate.nilrecv.f
  simp only [Option.bind_some, if_true]
  exact wk20
end Go.Proofs.YtkfkbebpcmmnfaaDoor.Pure
end

section

end

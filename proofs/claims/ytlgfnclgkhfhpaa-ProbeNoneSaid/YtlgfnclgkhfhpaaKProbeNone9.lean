-- PUT TOGETHER by a program of this session: of the claim's texts, what is used
import Derived.Test.YtlgfnclgkhfhpaaKProbeNone7
import Derived.Test.YtlgfnclgkhfhpaaKProbeNone8
import Derived.WalkArith
import Derived.KernelRfl
section
namespace Go.Proofs.Ytlgfnclgkhfhpaa.P
open Go.RowKit
set_option linter.unusedVariables false
set_option linter.unusedSimpArgs false
end Go.Proofs.Ytlgfnclgkhfhpaa.P
end

section
namespace Go.Proofs.Ytlgfnclgkhfhpaa.P
open Go.RowKit Go.Proofs.YtlgfnclgkhfhpaaW.PrintWords Go.Proofs.YtlgfnclgkhfhpaaW.PrintLast Go.Proofs.YtlgfnclgkhfhpaaW.PrintMore
set_option linter.unusedVariables false
set_option linter.unusedSimpArgs false
set_option maxRecDepth 100000 in
theorem wakes26 : flywheellaw26_wakes.f = some true := by kernel_rfl
theorem wk26 : ((flywheellaw26_wakes.f).bind fun t => some t) = some true := by rw [wakes26]; rfl
end Go.Proofs.Ytlgfnclgkhfhpaa.P
end

section
namespace Go.Proofs.Ytlgfnclgkhfhpaa.Pure
open Go.RowKit Go.Proofs.Ytlgfnclgkhfhpaa.P Go.Proofs.YtlgfnclgkhfhpaaW.PrintWords Go.Proofs.YtlgfnclgkhfhpaaW.PrintLast Go.Proofs.YtlgfnclgkhfhpaaW.PrintMore
set_option linter.unusedVariables false
set_option linter.unusedSimpArgs false
theorem ProbeNone : flywheellaw26_ProbeNone.Pure := by
  intro a b c d e f _ _ _ _ _ _
  unfold flywheellaw26_ProbeNone.f probe_Probe_Open.nilrecv.f probe_Probe_Start.nilrecv.f probe_Probe_Sent.nilrecv.f probe_Probe_Got.nilrecv.f probe_Probe_Best.nilrecv.f
  simp only [Option.bind_some, if_true, Bool.false_eq_true, if_false]
  exact wk26
end Go.Proofs.Ytlgfnclgkhfhpaa.Pure
end

section

end

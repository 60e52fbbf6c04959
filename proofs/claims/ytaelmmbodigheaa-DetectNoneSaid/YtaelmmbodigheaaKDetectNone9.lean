-- PUT TOGETHER by a program of this session: of the claim's texts, what is used
import Derived.Test.YtaelmmbodigheaaKDetectNone7
import Derived.Test.YtaelmmbodigheaaKDetectNone8
import Derived.WalkArith
import Derived.KernelRfl
section
namespace Go.Proofs.Ytaelmmbodigheaa.P
open Go.RowKit
set_option linter.unusedVariables false
set_option linter.unusedSimpArgs false
end Go.Proofs.Ytaelmmbodigheaa.P
end

section
namespace Go.Proofs.Ytaelmmbodigheaa.P
open Go.RowKit
set_option linter.unusedVariables false
set_option linter.unusedSimpArgs false
end Go.Proofs.Ytaelmmbodigheaa.P
end

section
namespace Go.Proofs.Ytaelmmbodigheaa.P
open Go.RowKit Go.Proofs.YtaelmmbodigheaaW.PrintWords Go.Proofs.YtaelmmbodigheaaW.PrintLast Go.Proofs.YtaelmmbodigheaaW.PrintMore
set_option linter.unusedVariables false
set_option linter.unusedSimpArgs false
end Go.Proofs.Ytaelmmbodigheaa.P
end

section
namespace Go.Proofs.Ytaelmmbodigheaa.P
open Go.RowKit Go.Proofs.YtaelmmbodigheaaW.PrintWords Go.Proofs.YtaelmmbodigheaaW.PrintLast Go.Proofs.YtaelmmbodigheaaW.PrintMore
set_option linter.unusedVariables false
set_option linter.unusedSimpArgs false
theorem wakes18 : flywheellaw18_wakes.f 12 = some true := by kernel_rfl
theorem wakes18_ge (k : Nat) (h : 12 ≤ k) : flywheellaw18_wakes.f k = some true := by
  obtain ⟨d, rfl⟩ : ∃ d, k = 12 + d := ⟨k - 12, by omega⟩
  clear h
  induction d with
  | zero => exact wakes18
  | succ d ih => exact flywheellaw18_wakes.mono _ _ ih
end Go.Proofs.Ytaelmmbodigheaa.P
end

section
namespace Go.Proofs.Ytaelmmbodigheaa.Pure
open Go.RowKit Go.Proofs.Ytaelmmbodigheaa.P Go.Proofs.YtaelmmbodigheaaW.PrintWords Go.Proofs.YtaelmmbodigheaaW.PrintLast Go.Proofs.YtaelmmbodigheaaW.PrintMore
set_option linter.unusedVariables false
set_option linter.unusedSimpArgs false
theorem isNone_wakes (k : Nat) (h : 12 ≤ k) : ((flywheellaw18_wakes.f k).bind fun t => some t) = some true := by rw [wakes18_ge k h]; rfl
theorem DetectNone : flywheellaw18_DetectNone.Pure := by
  intro a0 a1 a2 a3 h0 h1 h2 h3
  refine ⟨12, ?_⟩
  unfold flywheellaw18_DetectNone.f detect_Detector_Add.nilrecv.f detect_Detector_Usage.nilrecv.f detect_Detector_Threshold.nilrecv.f
  simp only [Option.bind_some, if_true]
  exact isNone_wakes 12 (by decide)
end Go.Proofs.Ytaelmmbodigheaa.Pure
end

section

end

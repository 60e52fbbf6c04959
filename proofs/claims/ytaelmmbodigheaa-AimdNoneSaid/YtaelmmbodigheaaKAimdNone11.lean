-- PUT TOGETHER by a program of this session: of the claim's texts, what is used
import Derived.Test.YtaelmmbodigheaaKAimdNone8
import Derived.Test.YtaelmmbodigheaaKAimdNone9
import Derived.Test.YtaelmmbodigheaaKAimdNone10
import Derived.WalkArith
import Derived.KernelRfl
section
namespace Go.Proofs.Ytaelmmbodigheaa.P
open Go.RowKit
set_option linter.unusedVariables false
set_option linter.unusedSimpArgs false
end Go.Proofs.Ytaelmmbodigheaa.P
end

section
namespace Go.Proofs.Ytaelmmbodigheaa.P
open Go.RowKit
set_option linter.unusedVariables false
set_option linter.unusedSimpArgs false
end Go.Proofs.Ytaelmmbodigheaa.P
end

section
namespace Go.Proofs.Ytaelmmbodigheaa.P
open Go.RowKit
set_option linter.unusedVariables false
set_option linter.unusedSimpArgs false
end Go.Proofs.Ytaelmmbodigheaa.P
end

section
namespace Go.Proofs.Ytaelmmbodigheaa.P
open Go.RowKit Go.Proofs.YtaelmmbodigheaaW.PrintWords Go.Proofs.YtaelmmbodigheaaW.PrintLast Go.Proofs.YtaelmmbodigheaaW.PrintMore
set_option linter.unusedVariables false
set_option linter.unusedSimpArgs false
end Go.Proofs.Ytaelmmbodigheaa.P
end

section
namespace Go.Proofs.Ytaelmmbodigheaa.P
open Go.RowKit
end Go.Proofs.Ytaelmmbodigheaa.P
end

section
namespace Go.Proofs.Ytaelmmbodigheaa.P
open Go.RowKit Go.Proofs.YtaelmmbodigheaaW.PrintWords Go.Proofs.YtaelmmbodigheaaW.PrintLast Go.Proofs.YtaelmmbodigheaaW.PrintMore
set_option linter.unusedVariables false
set_option linter.unusedSimpArgs false
structure AI (r lo hi st me sp la : Int) : Prop where
  lo1 : 1 ≤ lo
  r0 : lo ≤ r
  r1 : r ≤ hi
  hi1 : hi ≤ 17179869184
  st0 : st = 0 ∨ st = 1
  me0 : 0 ≤ me
  me1 : me ≤ 17179869184
  sp0 : 0 ≤ sp
  sp1 : sp ≤ 17179869184
  la0 : 0 ≤ la
  la1 : la ≤ 1125899906842624
end Go.Proofs.Ytaelmmbodigheaa.P
end

section
namespace Go.Proofs.Ytaelmmbodigheaa.Pure
open Go.RowKit Go.Proofs.Ytaelmmbodigheaa.P Go.Proofs.YtaelmmbodigheaaW.PrintWords Go.Proofs.YtaelmmbodigheaaW.PrintLast Go.Proofs.YtaelmmbodigheaaW.PrintMore
set_option linter.unusedVariables false
set_option linter.unusedSimpArgs false
theorem wakes19 : flywheellaw19_wakes.f 12 = some true := by kernel_rfl
theorem wakes19_ge (k : Nat) (h : 12 ≤ k) : flywheellaw19_wakes.f k = some true := by
  obtain ⟨d, rfl⟩ : ∃ d, k = 12 + d := ⟨k - 12, by omega⟩
  clear h
  induction d with
  | zero => exact wakes19
  | succ d ih => exact flywheellaw19_wakes.mono _ _ ih
theorem wk19 (k : Nat) (h : 12 ≤ k) : ((flywheellaw19_wakes.f k).bind fun t => some t) = some true := by rw [wakes19_ge k h]; rfl
theorem AimdNone : flywheellaw19_AimdNone.Pure := by
  intro a b c d _ _ _ _
  refine ⟨12, ?_⟩
  unfold flywheellaw19_AimdNone.f aimd_Aimd_Update.nilrecv.f aimd_Aimd_Rate.nilrecv.f aimd_Aimd_State.nilrecv.f
  simp only [Option.bind_some, if_true]
  exact wk19 12 (by decide)
end Go.Proofs.Ytaelmmbodigheaa.Pure
end

section

end

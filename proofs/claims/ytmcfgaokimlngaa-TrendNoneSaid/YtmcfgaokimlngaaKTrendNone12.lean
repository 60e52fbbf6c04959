-- PUT TOGETHER by a program of this session: of the claim's texts, what is used
import Derived.Test.YtmcfgaokimlngaaKTrendNone9
import Derived.Test.YtmcfgaokimlngaaKTrendNone11
import Derived.WalkArith
import Derived.KernelRfl
section
namespace Go.Proofs.Ytmcfgaokimlngaa.P
open Go.RowKit
set_option linter.unusedVariables false
set_option linter.unusedSimpArgs false
end Go.Proofs.Ytmcfgaokimlngaa.P
end

section
namespace Go.Proofs.Ytmcfgaokimlngaa.P
open Go.RowKit Go.Proofs.YtmcfgaokimlngaaW.PrintWords Go.Proofs.YtmcfgaokimlngaaW.PrintLast Go.Proofs.YtmcfgaokimlngaaW.PrintMore
set_option linter.unusedVariables false
set_option linter.unusedSimpArgs false
set_option maxRecDepth 100000 in
theorem wakes17_40 : flywheellaw17_wakes.f 40 = some true := by kernel_rfl
theorem wakes17 (k : Nat) (h : 40 ≤ k) : flywheellaw17_wakes.f k = some true := at_rounds flywheellaw17_wakes.mono h wakes17_40
theorem wk17 (k : Nat) (h : 40 ≤ k) : ((flywheellaw17_wakes.f k).bind fun t => some t) = some true := by rw [wakes17 k h]; rfl
end Go.Proofs.Ytmcfgaokimlngaa.P
namespace Go.Proofs.Ytmcfgaokimlngaa.Pure
open Go.RowKit Go.Proofs.Ytmcfgaokimlngaa.P Go.Proofs.YtmcfgaokimlngaaW.PrintWords Go.Proofs.YtmcfgaokimlngaaW.PrintLast Go.Proofs.YtmcfgaokimlngaaW.PrintMore
theorem TrendNone : flywheellaw17_TrendNone.Pure := by
  intro a b _ _
  refine ⟨40, ?_⟩
  unfold flywheellaw17_TrendNone.f trend_Trend_Add.nilrecv.f trend_Trend_Slope.nilrecv.f trend_Trend_Count.nilrecv.f
  simp only [Option.bind_some, if_true]
  exact wk17 40 (by omega)
end Go.Proofs.Ytmcfgaokimlngaa.Pure
end

section

end

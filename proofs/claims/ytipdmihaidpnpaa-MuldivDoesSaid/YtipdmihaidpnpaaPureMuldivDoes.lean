/- Every product divided by every number, rounded in every way, held, and whether it was, is as the document has it. -/
import Derived.Test.YtipdmihaidpnpaaPx8
import Derived.Test.YtipdmihaidpnpaaMuldiv2
namespace Go.Proofs.Ytipdmihaidpnpaa.Pure
open Go.RowKit Go.Proofs.Ytipdmihaidpnpaa.P
theorem MuldivDoes : flywheellaw02_MuldivDoes.Pure := by
  intro a b c h ha hb hc hh
  have ha := isI64_of_wf ha
  have hb := isI64_of_wf hb
  have hc := isI64_of_wf hc
  refine ⟨40, ?_⟩
  unfold flywheellaw02_MuldivDoes.f flywheelref02_Did_s.f
  rw [if_pos ⟨ha, hb, hc⟩, do_eq h ha hb hc, fits_eq h ha hb hc]
  simp only [Option.bind_some]
  rw [if_pos (show md a b c h = (mdq a b c h).1 from rfl), wakes02 40 (Nat.le_refl _)]
  by_cases e : (mdq a b c h).2 = true
  · rw [if_pos e, if_pos e]; rfl
  · rw [if_neg e, if_neg e]; rfl
end Go.Proofs.Ytipdmihaidpnpaa.Pure

/- Bytes, ticks and rates of any numbers are those of the document. -/
import Derived.Test.YtipdmihaidpnpaaPx6
import Derived.Test.YtipdmihaidpnpaaUnits
namespace Go.Proofs.Ytipdmihaidpnpaa.Pure
open Go.RowKit Go.Proofs.Ytipdmihaidpnpaa.P
theorem UnitsDoes : flywheellaw04_UnitsDoes.Pure := by
  intro a b ha hb
  have ha := isI64_of_wf ha
  have hb := isI64_of_wf hb
  unfold flywheellaw04_UnitsDoes.f
  simp only [bytes_eq ha hb, rbytes_eq ha hb, ticks_eq ha hb, rticks_eq ha hb, rate_eq ha hb, rrate_eq ha hb, wakes04, Option.bind_some, if_true]
end Go.Proofs.Ytipdmihaidpnpaa.Pure

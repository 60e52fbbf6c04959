/- The bytes of two spans are, but for one, those of both together; so are a rate's of two rates. -/
import Derived.Test.YtipdmihaidpnpaaPx6
import Derived.Test.YtipdmihaidpnpaaUnits
namespace Go.Proofs.Ytipdmihaidpnpaa.Pure
open Go.RowKit Go.Proofs.Ytipdmihaidpnpaa.P
theorem UnitsAdds : flywheellaw04_UnitsAdds.Pure := by
  intro a b c ha hb hc
  have ha := u32_of_wf ha
  have hb := u32_of_wf hb
  have hc := u32_of_wf hc
  unfold flywheellaw04_UnitsAdds.f
  have wa : wrap64 a = a := wrap64_id (isI64_mk (by omega) (by omega))
  have wb : wrap64 b = b := wrap64_id (isI64_mk (by omega) (by omega))
  have wc : wrap64 c = c := wrap64_id (isI64_mk (by omega) (by omega))
  have wbc : wrap64 (b + c) = b + c := wrap64_id (isI64_mk (by omega) (by omega))
  simp only [wa, wb, wc, wbc]
  have ia : isI64 a := isI64_mk (by omega) (by omega)
  have ib : isI64 b := isI64_mk (by omega) (by omega)
  have ic : isI64 c := isI64_mk (by omega) (by omega)
  have ibc : isI64 (b + c) := isI64_mk (by omega) (by omega)
  have q0 := Int.mul_nonneg ha.1 hb.1
  have q1 := Int.mul_le_mul ha.2 hb.2 hb.1 (by omega)
  have r0 := Int.mul_nonneg ha.1 hc.1
  have r1 := Int.mul_le_mul ha.2 hc.2 hc.1 (by omega)
  have e1 : a * (b + c) = a * b + a * c := Int.mul_add _ _ _
  have e2 : (b + c) * a = a * b + a * c := by rw [Int.mul_comm, e1]
  have e3 : b * a = a * b := Int.mul_comm _ _
  have e4 : c * a = a * c := Int.mul_comm _ _
  rw [bytes_eq ia ib, bytes_eq ia ic, bytes_eq ia ibc, bytes_eq ib ia, bytes_eq ic ia, bytes_eq ibc ia]
  simp only [Option.bind_some]
  rw [md_down (a := a) (b := b) (by decide) (isI64_mk (by omega) (by omega)), md_down (a := a) (b := c) (by decide) (isI64_mk (by omega) (by omega)),
    md_down (a := a) (b := b + c) (by decide) (isI64_mk (by omega) (by omega)), md_down (a := b) (b := a) (by decide) (isI64_mk (by omega) (by omega)),
    md_down (a := c) (b := a) (by decide) (isI64_mk (by omega) (by omega)), md_down (a := b + c) (b := a) (by decide) (isI64_mk (by omega) (by omega))]
  rw [e1, e2, e3, e4]
  generalize a * b = p at *
  generalize a * c = q at *
  have w1 : wrap64 (p / 8000000 + q / 8000000) = p / 8000000 + q / 8000000 := wrap64_id (isI64_mk (by omega) (by omega))
  have w2 : wrap64 (p / 8000000 + q / 8000000 + 1) = p / 8000000 + q / 8000000 + 1 := wrap64_id (isI64_mk (by omega) (by omega))
  rw [w1, w2, if_pos (by omega), if_pos (by omega), if_pos (by omega), if_pos (by omega), wakes04]
  rfl
end Go.Proofs.Ytipdmihaidpnpaa.Pure

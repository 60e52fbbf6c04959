/- The bytes of the ticks of bytes are at least these, and less than one tick's more; a rate's bytes never go above it. -/
import Derived.Test.YtipdmihaidpnpaaPx6
import Derived.Test.YtipdmihaidpnpaaUnits
namespace Go.Proofs.Ytipdmihaidpnpaa.Pure
open Go.RowKit Go.Proofs.Ytipdmihaidpnpaa.P
theorem UnitsBack : flywheellaw04_UnitsBack.Pure := by
  intro a0 a1 a2 h0 h1 h2
  have h0 := u32_of_wf h0
  have h1 := u16_of_wf h1
  have h2 := u32_of_wf h2
  refine ⟨1, ?_⟩
  unfold flywheellaw04_UnitsBack.f
  have w0 : wrap64 (wrap64 a0 + 1) = a0 + 1 := by unfold wrap64; omega
  have w1 : wrap64 (wrap64 a1 + 1) = a1 + 1 := by unfold wrap64; omega
  have w2 : wrap64 (wrap64 a2 + 1) = a2 + 1 := by unfold wrap64; omega
  simp only [w0, w1, w2]
  obtain ⟨r, hr⟩ : ∃ r, r = a0 + 1 := ⟨_, rfl⟩
  obtain ⟨b, hb⟩ : ∃ b, b = a1 + 1 := ⟨_, rfl⟩
  obtain ⟨t, ht⟩ : ∃ t, t = a2 + 1 := ⟨_, rfl⟩
  rw [← hr, ← hb, ← ht]
  have ir : isI64 r := isI64_mk (by omega) (by omega)
  have ib : isI64 b := isI64_mk (by omega) (by omega)
  have it : isI64 t := isI64_mk (by omega) (by omega)
  have c := ceil_span (b * 8000000) r (by omega)
  have n0 : 0 ≤ -((-(b * 8000000)) / r) := by
    have : (-(b * 8000000)) / r ≤ 0 := by
      have := Int.ediv_le_ediv (show 0 < r by omega) (show -(b * 8000000) ≤ 0 by omega)
      rw [Int.zero_ediv] at this; exact this
    omega
  have n1 : -((-(b * 8000000)) / r) ≤ b * 8000000 := by
    have : -(b * 8000000) ≤ (-(b * 8000000)) / r := by
      apply Int.le_ediv_of_mul_le (by omega)
      have := Int.mul_le_mul_of_nonneg_left (show 1 ≤ r by omega) (show 0 ≤ b * 8000000 by omega)
      rw [Int.neg_mul]; omega
    omega
  rw [ticks_eq ir ib, md_up (by omega) (isI64_mk (by omega) (by omega)), Option.bind_some]
  generalize -((-(b * 8000000)) / r) = n at *
  have inn : isI64 n := isI64_mk (by omega) (by omega)
  have e1 : (n - 1) * r = n * r - r := by rw [Int.sub_mul, Int.one_mul]
  have e2 : r * n = n * r := Int.mul_comm _ _
  have e3 : r * (n - 1) = n * r - r := by rw [Int.mul_comm, e1]
  rw [bytes_eq ir inn, md_down (by decide) (isI64_mk (by omega) (by omega)), Option.bind_some, if_neg (by omega)]
  have tail : flywheellaw04_UnitsBack.j0 1 r t false = some true := by
    simp only [flywheellaw04_UnitsBack.j0, Bool.false_eq_true, if_false]
    have p0 := Int.mul_nonneg (show 0 ≤ r by omega) (show 0 ≤ t by omega)
    have p1 := Int.mul_le_mul (show r ≤ 4294967296 by omega) (show t ≤ 4294967296 by omega) (show 0 ≤ t by omega) (by omega)
    rw [bytes_eq ir it, md_down (by decide) (isI64_mk (by omega) (by omega)), Option.bind_some]
    have q0 : 0 ≤ r * t / 8000000 * 8000000 / t := Int.ediv_nonneg (by omega) (by omega)
    have q1 : r * t / 8000000 * 8000000 / t ≤ r := by
      have := Int.ediv_le_ediv (show 0 < t by omega) (show r * t / 8000000 * 8000000 ≤ r * t by omega)
      rw [Int.mul_ediv_cancel _ (show t ≠ 0 by omega)] at this
      exact this
    rw [rate_eq (isI64_mk (by omega) (by omega)) it, md_down (by omega) (isI64_mk (by omega) (by omega)), Option.bind_some, if_pos q1, wakes04]
    rfl
  by_cases hn : n > 1
  · have wn : wrap64 (n - 1) = n - 1 := wrap64_id (isI64_mk (by omega) (by omega))
    rw [if_pos hn, wn, bytes_eq ir (isI64_mk (by omega) (by omega)), md_down (by decide) (isI64_mk (by omega) (by omega)), Option.bind_some, decide_eq_false (by omega)]
    exact tail
  · rw [if_neg hn]
    exact tail
end Go.Proofs.Ytipdmihaidpnpaa.Pure

/- A stamp is found again near its own time, to a 65536th of a second. -/
import Derived.Test.YtipdmihaidpnpaaPx10
import Derived.Test.YtipdmihaidpnpaaUnits
namespace Go.Proofs.Ytipdmihaidpnpaa.Pure
open Go.RowKit Go.Proofs.Ytipdmihaidpnpaa.P Go.Proofs.YtipdmihaidpnpaaW.PrintWords Go.Proofs.YtipdmihaidpnpaaW.PrintMore
theorem tmod_pos_span (a : Int) : -1125899906842624 < Int.tmod a 1125899906842624 ∧ Int.tmod a 1125899906842624 < 1125899906842624 := by
  have := Int.tmod_lt_of_pos a (show (0 : Int) < 1125899906842624 by decide)
  have h2 := Int.tmod_lt_of_pos (-a) (show (0 : Int) < 1125899906842624 by decide)
  rw [Int.neg_tmod] at h2
  omega
theorem UnitsTimes : flywheellaw04_UnitsTimes.Pure := by
  intro a0 a1 h0 h1
  have h1 := i32_of_wf h1
  refine ⟨1, ?_⟩
  unfold flywheellaw04_UnitsTimes.f
  have m := tmod_pos_span a0
  have w0 : wrap64 (Int.tmod a0 1125899906842624 + 1125899906842624) = Int.tmod a0 1125899906842624 + 1125899906842624 := by unfold wrap64; omega
  rw [w0]
  have m2 := tmod_pos_span (Int.tmod a0 1125899906842624 + 1125899906842624)
  have m3 : 0 ≤ Int.tmod (Int.tmod a0 1125899906842624 + 1125899906842624) 1125899906842624 := Int.tmod_nonneg _ (by omega)
  generalize Int.tmod (Int.tmod a0 1125899906842624 + 1125899906842624) 1125899906842624 = t at *
  have w1 : wrap64 (t + wrap64 a1) = t + a1 := by unfold wrap64; omega
  simp only [w1]
  have awake : ∀ x6, flywheellaw04_UnitsTimes.j0 1 t x6 true = some true := by
    intro x6
    simp only [flywheellaw04_UnitsTimes.j0, if_true]
    rw [wakes04]; rfl
  by_cases hl : t + a1 < 0
  · rw [if_pos hl]; exact awake _
  rw [if_neg hl]
  by_cases hg : t + a1 > 1125899906842624
  · rw [decide_eq_true hg]; exact awake _
  rw [decide_eq_false hg]
  simp only [flywheellaw04_UnitsTimes.j0, Bool.false_eq_true, if_false]
  unfold units_Stamp.f units_FromStamp.f
  have c1 : mn (mx (t + a1) (-1125899906842624)) 1125899906842624 = t + a1 := by unfold mn mx; rw [if_neg (by omega), if_neg (by omega)]
  rw [c1, stamped_eq (isI64_mk (by omega) (by omega)), md_down (by decide) (isI64_mk (by omega) (by omega)), stamped_eq (isI64_mk (by omega) (by omega)), md_down (by decide) (isI64_mk (by omega) (by omega))]
  simp only [Option.bind_some]
  have by1 : wrap64 (wrap32 ((t * 65536 / 1000000 % 4294967296 - (t + a1) * 65536 / 1000000) % 4294967296)) = t * 65536 / 1000000 - (t + a1) * 65536 / 1000000 := by
    have : wrap32 ((t * 65536 / 1000000 % 4294967296 - (t + a1) * 65536 / 1000000) % 4294967296) = t * 65536 / 1000000 - (t + a1) * 65536 / 1000000 := by unfold wrap32; omega
    rw [this]; unfold wrap64; omega
  rw [by1, if_neg (by omega)]
  have w2 : wrap64 ((t + a1) * 65536 / 1000000 + (t * 65536 / 1000000 - (t + a1) * 65536 / 1000000)) = t * 65536 / 1000000 := by unfold wrap64; omega
  rw [w2]
  generalize hS : t * 65536 / 1000000 = S at *
  have hS0 : 0 ≤ S := by omega
  have hS1 : S ≤ 73786976294838 := by omega
  rw [do_eq 3 (isI64_mk (by omega) (by omega)) (isI64_mk (by decide) (by decide)) (isI64_mk (by decide) (by decide)), md_up (by decide) (isI64_mk (by omega) (by omega))]
  simp only [Option.bind_some]
  have w3 : wrap64 (t - -((-(S * 1000000)) / 65536)) = t - -((-(S * 1000000)) / 65536) := by unfold wrap64; omega
  rw [w3, if_pos (by omega), if_pos (by omega), wakes04]
  rfl
end Go.Proofs.Ytipdmihaidpnpaa.Pure

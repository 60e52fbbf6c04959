/- The opposite of a quotient that is rounded down is the opposite product's, rounded up; what is left is less than the divisor. -/
import Derived.Test.YtipdmihaidpnpaaPx9
import Derived.Test.YtipdmihaidpnpaaMuldiv2
namespace Go.Proofs.Ytipdmihaidpnpaa.Pure
open Go.RowKit Go.Proofs.Ytipdmihaidpnpaa.P
theorem prod_i32 {a b : Int} (ha : -2147483648 ≤ a ∧ a ≤ 2147483648) (hb : -2147483648 ≤ b ∧ b ≤ 2147483648) : -4611686018427387904 ≤ a * b ∧ a * b ≤ 4611686018427387904 := by
  have h1 := Int.mul_le_mul (a := if 0 ≤ a then a else -a) (c := 2147483648) (b := if 0 ≤ b then b else -b) (d := 2147483648) (by split <;> omega) (by split <;> omega) (by split <;> omega) (by decide)
  have h2 := Int.mul_nonneg (show 0 ≤ (if 0 ≤ a then a else -a) by split <;> omega) (show 0 ≤ (if 0 ≤ b then b else -b) by split <;> omega)
  by_cases c1 : 0 ≤ a <;> by_cases c2 : 0 ≤ b <;> simp only [if_pos, if_neg, c1, c2, not_false_eq_true, Int.neg_mul, Int.mul_neg, Int.neg_neg] at h1 h2 <;> omega
theorem ediv_small (n d : Int) (hd : 0 < d) (h0 : -4611686018427387904 ≤ n) (h1 : n ≤ 4611686018427387904) : -4611686018427387904 ≤ n / d ∧ n / d ≤ 4611686018427387904 := by
  refine ⟨Int.le_ediv_of_mul_le hd ?_, ?_⟩
  · have := Int.mul_le_mul_of_nonneg_left (show 1 ≤ d by omega) (show (0 : Int) ≤ 4611686018427387904 by decide); omega
  · have : n / d < 4611686018427387905 := Int.ediv_lt_of_lt_mul hd (by have := Int.mul_le_mul_of_nonneg_left (show 1 ≤ d by omega) (show (0 : Int) ≤ 4611686018427387905 by decide); omega)
    omega
theorem rnd2_small (n d : Int) (hd : 0 < d) (h0 : -4611686018427387904 ≤ n) (h1 : n ≤ 4611686018427387904) : isI64 (rnd n d 2) := by
  have e := ediv_small n d hd h0 h1
  obtain ⟨o1, o2, o3⟩ := rnd_le n d hd
  exact isI64_mk (by omega) (by omega)
theorem MuldivTurns : flywheellaw02_MuldivTurns.Pure := by
  intro a b c ha hb hc
  have ha := i32_of_wf ha
  have hb := i32_of_wf hb
  have hc := i32_of_wf hc
  refine ⟨40, ?_⟩
  unfold flywheellaw02_MuldivTurns.f
  have W := wakes02 40 (Nat.le_refl _)
  have wa : wrap64 a = a := by unfold wrap64; omega
  have wb : wrap64 b = b := by unfold wrap64; omega
  have wc : wrap64 c = c := by unfold wrap64; omega
  have wna : wrap64 (-a) = -a := by unfold wrap64; omega
  have wnc : wrap64 (-c) = -c := by unfold wrap64; omega
  simp only [wa, wb, wc, wna, wnc]
  have ia : isI64 a := isI64_mk (by omega) (by omega)
  have ina : isI64 (-a) := isI64_mk (by omega) (by omega)
  have ib : isI64 b := isI64_mk (by omega) (by omega)
  have ic : isI64 c := isI64_mk (by omega) (by omega)
  rw [do_eq 1 ia ib ic, do_eq 3 ina ib ic, fits_eq 2 ia ib ic]
  simp only [Option.bind_some]
  have p := prod_i32 (a := a) (b := b) (by omega) (by omega)
  have wp : wrap64 (a * b) = a * b := by generalize a * b = z at *; unfold wrap64; omega
  rw [wp]
  by_cases hz : c = 0
  · subst hz; rw [if_pos rfl, md_zero, if_pos rfl, W]; rfl
  rw [if_neg hz]
  by_cases hn : c < 0
  · have e := ediv_small (-(a * b)) (-c) (by omega) (by omega) (by omega)
    have d1 : md a b c 1 = -(a * b) / -c := by rw [md_neg hn (by decide) (by decide), rnd_down, hold64_id _ (isI64_mk (by omega) (by omega))]
    have u1 : md (-a) b c 3 = -(-(a * b) / -c) := by rw [md_neg hn (by decide) (by decide), Int.neg_mul, Int.neg_neg, rnd_up, hold64_id _ (isI64_mk (by omega) (by omega))]
    have f1 : (mdq a b c 2).2 = true := by
      unfold mdq
      rw [if_neg (by omega), if_pos hn, hold64_id _ (rnd2_small _ _ (by omega) (by omega) (by omega))]
    have m := Int.emod_add_mul_ediv (-(a * b)) (-c)
    have m0 := Int.emod_nonneg (-(a * b)) (show -c ≠ 0 by omega)
    have m1 := Int.emod_lt_of_pos (-(a * b)) (show 0 < -c by omega)
    rw [d1, u1, f1]
    have tc : -(a * b) / -c * c = -(-c * (-(a * b) / -c)) := by rw [Int.neg_mul, Int.neg_neg, Int.mul_comm]
    rw [tc]
    generalize -(a * b) / -c = d at *
    generalize -c * d = t at *
    generalize -(a * b) % -c = l at *
    have w1 : wrap64 (-t) = -t := by unfold wrap64; omega
    have w2 : wrap64 (- -d) = d := by rw [Int.neg_neg]; unfold wrap64; omega
    have w3 : wrap64 (a * b - -t) = a * b - -t := by generalize a * b = z at *; unfold wrap64; omega
    have w4 : wrap64 (-(a * b - -t)) = l := by generalize a * b = z at *; unfold wrap64; omega
    rw [if_pos hn, w1, w2, if_pos rfl, w3, w4, if_pos m0, if_pos m1, if_pos rfl, W]; rfl
  · have hp : 0 < c := by omega
    have e := ediv_small (a * b) c hp (by omega) (by omega)
    have d1 : md a b c 1 = a * b / c := by rw [md_pos hp (by decide) (by decide), rnd_down, hold64_id _ (isI64_mk (by omega) (by omega))]
    have u1 : md (-a) b c 3 = -(a * b / c) := by rw [md_pos hp (by decide) (by decide), Int.neg_mul, rnd_up, Int.neg_neg, hold64_id _ (isI64_mk (by omega) (by omega))]
    have f1 : (mdq a b c 2).2 = true := by
      unfold mdq
      rw [if_neg (by omega), if_neg hn, hold64_id _ (rnd2_small _ _ hp (by omega) (by omega))]
    have m := Int.emod_add_mul_ediv (a * b) c
    have m0 := Int.emod_nonneg (a * b) (show c ≠ 0 by omega)
    have m1 := Int.emod_lt_of_pos (a * b) hp
    rw [d1, u1, f1]
    have tc : a * b / c * c = c * (a * b / c) := Int.mul_comm _ _
    rw [tc]
    generalize a * b / c = d at *
    generalize c * d = t at *
    generalize a * b % c = l at *
    have w1 : wrap64 t = t := by unfold wrap64; omega
    have w2 : wrap64 (- -d) = d := by rw [Int.neg_neg]; unfold wrap64; omega
    have w3 : wrap64 (a * b - t) = l := by generalize a * b = z at *; unfold wrap64; omega
    rw [if_neg hn, w1, w2, if_pos rfl, w3, if_pos m0, if_pos m1, if_pos rfl, W]; rfl
end Go.Proofs.Ytipdmihaidpnpaa.Pure

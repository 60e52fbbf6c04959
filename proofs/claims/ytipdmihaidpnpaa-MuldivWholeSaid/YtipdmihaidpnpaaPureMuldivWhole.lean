/- The quotient of whole multiples is whole, in whatever way it is rounded. -/
import Derived.Test.YtipdmihaidpnpaaPx7
import Derived.Test.YtipdmihaidpnpaaMuldiv2
namespace Go.Proofs.Ytipdmihaidpnpaa.Pure
open Go.RowKit Go.Proofs.Ytipdmihaidpnpaa.P
theorem md_mul {a b k how : Int} (hk : 0 < k) (h1 : 1 ≤ how) (h3 : how ≤ 3) (h : isI64 (a * b)) : md (a * k) b k how = a * b := by
  rw [md_pos hk h1 h3, Int.mul_right_comm, rnd_whole _ _ _ hk h1 h3, hold64_id _ h]
theorem md_mul_neg {a b k how : Int} (hk : 0 < k) (h1 : 1 ≤ how) (h3 : how ≤ 3) (h : isI64 (-(a * b))) : md (a * k) b (-k) how = -(a * b) := by
  rw [md_neg (by omega) h1 h3, Int.neg_neg, Int.mul_right_comm, ← Int.neg_mul, rnd_whole _ _ _ hk h1 h3, hold64_id _ h]
theorem MuldivWhole : flywheellaw02_MuldivWhole.Pure := by
  intro a b c ha hb hc
  have ha := i32_of_wf ha
  have hb := i32_of_wf hb
  refine ⟨44, ?_⟩
  unfold flywheellaw02_MuldivWhole.f
  have t1 := Int.tmod_lt_of_pos c (show (0 : Int) < 2147483648 by decide)
  have t2 := Int.tmod_lt_of_pos (-c) (show (0 : Int) < 2147483648 by decide)
  rw [Int.neg_tmod] at t2
  have wa : wrap64 a = a := by unfold wrap64; omega
  have wb : wrap64 b = b := by unfold wrap64; omega
  have wk : wrap64 (wrap64 (Int.tmod c 2147483648 + 2147483648) + 1) = Int.tmod c 2147483648 + 2147483648 + 1 := by unfold wrap64; omega
  have p0 : -4611686018427387904 ≤ a * b ∧ a * b ≤ 4611686018427387904 := by
    have h1 := Int.mul_le_mul_of_nonneg_left (show (if 0 ≤ b then b else -b) ≤ 2147483648 by split <;> omega) (show 0 ≤ (if 0 ≤ a then a else -a) by split <;> omega)
    have h2 := Int.mul_nonneg (show 0 ≤ (if 0 ≤ a then a else -a) by split <;> omega) (show 0 ≤ (if 0 ≤ b then b else -b) by split <;> omega)
    by_cases c1 : 0 ≤ a <;> by_cases c2 : 0 ≤ b <;> simp only [if_pos, if_neg, c1, c2, not_false_eq_true, Int.neg_mul, Int.mul_neg, Int.neg_neg] at h1 h2 <;> omega
  have wp : wrap64 (a * b) = a * b := by generalize a * b = z at *; unfold wrap64; omega
  have wn : wrap64 (-(a * b)) = -(a * b) := by generalize a * b = z at *; unfold wrap64; omega
  rw [wa, wb, wk, wp]
  obtain ⟨k, hk⟩ : ∃ k, k = Int.tmod c 2147483648 + 2147483648 + 1 := ⟨_, rfl⟩
  rw [← hk]
  have k0 : 0 < k := by omega
  have k1 : k ≤ 4294967296 := by omega
  have wk2 : wrap64 (-k) = -k := by unfold wrap64; omega
  have q : -9223372036854775808 ≤ a * k ∧ a * k ≤ 9223372036854775807 := by
    by_cases h : 0 ≤ a
    · have := Int.mul_le_mul ha.2 k1 (by omega) (by omega); have := Int.mul_nonneg h (show 0 ≤ k by omega); omega
    · have := Int.mul_le_mul (show -a ≤ 2147483648 by omega) k1 (by omega) (by omega)
      have := Int.mul_nonneg (show 0 ≤ -a by omega) (show 0 ≤ k by omega)
      rw [Int.neg_mul] at *; omega
  have wq : wrap64 (a * k) = a * k := by generalize a * k = z at *; unfold wrap64; omega
  have iq : isI64 (a * k) := ⟨q.1, q.2⟩
  have ib : isI64 b := isI64_mk (by omega) (by omega)
  have ik : isI64 k := isI64_mk (by omega) (by omega)
  have ik2 : isI64 (-k) := isI64_mk (by omega) (by omega)
  have ip : isI64 (a * b) := isI64_mk (by omega) (by omega)
  have ip2 : isI64 (-(a * b)) := isI64_mk (by omega) (by omega)
  have round : ∀ n how, 1 ≤ how → how ≤ 3 → flywheellaw02_MuldivWhole.l0 (n + 1) a b k (a * b) how = flywheellaw02_MuldivWhole.l0 n a b k (a * b) (how + 1) := by
    intro n how h1 h3
    have wh : wrap64 (how + 1) = how + 1 := by unfold wrap64; omega
    conv => lhs; rw [flywheellaw02_MuldivWhole.l0]
    rw [if_pos h3, wa, wq, wb, do_eq how iq ib ik, md_mul k0 h1 h3 ip, Option.bind_some, if_pos rfl, wk2, do_eq how iq ib ik2, md_mul_neg k0 h1 h3 ip2, Option.bind_some, wn, if_pos rfl, wh]
  rw [round 43 1 (by decide) (by decide), round 42 (1 + 1) (by decide) (by decide), round 41 (1 + 1 + 1) (by decide) (by decide)]
  conv => lhs; rw [flywheellaw02_MuldivWhole.l0]
  rw [if_neg (by decide), wakes02 40 (Nat.le_refl _)]
  rfl
end Go.Proofs.Ytipdmihaidpnpaa.Pure

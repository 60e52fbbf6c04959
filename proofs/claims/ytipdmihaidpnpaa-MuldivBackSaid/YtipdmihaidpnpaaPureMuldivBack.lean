/- A product divided by one of its factors is the other one; the factors may change places. -/
import Derived.Test.YtipdmihaidpnpaaPx9
import Derived.Test.YtipdmihaidpnpaaMuldiv2
namespace Go.Proofs.Ytipdmihaidpnpaa.Pure
open Go.RowKit Go.Proofs.Ytipdmihaidpnpaa.P
theorem md_back {a b how : Int} (hb : b ≠ 0) (h1 : 1 ≤ how) (h3 : how ≤ 3) (ha : isI64 a) : md a b b how = a := by
  rcases Int.lt_or_lt_of_ne hb with h | h
  · rw [md_neg h h1 h3, ← Int.mul_neg, rnd_whole _ _ _ (by omega) h1 h3, hold64_id _ ha]
  · rw [md_pos h h1 h3, rnd_whole _ _ _ h h1 h3, hold64_id _ ha]
theorem MuldivBack : flywheellaw02_MuldivBack.Pure := by
  intro a b c ha hb hc
  have ha := isI64_of_wf ha
  have hb := isI64_of_wf hb
  have hc := isI64_of_wf hc
  refine ⟨44, ?_⟩
  unfold flywheellaw02_MuldivBack.f
  have round : ∀ n how, 1 ≤ how → how ≤ 3 → flywheellaw02_MuldivBack.l0 (n + 1) a b c how = flywheellaw02_MuldivBack.l0 n a b c (how + 1) := by
    intro n how h1 h3
    have wh : wrap64 (how + 1) = how + 1 := by unfold wrap64; omega
    conv => lhs; rw [flywheellaw02_MuldivBack.l0]
    rw [if_pos h3, do_eq how ha hb hc, do_eq how hb ha hc, md_comm b a c how, do_eq how ha hb hb]
    simp only [Option.bind_some, if_true, wh]
    by_cases h : b = 0
    · rw [if_pos h]
    · rw [if_neg h, md_back h h1 h3 ha, if_pos rfl]
  rw [round 43 1 (by decide) (by decide), round 42 (1 + 1) (by decide) (by decide), round 41 (1 + 1 + 1) (by decide) (by decide)]
  conv => lhs; rw [flywheellaw02_MuldivBack.l0]
  have i0 : isI64 0 := isI64_mk (by decide) (by decide)
  have e0 : (mdq a b 0 3).2 = false := by unfold mdq; rw [if_pos (Or.inl rfl)]
  rw [if_neg (by decide), do_eq 1 ha hb i0, md_zero, Option.bind_some, if_pos rfl, fits_eq 3 ha hb i0, Option.bind_some, e0, if_neg (by simp), wakes02 40 (Nat.le_refl _)]
  rfl
end Go.Proofs.Ytipdmihaidpnpaa.Pure

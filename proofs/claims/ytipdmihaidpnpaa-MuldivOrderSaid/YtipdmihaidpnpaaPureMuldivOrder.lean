/- Rounded down is at most the nearest, that is at most rounded up; they differ by at most 1. -/
import Derived.Test.YtipdmihaidpnpaaPx7
import Derived.Test.YtipdmihaidpnpaaMuldiv2
namespace Go.Proofs.Ytipdmihaidpnpaa.Pure
open Go.RowKit Go.Proofs.Ytipdmihaidpnpaa.P
theorem hold_next (p q : Int) (h : q = p ∨ q = p + 1) : (hold64 q).1 = (hold64 p).1 ∨ wrap64 ((hold64 q).1 - 1) = (hold64 p).1 := by
  unfold hold64 wrap64
  rcases h with rfl | rfl
  · exact Or.inl rfl
  · repeat' split
    all_goals (first | exact Or.inl rfl | (simp only []; omega))
theorem MuldivOrder : flywheellaw02_MuldivOrder.Pure := by
  intro a b c ha hb hc
  have ha := isI64_of_wf ha
  have hb := isI64_of_wf hb
  have hc := isI64_of_wf hc
  refine ⟨40, ?_⟩
  unfold flywheellaw02_MuldivOrder.f
  have W := wakes02 40 (Nat.le_refl _)
  rw [do_eq 1 ha hb hc, do_eq 2 ha hb hc, do_eq 3 ha hb hc]
  simp only [Option.bind_some]
  have go : ∀ n d : Int, 0 < d → md a b c 1 = (hold64 (rnd n d 1)).1 → md a b c 2 = (hold64 (rnd n d 2)).1 → md a b c 3 = (hold64 (rnd n d 3)).1 →
      md a b c 1 ≤ md a b c 2 ∧ md a b c 2 ≤ md a b c 3 ∧ (md a b c 3 = md a b c 1 ∨ wrap64 (md a b c 3 - 1) = md a b c 1) := by
    intro n d hd e1 e2 e3
    obtain ⟨o1, o2, o3⟩ := rnd_le n d hd
    rw [e1, e2, e3, rnd_down]
    exact ⟨hold64_mono o1, hold64_mono o2, hold_next _ _ o3⟩
  have all : md a b c 1 ≤ md a b c 2 ∧ md a b c 2 ≤ md a b c 3 ∧ (md a b c 3 = md a b c 1 ∨ wrap64 (md a b c 3 - 1) = md a b c 1) := by
    rcases Int.lt_trichotomy c 0 with h | h | h
    · exact go _ (-c) (by omega) (md_neg h (by decide) (by decide)) (md_neg h (by decide) (by decide)) (md_neg h (by decide) (by decide))
    · subst h; simp only [md_zero]; exact ⟨by decide, by decide, by simp⟩
    · exact go _ c h (md_pos h (by decide) (by decide)) (md_pos h (by decide) (by decide)) (md_pos h (by decide) (by decide))
  rw [if_pos all.1, if_pos all.2.1, W]
  by_cases h : md a b c 3 = md a b c 1
  · rw [if_pos h]; rfl
  · rw [if_neg h, if_pos (all.2.2.resolve_left h)]; rfl
end Go.Proofs.Ytipdmihaidpnpaa.Pure

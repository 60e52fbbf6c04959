/- The root of every number: the greatest number whose square is at most it. -/
import Derived.Test.YtipdmihaidpnpaaPx7
import Derived.Test.YtipdmihaidpnpaaMuldiv2
namespace Go.Proofs.Ytipdmihaidpnpaa.Pure
open Go.RowKit Go.Proofs.Ytipdmihaidpnpaa.P
theorem MuldivRoots : flywheellaw02_MuldivRoots.Pure := by
  intro a h
  have ha := isI64_of_wf h
  refine ⟨40, ?_⟩
  unfold flywheellaw02_MuldivRoots.f
  obtain ⟨R, hR, z, p⟩ := root_ok a ha
  rw [hR, Option.bind_some]
  have W := wakes02 40 (Nat.le_refl _)
  by_cases hn : a < 0
  · rw [if_pos hn, if_pos (z (by omega)), W]; rfl
  rw [if_neg hn]
  unfold isI64 at ha
  obtain ⟨S, hS, s⟩ := rroot_ok a (by omega) ha.2
  have r : isRoot a R := by
    by_cases h0 : 0 < a
    · exact p h0
    · have e : a = 0 := by omega
      rw [z (by omega), e]; exact ⟨by decide, by decide, by decide⟩
  have e := root_one r s
  subst e
  rw [hS, Option.bind_some, if_pos rfl]
  obtain ⟨r0, r1, r2⟩ := r
  have rb : R ≤ 3037000499 := by
    rcases Int.lt_or_le R 3037000500 with c | c
    · omega
    · have := sq_le (x := 3037000500) (y := R) (by decide) c; omega
  have w1 : wrap64 (R * R) = R * R := by have := Int.mul_nonneg r0 r0; generalize R * R = z at *; unfold wrap64; omega
  rw [if_pos r0, if_pos rb, w1, if_pos r1]
  by_cases he : R = 3037000499
  · rw [if_pos he, W]; rfl
  rw [if_neg he]
  have w2 : wrap64 (R + 1) = R + 1 := by unfold wrap64; omega
  have sq := sq_le (x := R + 1) (y := 3037000499) (by omega) (by omega)
  have sq0 := Int.mul_nonneg (show 0 ≤ R + 1 by omega) (show 0 ≤ R + 1 by omega)
  have w3 : wrap64 ((R + 1) * (R + 1)) = (R + 1) * (R + 1) := by generalize (R + 1) * (R + 1) = z at *; unfold wrap64; omega
  rw [w2, w3, if_pos r2, W]; rfl
end Go.Proofs.Ytipdmihaidpnpaa.Pure

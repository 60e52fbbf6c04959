-- PUT TOGETHER by a program of this session: of the claim's texts, what is used
import Derived.Test.YtkfkbebpcmmnfaaKGuardFree7
import Derived.Test.YtkfkbebpcmmnfaaKGuardFree8
import Derived.Test.YtkfkbebpcmmnfaaKGuardFree9
import Derived.WalkArith
import Derived.KernelRfl
section
namespace Go.Proofs.Ytkfkbebpcmmnfaa.P
open Go.RowKit
set_option linter.unusedVariables false
set_option linter.unusedSimpArgs false
def md (a b c how : Int) : Int := (mdq a b c how).1
theorem wrap64_id {a : Int} (h : isI64 a) : wrap64 a = a := by unfold isI64 at h; unfold wrap64; omega
theorem isI64_mk {a : Int} (h : -9223372036854775808 ≤ a) (h' : a ≤ 9223372036854775807) : isI64 a := ⟨h, h'⟩
theorem hold64_id (q : Int) (h : isI64 q) : hold64 q = (q, true) := by
  unfold isI64 at h; unfold hold64
  rw [if_neg (by omega), if_neg (by omega)]
theorem do_eq {a b c : Int} (how : Int) (ha : isI64 a) (hb : isI64 b) (hc : isI64 c) : muldiv_Do.f a b c how = some (md a b c how) := by
  unfold muldiv_Do.f muldiv_quotient_s.f
  rw [if_pos ⟨ha, hb, hc⟩]; rfl
theorem md_pos {a b c how : Int} (hc : 0 < c) (h1 : 1 ≤ how) (h3 : how ≤ 3) : md a b c how = (hold64 (rnd (a * b) c how)).1 := by
  unfold md mdq
  rw [if_neg (by omega), if_neg (by omega)]
theorem rnd_down (n d : Int) : rnd n d 1 = n / d := by unfold rnd; rw [if_pos rfl]
theorem md_down {a b c : Int} (hc : 0 < c) (h : isI64 (a * b / c)) : md a b c 1 = a * b / c := by
  rw [md_pos hc (by decide) (by decide), rnd_down, hold64_id _ h]
end Go.Proofs.Ytkfkbebpcmmnfaa.P
end

section
namespace Go.Proofs.Ytkfkbebpcmmnfaa.P
open Go.RowKit
set_option linter.unusedVariables false
set_option linter.unusedSimpArgs false
def hd (x : Int) : Int := (hold64 x).1
end Go.Proofs.Ytkfkbebpcmmnfaa.P
end

section
namespace Go.Proofs.Ytkfkbebpcmmnfaa.P
open Go.RowKit Go.Proofs.YtkfkbebpcmmnfaaW.PrintWords Go.Proofs.YtkfkbebpcmmnfaaW.PrintLast Go.Proofs.YtkfkbebpcmmnfaaW.PrintMore
set_option linter.unusedVariables false
set_option linter.unusedSimpArgs false
def cl (x lo hi : Int) : Int := if x < lo then lo else if x > hi then hi else x
theorem cl_span (x lo hi : Int) (h : lo ≤ hi) : lo ≤ cl x lo hi ∧ cl x lo hi ≤ hi := by unfold cl; repeat' split <;> omega
theorem cl_id {x lo hi : Int} (h : lo ≤ x) (h' : x ≤ hi) : cl x lo hi = x := by unfold cl; rw [if_neg (by omega), if_neg (by omega)]
theorem clamp_cl (a lo hi : Int) : sat_Clamp.f a lo hi = some (cl a lo hi) := clamp_eq a lo hi
theorem mn_eq (a b : Int) : mn a b = if b < a then b else a := rfl
theorem mx_eq (a b : Int) : mx a b = if a < b then b else a := rfl
theorem i64s {a : Int} (h0 : -4611686018427387904 ≤ a) (h1 : a ≤ 4611686018427387904) : isI64 a := isI64_mk (by omega) (by omega)
theorem w64 {a : Int} (h0 : -4611686018427387904 ≤ a) (h1 : a ≤ 4611686018427387904) : wrap64 a = a := wrap64_id (i64s h0 h1)
def gD (d : Int) : Int := cl d 0 1125899906842624
def gQ (q : Int) : Int := cl q 0 17179869184
theorem gQ_span (d : Int) : 0 ≤ gQ d ∧ gQ d ≤ 17179869184 := cl_span _ _ _ (by decide)
def h1 (hi lo want d q : Int) : Int := if hi < d then mn want (q * 7 / 8) else if d ≤ lo then mx want (q * 9 / 8) else want
def h2 (full : Bool) (t q : Int) : Int := if full = true then mn t (2 * q + 100000) else t
def hT (c1 c2 c4 c5 want delay got : Int) (full : Bool) : Int := cl (h2 full (h1 c4 c5 want (gD delay) (gQ got)) (gQ got)) c1 c2
theorem hear_eq (c0 c1 c2 c3 c4 c5 c6 c7 c8 c9 c10 : Int) (l : List S85) (c12 tg he cu : Int) (cs br : Bool) (want delay got : Int) (full : Bool) (now : Int) :
    guard_Guard_Hear.f c0 c1 c2 c3 c4 c5 c6 c7 c8 c9 c10 l c12 tg he cu cs br want delay got full now = some (hT c1 c2 c4 c5 want delay got full, c0, c1, c2, c3, c4, c5, c6, c7, c8, c9, c10, c12, hT c1 c2 c4 c5 want delay got full, mx he (gD now), cu, cs, decide (c4 < gD delay)) := by
  have q := gQ_span got
  have A : gh1 (decide (c4 < gD delay)) c5 want (gQ got) (gD delay) = some (h1 c4 c5 want (gD delay) (gQ got)) := by
    unfold gh1 h1
    rw [do_eq 1 (i64s (by omega) (by omega)) (i64s (by decide) (by decide)) (i64s (by decide) (by decide)), do_eq (b := 9) 1 (i64s (by omega) (by omega)) (i64s (by decide) (by decide)) (i64s (by decide) (by decide)), md_down (by decide) (i64s (by omega) (by omega)), md_down (b := 9) (by decide) (i64s (by omega) (by omega))]
    by_cases e1 : c4 < gD delay
    · simp [e1]
    · by_cases e2 : gD delay ≤ c5
      · simp [e1, e2]
      · simp [e1, e2]
  have B : gh2 full (h1 c4 c5 want (gD delay) (gQ got)) (gQ got) = h2 full (h1 c4 c5 want (gD delay) (gQ got)) (gQ got) := by
    unfold gh2 h2
    rw [w64 (a := 2 * gQ got) (by omega) (by omega), w64 (by omega) (by omega)]
  unfold guard_Guard_Hear.f
  rw [clamp_cl, Option.bind_some, clamp_cl, Option.bind_some, clamp_cl, Option.bind_some]
  rw [show cl now 0 1125899906842624 = gD now from rfl, show cl delay 0 1125899906842624 = gD delay from rfl, show cl got 0 17179869184 = gQ got from rfl]
  rw [A, Option.bind_some, B, clamp_cl, Option.bind_some]
  rfl
structure GC (c1 c2 c3 c4 c5 c7 : Int) : Prop where
  lo : 1 ≤ c1
  s0 : c1 ≤ c3
  s1 : c3 ≤ c2
  hi : c2 ≤ 17179869184
  l0 : 0 ≤ c5
  l1 : c5 ≤ c4
  l2 : c4 ≤ 1000000
  q0 : 1000 ≤ c7
  q1 : c7 ≤ 1125899906842624
theorem new28 (c0 c1 c2 c3 c4 c5 c6 c7 c8 c9 c10 : Int) (l : List S85) (c12 : Int) : (guard_New.made.f c0 c1 c2 c3 c4 c5 c6 c7 c8 c9 c10 l c12 = some (c0, c1, c2, c3, c4, c5, c6, c7, c8, c9, c10, l, c12, c3, 0, 0, false, false, 0) ∧ GC c1 c2 c3 c4 c5 c7) ∨
    (guard_New.made.f c0 c1 c2 c3 c4 c5 c6 c7 c8 c9 c10 l c12 = none ∧ guard_New.nil.f c0 c1 c2 c3 c4 c5 c6 c7 c8 c9 c10 l c12 = some 290 ∧ flywheelref28_Good.f c0 c1 c2 c3 c4 c5 c6 c7 c8 c9 c10 l c12 = some false) := by
  unfold guard_New.made.f guard_New.nil.f flywheelref28_Good.f flywheelref19_Rates.f
  by_cases h1 : c1 < 1
  · right; simp [h1, show ¬ 1 ≤ c1 by omega]
  · by_cases h2 : c3 < c1
    · right; simp [h1, h2, show 1 ≤ c1 by omega, show ¬ c1 ≤ c3 by omega]
    · by_cases h3 : c2 < c3
      · right; simp [h1, h2, h3, show 1 ≤ c1 by omega, show c1 ≤ c3 by omega, show ¬ c3 ≤ c2 by omega]
      · by_cases h4 : c2 > 17179869184
        · right; simp [h1, h2, h3, h4, show 1 ≤ c1 by omega, show c1 ≤ c3 by omega, show c3 ≤ c2 by omega, show ¬ c2 ≤ 17179869184 by omega]
        · have r1 : 1 ≤ c1 := by omega
          have r2 : c1 ≤ c3 := by omega
          have r3 : c3 ≤ c2 := by omega
          have r4 : c2 ≤ 17179869184 := by omega
          by_cases h5 : c5 < 0
          · right; simp [h1, h2, h3, h4, h5, r1, r2, r3, r4, show ¬ 0 ≤ c5 by omega]
          · by_cases h6 : c4 < c5
            · right; simp [h1, h2, h3, h4, h5, h6, r1, r2, r3, r4, show 0 ≤ c5 by omega, show ¬ c5 ≤ c4 by omega]
            · by_cases h7 : c4 > 1000000
              · right; simp [h1, h2, h3, h4, h5, h6, h7, r1, r2, r3, r4, show 0 ≤ c5 by omega, show c5 ≤ c4 by omega, show ¬ c4 ≤ 1000000 by omega]
              · by_cases h8 : c7 < 1000
                · right; simp [h1, h2, h3, h4, h5, h6, h7, h8, r1, r2, r3, r4, show 0 ≤ c5 by omega, show c5 ≤ c4 by omega, show c4 ≤ 1000000 by omega, show ¬ 1000 ≤ c7 by omega]
                · by_cases h9 : c7 > 1125899906842624
                  · right; simp [h1, h2, h3, h4, h5, h6, h7, h8, h9, r1, r2, r3, r4, show 0 ≤ c5 by omega, show c5 ≤ c4 by omega, show c4 ≤ 1000000 by omega, show 1000 ≤ c7 by omega, show ¬ c7 ≤ 1125899906842624 by omega]
                  · left; exact ⟨by simp [h1, h2, h3, h4, h5, h6, h7, h8, h9], r1, r2, r3, r4, by omega, by omega, by omega, by omega, by omega⟩
theorem wakes28 : flywheellaw28_wakes.f = some true := by kernel_rfl
theorem wk28 : (flywheellaw28_wakes.f.bind fun t => some t) = some true := by rw [wakes28]; rfl
end Go.Proofs.Ytkfkbebpcmmnfaa.P
end

section
namespace Go.Proofs.Ytkfkbebpcmmnfaa.Pure
open Go.RowKit Go.Proofs.Ytkfkbebpcmmnfaa.P Go.Proofs.YtkfkbebpcmmnfaaW.PrintWords Go.Proofs.YtkfkbebpcmmnfaaW.PrintLast Go.Proofs.YtkfkbebpcmmnfaaW.PrintMore
set_option linter.unusedVariables false
set_option linter.unusedSimpArgs false
theorem wn28 (i : Nat) (h : i ≤ 300) : wrap64 ((i : Int) + 1) = ((i + 1 : Nat) : Int) := by rw [wrap64_id (isI64_mk (by omega) (by omega))]; omega
theorem GuardFree : flywheellaw28_GuardFree.Pure := by
  intro c0 c1 c2 c3 c4 c5 c6 c7 c8 c9 c10 l c12 l1 a0 want delay got now fl
  intros
  have last : GC c1 c2 c3 c4 c5 c7 → c5 < c4 → ∀ (k : Nat) (tg he cu : Int) (cs br : Bool), flywheellaw28_GuardFree.j2 (k + 1) c0 c1 c2 c3 c4 c5 c6 c7 c8 c9 c10 l c12 a0 want delay got now fl c0 c1 c2 c3 c4 c5 c6 c7 c8 c9 c10 l c12 tg he cu cs br = some true := by
    intro h hl k tg he cu cs br
    have lo := h.lo; have s0 := h.s0; have s1 := h.s1; have hi := h.hi; have l0 := h.l0; have l2 := h.l2
    have d1 : gD (c5 + 1) = c5 + 1 := cl_id (by omega) (by omega)
    have d2 : gD c4 = c4 := cl_id (by omega) (by omega)
    have e1 : hT c1 c2 c4 c5 want (c5 + 1) got false = mx c1 (mn want c2) := by
      unfold hT h2 h1
      rw [d1, if_neg (by decide), if_neg (by omega), if_neg (by omega), mx_eq, mn_eq]
      unfold cl
      repeat' split
      all_goals omega
    have e2 : hT c1 c2 c4 c5 want c4 got false = mx c1 (mn want c2) := by
      unfold hT h2 h1
      rw [d2, if_neg (by decide), if_neg (by omega), if_neg (by omega), mx_eq, mn_eq]
      unfold cl
      repeat' split
      all_goals omega
    rw [flywheellaw28_GuardFree.j2, w64 (by omega) (by omega), hear_eq, e1, Option.bind_some]
    dsimp only
    rw [if_pos rfl, guard_Guard_Brakes.f, Option.bind_some]
    dsimp only
    rw [d1, if_neg (by simp; omega), hear_eq, e2, Option.bind_some]
    dsimp only
    rw [if_pos rfl]
    exact wk28
  have loop : GC c1 c2 c3 c4 c5 c7 → c5 < c4 → ∀ (m i k : Nat) (tg he cu : Int) (cs br : Bool), i + m = 100 → m + 5 ≤ k → flywheellaw28_GuardFree.l0 k l1 i c0 c1 c2 c3 c4 c5 c6 c7 c8 c9 c10 l c12 a0 want delay got now fl c0 c1 c2 c3 c4 c5 c6 c7 c8 c9 c10 l c12 tg he cu cs br = some true := by
    intro h hl m
    induction m with
    | zero =>
      intro i k tg he cu cs br hi' hk
      obtain ⟨k, rfl⟩ : ∃ j, k = j + 2 := ⟨k - 2, by omega⟩
      rw [flywheellaw28_GuardFree.l0, if_neg (show ¬ (i : Int) < 100 by omega)]
      split <;> exact last h hl k _ _ _ _ _
    | succ m ih =>
      intro i k tg he cu cs br hi' hk
      obtain ⟨k, rfl⟩ : ∃ j, k = j + 2 := ⟨k - 2, by omega⟩
      rw [flywheellaw28_GuardFree.l0]
      by_cases c : (i : Int) < (l1.length : Int)
      · rw [if_pos c, if_pos (show (i : Int) < 100 by omega), if_pos (show (0 : Int) ≤ (i : Int) by omega), hear_eq, Option.bind_some]
        dsimp only
        rw [wn28 i (by omega)]
        exact ih (i + 1) (k + 1) _ _ _ _ _ (by omega) (by omega)
      · rw [if_neg c]; exact last h hl k _ _ _ _ _
  have no : ∀ (k : Nat) (e : Int), flywheellaw28_GuardFree.j3 (k + 1) l1 e true c0 c1 c2 c3 c4 c5 c6 c7 c8 c9 c10 l c12 a0 want delay got now fl = some true := by
    intro k e
    rw [flywheellaw28_GuardFree.j3, if_pos rfl]
    split <;> exact wk28
  refine ⟨110, ?_⟩
  unfold flywheellaw28_GuardFree.f
  rcases new28 c0 c1 c2 c3 c4 c5 c6 c7 c8 c9 c10 l c12 with ⟨e1, h⟩ | ⟨e1, e2, e3⟩
  · rw [e1, if_pos (by rfl), Option.bind_some]
    dsimp only
    rw [if_pos rfl]
    by_cases hl : c5 ≥ c4
    · rw [decide_eq_true hl, flywheellaw28_GuardFree.j0, if_pos rfl, if_pos rfl]
      exact wk28
    · rw [decide_eq_false hl, flywheellaw28_GuardFree.j0, if_neg (by decide)]
      exact loop h (by omega) 100 0 109 _ _ _ _ _ (by decide) (by decide)
  · rw [e1, if_neg (by decide), e2, Option.bind_some, if_neg (by decide)]
    exact no 109 _
end Go.Proofs.Ytkfkbebpcmmnfaa.Pure
end

section

end

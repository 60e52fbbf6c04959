-- PUT TOGETHER by a program of this session: of the claim's texts, what is used
import Derived.Test.YtkfkbebpcmmnfaaKGuardBrakes7
import Derived.Test.YtkfkbebpcmmnfaaKGuardBrakes8
import Derived.Test.YtkfkbebpcmmnfaaKGuardBrakes9
import Derived.WalkArith
import Derived.KernelRfl
section
namespace Go.Proofs.Ytkfkbebpcmmnfaa.P
open Go.RowKit
set_option linter.unusedVariables false
set_option linter.unusedSimpArgs false
def md (a b c how : Int) : Int := (mdq a b c how).1
theorem isI64_of_wf {a : Int} (h : (Lit.int .i64 a).wf = true) : isI64 a := by
  simp only [Lit.wf, IntKind.min, IntKind.max, IntKind.signed, IntKind.bits, Bool.and_eq_true, decide_eq_true_eq] at h
  unfold isI64; simp at h; omega
theorem wrap64_id {a : Int} (h : isI64 a) : wrap64 a = a := by unfold isI64 at h; unfold wrap64; omega
theorem isI64_mk {a : Int} (h : -9223372036854775808 ≤ a) (h' : a ≤ 9223372036854775807) : isI64 a := ⟨h, h'⟩
theorem hold64_id (q : Int) (h : isI64 q) : hold64 q = (q, true) := by
  unfold isI64 at h; unfold hold64
  rw [if_neg (by omega), if_neg (by omega)]
theorem do_eq {a b c : Int} (how : Int) (ha : isI64 a) (hb : isI64 b) (hc : isI64 c) : muldiv_Do.f a b c how = some (md a b c how) := by
  unfold muldiv_Do.f muldiv_quotient_s.f
  rw [if_pos ⟨ha, hb, hc⟩]; rfl
theorem md_pos {a b c how : Int} (hc : 0 < c) (h1 : 1 ≤ how) (h3 : how ≤ 3) : md a b c how = (hold64 (rnd (a * b) c how)).1 := by
  unfold md mdq
  rw [if_neg (by omega), if_neg (by omega)]
theorem rnd_down (n d : Int) : rnd n d 1 = n / d := by unfold rnd; rw [if_pos rfl]
theorem md_down {a b c : Int} (hc : 0 < c) (h : isI64 (a * b / c)) : md a b c 1 = a * b / c := by
  rw [md_pos hc (by decide) (by decide), rnd_down, hold64_id _ h]
end Go.Proofs.Ytkfkbebpcmmnfaa.P
end

section
namespace Go.Proofs.Ytkfkbebpcmmnfaa.P
open Go.RowKit
set_option linter.unusedVariables false
set_option linter.unusedSimpArgs false
def hd (x : Int) : Int := (hold64 x).1
end Go.Proofs.Ytkfkbebpcmmnfaa.P
end

section
namespace Go.Proofs.Ytkfkbebpcmmnfaa.P
open Go.RowKit Go.Proofs.YtkfkbebpcmmnfaaW.PrintWords Go.Proofs.YtkfkbebpcmmnfaaW.PrintLast Go.Proofs.YtkfkbebpcmmnfaaW.PrintMore
set_option linter.unusedVariables false
set_option linter.unusedSimpArgs false
def cl (x lo hi : Int) : Int := if x < lo then lo else if x > hi then hi else x
theorem cl_span (x lo hi : Int) (h : lo ≤ hi) : lo ≤ cl x lo hi ∧ cl x lo hi ≤ hi := by unfold cl; repeat' split <;> omega
theorem cl_id {x lo hi : Int} (h : lo ≤ x) (h' : x ≤ hi) : cl x lo hi = x := by unfold cl; rw [if_neg (by omega), if_neg (by omega)]
theorem clamp_cl (a lo hi : Int) : sat_Clamp.f a lo hi = some (cl a lo hi) := clamp_eq a lo hi
theorem i64s {a : Int} (h0 : -4611686018427387904 ≤ a) (h1 : a ≤ 4611686018427387904) : isI64 a := isI64_mk (by omega) (by omega)
theorem w64 {a : Int} (h0 : -4611686018427387904 ≤ a) (h1 : a ≤ 4611686018427387904) : wrap64 a = a := wrap64_id (i64s h0 h1)
def gD (d : Int) : Int := cl d 0 1125899906842624
def gQ (q : Int) : Int := cl q 0 17179869184
theorem gQ_span (d : Int) : 0 ≤ gQ d ∧ gQ d ≤ 17179869184 := cl_span _ _ _ (by decide)
def h1 (hi lo want d q : Int) : Int := if hi < d then mn want (q * 7 / 8) else if d ≤ lo then mx want (q * 9 / 8) else want
def h2 (full : Bool) (t q : Int) : Int := if full = true then mn t (2 * q + 100000) else t
def hT (c1 c2 c4 c5 want delay got : Int) (full : Bool) : Int := cl (h2 full (h1 c4 c5 want (gD delay) (gQ got)) (gQ got)) c1 c2
theorem hear_eq (c0 c1 c2 c3 c4 c5 c6 c7 c8 c9 c10 : Int) (l : List S85) (c12 tg he cu : Int) (cs br : Bool) (want delay got : Int) (full : Bool) (now : Int) :
    guard_Guard_Hear.f c0 c1 c2 c3 c4 c5 c6 c7 c8 c9 c10 l c12 tg he cu cs br want delay got full now = some (hT c1 c2 c4 c5 want delay got full, c0, c1, c2, c3, c4, c5, c6, c7, c8, c9, c10, c12, hT c1 c2 c4 c5 want delay got full, mx he (gD now), cu, cs, decide (c4 < gD delay)) := by
  have q := gQ_span got
  have A : gh1 (decide (c4 < gD delay)) c5 want (gQ got) (gD delay) = some (h1 c4 c5 want (gD delay) (gQ got)) := by
    unfold gh1 h1
    rw [do_eq 1 (i64s (by omega) (by omega)) (i64s (by decide) (by decide)) (i64s (by decide) (by decide)), do_eq (b := 9) 1 (i64s (by omega) (by omega)) (i64s (by decide) (by decide)) (i64s (by decide) (by decide)), md_down (by decide) (i64s (by omega) (by omega)), md_down (b := 9) (by decide) (i64s (by omega) (by omega))]
    by_cases e1 : c4 < gD delay
    · simp [e1]
    · by_cases e2 : gD delay ≤ c5
      · simp [e1, e2]
      · simp [e1, e2]
  have B : gh2 full (h1 c4 c5 want (gD delay) (gQ got)) (gQ got) = h2 full (h1 c4 c5 want (gD delay) (gQ got)) (gQ got) := by
    unfold gh2 h2
    rw [w64 (a := 2 * gQ got) (by omega) (by omega), w64 (by omega) (by omega)]
  unfold guard_Guard_Hear.f
  rw [clamp_cl, Option.bind_some, clamp_cl, Option.bind_some, clamp_cl, Option.bind_some]
  rw [show cl now 0 1125899906842624 = gD now from rfl, show cl delay 0 1125899906842624 = gD delay from rfl, show cl got 0 17179869184 = gQ got from rfl]
  rw [A, Option.bind_some, B, clamp_cl, Option.bind_some]
  rfl
structure GC (c1 c2 c3 c4 c5 c7 : Int) : Prop where
  lo : 1 ≤ c1
  s0 : c1 ≤ c3
  s1 : c3 ≤ c2
  hi : c2 ≤ 17179869184
  l0 : 0 ≤ c5
  l1 : c5 ≤ c4
  l2 : c4 ≤ 1000000
  q0 : 1000 ≤ c7
  q1 : c7 ≤ 1125899906842624
theorem wakes28 : flywheellaw28_wakes.f = some true := by kernel_rfl
theorem wk28 : (flywheellaw28_wakes.f.bind fun t => some t) = some true := by rw [wakes28]; rfl
end Go.Proofs.Ytkfkbebpcmmnfaa.P
end

section
namespace Go.Proofs.Ytkfkbebpcmmnfaa.Pure
open Go.RowKit Go.Proofs.Ytkfkbebpcmmnfaa.P Go.Proofs.YtkfkbebpcmmnfaaW.PrintWords Go.Proofs.YtkfkbebpcmmnfaaW.PrintLast Go.Proofs.YtkfkbebpcmmnfaaW.PrintMore
set_option linter.unusedVariables false
set_option linter.unusedSimpArgs false
theorem wn28 (i : Nat) (h : i ≤ 300) : wrap64 ((i : Int) + 1) = ((i + 1 : Nat) : Int) := by rw [wrap64_id (isI64_mk (by omega) (by omega))]; omega
end Go.Proofs.Ytkfkbebpcmmnfaa.Pure
end

section
namespace Go.Proofs.Ytkfkbebpcmmnfaa.Pure
open Go.RowKit Go.Proofs.Ytkfkbebpcmmnfaa.P Go.Proofs.YtkfkbebpcmmnfaaW.PrintWords Go.Proofs.YtkfkbebpcmmnfaaW.PrintLast Go.Proofs.YtkfkbebpcmmnfaaW.PrintMore
set_option linter.unusedVariables false
set_option linter.unusedSimpArgs false
theorem mod64_33 {n : Int} (hn : isI64 n) : ∃ g, flywheelkeep_Mod64.f n 8589934592 = some g ∧ 0 ≤ g ∧ g < 8589934592 := by
  unfold flywheelkeep_Mod64.f
  rw [if_neg (by decide), if_neg (by decide)]
  have a0 := Int.lt_tmod_of_pos n (show (0 : Int) < 8589934592 by decide)
  have a1 := Int.tmod_lt_of_pos n (show (0 : Int) < 8589934592 by decide)
  rw [w64 (by omega) (by omega)]
  exact ⟨_, rfl, Int.tmod_nonneg _ (by omega), Int.tmod_lt_of_pos _ (by decide)⟩
theorem brakes_high (want g : Int) (full : Bool) (g0 : 0 ≤ g) (g1 : g < 8589934592) : hT 10000 10000000 100000 20000 want 100001 g full ≤ mx 10000 (g * 7 / 8) := by
  have d : gD 100001 = 100001 := cl_id (by decide) (by decide)
  have q : gQ g = g := cl_id g0 (by omega)
  unfold hT h2 h1 cl
  rw [d, q, if_pos (show (100000 : Int) < 100001 by decide)]
  cases full with
  | true => simp only [if_true]; unfold mx mn; repeat' split
            all_goals omega
  | false => simp only [Bool.false_eq_true, if_false]; unfold mx mn; repeat' split
             all_goals omega
theorem brakes_low (want g : Int) (full : Bool) (g0 : 0 ≤ g) (g1 : g < 8589934592) :
    (full = true → mn (g * 9 / 8) (mn 10000000 (mx 10000 (2 * g + 100000))) ≤ hT 10000 10000000 100000 20000 want 20000 g full) ∧ (full = false → mn (g * 9 / 8) 10000000 ≤ hT 10000 10000000 100000 20000 want 20000 g full) := by
  have d : gD 20000 = 20000 := cl_id (by decide) (by decide)
  have q : gQ g = g := cl_id g0 (by omega)
  unfold hT h2 h1 cl
  rw [d, q, if_neg (show ¬ (100000 : Int) < 20000 by decide), if_pos (show (20000 : Int) ≤ 20000 by decide)]
  constructor
  · intro f
    subst f
    simp only [if_true]
    unfold mx mn
    repeat' split
    all_goals omega
  · intro f
    subst f
    simp only [Bool.false_eq_true, if_false]
    unfold mx mn
    repeat' split
    all_goals omega
theorem GuardBrakes : flywheellaw28_GuardBrakes.Pure := by
  intro l a0 want delay got now full
  intros _ _ _ _ _ _ hg _
  obtain ⟨g, eg, g0, g1⟩ := mod64_33 (isI64_of_wf hg)
  have e7 : wrap64 (Int.tdiv (wrap64 (g * 7)) 8) = g * 7 / 8 := by rw [w64 (a := g * 7) (by omega) (by omega), Int.tdiv_eq_ediv_of_nonneg (by omega), w64 (by omega) (by omega)]
  have e9 : wrap64 (Int.tdiv (wrap64 (g * 9)) 8) = g * 9 / 8 := by rw [w64 (a := g * 9) (by omega) (by omega), Int.tdiv_eq_ediv_of_nonneg (by omega), w64 (by omega) (by omega)]
  have e2 : wrap64 (wrap64 (2 * g) + 100000) = 2 * g + 100000 := by rw [w64 (a := 2 * g) (by omega) (by omega), w64 (by omega) (by omega)]
  have last : ∀ (k : Nat) (tg he cu : Int) (cs br : Bool), flywheellaw28_GuardBrakes.j1 (k + 2) a0 want delay got now full 0 10000 10000000 1000000 100000 20000 0 1000000 0 0 0 0 0 10000 10000000 1000000 100000 20000 0 1000000 0 0 0 [] 0 tg he cu cs br = some true := by
    intro k tg he cu cs br
    have hi := brakes_high want g full g0 g1
    have lw := brakes_low want g full g0 g1
    have d1 : gD 100001 = 100001 := cl_id (by decide) (by decide)
    have d2 : gD 20000 = 20000 := cl_id (by decide) (by decide)
    rw [flywheellaw28_GuardBrakes.j1, eg, Option.bind_some, show wrap64 (100000 + 1) = 100001 from w64 (by decide) (by decide), hear_eq, Option.bind_some]
    dsimp only
    rw [guard_Guard_Brakes.f, Option.bind_some]
    dsimp only
    rw [d1, if_pos (by decide), e7, decide_eq_false (show ¬ hT 10000 10000000 100000 20000 want 100001 g full > mx 10000 (g * 7 / 8) by omega), flywheellaw28_GuardBrakes.j2, if_neg (by decide), hear_eq, Option.bind_some]
    dsimp only
    cases full with
    | true =>
      rw [if_pos rfl, guard_Guard_Brakes.f, Option.bind_some]
      dsimp only
      rw [d2, if_neg (by decide), e9, e2, if_pos (lw.1 rfl)]
      exact wk28
    | false =>
      rw [if_neg (by decide), guard_Guard_Brakes.f, Option.bind_some]
      dsimp only
      rw [d2, if_neg (by decide), e9, if_pos (lw.2 rfl)]
      exact wk28
  have loop : ∀ (m i k : Nat) (tg he cu : Int) (cs br : Bool), i + m = 100 → m + 5 ≤ k → flywheellaw28_GuardBrakes.l0 k l i a0 want delay got now full 0 10000 10000000 1000000 100000 20000 0 1000000 0 0 0 0 0 10000 10000000 1000000 100000 20000 0 1000000 0 0 0 [] 0 tg he cu cs br = some true := by
    intro m
    induction m with
    | zero =>
      intro i k tg he cu cs br hi' hk
      obtain ⟨k, rfl⟩ : ∃ j, k = j + 3 := ⟨k - 3, by omega⟩
      rw [flywheellaw28_GuardBrakes.l0, if_neg (show ¬ (i : Int) < 100 by omega)]
      split <;> exact last k _ _ _ _ _
    | succ m ih =>
      intro i k tg he cu cs br hi' hk
      obtain ⟨k, rfl⟩ : ∃ j, k = j + 3 := ⟨k - 3, by omega⟩
      rw [flywheellaw28_GuardBrakes.l0]
      by_cases c : (i : Int) < (l.length : Int)
      · rw [if_pos c, if_pos (show (i : Int) < 100 by omega), if_pos (show (0 : Int) ≤ (i : Int) by omega), hear_eq, Option.bind_some]
        dsimp only
        rw [wn28 i (by omega)]
        exact ih (i + 1) (k + 2) _ _ _ _ _ (by omega) (by omega)
      · rw [if_neg c]; exact last k _ _ _ _ _
  refine ⟨110, ?_⟩
  unfold flywheellaw28_GuardBrakes.f flywheellaw28_Some.f
  rw [Option.bind_some]
  dsimp only
  have mk : guard_New.made.f 0 10000 10000000 1000000 100000 20000 0 1000000 0 0 0 [] 0 = some (0, 10000, 10000000, 1000000, 100000, 20000, 0, 1000000, 0, 0, 0, [], 0, 1000000, 0, 0, false, false, 0) := by kernel_rfl
  rw [mk, if_pos (by rfl), Option.bind_some]
  dsimp only
  rw [if_pos rfl]
  exact loop 100 0 110 _ _ _ _ _ (by decide) (by decide)
end Go.Proofs.Ytkfkbebpcmmnfaa.Pure
end

section

end

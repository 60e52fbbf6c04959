-- PUT TOGETHER by a program of this session: of the claim's texts, what is used
import Derived.Test.YtkfkbebpcmmnfaaKGuardSilent7
import Derived.Test.YtkfkbebpcmmnfaaKGuardSilent8
import Derived.WalkArith
import Derived.KernelRfl
section
namespace Go.Proofs.Ytkfkbebpcmmnfaa.P
open Go.RowKit
set_option linter.unusedVariables false
set_option linter.unusedSimpArgs false
def md (a b c how : Int) : Int := (mdq a b c how).1
theorem isI64_of_wf {a : Int} (h : (Lit.int .i64 a).wf = true) : isI64 a := by
  simp only [Lit.wf, IntKind.min, IntKind.max, IntKind.signed, IntKind.bits, Bool.and_eq_true, decide_eq_true_eq] at h
  unfold isI64; simp at h; omega
theorem u32_of_wf {a : Int} (h : (Lit.int .u32 a).wf = true) : 0 ≤ a ∧ a ≤ 4294967295 := by
  simp only [Lit.wf, IntKind.min, IntKind.max, IntKind.signed, IntKind.bits, Bool.and_eq_true, decide_eq_true_eq] at h
  simp at h; omega
theorem wrap64_id {a : Int} (h : isI64 a) : wrap64 a = a := by unfold isI64 at h; unfold wrap64; omega
theorem isI64_mk {a : Int} (h : -9223372036854775808 ≤ a) (h' : a ≤ 9223372036854775807) : isI64 a := ⟨h, h'⟩
theorem hold64_id (q : Int) (h : isI64 q) : hold64 q = (q, true) := by
  unfold isI64 at h; unfold hold64
  rw [if_neg (by omega), if_neg (by omega)]
theorem do_eq {a b c : Int} (how : Int) (ha : isI64 a) (hb : isI64 b) (hc : isI64 c) : muldiv_Do.f a b c how = some (md a b c how) := by
  unfold muldiv_Do.f muldiv_quotient_s.f
  rw [if_pos ⟨ha, hb, hc⟩]; rfl
theorem md_pos {a b c how : Int} (hc : 0 < c) (h1 : 1 ≤ how) (h3 : how ≤ 3) : md a b c how = (hold64 (rnd (a * b) c how)).1 := by
  unfold md mdq
  rw [if_neg (by omega), if_neg (by omega)]
theorem rnd_down (n d : Int) : rnd n d 1 = n / d := by unfold rnd; rw [if_pos rfl]
theorem md_down {a b c : Int} (hc : 0 < c) (h : isI64 (a * b / c)) : md a b c 1 = a * b / c := by
  rw [md_pos hc (by decide) (by decide), rnd_down, hold64_id _ h]
end Go.Proofs.Ytkfkbebpcmmnfaa.P
end

section
namespace Go.Proofs.Ytkfkbebpcmmnfaa.P
open Go.RowKit
set_option linter.unusedVariables false
set_option linter.unusedSimpArgs false
end Go.Proofs.Ytkfkbebpcmmnfaa.P
end

section
namespace Go.Proofs.Ytkfkbebpcmmnfaa.P
open Go.RowKit Go.Proofs.YtkfkbebpcmmnfaaW.PrintWords Go.Proofs.YtkfkbebpcmmnfaaW.PrintLast Go.Proofs.YtkfkbebpcmmnfaaW.PrintMore
set_option linter.unusedVariables false
set_option linter.unusedSimpArgs false
def cl (x lo hi : Int) : Int := if x < lo then lo else if x > hi then hi else x
theorem cl_id {x lo hi : Int} (h : lo ≤ x) (h' : x ≤ hi) : cl x lo hi = x := by unfold cl; rw [if_neg (by omega), if_neg (by omega)]
theorem clamp_cl (a lo hi : Int) : sat_Clamp.f a lo hi = some (cl a lo hi) := clamp_eq a lo hi
theorem mx_eq (a b : Int) : mx a b = if a < b then b else a := rfl
theorem i64s {a : Int} (h0 : -4611686018427387904 ≤ a) (h1 : a ≤ 4611686018427387904) : isI64 a := isI64_mk (by omega) (by omega)
theorem w64 {a : Int} (h0 : -4611686018427387904 ≤ a) (h1 : a ≤ 4611686018427387904) : wrap64 a = a := wrap64_id (i64s h0 h1)
def gD (d : Int) : Int := cl d 0 1125899906842624
def gQ (q : Int) : Int := cl q 0 17179869184
def h1 (hi lo want d q : Int) : Int := if hi < d then mn want (q * 7 / 8) else if d ≤ lo then mx want (q * 9 / 8) else want
def h2 (full : Bool) (t q : Int) : Int := if full = true then mn t (2 * q + 100000) else t
def hT (c1 c2 c4 c5 want delay got : Int) (full : Bool) : Int := cl (h2 full (h1 c4 c5 want (gD delay) (gQ got)) (gQ got)) c1 c2
theorem tick_eq (c0 c1 c2 c3 c4 c5 c6 c7 c8 c9 c10 : Int) (l : List S85) (c12 : Int) {tg : Int} (he cu : Int) (cs br : Bool) (now : Int) (h0 : 0 ≤ tg) (h1 : tg ≤ 17179869184) :
    ∃ T c' s', guard_Guard_Tick.f c0 c1 c2 c3 c4 c5 c6 c7 c8 c9 c10 l c12 tg he cu cs br now = some (T, c0, c1, c2, c3, c4, c5, c6, c7, c8, c9, c10, c12, T, he, c', s', br) ∧
      ((T = tg ∧ c' = cu ∧ s' = cs ∧ ¬ (wrap64 (gD now - he) > c7 ∧ (cs = false ∨ wrap64 (gD now - cu) > c7))) ∨ (T = mx (tg / 2) c1 ∧ c' = gD now ∧ s' = true ∧ wrap64 (gD now - he) > c7 ∧ (cs = false ∨ wrap64 (gD now - cu) > c7))) := by
  have e : md tg 1 2 1 = tg / 2 := by rw [md_down (by decide) (i64s (by omega) (by omega)), Int.mul_one]
  unfold guard_Guard_Tick.f
  rw [clamp_cl, Option.bind_some, do_eq 1 (i64s (by omega) (by omega)) (i64s (by decide) (by decide)) (i64s (by decide) (by decide)), Option.bind_some, e]
  change ∃ T c' s', (if wrap64 (gD now - he) > c7 then (if cs = true then (if wrap64 (gD now - cu) > c7 then _ else _) else _) else _) = _ ∧ _
  by_cases w1 : wrap64 (gD now - he) > c7
  · rw [if_pos w1]
    cases cs with
    | false =>
      rw [if_neg (by decide)]
      exact ⟨_, _, _, rfl, Or.inr ⟨rfl, rfl, rfl, w1, Or.inl rfl⟩⟩
    | true =>
      rw [if_pos rfl]
      by_cases w2 : wrap64 (gD now - cu) > c7
      · rw [if_pos w2]
        exact ⟨_, _, _, rfl, Or.inr ⟨rfl, rfl, rfl, w1, Or.inr w2⟩⟩
      · rw [if_neg w2]
        exact ⟨_, _, _, rfl, Or.inl ⟨rfl, rfl, rfl, fun x => x.2.elim (fun y => by cases y) w2⟩⟩
  · rw [if_neg w1]
    exact ⟨_, _, _, rfl, Or.inl ⟨rfl, rfl, rfl, fun x => w1 x.1⟩⟩
structure GC (c1 c2 c3 c4 c5 c7 : Int) : Prop where
  lo : 1 ≤ c1
  s0 : c1 ≤ c3
  s1 : c3 ≤ c2
  hi : c2 ≤ 17179869184
  l0 : 0 ≤ c5
  l1 : c5 ≤ c4
  l2 : c4 ≤ 1000000
  q0 : 1000 ≤ c7
  q1 : c7 ≤ 1125899906842624
theorem new28 (c0 c1 c2 c3 c4 c5 c6 c7 c8 c9 c10 : Int) (l : List S85) (c12 : Int) : (guard_New.made.f c0 c1 c2 c3 c4 c5 c6 c7 c8 c9 c10 l c12 = some (c0, c1, c2, c3, c4, c5, c6, c7, c8, c9, c10, l, c12, c3, 0, 0, false, false, 0) ∧ GC c1 c2 c3 c4 c5 c7) ∨
    (guard_New.made.f c0 c1 c2 c3 c4 c5 c6 c7 c8 c9 c10 l c12 = none ∧ guard_New.nil.f c0 c1 c2 c3 c4 c5 c6 c7 c8 c9 c10 l c12 = some 290 ∧ flywheelref28_Good.f c0 c1 c2 c3 c4 c5 c6 c7 c8 c9 c10 l c12 = some false) := by
  unfold guard_New.made.f guard_New.nil.f flywheelref28_Good.f flywheelref19_Rates.f
  by_cases h1 : c1 < 1
  · right; simp [h1, show ¬ 1 ≤ c1 by omega]
  · by_cases h2 : c3 < c1
    · right; simp [h1, h2, show 1 ≤ c1 by omega, show ¬ c1 ≤ c3 by omega]
    · by_cases h3 : c2 < c3
      · right; simp [h1, h2, h3, show 1 ≤ c1 by omega, show c1 ≤ c3 by omega, show ¬ c3 ≤ c2 by omega]
      · by_cases h4 : c2 > 17179869184
        · right; simp [h1, h2, h3, h4, show 1 ≤ c1 by omega, show c1 ≤ c3 by omega, show c3 ≤ c2 by omega, show ¬ c2 ≤ 17179869184 by omega]
        · have r1 : 1 ≤ c1 := by omega
          have r2 : c1 ≤ c3 := by omega
          have r3 : c3 ≤ c2 := by omega
          have r4 : c2 ≤ 17179869184 := by omega
          by_cases h5 : c5 < 0
          · right; simp [h1, h2, h3, h4, h5, r1, r2, r3, r4, show ¬ 0 ≤ c5 by omega]
          · by_cases h6 : c4 < c5
            · right; simp [h1, h2, h3, h4, h5, h6, r1, r2, r3, r4, show 0 ≤ c5 by omega, show ¬ c5 ≤ c4 by omega]
            · by_cases h7 : c4 > 1000000
              · right; simp [h1, h2, h3, h4, h5, h6, h7, r1, r2, r3, r4, show 0 ≤ c5 by omega, show c5 ≤ c4 by omega, show ¬ c4 ≤ 1000000 by omega]
              · by_cases h8 : c7 < 1000
                · right; simp [h1, h2, h3, h4, h5, h6, h7, h8, r1, r2, r3, r4, show 0 ≤ c5 by omega, show c5 ≤ c4 by omega, show c4 ≤ 1000000 by omega, show ¬ 1000 ≤ c7 by omega]
                · by_cases h9 : c7 > 1125899906842624
                  · right; simp [h1, h2, h3, h4, h5, h6, h7, h8, h9, r1, r2, r3, r4, show 0 ≤ c5 by omega, show c5 ≤ c4 by omega, show c4 ≤ 1000000 by omega, show 1000 ≤ c7 by omega, show ¬ c7 ≤ 1125899906842624 by omega]
                  · left; exact ⟨by simp [h1, h2, h3, h4, h5, h6, h7, h8, h9], r1, r2, r3, r4, by omega, by omega, by omega, by omega, by omega⟩
theorem wakes28 : flywheellaw28_wakes.f = some true := by kernel_rfl
theorem wk28 : (flywheellaw28_wakes.f.bind fun t => some t) = some true := by rw [wakes28]; rfl
end Go.Proofs.Ytkfkbebpcmmnfaa.P
end

section
namespace Go.Proofs.Ytkfkbebpcmmnfaa.Pure
open Go.RowKit Go.Proofs.Ytkfkbebpcmmnfaa.P Go.Proofs.YtkfkbebpcmmnfaaW.PrintWords Go.Proofs.YtkfkbebpcmmnfaaW.PrintLast Go.Proofs.YtkfkbebpcmmnfaaW.PrintMore
set_option linter.unusedVariables false
set_option linter.unusedSimpArgs false
theorem wn28 (i : Nat) (h : i ≤ 300) : wrap64 ((i : Int) + 1) = ((i + 1 : Nat) : Int) := by rw [wrap64_id (isI64_mk (by omega) (by omega))]; omega
end Go.Proofs.Ytkfkbebpcmmnfaa.Pure
end

section
namespace Go.Proofs.Ytkfkbebpcmmnfaa.Pure
open Go.RowKit Go.Proofs.Ytkfkbebpcmmnfaa.P Go.Proofs.YtkfkbebpcmmnfaaW.PrintWords Go.Proofs.YtkfkbebpcmmnfaaW.PrintLast Go.Proofs.YtkfkbebpcmmnfaaW.PrintMore
set_option linter.unusedVariables false
set_option linter.unusedSimpArgs false
theorem mod20 {n : Int} (hn : isI64 n) : ∃ g, flywheelkeep_Mod.f n 20 = some g ∧ 0 ≤ g ∧ g < 20 := by
  unfold flywheelkeep_Mod.f
  rw [if_neg (by decide), if_neg (by decide)]
  have a0 := Int.lt_tmod_of_pos n (show (0 : Int) < 20 by decide)
  have a1 := Int.tmod_lt_of_pos n (show (0 : Int) < 20 by decide)
  rw [w64 (by omega) (by omega)]
  exact ⟨_, rfl, Int.tmod_nonneg _ (by omega), Int.tmod_lt_of_pos _ (by decide)⟩
theorem GuardSilent : flywheellaw28_GuardSilent.Pure := by
  intro a n ha hn
  obtain ⟨g, eg, g0, g1⟩ := mod20 (isI64_of_wf hn)
  have a' := u32_of_wf ha
  have eS : wrap64 (1000 + wrap64 a) = 1000 + a := by rw [w64 (a := a) (by omega) (by omega), w64 (by omega) (by omega)]
  have loop : ∀ (S : Int), 1000 ≤ S → S ≤ 4294968295 → ∀ (m i k : Nat) (tg cu : Int) (cs br : Bool) (t : Int), i + m = 20 → m + 5 ≤ k → 10000 ≤ tg → tg ≤ 10000000 → t = (i : Int) * (S + 1) → (cs = false ∧ i = 0 ∨ cs = true ∧ cu = t) →
      flywheellaw28_GuardSilent.l0 k n tg t i 0 10000 10000000 1000000 100000 20000 0 S 0 0 0 0 0 10000 10000000 1000000 100000 20000 0 S 0 0 0 [] 0 tg 0 cu cs br = some true := by
    intro S S0 S1 m
    induction m with
    | zero =>
      intro i k tg cu cs br t hi' hk t0 t1 ht hc
      obtain ⟨k, rfl⟩ : ∃ j, k = j + 1 := ⟨k - 1, by omega⟩
      rw [flywheellaw28_GuardSilent.l0, eg, Option.bind_some, if_neg (by omega), guard_Guard_Target.f, Option.bind_some]
      dsimp only
      rw [if_pos rfl]
      exact wk28
    | succ m ih =>
      intro i k tg cu cs br t hi' hk t0 t1 ht hc
      obtain ⟨k, rfl⟩ : ∃ j, k = j + 1 := ⟨k - 1, by omega⟩
      rw [flywheellaw28_GuardSilent.l0, eg, Option.bind_some]
      by_cases c : (i : Int) < g
      · have p0 : 0 ≤ (i : Int) * (S + 1) := Int.mul_nonneg (by omega) (by omega)
        have p1 : (i : Int) * (S + 1) ≤ 20 * (S + 1) := Int.mul_le_mul_of_nonneg_right (by omega) (by omega)
        have e1 : wrap64 (t + S) = t + S := w64 (by omega) (by omega)
        have e2 : wrap64 (t + wrap64 (S + 1)) = t + (S + 1) := by rw [w64 (a := S + 1) (by omega) (by omega), w64 (by omega) (by omega)]
        have d1 : gD (t + S) = t + S := cl_id (by omega) (by omega)
        have d2 : gD (t + (S + 1)) = t + (S + 1) := cl_id (by omega) (by omega)
        rw [if_pos c, e1, e2]
        obtain ⟨T, c', s', e, hT⟩ := tick_eq 0 10000 10000000 1000000 100000 20000 0 S 0 0 0 [] 0 (tg := tg) 0 cu cs br (t + S) (by omega) (by omega)
        rw [d1, w64 (a := t + S - 0) (by omega) (by omega)] at hT
        have same : T = tg ∧ c' = cu ∧ s' = cs := by
          rcases hT with ⟨x, y, z, _⟩ | ⟨_, _, _, w1, w2⟩
          · exact ⟨x, y, z⟩
          · exfalso
            rcases hc with ⟨x, y⟩ | ⟨x, y⟩
            · subst y; omega
            · rw [w64 (a := t + S - cu) (by omega) (by omega)] at w2
              rcases w2 with w2 | w2
              · rw [x] at w2; cases w2
              · omega
        obtain ⟨rfl, rfl, rfl⟩ := same
        rw [e, Option.bind_some]
        dsimp only
        rw [if_pos rfl]
        obtain ⟨T2, c2', s2', e', hT2⟩ := tick_eq 0 10000 10000000 1000000 100000 20000 0 S 0 0 0 [] 0 (tg := T) 0 c' s' br (t + (S + 1)) (by omega) (by omega)
        rw [d2, w64 (a := t + (S + 1) - 0) (by omega) (by omega)] at hT2
        have cut : T2 = mx (T / 2) 10000 ∧ c2' = t + (S + 1) ∧ s2' = true := by
          rcases hT2 with ⟨_, _, _, no⟩ | ⟨x, y, z, _⟩
          · exfalso
            refine no ⟨by omega, ?_⟩
            rcases hc with ⟨x, y⟩ | ⟨x, y⟩
            · exact Or.inl x
            · right; rw [w64 (by omega) (by omega)]; omega
          · exact ⟨x, y, z⟩
        obtain ⟨rfl, rfl, rfl⟩ := cut
        rw [e', Option.bind_some]
        dsimp only
        have eh : wrap64 (Int.tdiv T 2) = T / 2 := by rw [Int.tdiv_eq_ediv_of_nonneg (by omega), w64 (by omega) (by omega)]
        rw [eh, if_pos rfl, wn28 i (by omega)]
        have mxs : 10000 ≤ mx (T / 2) 10000 ∧ mx (T / 2) 10000 ≤ 10000000 := by rw [mx_eq]; split <;> omega
        refine ih (i + 1) k _ _ _ _ _ (by omega) (by omega) mxs.1 mxs.2 ?_ (Or.inr ⟨rfl, rfl⟩)
        rw [ht, show ((i + 1 : Nat) : Int) = (i : Int) + 1 by omega, Int.add_mul, Int.one_mul]
      · rw [if_neg c, guard_Guard_Target.f, Option.bind_some]
        dsimp only
        rw [if_pos rfl]
        exact wk28
  refine ⟨30, ?_⟩
  unfold flywheellaw28_GuardSilent.f flywheellaw28_Some.f
  rw [Option.bind_some]
  dsimp only
  rw [eS]
  have q0 : 1000 ≤ 1000 + a := by omega
  have q1 : 1000 + a ≤ 4294968295 := by omega
  generalize 1000 + a = S at q0 q1 ⊢
  rcases new28 0 10000 10000000 1000000 100000 20000 0 S 0 0 0 [] 0 with ⟨e1, h⟩ | ⟨e1, e2, e3⟩
  · rw [e1, if_pos (by rfl), Option.bind_some]
    dsimp only
    rw [if_pos rfl]
    exact loop S q0 q1 20 0 30 _ _ _ _ 0 (by decide) (by decide) (by decide) (by decide) (by simp) (Or.inl ⟨rfl, rfl⟩)
  · exfalso
    unfold flywheelref28_Good.f flywheelref19_Rates.f at e3
    simp [q0, show S ≤ 1125899906842624 by omega] at e3
end Go.Proofs.Ytkfkbebpcmmnfaa.Pure
end

section

end

-- PUT TOGETHER by a program of this session: of the claim's texts, what is used
import Derived.Test.YtkfkbebpcmmnfaaDoorKLossyBounds7
import Derived.Test.YtkfkbebpcmmnfaaDoorKLossyBounds8
import Derived.Test.YtkfkbebpcmmnfaaDoorKLossyBounds9
import Derived.WalkArith
import Derived.KernelRfl
section
namespace Go.Proofs.YtkfkbebpcmmnfaaDoor.P
open Go.RowKit
set_option linter.unusedVariables false
set_option linter.unusedSimpArgs false
def md (a b c how : Int) : Int := (mdq a b c how).1
theorem wrap64_id {a : Int} (h : isI64 a) : wrap64 a = a := by unfold isI64 at h; unfold wrap64; omega
theorem isI64_mk {a : Int} (h : -9223372036854775808 ≤ a) (h' : a ≤ 9223372036854775807) : isI64 a := ⟨h, h'⟩
theorem hold64_id (q : Int) (h : isI64 q) : hold64 q = (q, true) := by
  unfold isI64 at h; unfold hold64
  rw [if_neg (by omega), if_neg (by omega)]
theorem do_eq {a b c : Int} (how : Int) (ha : isI64 a) (hb : isI64 b) (hc : isI64 c) : muldiv_Do.f a b c how = some (md a b c how) := by
  unfold muldiv_Do.f muldiv_quotient_s.f
  rw [if_pos ⟨ha, hb, hc⟩]; rfl
theorem md_pos {a b c how : Int} (hc : 0 < c) (h1 : 1 ≤ how) (h3 : how ≤ 3) : md a b c how = (hold64 (rnd (a * b) c how)).1 := by
  unfold md mdq
  rw [if_neg (by omega), if_neg (by omega)]
theorem rnd_down (n d : Int) : rnd n d 1 = n / d := by unfold rnd; rw [if_pos rfl]
theorem rnd_up (n d : Int) : rnd n d 3 = -((-n) / d) := by unfold rnd; rw [if_neg (by decide), if_pos rfl]
theorem md_down {a b c : Int} (hc : 0 < c) (h : isI64 (a * b / c)) : md a b c 1 = a * b / c := by
  rw [md_pos hc (by decide) (by decide), rnd_down, hold64_id _ h]
theorem md_up {a b c : Int} (hc : 0 < c) (h : isI64 (-((-(a * b)) / c))) : md a b c 3 = -((-(a * b)) / c) := by
  rw [md_pos hc (by decide) (by decide), rnd_up, hold64_id _ h]
end Go.Proofs.YtkfkbebpcmmnfaaDoor.P
end

section
namespace Go.Proofs.YtkfkbebpcmmnfaaDoor.P
open Go.RowKit
end Go.Proofs.YtkfkbebpcmmnfaaDoor.P
end

section
namespace Go.Proofs.YtkfkbebpcmmnfaaDoor.P
open Go.RowKit Go.Proofs.YtkfkbebpcmmnfaaDoorW.PrintWords Go.Proofs.YtkfkbebpcmmnfaaDoorW.PrintLast Go.Proofs.YtkfkbebpcmmnfaaDoorW.PrintMore
set_option linter.unusedVariables false
set_option linter.unusedSimpArgs false
def cl (x lo hi : Int) : Int := if x < lo then lo else if x > hi then hi else x
theorem cl_span (x lo hi : Int) (h : lo ≤ hi) : lo ≤ cl x lo hi ∧ cl x lo hi ≤ hi := by unfold cl; repeat' split <;> omega
theorem clamp_cl (a lo hi : Int) : sat_Clamp.f a lo hi = some (cl a lo hi) := clamp_eq a lo hi
theorem mn_eq (a b : Int) : mn a b = if b < a then b else a := rfl
theorem mx_eq (a b : Int) : mx a b = if a < b then b else a := rfl
theorem i64s {a : Int} (h0 : -4611686018427387904 ≤ a) (h1 : a ≤ 4611686018427387904) : isI64 a := isI64_mk (by omega) (by omega)
theorem w64 {a : Int} (h0 : -4611686018427387904 ≤ a) (h1 : a ≤ 4611686018427387904) : wrap64 a = a := wrap64_id (i64s h0 h1)
def lN (n : Int) : Int := cl n 0 1125899906842624
def lL (n : Int) : Int := cl n 0 256
theorem lN_span (g : Int) : 0 ≤ lN g ∧ lN g ≤ 1125899906842624 := cl_span _ _ _ (by decide)
theorem lL_span (g : Int) : 0 ≤ lL g ∧ lL g ≤ 256 := cl_span _ _ _ (by decide)
def lR (r n : Int) : Int := if n ≤ 5 then -((-(r * 105)) / 100) + 1000 else if n ≤ 26 then r else r * (512 - n) / 512
def lU (r lo hi : Int) (an : Bool) (la loss now : Int) : Int × Int × Int × Bool × Int :=
  if an = true ∧ lN now - la < 200000 then (r, lo, hi, an, la) else (cl (lR r (lL loss)) lo hi, lo, hi, true, lN now)
structure LI (r lo hi la : Int) : Prop where
  lo1 : 1 ≤ lo
  r0 : lo ≤ r
  r1 : r ≤ hi
  hi1 : hi ≤ 17179869184
  la0 : 0 ≤ la
  la1 : la ≤ 1125899906842624
theorem part_span {r n : Int} (r0 : 0 ≤ r) (r1 : r ≤ 17179869184) (n0 : 0 ≤ n) (n1 : n ≤ 256) : 0 ≤ r * (512 - n) ∧ r * (512 - n) ≤ r * 512 :=
  ⟨Int.mul_nonneg r0 (by omega), Int.mul_le_mul_of_nonneg_left (by omega) r0⟩
theorem lrow_eq {r n : Int} (r0 : 0 ≤ r) (r1 : r ≤ 17179869184) (n0 : 0 ≤ n) (n1 : n ≤ 256) : lrow r n = some (lR r n) := by
  have p := part_span r0 r1 n0 n1
  unfold lrow lR
  rw [show wrap64 0 = 0 from w64 (by decide) (by decide), show wrap64 (105 - 0) = 105 from w64 (by decide) (by decide), show wrap64 (1 - 0) = 1 from w64 (by decide) (by decide), w64 (a := n) (by omega) (by omega), w64 (a := 512 - n) (by omega) (by omega)]
  by_cases h : n ≤ 5
  · rw [if_pos h, if_pos h, do_eq 3 (i64s (by omega) (by omega)) (i64s (by decide) (by decide)) (i64s (by decide) (by decide)), md_up (by decide) (i64s (by omega) (by omega))]
    simp only [Option.bind_some]
    rw [w64 (by omega) (by omega)]
  · rw [if_neg h, if_neg h]
    by_cases h2 : n ≤ 26
    · rw [if_pos h2, if_pos h2, do_eq 1 (i64s (by omega) (by omega)) (i64s (by decide) (by decide)) (i64s (by decide) (by decide)), md_down (by decide) (i64s (by omega) (by omega))]
      simp only [Option.bind_some]
      rw [w64 (by omega) (by omega)]
      congr 1
      omega
    · rw [if_neg h2, if_neg h2, do_eq 1 (i64s (by omega) (by omega)) (i64s (by omega) (by omega)) (i64s (by decide) (by decide)), md_down (by decide) (i64s (by omega) (by omega))]
      simp only [Option.bind_some]
      rw [w64 (by omega) (by omega)]
theorem up_eq {r lo hi : Int} (an : Bool) {la : Int} (u n : Int) (h : LI r lo hi la) :
    lossy_Lossy_Update.f r lo hi an la u n = some ((lU r lo hi an la u n).1, lU r lo hi an la u n) := by
  obtain ⟨h1, h2, h3, h4, h5, h6⟩ := h
  have N := lN_span n; have U := lL_span u
  unfold lossy_Lossy_Update.f lU
  simp only [clamp_cl, Option.bind_some]
  rw [show cl n 0 1125899906842624 = lN n from rfl, show cl u 0 256 = lL u from rfl, w64 (a := lN n - la) (by omega) (by omega), lrow_eq (by omega) (by omega) U.1 U.2]
  split <;> rfl
theorem now_eq (u : Int) : mx 0 (mn u 1125899906842624) = lN u := by unfold lN cl; rw [mx_eq, mn_eq]; repeat' split <;> omega
theorem lU_LI {r lo hi : Int} (an : Bool) {la : Int} (u n : Int) (h : LI r lo hi la) :
    ∃ r' an' la', lU r lo hi an la u n = (r', lo, hi, an', la') ∧ LI r' lo hi la' ∧ (u < 6 → r ≤ r') ∧ (u > 26 → r' ≤ r) ∧
      ((an = true ∧ lN n - la < 200000 ∧ r' = r ∧ an' = an ∧ la' = la) ∨ (¬ (an = true ∧ lN n - la < 200000) ∧ an' = true ∧ la' = lN n)) := by
  obtain ⟨h1, h2, h3, h4, h5, h6⟩ := h
  have N := lN_span n; have U := lL_span u
  have p := part_span (r := r) (n := lL u) (by omega) (by omega) U.1 U.2
  have u5 : u < 6 → lL u ≤ 5 := by unfold lL cl; intro _; repeat' split <;> omega
  have u26 : u > 26 → ¬ lL u ≤ 26 := by unfold lL cl; intro _; repeat' split <;> omega
  unfold lU
  by_cases e : an = true ∧ lN n - la < 200000
  · rw [if_pos e]
    exact ⟨_, _, _, rfl, ⟨h1, h2, h3, h4, h5, h6⟩, fun _ => Int.le_refl _, fun _ => Int.le_refl _, .inl ⟨e.1, e.2, rfl, rfl, rfl⟩⟩
  · rw [if_neg e]
    have c := cl_span (lR r (lL u)) lo hi (by omega)
    refine ⟨_, _, _, rfl, ⟨h1, c.1, c.2, h4, N.1, N.2⟩, fun q => ?_, fun q => ?_, .inr ⟨e, rfl, rfl⟩⟩
    · have := u5 q
      unfold lR cl
      rw [if_pos this]
      repeat' split
      all_goals omega
    · have := u26 q
      unfold lR cl
      rw [if_neg (show ¬ lL u ≤ 5 by omega), if_neg this]
      repeat' split
      all_goals omega
end Go.Proofs.YtkfkbebpcmmnfaaDoor.P
end

section
namespace Go.Proofs.YtkfkbebpcmmnfaaDoor.Pure
open Go.RowKit Go.Proofs.YtkfkbebpcmmnfaaDoor.P Go.Proofs.YtkfkbebpcmmnfaaDoorW.PrintWords Go.Proofs.YtkfkbebpcmmnfaaDoorW.PrintLast Go.Proofs.YtkfkbebpcmmnfaaDoorW.PrintMore
set_option linter.unusedVariables false
set_option linter.unusedSimpArgs false
theorem wakes20 : flywheellaw20_wakes.f = some true := by kernel_rfl
theorem wk20 : ((flywheellaw20_wakes.f).bind fun t => some t) = some true := by rw [wakes20]; rfl
theorem wn20 (i : Nat) (h : i ≤ 300) : wrap64 ((i : Int) + 1) = ((i + 1 : Nat) : Int) := by rw [wrap64_id (isI64_mk (by omega) (by omega))]; omega
theorem new_two (a b c : Int) : (lossy_New.made.f a b c = some (a, b, c, false, 0, 0) ∧ flywheelref20_New.made.f a b c = some (a, b, c, false, 0, 0) ∧ LI a b c 0) ∨
    (lossy_New.made.f a b c = none ∧ flywheelref20_New.made.f a b c = none ∧ lossy_New.nil.f a b c = some 1 ∧ flywheelref20_New.nil.f a b c = some 1 ∧ flywheelref19_Rates.f a b c = some false) := by
  unfold lossy_New.made.f flywheelref20_New.made.f lossy_New.nil.f flywheelref20_New.nil.f flywheelref19_Rates.f
  by_cases h1 : b < 1
  · right; simp [h1, show ¬ 1 ≤ b by omega]
  · by_cases h2 : a < b
    · right; simp [h1, h2, show 1 ≤ b by omega, show ¬ b ≤ a by omega]
    · by_cases h3 : c < a
      · right; simp [h1, h2, h3, show 1 ≤ b by omega, show b ≤ a by omega, show ¬ a ≤ c by omega]
      · by_cases h4 : c > 17179869184
        · right; simp [h1, h2, h3, h4, show 1 ≤ b by omega, show b ≤ a by omega, show a ≤ c by omega, show ¬ c ≤ 17179869184 by omega]
        · left; refine ⟨by simp [h1, h2, h3, h4], by simp [show 1 ≤ b by omega, show b ≤ a by omega, show a ≤ c by omega, show c ≤ 17179869184 by omega], by omega, by omega, by omega, by omega, by decide, by decide⟩
theorem LossyBounds : flywheellaw20_LossyBounds.Pure := by
  intro a b c l _ _ _ hl hs hw
  have fin : ∀ (k i : Nat) (x7 : Int) (x8 : Bool) (a b c r lo hi : Int) (an : Bool) (la : Int), flywheellaw20_LossyBounds.j1 (k + 1) l x7 x8 i false a b c r lo hi an la = some true := by
    intro k i x7 x8 a b c r lo hi an la
    simp only [flywheellaw20_LossyBounds.j1, Bool.false_eq_true, if_false]
    exact wk20
  have loop : ∀ (m i k : Nat) (a r lo hi : Int) (an : Bool) (la : Int), i + m = 300 → 8 + 4 * m ≤ k → LI r lo hi la → flywheellaw20_LossyBounds.l0 k l la an i a lo hi r lo hi an la = some true := by
    intro m
    induction m with
    | zero =>
      intro i k a r lo hi an la hi' hk h
      obtain ⟨k, rfl⟩ : ∃ j, k = j + 2 := ⟨k - 2, by omega⟩
      simp only [flywheellaw20_LossyBounds.l0]
      rw [show decide ((i : Int) < 300) = false from decide_eq_false (by omega)]
      split <;> exact fin k i _ _ _ _ _ _ _ _ _ _
    | succ m ih =>
      intro i k a r lo hi an la hi' hk h
      obtain ⟨k, rfl⟩ : ∃ j, k = j + 4 := ⟨k - 4, by omega⟩
      simp only [flywheellaw20_LossyBounds.l0]
      by_cases c : (i : Int) < (l.length : Int)
      · rw [if_pos c, show decide ((i : Int) < 300) = true from decide_eq_true (by omega)]
        simp only [flywheellaw20_LossyBounds.j1, if_true, lossy_Lossy_Rate.f, Option.bind_some]
        rw [if_pos (show (0 : Int) ≤ (i : Int) by omega), if_pos c, up_eq an _ _ h, now_eq]
        have N := lN_span (rd_T36 l (i : Int)).f1
        obtain ⟨r', an', la', e, h', d1, d2, d3⟩ := lU_LI an (rd_T36 l (i : Int)).f0 (rd_T36 l (i : Int)).f1 h
        rw [e]
        simp only [Option.bind_some]
        have b1 := h'.r0; have b2 := h'.r1; have b3 := h.la0; have b4 := h.la1
        rw [if_neg (show ¬ r' < lo by omega), if_neg (show ¬ r' > hi by omega)]
        have step : flywheellaw20_LossyBounds.j2 (k + 2) l la an i r (lN (rd_T36 l (i : Int)).f1) r' false a lo hi r' lo hi an' la' = some true := by
          simp only [flywheellaw20_LossyBounds.j2, flywheellaw20_LossyBounds.j3, Bool.false_eq_true, if_false]
          rw [w64 (a := lN (rd_T36 l (i : Int)).f1 - la) (by omega) (by omega), wn20 i (by omega)]
          rcases d3 with ⟨e1, e2, e3, e4, e5⟩ | ⟨e1, e4, e5⟩
          · subst e1; subst e3; subst e4; subst e5
            simp only [if_true, if_pos e2, bne_self_eq_false, Bool.false_eq_true, if_false]
            rw [if_neg (show ¬ lN (rd_T36 l (i : Int)).f1 - la' ≥ 200000 by omega)]
            exact ih (i + 1) k _ _ _ _ _ _ (by omega) (by omega) h'
          · subst e4; subst e5
            cases an with
            | true =>
              have e2 : ¬ lN (rd_T36 l (i : Int)).f1 - la < 200000 := fun z => e1 ⟨rfl, z⟩
              rw [if_pos rfl, if_neg e2, if_pos rfl, if_pos (by omega)]
              exact ih (i + 1) k _ _ _ _ _ _ (by omega) (by omega) h'
            | false =>
              simp only [Bool.false_eq_true, if_false]
              exact ih (i + 1) k _ _ _ _ _ _ (by omega) (by omega) h'
        by_cases c6 : (rd_T36 l (i : Int)).f0 < 6
        · have := d1 c6
          rw [if_pos c6, if_neg (show ¬ r' < r by omega), if_neg (show ¬ (rd_T36 l (i : Int)).f0 > 26 by omega)]
          exact step
        · rw [if_neg c6]
          by_cases c26 : (rd_T36 l (i : Int)).f0 > 26
          · have := d2 c26
            rw [if_pos c26, show decide (r' > r) = false from decide_eq_false (by omega)]
            exact step
          · rw [if_neg c26]
            exact step
      · rw [if_neg c]; exact fin (k + 2) i _ _ _ _ _ _ _ _ _ _
  refine ⟨1300, ?_⟩
  unfold flywheellaw20_LossyBounds.f
  rcases new_two a b c with ⟨e1, e2, h⟩ | ⟨e1, e2, e3, e4, e5⟩
  · rw [e1]
    simp only [Option.isSome_some, if_true, Option.bind_some]
    exact loop 300 0 1300 _ _ _ _ _ _ (by decide) (by decide) h
  · rw [e1, e3, e5]
    simp only [Option.isSome_none, Bool.false_eq_true, if_false, Option.bind_some]
    rw [if_neg (by decide)]
    exact wk20
end Go.Proofs.YtkfkbebpcmmnfaaDoor.Pure
end

section

end

-- PUT TOGETHER by a program of this session: of the claim's texts, what is used
import Derived.Test.YtkfkbebpcmmnfaaDoorKLossyCuts7
import Derived.Test.YtkfkbebpcmmnfaaDoorKLossyCuts8
import Derived.WalkArith
import Derived.KernelRfl
section
namespace Go.Proofs.YtkfkbebpcmmnfaaDoor.P
open Go.RowKit
set_option linter.unusedVariables false
set_option linter.unusedSimpArgs false
def md (a b c how : Int) : Int := (mdq a b c how).1
theorem u8_of_wf {a : Int} (h : (Lit.int .u8 a).wf = true) : 0 ≤ a ∧ a ≤ 255 := by
  simp only [Lit.wf, IntKind.min, IntKind.max, IntKind.signed, IntKind.bits, Bool.and_eq_true, decide_eq_true_eq] at h
  simp at h; omega
theorem wrap64_id {a : Int} (h : isI64 a) : wrap64 a = a := by unfold isI64 at h; unfold wrap64; omega
theorem isI64_mk {a : Int} (h : -9223372036854775808 ≤ a) (h' : a ≤ 9223372036854775807) : isI64 a := ⟨h, h'⟩
theorem hold64_id (q : Int) (h : isI64 q) : hold64 q = (q, true) := by
  unfold isI64 at h; unfold hold64
  rw [if_neg (by omega), if_neg (by omega)]
theorem do_eq {a b c : Int} (how : Int) (ha : isI64 a) (hb : isI64 b) (hc : isI64 c) : muldiv_Do.f a b c how = some (md a b c how) := by
  unfold muldiv_Do.f muldiv_quotient_s.f
  rw [if_pos ⟨ha, hb, hc⟩]; rfl
theorem md_pos {a b c how : Int} (hc : 0 < c) (h1 : 1 ≤ how) (h3 : how ≤ 3) : md a b c how = (hold64 (rnd (a * b) c how)).1 := by
  unfold md mdq
  rw [if_neg (by omega), if_neg (by omega)]
theorem rnd_down (n d : Int) : rnd n d 1 = n / d := by unfold rnd; rw [if_pos rfl]
theorem rnd_up (n d : Int) : rnd n d 3 = -((-n) / d) := by unfold rnd; rw [if_neg (by decide), if_pos rfl]
theorem md_down {a b c : Int} (hc : 0 < c) (h : isI64 (a * b / c)) : md a b c 1 = a * b / c := by
  rw [md_pos hc (by decide) (by decide), rnd_down, hold64_id _ h]
theorem md_up {a b c : Int} (hc : 0 < c) (h : isI64 (-((-(a * b)) / c))) : md a b c 3 = -((-(a * b)) / c) := by
  rw [md_pos hc (by decide) (by decide), rnd_up, hold64_id _ h]
end Go.Proofs.YtkfkbebpcmmnfaaDoor.P
end

section
namespace Go.Proofs.YtkfkbebpcmmnfaaDoor.P
open Go.RowKit
end Go.Proofs.YtkfkbebpcmmnfaaDoor.P
end

section
namespace Go.Proofs.YtkfkbebpcmmnfaaDoor.P
open Go.RowKit Go.Proofs.YtkfkbebpcmmnfaaDoorW.PrintWords Go.Proofs.YtkfkbebpcmmnfaaDoorW.PrintLast Go.Proofs.YtkfkbebpcmmnfaaDoorW.PrintMore
set_option linter.unusedVariables false
set_option linter.unusedSimpArgs false
def cl (x lo hi : Int) : Int := if x < lo then lo else if x > hi then hi else x
theorem cl_span (x lo hi : Int) (h : lo ≤ hi) : lo ≤ cl x lo hi ∧ cl x lo hi ≤ hi := by unfold cl; repeat' split <;> omega
theorem clamp_cl (a lo hi : Int) : sat_Clamp.f a lo hi = some (cl a lo hi) := clamp_eq a lo hi
theorem mn_eq (a b : Int) : mn a b = if b < a then b else a := rfl
theorem mx_eq (a b : Int) : mx a b = if a < b then b else a := rfl
theorem i64s {a : Int} (h0 : -4611686018427387904 ≤ a) (h1 : a ≤ 4611686018427387904) : isI64 a := isI64_mk (by omega) (by omega)
theorem w64 {a : Int} (h0 : -4611686018427387904 ≤ a) (h1 : a ≤ 4611686018427387904) : wrap64 a = a := wrap64_id (i64s h0 h1)
def lN (n : Int) : Int := cl n 0 1125899906842624
def lL (n : Int) : Int := cl n 0 256
theorem lN_span (g : Int) : 0 ≤ lN g ∧ lN g ≤ 1125899906842624 := cl_span _ _ _ (by decide)
theorem lL_span (g : Int) : 0 ≤ lL g ∧ lL g ≤ 256 := cl_span _ _ _ (by decide)
def lR (r n : Int) : Int := if n ≤ 5 then -((-(r * 105)) / 100) + 1000 else if n ≤ 26 then r else r * (512 - n) / 512
def lU (r lo hi : Int) (an : Bool) (la loss now : Int) : Int × Int × Int × Bool × Int :=
  if an = true ∧ lN now - la < 200000 then (r, lo, hi, an, la) else (cl (lR r (lL loss)) lo hi, lo, hi, true, lN now)
structure LI (r lo hi la : Int) : Prop where
  lo1 : 1 ≤ lo
  r0 : lo ≤ r
  r1 : r ≤ hi
  hi1 : hi ≤ 17179869184
  la0 : 0 ≤ la
  la1 : la ≤ 1125899906842624
theorem part_span {r n : Int} (r0 : 0 ≤ r) (r1 : r ≤ 17179869184) (n0 : 0 ≤ n) (n1 : n ≤ 256) : 0 ≤ r * (512 - n) ∧ r * (512 - n) ≤ r * 512 :=
  ⟨Int.mul_nonneg r0 (by omega), Int.mul_le_mul_of_nonneg_left (by omega) r0⟩
theorem lrow_eq {r n : Int} (r0 : 0 ≤ r) (r1 : r ≤ 17179869184) (n0 : 0 ≤ n) (n1 : n ≤ 256) : lrow r n = some (lR r n) := by
  have p := part_span r0 r1 n0 n1
  unfold lrow lR
  rw [show wrap64 0 = 0 from w64 (by decide) (by decide), show wrap64 (105 - 0) = 105 from w64 (by decide) (by decide), show wrap64 (1 - 0) = 1 from w64 (by decide) (by decide), w64 (a := n) (by omega) (by omega), w64 (a := 512 - n) (by omega) (by omega)]
  by_cases h : n ≤ 5
  · rw [if_pos h, if_pos h, do_eq 3 (i64s (by omega) (by omega)) (i64s (by decide) (by decide)) (i64s (by decide) (by decide)), md_up (by decide) (i64s (by omega) (by omega))]
    simp only [Option.bind_some]
    rw [w64 (by omega) (by omega)]
  · rw [if_neg h, if_neg h]
    by_cases h2 : n ≤ 26
    · rw [if_pos h2, if_pos h2, do_eq 1 (i64s (by omega) (by omega)) (i64s (by decide) (by decide)) (i64s (by decide) (by decide)), md_down (by decide) (i64s (by omega) (by omega))]
      simp only [Option.bind_some]
      rw [w64 (by omega) (by omega)]
      congr 1
      omega
    · rw [if_neg h2, if_neg h2, do_eq 1 (i64s (by omega) (by omega)) (i64s (by omega) (by omega)) (i64s (by decide) (by decide)), md_down (by decide) (i64s (by omega) (by omega))]
      simp only [Option.bind_some]
      rw [w64 (by omega) (by omega)]
theorem up_eq {r lo hi : Int} (an : Bool) {la : Int} (u n : Int) (h : LI r lo hi la) :
    lossy_Lossy_Update.f r lo hi an la u n = some ((lU r lo hi an la u n).1, lU r lo hi an la u n) := by
  obtain ⟨h1, h2, h3, h4, h5, h6⟩ := h
  have N := lN_span n; have U := lL_span u
  unfold lossy_Lossy_Update.f lU
  simp only [clamp_cl, Option.bind_some]
  rw [show cl n 0 1125899906842624 = lN n from rfl, show cl u 0 256 = lL u from rfl, w64 (a := lN n - la) (by omega) (by omega), lrow_eq (by omega) (by omega) U.1 U.2]
  split <;> rfl
end Go.Proofs.YtkfkbebpcmmnfaaDoor.P
end

section
namespace Go.Proofs.YtkfkbebpcmmnfaaDoor.Pure
open Go.RowKit Go.Proofs.YtkfkbebpcmmnfaaDoor.P Go.Proofs.YtkfkbebpcmmnfaaDoorW.PrintWords Go.Proofs.YtkfkbebpcmmnfaaDoorW.PrintLast Go.Proofs.YtkfkbebpcmmnfaaDoorW.PrintMore
set_option linter.unusedVariables false
set_option linter.unusedSimpArgs false
theorem wakes20 : flywheellaw20_wakes.f = some true := by kernel_rfl
theorem wk20 : ((flywheellaw20_wakes.f).bind fun t => some t) = some true := by rw [wakes20]; rfl
theorem new_two (a b c : Int) : (lossy_New.made.f a b c = some (a, b, c, false, 0, 0) ∧ flywheelref20_New.made.f a b c = some (a, b, c, false, 0, 0) ∧ LI a b c 0) ∨
    (lossy_New.made.f a b c = none ∧ flywheelref20_New.made.f a b c = none ∧ lossy_New.nil.f a b c = some 1 ∧ flywheelref20_New.nil.f a b c = some 1 ∧ flywheelref19_Rates.f a b c = some false) := by
  unfold lossy_New.made.f flywheelref20_New.made.f lossy_New.nil.f flywheelref20_New.nil.f flywheelref19_Rates.f
  by_cases h1 : b < 1
  · right; simp [h1, show ¬ 1 ≤ b by omega]
  · by_cases h2 : a < b
    · right; simp [h1, h2, show 1 ≤ b by omega, show ¬ b ≤ a by omega]
    · by_cases h3 : c < a
      · right; simp [h1, h2, h3, show 1 ≤ b by omega, show b ≤ a by omega, show ¬ a ≤ c by omega]
      · by_cases h4 : c > 17179869184
        · right; simp [h1, h2, h3, h4, show 1 ≤ b by omega, show b ≤ a by omega, show a ≤ c by omega, show ¬ c ≤ 17179869184 by omega]
        · left; refine ⟨by simp [h1, h2, h3, h4], by simp [show 1 ≤ b by omega, show b ≤ a by omega, show a ≤ c by omega, show c ≤ 17179869184 by omega], by omega, by omega, by omega, by omega, by decide, by decide⟩
theorem LossyCuts : flywheellaw20_LossyCuts.Pure := by
  intro a b c l _ _ _ hl
  have hu := u8_of_wf hl
  unfold flywheellaw20_LossyCuts.f
  rcases new_two a b c with ⟨e1, e2, h⟩ | ⟨e1, e2, e3, e4, e5⟩
  · rw [e1]
    simp only [Option.isSome_some, if_true, Option.bind_some]
    have h' := h
    obtain ⟨h1, h2, h3, h4, _, _⟩ := h'
    rw [w64 (a := l) (by omega) (by omega), up_eq false _ _ h]
    have eL : lL l = l := by unfold lL cl; repeat' split <;> omega
    have eU : (lU a b c false 0 l 0).1 = cl (lR a l) b c := by unfold lU; rw [if_neg (by simp), eL]
    simp only [Option.bind_some, eU]
    by_cases c26 : l > 26
    · have q0 : Int.tdiv a 512 = a / 512 := Int.tdiv_eq_ediv_of_nonneg (by omega)
      have m0 : Int.tmod a 512 = a % 512 := Int.tmod_eq_emod_of_nonneg (by omega)
      have x0 : 0 ≤ a / 512 * (512 - l) ∧ a / 512 * (512 - l) ≤ a / 512 * 512 := ⟨Int.mul_nonneg (by omega) (by omega), Int.mul_le_mul_of_nonneg_left (by omega) (by omega)⟩
      have y0 : 0 ≤ a % 512 * (512 - l) ∧ a % 512 * (512 - l) ≤ a % 512 * 512 := ⟨Int.mul_nonneg (by omega) (by omega), Int.mul_le_mul_of_nonneg_left (by omega) (by omega)⟩
      have t0 : Int.tdiv (a % 512 * (512 - l)) 512 = a % 512 * (512 - l) / 512 := Int.tdiv_eq_ediv_of_nonneg y0.1
      have s0 : a * (512 - l) = a % 512 * (512 - l) + 512 * (a / 512 * (512 - l)) := by
        have : a = a % 512 + 512 * (a / 512) := (Int.emod_add_mul_ediv a 512).symm
        calc a * (512 - l) = (a % 512 + 512 * (a / 512)) * (512 - l) := by rw [← this]
          _ = _ := by rw [Int.add_mul, Int.mul_assoc]
      have eR : lR a l = a / 512 * (512 - l) + a % 512 * (512 - l) / 512 := by
        unfold lR
        rw [if_neg (by omega), if_neg (by omega), s0]
        omega
      rw [if_pos c26, w64 (a := 512 - l) (by omega) (by omega), q0, m0, w64 (a := a / 512) (by omega) (by omega), w64 (a := a / 512 * (512 - l)) (by omega) (by omega), w64 (a := a % 512 * (512 - l)) (by omega) (by omega), t0, w64 (a := a % 512 * (512 - l) / 512) (by omega) (by omega), w64 (a := a / 512 * (512 - l) + a % 512 * (512 - l) / 512) (by omega) (by omega), eR]
      rw [if_pos (by unfold cl; rw [mx_eq]; repeat' split <;> omega)]
      exact wk20
    · rw [if_neg c26]
      by_cases c6 : l < 6
      · have t0 : Int.tdiv (a * 5 + 99) 100 = (a * 5 + 99) / 100 := Int.tdiv_eq_ediv_of_nonneg (by omega)
        have eR : lR a l = -((-(a * 105)) / 100) + 1000 := by unfold lR; rw [if_pos (by omega)]
        rw [if_pos c6, w64 (a := a * 5) (by omega) (by omega), w64 (a := a * 5 + 99) (by omega) (by omega), t0, w64 (a := (a * 5 + 99) / 100) (by omega) (by omega), w64 (a := a + (a * 5 + 99) / 100) (by omega) (by omega), w64 (a := a + (a * 5 + 99) / 100 + 1000) (by omega) (by omega), eR]
        rw [if_pos (by unfold cl; rw [mn_eq]; repeat' split <;> omega)]
        exact wk20
      · have eR : lR a l = a := by unfold lR; rw [if_neg (by omega), if_pos (by omega)]
        rw [if_neg c6, eR, if_pos (by unfold cl; repeat' split <;> omega)]
        exact wk20
  · rw [e1, e3]
    simp only [Option.isSome_none, Bool.false_eq_true, if_false, Option.bind_some]
    rw [if_neg (by decide)]
    exact wk20
end Go.Proofs.YtkfkbebpcmmnfaaDoor.Pure
end

section

end

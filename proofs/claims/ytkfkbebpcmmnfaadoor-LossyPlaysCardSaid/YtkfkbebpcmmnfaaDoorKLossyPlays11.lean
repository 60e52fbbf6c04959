-- PUT TOGETHER by a program of this session: of the claim's texts, what is used
import Derived.Test.YtkfkbebpcmmnfaaDoorKLossyPlays7
import Derived.Test.YtkfkbebpcmmnfaaDoorKLossyPlays8
import Derived.Test.YtkfkbebpcmmnfaaDoorKLossyPlays9
import Derived.Test.YtkfkbebpcmmnfaaDoorKLossyPlays10
import Derived.WalkArith
import Derived.KernelRfl
section
namespace Go.Proofs.YtkfkbebpcmmnfaaDoor.P
open Go.RowKit
set_option linter.unusedVariables false
set_option linter.unusedSimpArgs false
def md (a b c how : Int) : Int := (mdq a b c how).1
theorem wrap64_id {a : Int} (h : isI64 a) : wrap64 a = a := by unfold isI64 at h; unfold wrap64; omega
theorem isI64_mk {a : Int} (h : -9223372036854775808 ≤ a) (h' : a ≤ 9223372036854775807) : isI64 a := ⟨h, h'⟩
theorem hold64_id (q : Int) (h : isI64 q) : hold64 q = (q, true) := by
  unfold isI64 at h; unfold hold64
  rw [if_neg (by omega), if_neg (by omega)]
theorem do_eq {a b c : Int} (how : Int) (ha : isI64 a) (hb : isI64 b) (hc : isI64 c) : muldiv_Do.f a b c how = some (md a b c how) := by
  unfold muldiv_Do.f muldiv_quotient_s.f
  rw [if_pos ⟨ha, hb, hc⟩]; rfl
theorem md_pos {a b c how : Int} (hc : 0 < c) (h1 : 1 ≤ how) (h3 : how ≤ 3) : md a b c how = (hold64 (rnd (a * b) c how)).1 := by
  unfold md mdq
  rw [if_neg (by omega), if_neg (by omega)]
theorem rnd_down (n d : Int) : rnd n d 1 = n / d := by unfold rnd; rw [if_pos rfl]
theorem rnd_up (n d : Int) : rnd n d 3 = -((-n) / d) := by unfold rnd; rw [if_neg (by decide), if_pos rfl]
theorem md_down {a b c : Int} (hc : 0 < c) (h : isI64 (a * b / c)) : md a b c 1 = a * b / c := by
  rw [md_pos hc (by decide) (by decide), rnd_down, hold64_id _ h]
theorem md_up {a b c : Int} (hc : 0 < c) (h : isI64 (-((-(a * b)) / c))) : md a b c 3 = -((-(a * b)) / c) := by
  rw [md_pos hc (by decide) (by decide), rnd_up, hold64_id _ h]
end Go.Proofs.YtkfkbebpcmmnfaaDoor.P
end

section
namespace Go.Proofs.YtkfkbebpcmmnfaaDoor.P
open Go.RowKit
theorem rdo_eq {a b c : Int} (how : Int) (ha : isI64 a) (hb : isI64 b) (hc : isI64 c) : flywheelref02_Do.f a b c how = some (md a b c how) := by
  unfold flywheelref02_Do.f flywheelref02_Did_s.f
  rw [if_pos ⟨ha, hb, hc⟩]; rfl
end Go.Proofs.YtkfkbebpcmmnfaaDoor.P
end

section
namespace Go.Proofs.YtkfkbebpcmmnfaaDoor.P
open Go.RowKit Go.Proofs.YtkfkbebpcmmnfaaDoorW.PrintWords Go.Proofs.YtkfkbebpcmmnfaaDoorW.PrintLast Go.Proofs.YtkfkbebpcmmnfaaDoorW.PrintMore
set_option linter.unusedVariables false
set_option linter.unusedSimpArgs false
def cl (x lo hi : Int) : Int := if x < lo then lo else if x > hi then hi else x
theorem cl_span (x lo hi : Int) (h : lo ≤ hi) : lo ≤ cl x lo hi ∧ cl x lo hi ≤ hi := by unfold cl; repeat' split <;> omega
theorem clamp_cl (a lo hi : Int) : sat_Clamp.f a lo hi = some (cl a lo hi) := clamp_eq a lo hi
theorem rclamp_cl (a lo hi : Int) : flywheelref01_Clamp.f a lo hi = some (cl a lo hi) := rclamp_eq a lo hi
theorem mn_eq (a b : Int) : mn a b = if b < a then b else a := rfl
theorem mx_eq (a b : Int) : mx a b = if a < b then b else a := rfl
theorem i64s {a : Int} (h0 : -4611686018427387904 ≤ a) (h1 : a ≤ 4611686018427387904) : isI64 a := isI64_mk (by omega) (by omega)
theorem w64 {a : Int} (h0 : -4611686018427387904 ≤ a) (h1 : a ≤ 4611686018427387904) : wrap64 a = a := wrap64_id (i64s h0 h1)
def lN (n : Int) : Int := cl n 0 1125899906842624
def lL (n : Int) : Int := cl n 0 256
theorem lN_span (g : Int) : 0 ≤ lN g ∧ lN g ≤ 1125899906842624 := cl_span _ _ _ (by decide)
theorem lL_span (g : Int) : 0 ≤ lL g ∧ lL g ≤ 256 := cl_span _ _ _ (by decide)
def lR (r n : Int) : Int := if n ≤ 5 then -((-(r * 105)) / 100) + 1000 else if n ≤ 26 then r else r * (512 - n) / 512
def lU (r lo hi : Int) (an : Bool) (la loss now : Int) : Int × Int × Int × Bool × Int :=
  if an = true ∧ lN now - la < 200000 then (r, lo, hi, an, la) else (cl (lR r (lL loss)) lo hi, lo, hi, true, lN now)
structure LI (r lo hi la : Int) : Prop where
  lo1 : 1 ≤ lo
  r0 : lo ≤ r
  r1 : r ≤ hi
  hi1 : hi ≤ 17179869184
  la0 : 0 ≤ la
  la1 : la ≤ 1125899906842624
theorem part_span {r n : Int} (r0 : 0 ≤ r) (r1 : r ≤ 17179869184) (n0 : 0 ≤ n) (n1 : n ≤ 256) : 0 ≤ r * (512 - n) ∧ r * (512 - n) ≤ r * 512 :=
  ⟨Int.mul_nonneg r0 (by omega), Int.mul_le_mul_of_nonneg_left (by omega) r0⟩
theorem lrow_eq {r n : Int} (r0 : 0 ≤ r) (r1 : r ≤ 17179869184) (n0 : 0 ≤ n) (n1 : n ≤ 256) : lrow r n = some (lR r n) := by
  have p := part_span r0 r1 n0 n1
  unfold lrow lR
  rw [show wrap64 0 = 0 from w64 (by decide) (by decide), show wrap64 (105 - 0) = 105 from w64 (by decide) (by decide), show wrap64 (1 - 0) = 1 from w64 (by decide) (by decide), w64 (a := n) (by omega) (by omega), w64 (a := 512 - n) (by omega) (by omega)]
  by_cases h : n ≤ 5
  · rw [if_pos h, if_pos h, do_eq 3 (i64s (by omega) (by omega)) (i64s (by decide) (by decide)) (i64s (by decide) (by decide)), md_up (by decide) (i64s (by omega) (by omega))]
    simp only [Option.bind_some]
    rw [w64 (by omega) (by omega)]
  · rw [if_neg h, if_neg h]
    by_cases h2 : n ≤ 26
    · rw [if_pos h2, if_pos h2, do_eq 1 (i64s (by omega) (by omega)) (i64s (by decide) (by decide)) (i64s (by decide) (by decide)), md_down (by decide) (i64s (by omega) (by omega))]
      simp only [Option.bind_some]
      rw [w64 (by omega) (by omega)]
      congr 1
      omega
    · rw [if_neg h2, if_neg h2, do_eq 1 (i64s (by omega) (by omega)) (i64s (by omega) (by omega)) (i64s (by decide) (by decide)), md_down (by decide) (i64s (by omega) (by omega))]
      simp only [Option.bind_some]
      rw [w64 (by omega) (by omega)]
theorem up_eq {r lo hi : Int} (an : Bool) {la : Int} (u n : Int) (h : LI r lo hi la) :
    lossy_Lossy_Update.f r lo hi an la u n = some ((lU r lo hi an la u n).1, lU r lo hi an la u n) := by
  obtain ⟨h1, h2, h3, h4, h5, h6⟩ := h
  have N := lN_span n; have U := lL_span u
  unfold lossy_Lossy_Update.f lU
  simp only [clamp_cl, Option.bind_some]
  rw [show cl n 0 1125899906842624 = lN n from rfl, show cl u 0 256 = lL u from rfl, w64 (a := lN n - la) (by omega) (by omega), lrow_eq (by omega) (by omega) U.1 U.2]
  split <;> rfl
theorem loss_eq (u : Int) : mx 0 (mn u 256) = lL u := by unfold lL cl; rw [mx_eq, mn_eq]; repeat' split <;> omega
theorem rup_eq (k : Nat) {r lo hi : Int} (an : Bool) {la : Int} (u n : Int) (h : LI r lo hi la) :
    flywheelref20_Lossy_Update.f (k + 1) r lo hi an la u n = some ((lU r lo hi an la u n).1, lU r lo hi an la u n) := by
  obtain ⟨h1, h2, h3, h4, h5, h6⟩ := h
  have N := lN_span n; have U := lL_span u
  have p := part_span (r := r) (n := lL u) (by omega) (by omega) U.1 U.2
  have key : ∀ b : Bool, (b = true ↔ an = true ∧ lN n - la < 200000) → flywheelref20_Lossy_Update.j0 (k + 1) (lL u) (lN n) b r lo hi an la = some ((lU r lo hi an la u n).1, lU r lo hi an la u n) := by
    intro b hb
    unfold lU
    simp only [flywheelref20_Lossy_Update.j0]
    by_cases e : an = true ∧ lN n - la < 200000
    · rw [if_pos (hb.mpr e), if_pos e]
    · rw [if_neg (fun z => e (hb.mp z)), if_neg e]
      unfold lR
      by_cases c : lL u ≤ 5
      · rw [if_pos (by omega), if_pos c, rdo_eq 3 (i64s (by omega) (by omega)) (i64s (by decide) (by decide)) (i64s (by decide) (by decide)), md_up (by decide) (i64s (by omega) (by omega))]
        simp only [Option.bind_some, rclamp_cl]
        rw [w64 (by omega) (by omega)]
      · rw [if_neg (show ¬ lL u < 6 by omega), if_neg c]
        by_cases d : lL u ≤ 26
        · rw [if_neg (show ¬ lL u > 26 by omega), if_pos d]
          simp only [Option.bind_some, rclamp_cl]
        · rw [if_pos (show lL u > 26 by omega), if_neg d, w64 (a := 512 - lL u) (by omega) (by omega), rdo_eq 1 (i64s (by omega) (by omega)) (i64s (by omega) (by omega)) (i64s (by decide) (by decide)), md_down (by decide) (i64s (by omega) (by omega))]
          simp only [Option.bind_some, rclamp_cl]
  unfold flywheelref20_Lossy_Update.f
  simp only [rclamp_cl, Option.bind_some]
  rw [show cl n 0 1125899906842624 = lN n from rfl, loss_eq, w64 (a := lN n - la) (by omega) (by omega)]
  cases an with
  | true => rw [if_pos rfl]; exact key _ (by simp)
  | false => rw [if_neg (by decide)]; exact key _ (by simp)
theorem lU_LI {r lo hi : Int} (an : Bool) {la : Int} (u n : Int) (h : LI r lo hi la) :
    ∃ r' an' la', lU r lo hi an la u n = (r', lo, hi, an', la') ∧ LI r' lo hi la' ∧ (u < 6 → r ≤ r') ∧ (u > 26 → r' ≤ r) ∧
      ((an = true ∧ lN n - la < 200000 ∧ r' = r ∧ an' = an ∧ la' = la) ∨ (¬ (an = true ∧ lN n - la < 200000) ∧ an' = true ∧ la' = lN n)) := by
  obtain ⟨h1, h2, h3, h4, h5, h6⟩ := h
  have N := lN_span n; have U := lL_span u
  have p := part_span (r := r) (n := lL u) (by omega) (by omega) U.1 U.2
  have u5 : u < 6 → lL u ≤ 5 := by unfold lL cl; intro _; repeat' split <;> omega
  have u26 : u > 26 → ¬ lL u ≤ 26 := by unfold lL cl; intro _; repeat' split <;> omega
  unfold lU
  by_cases e : an = true ∧ lN n - la < 200000
  · rw [if_pos e]
    exact ⟨_, _, _, rfl, ⟨h1, h2, h3, h4, h5, h6⟩, fun _ => Int.le_refl _, fun _ => Int.le_refl _, .inl ⟨e.1, e.2, rfl, rfl, rfl⟩⟩
  · rw [if_neg e]
    have c := cl_span (lR r (lL u)) lo hi (by omega)
    refine ⟨_, _, _, rfl, ⟨h1, c.1, c.2, h4, N.1, N.2⟩, fun q => ?_, fun q => ?_, .inr ⟨e, rfl, rfl⟩⟩
    · have := u5 q
      unfold lR cl
      rw [if_pos this]
      repeat' split
      all_goals omega
    · have := u26 q
      unfold lR cl
      rw [if_neg (show ¬ lL u ≤ 5 by omega), if_neg this]
      repeat' split
      all_goals omega
end Go.Proofs.YtkfkbebpcmmnfaaDoor.P
end

section
namespace Go.Proofs.YtkfkbebpcmmnfaaDoor.Pure
open Go.RowKit Go.Proofs.YtkfkbebpcmmnfaaDoor.P Go.Proofs.YtkfkbebpcmmnfaaDoorW.PrintWords Go.Proofs.YtkfkbebpcmmnfaaDoorW.PrintLast Go.Proofs.YtkfkbebpcmmnfaaDoorW.PrintMore
set_option linter.unusedVariables false
set_option linter.unusedSimpArgs false
theorem wakes20 : flywheellaw20_wakes.f = some true := by kernel_rfl
theorem wk20 : ((flywheellaw20_wakes.f).bind fun t => some t) = some true := by rw [wakes20]; rfl
theorem wn20 (i : Nat) (h : i ≤ 300) : wrap64 ((i : Int) + 1) = ((i + 1 : Nat) : Int) := by rw [wrap64_id (isI64_mk (by omega) (by omega))]; omega
theorem new_two (a b c : Int) : (lossy_New.made.f a b c = some (a, b, c, false, 0, 0) ∧ flywheelref20_New.made.f a b c = some (a, b, c, false, 0, 0) ∧ LI a b c 0) ∨
    (lossy_New.made.f a b c = none ∧ flywheelref20_New.made.f a b c = none ∧ lossy_New.nil.f a b c = some 1 ∧ flywheelref20_New.nil.f a b c = some 1 ∧ flywheelref19_Rates.f a b c = some false) := by
  unfold lossy_New.made.f flywheelref20_New.made.f lossy_New.nil.f flywheelref20_New.nil.f flywheelref19_Rates.f
  by_cases h1 : b < 1
  · right; simp [h1, show ¬ 1 ≤ b by omega]
  · by_cases h2 : a < b
    · right; simp [h1, h2, show 1 ≤ b by omega, show ¬ b ≤ a by omega]
    · by_cases h3 : c < a
      · right; simp [h1, h2, h3, show 1 ≤ b by omega, show b ≤ a by omega, show ¬ a ≤ c by omega]
      · by_cases h4 : c > 17179869184
        · right; simp [h1, h2, h3, h4, show 1 ≤ b by omega, show b ≤ a by omega, show a ≤ c by omega, show ¬ c ≤ 17179869184 by omega]
        · left; refine ⟨by simp [h1, h2, h3, h4], by simp [show 1 ≤ b by omega, show b ≤ a by omega, show a ≤ c by omega, show c ≤ 17179869184 by omega], by omega, by omega, by omega, by omega, by decide, by decide⟩
theorem LossyPlays : flywheellaw20_LossyPlays.Pure := by
  intro a b c l _ _ _ hl hs hw
  have fin : ∀ (k i : Nat) (r lo hi : Int) (an : Bool) (la r2 lo2 hi2 : Int) (an2 : Bool) (la2 : Int), flywheellaw20_LossyPlays.j2 (k + 1) l i false r lo hi an la r2 lo2 hi2 an2 la2 = some true := by
    intro k i r lo hi an la r2 lo2 hi2 an2 la2
    simp only [flywheellaw20_LossyPlays.j2, Bool.false_eq_true, if_false]
    exact wk20
  have loop : ∀ (m i k : Nat) (r lo hi : Int) (an : Bool) (la : Int), i + m = 300 → 5 + 2 * m ≤ k → LI r lo hi la → flywheellaw20_LossyPlays.l0 k l i r lo hi an la r lo hi an la = some true := by
    intro m
    induction m with
    | zero =>
      intro i k r lo hi an la hi' hk h
      obtain ⟨k, rfl⟩ : ∃ j, k = j + 2 := ⟨k - 2, by omega⟩
      simp only [flywheellaw20_LossyPlays.l0]
      rw [if_neg (show ¬ (i : Int) < 300 by omega)]
      split <;> exact fin k i _ _ _ _ _ _ _ _ _ _
    | succ m ih =>
      intro i k r lo hi an la hi' hk h
      obtain ⟨k, rfl⟩ : ∃ j, k = j + 3 := ⟨k - 3, by omega⟩
      simp only [flywheellaw20_LossyPlays.l0]
      by_cases c : (i : Int) < (l.length : Int)
      · rw [if_pos c, if_pos (show (i : Int) < 300 by omega)]
        simp only [flywheellaw20_LossyPlays.j2, if_true]
        rw [if_pos (show (0 : Int) ≤ (i : Int) by omega), if_pos c, up_eq an _ _ h, rup_eq k an _ _ h]
        obtain ⟨r', an', la', e, h', _⟩ := lU_LI an (rd_T36 l (i : Int)).f0 (rd_T36 l (i : Int)).f1 h
        rw [e]
        simp only [Option.bind_some, if_true, lossy_Lossy_Rate.f, flywheelref20_Lossy_Rate.f]
        rw [wn20 i (by omega)]
        exact ih (i + 1) (k + 1) _ _ _ _ _ (by omega) (by omega) h'
      · rw [if_neg c]; exact fin (k + 1) i _ _ _ _ _ _ _ _ _ _
  refine ⟨700, ?_⟩
  unfold flywheellaw20_LossyPlays.f
  rcases new_two a b c with ⟨e1, e2, h⟩ | ⟨e1, e2, e3, e4, _⟩
  · rw [e1, e2]
    simp only [Option.isSome_some, if_true, Option.bind_some, flywheellaw20_LossyPlays.j0, Bool.false_eq_true, if_false]
    exact loop 300 0 699 _ _ _ _ _ (by decide) (by decide) h
  · rw [e1, e2, e3, e4]
    simp only [Option.isSome_none, Bool.false_eq_true, if_false, Option.bind_some, if_true, flywheellaw20_LossyPlays.j9, flywheellaw20_LossyPlays.l5002, flywheellaw20_LossyPlays.j11]
    repeat' split
    all_goals exact wk20
end Go.Proofs.YtkfkbebpcmmnfaaDoor.Pure
end

section

end

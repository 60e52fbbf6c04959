/- The five small askings of the muldiv statements' own 'wakes', and roots as numbers. -/
import Derived.Test.YtipdmihaidpnpaaPx7
import Derived.Test.YtipdmihaidpnpaaMd
import Derived.KernelRfl
namespace Go.Proofs.Ytipdmihaidpnpaa.P
open Go.RowKit Go.Proofs.YtipdmihaidpnpaaW.PrintWords Go.Proofs.YtipdmihaidpnpaaW.PrintMore
set_option linter.unusedVariables false
set_option linter.unusedSimpArgs false
set_option maxRecDepth 100000 in
theorem wakes02_40 : flywheellaw02_wakes.f 40 = some true := by kernel_rfl
theorem wakes02 (k : Nat) (h : 40 ≤ k) : flywheellaw02_wakes.f k = some true := at_rounds flywheellaw02_wakes.mono h wakes02_40
theorem fits_eq {a b c : Int} (how : Int) (ha : isI64 a) (hb : isI64 b) (hc : isI64 c) : muldiv_Fits.f a b c how = some (mdq a b c how).2 := by
  unfold muldiv_Fits.f muldiv_quotient_s.f
  rw [if_pos ⟨ha, hb, hc⟩]; rfl
/-- R is the root of a. -/
def isRoot (a R : Int) : Prop := 0 ≤ R ∧ R * R ≤ a ∧ a < (R + 1) * (R + 1)
theorem sq_le {x y : Int} (hx : 0 ≤ x) (h : x ≤ y) : x * x ≤ y * y := Int.mul_le_mul h h hx (by omega)
theorem root_one {a R S : Int} (h : isRoot a R) (k : isRoot a S) : R = S := by
  obtain ⟨h0, h1, h2⟩ := h
  obtain ⟨k0, k1, k2⟩ := k
  rcases Int.lt_trichotomy R S with c | c | c
  · have := sq_le (x := R + 1) (y := S) (by omega) (by omega); omega
  · exact c
  · have := sq_le (x := S + 1) (y := R) (by omega) (by omega); omega
theorem pw_half (j : Nat) : pw (j + 1) / 2 = pw j := by rw [pw_succ]; omega
theorem pw_le_31 (j : Nat) (h : j ≤ 31) : pw j ≤ 2147483648 := by
  unfold pw
  have h2 : (2 : Nat) ^ j ≤ 2 ^ 31 := Nat.pow_le_pow_right (by decide) h
  have e : ((2 : Int) ^ j) = ((2 ^ j : Nat) : Int) := by simp
  rw [e]; omega
/-- The program's loop: behind the bit 2^j. -/
theorem root_l0 (a : Int) (ha : 0 < a) (ha1 : a ≤ 9223372036854775807) (j : Nat) (hj : j ≤ 31) : ∀ r, 0 ≤ r → r ≤ 4294967296 - 2 * pw j → r * r ≤ a → a < (r + 2 * pw j) * (r + 2 * pw j) →
    ∃ R, muldiv_Root.l0 (j + 2) a r (pw j) = some R ∧ isRoot a R := by
  induction j with
  | zero =>
    intro r h0 h1 h2 h3
    have p0 : pw 0 = 1 := rfl
    rw [p0] at h1 h3 ⊢
    have w : wrap64 (r + 1) = r + 1 := by unfold wrap64; omega
    have td : wrap64 (Int.tdiv a (r + 1)) = a / (r + 1) := by
      rw [Int.tdiv_eq_ediv_of_nonneg (by omega)]
      have := Int.ediv_nonneg (show 0 ≤ a by omega) (show 0 ≤ r + 1 by omega)
      have := Int.ediv_le_self (r + 1) (show 0 ≤ a by omega)
      unfold wrap64; omega
    have iff := Int.le_ediv_iff_mul_le (a := r + 1) (b := a) (show 0 < r + 1 by omega)
    simp only [muldiv_Root.l0]
    rw [if_pos (by decide), w, if_neg (by omega), td]
    by_cases c : (r + 1) * (r + 1) ≤ a
    · rw [if_pos (iff.mpr c), if_neg (by decide)]
      exact ⟨_, rfl, by omega, c, by rw [show r + 1 + 1 = r + 2 * 1 by omega]; exact h3⟩
    · rw [if_neg (fun h => c (iff.mp h)), if_neg (by decide)]
      exact ⟨_, rfl, h0, h2, by omega⟩
  | succ j ih =>
    intro r h0 h1 h2 h3
    have IH := ih (by omega)
    have pp := pw_pos j
    have pl := pw_le_31 (j + 1) hj
    have ps := pw_succ j
    have w : wrap64 (r + pw (j + 1)) = r + pw (j + 1) := by unfold wrap64; omega
    have td : wrap64 (Int.tdiv a (r + pw (j + 1))) = a / (r + pw (j + 1)) := by
      rw [Int.tdiv_eq_ediv_of_nonneg (by omega)]
      have := Int.ediv_nonneg (show 0 ≤ a by omega) (show 0 ≤ r + pw (j + 1) by omega)
      have := Int.ediv_le_self (r + pw (j + 1)) (show 0 ≤ a by omega)
      unfold wrap64; omega
    have iff := Int.le_ediv_iff_mul_le (a := r + pw (j + 1)) (b := a) (show 0 < r + pw (j + 1) by omega)
    rw [muldiv_Root.l0]
    rw [if_pos (by omega), w, if_neg (by omega), td, pw_half]
    by_cases c : (r + pw (j + 1)) * (r + pw (j + 1)) ≤ a
    · rw [if_pos (iff.mpr c)]
      exact IH (r + pw (j + 1)) (by omega) (by omega) c (by rw [show r + pw (j + 1) + 2 * pw j = r + 2 * pw (j + 1) by omega]; exact h3)
    · rw [if_neg (fun h => c (iff.mp h))]
      exact IH r h0 (by omega) h2 (by rw [show r + 2 * pw j = r + pw (j + 1) by omega]; omega)
theorem root_ok (a : Int) (ha : isI64 a) : ∃ R, muldiv_Root.f 40 a = some R ∧ (a ≤ 0 → R = 0) ∧ (0 < a → isRoot a R) := by
  unfold isI64 at ha
  unfold muldiv_Root.f
  by_cases h : a ≤ 0
  · rw [if_pos h]; exact ⟨0, rfl, fun _ => rfl, fun h => by omega⟩
  · rw [if_neg h]
    have p31 : pw 31 = 2147483648 := rfl
    obtain ⟨R, hR, k⟩ := root_l0 a (by omega) (by omega) 31 (Nat.le_refl _) 0 (by omega) (by rw [p31]; decide) (by omega) (by rw [p31]; omega)
    rw [p31] at hR
    exact ⟨R, at_rounds (fun k => muldiv_Root.mono_l k a 0 2147483648) (show 31 + 2 ≤ 40 by omega) hR, fun h => by omega, fun _ => k⟩
theorem shl_one (j : Nat) (hj : j ≤ 31) : shl .i64 1 (IntKind.u64.wrap (j : Int)) = pw j := by
  have w : IntKind.u64.wrap (j : Int) = j := u64_id _ (by omega) (by omega)
  rw [w]
  unfold shl
  rw [Int.toNat_natCast, Nat.min_eq_left (by show j ≤ 64; omega), Int.one_mul]
  have := pw_le_31 j hj
  have := pw_pos j
  show IntKind.i64.wrap (pw j) = pw j
  rw [IntKind.wrap_i64]; omega
theorem rroot_l0 (a : Int) (ha : 0 ≤ a) (ha1 : a ≤ 9223372036854775807) (j : Nat) (hj : j ≤ 32) : ∀ r, 0 ≤ r → r ≤ 4294967296 - pw j → r * r ≤ a → a < (r + pw j) * (r + pw j) →
    ∃ R, flywheelref02_Root.l0 (j + 1) a r ((j : Int) - 1) = some R ∧ isRoot a R := by
  induction j with
  | zero =>
    intro r h0 h1 h2 h3
    have p0 : pw 0 = 1 := rfl
    rw [p0] at h3
    simp only [flywheelref02_Root.l0]
    rw [if_neg (by omega)]
    exact ⟨_, rfl, h0, h2, h3⟩
  | succ j ih =>
    intro r h0 h1 h2 h3
    have IH := ih (by omega)
    have pp := pw_pos j
    have pl := pw_le_31 j (by omega)
    have ps := pw_succ j
    rw [ps] at h1 h3
    have ej : ((j + 1 : Nat) : Int) - 1 = (j : Int) := by omega
    have wj : wrap64 ((j : Int) - 1) = (j : Int) - 1 := by unfold wrap64; omega
    have w : wrap64 (r + pw j) = r + pw j := by unfold wrap64; omega
    have u0 : 0 ≤ IntKind.u64.wrap (j : Int) := by rw [u64_mod]; omega
    rw [ej, flywheelref02_Root.l0, if_pos (by omega), if_pos u0, shl_one j (by omega), w, wj]
    by_cases c : r + pw j ≤ 3037000499
    · have sq := sq_le (x := r + pw j) (y := 3037000499) (by omega) c
      have sq0 := Int.mul_nonneg (show 0 ≤ r + pw j by omega) (show 0 ≤ r + pw j by omega)
      have w2 : wrap64 ((r + pw j) * (r + pw j)) = (r + pw j) * (r + pw j) := by generalize (r + pw j) * (r + pw j) = z at *; unfold wrap64; omega
      rw [if_pos c, w2]
      by_cases d : (r + pw j) * (r + pw j) ≤ a
      · rw [if_pos d]
        exact IH (r + pw j) (by omega) (by omega) d (by rw [show r + pw j + pw j = r + 2 * pw j by omega]; exact h3)
      · rw [if_neg d]
        exact IH r h0 (by omega) h2 (by omega)
    · have sq := sq_le (x := 3037000500) (y := r + pw j) (by omega) (by omega)
      rw [if_neg c]
      exact IH r h0 (by omega) h2 (by omega)
theorem rroot_ok (a : Int) (h0 : 0 ≤ a) (h1 : a ≤ 9223372036854775807) : ∃ R, flywheelref02_Root.f 40 a = some R ∧ isRoot a R := by
  unfold flywheelref02_Root.f
  rw [if_neg (by omega)]
  have p32 : pw 32 = 4294967296 := rfl
  obtain ⟨R, hR, k⟩ := rroot_l0 a h0 h1 32 (Nat.le_refl _) 0 (by omega) (by rw [p32]; decide) (by omega) (by rw [p32]; omega)
  exact ⟨R, at_rounds (fun k => flywheelref02_Root.mono_l k a 0 31) (show 32 + 1 ≤ 40 by omega) hR, k⟩
end Go.Proofs.Ytipdmihaidpnpaa.P

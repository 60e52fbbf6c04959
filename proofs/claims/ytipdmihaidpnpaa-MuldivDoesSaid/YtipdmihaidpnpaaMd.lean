/- A product that is divided, rounded and held: its laws as numbers, and that the program's and the reference's functions answer so. -/
import Derived.Test.YtipdmihaidpnpaaPx4
import Derived.WalkArith
namespace Go.Proofs.Ytipdmihaidpnpaa.P
open Go.RowKit
set_option linter.unusedVariables false
set_option linter.unusedSimpArgs false
def md (a b c how : Int) : Int := (mdq a b c how).1
theorem isI64_of_wf {a : Int} (h : (Lit.int .i64 a).wf = true) : isI64 a := by
  simp only [Lit.wf, IntKind.min, IntKind.max, IntKind.signed, IntKind.bits, Bool.and_eq_true, decide_eq_true_eq] at h
  unfold isI64; simp at h; omega
theorem i32_of_wf {a : Int} (h : (Lit.int .i32 a).wf = true) : -2147483648 ≤ a ∧ a ≤ 2147483647 := by
  simp only [Lit.wf, IntKind.min, IntKind.max, IntKind.signed, IntKind.bits, Bool.and_eq_true, decide_eq_true_eq] at h
  simp at h; omega
theorem u32_of_wf {a : Int} (h : (Lit.int .u32 a).wf = true) : 0 ≤ a ∧ a ≤ 4294967295 := by
  simp only [Lit.wf, IntKind.min, IntKind.max, IntKind.signed, IntKind.bits, Bool.and_eq_true, decide_eq_true_eq] at h
  simp at h; omega
theorem u16_of_wf {a : Int} (h : (Lit.int .u16 a).wf = true) : 0 ≤ a ∧ a ≤ 65535 := by
  simp only [Lit.wf, IntKind.min, IntKind.max, IntKind.signed, IntKind.bits, Bool.and_eq_true, decide_eq_true_eq] at h
  simp at h; omega
theorem u8_of_wf {a : Int} (h : (Lit.int .u8 a).wf = true) : 0 ≤ a ∧ a ≤ 255 := by
  simp only [Lit.wf, IntKind.min, IntKind.max, IntKind.signed, IntKind.bits, Bool.and_eq_true, decide_eq_true_eq] at h
  simp at h; omega
theorem wrap64_id {a : Int} (h : isI64 a) : wrap64 a = a := by unfold isI64 at h; unfold wrap64; omega
theorem isI64_mk {a : Int} (h : -9223372036854775808 ≤ a) (h' : a ≤ 9223372036854775807) : isI64 a := ⟨h, h'⟩
theorem hold64_i64 (q : Int) : isI64 (hold64 q).1 := by
  unfold hold64 isI64
  split
  · exact ⟨by decide, by decide⟩
  · split
    · exact ⟨by decide, by decide⟩
    · exact ⟨by simp; omega, by simp; omega⟩
theorem md_i64 (a b c how : Int) : isI64 (md a b c how) := by
  unfold md mdq
  split
  · exact ⟨by decide, by decide⟩
  · split <;> exact hold64_i64 _
theorem hold64_id (q : Int) (h : isI64 q) : hold64 q = (q, true) := by
  unfold isI64 at h; unfold hold64
  rw [if_neg (by omega), if_neg (by omega)]
theorem hold64_mono {p q : Int} (h : p ≤ q) : (hold64 p).1 ≤ (hold64 q).1 := by
  unfold hold64
  repeat' split
  all_goals (simp only []; omega)
theorem do_eq {a b c : Int} (how : Int) (ha : isI64 a) (hb : isI64 b) (hc : isI64 c) : muldiv_Do.f a b c how = some (md a b c how) := by
  unfold muldiv_Do.f muldiv_quotient_s.f
  rw [if_pos ⟨ha, hb, hc⟩]; rfl
theorem md_comm (a b c how : Int) : md a b c how = md b a c how := by unfold md mdq; rw [Int.mul_comm]
/-- Above a divisor above 0. -/
theorem md_pos {a b c how : Int} (hc : 0 < c) (h1 : 1 ≤ how) (h3 : how ≤ 3) : md a b c how = (hold64 (rnd (a * b) c how)).1 := by
  unfold md mdq
  rw [if_neg (by omega), if_neg (by omega)]
theorem md_neg {a b c how : Int} (hc : c < 0) (h1 : 1 ≤ how) (h3 : how ≤ 3) : md a b c how = (hold64 (rnd (-(a * b)) (-c) how)).1 := by
  unfold md mdq
  rw [if_neg (by omega), if_pos hc]
theorem md_zero (a b how : Int) : md a b 0 how = 0 := by unfold md mdq; rw [if_pos (Or.inl rfl)]
theorem rnd_down (n d : Int) : rnd n d 1 = n / d := by unfold rnd; rw [if_pos rfl]
theorem rnd_up (n d : Int) : rnd n d 3 = -((-n) / d) := by unfold rnd; rw [if_neg (by decide), if_pos rfl]
theorem rnd_near (n d : Int) : rnd n d 2 = (2 * n + d) / (2 * d) := by unfold rnd; rw [if_neg (by decide), if_neg (by decide)]
theorem md_down {a b c : Int} (hc : 0 < c) (h : isI64 (a * b / c)) : md a b c 1 = a * b / c := by
  rw [md_pos hc (by decide) (by decide), rnd_down, hold64_id _ h]
theorem md_up {a b c : Int} (hc : 0 < c) (h : isI64 (-((-(a * b)) / c))) : md a b c 3 = -((-(a * b)) / c) := by
  rw [md_pos hc (by decide) (by decide), rnd_up, hold64_id _ h]
/-- A quotient without a rest. -/
theorem rnd_whole (q d how : Int) (hd : 0 < d) (h1 : 1 ≤ how) (h3 : how ≤ 3) : rnd (q * d) d how = q := by
  unfold rnd
  split
  · exact Int.mul_ediv_cancel _ (by omega)
  · split
    · rw [← Int.neg_mul, Int.mul_ediv_cancel _ (by omega), Int.neg_neg]
    · have e : 2 * (q * d) + d = d + q * (2 * d) := by rw [Int.mul_left_comm]; omega
      rw [e, Int.add_mul_ediv_right _ _ (by omega), Int.ediv_eq_zero_of_lt (by omega) (by omega)]; omega
theorem rnd_le (n d : Int) (hd : 0 < d) : n / d ≤ rnd n d 2 ∧ rnd n d 2 ≤ rnd n d 3 ∧ (rnd n d 3 = n / d ∨ rnd n d 3 = n / d + 1) := by
  have p2 := rnd_pos n d 2 hd
  have p3 := rnd_pos n d 3 hd
  rw [if_neg (by decide), if_neg (by decide)] at p2
  rw [if_neg (by decide), if_pos rfl] at p3
  have r0 := Int.emod_nonneg n (show d ≠ 0 by omega)
  rw [p2, p3]
  refine ⟨by split <;> omega, ?_, by split <;> omega⟩
  split <;> split <;> omega
end Go.Proofs.Ytipdmihaidpnpaa.P

-- PUT TOGETHER by a program of this session: of the claim's texts, what is used
import Derived.Test.YtmcfgaokimlngaaKTrendLines8
import Derived.Test.YtmcfgaokimlngaaKTrendLines9
import Derived.Test.YtmcfgaokimlngaaKTrendLines10
import Derived.Test.YtmcfgaokimlngaaKTrendLines11
import Derived.Test.YtmcfgaokimlngaaKTrendLines12
import Derived.WalkArith
import Derived.KernelRfl
section
namespace Go.Proofs.Ytmcfgaokimlngaa.P
open Go.RowKit
set_option linter.unusedVariables false
set_option linter.unusedSimpArgs false
def md (a b c how : Int) : Int := (mdq a b c how).1
theorem isI64_of_wf {a : Int} (h : (Lit.int .i64 a).wf = true) : isI64 a := by
  simp only [Lit.wf, IntKind.min, IntKind.max, IntKind.signed, IntKind.bits, Bool.and_eq_true, decide_eq_true_eq] at h
  unfold isI64; simp at h; omega
theorem wrap64_id {a : Int} (h : isI64 a) : wrap64 a = a := by unfold isI64 at h; unfold wrap64; omega
theorem isI64_mk {a : Int} (h : -9223372036854775808 ≤ a) (h' : a ≤ 9223372036854775807) : isI64 a := ⟨h, h'⟩
theorem hold64_i64 (q : Int) : isI64 (hold64 q).1 := by
  unfold hold64 isI64
  split
  · exact ⟨by decide, by decide⟩
  · split
    · exact ⟨by decide, by decide⟩
    · exact ⟨by simp; omega, by simp; omega⟩
theorem hold64_id (q : Int) (h : isI64 q) : hold64 q = (q, true) := by
  unfold isI64 at h; unfold hold64
  rw [if_neg (by omega), if_neg (by omega)]
theorem do_eq {a b c : Int} (how : Int) (ha : isI64 a) (hb : isI64 b) (hc : isI64 c) : muldiv_Do.f a b c how = some (md a b c how) := by
  unfold muldiv_Do.f muldiv_quotient_s.f
  rw [if_pos ⟨ha, hb, hc⟩]; rfl
theorem md_zero (a b how : Int) : md a b 0 how = 0 := by unfold md mdq; rw [if_pos (Or.inl rfl)]
end Go.Proofs.Ytmcfgaokimlngaa.P
end

section
namespace Go.Proofs.Ytmcfgaokimlngaa.P
open Go.RowKit
set_option linter.unusedVariables false
set_option linter.unusedSimpArgs false
def hd (x : Int) : Int := (hold64 x).1
theorem hd_eq (x : Int) : hd x = if x < -9223372036854775808 then -9223372036854775808 else if x > 9223372036854775807 then 9223372036854775807 else x := by
  unfold hd hold64
  split
  · rfl
  · split <;> rfl
theorem hd_id {x : Int} (h : isI64 x) : hd x = x := by unfold hd; rw [hold64_id _ h]
theorem hd_i64 (x : Int) : isI64 (hd x) := hold64_i64 x
def ab (a : Int) : Int := if a < 0 then -a else a
end Go.Proofs.Ytmcfgaokimlngaa.P
end

section
namespace Go.Proofs.Ytmcfgaokimlngaa.P
open Go.RowKit
set_option linter.unusedVariables false
set_option linter.unusedSimpArgs false
theorem rsub_eq {a b : Int} (k : Nat) (hk : 1 ≤ k) (ha : isI64 a) (hb : isI64 b) : flywheelref01_Sub.f k a b = some (hd (a - b)) := by
  obtain ⟨k, rfl⟩ : ∃ j, k = j + 1 := ⟨k - 1, by omega⟩
  unfold isI64 at ha hb
  unfold flywheelref01_Sub.f
  simp only [flywheelref01_Sub.j0]
  rw [hd_eq]
  by_cases h1 : b < 0
  · rw [if_pos h1, wrap64_id (a := 9223372036854775807 + b) (by unfold isI64; omega)]
    by_cases h2 : a > 9223372036854775807 + b
    · simp only [h2, decide_true, if_true]
      rw [if_neg (by omega), if_pos (by omega)]
    · simp only [h2, decide_false, Bool.false_eq_true, if_false]
      rw [if_neg (by omega), if_neg (by omega), if_neg (by omega), wrap64_id (by unfold isI64; omega)]
  · rw [if_neg h1]
    simp only [Bool.false_eq_true, if_false]
    by_cases h2 : b > 0
    · rw [if_pos h2, wrap64_id (a := -9223372036854775808 + b) (by unfold isI64; omega)]
      by_cases h3 : a < -9223372036854775808 + b
      · rw [if_pos h3, if_pos (by omega)]
      · rw [if_neg h3, if_neg (by omega), if_neg (by omega), wrap64_id (by unfold isI64; omega)]
    · rw [if_neg h2, if_neg (by omega), if_neg (by omega), wrap64_id (by unfold isI64; omega)]
theorem rneg_eq {a : Int} (k : Nat) (hk : 1 ≤ k) (ha : isI64 a) : flywheelref01_Neg.f k a = some (hd (-a)) := by
  unfold flywheelref01_Neg.f
  rw [rsub_eq k hk (isI64_mk (by decide) (by decide)) ha]
  simp
theorem rabs_eq {a : Int} (k : Nat) (hk : 1 ≤ k) (ha : isI64 a) : flywheelref01_Abs.f k a = some (hd (ab a)) := by
  unfold flywheelref01_Abs.f ab
  by_cases h : a < 0
  · rw [if_pos h, if_pos h, rneg_eq k hk ha]; rfl
  · rw [if_neg h, if_neg h, hd_id ha]
theorem mag_over {x y : Int} (hx : 0 ≤ x) (hy : 0 < y) : x > 9223372036854775807 / y ↔ x * y > 9223372036854775807 := by
  constructor
  · intro h
    have := (Int.ediv_lt_iff_lt_mul hy).mp h
    omega
  · intro h
    exact (Int.ediv_lt_iff_lt_mul hy).mpr h
theorem rmul_eq {a b : Int} (k : Nat) (hk : 6 ≤ k) (ha : isI64 a) (hb : isI64 b) : flywheelref01_Mul.f k a b = some (hd (a * b)) := by
  obtain ⟨k, rfl⟩ : ∃ j, k = j + 4 := ⟨k - 4, by omega⟩
  have ha' := ha; have hb' := hb
  unfold isI64 at ha' hb'
  unfold flywheelref01_Mul.f
  by_cases a0 : a = 0
  · rw [if_pos a0]; subst a0
    simp only [flywheelref01_Mul.j0, if_true, Int.zero_mul]; rfl
  rw [if_neg a0]
  by_cases b0 : b = 0
  · subst b0
    simp [flywheelref01_Mul.j0]; rfl
  have e0 : (b == 0) = false := beq_eq_false_iff_ne.mpr b0
  rw [e0]
  simp only [flywheelref01_Mul.j0, Bool.false_eq_true, if_false]
  by_cases a1 : a = 1
  · rw [if_pos a1, a1, Int.one_mul, hd_id hb]
  rw [if_neg a1]
  by_cases b1 : b = 1
  · rw [if_pos b1, b1, Int.mul_one, hd_id ha]
  rw [if_neg b1]
  have rest : ∀ s : Bool, (s = true ↔ 0 < a * b) → flywheelref01_Mul.j1 (k + 3) a b s = some (hd (a * b)) := by
    intro s hs
    have hne : a * b ≠ 0 := Int.mul_ne_zero a0 b0
    have hs' : s = false → a * b < 0 := by
      intro h; rcases Int.lt_trichotomy (a * b) 0 with h1 | h1 | h1
      · exact h1
      · exact absurd h1 hne
      · rw [hs.mpr h1] at h; cases h
    have edge : (a = -9223372036854775808 ∨ b = -9223372036854775808) → flywheelref01_Mul.j2 (k + 2) a b s true = some (hd (a * b)) := by
      intro h
      have big : a * b ≤ -9223372036854775808 ∨ 9223372036854775807 < a * b := by
        rcases h with h | h
        · rw [h]
          rcases Int.lt_trichotomy b 0 with h1 | h1 | h1
          · right; omega
          · exact absurd h1 b0
          · left; omega
        · rw [h]
          rcases Int.lt_trichotomy a 0 with h1 | h1 | h1
          · right; omega
          · exact absurd h1 a0
          · left; omega
      simp only [flywheelref01_Mul.j2, if_true]
      rw [hd_eq]
      cases s
      · have := hs' rfl
        simp only [Bool.false_eq_true, if_false]
        by_cases h2 : a * b < -9223372036854775808
        · rw [if_pos h2]
        · rw [if_neg h2, if_neg (by omega)]; congr 1; omega
      · have := hs.mp rfl
        simp only [if_true]
        rw [if_neg (by omega), if_pos (by omega)]
    simp only [flywheelref01_Mul.j1]
    by_cases am : a = -9223372036854775808
    · rw [if_pos am]; exact edge (.inl am)
    rw [if_neg am]
    by_cases bm : b = -9223372036854775808
    · have e1 : (b == -9223372036854775808) = true := beq_iff_eq.mpr bm
      rw [e1]; exact edge (.inr bm)
    have e1 : (b == -9223372036854775808) = false := beq_eq_false_iff_ne.mpr bm
    rw [e1]
    simp only [flywheelref01_Mul.j2, Bool.false_eq_true, if_false]
    rw [rabs_eq _ (by omega) ha, rabs_eq _ (by omega) hb]
    simp only [Option.bind_some]
    have xa : hd (ab a) = ab a := hd_id (by unfold isI64 ab; split <;> omega)
    have xb : hd (ab b) = ab b := hd_id (by unfold isI64 ab; split <;> omega)
    rw [xa, xb]
    have pa : 0 < ab a := by unfold ab; split <;> omega
    have pb : 0 < ab b := by unfold ab; split <;> omega
    have q : Int.tdiv 9223372036854775807 (ab b) = 9223372036854775807 / ab b := Int.tdiv_eq_ediv_of_nonneg (by decide)
    have q1 : 9223372036854775807 / ab b ≤ 9223372036854775807 := Int.ediv_le_self _ (by decide)
    have q0 : 0 ≤ 9223372036854775807 / ab b := Int.ediv_nonneg (by decide) (by omega)
    have tz : ¬ ab b = 0 := by omega
    rw [q, wrap64_id (a := 9223372036854775807 / ab b) (by unfold isI64; omega)]
    have ov := mag_over (x := ab a) (y := ab b) (by omega) pb
    have mm : ab a * ab b = if 0 < a * b then a * b else -(a * b) := by
      unfold ab
      by_cases h1 : a < 0 <;> by_cases h2 : b < 0
      · rw [if_pos h1, if_pos h2, Int.neg_mul_neg, if_pos (Int.mul_pos_of_neg_of_neg h1 h2)]
      · rw [if_pos h1, if_neg h2, if_neg (by have := Int.mul_neg_of_neg_of_pos h1 (show 0 < b by omega); omega), Int.neg_mul]
      · rw [if_neg h1, if_pos h2, if_neg (by have := Int.mul_neg_of_pos_of_neg (show 0 < a by omega) h2; omega), Int.mul_neg]
      · rw [if_neg h1, if_neg h2, if_pos (Int.mul_pos (by omega) (by omega))]
    rw [hd_eq]
    cases s
    · have hn := hs' rfl
      rw [if_neg (by omega)] at mm
      simp only [Bool.false_eq_true, if_false]
      rw [if_neg tz]
      by_cases h2 : ab a > 9223372036854775807 / ab b
      · rw [if_pos h2]
        have := ov.mp h2
        by_cases h3 : a * b < -9223372036854775808
        · rw [if_pos h3]
        · rw [if_neg h3, if_neg (by omega)]; congr 1; omega
      · rw [if_neg h2]
        have : ¬ (ab a * ab b > 9223372036854775807) := fun h => h2 (ov.mpr h)
        rw [wrap64_id (by unfold isI64; omega), if_neg (by omega), if_neg (by omega)]
    · have hp := hs.mp rfl
      rw [if_pos hp] at mm
      simp only [if_true]
      rw [if_neg tz]
      by_cases h2 : ab a > 9223372036854775807 / ab b
      · rw [if_pos h2]
        have := ov.mp h2
        rw [if_neg (by omega), if_pos (by omega)]
      · rw [if_neg h2]
        have : ¬ (ab a * ab b > 9223372036854775807) := fun h => h2 (ov.mpr h)
        rw [wrap64_id (by unfold isI64; omega), if_neg (by omega), if_neg (by omega)]
  by_cases ap : a > 0
  · rw [if_pos ap]
    by_cases bp : b > 0
    · rw [if_pos bp]; exact rest true ⟨fun _ => Int.mul_pos ap bp, fun _ => rfl⟩
    · rw [if_neg bp]; exact rest false ⟨fun h => (by cases h), fun h => by have := Int.mul_neg_of_pos_of_neg ap (show b < 0 by omega); omega⟩
  · rw [if_neg ap]
    by_cases bp : b > 0
    · rw [if_pos bp]; exact rest false ⟨fun h => (by cases h), fun h => by have := Int.mul_neg_of_neg_of_pos (show a < 0 by omega) bp; omega⟩
    · rw [if_neg bp]; exact rest true ⟨fun _ => Int.mul_pos_of_neg_of_neg (by omega) (by omega), fun _ => rfl⟩
end Go.Proofs.Ytmcfgaokimlngaa.P
end

section
namespace Go.Proofs.Ytmcfgaokimlngaa.P
open Go.RowKit Go.Proofs.YtmcfgaokimlngaaW.PrintWords Go.Proofs.YtmcfgaokimlngaaW.PrintLast Go.Proofs.YtmcfgaokimlngaaW.PrintMore
set_option linter.unusedVariables false
set_option linter.unusedSimpArgs false
theorem held_eq {hi lo v : Int} (h0 : 0 ≤ hi) (h1 : hi < 18446744073709551616) (l0 : 0 ≤ lo) (l1 : lo < 18446744073709551616)
    (hv : v = (if hi < 9223372036854775808 then hi else hi - 18446744073709551616) * 18446744073709551616 + lo) : sat_held.f hi lo = some (hd v) := by
  unfold sat_held.f
  rw [hd_eq, u64_mod]
  have w1 : wrap64 lo = if lo < 9223372036854775808 then lo else lo - 18446744073709551616 := by unfold wrap64; omega
  have w2 : wrap64 hi = if hi < 9223372036854775808 then hi else hi - 18446744073709551616 := by unfold wrap64; omega
  rw [w1, w2]
  generalize hl : (if lo < 9223372036854775808 then lo else lo - 18446744073709551616) = L
  generalize hh : (if hi < 9223372036854775808 then hi else hi - 18446744073709551616) = H at hv
  have L1 : L = lo ∧ lo < 9223372036854775808 ∨ L = lo - 18446744073709551616 ∧ 9223372036854775808 ≤ lo := by
    rw [← hl]; split <;> omega
  have H1 : H = hi ∧ hi < 9223372036854775808 ∨ H = hi - 18446744073709551616 ∧ 9223372036854775808 ≤ hi := by
    rw [← hh]; split <;> omega
  clear hl hh w1 w2
  by_cases c : L / 9223372036854775808 % 18446744073709551616 = hi
  · rw [if_pos c, if_neg (by omega), if_neg (by omega)]; congr 1; omega
  · rw [if_neg c]
    by_cases s : H < 0
    · rw [if_pos s, if_pos (by omega)]
    · rw [if_neg s, if_neg (by omega), if_pos (by omega)]
theorem and_none (y : Int) : Go.bits .and .u64 0 y = 0 := by
  unfold Go.bits
  rw [u64_mod]
  show ((0#64 &&& BitVec.ofInt 64 y).toNat : Int) % 18446744073709551616 = 0
  rw [BitVec.zero_and]; rfl
theorem and_every (y : Int) (h0 : 0 ≤ y) (h1 : y < 18446744073709551616) : Go.bits .and .u64 18446744073709551615 y = y := by
  unfold Go.bits
  rw [u64_mod]
  show ((BitVec.allOnes 64 &&& BitVec.ofInt 64 y).toNat : Int) % 18446744073709551616 = y
  rw [BitVec.allOnes_and, BitVec.toNat_ofInt]
  show ((y % 18446744073709551616).toNat : Int) % 18446744073709551616 = y
  omega
theorem sign_and {a y : Int} (ha : isI64 a) (h0 : 0 ≤ y) (h1 : y < 18446744073709551616) :
    Go.bits .and .u64 (IntKind.u64.wrap (a / 9223372036854775808)) y = if a < 0 then y else 0 := by
  unfold isI64 at ha
  rw [u64_mod]
  by_cases h : a < 0
  · rw [if_pos h, show a / 9223372036854775808 % 18446744073709551616 = 18446744073709551615 by omega, and_every y h0 h1]
  · rw [if_neg h, show a / 9223372036854775808 % 18446744073709551616 = 0 by omega, and_none]
theorem prod_span {a b : Int} (ha : isI64 a) (hb : isI64 b) : -85070591730234615865843651857942052864 ≤ a * b ∧ a * b ≤ 85070591730234615865843651857942052864 := by
  unfold isI64 at ha hb
  by_cases h1 : a < 0 <;> by_cases h2 : b < 0
  · have := abs_mul_le (a := -a) (b := -b) (by omega) (by omega) (by omega) (by omega)
    rw [Int.neg_mul_neg] at this
    have := Int.mul_nonneg_of_nonpos_of_nonpos (show a ≤ 0 by omega) (show b ≤ 0 by omega); omega
  · have := abs_mul_le (a := -a) (b := b) (by omega) (by omega) (by omega) (by omega)
    rw [Int.neg_mul] at this
    have := Int.mul_nonpos_of_nonpos_of_nonneg (show a ≤ 0 by omega) (show 0 ≤ b by omega); omega
  · have := abs_mul_le (a := a) (b := -b) (by omega) (by omega) (by omega) (by omega)
    rw [Int.mul_neg] at this
    have := Int.mul_nonpos_of_nonneg_of_nonpos (show 0 ≤ a by omega) (show b ≤ 0 by omega); omega
  · have := abs_mul_le (a := a) (b := b) (by omega) (by omega) (by omega) (by omega)
    have := Int.mul_nonneg (show 0 ≤ a by omega) (show 0 ≤ b by omega); omega
theorem mul_eq {a b : Int} (ha : isI64 a) (hb : isI64 b) : sat_Mul.f a b = some (hd (a * b)) := by
  have sp := prod_span ha hb
  have ha' := ha; have hb' := hb
  unfold isI64 at ha' hb'
  unfold sat_Mul.f
  have ua : IntKind.u64.wrap a = if a < 0 then a + 18446744073709551616 else a := by rw [u64_mod]; split <;> omega
  have ub : IntKind.u64.wrap b = if b < 0 then b + 18446744073709551616 else b := by rw [u64_mod]; split <;> omega
  have a0 : 0 ≤ IntKind.u64.wrap a ∧ IntKind.u64.wrap a < 18446744073709551616 := by rw [u64_mod]; omega
  have b0 : 0 ≤ IntKind.u64.wrap b ∧ IntKind.u64.wrap b < 18446744073709551616 := by rw [u64_mod]; omega
  rw [sign_and ha b0.1 b0.2, sign_and hb a0.1 a0.2, mul64_ok _ _ a0.1 a0.2 b0.1 b0.2]
  simp only [Option.bind_some]
  have key : ∀ N C q : Int, N = q + C * 18446744073709551616 ∨ N = q + C * 18446744073709551616 - 340282366920938463463374607431768211456 → -85070591730234615865843651857942052864 ≤ q → q ≤ 85070591730234615865843651857942052864 →
      sat_held.f (IntKind.u64.wrap (N / 18446744073709551616 - IntKind.u64.wrap C)) (N % 18446744073709551616) = some (hd q) := by
    intro N C q hN q0 q1
    rw [u64_mod, u64_mod]
    refine held_eq (by omega) (by omega) (by omega) (by omega) ?_
    split <;> omega
  have fin : ∀ x : Option Int, x = some (hd (a * b)) → (x.bind fun t => some t) = some (hd (a * b)) := by intro x h; rw [h]; rfl
  refine fin _ (key _ _ _ ?_ sp.1 sp.2)
  rw [ua, ub]
  by_cases h1 : a < 0 <;> by_cases h2 : b < 0
  · simp only [h1, h2, if_true]
    right
    rw [Int.add_mul, Int.mul_add, Int.mul_add]; omega
  · simp only [h1, h2, if_true, if_false]
    left
    rw [Int.add_mul]; omega
  · simp only [h1, h2, if_true, if_false]
    left
    rw [Int.mul_add]; omega
  · simp only [h1, h2, if_false]
    left; omega
theorem neg_eq {a : Int} (ha : isI64 a) : sat_Neg.f a = some (hd (-a)) := by
  unfold isI64 at ha
  unfold sat_Neg.f sat_negative.f
  have ua : IntKind.u64.wrap a = if a < 0 then a + 18446744073709551616 else a := by rw [u64_mod]; split <;> omega
  have us : IntKind.u64.wrap (a / 9223372036854775808) = if a < 0 then 18446744073709551615 else 0 := by rw [u64_mod]; split <;> omega
  have c0 : sub64c 0 (IntKind.u64.wrap a) 0 = if a = 0 then 0 else 1 := by
    rw [ua]; unfold sub64c; split <;> split <;> split <;> omega
  have s0 : sub64s 0 (IntKind.u64.wrap a) 0 = (-a) % 18446744073709551616 := by
    rw [ua]; unfold sub64s; split <;> omega
  rw [c0, s0, us]
  rw [if_pos (by split <;> omega)]
  simp only [Option.bind_some]
  have s1 : sub64s 0 (if a < 0 then 18446744073709551615 else 0) (if a = 0 then 0 else 1) = if 0 < a then 18446744073709551615 else 0 := by
    unfold sub64s; split <;> split <;> split <;> omega
  rw [s1, held_eq (v := -a) (by split <;> omega) (by split <;> omega) (by omega) (by omega) (by split <;> split <;> omega)]
  rfl
theorem abs_eq {a : Int} (ha : isI64 a) : sat_Abs.f a = some (hd (ab a)) := by
  unfold sat_Abs.f
  rw [neg_eq ha]
  have ha' := ha
  unfold isI64 at ha'
  simp only [Option.bind_some, Option.some.injEq, hd_eq]
  unfold mx ab
  repeat' split
  all_goals omega
theorem add64_two {hi lo a : Int} (h0 : 0 ≤ hi) (h1 : hi < 18446744073709551616) (l0 : 0 ≤ lo) (l1 : lo < 18446744073709551616) (ha : isI64 a) :
    add64c lo (IntKind.u64.wrap a) 0 ≤ 1 ∧ add64s lo (IntKind.u64.wrap a) 0 = (lo + a) % 18446744073709551616 ∧
    add64s hi (IntKind.u64.wrap (a / 9223372036854775808)) (add64c lo (IntKind.u64.wrap a) 0) = (hi + (lo + a) / 18446744073709551616) % 18446744073709551616 := by
  unfold isI64 at ha
  have ua : IntKind.u64.wrap a = if a < 0 then a + 18446744073709551616 else a := by rw [u64_mod]; split <;> omega
  have us : IntKind.u64.wrap (a / 9223372036854775808) = if a < 0 then 18446744073709551615 else 0 := by rw [u64_mod]; split <;> omega
  rw [ua, us]
  unfold add64c add64s
  refine ⟨?_, ?_, ?_⟩ <;> (by_cases h : a < 0 <;> simp only [h, if_true, if_false] <;> omega)
end Go.Proofs.Ytmcfgaokimlngaa.P
end

section
namespace Go.Proofs.Ytmcfgaokimlngaa.P
open Go.RowKit Go.Proofs.YtmcfgaokimlngaaW.PrintWords Go.Proofs.YtmcfgaokimlngaaW.PrintLast Go.Proofs.YtmcfgaokimlngaaW.PrintMore
set_option linter.unusedVariables false
set_option linter.unusedSimpArgs false
def sm : List Int → Int
  | [] => 0
  | x :: l => x + sm l
theorem sm_append (l m : List Int) : sm (l ++ m) = sm l + sm m := by
  induction l with
  | nil => simp [sm]
  | cons x l ih => simp only [List.cons_append, sm, ih]; omega
theorem drop_rd {l : List Int} {i : Nat} (h : i < l.length) : l.drop i = rd l (i : Int) :: l.drop (i + 1) := by
  rw [List.drop_eq_getElem_cons h]
  congr 1
  unfold rd
  simp [h]
theorem take_rd {l : List Int} {i : Nat} (h : i < l.length) : l.take (i + 1) = l.take i ++ [rd l (i : Int)] := by
  rw [List.take_succ_eq_append_getElem h]
  congr 2
  unfold rd
  simp [h]
theorem rd_mem {l : List Int} {i : Nat} (h : i < l.length) : rd l (i : Int) ∈ l := by
  unfold rd
  simp [h]
theorem wn64 (i : Nat) (h : i ≤ 4611686018427387904) : wrap64 ((i : Int) + 1) = ((i + 1 : Nat) : Int) := by rw [wrap64_id (isI64_mk (by omega) (by omega))]; omega
theorem sm_span {l : List Int} {B : Int} (h : ∀ x ∈ l, -B ≤ x ∧ x ≤ B) : -((l.length : Int) * B) ≤ sm l ∧ sm l ≤ (l.length : Int) * B := by
  induction l with
  | nil => simp [sm]
  | cons x l ih =>
    have := ih (fun y hy => h y (List.mem_cons_of_mem _ hy))
    have hx := h x List.mem_cons_self
    simp only [sm, List.length_cons]
    rw [show ((l.length + 1 : Nat) : Int) * B = (l.length : Int) * B + B by rw [Int.natCast_add]; rw [Int.add_mul]; simp]
    omega
theorem plus_eq {l : List Int} (hl : ∀ x ∈ l, isI64 x) (hn : l.length ≤ 1099511627776) : ∀ (m i k : Nat) (S : Int), i + m = l.length → m + 1 ≤ k →
    sat_plus.l0 k l (l.length : Int) i ((S / 18446744073709551616) % 18446744073709551616) (S % 18446744073709551616) =
      some (((S + sm (l.drop i)) / 18446744073709551616) % 18446744073709551616, (S + sm (l.drop i)) % 18446744073709551616) := by
  intro m
  induction m with
  | zero =>
    intro i k S hi hk
    obtain ⟨k, rfl⟩ : ∃ j, k = j + 1 := ⟨k - 1, by omega⟩
    simp only [sat_plus.l0]
    rw [if_neg (by omega), List.drop_eq_nil_of_le (by omega)]
    simp [sm]
  | succ m ih =>
    intro i k S hi hk
    obtain ⟨k, rfl⟩ : ∃ j, k = j + 1 := ⟨k - 1, by omega⟩
    have hil : i < l.length := by omega
    have t := add64_two (hi := (S / 18446744073709551616) % 18446744073709551616) (lo := S % 18446744073709551616) (by omega) (by omega) (by omega) (by omega) (hl _ (rd_mem hil))
    simp only [sat_plus.l0]
    rw [if_pos (by omega), if_pos (by omega), if_pos (by omega), if_pos t.1, t.2.1, t.2.2, wn64 i (by omega)]
    have e1 : (S % 18446744073709551616 + rd l (i : Int)) % 18446744073709551616 = (S + rd l (i : Int)) % 18446744073709551616 := by omega
    have e2 : (S / 18446744073709551616 % 18446744073709551616 + (S % 18446744073709551616 + rd l (i : Int)) / 18446744073709551616) % 18446744073709551616 = (S + rd l (i : Int)) / 18446744073709551616 % 18446744073709551616 := by omega
    rw [e1, e2, ih (i + 1) k (S + rd l (i : Int)) (by omega) (by omega), drop_rd hil]
    simp only [sm, Int.add_assoc]
theorem held128 {v : Int} (h0 : -170141183460469231731687303715884105728 ≤ v) (h1 : v < 170141183460469231731687303715884105728) :
    sat_held.f ((v / 18446744073709551616) % 18446744073709551616) (v % 18446744073709551616) = some (hd v) :=
  held_eq (by omega) (by omega) (by omega) (by omega) (by split <;> omega)
theorem i64_span {l : List Int} (hl : ∀ x ∈ l, isI64 x) (hn : l.length ≤ 1000000) : -9223372036854775808000000 ≤ sm l ∧ sm l ≤ 9223372036854775808000000 := by
  have h := sm_span (B := 9223372036854775808) (fun x hx => ⟨(hl x hx).1, by have := (hl x hx).2; omega⟩)
  omega
theorem sum_eq {l : List Int} (k : Nat) (hl : ∀ x ∈ l, isI64 x) (hn : l.length ≤ 1000000) (hk : l.length + 1 ≤ k) : sat_Sum.f k l = some (hd (sm l)) := by
  unfold sat_Sum.f sat_plus.f
  have h := plus_eq hl (by omega) l.length 0 k 0 (by omega) hk
  rw [show ((0 : Int) / 18446744073709551616) % 18446744073709551616 = 0 from rfl, show (0 : Int) % 18446744073709551616 = 0 from rfl] at h
  have s := i64_span hl hn
  rw [show ((0 : Nat) : Int) = 0 from rfl] at h
  rw [h]
  simp only [Option.bind_some, List.drop_zero, Int.zero_add]
  rw [held128 (by omega) (by omega)]
  rfl
theorem negative_eq {a : Int} (ha : isI64 a) : sat_negative.f a = some (((-a) / 18446744073709551616) % 18446744073709551616, (-a) % 18446744073709551616) := by
  unfold isI64 at ha
  unfold sat_negative.f
  have ua : IntKind.u64.wrap a = if a < 0 then a + 18446744073709551616 else a := by rw [u64_mod]; split <;> omega
  have us : IntKind.u64.wrap (a / 9223372036854775808) = if a < 0 then 18446744073709551615 else 0 := by rw [u64_mod]; split <;> omega
  have c0 : sub64c 0 (IntKind.u64.wrap a) 0 = if a = 0 then 0 else 1 := by
    rw [ua]; unfold sub64c; split <;> split <;> split <;> omega
  have s0 : sub64s 0 (IntKind.u64.wrap a) 0 = (-a) % 18446744073709551616 := by
    rw [ua]; unfold sub64s; split <;> omega
  rw [c0, s0, us]
  rw [if_pos (by split <;> omega)]
  have s1 : sub64s 0 (if a < 0 then 18446744073709551615 else 0) (if a = 0 then 0 else 1) = ((-a) / 18446744073709551616) % 18446744073709551616 := by
    unfold sub64s; split <;> split <;> omega
  rw [s1]
theorem sub_eq {a b : Int} (k : Nat) (hk : 2 ≤ k) (ha : isI64 a) (hb : isI64 b) : sat_Sub.f k a b = some (hd (a - b)) := by
  unfold sat_Sub.f
  rw [negative_eq hb]
  simp only [Option.bind_some]
  unfold sat_plus.f
  have h := plus_eq (l := [a]) (fun x hx => by rw [List.mem_singleton.1 hx]; exact ha) (by simp) 1 0 k (-b) (by simp) hk
  rw [show ((0 : Nat) : Int) = 0 from rfl] at h
  rw [h]
  simp only [Option.bind_some, List.drop_zero, sm, Int.add_zero]
  unfold isI64 at ha hb
  rw [held128 (by omega) (by omega), show -b + a = a - b by omega]
  rfl
theorem and32 {v : Int} (h0 : 0 ≤ v) (h1 : v < 9223372036854775808) : Go.bits .and .i64 v 4294967295 = v % 4294967296 := by
  obtain ⟨n, rfl⟩ : ∃ n : Nat, v = n := ⟨v.toNat, by omega⟩
  unfold Go.bits
  rw [i64_w]
  show wrap64 ((BitVec.ofInt 64 (n : Int) &&& BitVec.ofInt 64 4294967295).toNat : Int) = _
  have e : (BitVec.ofInt 64 (n : Int) &&& BitVec.ofInt 64 4294967295).toNat = n % 4294967296 := by
    rw [BitVec.toNat_and, BitVec.toNat_ofInt, BitVec.toNat_ofInt]
    rw [show ((n : Int) % ((2 ^ 64 : Nat) : Int)).toNat = n by omega, show ((4294967295 : Int) % ((2 ^ 64 : Nat) : Int)).toNat = 2 ^ 32 - 1 by decide, Nat.and_two_pow_sub_one_eq_mod]
  rw [e, wrap64_id (isI64_mk (by omega) (by omega))]
  omega
theorem rsum_loop {l : List Int} (hl : ∀ x ∈ l, isI64 x) (hn : l.length ≤ 1000) : ∀ (m i k : Nat) (S : Int), i + m = l.length → m + 1 ≤ k → -((i : Int) * 9223372036854775808) ≤ S → S ≤ (i : Int) * 9223372036854775808 →
    flywheelref01_Sum.l0 k l (S / 4294967296) (S % 4294967296) i = some (hd (S + sm (l.drop i))) := by
  intro m
  induction m with
  | zero =>
    intro i k S hi hk s0 s1
    obtain ⟨k, rfl⟩ : ∃ j, k = j + 1 := ⟨k - 1, by omega⟩
    simp only [flywheelref01_Sum.l0]
    rw [if_neg (by omega), List.drop_eq_nil_of_le (by omega)]
    simp only [sm, Int.add_zero, hd_eq]
    by_cases h1 : S / 4294967296 ≥ 2147483648
    · rw [if_pos h1, if_neg (by omega), if_pos (by omega)]
    · rw [if_neg h1]
      by_cases h2 : S / 4294967296 < -2147483648
      · rw [if_pos h2, if_pos (by omega)]
      · rw [if_neg h2, if_neg (by omega), if_neg (by omega), wrap64_id (a := S / 4294967296 * 4294967296) (isI64_mk (by omega) (by omega)), wrap64_id (isI64_mk (by omega) (by omega))]
        congr 1; omega
  | succ m ih =>
    intro i k S hi hk s0 s1
    obtain ⟨k, rfl⟩ : ∃ j, k = j + 1 := ⟨k - 1, by omega⟩
    have hil : i < l.length := by omega
    have hx := hl _ (rd_mem hil)
    rw [drop_rd hil]
    simp only [flywheelref01_Sum.l0]
    generalize rd l (i : Int) = x at hx ⊢
    unfold isI64 at hx
    have e1 : wrap64 (x / 4294967296 * 4294967296) = x / 4294967296 * 4294967296 := wrap64_id (isI64_mk (by omega) (by omega))
    have e2 : wrap64 (x - x / 4294967296 * 4294967296) = x % 4294967296 := by rw [wrap64_id (isI64_mk (by omega) (by omega))]; omega
    have e3 : wrap64 (S % 4294967296 + x % 4294967296) = S % 4294967296 + x % 4294967296 := wrap64_id (isI64_mk (by omega) (by omega))
    have e4 : wrap64 (S / 4294967296 + x / 4294967296) = S / 4294967296 + x / 4294967296 := wrap64_id (isI64_mk (by omega) (by omega))
    rw [if_pos (by omega), if_pos (by omega), e1, e2, e3, e4, and32 (by omega) (by omega), wrap64_id (a := S / 4294967296 + x / 4294967296 + (S % 4294967296 + x % 4294967296) / 4294967296) (isI64_mk (by omega) (by omega)), wn64 i (by omega)]
    have f1 : S / 4294967296 + x / 4294967296 + (S % 4294967296 + x % 4294967296) / 4294967296 = (S + x) / 4294967296 := by omega
    have f2 : (S % 4294967296 + x % 4294967296) % 4294967296 = (S + x) % 4294967296 := by omega
    rw [f1, f2, ih (i + 1) k (S + x) (by omega) (by omega) (by rw [Int.natCast_add, Int.add_mul]; omega) (by rw [Int.natCast_add, Int.add_mul]; omega)]
    simp only [sm, Int.add_assoc]
theorem rsum_eq {l : List Int} (k : Nat) (hl : ∀ x ∈ l, isI64 x) (hn : l.length ≤ 1000) (hk : l.length + 1 ≤ k) : flywheelref01_Sum.f k l = some (hd (sm l)) := by
  unfold flywheelref01_Sum.f
  have h := rsum_loop hl hn l.length 0 k 0 (by omega) hk (by simp) (by simp)
  rw [show (0 : Int) / 4294967296 = 0 from rfl, show (0 : Int) % 4294967296 = 0 from rfl, show ((0 : Nat) : Int) = 0 from rfl] at h
  rw [h]
  simp
end Go.Proofs.Ytmcfgaokimlngaa.P
end

section
namespace Go.Proofs.Ytmcfgaokimlngaa.P
open Go.RowKit Go.Proofs.YtmcfgaokimlngaaW.PrintWords Go.Proofs.YtmcfgaokimlngaaW.PrintLast Go.Proofs.YtmcfgaokimlngaaW.PrintMore
open Go.Proofs.Ytmcfgaokimlngaa.FInt
set_option linter.unusedVariables false
set_option linter.unusedSimpArgs false
theorem csum_some {a b c d r s : Nat} (h1 : Ieee.double.add a c = some r) (h2 : Ieee.double.add b d = some s) : cSumBits .add .f64 a b c d = some (r, s) := by
  unfold cSumBits
  rw [show floatBits .add .f64 a c = Ieee.double.add a c from rfl, show floatBits .add .f64 b d = Ieee.double.add b d from rfl, h1, h2]
  rfl
theorem stands_zero : Stands 0 0 := by
  have h := stands_of (n := 0) (by decide)
  rwa [show floatOfInt .f64 0 = 0 by kernel_rfl] at h
def SI (z : Nat × Nat) (b : Bool) (xs ys : List Int) (i : Nat) : Prop := Tame z.1 ∧ Tame z.2 ∧ (b = true → (Stands z.1 (sm (xs.take i)) ∧ Stands z.2 (sm (ys.take i))) ∧ (-((i : Int) * 1099511627776) ≤ sm (xs.take i) ∧ sm (xs.take i) ≤ (i : Int) * 1099511627776) ∧ (-((i : Int) * 1099511627776) ≤ sm (ys.take i) ∧ sm (ys.take i) ≤ (i : Int) * 1099511627776))
theorem fin64 {x : Int} (h : isI64 x) : Finite (floatOfInt .f64 x) := finite_of (by unfold isI64 at h; omega)
theorem sums_loop {xs ys : List Int} (hx : ∀ x ∈ xs, isI64 x) (hy : ∀ y ∈ ys, isI64 y) (hlen : xs.length = ys.length) (hn : xs.length ≤ 64) : ∀ (m i k : Nat) (z : Nat × Nat) (b : Bool), i + m = xs.length → m + 70 ≤ k → SI z b xs ys i →
    trend_sums.l0 k xs ys z b (xs.length : Int) i = some (hd (sm xs), hd (sm ys)) := by
  intro m
  induction m with
  | zero =>
    intro i k z b hi hk h
    obtain ⟨k, rfl⟩ : ∃ j, k = j + 1 := ⟨k - 1, by omega⟩
    simp only [trend_sums.l0]
    rw [if_neg (by omega)]
    obtain ⟨t1, t2, h⟩ := h
    cases b with
    | true =>
      obtain ⟨⟨s1, s2⟩, ⟨a1, a2⟩, b1, b2⟩ := h rfl
      rw [List.take_of_length_le (by omega)] at s1 s2 a1 a2 b1 b2
      have e1 := stands_int s1 (by omega) (by omega)
      have e2 := stands_int s2 (by omega) (by omega)
      rw [if_pos rfl, e1, e2, hd_id (isI64_mk (by omega) (by omega)), hd_id (isI64_mk (by omega) (by omega))]
      rfl
    | false =>
      rw [if_neg (by simp), sum_eq k hx (by omega) (by omega), sum_eq k hy (by omega) (by omega)]
      rfl
  | succ m ih =>
    intro i k z b hi hk h
    obtain ⟨k, rfl⟩ : ∃ j, k = j + 1 := ⟨k - 1, by omega⟩
    have hil : i < xs.length := by omega
    have hil2 : i < ys.length := by omega
    have ix := hx _ (rd_mem hil)
    have iy := hy _ (rd_mem hil2)
    obtain ⟨t1, t2, h⟩ := h
    obtain ⟨r1, e1, q1⟩ := add_tame t1 (fin64 ix)
    obtain ⟨r2, e2, q2⟩ := add_tame t2 (fin64 iy)
    have ec := csum_some e1 e2
    simp only [trend_sums.l0]
    rw [if_pos (by omega), if_pos (by omega), if_pos (by omega), if_pos (by omega), ec, wn64 i (by omega)]
    simp only [Option.isSome_some, if_true, Option.getD_some]
    rw [abs_eq ix, abs_eq iy]
    simp only [Option.bind_some]
    cases b with
    | false =>
      rw [if_neg (by simp)]
      exact ih (i + 1) k _ _ (by omega) (by omega) ⟨q1, q2, fun h => by simp at h⟩
    | true =>
      obtain ⟨⟨s1, s2⟩, ⟨a1, a2⟩, b1, b2⟩ := h rfl
      rw [if_pos rfl]
      by_cases c1 : hd (ab (rd xs (i : Int))) < 1099511627776
      · rw [if_pos c1]
        refine ih (i + 1) k _ _ (by omega) (by omega) ⟨q1, q2, fun h => ?_⟩
        have c2 := of_decide_eq_true h
        rw [hd_eq] at c1 c2
        unfold ab at c1 c2
        unfold isI64 at ix iy
        have x1 : -1099511627776 ≤ rd xs (i : Int) ∧ rd xs (i : Int) ≤ 1099511627776 := by
          revert c1; repeat' split
          all_goals (intro c1; omega)
        have y1 : -1099511627776 ≤ rd ys (i : Int) ∧ rd ys (i : Int) ≤ 1099511627776 := by
          revert c2; repeat' split
          all_goals (intro c2; omega)
        have i64 : i ≤ 64 := by omega
        rw [take_rd hil, take_rd hil2, sm_append, sm_append]
        simp only [sm, Int.add_zero]
        obtain ⟨r1', e1', s1'⟩ := stands_add s1 (stands_of (n := rd xs (i : Int)) (by omega)) (by omega)
        obtain ⟨r2', e2', s2'⟩ := stands_add s2 (stands_of (n := rd ys (i : Int)) (by omega)) (by omega)
        rw [e1] at e1'
        rw [e2] at e2'
        obtain rfl := Option.some.inj e1'
        obtain rfl := Option.some.inj e2'
        rw [show ((i + 1 : Nat) : Int) * 1099511627776 = (i : Int) * 1099511627776 + 1099511627776 by omega]
        exact ⟨⟨s1', s2'⟩, ⟨by omega, by omega⟩, by omega, by omega⟩
      · rw [if_neg c1]
        exact ih (i + 1) k _ _ (by omega) (by omega) ⟨q1, q2, fun h => by simp at h⟩
theorem sums_eq {xs ys : List Int} (k : Nat) (hx : ∀ x ∈ xs, isI64 x) (hy : ∀ y ∈ ys, isI64 y) (hlen : xs.length = ys.length) (hn : xs.length ≤ 64) (hk : 140 ≤ k) : trend_sums.f k xs ys = some (hd (sm xs), hd (sm ys)) := by
  unfold trend_sums.f
  refine sums_loop hx hy hlen hn xs.length 0 k (0, 0) true (by omega) (by omega) ⟨.inl (stands_finite stands_zero), .inl (stands_finite stands_zero), fun _ => ⟨⟨stands_zero, stands_zero⟩, ?_, ?_⟩⟩ <;> simp [sm]
end Go.Proofs.Ytmcfgaokimlngaa.P
end

section
namespace Go.Proofs.Ytmcfgaokimlngaa.P
open Go.RowKit
theorem rdo_eq {a b c : Int} (how : Int) (ha : isI64 a) (hb : isI64 b) (hc : isI64 c) : flywheelref02_Do.f a b c how = some (md a b c how) := by
  unfold flywheelref02_Do.f flywheelref02_Did_s.f
  rw [if_pos ⟨ha, hb, hc⟩]; rfl
end Go.Proofs.Ytmcfgaokimlngaa.P
end

section
namespace Go.Proofs.Ytmcfgaokimlngaa.P
open Go.RowKit Go.Proofs.YtmcfgaokimlngaaW.PrintWords Go.Proofs.YtmcfgaokimlngaaW.PrintLast Go.Proofs.YtmcfgaokimlngaaW.PrintMore
set_option linter.unusedVariables false
set_option linter.unusedSimpArgs false
def dl (l : List Int) (b : Int) : List Int := l.map (fun v => hd (v - b))
def ofl (n : Int) (l : List Int) (s : Int) : List Int := l.map (fun d => hd (hd (n * d) - s))
def prods (u v : List Int) : List Int := List.zipWith (fun a b => hd (a * b)) u v
def slope (n : Int) (dx dy : List Int) : Int :=
  md (hd (sm (prods (ofl n dx (hd (sm dx))) (ofl n dy (hd (sm dy)))))) 4294967296 (hd (sm (prods (ofl n dx (hd (sm dx))) (ofl n dx (hd (sm dx)))))) 2
def LN (xs ys : List Int) : Int := if min (min xs.length ys.length) 64 < 2 then 0 else
  slope (min (min xs.length ys.length) 64 : Nat) (dl (xs.take (min (min xs.length ys.length) 64)) (rd xs 0)) (dl (ys.take (min (min xs.length ys.length) 64)) (rd ys 0))
theorem dl_len (l : List Int) (b : Int) : (dl l b).length = l.length := List.length_map _
theorem ofl_len (n : Int) (l : List Int) (s : Int) : (ofl n l s).length = l.length := List.length_map _
theorem dl_i64 (l : List Int) (b : Int) : ∀ x ∈ dl l b, isI64 x := fun x hx => by
  obtain ⟨v, _, rfl⟩ := List.mem_map.1 hx
  exact hd_i64 _
theorem ofl_i64 (n : Int) (l : List Int) (s : Int) : ∀ x ∈ ofl n l s, isI64 x := fun x hx => by
  obtain ⟨v, _, rfl⟩ := List.mem_map.1 hx
  exact hd_i64 _
theorem mn_len (a b : Nat) : mn (mn (a : Int) (b : Int)) 64 = ((min (min a b) 64 : Nat) : Int) := by
  unfold mn; split <;> split <;> omega
theorem less_loop {l : List Int} {b : Int} (hb : isI64 b) (hl : ∀ x ∈ l, isI64 x) (hn : l.length ≤ 64) : ∀ (m i k : Nat) (acc : List Int), i + m = l.length → m + 5 ≤ k → acc.length ≤ i →
    trend_less.l0 k b acc l (l.length : Int) i = some (acc ++ dl (l.drop i) b) := by
  intro m
  induction m with
  | zero =>
    intro i k acc hi hk ha
    obtain ⟨k, rfl⟩ : ∃ j, k = j + 1 := ⟨k - 1, by omega⟩
    simp only [trend_less.l0]
    rw [if_neg (by omega), List.drop_eq_nil_of_le (by omega)]
    simp [dl]
  | succ m ih =>
    intro i k acc hi hk ha
    obtain ⟨k, rfl⟩ : ∃ j, k = j + 1 := ⟨k - 1, by omega⟩
    have hil : i < l.length := by omega
    simp only [trend_less.l0]
    rw [if_pos (by omega), if_pos (by omega), if_pos (by omega), sub_eq k (by omega) (hl _ (rd_mem hil)) hb]
    simp only [Option.bind_some]
    rw [if_pos (by omega), wn64 i (by omega), ih (i + 1) k _ (by omega) (by omega) (by rw [List.length_append]; simp; omega), drop_rd hil]
    simp [dl, List.append_assoc]
theorem less_eq {l : List Int} {b : Int} (k : Nat) (hb : isI64 b) (hl : ∀ x ∈ l, isI64 x) (hn : l.length ≤ 64) (hk : 70 ≤ k) : trend_less.f k l b = some (dl l b) := by
  unfold trend_less.f
  have h := less_loop hb hl hn l.length 0 k [] (by omega) (by omega) (by simp)
  rw [show ((0 : Nat) : Int) = 0 from rfl] at h
  rw [h]; simp
theorem off_loop {l : List Int} {s : Int} (hs : isI64 s) (hl : ∀ x ∈ l, isI64 x) (hn : l.length ≤ 64) : ∀ (m i k : Nat) (acc : List Int), i + m = l.length → m + 5 ≤ k → acc.length ≤ i →
    trend_off.l0 k l s acc l (l.length : Int) i = some (acc ++ ofl l.length (l.drop i) s) := by
  intro m
  induction m with
  | zero =>
    intro i k acc hi hk ha
    obtain ⟨k, rfl⟩ : ∃ j, k = j + 1 := ⟨k - 1, by omega⟩
    simp only [trend_off.l0]
    rw [if_neg (by omega), List.drop_eq_nil_of_le (by omega)]
    simp [ofl]
  | succ m ih =>
    intro i k acc hi hk ha
    obtain ⟨k, rfl⟩ : ∃ j, k = j + 1 := ⟨k - 1, by omega⟩
    have hil : i < l.length := by omega
    simp only [trend_off.l0]
    rw [if_pos (by omega), if_pos (by omega), if_pos (by omega), mul_eq (isI64_mk (by omega) (by omega)) (hl _ (rd_mem hil))]
    simp only [Option.bind_some]
    rw [sub_eq k (by omega) (hd_i64 _) hs]
    simp only [Option.bind_some]
    rw [if_pos (by omega), wn64 i (by omega), ih (i + 1) k _ (by omega) (by omega) (by rw [List.length_append]; simp; omega), drop_rd hil]
    simp [ofl, List.append_assoc]
theorem off_eq {l : List Int} {s : Int} (k : Nat) (hs : isI64 s) (hl : ∀ x ∈ l, isI64 x) (hn : l.length ≤ 64) (hk : 70 ≤ k) : trend_off.f k l s = some (ofl l.length l s) := by
  unfold trend_off.f
  have h := off_loop hs hl hn l.length 0 k [] (by omega) (by omega) (by simp)
  rw [show ((0 : Nat) : Int) = 0 from rfl] at h
  rw [h]; simp
theorem line_loop {u v : List Int} (hu : ∀ x ∈ u, isI64 x) (hv : ∀ x ∈ v, isI64 x) (hlen : u.length = v.length) (hn : u.length ≤ 64) : ∀ (m i k : Nat) (p q : List Int), i + m = u.length → m + 70 ≤ k → p.length = i → q.length = i →
    (∀ x ∈ p, isI64 x) → (∀ x ∈ q, isI64 x) →
    trend_Line.l0 k u v p q (u.length : Int) i = some (md (hd (sm (p ++ prods (u.drop i) (v.drop i)))) 4294967296 (hd (sm (q ++ prods (u.drop i) (u.drop i)))) 2) := by
  intro m
  induction m with
  | zero =>
    intro i k p q hi hk hp hq ip iq
    obtain ⟨k, rfl⟩ : ∃ j, k = j + 1 := ⟨k - 1, by omega⟩
    simp only [trend_Line.l0]
    rw [if_neg (by omega), List.drop_eq_nil_of_le (by omega), sum_eq k ip (by omega) (by omega), sum_eq k iq (by omega) (by omega)]
    simp only [Option.bind_some, prods, List.zipWith_nil_left, List.append_nil]
    unfold fixed_Div.f
    rw [do_eq 2 (hd_i64 _) (isI64_mk (by decide) (by decide)) (hd_i64 _)]
    rfl
  | succ m ih =>
    intro i k p q hi hk hp hq ip iq
    obtain ⟨k, rfl⟩ : ∃ j, k = j + 1 := ⟨k - 1, by omega⟩
    have h1 : i < u.length := by omega
    have h2 : i < v.length := by omega
    have x1 := hu _ (rd_mem h1)
    have x2 := hv _ (rd_mem h2)
    simp only [trend_Line.l0]
    rw [if_pos (by omega), if_pos (by omega), if_pos (by omega), if_pos (by omega), mul_eq x1 x2, mul_eq x1 x1]
    simp only [Option.bind_some]
    rw [if_pos (by omega), if_pos (by omega), wn64 i (by omega), ih (i + 1) k _ _ (by omega) (by omega) (by rw [List.length_append]; simp; omega) (by rw [List.length_append]; simp; omega)
      (fun x hx => by rcases List.mem_append.1 hx with h | h; exact ip x h; rw [List.mem_singleton.1 h]; exact hd_i64 _) (fun x hx => by rcases List.mem_append.1 hx with h | h; exact iq x h; rw [List.mem_singleton.1 h]; exact hd_i64 _)]
    rw [drop_rd h1, drop_rd h2]
    simp [prods, List.append_assoc]
theorem line_eq {xs ys : List Int} (k : Nat) (hx : ∀ x ∈ xs, isI64 x) (hy : ∀ y ∈ ys, isI64 y) (hk : 200 ≤ k) : trend_Line.f k xs ys = some (LN xs ys) := by
  unfold trend_Line.f LN
  rw [mn_len]
  generalize hm : min (min xs.length ys.length) 64 = n
  by_cases h : n < 2
  · rw [if_pos (by omega), if_pos h]
  rw [if_neg (by omega), if_neg h, if_pos (by omega), if_pos (by omega), if_pos (by omega), Int.toNat_natCast]
  have l1 : (xs.take n).length = n := by rw [List.length_take]; omega
  have l2 : (ys.take n).length = n := by rw [List.length_take]; omega
  have t1 : ∀ x ∈ xs.take n, isI64 x := fun x h => hx x (List.mem_of_mem_take h)
  have t2 : ∀ x ∈ ys.take n, isI64 x := fun x h => hy x (List.mem_of_mem_take h)
  have r1 : isI64 (rd xs 0) := hx _ (rd_mem (i := 0) (by omega))
  have r2 : isI64 (rd ys 0) := hy _ (rd_mem (i := 0) (by omega))
  rw [less_eq k r1 t1 (by omega) (by omega)]
  simp only [Option.bind_some]
  rw [if_pos (by omega), if_pos (by omega), less_eq k r2 t2 (by omega) (by omega)]
  simp only [Option.bind_some]
  have d1 : (dl (xs.take n) (rd xs 0)).length = n := by rw [dl_len, l1]
  have d2 : (dl (ys.take n) (rd ys 0)).length = n := by rw [dl_len, l2]
  rw [sums_eq k (dl_i64 _ _) (dl_i64 _ _) (by omega) (by omega) (by omega)]
  simp only [Option.bind_some]
  rw [off_eq k (hd_i64 _) (dl_i64 _ _) (by omega) (by omega), off_eq k (hd_i64 _) (dl_i64 _ _) (by omega) (by omega)]
  simp only [Option.bind_some]
  have h := line_loop (ofl_i64 (dl (xs.take n) (rd xs 0)).length (dl (xs.take n) (rd xs 0)) (hd (sm (dl (xs.take n) (rd xs 0))))) (ofl_i64 (dl (ys.take n) (rd ys 0)).length (dl (ys.take n) (rd ys 0)) (hd (sm (dl (ys.take n) (rd ys 0))))) (by rw [ofl_len, ofl_len]; omega) (by rw [ofl_len]; omega) n 0 k [] [] (by rw [ofl_len]; omega) (by omega) rfl rfl (by simp) (by simp)
  rw [show ((0 : Nat) : Int) = 0 from rfl] at h
  rw [h, d1, d2]
  simp only [List.drop_zero, List.nil_append, slope]
theorem rline_loop1 {u v dx dy : List Int} {n sx sy : Int} (hdx : ∀ x ∈ dx, isI64 x) (hdy : ∀ x ∈ dy, isI64 x) (hsx : isI64 sx) (hsy : isI64 sy) (hlen : dx.length = dy.length) (hn : n = (dx.length : Int)) (hn64 : dx.length ≤ 64) :
    ∀ (m i k : Nat) (p q : List Int), i + m = dx.length → m + 80 ≤ k → p.length = i → q.length = i → (∀ x ∈ p, isI64 x) → (∀ x ∈ q, isI64 x) →
    flywheelref17_Line.l1 k n dx dy sx sy p q i = some (md (hd (sm (p ++ prods (ofl n (dx.drop i) sx) (ofl n (dy.drop i) sy)))) 4294967296 (hd (sm (q ++ prods (ofl n (dx.drop i) sx) (ofl n (dx.drop i) sx)))) 2) := by
  intro m
  induction m with
  | zero =>
    intro i k p q hi hk hp hq ip iq
    obtain ⟨k, rfl⟩ : ∃ j, k = j + 1 := ⟨k - 1, by omega⟩
    simp only [flywheelref17_Line.l1]
    rw [if_neg (by omega), List.drop_eq_nil_of_le (by omega), rsum_eq k ip (by omega) (by omega), rsum_eq k iq (by omega) (by omega)]
    simp only [Option.bind_some, prods, ofl, List.map_nil, List.zipWith_nil_left, List.append_nil]
    by_cases c : hd (sm q) = 0
    · rw [if_pos c, c, md_zero]
    · rw [if_neg c]
      unfold flywheelref03_Div.f
      rw [rdo_eq 2 (hd_i64 _) (isI64_mk (by decide) (by decide)) (hd_i64 _)]
      rfl
  | succ m ih =>
    intro i k p q hi hk hp hq ip iq
    obtain ⟨k, rfl⟩ : ∃ j, k = j + 1 := ⟨k - 1, by omega⟩
    have h1 : i < dx.length := by omega
    have h2 : i < dy.length := by omega
    have x1 := hdx _ (rd_mem h1)
    have x2 := hdy _ (rd_mem h2)
    have inn : isI64 n := isI64_mk (by omega) (by omega)
    simp only [flywheelref17_Line.l1]
    rw [if_pos (by omega), if_pos (by omega), if_pos (by omega), rmul_eq k (by omega) inn x1]
    simp only [Option.bind_some]
    rw [rsub_eq k (by omega) (hd_i64 _) hsx]
    simp only [Option.bind_some]
    rw [if_pos (by omega), rmul_eq k (by omega) inn x2]
    simp only [Option.bind_some]
    rw [rsub_eq k (by omega) (hd_i64 _) hsy]
    simp only [Option.bind_some]
    rw [rmul_eq k (by omega) (hd_i64 _) (hd_i64 _)]
    simp only [Option.bind_some]
    rw [if_pos (by omega), rmul_eq k (by omega) (hd_i64 _) (hd_i64 _)]
    simp only [Option.bind_some]
    rw [if_pos (by omega), wn64 i (by omega), ih (i + 1) k _ _ (by omega) (by omega) (by rw [List.length_append]; simp; omega) (by rw [List.length_append]; simp; omega)
      (fun x hx => by rcases List.mem_append.1 hx with h | h; exact ip x h; rw [List.mem_singleton.1 h]; exact hd_i64 _) (fun x hx => by rcases List.mem_append.1 hx with h | h; exact iq x h; rw [List.mem_singleton.1 h]; exact hd_i64 _)]
    rw [drop_rd h1, drop_rd h2]
    simp [prods, ofl, List.append_assoc]
theorem rline_loop0 {xs ys : List Int} {n : Nat} (hx : ∀ x ∈ xs, isI64 x) (hy : ∀ y ∈ ys, isI64 y) (hnx : n ≤ xs.length) (hny : n ≤ ys.length) (hn : n ≤ 64) :
    ∀ (m i k : Nat) (p q : List Int), i + m = n → m + 160 ≤ k → p = dl (xs.take i) (rd xs 0) → q = dl (ys.take i) (rd ys 0) →
    flywheelref17_Line.l0 k xs ys n p q i = some (slope n (dl (xs.take n) (rd xs 0)) (dl (ys.take n) (rd ys 0))) := by
  intro m
  induction m with
  | zero =>
    intro i k p q hi hk hp hq
    obtain ⟨k, rfl⟩ : ∃ j, k = j + 1 := ⟨k - 1, by omega⟩
    obtain rfl : i = n := by omega
    have l1 : (dl (xs.take i) (rd xs 0)).length = i := by rw [dl_len, List.length_take]; omega
    have l2 : (dl (ys.take i) (rd ys 0)).length = i := by rw [dl_len, List.length_take]; omega
    subst hp hq
    simp only [flywheelref17_Line.l0]
    rw [if_neg (by omega), rsum_eq k (dl_i64 _ _) (by omega) (by omega), rsum_eq k (dl_i64 _ _) (by omega) (by omega)]
    simp only [Option.bind_some]
    have h := rline_loop1 (u := []) (v := []) (n := (i : Int)) (dl_i64 (xs.take i) (rd xs 0)) (dl_i64 (ys.take i) (rd ys 0)) (hd_i64 (sm (dl (xs.take i) (rd xs 0)))) (hd_i64 (sm (dl (ys.take i) (rd ys 0)))) (by omega) (by omega) (by omega) i 0 k [] [] (by omega) (by omega) rfl rfl (by simp) (by simp)
    rw [show ((0 : Nat) : Int) = 0 from rfl] at h
    rw [h]
    simp only [List.drop_zero, List.nil_append, slope]
  | succ m ih =>
    intro i k p q hi hk hp hq
    obtain ⟨k, rfl⟩ : ∃ j, k = j + 1 := ⟨k - 1, by omega⟩
    have h1 : i < xs.length := by omega
    have h2 : i < ys.length := by omega
    have l1 : p.length = i := by rw [hp, dl_len, List.length_take]; omega
    have l2 : q.length = i := by rw [hq, dl_len, List.length_take]; omega
    simp only [flywheelref17_Line.l0]
    rw [if_pos (by omega), if_pos (by omega), if_pos (by omega), if_pos (by omega), rsub_eq k (by omega) (hx _ (rd_mem h1)) (hx (rd xs 0) (rd_mem (i := 0) (by omega)))]
    simp only [Option.bind_some]
    rw [if_pos (by omega), if_pos (by omega), if_pos (by omega), rsub_eq k (by omega) (hy _ (rd_mem h2)) (hy (rd ys 0) (rd_mem (i := 0) (by omega)))]
    simp only [Option.bind_some]
    rw [if_pos (by omega), wn64 i (by omega)]
    refine ih (i + 1) k _ _ (by omega) (by omega) ?_ ?_
    · rw [take_rd h1, hp]; simp [dl]
    · rw [take_rd h2, hq]; simp [dl]
theorem rline_eq {xs ys : List Int} (k : Nat) (hx : ∀ x ∈ xs, isI64 x) (hy : ∀ y ∈ ys, isI64 y) (hk : 300 ≤ k) : flywheelref17_Line.f k xs ys = some (LN xs ys) := by
  unfold flywheelref17_Line.f LN
  rw [mn_len]
  generalize hm : min (min xs.length ys.length) 64 = n
  by_cases h : n < 2
  · rw [if_pos (by omega), if_pos h]
  rw [if_neg (by omega), if_neg h]
  have h := rline_loop0 hx hy (n := n) (by omega) (by omega) (by omega) n 0 k [] [] (by omega) (by omega) (by simp [dl]) (by simp [dl])
  rw [show ((0 : Nat) : Int) = 0 from rfl] at h
  exact h
end Go.Proofs.Ytmcfgaokimlngaa.P
end

section
namespace Go.Proofs.Ytmcfgaokimlngaa.P
open Go.RowKit Go.Proofs.YtmcfgaokimlngaaW.PrintWords Go.Proofs.YtmcfgaokimlngaaW.PrintLast Go.Proofs.YtmcfgaokimlngaaW.PrintMore
set_option linter.unusedVariables false
set_option linter.unusedSimpArgs false
end Go.Proofs.Ytmcfgaokimlngaa.P
end

section
namespace Go.Proofs.Ytmcfgaokimlngaa.P
open Go.RowKit Go.Proofs.YtmcfgaokimlngaaW.PrintWords Go.Proofs.YtmcfgaokimlngaaW.PrintLast Go.Proofs.YtmcfgaokimlngaaW.PrintMore
set_option linter.unusedVariables false
set_option linter.unusedSimpArgs false
set_option maxRecDepth 100000 in
theorem wakes17_40 : flywheellaw17_wakes.f 40 = some true := by kernel_rfl
theorem wakes17 (k : Nat) (h : 40 ≤ k) : flywheellaw17_wakes.f k = some true := at_rounds flywheellaw17_wakes.mono h wakes17_40
theorem wk17 (k : Nat) (h : 40 ≤ k) : ((flywheellaw17_wakes.f k).bind fun t => some t) = some true := by rw [wakes17 k h]; rfl
end Go.Proofs.Ytmcfgaokimlngaa.P
namespace Go.Proofs.Ytmcfgaokimlngaa.Pure
open Go.RowKit Go.Proofs.Ytmcfgaokimlngaa.P Go.Proofs.YtmcfgaokimlngaaW.PrintWords Go.Proofs.YtmcfgaokimlngaaW.PrintLast Go.Proofs.YtmcfgaokimlngaaW.PrintMore
end Go.Proofs.Ytmcfgaokimlngaa.Pure
end

section
namespace Go.Proofs.Ytmcfgaokimlngaa.Pure
open Go.RowKit Go.Proofs.Ytmcfgaokimlngaa.P Go.Proofs.YtmcfgaokimlngaaW.PrintWords Go.Proofs.YtmcfgaokimlngaaW.PrintLast Go.Proofs.YtmcfgaokimlngaaW.PrintMore
set_option linter.unusedVariables false
set_option linter.unusedSimpArgs false
theorem longs17 (l : List Int) (hl : l.length ≤ 1000) (k : Nat) (hk : 1100 ≤ k) : flywheelkeep_Longs.f k l l = some true := by
  have loop : ∀ (m i k : Nat), i + m = l.length → m + 1 ≤ k → flywheelkeep_Longs.l0 k l l i = some true := by
    intro m
    induction m with
    | zero =>
      intro i k hi hk
      obtain ⟨k, rfl⟩ : ∃ j, k = j + 1 := ⟨k - 1, by omega⟩
      simp only [flywheelkeep_Longs.l0]
      rw [if_neg (by omega)]
    | succ m ih =>
      intro i k hi hk
      obtain ⟨k, rfl⟩ : ∃ j, k = j + 1 := ⟨k - 1, by omega⟩
      simp only [flywheelkeep_Longs.l0]
      rw [if_pos (by omega), if_pos (by omega), if_pos (by omega), wn64 i (by omega)]
      simp only [if_true]
      exact ih (i + 1) k (by omega) (by omega)
  unfold flywheelkeep_Longs.f
  rw [if_pos rfl]
  exact loop l.length 0 k (by omega) (by omega)
theorem TrendLines : flywheellaw17_TrendLines.Pure := by
  intro xs ys _ _ hx _ _ hy
  refine ⟨1201, ?_⟩
  have ix : ∀ x ∈ xs, isI64 x := fun x h => isI64_of_wf (hx x h)
  have iy : ∀ x ∈ ys, isI64 x := fun x h => isI64_of_wf (hy x h)
  have big : flywheellaw17_TrendLines.j0 1201 xs ys true = some true := by
    simp only [flywheellaw17_TrendLines.j0, if_true]
    exact wk17 1200 (by omega)
  unfold flywheellaw17_TrendLines.f
  by_cases c1 : (xs.length : Int) > 1000
  · rw [if_pos c1]; exact big
  rw [if_neg c1]
  by_cases c2 : (ys.length : Int) > 1000
  · rw [decide_eq_true c2]; exact big
  rw [decide_eq_false c2]
  simp only [flywheellaw17_TrendLines.j0, Bool.false_eq_true, if_false, Option.bind_some, List.nil_append, List.length_nil, Nat.zero_add]
  rw [if_pos (by omega), if_pos (by omega), line_eq 1200 ix iy (by omega), rline_eq 1200 ix iy (by omega)]
  simp only [Option.bind_some, if_true]
  rw [longs17 xs (by omega) 1200 (by omega), longs17 ys (by omega) 1200 (by omega)]
  simp only [Option.bind_some, if_true]
  exact wk17 1200 (by omega)
end Go.Proofs.Ytmcfgaokimlngaa.Pure
end

section

end

-- PUT TOGETHER by a program of this session: of the claim's texts, what is used
import Derived.Test.YtaelmmbodigheaaKDetectPlays7
import Derived.Test.YtaelmmbodigheaaKDetectPlays8
import Derived.Test.YtaelmmbodigheaaKDetectPlays9
import Derived.Test.YtaelmmbodigheaaKDetectPlays10
import Derived.WalkArith
import Derived.KernelRfl
section
namespace Go.Proofs.Ytaelmmbodigheaa.P
open Go.RowKit
set_option linter.unusedVariables false
set_option linter.unusedSimpArgs false
def md (a b c how : Int) : Int := (mdq a b c how).1
theorem isI64_of_wf {a : Int} (h : (Lit.int .i64 a).wf = true) : isI64 a := by
  simp only [Lit.wf, IntKind.min, IntKind.max, IntKind.signed, IntKind.bits, Bool.and_eq_true, decide_eq_true_eq] at h
  unfold isI64; simp at h; omega
theorem wrap64_id {a : Int} (h : isI64 a) : wrap64 a = a := by unfold isI64 at h; unfold wrap64; omega
theorem isI64_mk {a : Int} (h : -9223372036854775808 ≤ a) (h' : a ≤ 9223372036854775807) : isI64 a := ⟨h, h'⟩
theorem hold64_i64 (q : Int) : isI64 (hold64 q).1 := by
  unfold hold64 isI64
  split
  · exact ⟨by decide, by decide⟩
  · split
    · exact ⟨by decide, by decide⟩
    · exact ⟨by simp; omega, by simp; omega⟩
theorem hold64_id (q : Int) (h : isI64 q) : hold64 q = (q, true) := by
  unfold isI64 at h; unfold hold64
  rw [if_neg (by omega), if_neg (by omega)]
theorem do_eq {a b c : Int} (how : Int) (ha : isI64 a) (hb : isI64 b) (hc : isI64 c) : muldiv_Do.f a b c how = some (md a b c how) := by
  unfold muldiv_Do.f muldiv_quotient_s.f
  rw [if_pos ⟨ha, hb, hc⟩]; rfl
theorem md_pos {a b c how : Int} (hc : 0 < c) (h1 : 1 ≤ how) (h3 : how ≤ 3) : md a b c how = (hold64 (rnd (a * b) c how)).1 := by
  unfold md mdq
  rw [if_neg (by omega), if_neg (by omega)]
theorem rnd_down (n d : Int) : rnd n d 1 = n / d := by unfold rnd; rw [if_pos rfl]
theorem md_down {a b c : Int} (hc : 0 < c) (h : isI64 (a * b / c)) : md a b c 1 = a * b / c := by
  rw [md_pos hc (by decide) (by decide), rnd_down, hold64_id _ h]
end Go.Proofs.Ytaelmmbodigheaa.P
end

section
namespace Go.Proofs.Ytaelmmbodigheaa.P
open Go.RowKit
set_option linter.unusedVariables false
set_option linter.unusedSimpArgs false
def hd (x : Int) : Int := (hold64 x).1
theorem hd_eq (x : Int) : hd x = if x < -9223372036854775808 then -9223372036854775808 else if x > 9223372036854775807 then 9223372036854775807 else x := by
  unfold hd hold64
  split
  · rfl
  · split <;> rfl
theorem hd_id {x : Int} (h : isI64 x) : hd x = x := by unfold hd; rw [hold64_id _ h]
theorem hd_i64 (x : Int) : isI64 (hd x) := hold64_i64 x
theorem rsub_eq {a b : Int} (k : Nat) (hk : 1 ≤ k) (ha : isI64 a) (hb : isI64 b) : flywheelref01_Sub.f k a b = some (hd (a - b)) := by
  obtain ⟨k, rfl⟩ : ∃ j, k = j + 1 := ⟨k - 1, by omega⟩
  unfold isI64 at ha hb
  unfold flywheelref01_Sub.f
  simp only [flywheelref01_Sub.j0]
  rw [hd_eq]
  by_cases h1 : b < 0
  · rw [if_pos h1, wrap64_id (a := 9223372036854775807 + b) (by unfold isI64; omega)]
    by_cases h2 : a > 9223372036854775807 + b
    · simp only [h2, decide_true, if_true]
      rw [if_neg (by omega), if_pos (by omega)]
    · simp only [h2, decide_false, Bool.false_eq_true, if_false]
      rw [if_neg (by omega), if_neg (by omega), if_neg (by omega), wrap64_id (by unfold isI64; omega)]
  · rw [if_neg h1]
    simp only [Bool.false_eq_true, if_false]
    by_cases h2 : b > 0
    · rw [if_pos h2, wrap64_id (a := -9223372036854775808 + b) (by unfold isI64; omega)]
      by_cases h3 : a < -9223372036854775808 + b
      · rw [if_pos h3, if_pos (by omega)]
      · rw [if_neg h3, if_neg (by omega), if_neg (by omega), wrap64_id (by unfold isI64; omega)]
    · rw [if_neg h2, if_neg (by omega), if_neg (by omega), wrap64_id (by unfold isI64; omega)]
theorem rneg_eq {a : Int} (k : Nat) (hk : 1 ≤ k) (ha : isI64 a) : flywheelref01_Neg.f k a = some (hd (-a)) := by
  unfold flywheelref01_Neg.f
  rw [rsub_eq k hk (isI64_mk (by decide) (by decide)) ha]
  simp
def ab (a : Int) : Int := if a < 0 then -a else a
theorem rabs_eq {a : Int} (k : Nat) (hk : 1 ≤ k) (ha : isI64 a) : flywheelref01_Abs.f k a = some (hd (ab a)) := by
  unfold flywheelref01_Abs.f ab
  by_cases h : a < 0
  · rw [if_pos h, if_pos h, rneg_eq k hk ha]; rfl
  · rw [if_neg h, if_neg h, hd_id ha]
theorem rclamp_eq (a lo hi : Int) : flywheelref01_Clamp.f a lo hi = some (if a < lo then lo else if a > hi then hi else a) := by
  unfold flywheelref01_Clamp.f
  split
  · rfl
  · split <;> rfl
theorem mag_over {x y : Int} (hx : 0 ≤ x) (hy : 0 < y) : x > 9223372036854775807 / y ↔ x * y > 9223372036854775807 := by
  constructor
  · intro h
    have := (Int.ediv_lt_iff_lt_mul hy).mp h
    omega
  · intro h
    exact (Int.ediv_lt_iff_lt_mul hy).mpr h
theorem rmul_eq {a b : Int} (k : Nat) (hk : 6 ≤ k) (ha : isI64 a) (hb : isI64 b) : flywheelref01_Mul.f k a b = some (hd (a * b)) := by
  obtain ⟨k, rfl⟩ : ∃ j, k = j + 4 := ⟨k - 4, by omega⟩
  have ha' := ha; have hb' := hb
  unfold isI64 at ha' hb'
  unfold flywheelref01_Mul.f
  by_cases a0 : a = 0
  · rw [if_pos a0]; subst a0
    simp only [flywheelref01_Mul.j0, if_true, Int.zero_mul]; rfl
  rw [if_neg a0]
  by_cases b0 : b = 0
  · subst b0
    simp [flywheelref01_Mul.j0]; rfl
  have e0 : (b == 0) = false := beq_eq_false_iff_ne.mpr b0
  rw [e0]
  simp only [flywheelref01_Mul.j0, Bool.false_eq_true, if_false]
  by_cases a1 : a = 1
  · rw [if_pos a1, a1, Int.one_mul, hd_id hb]
  rw [if_neg a1]
  by_cases b1 : b = 1
  · rw [if_pos b1, b1, Int.mul_one, hd_id ha]
  rw [if_neg b1]
  have rest : ∀ s : Bool, (s = true ↔ 0 < a * b) → flywheelref01_Mul.j1 (k + 3) a b s = some (hd (a * b)) := by
    intro s hs
    have hne : a * b ≠ 0 := Int.mul_ne_zero a0 b0
    have hs' : s = false → a * b < 0 := by
      intro h; rcases Int.lt_trichotomy (a * b) 0 with h1 | h1 | h1
      · exact h1
      · exact absurd h1 hne
      · rw [hs.mpr h1] at h; cases h
    have edge : (a = -9223372036854775808 ∨ b = -9223372036854775808) → flywheelref01_Mul.j2 (k + 2) a b s true = some (hd (a * b)) := by
      intro h
      have big : a * b ≤ -9223372036854775808 ∨ 9223372036854775807 < a * b := by
        rcases h with h | h
        · rw [h]
          rcases Int.lt_trichotomy b 0 with h1 | h1 | h1
          · right; omega
          · exact absurd h1 b0
          · left; omega
        · rw [h]
          rcases Int.lt_trichotomy a 0 with h1 | h1 | h1
          · right; omega
          · exact absurd h1 a0
          · left; omega
      simp only [flywheelref01_Mul.j2, if_true]
      rw [hd_eq]
      cases s
      · have := hs' rfl
        simp only [Bool.false_eq_true, if_false]
        by_cases h2 : a * b < -9223372036854775808
        · rw [if_pos h2]
        · rw [if_neg h2, if_neg (by omega)]; congr 1; omega
      · have := hs.mp rfl
        simp only [if_true]
        rw [if_neg (by omega), if_pos (by omega)]
    simp only [flywheelref01_Mul.j1]
    by_cases am : a = -9223372036854775808
    · rw [if_pos am]; exact edge (.inl am)
    rw [if_neg am]
    by_cases bm : b = -9223372036854775808
    · have e1 : (b == -9223372036854775808) = true := beq_iff_eq.mpr bm
      rw [e1]; exact edge (.inr bm)
    have e1 : (b == -9223372036854775808) = false := beq_eq_false_iff_ne.mpr bm
    rw [e1]
    simp only [flywheelref01_Mul.j2, Bool.false_eq_true, if_false]
    rw [rabs_eq _ (by omega) ha, rabs_eq _ (by omega) hb]
    simp only [Option.bind_some]
    have xa : hd (ab a) = ab a := hd_id (by unfold isI64 ab; split <;> omega)
    have xb : hd (ab b) = ab b := hd_id (by unfold isI64 ab; split <;> omega)
    rw [xa, xb]
    have pa : 0 < ab a := by unfold ab; split <;> omega
    have pb : 0 < ab b := by unfold ab; split <;> omega
    have q : Int.tdiv 9223372036854775807 (ab b) = 9223372036854775807 / ab b := Int.tdiv_eq_ediv_of_nonneg (by decide)
    have q1 : 9223372036854775807 / ab b ≤ 9223372036854775807 := Int.ediv_le_self _ (by decide)
    have q0 : 0 ≤ 9223372036854775807 / ab b := Int.ediv_nonneg (by decide) (by omega)
    have tz : ¬ ab b = 0 := by omega
    rw [q, wrap64_id (a := 9223372036854775807 / ab b) (by unfold isI64; omega)]
    have ov := mag_over (x := ab a) (y := ab b) (by omega) pb
    have mm : ab a * ab b = if 0 < a * b then a * b else -(a * b) := by
      unfold ab
      by_cases h1 : a < 0 <;> by_cases h2 : b < 0
      · rw [if_pos h1, if_pos h2, Int.neg_mul_neg, if_pos (Int.mul_pos_of_neg_of_neg h1 h2)]
      · rw [if_pos h1, if_neg h2, if_neg (by have := Int.mul_neg_of_neg_of_pos h1 (show 0 < b by omega); omega), Int.neg_mul]
      · rw [if_neg h1, if_pos h2, if_neg (by have := Int.mul_neg_of_pos_of_neg (show 0 < a by omega) h2; omega), Int.mul_neg]
      · rw [if_neg h1, if_neg h2, if_pos (Int.mul_pos (by omega) (by omega))]
    rw [hd_eq]
    cases s
    · have hn := hs' rfl
      rw [if_neg (by omega)] at mm
      simp only [Bool.false_eq_true, if_false]
      rw [if_neg tz]
      by_cases h2 : ab a > 9223372036854775807 / ab b
      · rw [if_pos h2]
        have := ov.mp h2
        by_cases h3 : a * b < -9223372036854775808
        · rw [if_pos h3]
        · rw [if_neg h3, if_neg (by omega)]; congr 1; omega
      · rw [if_neg h2]
        have : ¬ (ab a * ab b > 9223372036854775807) := fun h => h2 (ov.mpr h)
        rw [wrap64_id (by unfold isI64; omega), if_neg (by omega), if_neg (by omega)]
    · have hp := hs.mp rfl
      rw [if_pos hp] at mm
      simp only [if_true]
      rw [if_neg tz]
      by_cases h2 : ab a > 9223372036854775807 / ab b
      · rw [if_pos h2]
        have := ov.mp h2
        rw [if_neg (by omega), if_pos (by omega)]
      · rw [if_neg h2]
        have : ¬ (ab a * ab b > 9223372036854775807) := fun h => h2 (ov.mpr h)
        rw [wrap64_id (by unfold isI64; omega), if_neg (by omega), if_neg (by omega)]
  by_cases ap : a > 0
  · rw [if_pos ap]
    by_cases bp : b > 0
    · rw [if_pos bp]; exact rest true ⟨fun _ => Int.mul_pos ap bp, fun _ => rfl⟩
    · rw [if_neg bp]; exact rest false ⟨fun h => (by cases h), fun h => by have := Int.mul_neg_of_pos_of_neg ap (show b < 0 by omega); omega⟩
  · rw [if_neg ap]
    by_cases bp : b > 0
    · rw [if_pos bp]; exact rest false ⟨fun h => (by cases h), fun h => by have := Int.mul_neg_of_neg_of_pos (show a < 0 by omega) bp; omega⟩
    · rw [if_neg bp]; exact rest true ⟨fun _ => Int.mul_pos_of_neg_of_neg (by omega) (by omega), fun _ => rfl⟩
theorem rof_eq {a : Int} (k : Nat) (hk : 6 ≤ k) (ha : isI64 a) : flywheelref03_Of.f k a = some (hd (a * 4294967296)) := by
  unfold flywheelref03_Of.f
  rw [rmul_eq k hk ha (isI64_mk (by decide) (by decide))]; rfl
end Go.Proofs.Ytaelmmbodigheaa.P
end

section
namespace Go.Proofs.Ytaelmmbodigheaa.P
open Go.RowKit Go.Proofs.YtaelmmbodigheaaW.PrintWords Go.Proofs.YtaelmmbodigheaaW.PrintLast Go.Proofs.YtaelmmbodigheaaW.PrintMore
set_option linter.unusedVariables false
set_option linter.unusedSimpArgs false
theorem held_eq {hi lo v : Int} (h0 : 0 ≤ hi) (h1 : hi < 18446744073709551616) (l0 : 0 ≤ lo) (l1 : lo < 18446744073709551616)
    (hv : v = (if hi < 9223372036854775808 then hi else hi - 18446744073709551616) * 18446744073709551616 + lo) : sat_held.f hi lo = some (hd v) := by
  unfold sat_held.f
  rw [hd_eq, u64_mod]
  have w1 : wrap64 lo = if lo < 9223372036854775808 then lo else lo - 18446744073709551616 := by unfold wrap64; omega
  have w2 : wrap64 hi = if hi < 9223372036854775808 then hi else hi - 18446744073709551616 := by unfold wrap64; omega
  rw [w1, w2]
  generalize hl : (if lo < 9223372036854775808 then lo else lo - 18446744073709551616) = L
  generalize hh : (if hi < 9223372036854775808 then hi else hi - 18446744073709551616) = H at hv
  have L1 : L = lo ∧ lo < 9223372036854775808 ∨ L = lo - 18446744073709551616 ∧ 9223372036854775808 ≤ lo := by
    rw [← hl]; split <;> omega
  have H1 : H = hi ∧ hi < 9223372036854775808 ∨ H = hi - 18446744073709551616 ∧ 9223372036854775808 ≤ hi := by
    rw [← hh]; split <;> omega
  clear hl hh w1 w2
  by_cases c : L / 9223372036854775808 % 18446744073709551616 = hi
  · rw [if_pos c, if_neg (by omega), if_neg (by omega)]; congr 1; omega
  · rw [if_neg c]
    by_cases s : H < 0
    · rw [if_pos s, if_pos (by omega)]
    · rw [if_neg s, if_neg (by omega), if_pos (by omega)]
theorem and_none (y : Int) : Go.bits .and .u64 0 y = 0 := by
  unfold Go.bits
  rw [u64_mod]
  show ((0#64 &&& BitVec.ofInt 64 y).toNat : Int) % 18446744073709551616 = 0
  rw [BitVec.zero_and]; rfl
theorem and_every (y : Int) (h0 : 0 ≤ y) (h1 : y < 18446744073709551616) : Go.bits .and .u64 18446744073709551615 y = y := by
  unfold Go.bits
  rw [u64_mod]
  show ((BitVec.allOnes 64 &&& BitVec.ofInt 64 y).toNat : Int) % 18446744073709551616 = y
  rw [BitVec.allOnes_and, BitVec.toNat_ofInt]
  show ((y % 18446744073709551616).toNat : Int) % 18446744073709551616 = y
  omega
theorem sign_and {a y : Int} (ha : isI64 a) (h0 : 0 ≤ y) (h1 : y < 18446744073709551616) :
    Go.bits .and .u64 (IntKind.u64.wrap (a / 9223372036854775808)) y = if a < 0 then y else 0 := by
  unfold isI64 at ha
  rw [u64_mod]
  by_cases h : a < 0
  · rw [if_pos h, show a / 9223372036854775808 % 18446744073709551616 = 18446744073709551615 by omega, and_every y h0 h1]
  · rw [if_neg h, show a / 9223372036854775808 % 18446744073709551616 = 0 by omega, and_none]
theorem prod_span {a b : Int} (ha : isI64 a) (hb : isI64 b) : -85070591730234615865843651857942052864 ≤ a * b ∧ a * b ≤ 85070591730234615865843651857942052864 := by
  unfold isI64 at ha hb
  by_cases h1 : a < 0 <;> by_cases h2 : b < 0
  · have := abs_mul_le (a := -a) (b := -b) (by omega) (by omega) (by omega) (by omega)
    rw [Int.neg_mul_neg] at this
    have := Int.mul_nonneg_of_nonpos_of_nonpos (show a ≤ 0 by omega) (show b ≤ 0 by omega); omega
  · have := abs_mul_le (a := -a) (b := b) (by omega) (by omega) (by omega) (by omega)
    rw [Int.neg_mul] at this
    have := Int.mul_nonpos_of_nonpos_of_nonneg (show a ≤ 0 by omega) (show 0 ≤ b by omega); omega
  · have := abs_mul_le (a := a) (b := -b) (by omega) (by omega) (by omega) (by omega)
    rw [Int.mul_neg] at this
    have := Int.mul_nonpos_of_nonneg_of_nonpos (show 0 ≤ a by omega) (show b ≤ 0 by omega); omega
  · have := abs_mul_le (a := a) (b := b) (by omega) (by omega) (by omega) (by omega)
    have := Int.mul_nonneg (show 0 ≤ a by omega) (show 0 ≤ b by omega); omega
theorem mul_eq {a b : Int} (ha : isI64 a) (hb : isI64 b) : sat_Mul.f a b = some (hd (a * b)) := by
  have sp := prod_span ha hb
  have ha' := ha; have hb' := hb
  unfold isI64 at ha' hb'
  unfold sat_Mul.f
  have ua : IntKind.u64.wrap a = if a < 0 then a + 18446744073709551616 else a := by rw [u64_mod]; split <;> omega
  have ub : IntKind.u64.wrap b = if b < 0 then b + 18446744073709551616 else b := by rw [u64_mod]; split <;> omega
  have a0 : 0 ≤ IntKind.u64.wrap a ∧ IntKind.u64.wrap a < 18446744073709551616 := by rw [u64_mod]; omega
  have b0 : 0 ≤ IntKind.u64.wrap b ∧ IntKind.u64.wrap b < 18446744073709551616 := by rw [u64_mod]; omega
  rw [sign_and ha b0.1 b0.2, sign_and hb a0.1 a0.2, mul64_ok _ _ a0.1 a0.2 b0.1 b0.2]
  simp only [Option.bind_some]
  have key : ∀ N C q : Int, N = q + C * 18446744073709551616 ∨ N = q + C * 18446744073709551616 - 340282366920938463463374607431768211456 → -85070591730234615865843651857942052864 ≤ q → q ≤ 85070591730234615865843651857942052864 →
      sat_held.f (IntKind.u64.wrap (N / 18446744073709551616 - IntKind.u64.wrap C)) (N % 18446744073709551616) = some (hd q) := by
    intro N C q hN q0 q1
    rw [u64_mod, u64_mod]
    refine held_eq (by omega) (by omega) (by omega) (by omega) ?_
    split <;> omega
  have fin : ∀ x : Option Int, x = some (hd (a * b)) → (x.bind fun t => some t) = some (hd (a * b)) := by intro x h; rw [h]; rfl
  refine fin _ (key _ _ _ ?_ sp.1 sp.2)
  rw [ua, ub]
  by_cases h1 : a < 0 <;> by_cases h2 : b < 0
  · simp only [h1, h2, if_true]
    right
    rw [Int.add_mul, Int.mul_add, Int.mul_add]; omega
  · simp only [h1, h2, if_true, if_false]
    left
    rw [Int.add_mul]; omega
  · simp only [h1, h2, if_true, if_false]
    left
    rw [Int.mul_add]; omega
  · simp only [h1, h2, if_false]
    left; omega
theorem neg_eq {a : Int} (ha : isI64 a) : sat_Neg.f a = some (hd (-a)) := by
  unfold isI64 at ha
  unfold sat_Neg.f sat_negative.f
  have ua : IntKind.u64.wrap a = if a < 0 then a + 18446744073709551616 else a := by rw [u64_mod]; split <;> omega
  have us : IntKind.u64.wrap (a / 9223372036854775808) = if a < 0 then 18446744073709551615 else 0 := by rw [u64_mod]; split <;> omega
  have c0 : sub64c 0 (IntKind.u64.wrap a) 0 = if a = 0 then 0 else 1 := by
    rw [ua]; unfold sub64c; split <;> split <;> split <;> omega
  have s0 : sub64s 0 (IntKind.u64.wrap a) 0 = (-a) % 18446744073709551616 := by
    rw [ua]; unfold sub64s; split <;> omega
  rw [c0, s0, us]
  rw [if_pos (by split <;> omega)]
  simp only [Option.bind_some]
  have s1 : sub64s 0 (if a < 0 then 18446744073709551615 else 0) (if a = 0 then 0 else 1) = if 0 < a then 18446744073709551615 else 0 := by
    unfold sub64s; split <;> split <;> split <;> omega
  rw [s1, held_eq (v := -a) (by split <;> omega) (by split <;> omega) (by omega) (by omega) (by split <;> split <;> omega)]
  rfl
theorem abs_eq {a : Int} (ha : isI64 a) : sat_Abs.f a = some (hd (ab a)) := by
  unfold sat_Abs.f
  rw [neg_eq ha]
  have ha' := ha
  unfold isI64 at ha'
  simp only [Option.bind_some, Option.some.injEq, hd_eq]
  unfold mx ab
  repeat' split
  all_goals omega
theorem clamp_eq (a lo hi : Int) : sat_Clamp.f a lo hi = some (if a < lo then lo else if a > hi then hi else a) := by
  unfold sat_Clamp.f
  split
  · rfl
  · split <;> rfl
theorem add64_two {hi lo a : Int} (h0 : 0 ≤ hi) (h1 : hi < 18446744073709551616) (l0 : 0 ≤ lo) (l1 : lo < 18446744073709551616) (ha : isI64 a) :
    add64c lo (IntKind.u64.wrap a) 0 ≤ 1 ∧ add64s lo (IntKind.u64.wrap a) 0 = (lo + a) % 18446744073709551616 ∧
    add64s hi (IntKind.u64.wrap (a / 9223372036854775808)) (add64c lo (IntKind.u64.wrap a) 0) = (hi + (lo + a) / 18446744073709551616) % 18446744073709551616 := by
  unfold isI64 at ha
  have ua : IntKind.u64.wrap a = if a < 0 then a + 18446744073709551616 else a := by rw [u64_mod]; split <;> omega
  have us : IntKind.u64.wrap (a / 9223372036854775808) = if a < 0 then 18446744073709551615 else 0 := by rw [u64_mod]; split <;> omega
  rw [ua, us]
  unfold add64c add64s
  refine ⟨?_, ?_, ?_⟩ <;> (by_cases h : a < 0 <;> simp only [h, if_true, if_false] <;> omega)
theorem add_eq {a b : Int} (k : Nat) (hk : 3 ≤ k) (ha : isI64 a) (hb : isI64 b) : sat_Add.f k a b = some (hd (a + b)) := by
  obtain ⟨k, rfl⟩ : ∃ j, k = j + 3 := ⟨k - 3, by omega⟩
  unfold sat_Add.f sat_plus.f
  have t1 := add64_two (hi := 0) (lo := 0) (by decide) (by decide) (by decide) (by decide) ha
  have ha' := ha; have hb' := hb
  unfold isI64 at ha' hb'
  have t2 := add64_two (hi := (0 + (0 + a) / 18446744073709551616) % 18446744073709551616) (lo := (0 + a) % 18446744073709551616) (by omega) (by omega) (by omega) (by omega) hb
  have r0 : rd [a, b] 0 = a := rfl
  have r1 : rd [a, b] 1 = b := rfl
  have w1 : wrap64 (0 + 1) = 1 := wrap64_id (isI64_mk (by decide) (by decide))
  have w2 : wrap64 (1 + 1) = 2 := wrap64_id (isI64_mk (by decide) (by decide))
  simp only [sat_plus.l0, List.length_cons, List.length_nil, r0, r1, w1, w2, t1.2.1, t1.2.2, t2.2.1, t2.2.2]
  rw [if_pos (by decide), if_pos (by decide), if_pos (by decide), if_pos t1.1, if_pos (by decide), if_pos (by decide), if_pos (by decide), if_pos t2.1, if_neg (by decide)]
  simp only [Option.bind_some]
  rw [held_eq (v := a + b) (by omega) (by omega) (by omega) (by omega) (by split <;> omega)]
  rfl
end Go.Proofs.Ytaelmmbodigheaa.P
end

section
namespace Go.Proofs.Ytaelmmbodigheaa.P
open Go.RowKit Go.Proofs.YtaelmmbodigheaaW.PrintWords Go.Proofs.YtaelmmbodigheaaW.PrintLast Go.Proofs.YtaelmmbodigheaaW.PrintMore
set_option linter.unusedVariables false
set_option linter.unusedSimpArgs false
def cl (x lo hi : Int) : Int := if x < lo then lo else if x > hi then hi else x
def nn (n : Int) : Int := mn (mx n 0) 60
def dS (slope n : Int) : Int := hd (4 * nn n * slope)
def dT (t : Int) : Int := cl t 0 1000000
def dThr (thr s m : Int) : Int :=
  if hd (ab s) > thr + 64424509440 then thr
  else cl (thr + (hd (ab s) - thr) * ((if hd (ab s) < thr then 168 else 43) * m) / 4294967296) 25769803776 2576980377600
def dU (u thr us ti sg s t : Int) : Int × Int × Int :=
  if s > thr then (if (if us > 0 then us + t else mx (t / 2) 1) > 10000 ∧ ti + 1 > 1 ∧ s ≥ sg then (1, 0, 0) else (u, if us > 0 then us + t else mx (t / 2) 1, ti + 1))
  else if s < -thr then (2, 0, 0) else (0, 0, 0)
def TR (thr : Int) : Prop := 25769803776 ≤ thr ∧ thr ≤ 2576980377600
theorem nn_span (n : Int) : 0 ≤ nn n ∧ nn n ≤ 60 := by unfold nn mn mx; repeat' split <;> omega
theorem dT_span (t : Int) : 0 ≤ dT t ∧ dT t ≤ 1000000 := by unfold dT cl; repeat' split <;> omega
theorem ab_span {s : Int} (h : isI64 s) : 0 ≤ hd (ab s) ∧ hd (ab s) ≤ 9223372036854775807 := by
  unfold isI64 at h; rw [hd_eq]; unfold ab; repeat' split <;> omega
theorem cl_span (x lo hi : Int) (h : lo ≤ hi) : lo ≤ cl x lo hi ∧ cl x lo hi ≤ hi := by unfold cl; repeat' split <;> omega
theorem dThr_TR {thr s m : Int} (h : TR thr) : TR (dThr thr s m) := by
  unfold dThr
  split
  · exact h
  · exact cl_span _ _ _ (by decide)
theorem fof (n v : Int) (h : isI64 n) (hv : hd (n * 4294967296) = v) : fixed_Of.f n = some v := by
  unfold fixed_Of.f; rw [mul_eq h (isI64_mk (by decide) (by decide)), hv]; rfl
theorem rfof (n v : Int) (k : Nat) (hk : 6 ≤ k) (h : isI64 n) (hv : hd (n * 4294967296) = v) : flywheelref03_Of.f k n = some v := by rw [rof_eq k hk h, hv]
theorem fof6 : fixed_Of.f 6 = some 25769803776 := fof _ _ (isI64_mk (by decide) (by decide)) (by rw [hd_eq]; decide)
theorem fof15 : fixed_Of.f 15 = some 64424509440 := fof _ _ (isI64_mk (by decide) (by decide)) (by rw [hd_eq]; decide)
theorem fof25 : fixed_Of.f 25 = some 107374182400 := fof _ _ (isI64_mk (by decide) (by decide)) (by rw [hd_eq]; decide)
theorem fof600 : fixed_Of.f 600 = some 2576980377600 := fof _ _ (isI64_mk (by decide) (by decide)) (by rw [hd_eq]; decide)
theorem rfof6 (k : Nat) (hk : 6 ≤ k) : flywheelref03_Of.f k 6 = some 25769803776 := rfof _ _ k hk (isI64_mk (by decide) (by decide)) (by rw [hd_eq]; decide)
theorem rfof15 (k : Nat) (hk : 6 ≤ k) : flywheelref03_Of.f k 15 = some 64424509440 := rfof _ _ k hk (isI64_mk (by decide) (by decide)) (by rw [hd_eq]; decide)
theorem rfof25 (k : Nat) (hk : 6 ≤ k) : flywheelref03_Of.f k 25 = some 107374182400 := rfof _ _ k hk (isI64_mk (by decide) (by decide)) (by rw [hd_eq]; decide)
theorem rfof600 (k : Nat) (hk : 6 ≤ k) : flywheelref03_Of.f k 600 = some 2576980377600 := rfof _ _ k hk (isI64_mk (by decide) (by decide)) (by rw [hd_eq]; decide)
theorem by_span {thr a m q : Int} (h : TR thr) (h0 : 0 ≤ a) (h1 : a ≤ thr + 64424509440) (m0 : 0 ≤ m) (m1 : m ≤ 100000) (hq : q = 168 ∨ q = 43) :
    isI64 (a - thr) ∧ isI64 (q * m) ∧ -4611686018427387904 ≤ (a - thr) * (q * m) / 4294967296 ∧ (a - thr) * (q * m) / 4294967296 ≤ 4611686018427387904 := by
  unfold TR at h
  have b0 : 0 ≤ q * m ∧ q * m ≤ 16800000 := by rcases hq with rfl | rfl <;> omega
  generalize q * m = p at b0 ⊢
  have d0 : -2576980377600 ≤ a - thr ∧ a - thr ≤ 64424509440 := by omega
  generalize a - thr = d at d0 ⊢
  have l1 : -2576980377600 * 16800000 ≤ d * p := by
    by_cases hd0 : 0 ≤ d
    · have := Int.mul_nonneg hd0 b0.1; omega
    · have := Int.mul_le_mul (a := -d) (b := p) (c := 2576980377600) (d := 16800000) (by omega) b0.2 b0.1 (by decide)
      rw [Int.neg_mul] at this; omega
  have l2 : d * p ≤ 64424509440 * 16800000 := by
    by_cases hd0 : 0 ≤ d
    · exact Int.mul_le_mul d0.2 b0.2 b0.1 (by decide)
    · have := Int.mul_nonneg (a := -d) (b := p) (by omega) b0.1
      rw [Int.neg_mul] at this; omega
  exact ⟨isI64_mk (by omega) (by omega), isI64_mk (by omega) (by omega), by omega, by omega⟩
theorem moves_eq {u thr us ti sg nx s m : Int} (k : Nat) (hk : 4 ≤ k) (h : TR thr) (hs : isI64 s) (m0 : 0 ≤ m) (m1 : m ≤ 100000) :
    detect_Detector_moves.f k u thr us ti sg nx (hd (ab s)) m = some (u, dThr thr s m, us, ti, sg, nx) := by
  obtain ⟨k, rfl⟩ : ∃ j, k = j + 1 := ⟨k - 1, by omega⟩
  have hsp := ab_span hs
  have h' := h
  unfold TR at h'
  unfold detect_Detector_moves.f dThr
  rw [fof15]
  simp only [Option.bind_some]
  rw [add_eq _ (by omega) (isI64_mk (by omega) (by omega)) (isI64_mk (by decide) (by decide)), hd_id (x := thr + 64424509440) (isI64_mk (by omega) (by omega))]
  simp only [Option.bind_some]
  have go : ∀ q, (q = 168 ∨ q = 43) → hd (ab s) ≤ thr + 64424509440 → detect_Detector_moves.j0 (k + 1) (hd (ab s)) m q u thr us ti sg nx = some (u, cl (thr + (hd (ab s) - thr) * (q * m) / 4294967296) 25769803776 2576980377600, us, ti, sg, nx) := by
    intro q hq hle
    obtain ⟨e1, e2, e3, e4⟩ := by_span h hsp.1 hle m0 m1 hq
    simp only [detect_Detector_moves.j0]
    rw [wrap64_id e1, wrap64_id e2, do_eq 1 e1 e2 (isI64_mk (by decide) (by decide)), md_down (by decide) (isI64_mk (by omega) (by omega))]
    simp only [Option.bind_some]
    rw [add_eq _ (by omega) (isI64_mk (by omega) (by omega)) (isI64_mk (by omega) (by omega)), hd_id (isI64_mk (by omega) (by omega)), fof6, fof600]
    simp only [Option.bind_some, clamp_eq]
    rfl
  by_cases c : hd (ab s) > thr + 64424509440
  · rw [if_pos c, if_pos c]
  · rw [if_neg c, if_neg c]
    by_cases d : hd (ab s) < thr
    · rw [if_pos d, if_pos d, go 168 (.inl rfl) (by omega)]
    · rw [if_neg d, if_neg d, go 43 (.inr rfl) (by omega)]
theorem mul_nn {slope n : Int} (h : isI64 slope) : sat_Mul.f (4 * nn n) slope = some (dS slope n) := by
  have := nn_span n
  rw [mul_eq (isI64_mk (by omega) (by omega)) h]; rfl
theorem dadd_eq {u thr us ti sg nx slope n ticks now : Int} (k : Nat) (hk : 4 ≤ k) (h : TR thr) (us0 : 0 ≤ us) (us1 : us ≤ 1000000000000) (ti0 : 0 ≤ ti) (ti1 : ti ≤ 1000000000000) (hs : isI64 slope) :
    detect_Detector_Add.f k u thr us ti sg nx slope n ticks now =
      some ((dU u thr us ti sg (dS slope n) (dT ticks)).1, (dU u thr us ti sg (dS slope n) (dT ticks)).1, dThr thr (dS slope n) (mn (dT ticks) 100000), (dU u thr us ti sg (dS slope n) (dT ticks)).2.1, (dU u thr us ti sg (dS slope n) (dT ticks)).2.2, dS slope n, nx) := by
  have ht := dT_span ticks
  have hS : isI64 (dS slope n) := hd_i64 _
  unfold detect_Detector_Add.f
  rw [clamp_eq]
  simp only [Option.bind_some]
  rw [show (if ticks < 0 then 0 else if ticks > 1000000 then 1000000 else ticks) = dT ticks from rfl, show mn (mx n 0) 60 = nn n from rfl, mul_nn hs]
  simp only [Option.bind_some]
  generalize dS slope n = S at hS ⊢
  generalize dT ticks = T at ht ⊢
  have hm : 0 ≤ mn T 100000 ∧ mn T 100000 ≤ 100000 := by unfold mn; split <;> omega
  have td : Int.tdiv T 2 = T / 2 := Int.tdiv_eq_ediv_of_nonneg ht.1
  have h' := h
  unfold TR at h'
  rw [td, wrap64_id (a := T / 2) (isI64_mk (by omega) (by omega)), wrap64_id (a := us + T) (isI64_mk (by omega) (by omega)), wrap64_id (a := ti + 1) (isI64_mk (by omega) (by omega)), wrap64_id (a := -thr) (isI64_mk (by omega) (by omega))]
  simp only [abs_eq hS, Option.bind_some, moves_eq k hk h hS hm.1 hm.2]
  unfold dU
  by_cases c1 : S > thr
  · simp only [c1, if_true]
    by_cases c2 : us > 0
    · simp only [c2, if_true]
      by_cases c3 : us + T > 10000 <;> by_cases c4 : ti + 1 > 1 <;> by_cases c5 : S ≥ sg <;> simp only [c3, c4, c5, if_true, if_false, and_true, true_and, and_false, false_and]
    · simp only [c2, if_false]
      by_cases c3 : mx (T / 2) 1 > 10000 <;> by_cases c4 : ti + 1 > 1 <;> by_cases c5 : S ≥ sg <;> simp only [c3, c4, c5, if_true, if_false, and_true, true_and, and_false, false_and]
  · simp only [c1, if_false]
    by_cases c2 : S < -thr <;> simp only [c2, if_true, if_false]
theorem rmul_nn {slope n : Int} (k : Nat) (hk : 6 ≤ k) (h : isI64 slope) : flywheelref01_Mul.f k (4 * (mn (mx 0 (mn n 1000)) 60)) slope = some (dS slope n) := by
  have e : mn (mx 0 (mn n 1000)) 60 = nn n := by unfold nn mn mx; repeat' split <;> omega
  have := nn_span n
  rw [e, rmul_eq k hk (isI64_mk (by omega) (by omega)) h]; rfl
theorem radd_eq {u thr us ti sg slope n ticks : Int} (k : Nat) (hk : 8 ≤ k) (h : TR thr) (us0 : 0 ≤ us) (us1 : us ≤ 1000000000000) (ti0 : 0 ≤ ti) (ti1 : ti ≤ 1000000000000) (hs : isI64 slope) :
    flywheelref18_Detector_Add.f k thr us sg ti u slope n ticks =
      some ((dU u thr us ti sg (dS slope n) (dT ticks)).1, dThr thr (dS slope n) (mn (dT ticks) 100000), (dU u thr us ti sg (dS slope n) (dT ticks)).2.1, dS slope n, (dU u thr us ti sg (dS slope n) (dT ticks)).2.2, (dU u thr us ti sg (dS slope n) (dT ticks)).1) := by
  obtain ⟨k, rfl⟩ : ∃ j, k = j + 2 := ⟨k - 2, by omega⟩
  have ht := dT_span ticks
  have hS : isI64 (dS slope n) := hd_i64 _
  unfold flywheelref18_Detector_Add.f
  rw [rclamp_eq]
  simp only [Option.bind_some]
  rw [show (if ticks < 0 then 0 else if ticks > 1000000 then 1000000 else ticks) = dT ticks from rfl, rmul_nn _ (by omega) hs]
  simp only [Option.bind_some]
  generalize dS slope n = S at hS ⊢
  generalize dT ticks = T at ht ⊢
  have hm : 0 ≤ mn T 100000 ∧ mn T 100000 ≤ 100000 := by unfold mn; split <;> omega
  have td : Int.tdiv T 2 = T / 2 := Int.tdiv_eq_ediv_of_nonneg ht.1
  have h' := h
  unfold TR at h'
  rw [td, wrap64_id (a := T / 2) (isI64_mk (by omega) (by omega)), wrap64_id (a := us + T) (isI64_mk (by omega) (by omega)), wrap64_id (a := ti + 1) (isI64_mk (by omega) (by omega)), wrap64_id (a := -thr) (isI64_mk (by omega) (by omega))]
  have go1 : ∀ q us ti u, (q = 168 ∨ q = 43) → hd (ab S) ≤ thr + 64424509440 → flywheelref18_Detector_Add.j1 (k + 1) T S (hd (ab S)) q thr us sg ti u = some (u, cl (thr + (hd (ab S) - thr) * (q * mn T 100000) / 4294967296) 25769803776 2576980377600, us, S, ti, u) := by
    intro q us ti u hq hle
    obtain ⟨e1, e2, e3, e4⟩ := by_span h (ab_span hS).1 hle hm.1 hm.2 hq
    simp only [flywheelref18_Detector_Add.j1]
    rw [wrap64_id e1, wrap64_id e2]
    unfold flywheelref02_Do.f flywheelref02_Did_s.f
    rw [if_pos ⟨e1, e2, isI64_mk (by decide) (by decide)⟩]
    have e5 : (mdq (hd (ab S) - thr) (q * mn T 100000) 4294967296 1).1 = (hd (ab S) - thr) * (q * mn T 100000) / 4294967296 := md_down (by decide) (isI64_mk (by omega) (by omega))
    simp only [Option.bind_some]
    rw [e5, rfof6 _ (by omega), rfof600 _ (by omega)]
    simp only [Option.bind_some]
    rw [wrap64_id (isI64_mk (by omega) (by omega))]
    simp only [Option.bind_some, rclamp_eq]
    rfl
  have go : ∀ us ti u, flywheelref18_Detector_Add.j0 (k + 2) T S thr us sg ti u = some (u, dThr thr S (mn T 100000), us, S, ti, u) := by
    intro us ti u
    simp only [flywheelref18_Detector_Add.j0]
    rw [rabs_eq _ (by omega) hS, rfof15 _ (by omega)]
    simp only [Option.bind_some]
    rw [wrap64_id (a := thr + 64424509440) (isI64_mk (by omega) (by omega))]
    unfold dThr
    by_cases c : hd (ab S) > thr + 64424509440
    · rw [if_neg (by omega), if_pos c, rfof6 _ (by omega), rfof600 _ (by omega)]
      simp only [Option.bind_some, rclamp_eq]
      rw [if_neg (by omega), if_neg (by omega)]
    · rw [if_pos (by omega), if_neg c]
      by_cases d : hd (ab S) < thr
      · rw [if_pos d, if_pos d, go1 168 _ _ _ (.inl rfl) (by omega)]
      · rw [if_neg d, if_neg d, go1 43 _ _ _ (.inr rfl) (by omega)]
  have mxc : mx 1 (T / 2) = mx (T / 2) 1 := by unfold mx; repeat' split <;> omega
  simp only [go, mxc]
  unfold dU
  by_cases c1 : S > thr
  · simp only [c1, if_true]
    by_cases c2 : us > 0
    · simp only [c2, if_true]
      by_cases c3 : us + T > 10000 <;> by_cases c4 : ti + 1 > 1 <;> by_cases c5 : S ≥ sg <;> simp only [c3, c4, c5, if_true, if_false, and_true, true_and, and_false, false_and]
    · simp only [c2, if_false]
      by_cases c3 : mx (T / 2) 1 > 10000 <;> by_cases c4 : ti + 1 > 1 <;> by_cases c5 : S ≥ sg <;> simp only [c3, c4, c5, if_true, if_false, and_true, true_and, and_false, false_and]
  · simp only [c1, if_false]
    by_cases c2 : S < -thr <;> simp only [c2, if_true, if_false]
def DOk (i : Nat) (u thr us ti : Int) : Prop := 0 ≤ u ∧ u ≤ 2 ∧ TR thr ∧ 0 ≤ us ∧ us ≤ 1000000 * i ∧ 0 ≤ ti ∧ ti ≤ i
theorem DOk.start : DOk 0 0 53687091200 0 0 := ⟨by decide, by decide, ⟨by decide, by decide⟩, by decide, by decide, by decide, by decide⟩
theorem DOk.step {i : Nat} {u thr us ti : Int} (h : DOk i u thr us ti) (sg s t m : Int) (ht : 0 ≤ t ∧ t ≤ 1000000) :
    DOk (i + 1) (dU u thr us ti sg s t).1 (dThr thr s m) (dU u thr us ti sg s t).2.1 (dU u thr us ti sg s t).2.2 := by
  obtain ⟨h1, h2, h3, h4, h5, h6, h7⟩ := h
  have h8 := dThr_TR (s := s) (m := m) h3
  generalize dThr thr s m = thr' at h8 ⊢
  unfold dU
  have hx : 0 ≤ mx (t / 2) 1 ∧ mx (t / 2) 1 ≤ 1000000 := by unfold mx; split <;> omega
  generalize mx (t / 2) 1 = X at hx ⊢
  refine ⟨?_, ?_, h8, ?_, ?_, ?_, ?_⟩ <;> (repeat' split) <;> simp only [] <;> omega
theorem new_eq : detect_New.f = some (0, 53687091200, 0, 0, 0, 0) := by
  unfold detect_New.f
  rw [fof25]
  simp only [Option.bind_some]
  rw [show Int.tdiv 107374182400 2 = 53687091200 by decide, wrap64_id (isI64_mk (by decide) (by decide))]
theorem rnew_eq (k : Nat) (hk : 6 ≤ k) : flywheelref18_New.f k = some (53687091200, 0, 0, 0, 0) := by
  unfold flywheelref18_New.f
  rw [rfof25 k hk]
  simp only [Option.bind_some]
  rw [show Int.tdiv 107374182400 2 = 53687091200 by decide, wrap64_id (isI64_mk (by decide) (by decide))]
theorem wakes18 : flywheellaw18_wakes.f 12 = some true := by kernel_rfl
theorem wakes18_ge (k : Nat) (h : 12 ≤ k) : flywheellaw18_wakes.f k = some true := by
  obtain ⟨d, rfl⟩ : ∃ d, k = 12 + d := ⟨k - 12, by omega⟩
  clear h
  induction d with
  | zero => exact wakes18
  | succ d ih => exact flywheellaw18_wakes.mono _ _ ih
end Go.Proofs.Ytaelmmbodigheaa.P
end

section
namespace Go.Proofs.Ytaelmmbodigheaa.Pure
open Go.RowKit Go.Proofs.Ytaelmmbodigheaa.P Go.Proofs.YtaelmmbodigheaaW.PrintWords Go.Proofs.YtaelmmbodigheaaW.PrintLast Go.Proofs.YtaelmmbodigheaaW.PrintMore
set_option linter.unusedVariables false
set_option linter.unusedSimpArgs false
theorem rd_mem {l : List S51} {i : Nat} (h : i < l.length) : rd_T51 l (i : Int) ∈ l := by
  unfold rd_T51
  have : l.getD ((i : Int).toNat) z51 = l[i] := by simp [List.getD, h]
  rw [this]; exact List.getElem_mem h
theorem rd_i64 {l : List S51} (hw : ∀ x ∈ l, (Lit.int .i64 x.f0).wf = true ∧ (Lit.int .i64 x.f1).wf = true ∧ (Lit.int .i64 x.f2).wf = true ∧ (Lit.int .i64 x.f3).wf = true) {i : Nat} (h : i < l.length) : isI64 (rd_T51 l (i : Int)).f0 :=
  isI64_of_wf (hw _ (rd_mem h)).1
theorem dadd {i : Nat} {u thr us ti sg nx slope n ticks now : Int} (k : Nat) (hk : 4 ≤ k) (hi : i ≤ 300) (h : DOk i u thr us ti) (hs : isI64 slope) :
    detect_Detector_Add.f k u thr us ti sg nx slope n ticks now =
      some ((dU u thr us ti sg (dS slope n) (dT ticks)).1, (dU u thr us ti sg (dS slope n) (dT ticks)).1, dThr thr (dS slope n) (mn (dT ticks) 100000), (dU u thr us ti sg (dS slope n) (dT ticks)).2.1, (dU u thr us ti sg (dS slope n) (dT ticks)).2.2, dS slope n, nx) := by
  obtain ⟨h1, h2, h3, h4, h5, h6, h7⟩ := h
  exact dadd_eq k hk h3 h4 (by omega) h6 (by omega) hs
theorem radd {i : Nat} {u thr us ti sg slope n ticks : Int} (k : Nat) (hk : 8 ≤ k) (hi : i ≤ 300) (h : DOk i u thr us ti) (hs : isI64 slope) :
    flywheelref18_Detector_Add.f k thr us sg ti u slope n ticks =
      some ((dU u thr us ti sg (dS slope n) (dT ticks)).1, dThr thr (dS slope n) (mn (dT ticks) 100000), (dU u thr us ti sg (dS slope n) (dT ticks)).2.1, dS slope n, (dU u thr us ti sg (dS slope n) (dT ticks)).2.2, (dU u thr us ti sg (dS slope n) (dT ticks)).1) := by
  obtain ⟨h1, h2, h3, h4, h5, h6, h7⟩ := h
  exact radd_eq k hk h3 h4 (by omega) h6 (by omega) hs
theorem wrap_next (i : Nat) (h : i ≤ 300) : wrap64 ((i : Int) + 1) = ((i + 1 : Nat) : Int) := by rw [wrap64_id (isI64_mk (by omega) (by omega))]; omega
theorem isNone_wakes (k : Nat) (h : 12 ≤ k) : ((flywheellaw18_wakes.f k).bind fun t => some t) = some true := by rw [wakes18_ge k h]; rfl
theorem DetectPlays : flywheellaw18_DetectPlays.Pure := by
  intro l hl hs hw
  have fin : ∀ (k i : Nat) (u thr us ti sg nx : Int) (a b c d e : Int), 13 ≤ k → flywheellaw18_DetectPlays.j1 k l i false u thr us ti sg nx a b c d e = some true := by
    intro k i u thr us ti sg nx a b c d e hk
    obtain ⟨k, rfl⟩ : ∃ j, k = j + 1 := ⟨k - 1, by omega⟩
    simp only [flywheellaw18_DetectPlays.j1, Bool.false_eq_true, if_false]
    exact isNone_wakes k (by omega)
  have loop : ∀ (m i k : Nat) (u thr us ti sg nx : Int), i + m = 200 → 20 + 2 * m ≤ k → DOk i u thr us ti → flywheellaw18_DetectPlays.l0 k l i u thr us ti sg nx thr us sg ti u = some true := by
    intro m
    induction m with
    | zero =>
      intro i k u thr us ti sg nx hi hk h
      obtain ⟨k, rfl⟩ : ∃ j, k = j + 1 := ⟨k - 1, by omega⟩
      simp only [flywheellaw18_DetectPlays.l0]
      rw [show decide ((i : Int) < 200) = false from decide_eq_false (by omega)]
      split <;> exact fin k i _ _ _ _ _ _ _ _ _ _ _ (by omega)
    | succ m ih =>
      intro i k u thr us ti sg nx hi hk h
      obtain ⟨k, rfl⟩ : ∃ j, k = j + 2 := ⟨k - 2, by omega⟩
      simp only [flywheellaw18_DetectPlays.l0]
      by_cases c : (i : Int) < (l.length : Int)
      · rw [if_pos c, show decide ((i : Int) < 200) = true from decide_eq_true (by omega)]
        simp only [flywheellaw18_DetectPlays.j1, if_true]
        rw [if_pos (by omega), if_pos c, dadd k (by omega) (by omega) h (rd_i64 hw (by omega)), radd k (by omega) (by omega) h (rd_i64 hw (by omega))]
        have h' := h.step sg (dS (rd_T51 l (i : Int)).f0 (rd_T51 l (i : Int)).f1) _ (mn (dT (rd_T51 l (i : Int)).f2) 100000) (dT_span (rd_T51 l (i : Int)).f2)
        simp only [Option.bind_some, detect_Detector_Threshold.f, flywheelref18_Detector_Threshold.f, detect_Detector_Usage.f, flywheelref18_Detector_Usage.f, if_true]
        rw [wrap_next i (by omega)]
        exact ih (i + 1) k _ _ _ _ _ _ (by omega) (by omega) h'
      · rw [if_neg c]; exact fin (k + 1) i _ _ _ _ _ _ _ _ _ _ _ (by omega)
  refine ⟨420, ?_⟩
  unfold flywheellaw18_DetectPlays.f
  rw [new_eq, rnew_eq _ (by decide)]
  exact loop 200 0 420 _ _ _ _ _ _ (by omega) (by omega) DOk.start
end Go.Proofs.Ytaelmmbodigheaa.Pure
end

section

end

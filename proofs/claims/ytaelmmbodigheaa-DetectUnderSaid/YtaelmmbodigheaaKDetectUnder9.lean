-- PUT TOGETHER by a program of this session: of the claim's texts, what is used
import Derived.Test.YtaelmmbodigheaaKDetectUnder7
import Derived.Test.YtaelmmbodigheaaKDetectUnder8
import Derived.WalkArith
import Derived.KernelRfl
section
namespace Go.Proofs.Ytaelmmbodigheaa.P
open Go.RowKit
set_option linter.unusedVariables false
set_option linter.unusedSimpArgs false
def md (a b c how : Int) : Int := (mdq a b c how).1
theorem isI64_of_wf {a : Int} (h : (Lit.int .i64 a).wf = true) : isI64 a := by
  simp only [Lit.wf, IntKind.min, IntKind.max, IntKind.signed, IntKind.bits, Bool.and_eq_true, decide_eq_true_eq] at h
  unfold isI64; simp at h; omega
theorem u32_of_wf {a : Int} (h : (Lit.int .u32 a).wf = true) : 0 ≤ a ∧ a ≤ 4294967295 := by
  simp only [Lit.wf, IntKind.min, IntKind.max, IntKind.signed, IntKind.bits, Bool.and_eq_true, decide_eq_true_eq] at h
  simp at h; omega
theorem wrap64_id {a : Int} (h : isI64 a) : wrap64 a = a := by unfold isI64 at h; unfold wrap64; omega
theorem isI64_mk {a : Int} (h : -9223372036854775808 ≤ a) (h' : a ≤ 9223372036854775807) : isI64 a := ⟨h, h'⟩
theorem hold64_i64 (q : Int) : isI64 (hold64 q).1 := by
  unfold hold64 isI64
  split
  · exact ⟨by decide, by decide⟩
  · split
    · exact ⟨by decide, by decide⟩
    · exact ⟨by simp; omega, by simp; omega⟩
theorem hold64_id (q : Int) (h : isI64 q) : hold64 q = (q, true) := by
  unfold isI64 at h; unfold hold64
  rw [if_neg (by omega), if_neg (by omega)]
theorem do_eq {a b c : Int} (how : Int) (ha : isI64 a) (hb : isI64 b) (hc : isI64 c) : muldiv_Do.f a b c how = some (md a b c how) := by
  unfold muldiv_Do.f muldiv_quotient_s.f
  rw [if_pos ⟨ha, hb, hc⟩]; rfl
theorem md_pos {a b c how : Int} (hc : 0 < c) (h1 : 1 ≤ how) (h3 : how ≤ 3) : md a b c how = (hold64 (rnd (a * b) c how)).1 := by
  unfold md mdq
  rw [if_neg (by omega), if_neg (by omega)]
theorem rnd_down (n d : Int) : rnd n d 1 = n / d := by unfold rnd; rw [if_pos rfl]
theorem md_down {a b c : Int} (hc : 0 < c) (h : isI64 (a * b / c)) : md a b c 1 = a * b / c := by
  rw [md_pos hc (by decide) (by decide), rnd_down, hold64_id _ h]
end Go.Proofs.Ytaelmmbodigheaa.P
end

section
namespace Go.Proofs.Ytaelmmbodigheaa.P
open Go.RowKit
set_option linter.unusedVariables false
set_option linter.unusedSimpArgs false
def hd (x : Int) : Int := (hold64 x).1
theorem hd_eq (x : Int) : hd x = if x < -9223372036854775808 then -9223372036854775808 else if x > 9223372036854775807 then 9223372036854775807 else x := by
  unfold hd hold64
  split
  · rfl
  · split <;> rfl
theorem hd_id {x : Int} (h : isI64 x) : hd x = x := by unfold hd; rw [hold64_id _ h]
theorem hd_i64 (x : Int) : isI64 (hd x) := hold64_i64 x
def ab (a : Int) : Int := if a < 0 then -a else a
end Go.Proofs.Ytaelmmbodigheaa.P
end

section
namespace Go.Proofs.Ytaelmmbodigheaa.P
open Go.RowKit Go.Proofs.YtaelmmbodigheaaW.PrintWords Go.Proofs.YtaelmmbodigheaaW.PrintLast Go.Proofs.YtaelmmbodigheaaW.PrintMore
set_option linter.unusedVariables false
set_option linter.unusedSimpArgs false
theorem held_eq {hi lo v : Int} (h0 : 0 ≤ hi) (h1 : hi < 18446744073709551616) (l0 : 0 ≤ lo) (l1 : lo < 18446744073709551616)
    (hv : v = (if hi < 9223372036854775808 then hi else hi - 18446744073709551616) * 18446744073709551616 + lo) : sat_held.f hi lo = some (hd v) := by
  unfold sat_held.f
  rw [hd_eq, u64_mod]
  have w1 : wrap64 lo = if lo < 9223372036854775808 then lo else lo - 18446744073709551616 := by unfold wrap64; omega
  have w2 : wrap64 hi = if hi < 9223372036854775808 then hi else hi - 18446744073709551616 := by unfold wrap64; omega
  rw [w1, w2]
  generalize hl : (if lo < 9223372036854775808 then lo else lo - 18446744073709551616) = L
  generalize hh : (if hi < 9223372036854775808 then hi else hi - 18446744073709551616) = H at hv
  have L1 : L = lo ∧ lo < 9223372036854775808 ∨ L = lo - 18446744073709551616 ∧ 9223372036854775808 ≤ lo := by
    rw [← hl]; split <;> omega
  have H1 : H = hi ∧ hi < 9223372036854775808 ∨ H = hi - 18446744073709551616 ∧ 9223372036854775808 ≤ hi := by
    rw [← hh]; split <;> omega
  clear hl hh w1 w2
  by_cases c : L / 9223372036854775808 % 18446744073709551616 = hi
  · rw [if_pos c, if_neg (by omega), if_neg (by omega)]; congr 1; omega
  · rw [if_neg c]
    by_cases s : H < 0
    · rw [if_pos s, if_pos (by omega)]
    · rw [if_neg s, if_neg (by omega), if_pos (by omega)]
theorem and_none (y : Int) : Go.bits .and .u64 0 y = 0 := by
  unfold Go.bits
  rw [u64_mod]
  show ((0#64 &&& BitVec.ofInt 64 y).toNat : Int) % 18446744073709551616 = 0
  rw [BitVec.zero_and]; rfl
theorem and_every (y : Int) (h0 : 0 ≤ y) (h1 : y < 18446744073709551616) : Go.bits .and .u64 18446744073709551615 y = y := by
  unfold Go.bits
  rw [u64_mod]
  show ((BitVec.allOnes 64 &&& BitVec.ofInt 64 y).toNat : Int) % 18446744073709551616 = y
  rw [BitVec.allOnes_and, BitVec.toNat_ofInt]
  show ((y % 18446744073709551616).toNat : Int) % 18446744073709551616 = y
  omega
theorem sign_and {a y : Int} (ha : isI64 a) (h0 : 0 ≤ y) (h1 : y < 18446744073709551616) :
    Go.bits .and .u64 (IntKind.u64.wrap (a / 9223372036854775808)) y = if a < 0 then y else 0 := by
  unfold isI64 at ha
  rw [u64_mod]
  by_cases h : a < 0
  · rw [if_pos h, show a / 9223372036854775808 % 18446744073709551616 = 18446744073709551615 by omega, and_every y h0 h1]
  · rw [if_neg h, show a / 9223372036854775808 % 18446744073709551616 = 0 by omega, and_none]
theorem prod_span {a b : Int} (ha : isI64 a) (hb : isI64 b) : -85070591730234615865843651857942052864 ≤ a * b ∧ a * b ≤ 85070591730234615865843651857942052864 := by
  unfold isI64 at ha hb
  by_cases h1 : a < 0 <;> by_cases h2 : b < 0
  · have := abs_mul_le (a := -a) (b := -b) (by omega) (by omega) (by omega) (by omega)
    rw [Int.neg_mul_neg] at this
    have := Int.mul_nonneg_of_nonpos_of_nonpos (show a ≤ 0 by omega) (show b ≤ 0 by omega); omega
  · have := abs_mul_le (a := -a) (b := b) (by omega) (by omega) (by omega) (by omega)
    rw [Int.neg_mul] at this
    have := Int.mul_nonpos_of_nonpos_of_nonneg (show a ≤ 0 by omega) (show 0 ≤ b by omega); omega
  · have := abs_mul_le (a := a) (b := -b) (by omega) (by omega) (by omega) (by omega)
    rw [Int.mul_neg] at this
    have := Int.mul_nonpos_of_nonneg_of_nonpos (show 0 ≤ a by omega) (show b ≤ 0 by omega); omega
  · have := abs_mul_le (a := a) (b := b) (by omega) (by omega) (by omega) (by omega)
    have := Int.mul_nonneg (show 0 ≤ a by omega) (show 0 ≤ b by omega); omega
theorem mul_eq {a b : Int} (ha : isI64 a) (hb : isI64 b) : sat_Mul.f a b = some (hd (a * b)) := by
  have sp := prod_span ha hb
  have ha' := ha; have hb' := hb
  unfold isI64 at ha' hb'
  unfold sat_Mul.f
  have ua : IntKind.u64.wrap a = if a < 0 then a + 18446744073709551616 else a := by rw [u64_mod]; split <;> omega
  have ub : IntKind.u64.wrap b = if b < 0 then b + 18446744073709551616 else b := by rw [u64_mod]; split <;> omega
  have a0 : 0 ≤ IntKind.u64.wrap a ∧ IntKind.u64.wrap a < 18446744073709551616 := by rw [u64_mod]; omega
  have b0 : 0 ≤ IntKind.u64.wrap b ∧ IntKind.u64.wrap b < 18446744073709551616 := by rw [u64_mod]; omega
  rw [sign_and ha b0.1 b0.2, sign_and hb a0.1 a0.2, mul64_ok _ _ a0.1 a0.2 b0.1 b0.2]
  simp only [Option.bind_some]
  have key : ∀ N C q : Int, N = q + C * 18446744073709551616 ∨ N = q + C * 18446744073709551616 - 340282366920938463463374607431768211456 → -85070591730234615865843651857942052864 ≤ q → q ≤ 85070591730234615865843651857942052864 →
      sat_held.f (IntKind.u64.wrap (N / 18446744073709551616 - IntKind.u64.wrap C)) (N % 18446744073709551616) = some (hd q) := by
    intro N C q hN q0 q1
    rw [u64_mod, u64_mod]
    refine held_eq (by omega) (by omega) (by omega) (by omega) ?_
    split <;> omega
  have fin : ∀ x : Option Int, x = some (hd (a * b)) → (x.bind fun t => some t) = some (hd (a * b)) := by intro x h; rw [h]; rfl
  refine fin _ (key _ _ _ ?_ sp.1 sp.2)
  rw [ua, ub]
  by_cases h1 : a < 0 <;> by_cases h2 : b < 0
  · simp only [h1, h2, if_true]
    right
    rw [Int.add_mul, Int.mul_add, Int.mul_add]; omega
  · simp only [h1, h2, if_true, if_false]
    left
    rw [Int.add_mul]; omega
  · simp only [h1, h2, if_true, if_false]
    left
    rw [Int.mul_add]; omega
  · simp only [h1, h2, if_false]
    left; omega
theorem neg_eq {a : Int} (ha : isI64 a) : sat_Neg.f a = some (hd (-a)) := by
  unfold isI64 at ha
  unfold sat_Neg.f sat_negative.f
  have ua : IntKind.u64.wrap a = if a < 0 then a + 18446744073709551616 else a := by rw [u64_mod]; split <;> omega
  have us : IntKind.u64.wrap (a / 9223372036854775808) = if a < 0 then 18446744073709551615 else 0 := by rw [u64_mod]; split <;> omega
  have c0 : sub64c 0 (IntKind.u64.wrap a) 0 = if a = 0 then 0 else 1 := by
    rw [ua]; unfold sub64c; split <;> split <;> split <;> omega
  have s0 : sub64s 0 (IntKind.u64.wrap a) 0 = (-a) % 18446744073709551616 := by
    rw [ua]; unfold sub64s; split <;> omega
  rw [c0, s0, us]
  rw [if_pos (by split <;> omega)]
  simp only [Option.bind_some]
  have s1 : sub64s 0 (if a < 0 then 18446744073709551615 else 0) (if a = 0 then 0 else 1) = if 0 < a then 18446744073709551615 else 0 := by
    unfold sub64s; split <;> split <;> split <;> omega
  rw [s1, held_eq (v := -a) (by split <;> omega) (by split <;> omega) (by omega) (by omega) (by split <;> split <;> omega)]
  rfl
theorem abs_eq {a : Int} (ha : isI64 a) : sat_Abs.f a = some (hd (ab a)) := by
  unfold sat_Abs.f
  rw [neg_eq ha]
  have ha' := ha
  unfold isI64 at ha'
  simp only [Option.bind_some, Option.some.injEq, hd_eq]
  unfold mx ab
  repeat' split
  all_goals omega
theorem clamp_eq (a lo hi : Int) : sat_Clamp.f a lo hi = some (if a < lo then lo else if a > hi then hi else a) := by
  unfold sat_Clamp.f
  split
  · rfl
  · split <;> rfl
theorem add64_two {hi lo a : Int} (h0 : 0 ≤ hi) (h1 : hi < 18446744073709551616) (l0 : 0 ≤ lo) (l1 : lo < 18446744073709551616) (ha : isI64 a) :
    add64c lo (IntKind.u64.wrap a) 0 ≤ 1 ∧ add64s lo (IntKind.u64.wrap a) 0 = (lo + a) % 18446744073709551616 ∧
    add64s hi (IntKind.u64.wrap (a / 9223372036854775808)) (add64c lo (IntKind.u64.wrap a) 0) = (hi + (lo + a) / 18446744073709551616) % 18446744073709551616 := by
  unfold isI64 at ha
  have ua : IntKind.u64.wrap a = if a < 0 then a + 18446744073709551616 else a := by rw [u64_mod]; split <;> omega
  have us : IntKind.u64.wrap (a / 9223372036854775808) = if a < 0 then 18446744073709551615 else 0 := by rw [u64_mod]; split <;> omega
  rw [ua, us]
  unfold add64c add64s
  refine ⟨?_, ?_, ?_⟩ <;> (by_cases h : a < 0 <;> simp only [h, if_true, if_false] <;> omega)
theorem add_eq {a b : Int} (k : Nat) (hk : 3 ≤ k) (ha : isI64 a) (hb : isI64 b) : sat_Add.f k a b = some (hd (a + b)) := by
  obtain ⟨k, rfl⟩ : ∃ j, k = j + 3 := ⟨k - 3, by omega⟩
  unfold sat_Add.f sat_plus.f
  have t1 := add64_two (hi := 0) (lo := 0) (by decide) (by decide) (by decide) (by decide) ha
  have ha' := ha; have hb' := hb
  unfold isI64 at ha' hb'
  have t2 := add64_two (hi := (0 + (0 + a) / 18446744073709551616) % 18446744073709551616) (lo := (0 + a) % 18446744073709551616) (by omega) (by omega) (by omega) (by omega) hb
  have r0 : rd [a, b] 0 = a := rfl
  have r1 : rd [a, b] 1 = b := rfl
  have w1 : wrap64 (0 + 1) = 1 := wrap64_id (isI64_mk (by decide) (by decide))
  have w2 : wrap64 (1 + 1) = 2 := wrap64_id (isI64_mk (by decide) (by decide))
  simp only [sat_plus.l0, List.length_cons, List.length_nil, r0, r1, w1, w2, t1.2.1, t1.2.2, t2.2.1, t2.2.2]
  rw [if_pos (by decide), if_pos (by decide), if_pos (by decide), if_pos t1.1, if_pos (by decide), if_pos (by decide), if_pos (by decide), if_pos t2.1, if_neg (by decide)]
  simp only [Option.bind_some]
  rw [held_eq (v := a + b) (by omega) (by omega) (by omega) (by omega) (by split <;> omega)]
  rfl
end Go.Proofs.Ytaelmmbodigheaa.P
end

section
namespace Go.Proofs.Ytaelmmbodigheaa.P
open Go.RowKit Go.Proofs.YtaelmmbodigheaaW.PrintWords Go.Proofs.YtaelmmbodigheaaW.PrintLast Go.Proofs.YtaelmmbodigheaaW.PrintMore
set_option linter.unusedVariables false
set_option linter.unusedSimpArgs false
def cl (x lo hi : Int) : Int := if x < lo then lo else if x > hi then hi else x
def nn (n : Int) : Int := mn (mx n 0) 60
def dS (slope n : Int) : Int := hd (4 * nn n * slope)
def dT (t : Int) : Int := cl t 0 1000000
def dThr (thr s m : Int) : Int :=
  if hd (ab s) > thr + 64424509440 then thr
  else cl (thr + (hd (ab s) - thr) * ((if hd (ab s) < thr then 168 else 43) * m) / 4294967296) 25769803776 2576980377600
def dU (u thr us ti sg s t : Int) : Int × Int × Int :=
  if s > thr then (if (if us > 0 then us + t else mx (t / 2) 1) > 10000 ∧ ti + 1 > 1 ∧ s ≥ sg then (1, 0, 0) else (u, if us > 0 then us + t else mx (t / 2) 1, ti + 1))
  else if s < -thr then (2, 0, 0) else (0, 0, 0)
def TR (thr : Int) : Prop := 25769803776 ≤ thr ∧ thr ≤ 2576980377600
theorem nn_span (n : Int) : 0 ≤ nn n ∧ nn n ≤ 60 := by unfold nn mn mx; repeat' split <;> omega
theorem dT_span (t : Int) : 0 ≤ dT t ∧ dT t ≤ 1000000 := by unfold dT cl; repeat' split <;> omega
theorem ab_span {s : Int} (h : isI64 s) : 0 ≤ hd (ab s) ∧ hd (ab s) ≤ 9223372036854775807 := by
  unfold isI64 at h; rw [hd_eq]; unfold ab; repeat' split <;> omega
theorem cl_span (x lo hi : Int) (h : lo ≤ hi) : lo ≤ cl x lo hi ∧ cl x lo hi ≤ hi := by unfold cl; repeat' split <;> omega
theorem dThr_TR {thr s m : Int} (h : TR thr) : TR (dThr thr s m) := by
  unfold dThr
  split
  · exact h
  · exact cl_span _ _ _ (by decide)
theorem fof (n v : Int) (h : isI64 n) (hv : hd (n * 4294967296) = v) : fixed_Of.f n = some v := by
  unfold fixed_Of.f; rw [mul_eq h (isI64_mk (by decide) (by decide)), hv]; rfl
theorem fof6 : fixed_Of.f 6 = some 25769803776 := fof _ _ (isI64_mk (by decide) (by decide)) (by rw [hd_eq]; decide)
theorem fof15 : fixed_Of.f 15 = some 64424509440 := fof _ _ (isI64_mk (by decide) (by decide)) (by rw [hd_eq]; decide)
theorem fof25 : fixed_Of.f 25 = some 107374182400 := fof _ _ (isI64_mk (by decide) (by decide)) (by rw [hd_eq]; decide)
theorem fof600 : fixed_Of.f 600 = some 2576980377600 := fof _ _ (isI64_mk (by decide) (by decide)) (by rw [hd_eq]; decide)
theorem fof601 : fixed_Of.f 601 = some 2581275344896 := fof _ _ (isI64_mk (by decide) (by decide)) (by rw [hd_eq]; decide)
theorem by_span {thr a m q : Int} (h : TR thr) (h0 : 0 ≤ a) (h1 : a ≤ thr + 64424509440) (m0 : 0 ≤ m) (m1 : m ≤ 100000) (hq : q = 168 ∨ q = 43) :
    isI64 (a - thr) ∧ isI64 (q * m) ∧ -4611686018427387904 ≤ (a - thr) * (q * m) / 4294967296 ∧ (a - thr) * (q * m) / 4294967296 ≤ 4611686018427387904 := by
  unfold TR at h
  have b0 : 0 ≤ q * m ∧ q * m ≤ 16800000 := by rcases hq with rfl | rfl <;> omega
  generalize q * m = p at b0 ⊢
  have d0 : -2576980377600 ≤ a - thr ∧ a - thr ≤ 64424509440 := by omega
  generalize a - thr = d at d0 ⊢
  have l1 : -2576980377600 * 16800000 ≤ d * p := by
    by_cases hd0 : 0 ≤ d
    · have := Int.mul_nonneg hd0 b0.1; omega
    · have := Int.mul_le_mul (a := -d) (b := p) (c := 2576980377600) (d := 16800000) (by omega) b0.2 b0.1 (by decide)
      rw [Int.neg_mul] at this; omega
  have l2 : d * p ≤ 64424509440 * 16800000 := by
    by_cases hd0 : 0 ≤ d
    · exact Int.mul_le_mul d0.2 b0.2 b0.1 (by decide)
    · have := Int.mul_nonneg (a := -d) (b := p) (by omega) b0.1
      rw [Int.neg_mul] at this; omega
  exact ⟨isI64_mk (by omega) (by omega), isI64_mk (by omega) (by omega), by omega, by omega⟩
theorem moves_eq {u thr us ti sg nx s m : Int} (k : Nat) (hk : 4 ≤ k) (h : TR thr) (hs : isI64 s) (m0 : 0 ≤ m) (m1 : m ≤ 100000) :
    detect_Detector_moves.f k u thr us ti sg nx (hd (ab s)) m = some (u, dThr thr s m, us, ti, sg, nx) := by
  obtain ⟨k, rfl⟩ : ∃ j, k = j + 1 := ⟨k - 1, by omega⟩
  have hsp := ab_span hs
  have h' := h
  unfold TR at h'
  unfold detect_Detector_moves.f dThr
  rw [fof15]
  simp only [Option.bind_some]
  rw [add_eq _ (by omega) (isI64_mk (by omega) (by omega)) (isI64_mk (by decide) (by decide)), hd_id (x := thr + 64424509440) (isI64_mk (by omega) (by omega))]
  simp only [Option.bind_some]
  have go : ∀ q, (q = 168 ∨ q = 43) → hd (ab s) ≤ thr + 64424509440 → detect_Detector_moves.j0 (k + 1) (hd (ab s)) m q u thr us ti sg nx = some (u, cl (thr + (hd (ab s) - thr) * (q * m) / 4294967296) 25769803776 2576980377600, us, ti, sg, nx) := by
    intro q hq hle
    obtain ⟨e1, e2, e3, e4⟩ := by_span h hsp.1 hle m0 m1 hq
    simp only [detect_Detector_moves.j0]
    rw [wrap64_id e1, wrap64_id e2, do_eq 1 e1 e2 (isI64_mk (by decide) (by decide)), md_down (by decide) (isI64_mk (by omega) (by omega))]
    simp only [Option.bind_some]
    rw [add_eq _ (by omega) (isI64_mk (by omega) (by omega)) (isI64_mk (by omega) (by omega)), hd_id (isI64_mk (by omega) (by omega)), fof6, fof600]
    simp only [Option.bind_some, clamp_eq]
    rfl
  by_cases c : hd (ab s) > thr + 64424509440
  · rw [if_pos c, if_pos c]
  · rw [if_neg c, if_neg c]
    by_cases d : hd (ab s) < thr
    · rw [if_pos d, if_pos d, go 168 (.inl rfl) (by omega)]
    · rw [if_neg d, if_neg d, go 43 (.inr rfl) (by omega)]
theorem mul_nn {slope n : Int} (h : isI64 slope) : sat_Mul.f (4 * nn n) slope = some (dS slope n) := by
  have := nn_span n
  rw [mul_eq (isI64_mk (by omega) (by omega)) h]; rfl
theorem dadd_eq {u thr us ti sg nx slope n ticks now : Int} (k : Nat) (hk : 4 ≤ k) (h : TR thr) (us0 : 0 ≤ us) (us1 : us ≤ 1000000000000) (ti0 : 0 ≤ ti) (ti1 : ti ≤ 1000000000000) (hs : isI64 slope) :
    detect_Detector_Add.f k u thr us ti sg nx slope n ticks now =
      some ((dU u thr us ti sg (dS slope n) (dT ticks)).1, (dU u thr us ti sg (dS slope n) (dT ticks)).1, dThr thr (dS slope n) (mn (dT ticks) 100000), (dU u thr us ti sg (dS slope n) (dT ticks)).2.1, (dU u thr us ti sg (dS slope n) (dT ticks)).2.2, dS slope n, nx) := by
  have ht := dT_span ticks
  have hS : isI64 (dS slope n) := hd_i64 _
  unfold detect_Detector_Add.f
  rw [clamp_eq]
  simp only [Option.bind_some]
  rw [show (if ticks < 0 then 0 else if ticks > 1000000 then 1000000 else ticks) = dT ticks from rfl, show mn (mx n 0) 60 = nn n from rfl, mul_nn hs]
  simp only [Option.bind_some]
  generalize dS slope n = S at hS ⊢
  generalize dT ticks = T at ht ⊢
  have hm : 0 ≤ mn T 100000 ∧ mn T 100000 ≤ 100000 := by unfold mn; split <;> omega
  have td : Int.tdiv T 2 = T / 2 := Int.tdiv_eq_ediv_of_nonneg ht.1
  have h' := h
  unfold TR at h'
  rw [td, wrap64_id (a := T / 2) (isI64_mk (by omega) (by omega)), wrap64_id (a := us + T) (isI64_mk (by omega) (by omega)), wrap64_id (a := ti + 1) (isI64_mk (by omega) (by omega)), wrap64_id (a := -thr) (isI64_mk (by omega) (by omega))]
  simp only [abs_eq hS, Option.bind_some, moves_eq k hk h hS hm.1 hm.2]
  unfold dU
  by_cases c1 : S > thr
  · simp only [c1, if_true]
    by_cases c2 : us > 0
    · simp only [c2, if_true]
      by_cases c3 : us + T > 10000 <;> by_cases c4 : ti + 1 > 1 <;> by_cases c5 : S ≥ sg <;> simp only [c3, c4, c5, if_true, if_false, and_true, true_and, and_false, false_and]
    · simp only [c2, if_false]
      by_cases c3 : mx (T / 2) 1 > 10000 <;> by_cases c4 : ti + 1 > 1 <;> by_cases c5 : S ≥ sg <;> simp only [c3, c4, c5, if_true, if_false, and_true, true_and, and_false, false_and]
  · simp only [c1, if_false]
    by_cases c2 : S < -thr <;> simp only [c2, if_true, if_false]
def DOk (i : Nat) (u thr us ti : Int) : Prop := 0 ≤ u ∧ u ≤ 2 ∧ TR thr ∧ 0 ≤ us ∧ us ≤ 1000000 * i ∧ 0 ≤ ti ∧ ti ≤ i
theorem DOk.start : DOk 0 0 53687091200 0 0 := ⟨by decide, by decide, ⟨by decide, by decide⟩, by decide, by decide, by decide, by decide⟩
theorem DOk.step {i : Nat} {u thr us ti : Int} (h : DOk i u thr us ti) (sg s t m : Int) (ht : 0 ≤ t ∧ t ≤ 1000000) :
    DOk (i + 1) (dU u thr us ti sg s t).1 (dThr thr s m) (dU u thr us ti sg s t).2.1 (dU u thr us ti sg s t).2.2 := by
  obtain ⟨h1, h2, h3, h4, h5, h6, h7⟩ := h
  have h8 := dThr_TR (s := s) (m := m) h3
  generalize dThr thr s m = thr' at h8 ⊢
  unfold dU
  have hx : 0 ≤ mx (t / 2) 1 ∧ mx (t / 2) 1 ≤ 1000000 := by unfold mx; split <;> omega
  generalize mx (t / 2) 1 = X at hx ⊢
  refine ⟨?_, ?_, h8, ?_, ?_, ?_, ?_⟩ <;> (repeat' split) <;> simp only [] <;> omega
theorem new_eq : detect_New.f = some (0, 53687091200, 0, 0, 0, 0) := by
  unfold detect_New.f
  rw [fof25]
  simp only [Option.bind_some]
  rw [show Int.tdiv 107374182400 2 = 53687091200 by decide, wrap64_id (isI64_mk (by decide) (by decide))]
theorem wakes18 : flywheellaw18_wakes.f 12 = some true := by kernel_rfl
theorem wakes18_ge (k : Nat) (h : 12 ≤ k) : flywheellaw18_wakes.f k = some true := by
  obtain ⟨d, rfl⟩ : ∃ d, k = 12 + d := ⟨k - 12, by omega⟩
  clear h
  induction d with
  | zero => exact wakes18
  | succ d ih => exact flywheellaw18_wakes.mono _ _ ih
end Go.Proofs.Ytaelmmbodigheaa.P
end

section
namespace Go.Proofs.Ytaelmmbodigheaa.Pure
open Go.RowKit Go.Proofs.Ytaelmmbodigheaa.P Go.Proofs.YtaelmmbodigheaaW.PrintWords Go.Proofs.YtaelmmbodigheaaW.PrintLast Go.Proofs.YtaelmmbodigheaaW.PrintMore
set_option linter.unusedVariables false
set_option linter.unusedSimpArgs false
theorem rd_mem {l : List S51} {i : Nat} (h : i < l.length) : rd_T51 l (i : Int) ∈ l := by
  unfold rd_T51
  have : l.getD ((i : Int).toNat) z51 = l[i] := by simp [List.getD, h]
  rw [this]; exact List.getElem_mem h
theorem rd_i64 {l : List S51} (hw : ∀ x ∈ l, (Lit.int .i64 x.f0).wf = true ∧ (Lit.int .i64 x.f1).wf = true ∧ (Lit.int .i64 x.f2).wf = true ∧ (Lit.int .i64 x.f3).wf = true) {i : Nat} (h : i < l.length) : isI64 (rd_T51 l (i : Int)).f0 :=
  isI64_of_wf (hw _ (rd_mem h)).1
theorem dadd {i : Nat} {u thr us ti sg nx slope n ticks now : Int} (k : Nat) (hk : 4 ≤ k) (hi : i ≤ 300) (h : DOk i u thr us ti) (hs : isI64 slope) :
    detect_Detector_Add.f k u thr us ti sg nx slope n ticks now =
      some ((dU u thr us ti sg (dS slope n) (dT ticks)).1, (dU u thr us ti sg (dS slope n) (dT ticks)).1, dThr thr (dS slope n) (mn (dT ticks) 100000), (dU u thr us ti sg (dS slope n) (dT ticks)).2.1, (dU u thr us ti sg (dS slope n) (dT ticks)).2.2, dS slope n, nx) := by
  obtain ⟨h1, h2, h3, h4, h5, h6, h7⟩ := h
  exact dadd_eq k hk h3 h4 (by omega) h6 (by omega) hs
theorem wrap_next (i : Nat) (h : i ≤ 300) : wrap64 ((i : Int) + 1) = ((i + 1 : Nat) : Int) := by rw [wrap64_id (isI64_mk (by omega) (by omega))]; omega
theorem isNone_wakes (k : Nat) (h : 12 ≤ k) : ((flywheellaw18_wakes.f k).bind fun t => some t) = some true := by rw [wakes18_ge k h]; rfl
theorem dS_zero (n : Int) : dS 0 n = 0 := by unfold dS; rw [Int.mul_zero]; rw [hd_eq]; rfl
theorem dU_calm {u thr us ti sg t : Int} (h : TR thr) : dU u thr us ti sg 0 t = (0, 0, 0) := by
  unfold TR at h; unfold dU
  rw [if_neg (by omega), if_neg (by omega)]
theorem DOk.calm {i : Nat} {thr : Int} (h : TR thr) : DOk i 0 thr 0 0 := ⟨by decide, by decide, h, by decide, by omega, by decide, by omega⟩
theorem zero64 : isI64 0 := isI64_mk (by decide) (by decide)
theorem DetectUnder : flywheellaw18_DetectUnder.Pure := by
  intro l a1 a2 hl hs hw h1 h2
  have h1 := u32_of_wf h1
  have hn : ∃ n, wrap64 (1 + wrap64 (Int.tmod (IntKind.u64.wrap a2) 100)) = n ∧ 1 ≤ n ∧ n ≤ 100 := by
    rw [u64_mod]
    have e0 : 0 ≤ a2 % 18446744073709551616 := Int.emod_nonneg _ (by decide)
    rw [Int.tmod_eq_emod_of_nonneg e0, wrap64_id (a := a2 % 18446744073709551616 % 100) (isI64_mk (by omega) (by omega)), wrap64_id (isI64_mk (by omega) (by omega))]
    exact ⟨_, rfl, by omega, by omega⟩
  obtain ⟨n, en, n0, n1⟩ := hn
  have es : wrap64 (2581275344896 + wrap64 a1) = 2581275344896 + a1 := by rw [wrap64_id (a := a1) (isI64_mk (by omega) (by omega)), wrap64_id (isI64_mk (by omega) (by omega))]
  have em : wrap64 (-(2581275344896 + a1)) = -(2581275344896 + a1) := wrap64_id (isI64_mk (by omega) (by omega))
  have fin : ∀ (k i : Nat) (u thr us ti sg nx : Int), 30 ≤ k → i ≤ 200 → DOk i u thr us ti → flywheellaw18_DetectUnder.j1 k a1 a2 u thr us ti sg nx = some true := by
    intro k i u thr us ti sg nx hk hi h
    obtain ⟨k, rfl⟩ : ∃ j, k = j + 1 := ⟨k - 1, by omega⟩
    simp only [flywheellaw18_DetectUnder.j1]
    rw [fof601]
    simp only [Option.bind_some]
    rw [es, em, en, dadd k (by omega) (by omega) h (isI64_mk (by omega) (by omega))]
    have d1 : dS (-(2581275344896 + a1)) n ≤ -(2581275344896 + a1) := by
      unfold dS
      have b : 1 ≤ nn n ∧ nn n ≤ 60 := by unfold nn mn mx; repeat' split <;> omega
      have l1 : (2581275344896 + a1) * 1 ≤ (2581275344896 + a1) * (4 * nn n) := Int.mul_le_mul_of_nonneg_left (by omega) (by omega)
      have l2 : (2581275344896 + a1) * (4 * nn n) ≤ (2581275344896 + a1) * 240 := Int.mul_le_mul_of_nonneg_left (by omega) (by omega)
      rw [Int.mul_neg, Int.mul_comm (4 * nn n)]
      rw [hd_id (isI64_mk (by omega) (by omega))]; omega
    have t0 := h.2.2.1
    unfold TR at t0
    have u1 : dU u thr us ti sg (dS (-(2581275344896 + a1)) n) (dT 1000) = (2, 0, 0) := by
      unfold dU; rw [if_neg (by omega), if_pos (by omega)]
    rw [u1]
    simp only [Option.bind_some, if_true]
    have t1 := dThr_TR (s := dS (-(2581275344896 + a1)) n) (m := mn (dT 1000) 100000) h.2.2.1
    have ok1 : DOk 0 2 (dThr thr (dS (-(2581275344896 + a1)) n) (mn (dT 1000) 100000)) 0 0 := ⟨by decide, by decide, t1, by decide, by decide, by decide, by decide⟩
    rw [dadd (i := 0) k (by omega) (by omega) ok1 zero64, dS_zero, dU_calm t1]
    simp only [Option.bind_some, if_true]
    have t2 := dThr_TR (s := 0) (m := mn (dT 1000) 100000) t1
    rw [dadd (i := 0) k (by omega) (by omega) (DOk.calm t2) (isI64_mk (by omega) (by omega))]
    have d2 : dS (2581275344896 + a1) 1 = 4 * (2581275344896 + a1) := by
      unfold dS; rw [show nn 1 = 1 by decide, Int.mul_one, hd_id (isI64_mk (by omega) (by omega))]
    rw [d2]
    generalize dThr (dThr thr (dS (-(2581275344896 + a1)) n) (mn (dT 1000) 100000)) 0 (mn (dT 1000) 100000) = T2 at t2
    unfold TR at t2
    have u2 : dU 0 T2 0 0 0 (4 * (2581275344896 + a1)) (dT 1000) = (0, 500, 1) := by
      unfold dU; rw [if_pos (by omega)]
      have : (if (0 : Int) > 0 then 0 + dT 1000 else mx (dT 1000 / 2) 1) = 500 := by decide
      rw [this]; rfl
    rw [u2]
    simp only [Option.bind_some]
    rw [if_neg (by decide)]
    exact isNone_wakes k (by omega)
  have loop : ∀ (m i k : Nat) (u thr us ti sg nx : Int), i + m = 200 → 40 + m ≤ k → DOk i u thr us ti → flywheellaw18_DetectUnder.l0 k l a1 a2 i u thr us ti sg nx = some true := by
    intro m
    induction m with
    | zero =>
      intro i k u thr us ti sg nx hi hk h
      obtain ⟨k, rfl⟩ : ∃ j, k = j + 1 := ⟨k - 1, by omega⟩
      simp only [flywheellaw18_DetectUnder.l0]
      by_cases c : (i : Int) < (l.length : Int)
      · rw [if_pos c, if_neg (by omega)]; exact fin k i _ _ _ _ _ _ (by omega) (by omega) h
      · rw [if_neg c]; exact fin k i _ _ _ _ _ _ (by omega) (by omega) h
    | succ m ih =>
      intro i k u thr us ti sg nx hi hk h
      obtain ⟨k, rfl⟩ : ∃ j, k = j + 1 := ⟨k - 1, by omega⟩
      simp only [flywheellaw18_DetectUnder.l0]
      by_cases c : (i : Int) < (l.length : Int)
      · rw [if_pos c, if_pos (by omega), if_pos (by omega), dadd k (by omega) (by omega) h (rd_i64 hw (by omega))]
        simp only [Option.bind_some]
        rw [wrap_next i (by omega)]
        exact ih (i + 1) k _ _ _ _ _ _ (by omega) (by omega) (h.step _ _ _ _ (dT_span _))
      · rw [if_neg c]; exact fin k i _ _ _ _ _ _ (by omega) (by omega) h
  refine ⟨240, ?_⟩
  unfold flywheellaw18_DetectUnder.f
  rw [new_eq]
  exact loop 200 0 240 _ _ _ _ _ _ (by omega) (by omega) DOk.start
end Go.Proofs.Ytaelmmbodigheaa.Pure
end

section

end

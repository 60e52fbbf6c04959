-- PUT TOGETHER by a program of this session: of the claim's texts, what is used
import Derived.Test.YtmcfgaokimlngaaKTrendTwice8
import Derived.Test.YtmcfgaokimlngaaKTrendTwice9
import Derived.Test.YtmcfgaokimlngaaKTrendTwice10
import Derived.Test.YtmcfgaokimlngaaKTrendTwice11
import Derived.WalkArith
import Derived.KernelRfl
section
namespace Go.Proofs.Ytmcfgaokimlngaa.P
open Go.RowKit
set_option linter.unusedVariables false
set_option linter.unusedSimpArgs false
def md (a b c how : Int) : Int := (mdq a b c how).1
theorem wrap64_id {a : Int} (h : isI64 a) : wrap64 a = a := by unfold isI64 at h; unfold wrap64; omega
theorem isI64_mk {a : Int} (h : -9223372036854775808 ≤ a) (h' : a ≤ 9223372036854775807) : isI64 a := ⟨h, h'⟩
theorem hold64_i64 (q : Int) : isI64 (hold64 q).1 := by
  unfold hold64 isI64
  split
  · exact ⟨by decide, by decide⟩
  · split
    · exact ⟨by decide, by decide⟩
    · exact ⟨by simp; omega, by simp; omega⟩
theorem hold64_id (q : Int) (h : isI64 q) : hold64 q = (q, true) := by
  unfold isI64 at h; unfold hold64
  rw [if_neg (by omega), if_neg (by omega)]
theorem do_eq {a b c : Int} (how : Int) (ha : isI64 a) (hb : isI64 b) (hc : isI64 c) : muldiv_Do.f a b c how = some (md a b c how) := by
  unfold muldiv_Do.f muldiv_quotient_s.f
  rw [if_pos ⟨ha, hb, hc⟩]; rfl
theorem md_pos {a b c how : Int} (hc : 0 < c) (h1 : 1 ≤ how) (h3 : how ≤ 3) : md a b c how = (hold64 (rnd (a * b) c how)).1 := by
  unfold md mdq
  rw [if_neg (by omega), if_neg (by omega)]
theorem md_zero (a b how : Int) : md a b 0 how = 0 := by unfold md mdq; rw [if_pos (Or.inl rfl)]
theorem rnd_near (n d : Int) : rnd n d 2 = (2 * n + d) / (2 * d) := by unfold rnd; rw [if_neg (by decide), if_neg (by decide)]
end Go.Proofs.Ytmcfgaokimlngaa.P
end

section
namespace Go.Proofs.Ytmcfgaokimlngaa.P
open Go.RowKit
set_option linter.unusedVariables false
set_option linter.unusedSimpArgs false
def hd (x : Int) : Int := (hold64 x).1
theorem hd_eq (x : Int) : hd x = if x < -9223372036854775808 then -9223372036854775808 else if x > 9223372036854775807 then 9223372036854775807 else x := by
  unfold hd hold64
  split
  · rfl
  · split <;> rfl
theorem hd_id {x : Int} (h : isI64 x) : hd x = x := by unfold hd; rw [hold64_id _ h]
theorem hd_i64 (x : Int) : isI64 (hd x) := hold64_i64 x
def ab (a : Int) : Int := if a < 0 then -a else a
end Go.Proofs.Ytmcfgaokimlngaa.P
end

section
namespace Go.Proofs.Ytmcfgaokimlngaa.P
open Go.RowKit
set_option linter.unusedVariables false
set_option linter.unusedSimpArgs false
end Go.Proofs.Ytmcfgaokimlngaa.P
end

section
namespace Go.Proofs.Ytmcfgaokimlngaa.P
open Go.RowKit Go.Proofs.YtmcfgaokimlngaaW.PrintWords Go.Proofs.YtmcfgaokimlngaaW.PrintLast Go.Proofs.YtmcfgaokimlngaaW.PrintMore
set_option linter.unusedVariables false
set_option linter.unusedSimpArgs false
theorem held_eq {hi lo v : Int} (h0 : 0 ≤ hi) (h1 : hi < 18446744073709551616) (l0 : 0 ≤ lo) (l1 : lo < 18446744073709551616)
    (hv : v = (if hi < 9223372036854775808 then hi else hi - 18446744073709551616) * 18446744073709551616 + lo) : sat_held.f hi lo = some (hd v) := by
  unfold sat_held.f
  rw [hd_eq, u64_mod]
  have w1 : wrap64 lo = if lo < 9223372036854775808 then lo else lo - 18446744073709551616 := by unfold wrap64; omega
  have w2 : wrap64 hi = if hi < 9223372036854775808 then hi else hi - 18446744073709551616 := by unfold wrap64; omega
  rw [w1, w2]
  generalize hl : (if lo < 9223372036854775808 then lo else lo - 18446744073709551616) = L
  generalize hh : (if hi < 9223372036854775808 then hi else hi - 18446744073709551616) = H at hv
  have L1 : L = lo ∧ lo < 9223372036854775808 ∨ L = lo - 18446744073709551616 ∧ 9223372036854775808 ≤ lo := by
    rw [← hl]; split <;> omega
  have H1 : H = hi ∧ hi < 9223372036854775808 ∨ H = hi - 18446744073709551616 ∧ 9223372036854775808 ≤ hi := by
    rw [← hh]; split <;> omega
  clear hl hh w1 w2
  by_cases c : L / 9223372036854775808 % 18446744073709551616 = hi
  · rw [if_pos c, if_neg (by omega), if_neg (by omega)]; congr 1; omega
  · rw [if_neg c]
    by_cases s : H < 0
    · rw [if_pos s, if_pos (by omega)]
    · rw [if_neg s, if_neg (by omega), if_pos (by omega)]
theorem and_none (y : Int) : Go.bits .and .u64 0 y = 0 := by
  unfold Go.bits
  rw [u64_mod]
  show ((0#64 &&& BitVec.ofInt 64 y).toNat : Int) % 18446744073709551616 = 0
  rw [BitVec.zero_and]; rfl
theorem and_every (y : Int) (h0 : 0 ≤ y) (h1 : y < 18446744073709551616) : Go.bits .and .u64 18446744073709551615 y = y := by
  unfold Go.bits
  rw [u64_mod]
  show ((BitVec.allOnes 64 &&& BitVec.ofInt 64 y).toNat : Int) % 18446744073709551616 = y
  rw [BitVec.allOnes_and, BitVec.toNat_ofInt]
  show ((y % 18446744073709551616).toNat : Int) % 18446744073709551616 = y
  omega
theorem sign_and {a y : Int} (ha : isI64 a) (h0 : 0 ≤ y) (h1 : y < 18446744073709551616) :
    Go.bits .and .u64 (IntKind.u64.wrap (a / 9223372036854775808)) y = if a < 0 then y else 0 := by
  unfold isI64 at ha
  rw [u64_mod]
  by_cases h : a < 0
  · rw [if_pos h, show a / 9223372036854775808 % 18446744073709551616 = 18446744073709551615 by omega, and_every y h0 h1]
  · rw [if_neg h, show a / 9223372036854775808 % 18446744073709551616 = 0 by omega, and_none]
theorem prod_span {a b : Int} (ha : isI64 a) (hb : isI64 b) : -85070591730234615865843651857942052864 ≤ a * b ∧ a * b ≤ 85070591730234615865843651857942052864 := by
  unfold isI64 at ha hb
  by_cases h1 : a < 0 <;> by_cases h2 : b < 0
  · have := abs_mul_le (a := -a) (b := -b) (by omega) (by omega) (by omega) (by omega)
    rw [Int.neg_mul_neg] at this
    have := Int.mul_nonneg_of_nonpos_of_nonpos (show a ≤ 0 by omega) (show b ≤ 0 by omega); omega
  · have := abs_mul_le (a := -a) (b := b) (by omega) (by omega) (by omega) (by omega)
    rw [Int.neg_mul] at this
    have := Int.mul_nonpos_of_nonpos_of_nonneg (show a ≤ 0 by omega) (show 0 ≤ b by omega); omega
  · have := abs_mul_le (a := a) (b := -b) (by omega) (by omega) (by omega) (by omega)
    rw [Int.mul_neg] at this
    have := Int.mul_nonpos_of_nonneg_of_nonpos (show 0 ≤ a by omega) (show b ≤ 0 by omega); omega
  · have := abs_mul_le (a := a) (b := b) (by omega) (by omega) (by omega) (by omega)
    have := Int.mul_nonneg (show 0 ≤ a by omega) (show 0 ≤ b by omega); omega
theorem mul_eq {a b : Int} (ha : isI64 a) (hb : isI64 b) : sat_Mul.f a b = some (hd (a * b)) := by
  have sp := prod_span ha hb
  have ha' := ha; have hb' := hb
  unfold isI64 at ha' hb'
  unfold sat_Mul.f
  have ua : IntKind.u64.wrap a = if a < 0 then a + 18446744073709551616 else a := by rw [u64_mod]; split <;> omega
  have ub : IntKind.u64.wrap b = if b < 0 then b + 18446744073709551616 else b := by rw [u64_mod]; split <;> omega
  have a0 : 0 ≤ IntKind.u64.wrap a ∧ IntKind.u64.wrap a < 18446744073709551616 := by rw [u64_mod]; omega
  have b0 : 0 ≤ IntKind.u64.wrap b ∧ IntKind.u64.wrap b < 18446744073709551616 := by rw [u64_mod]; omega
  rw [sign_and ha b0.1 b0.2, sign_and hb a0.1 a0.2, mul64_ok _ _ a0.1 a0.2 b0.1 b0.2]
  simp only [Option.bind_some]
  have key : ∀ N C q : Int, N = q + C * 18446744073709551616 ∨ N = q + C * 18446744073709551616 - 340282366920938463463374607431768211456 → -85070591730234615865843651857942052864 ≤ q → q ≤ 85070591730234615865843651857942052864 →
      sat_held.f (IntKind.u64.wrap (N / 18446744073709551616 - IntKind.u64.wrap C)) (N % 18446744073709551616) = some (hd q) := by
    intro N C q hN q0 q1
    rw [u64_mod, u64_mod]
    refine held_eq (by omega) (by omega) (by omega) (by omega) ?_
    split <;> omega
  have fin : ∀ x : Option Int, x = some (hd (a * b)) → (x.bind fun t => some t) = some (hd (a * b)) := by intro x h; rw [h]; rfl
  refine fin _ (key _ _ _ ?_ sp.1 sp.2)
  rw [ua, ub]
  by_cases h1 : a < 0 <;> by_cases h2 : b < 0
  · simp only [h1, h2, if_true]
    right
    rw [Int.add_mul, Int.mul_add, Int.mul_add]; omega
  · simp only [h1, h2, if_true, if_false]
    left
    rw [Int.add_mul]; omega
  · simp only [h1, h2, if_true, if_false]
    left
    rw [Int.mul_add]; omega
  · simp only [h1, h2, if_false]
    left; omega
theorem neg_eq {a : Int} (ha : isI64 a) : sat_Neg.f a = some (hd (-a)) := by
  unfold isI64 at ha
  unfold sat_Neg.f sat_negative.f
  have ua : IntKind.u64.wrap a = if a < 0 then a + 18446744073709551616 else a := by rw [u64_mod]; split <;> omega
  have us : IntKind.u64.wrap (a / 9223372036854775808) = if a < 0 then 18446744073709551615 else 0 := by rw [u64_mod]; split <;> omega
  have c0 : sub64c 0 (IntKind.u64.wrap a) 0 = if a = 0 then 0 else 1 := by
    rw [ua]; unfold sub64c; split <;> split <;> split <;> omega
  have s0 : sub64s 0 (IntKind.u64.wrap a) 0 = (-a) % 18446744073709551616 := by
    rw [ua]; unfold sub64s; split <;> omega
  rw [c0, s0, us]
  rw [if_pos (by split <;> omega)]
  simp only [Option.bind_some]
  have s1 : sub64s 0 (if a < 0 then 18446744073709551615 else 0) (if a = 0 then 0 else 1) = if 0 < a then 18446744073709551615 else 0 := by
    unfold sub64s; split <;> split <;> split <;> omega
  rw [s1, held_eq (v := -a) (by split <;> omega) (by split <;> omega) (by omega) (by omega) (by split <;> split <;> omega)]
  rfl
theorem abs_eq {a : Int} (ha : isI64 a) : sat_Abs.f a = some (hd (ab a)) := by
  unfold sat_Abs.f
  rw [neg_eq ha]
  have ha' := ha
  unfold isI64 at ha'
  simp only [Option.bind_some, Option.some.injEq, hd_eq]
  unfold mx ab
  repeat' split
  all_goals omega
theorem add64_two {hi lo a : Int} (h0 : 0 ≤ hi) (h1 : hi < 18446744073709551616) (l0 : 0 ≤ lo) (l1 : lo < 18446744073709551616) (ha : isI64 a) :
    add64c lo (IntKind.u64.wrap a) 0 ≤ 1 ∧ add64s lo (IntKind.u64.wrap a) 0 = (lo + a) % 18446744073709551616 ∧
    add64s hi (IntKind.u64.wrap (a / 9223372036854775808)) (add64c lo (IntKind.u64.wrap a) 0) = (hi + (lo + a) / 18446744073709551616) % 18446744073709551616 := by
  unfold isI64 at ha
  have ua : IntKind.u64.wrap a = if a < 0 then a + 18446744073709551616 else a := by rw [u64_mod]; split <;> omega
  have us : IntKind.u64.wrap (a / 9223372036854775808) = if a < 0 then 18446744073709551615 else 0 := by rw [u64_mod]; split <;> omega
  rw [ua, us]
  unfold add64c add64s
  refine ⟨?_, ?_, ?_⟩ <;> (by_cases h : a < 0 <;> simp only [h, if_true, if_false] <;> omega)
end Go.Proofs.Ytmcfgaokimlngaa.P
end

section
namespace Go.Proofs.Ytmcfgaokimlngaa.P
open Go.RowKit Go.Proofs.YtmcfgaokimlngaaW.PrintWords Go.Proofs.YtmcfgaokimlngaaW.PrintLast Go.Proofs.YtmcfgaokimlngaaW.PrintMore
set_option linter.unusedVariables false
set_option linter.unusedSimpArgs false
def sm : List Int → Int
  | [] => 0
  | x :: l => x + sm l
theorem sm_append (l m : List Int) : sm (l ++ m) = sm l + sm m := by
  induction l with
  | nil => simp [sm]
  | cons x l ih => simp only [List.cons_append, sm, ih]; omega
theorem drop_rd {l : List Int} {i : Nat} (h : i < l.length) : l.drop i = rd l (i : Int) :: l.drop (i + 1) := by
  rw [List.drop_eq_getElem_cons h]
  congr 1
  unfold rd
  simp [h]
theorem take_rd {l : List Int} {i : Nat} (h : i < l.length) : l.take (i + 1) = l.take i ++ [rd l (i : Int)] := by
  rw [List.take_succ_eq_append_getElem h]
  congr 2
  unfold rd
  simp [h]
theorem rd_mem {l : List Int} {i : Nat} (h : i < l.length) : rd l (i : Int) ∈ l := by
  unfold rd
  simp [h]
theorem wn64 (i : Nat) (h : i ≤ 4611686018427387904) : wrap64 ((i : Int) + 1) = ((i + 1 : Nat) : Int) := by rw [wrap64_id (isI64_mk (by omega) (by omega))]; omega
theorem sm_span {l : List Int} {B : Int} (h : ∀ x ∈ l, -B ≤ x ∧ x ≤ B) : -((l.length : Int) * B) ≤ sm l ∧ sm l ≤ (l.length : Int) * B := by
  induction l with
  | nil => simp [sm]
  | cons x l ih =>
    have := ih (fun y hy => h y (List.mem_cons_of_mem _ hy))
    have hx := h x List.mem_cons_self
    simp only [sm, List.length_cons]
    rw [show ((l.length + 1 : Nat) : Int) * B = (l.length : Int) * B + B by rw [Int.natCast_add]; rw [Int.add_mul]; simp]
    omega
theorem plus_eq {l : List Int} (hl : ∀ x ∈ l, isI64 x) (hn : l.length ≤ 1099511627776) : ∀ (m i k : Nat) (S : Int), i + m = l.length → m + 1 ≤ k →
    sat_plus.l0 k l (l.length : Int) i ((S / 18446744073709551616) % 18446744073709551616) (S % 18446744073709551616) =
      some (((S + sm (l.drop i)) / 18446744073709551616) % 18446744073709551616, (S + sm (l.drop i)) % 18446744073709551616) := by
  intro m
  induction m with
  | zero =>
    intro i k S hi hk
    obtain ⟨k, rfl⟩ : ∃ j, k = j + 1 := ⟨k - 1, by omega⟩
    simp only [sat_plus.l0]
    rw [if_neg (by omega), List.drop_eq_nil_of_le (by omega)]
    simp [sm]
  | succ m ih =>
    intro i k S hi hk
    obtain ⟨k, rfl⟩ : ∃ j, k = j + 1 := ⟨k - 1, by omega⟩
    have hil : i < l.length := by omega
    have t := add64_two (hi := (S / 18446744073709551616) % 18446744073709551616) (lo := S % 18446744073709551616) (by omega) (by omega) (by omega) (by omega) (hl _ (rd_mem hil))
    simp only [sat_plus.l0]
    rw [if_pos (by omega), if_pos (by omega), if_pos (by omega), if_pos t.1, t.2.1, t.2.2, wn64 i (by omega)]
    have e1 : (S % 18446744073709551616 + rd l (i : Int)) % 18446744073709551616 = (S + rd l (i : Int)) % 18446744073709551616 := by omega
    have e2 : (S / 18446744073709551616 % 18446744073709551616 + (S % 18446744073709551616 + rd l (i : Int)) / 18446744073709551616) % 18446744073709551616 = (S + rd l (i : Int)) / 18446744073709551616 % 18446744073709551616 := by omega
    rw [e1, e2, ih (i + 1) k (S + rd l (i : Int)) (by omega) (by omega), drop_rd hil]
    simp only [sm, Int.add_assoc]
theorem held128 {v : Int} (h0 : -170141183460469231731687303715884105728 ≤ v) (h1 : v < 170141183460469231731687303715884105728) :
    sat_held.f ((v / 18446744073709551616) % 18446744073709551616) (v % 18446744073709551616) = some (hd v) :=
  held_eq (by omega) (by omega) (by omega) (by omega) (by split <;> omega)
theorem i64_span {l : List Int} (hl : ∀ x ∈ l, isI64 x) (hn : l.length ≤ 1000000) : -9223372036854775808000000 ≤ sm l ∧ sm l ≤ 9223372036854775808000000 := by
  have h := sm_span (B := 9223372036854775808) (fun x hx => ⟨(hl x hx).1, by have := (hl x hx).2; omega⟩)
  omega
theorem sum_eq {l : List Int} (k : Nat) (hl : ∀ x ∈ l, isI64 x) (hn : l.length ≤ 1000000) (hk : l.length + 1 ≤ k) : sat_Sum.f k l = some (hd (sm l)) := by
  unfold sat_Sum.f sat_plus.f
  have h := plus_eq hl (by omega) l.length 0 k 0 (by omega) hk
  rw [show ((0 : Int) / 18446744073709551616) % 18446744073709551616 = 0 from rfl, show (0 : Int) % 18446744073709551616 = 0 from rfl] at h
  have s := i64_span hl hn
  rw [show ((0 : Nat) : Int) = 0 from rfl] at h
  rw [h]
  simp only [Option.bind_some, List.drop_zero, Int.zero_add]
  rw [held128 (by omega) (by omega)]
  rfl
theorem negative_eq {a : Int} (ha : isI64 a) : sat_negative.f a = some (((-a) / 18446744073709551616) % 18446744073709551616, (-a) % 18446744073709551616) := by
  unfold isI64 at ha
  unfold sat_negative.f
  have ua : IntKind.u64.wrap a = if a < 0 then a + 18446744073709551616 else a := by rw [u64_mod]; split <;> omega
  have us : IntKind.u64.wrap (a / 9223372036854775808) = if a < 0 then 18446744073709551615 else 0 := by rw [u64_mod]; split <;> omega
  have c0 : sub64c 0 (IntKind.u64.wrap a) 0 = if a = 0 then 0 else 1 := by
    rw [ua]; unfold sub64c; split <;> split <;> split <;> omega
  have s0 : sub64s 0 (IntKind.u64.wrap a) 0 = (-a) % 18446744073709551616 := by
    rw [ua]; unfold sub64s; split <;> omega
  rw [c0, s0, us]
  rw [if_pos (by split <;> omega)]
  have s1 : sub64s 0 (if a < 0 then 18446744073709551615 else 0) (if a = 0 then 0 else 1) = ((-a) / 18446744073709551616) % 18446744073709551616 := by
    unfold sub64s; split <;> split <;> omega
  rw [s1]
theorem sub_eq {a b : Int} (k : Nat) (hk : 2 ≤ k) (ha : isI64 a) (hb : isI64 b) : sat_Sub.f k a b = some (hd (a - b)) := by
  unfold sat_Sub.f
  rw [negative_eq hb]
  simp only [Option.bind_some]
  unfold sat_plus.f
  have h := plus_eq (l := [a]) (fun x hx => by rw [List.mem_singleton.1 hx]; exact ha) (by simp) 1 0 k (-b) (by simp) hk
  rw [show ((0 : Nat) : Int) = 0 from rfl] at h
  rw [h]
  simp only [Option.bind_some, List.drop_zero, sm, Int.add_zero]
  unfold isI64 at ha hb
  rw [held128 (by omega) (by omega), show -b + a = a - b by omega]
  rfl
end Go.Proofs.Ytmcfgaokimlngaa.P
end

section
namespace Go.Proofs.Ytmcfgaokimlngaa.P
open Go.RowKit Go.Proofs.YtmcfgaokimlngaaW.PrintWords Go.Proofs.YtmcfgaokimlngaaW.PrintLast Go.Proofs.YtmcfgaokimlngaaW.PrintMore
open Go.Proofs.Ytmcfgaokimlngaa.FInt
set_option linter.unusedVariables false
set_option linter.unusedSimpArgs false
theorem csum_some {a b c d r s : Nat} (h1 : Ieee.double.add a c = some r) (h2 : Ieee.double.add b d = some s) : cSumBits .add .f64 a b c d = some (r, s) := by
  unfold cSumBits
  rw [show floatBits .add .f64 a c = Ieee.double.add a c from rfl, show floatBits .add .f64 b d = Ieee.double.add b d from rfl, h1, h2]
  rfl
theorem stands_zero : Stands 0 0 := by
  have h := stands_of (n := 0) (by decide)
  rwa [show floatOfInt .f64 0 = 0 by kernel_rfl] at h
def SI (z : Nat × Nat) (b : Bool) (xs ys : List Int) (i : Nat) : Prop := Tame z.1 ∧ Tame z.2 ∧ (b = true → (Stands z.1 (sm (xs.take i)) ∧ Stands z.2 (sm (ys.take i))) ∧ (-((i : Int) * 1099511627776) ≤ sm (xs.take i) ∧ sm (xs.take i) ≤ (i : Int) * 1099511627776) ∧ (-((i : Int) * 1099511627776) ≤ sm (ys.take i) ∧ sm (ys.take i) ≤ (i : Int) * 1099511627776))
theorem fin64 {x : Int} (h : isI64 x) : Finite (floatOfInt .f64 x) := finite_of (by unfold isI64 at h; omega)
theorem sums_loop {xs ys : List Int} (hx : ∀ x ∈ xs, isI64 x) (hy : ∀ y ∈ ys, isI64 y) (hlen : xs.length = ys.length) (hn : xs.length ≤ 64) : ∀ (m i k : Nat) (z : Nat × Nat) (b : Bool), i + m = xs.length → m + 70 ≤ k → SI z b xs ys i →
    trend_sums.l0 k xs ys z b (xs.length : Int) i = some (hd (sm xs), hd (sm ys)) := by
  intro m
  induction m with
  | zero =>
    intro i k z b hi hk h
    obtain ⟨k, rfl⟩ : ∃ j, k = j + 1 := ⟨k - 1, by omega⟩
    simp only [trend_sums.l0]
    rw [if_neg (by omega)]
    obtain ⟨t1, t2, h⟩ := h
    cases b with
    | true =>
      obtain ⟨⟨s1, s2⟩, ⟨a1, a2⟩, b1, b2⟩ := h rfl
      rw [List.take_of_length_le (by omega)] at s1 s2 a1 a2 b1 b2
      have e1 := stands_int s1 (by omega) (by omega)
      have e2 := stands_int s2 (by omega) (by omega)
      rw [if_pos rfl, e1, e2, hd_id (isI64_mk (by omega) (by omega)), hd_id (isI64_mk (by omega) (by omega))]
      rfl
    | false =>
      rw [if_neg (by simp), sum_eq k hx (by omega) (by omega), sum_eq k hy (by omega) (by omega)]
      rfl
  | succ m ih =>
    intro i k z b hi hk h
    obtain ⟨k, rfl⟩ : ∃ j, k = j + 1 := ⟨k - 1, by omega⟩
    have hil : i < xs.length := by omega
    have hil2 : i < ys.length := by omega
    have ix := hx _ (rd_mem hil)
    have iy := hy _ (rd_mem hil2)
    obtain ⟨t1, t2, h⟩ := h
    obtain ⟨r1, e1, q1⟩ := add_tame t1 (fin64 ix)
    obtain ⟨r2, e2, q2⟩ := add_tame t2 (fin64 iy)
    have ec := csum_some e1 e2
    simp only [trend_sums.l0]
    rw [if_pos (by omega), if_pos (by omega), if_pos (by omega), if_pos (by omega), ec, wn64 i (by omega)]
    simp only [Option.isSome_some, if_true, Option.getD_some]
    rw [abs_eq ix, abs_eq iy]
    simp only [Option.bind_some]
    cases b with
    | false =>
      rw [if_neg (by simp)]
      exact ih (i + 1) k _ _ (by omega) (by omega) ⟨q1, q2, fun h => by simp at h⟩
    | true =>
      obtain ⟨⟨s1, s2⟩, ⟨a1, a2⟩, b1, b2⟩ := h rfl
      rw [if_pos rfl]
      by_cases c1 : hd (ab (rd xs (i : Int))) < 1099511627776
      · rw [if_pos c1]
        refine ih (i + 1) k _ _ (by omega) (by omega) ⟨q1, q2, fun h => ?_⟩
        have c2 := of_decide_eq_true h
        rw [hd_eq] at c1 c2
        unfold ab at c1 c2
        unfold isI64 at ix iy
        have x1 : -1099511627776 ≤ rd xs (i : Int) ∧ rd xs (i : Int) ≤ 1099511627776 := by
          revert c1; repeat' split
          all_goals (intro c1; omega)
        have y1 : -1099511627776 ≤ rd ys (i : Int) ∧ rd ys (i : Int) ≤ 1099511627776 := by
          revert c2; repeat' split
          all_goals (intro c2; omega)
        have i64 : i ≤ 64 := by omega
        rw [take_rd hil, take_rd hil2, sm_append, sm_append]
        simp only [sm, Int.add_zero]
        obtain ⟨r1', e1', s1'⟩ := stands_add s1 (stands_of (n := rd xs (i : Int)) (by omega)) (by omega)
        obtain ⟨r2', e2', s2'⟩ := stands_add s2 (stands_of (n := rd ys (i : Int)) (by omega)) (by omega)
        rw [e1] at e1'
        rw [e2] at e2'
        obtain rfl := Option.some.inj e1'
        obtain rfl := Option.some.inj e2'
        rw [show ((i + 1 : Nat) : Int) * 1099511627776 = (i : Int) * 1099511627776 + 1099511627776 by omega]
        exact ⟨⟨s1', s2'⟩, ⟨by omega, by omega⟩, by omega, by omega⟩
      · rw [if_neg c1]
        exact ih (i + 1) k _ _ (by omega) (by omega) ⟨q1, q2, fun h => by simp at h⟩
theorem sums_eq {xs ys : List Int} (k : Nat) (hx : ∀ x ∈ xs, isI64 x) (hy : ∀ y ∈ ys, isI64 y) (hlen : xs.length = ys.length) (hn : xs.length ≤ 64) (hk : 140 ≤ k) : trend_sums.f k xs ys = some (hd (sm xs), hd (sm ys)) := by
  unfold trend_sums.f
  refine sums_loop hx hy hlen hn xs.length 0 k (0, 0) true (by omega) (by omega) ⟨.inl (stands_finite stands_zero), .inl (stands_finite stands_zero), fun _ => ⟨⟨stands_zero, stands_zero⟩, ?_, ?_⟩⟩ <;> simp [sm]
end Go.Proofs.Ytmcfgaokimlngaa.P
end

section
namespace Go.Proofs.Ytmcfgaokimlngaa.P
open Go.RowKit
end Go.Proofs.Ytmcfgaokimlngaa.P
end

section
namespace Go.Proofs.Ytmcfgaokimlngaa.P
open Go.RowKit Go.Proofs.YtmcfgaokimlngaaW.PrintWords Go.Proofs.YtmcfgaokimlngaaW.PrintLast Go.Proofs.YtmcfgaokimlngaaW.PrintMore
set_option linter.unusedVariables false
set_option linter.unusedSimpArgs false
def dl (l : List Int) (b : Int) : List Int := l.map (fun v => hd (v - b))
def ofl (n : Int) (l : List Int) (s : Int) : List Int := l.map (fun d => hd (hd (n * d) - s))
def prods (u v : List Int) : List Int := List.zipWith (fun a b => hd (a * b)) u v
def slope (n : Int) (dx dy : List Int) : Int :=
  md (hd (sm (prods (ofl n dx (hd (sm dx))) (ofl n dy (hd (sm dy)))))) 4294967296 (hd (sm (prods (ofl n dx (hd (sm dx))) (ofl n dx (hd (sm dx)))))) 2
def LN (xs ys : List Int) : Int := if min (min xs.length ys.length) 64 < 2 then 0 else
  slope (min (min xs.length ys.length) 64 : Nat) (dl (xs.take (min (min xs.length ys.length) 64)) (rd xs 0)) (dl (ys.take (min (min xs.length ys.length) 64)) (rd ys 0))
theorem dl_len (l : List Int) (b : Int) : (dl l b).length = l.length := List.length_map _
theorem ofl_len (n : Int) (l : List Int) (s : Int) : (ofl n l s).length = l.length := List.length_map _
theorem dl_i64 (l : List Int) (b : Int) : ∀ x ∈ dl l b, isI64 x := fun x hx => by
  obtain ⟨v, _, rfl⟩ := List.mem_map.1 hx
  exact hd_i64 _
theorem ofl_i64 (n : Int) (l : List Int) (s : Int) : ∀ x ∈ ofl n l s, isI64 x := fun x hx => by
  obtain ⟨v, _, rfl⟩ := List.mem_map.1 hx
  exact hd_i64 _
theorem mn_len (a b : Nat) : mn (mn (a : Int) (b : Int)) 64 = ((min (min a b) 64 : Nat) : Int) := by
  unfold mn; split <;> split <;> omega
theorem less_loop {l : List Int} {b : Int} (hb : isI64 b) (hl : ∀ x ∈ l, isI64 x) (hn : l.length ≤ 64) : ∀ (m i k : Nat) (acc : List Int), i + m = l.length → m + 5 ≤ k → acc.length ≤ i →
    trend_less.l0 k b acc l (l.length : Int) i = some (acc ++ dl (l.drop i) b) := by
  intro m
  induction m with
  | zero =>
    intro i k acc hi hk ha
    obtain ⟨k, rfl⟩ : ∃ j, k = j + 1 := ⟨k - 1, by omega⟩
    simp only [trend_less.l0]
    rw [if_neg (by omega), List.drop_eq_nil_of_le (by omega)]
    simp [dl]
  | succ m ih =>
    intro i k acc hi hk ha
    obtain ⟨k, rfl⟩ : ∃ j, k = j + 1 := ⟨k - 1, by omega⟩
    have hil : i < l.length := by omega
    simp only [trend_less.l0]
    rw [if_pos (by omega), if_pos (by omega), if_pos (by omega), sub_eq k (by omega) (hl _ (rd_mem hil)) hb]
    simp only [Option.bind_some]
    rw [if_pos (by omega), wn64 i (by omega), ih (i + 1) k _ (by omega) (by omega) (by rw [List.length_append]; simp; omega), drop_rd hil]
    simp [dl, List.append_assoc]
theorem less_eq {l : List Int} {b : Int} (k : Nat) (hb : isI64 b) (hl : ∀ x ∈ l, isI64 x) (hn : l.length ≤ 64) (hk : 70 ≤ k) : trend_less.f k l b = some (dl l b) := by
  unfold trend_less.f
  have h := less_loop hb hl hn l.length 0 k [] (by omega) (by omega) (by simp)
  rw [show ((0 : Nat) : Int) = 0 from rfl] at h
  rw [h]; simp
theorem off_loop {l : List Int} {s : Int} (hs : isI64 s) (hl : ∀ x ∈ l, isI64 x) (hn : l.length ≤ 64) : ∀ (m i k : Nat) (acc : List Int), i + m = l.length → m + 5 ≤ k → acc.length ≤ i →
    trend_off.l0 k l s acc l (l.length : Int) i = some (acc ++ ofl l.length (l.drop i) s) := by
  intro m
  induction m with
  | zero =>
    intro i k acc hi hk ha
    obtain ⟨k, rfl⟩ : ∃ j, k = j + 1 := ⟨k - 1, by omega⟩
    simp only [trend_off.l0]
    rw [if_neg (by omega), List.drop_eq_nil_of_le (by omega)]
    simp [ofl]
  | succ m ih =>
    intro i k acc hi hk ha
    obtain ⟨k, rfl⟩ : ∃ j, k = j + 1 := ⟨k - 1, by omega⟩
    have hil : i < l.length := by omega
    simp only [trend_off.l0]
    rw [if_pos (by omega), if_pos (by omega), if_pos (by omega), mul_eq (isI64_mk (by omega) (by omega)) (hl _ (rd_mem hil))]
    simp only [Option.bind_some]
    rw [sub_eq k (by omega) (hd_i64 _) hs]
    simp only [Option.bind_some]
    rw [if_pos (by omega), wn64 i (by omega), ih (i + 1) k _ (by omega) (by omega) (by rw [List.length_append]; simp; omega), drop_rd hil]
    simp [ofl, List.append_assoc]
theorem off_eq {l : List Int} {s : Int} (k : Nat) (hs : isI64 s) (hl : ∀ x ∈ l, isI64 x) (hn : l.length ≤ 64) (hk : 70 ≤ k) : trend_off.f k l s = some (ofl l.length l s) := by
  unfold trend_off.f
  have h := off_loop hs hl hn l.length 0 k [] (by omega) (by omega) (by simp)
  rw [show ((0 : Nat) : Int) = 0 from rfl] at h
  rw [h]; simp
theorem line_loop {u v : List Int} (hu : ∀ x ∈ u, isI64 x) (hv : ∀ x ∈ v, isI64 x) (hlen : u.length = v.length) (hn : u.length ≤ 64) : ∀ (m i k : Nat) (p q : List Int), i + m = u.length → m + 70 ≤ k → p.length = i → q.length = i →
    (∀ x ∈ p, isI64 x) → (∀ x ∈ q, isI64 x) →
    trend_Line.l0 k u v p q (u.length : Int) i = some (md (hd (sm (p ++ prods (u.drop i) (v.drop i)))) 4294967296 (hd (sm (q ++ prods (u.drop i) (u.drop i)))) 2) := by
  intro m
  induction m with
  | zero =>
    intro i k p q hi hk hp hq ip iq
    obtain ⟨k, rfl⟩ : ∃ j, k = j + 1 := ⟨k - 1, by omega⟩
    simp only [trend_Line.l0]
    rw [if_neg (by omega), List.drop_eq_nil_of_le (by omega), sum_eq k ip (by omega) (by omega), sum_eq k iq (by omega) (by omega)]
    simp only [Option.bind_some, prods, List.zipWith_nil_left, List.append_nil]
    unfold fixed_Div.f
    rw [do_eq 2 (hd_i64 _) (isI64_mk (by decide) (by decide)) (hd_i64 _)]
    rfl
  | succ m ih =>
    intro i k p q hi hk hp hq ip iq
    obtain ⟨k, rfl⟩ : ∃ j, k = j + 1 := ⟨k - 1, by omega⟩
    have h1 : i < u.length := by omega
    have h2 : i < v.length := by omega
    have x1 := hu _ (rd_mem h1)
    have x2 := hv _ (rd_mem h2)
    simp only [trend_Line.l0]
    rw [if_pos (by omega), if_pos (by omega), if_pos (by omega), if_pos (by omega), mul_eq x1 x2, mul_eq x1 x1]
    simp only [Option.bind_some]
    rw [if_pos (by omega), if_pos (by omega), wn64 i (by omega), ih (i + 1) k _ _ (by omega) (by omega) (by rw [List.length_append]; simp; omega) (by rw [List.length_append]; simp; omega)
      (fun x hx => by rcases List.mem_append.1 hx with h | h; exact ip x h; rw [List.mem_singleton.1 h]; exact hd_i64 _) (fun x hx => by rcases List.mem_append.1 hx with h | h; exact iq x h; rw [List.mem_singleton.1 h]; exact hd_i64 _)]
    rw [drop_rd h1, drop_rd h2]
    simp [prods, List.append_assoc]
theorem line_eq {xs ys : List Int} (k : Nat) (hx : ∀ x ∈ xs, isI64 x) (hy : ∀ y ∈ ys, isI64 y) (hk : 200 ≤ k) : trend_Line.f k xs ys = some (LN xs ys) := by
  unfold trend_Line.f LN
  rw [mn_len]
  generalize hm : min (min xs.length ys.length) 64 = n
  by_cases h : n < 2
  · rw [if_pos (by omega), if_pos h]
  rw [if_neg (by omega), if_neg h, if_pos (by omega), if_pos (by omega), if_pos (by omega), Int.toNat_natCast]
  have l1 : (xs.take n).length = n := by rw [List.length_take]; omega
  have l2 : (ys.take n).length = n := by rw [List.length_take]; omega
  have t1 : ∀ x ∈ xs.take n, isI64 x := fun x h => hx x (List.mem_of_mem_take h)
  have t2 : ∀ x ∈ ys.take n, isI64 x := fun x h => hy x (List.mem_of_mem_take h)
  have r1 : isI64 (rd xs 0) := hx _ (rd_mem (i := 0) (by omega))
  have r2 : isI64 (rd ys 0) := hy _ (rd_mem (i := 0) (by omega))
  rw [less_eq k r1 t1 (by omega) (by omega)]
  simp only [Option.bind_some]
  rw [if_pos (by omega), if_pos (by omega), less_eq k r2 t2 (by omega) (by omega)]
  simp only [Option.bind_some]
  have d1 : (dl (xs.take n) (rd xs 0)).length = n := by rw [dl_len, l1]
  have d2 : (dl (ys.take n) (rd ys 0)).length = n := by rw [dl_len, l2]
  rw [sums_eq k (dl_i64 _ _) (dl_i64 _ _) (by omega) (by omega) (by omega)]
  simp only [Option.bind_some]
  rw [off_eq k (hd_i64 _) (dl_i64 _ _) (by omega) (by omega), off_eq k (hd_i64 _) (dl_i64 _ _) (by omega) (by omega)]
  simp only [Option.bind_some]
  have h := line_loop (ofl_i64 (dl (xs.take n) (rd xs 0)).length (dl (xs.take n) (rd xs 0)) (hd (sm (dl (xs.take n) (rd xs 0))))) (ofl_i64 (dl (ys.take n) (rd ys 0)).length (dl (ys.take n) (rd ys 0)) (hd (sm (dl (ys.take n) (rd ys 0))))) (by rw [ofl_len, ofl_len]; omega) (by rw [ofl_len]; omega) n 0 k [] [] (by rw [ofl_len]; omega) (by omega) rfl rfl (by simp) (by simp)
  rw [show ((0 : Nat) : Int) = 0 from rfl] at h
  rw [h, d1, d2]
  simp only [List.drop_zero, List.nil_append, slope]
end Go.Proofs.Ytmcfgaokimlngaa.P
end

section
namespace Go.Proofs.Ytmcfgaokimlngaa.P
open Go.RowKit Go.Proofs.YtmcfgaokimlngaaW.PrintWords Go.Proofs.YtmcfgaokimlngaaW.PrintLast Go.Proofs.YtmcfgaokimlngaaW.PrintMore
set_option linter.unusedVariables false
set_option linter.unusedSimpArgs false
def Us (n : Int) (d : List Int) : List Int := d.map (fun x => n * x - sm d)
def Ps (u v : List Int) : Int := sm (List.zipWith (· * ·) u v)
def Sml (B : Int) (l : List Int) : Prop := ∀ x ∈ l, -B ≤ x ∧ x ≤ B
theorem mul_span {a b A B : Int} (ha : -A ≤ a ∧ a ≤ A) (hb : -B ≤ b ∧ b ≤ B) : -(A * B) ≤ a * b ∧ a * b ≤ A * B := by
  have hA : 0 ≤ A := by omega
  have hB : 0 ≤ B := by omega
  have h1 : (a.natAbs : Int) ≤ A := by omega
  have h2 : (b.natAbs : Int) ≤ B := by omega
  have h3 : ((a * b).natAbs : Int) ≤ A * B := by
    rw [Int.natAbs_mul, Int.natCast_mul]
    exact Int.mul_le_mul h1 h2 (by omega) hA
  omega
theorem len_mul {n B : Int} (h0 : 0 ≤ n) (h : n ≤ 64) (hB : 0 ≤ B) : n * B ≤ 64 * B := Int.mul_le_mul_of_nonneg_right h hB
theorem sm_small {l : List Int} {B : Int} (hn : l.length ≤ 64) (hB : 0 ≤ B) (h : Sml B l) : -(64 * B) ≤ sm l ∧ sm l ≤ 64 * B := by
  have := sm_span h
  have := len_mul (n := (l.length : Int)) (B := B) (by omega) (by omega) hB
  omega
theorem Sml.mono {A B : Int} {l : List Int} (h : Sml A l) (hAB : A ≤ B) : Sml B l := fun x hx => by
  have := h x hx
  omega
theorem Us_small {n B : Int} {d : List Int} (hB : 0 ≤ B) (h0 : 0 ≤ n) (hn : n ≤ 64) (hl : d.length ≤ 64) (h : Sml B d) : Sml (128 * B) (Us n d) := fun x hx => by
  obtain ⟨y, hy, rfl⟩ := List.mem_map.1 hx
  have h1 := sm_small hl hB h
  have h2 := mul_span (a := n) (A := 64) ⟨by omega, hn⟩ (h y hy)
  omega
theorem ofl_small {n : Int} {d : List Int} (h0 : 0 ≤ n) (hn : n ≤ 64) (hl : d.length ≤ 64) (h : Sml 8388608 d) : ofl n d (hd (sm d)) = Us n d := by
  have h1 := sm_small hl (by decide) h
  unfold ofl Us
  rw [hd_id (isI64_mk (by omega) (by omega))]
  refine List.map_congr_left (fun x hx => ?_)
  have h2 := mul_span (a := n) (A := 64) ⟨by omega, hn⟩ (h x hx)
  rw [hd_id (x := n * x) (isI64_mk (by omega) (by omega)), hd_id (isI64_mk (by omega) (by omega))]
theorem zip_small {u v : List Int} {A B : Int} (hu : Sml A u) (hv : Sml B v) : Sml (A * B) (List.zipWith (· * ·) u v) := fun x hx => by
  rw [List.mem_iff_getElem] at hx
  obtain ⟨i, hi, rfl⟩ := hx
  rw [List.getElem_zipWith]
  exact mul_span (hu _ (List.getElem_mem _)) (hv _ (List.getElem_mem _))
theorem prods_small {u v : List Int} (hu : Sml 33554432 u) (hv : Sml 1073741824 v) : prods u v = List.zipWith (· * ·) u v := by
  unfold prods
  induction u generalizing v with
  | nil => rfl
  | cons x u ih =>
    cases v with
    | nil => rfl
    | cons y v =>
      simp only [List.zipWith_cons_cons]
      have h := mul_span (hu x List.mem_cons_self) (hv y List.mem_cons_self)
      rw [hd_id (isI64_mk (by omega) (by omega)), ih (fun z hz => hu z (List.mem_cons_of_mem _ hz)) (fun z hz => hv z (List.mem_cons_of_mem _ hz))]
theorem Ps_small {u v : List Int} (hl : u.length ≤ 64) (hu : Sml 33554432 u) (hv : Sml 1073741824 v) : hd (sm (prods u v)) = Ps u v := by
  rw [prods_small hu hv]
  have h := sm_small (l := List.zipWith (· * ·) u v) (by rw [List.length_zipWith]; omega) (by decide) (zip_small hu hv)
  exact hd_id (isI64_mk (by omega) (by omega))
theorem Us_len (n : Int) (d : List Int) : (Us n d).length = d.length := List.length_map _
theorem slope_small {n : Int} {dx dy : List Int} (h0 : 0 ≤ n) (hn : n ≤ 64) (h1 : dx.length ≤ 64) (h2 : dy.length ≤ 64) (hx : Sml 262144 dx) (hy : Sml 8388608 dy) :
    slope n dx dy = md (Ps (Us n dx) (Us n dy)) 4294967296 (Ps (Us n dx) (Us n dx)) 2 := by
  unfold slope
  have ux := Us_small (by decide) h0 hn h1 hx
  have uy := Us_small (by decide) h0 hn h2 hy
  rw [ofl_small h0 hn h1 (hx.mono (by decide)), ofl_small h0 hn h2 hy]
  rw [Ps_small (by rw [Us_len]; omega) ux uy, Ps_small (by rw [Us_len]; omega) ux (ux.mono (by decide))]
theorem sm_map_mul (m : Int) (d : List Int) : sm (d.map (fun x => m * x)) = m * sm d := by
  induction d with
  | nil => simp [sm]
  | cons x d ih => simp only [List.map_cons, sm, ih, Int.mul_add]
theorem Us_mul (n m : Int) (d : List Int) : Us n (d.map (fun x => m * x)) = (Us n d).map (fun x => m * x) := by
  unfold Us
  rw [sm_map_mul, List.map_map, List.map_map]
  refine List.map_congr_left (fun x _ => ?_)
  simp only [Function.comp]
  rw [Int.mul_sub, ← Int.mul_assoc, ← Int.mul_assoc, Int.mul_comm n m]
theorem Ps_mul (m : Int) (u v : List Int) : Ps u (v.map (fun x => m * x)) = m * Ps u v := by
  unfold Ps
  induction u generalizing v with
  | nil => simp [sm]
  | cons x u ih =>
    cases v with
    | nil => simp [sm]
    | cons y v =>
      simp only [List.map_cons, List.zipWith_cons_cons, sm, ih, Int.mul_add]
      rw [← Int.mul_assoc, ← Int.mul_assoc, Int.mul_comm x m]
theorem Ps_sq (u : List Int) : 0 ≤ Ps u u ∧ (Ps u u = 0 → ∀ x ∈ u, x = 0) := by
  unfold Ps
  induction u with
  | nil => simp [sm]
  | cons x u ih =>
    simp only [List.zipWith_cons_cons, sm]
    have hx : 0 ≤ x * x := by rw [← Int.natAbs_mul_self' x, ← Int.natCast_mul]; exact Int.natCast_nonneg _
    refine ⟨by omega, fun h y hy => ?_⟩
    rcases List.mem_cons.1 hy with rfl | hy
    · have : y * y = 0 := by omega
      rcases Int.mul_eq_zero.1 this with h | h <;> exact h
    · exact ih.2 (by omega) y hy
theorem Ps_bound {u v : List Int} {B : Int} (hB : 0 ≤ B) (hv : Sml B v) : -(B * Ps u u) ≤ Ps u v ∧ Ps u v ≤ B * Ps u u := by
  unfold Ps
  induction u generalizing v with
  | nil => simp [sm]
  | cons x u ih =>
    cases v with
    | nil =>
      have := (Ps_sq (x :: u)).1
      unfold Ps at this
      simp only [List.zipWith_nil_right, sm]
      have := Int.mul_nonneg hB this
      omega
    | cons y v =>
      simp only [List.zipWith_cons_cons, sm, Int.mul_add]
      have h := ih (fun z hz => hv z (List.mem_cons_of_mem _ hz))
      have hy := hv y List.mem_cons_self
      have h1 : (x.natAbs : Int) ≤ x * x := by
        rw [← Int.natAbs_mul_self' x, ← Int.natCast_mul]
        rcases Nat.eq_zero_or_pos x.natAbs with h0 | h0
        · rw [h0]; simp
        · have := Nat.le_mul_of_pos_right x.natAbs h0; omega
      have h2 := mul_span (a := x) (A := (x.natAbs : Int)) ⟨by omega, by omega⟩ hy
      have h3 : (x.natAbs : Int) * B ≤ B * (x * x) := by rw [Int.mul_comm]; exact Int.mul_le_mul_of_nonneg_left h1 hB
      omega
theorem near_twice {N L : Int} (hL : 0 < L) : -1 ≤ rnd (2 * N) L 2 - 2 * rnd N L 2 ∧ rnd (2 * N) L 2 - 2 * rnd N L 2 ≤ 1 := by
  rw [rnd_near, rnd_near]
  have a1 := Int.mul_ediv_add_emod (2 * (2 * N) + L) (2 * L)
  have a2 := Int.mul_ediv_add_emod (2 * N + L) (2 * L)
  have b1 := Int.emod_nonneg (2 * (2 * N) + L) (show 2 * L ≠ 0 by omega)
  have b2 := Int.emod_nonneg (2 * N + L) (show 2 * L ≠ 0 by omega)
  have c1 := Int.emod_lt_of_pos (2 * (2 * N) + L) (show 0 < 2 * L by omega)
  have c2 := Int.emod_lt_of_pos (2 * N + L) (show 0 < 2 * L by omega)
  generalize (2 * (2 * N) + L) / (2 * L) = A at *
  generalize (2 * N + L) / (2 * L) = B at *
  have e : 2 * L * (A - 2 * B) = 2 * L * A - 2 * (2 * L * B) := by rw [Int.mul_sub, Int.mul_left_comm (2 * L) 2 B]
  constructor
  · have : 2 * L * (-2) < 2 * L * (A - 2 * B) := by omega
    have := Int.lt_of_mul_lt_mul_left this (by omega)
    omega
  · have : 2 * L * (A - 2 * B) < 2 * L * 2 := by omega
    have := Int.lt_of_mul_lt_mul_left this (by omega)
    omega
theorem near_span {N L K : Int} (hL : 0 < L) (h : -(K * L) ≤ N ∧ N ≤ K * L) : -K ≤ rnd N L 2 ∧ rnd N L 2 ≤ K := by
  rw [rnd_near]
  have a1 := Int.mul_ediv_add_emod (2 * N + L) (2 * L)
  have b1 := Int.emod_nonneg (2 * N + L) (show 2 * L ≠ 0 by omega)
  have c1 := Int.emod_lt_of_pos (2 * N + L) (show 0 < 2 * L by omega)
  generalize (2 * N + L) / (2 * L) = A at *
  have k1 : 2 * L * (K + 1) = 2 * (K * L) + 2 * L := by rw [Int.mul_add, Int.mul_assoc, Int.mul_comm L K]; omega
  have k2 : 2 * L * (-K - 1) = -(2 * (K * L)) - 2 * L := by rw [Int.mul_sub, Int.mul_assoc, Int.mul_neg, Int.mul_comm L K]; omega
  constructor
  · have : 2 * L * (-K - 1) < 2 * L * A := by omega
    have := Int.lt_of_mul_lt_mul_left this (by omega)
    omega
  · have : 2 * L * A < 2 * L * (K + 1) := by omega
    have := Int.lt_of_mul_lt_mul_left this (by omega)
    omega
theorem LN_pts {xs ys : List Int} {n : Nat} (h1 : xs.length = n) (h2 : ys.length = n) (hn : n ≤ 64) : LN xs ys = if n < 2 then 0 else slope n (dl xs (rd xs 0)) (dl ys (rd ys 0)) := by
  unfold LN
  rw [show min (min xs.length ys.length) 64 = n by omega, List.take_of_length_le (by omega), List.take_of_length_le (by omega)]
theorem dl_exact {l : List Int} {b : Int} (h : ∀ x ∈ l, isI64 (x - b)) : dl l b = l.map (fun v => v - b) := by
  unfold dl
  exact List.map_congr_left (fun x hx => hd_id (h x hx))
theorem rd_map {α : Type} (f : α → Int) (l : List α) (d : α) (h : 0 < l.length) : rd (l.map f) 0 = f (l[0]) := by
  unfold rd
  simp [h]
end Go.Proofs.Ytmcfgaokimlngaa.P
end

section
namespace Go.Proofs.Ytmcfgaokimlngaa.P
open Go.RowKit Go.Proofs.YtmcfgaokimlngaaW.PrintWords Go.Proofs.YtmcfgaokimlngaaW.PrintLast Go.Proofs.YtmcfgaokimlngaaW.PrintMore
set_option linter.unusedVariables false
set_option linter.unusedSimpArgs false
set_option maxRecDepth 100000 in
theorem wakes17_40 : flywheellaw17_wakes.f 40 = some true := by kernel_rfl
theorem wakes17 (k : Nat) (h : 40 ≤ k) : flywheellaw17_wakes.f k = some true := at_rounds flywheellaw17_wakes.mono h wakes17_40
theorem wk17 (k : Nat) (h : 40 ≤ k) : ((flywheellaw17_wakes.f k).bind fun t => some t) = some true := by rw [wakes17 k h]; rfl
end Go.Proofs.Ytmcfgaokimlngaa.P
namespace Go.Proofs.Ytmcfgaokimlngaa.Pure
open Go.RowKit Go.Proofs.Ytmcfgaokimlngaa.P Go.Proofs.YtmcfgaokimlngaaW.PrintWords Go.Proofs.YtmcfgaokimlngaaW.PrintLast Go.Proofs.YtmcfgaokimlngaaW.PrintMore
end Go.Proofs.Ytmcfgaokimlngaa.Pure
end

section
namespace Go.Proofs.Ytmcfgaokimlngaa.Pure
open Go.RowKit Go.Proofs.Ytmcfgaokimlngaa.P Go.Proofs.YtmcfgaokimlngaaW.PrintWords Go.Proofs.YtmcfgaokimlngaaW.PrintLast Go.Proofs.YtmcfgaokimlngaaW.PrintMore
set_option linter.unusedVariables false
set_option linter.unusedSimpArgs false
theorem i16_of_wf {a : Int} (h : (Lit.int .i16 a).wf = true) : -32768 ≤ a ∧ a ≤ 32767 := by
  simp only [Lit.wf, IntKind.min, IntKind.max, IntKind.signed, IntKind.bits, Bool.and_eq_true, decide_eq_true_eq] at h
  simp at h; omega
theorem map_len {α β : Type} (f : α → β) (l : List α) : (l.map f).length = l.length := List.length_map _
end Go.Proofs.Ytmcfgaokimlngaa.Pure
end

section
namespace Go.Proofs.Ytmcfgaokimlngaa.Pure
open Go.RowKit Go.Proofs.Ytmcfgaokimlngaa.P Go.Proofs.YtmcfgaokimlngaaW.PrintWords Go.Proofs.YtmcfgaokimlngaaW.PrintLast Go.Proofs.YtmcfgaokimlngaaW.PrintMore
set_option linter.unusedVariables false
set_option linter.unusedSimpArgs false
def In16 (l : List Int) : Prop := ∀ v ∈ l, -32768 ≤ v ∧ v ≤ 32767
theorem rd0_mem {l : List Int} (h : 0 < l.length) : rd l 0 ∈ l := rd_mem (l := l) (i := 0) h
theorem rd0_map (f : Int → Int) {l : List Int} (h : 0 < l.length) : rd (l.map f) 0 = f (rd l 0) := by
  rw [rd_map f l 0 h]; congr 1; unfold rd; simp [h]
theorem dl_map (f g : Int → Int) {l : List Int} (h : 0 < l.length) (hf : ∀ v, v ∈ l → isI64 (f v - f (rd l 0))) (e : ∀ v, f v - f (rd l 0) = g (v - rd l 0)) : dl (l.map f) (rd (l.map f) 0) = (l.map (fun v => v - rd l 0)).map g := by
  rw [rd0_map f h, dl_exact]
  · rw [List.map_map, List.map_map]; exact List.map_congr_left (fun v _ => e v)
  · intro x hx
    obtain ⟨v, hv, rfl⟩ := List.mem_map.1 hx
    exact hf v hv
theorem dl_in16 {l : List Int} (h : 0 < l.length) (hl : In16 l) : dl l (rd l 0) = l.map (fun v => v - rd l 0) := dl_exact (fun v hv => by
  have := hl v hv; have := hl _ (rd0_mem h); exact isI64_mk (by omega) (by omega))
theorem in16_small {l : List Int} (h : 0 < l.length) (hl : In16 l) : Sml 65535 (l.map (fun v => v - rd l 0)) := fun x hx => by
  obtain ⟨v, hv, rfl⟩ := List.mem_map.1 hx
  have := hl v hv; have := hl _ (rd0_mem h)
  omega
theorem md_near_twice {N L : Int} (h : 0 ≤ L) (hN : -(33554432 * L) ≤ N ∧ N ≤ 33554432 * L) : (-1 ≤ md (2 * N) 4294967296 L 2 - 2 * md N 4294967296 L 2 ∧ md (2 * N) 4294967296 L 2 - 2 * md N 4294967296 L 2 ≤ 1) ∧ -288230376151711744 ≤ md N 4294967296 L 2 ∧ md N 4294967296 L 2 ≤ 288230376151711744 := by
  by_cases c : L = 0
  · rw [c, md_zero, md_zero]; decide
  · rw [md_pos (by omega) (by decide) (by decide), md_pos (by omega) (by decide) (by decide), show 2 * N * 4294967296 = 2 * (N * 4294967296) by omega]
    have hn := near_twice (N := N * 4294967296) (L := L) (by omega)
    have s1 := near_span (N := N * 4294967296) (L := L) (K := 33554432 * 4294967296) (by omega) (by omega)
    rw [hold64_id (rnd (N * 4294967296) L 2) (isI64_mk (by omega) (by omega)), hold64_id (rnd (2 * (N * 4294967296)) L 2) (isI64_mk (by omega) (by omega))]
    dsimp only
    omega
theorem twice_LN {xs ys : List Int} (hlen : xs.length = ys.length) (h64 : xs.length ≤ 64) (hx : In16 xs) (hy : In16 ys) :
    (-1 ≤ LN xs (ys.map (fun v => 2 * v)) - 2 * LN xs ys ∧ LN xs (ys.map (fun v => 2 * v)) - 2 * LN xs ys ≤ 1) ∧ -288230376151711744 ≤ LN xs ys ∧ LN xs ys ≤ 288230376151711744 := by
  rw [LN_pts (n := xs.length) rfl hlen.symm h64, LN_pts (n := xs.length) (ys := ys.map (fun v => 2 * v)) rfl (by rw [map_len, hlen]) h64]
  by_cases c : xs.length < 2
  · simp [c]
  simp only [if_neg c]
  have x0 : 0 < xs.length := by omega
  have y0 : 0 < ys.length := by omega
  have e3 : dl (ys.map (fun v => 2 * v)) (rd (ys.map (fun v => 2 * v)) 0) = (ys.map (fun v => v - rd ys 0)).map (fun v => 2 * v) := dl_map (fun v => 2 * v) (fun v => 2 * v) y0 (fun v hv => by have := hy v hv; have := hy _ (rd0_mem y0); exact isI64_mk (by omega) (by omega)) (fun v => by omega)
  rw [e3, dl_in16 x0 hx, dl_in16 y0 hy]
  have sx := in16_small x0 hx
  have sy := in16_small y0 hy
  have sz : Sml 131070 ((ys.map (fun v => v - rd ys 0)).map (fun v => 2 * v)) := fun x hx => by
    obtain ⟨v, hv, rfl⟩ := List.mem_map.1 hx
    have := sy v hv
    omega
  rw [slope_small (by omega) (by omega) (by rw [map_len]; omega) (by rw [map_len]; omega) (sx.mono (by decide)) (sy.mono (by decide)),
    slope_small (by omega) (by omega) (by rw [map_len]; omega) (by rw [map_len, map_len]; omega) (sx.mono (by decide)) (sz.mono (by decide)), Us_mul, Ps_mul]
  exact md_near_twice (Ps_sq _).1 (Ps_bound (by decide) ((Us_small (by decide) (by omega) (by omega) (by rw [map_len]; omega) sy).mono (by decide)))
theorem take_rd47 {l : List S47} {i : Nat} (h : i < l.length) (f : S47 → Int) : (l.take (i + 1)).map f = (l.take i).map f ++ [f (rd_T47 l (i : Int))] := by
  rw [List.take_succ_eq_append_getElem h, List.map_append]
  congr 2
  unfold rd_T47
  simp [h]
theorem rd47_mem {l : List S47} {i : Nat} (h : i < l.length) : rd_T47 l (i : Int) ∈ l := by
  unfold rd_T47
  simp [h]
theorem TrendTwice : flywheellaw17_TrendTwice.Pure := by
  intro l _ _ hl
  have hl0 : ∀ s ∈ l, -32768 ≤ s.f0 ∧ s.f0 ≤ 32767 := fun s h => i16_of_wf (hl s h).1
  have hl1 : ∀ s ∈ l, -32768 ≤ s.f1 ∧ s.f1 ≤ 32767 := fun s h => i16_of_wf (hl s h).2
  refine ⟨400, ?_⟩
  unfold flywheellaw17_TrendTwice.f
  have fin : ∀ (n k : Nat), n = min l.length 64 → 310 ≤ k → ((trend_Line.f k ((l.take n).map (·.f0)) ((l.take n).map (fun s => 2 * s.f1))).bind fun t507 => ((trend_Line.f k ((l.take n).map (·.f0)) ((l.take n).map (·.f1))).bind fun t508 => (if (wrap64 (t507 - (wrap64 (2 * t508)))) ≥ (-1) then (if (wrap64 (t507 - (wrap64 (2 * t508)))) ≤ 1 then ((flywheellaw17_wakes.f k).bind fun t509 => (some t509)) else (some false)) else (some false)))) = some true := by
    intro n k hn hk
    have a0 : In16 ((l.take n).map (·.f0)) := fun v hv => by
      obtain ⟨s, hs, rfl⟩ := List.mem_map.1 hv
      exact hl0 s (List.mem_of_mem_take hs)
    have a1 : In16 ((l.take n).map (·.f1)) := fun v hv => by
      obtain ⟨s, hs, rfl⟩ := List.mem_map.1 hv
      exact hl1 s (List.mem_of_mem_take hs)
    have h := twice_LN (xs := (l.take n).map (·.f0)) (ys := (l.take n).map (·.f1)) (by rw [map_len, map_len]) (by rw [map_len, List.length_take]; omega) a0 a1
    simp only [List.map_map, Function.comp_def] at h
    have big : ∀ (f : S47 → Int), (∀ s ∈ l, isI64 (f s)) → ∀ x ∈ (l.take n).map f, isI64 x := fun f hf x hx => by
      obtain ⟨s, hs, rfl⟩ := List.mem_map.1 hx
      exact hf s (List.mem_of_mem_take hs)
    have b0 := big (·.f0) (fun s hs => by have := hl0 s hs; exact isI64_mk (by omega) (by omega))
    have b1 := big (·.f1) (fun s hs => by have := hl1 s hs; exact isI64_mk (by omega) (by omega))
    have b2 := big (fun s => 2 * s.f1) (fun s hs => by have := hl1 s hs; exact isI64_mk (by omega) (by omega))
    rw [line_eq k b0 b2 (by omega), line_eq k b0 b1 (by omega)]
    simp only [Option.bind_some]
    rw [wrap64_id (a := 2 * LN _ _) (isI64_mk (by omega) (by omega)), wrap64_id (isI64_mk (by omega) (by omega)), if_pos h.1.1, if_pos h.1.2]
    exact wk17 k (by omega)
  have loop : ∀ (d i k : Nat) (x y z : List Int), i + d = min l.length 64 → d + 312 ≤ k → x = (l.take i).map (·.f0) → y = (l.take i).map (·.f1) → z = (l.take i).map (fun s => 2 * s.f1) →
      flywheellaw17_TrendTwice.l0 k l x y z i = some true := by
    intro d
    induction d with
    | zero =>
      intro i k x y z hi hk hx hy hz
      obtain ⟨k, rfl⟩ : ∃ j, k = j + 1 := ⟨k - 1, by omega⟩
      subst hx hy hz
      simp only [flywheellaw17_TrendTwice.l0]
      have f := fin i k (by omega) (by omega)
      by_cases c : (i : Int) < (l.length : Int)
      · rw [if_pos c, if_neg (by omega)]; exact f
      · rw [if_neg c]; exact f
    | succ d ih =>
      intro i k x y z hi hk hx hy hz
      obtain ⟨k, rfl⟩ : ∃ j, k = j + 1 := ⟨k - 1, by omega⟩
      have hil : i < l.length := by omega
      have g0 := hl0 _ (rd47_mem hil)
      have g1 := hl1 _ (rd47_mem hil)
      have lx : x.length = i := by rw [hx, map_len, List.length_take]; omega
      have ly : y.length = i := by rw [hy, map_len, List.length_take]; omega
      have lz : z.length = i := by rw [hz, map_len, List.length_take]; omega
      simp only [flywheellaw17_TrendTwice.l0]
      rw [if_pos (by omega), if_pos (by omega), if_pos (by omega)]
      simp only [Option.bind_some, List.length_cons, List.length_nil]
      rw [if_pos (by omega), if_pos (by omega), if_pos (by omega), wn64 i (by omega), wrap64_id (a := (rd_T47 l (i : Int)).f0) (isI64_mk (by omega) (by omega)), wrap64_id (a := (rd_T47 l (i : Int)).f1) (isI64_mk (by omega) (by omega)), wrap64_id (a := 2 * (rd_T47 l (i : Int)).f1) (isI64_mk (by omega) (by omega))]
      exact ih (i + 1) k _ _ _ (by omega) (by omega) (by rw [hx, take_rd47 hil]) (by rw [hy, take_rd47 hil]) (by rw [hz, take_rd47 hil (fun s => 2 * s.f1)])
  exact loop (min l.length 64) 0 400 [] [] [] (by omega) (by omega) rfl rfl rfl
end Go.Proofs.Ytmcfgaokimlngaa.Pure
end

section

end

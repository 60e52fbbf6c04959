-- PUT TOGETHER by a program of this session: of the claim's texts, what is used
import Derived.Test.YtphgeljglhjamaaDoorKGccFills8
import Derived.Test.YtphgeljglhjamaaDoorKGccFills9
import Derived.Test.YtphgeljglhjamaaDoorKGccFills10
import Derived.Test.YtphgeljglhjamaaDoorKGccFills11
import Derived.Test.YtphgeljglhjamaaDoorKGccFills12
import Derived.Test.YtphgeljglhjamaaDoorKGccFills13
import Derived.WalkArith
import Derived.KernelRfl
section
namespace Go.Proofs.YtphgeljglhjamaaDoor.P
open Go.RowKit
set_option linter.unusedVariables false
set_option linter.unusedSimpArgs false
def md (a b c how : Int) : Int := (mdq a b c how).1
theorem u16_of_wf {a : Int} (h : (Lit.int .u16 a).wf = true) : 0 ≤ a ∧ a ≤ 65535 := by
  simp only [Lit.wf, IntKind.min, IntKind.max, IntKind.signed, IntKind.bits, Bool.and_eq_true, decide_eq_true_eq] at h
  simp at h; omega
theorem wrap64_id {a : Int} (h : isI64 a) : wrap64 a = a := by unfold isI64 at h; unfold wrap64; omega
theorem isI64_mk {a : Int} (h : -9223372036854775808 ≤ a) (h' : a ≤ 9223372036854775807) : isI64 a := ⟨h, h'⟩
theorem hold64_i64 (q : Int) : isI64 (hold64 q).1 := by
  unfold hold64 isI64
  split
  · exact ⟨by decide, by decide⟩
  · split
    · exact ⟨by decide, by decide⟩
    · exact ⟨by simp; omega, by simp; omega⟩
theorem md_i64 (a b c how : Int) : isI64 (md a b c how) := by
  unfold md mdq
  split
  · exact ⟨by decide, by decide⟩
  · split <;> exact hold64_i64 _
theorem hold64_id (q : Int) (h : isI64 q) : hold64 q = (q, true) := by
  unfold isI64 at h; unfold hold64
  rw [if_neg (by omega), if_neg (by omega)]
theorem do_eq {a b c : Int} (how : Int) (ha : isI64 a) (hb : isI64 b) (hc : isI64 c) : muldiv_Do.f a b c how = some (md a b c how) := by
  unfold muldiv_Do.f muldiv_quotient_s.f
  rw [if_pos ⟨ha, hb, hc⟩]; rfl
theorem md_pos {a b c how : Int} (hc : 0 < c) (h1 : 1 ≤ how) (h3 : how ≤ 3) : md a b c how = (hold64 (rnd (a * b) c how)).1 := by
  unfold md mdq
  rw [if_neg (by omega), if_neg (by omega)]
theorem rnd_down (n d : Int) : rnd n d 1 = n / d := by unfold rnd; rw [if_pos rfl]
theorem rnd_up (n d : Int) : rnd n d 3 = -((-n) / d) := by unfold rnd; rw [if_neg (by decide), if_pos rfl]
theorem rnd_near (n d : Int) : rnd n d 2 = (2 * n + d) / (2 * d) := by unfold rnd; rw [if_neg (by decide), if_neg (by decide)]
theorem md_down {a b c : Int} (hc : 0 < c) (h : isI64 (a * b / c)) : md a b c 1 = a * b / c := by
  rw [md_pos hc (by decide) (by decide), rnd_down, hold64_id _ h]
theorem md_up {a b c : Int} (hc : 0 < c) (h : isI64 (-((-(a * b)) / c))) : md a b c 3 = -((-(a * b)) / c) := by
  rw [md_pos hc (by decide) (by decide), rnd_up, hold64_id _ h]
end Go.Proofs.YtphgeljglhjamaaDoor.P
end

section
namespace Go.Proofs.YtphgeljglhjamaaDoor.P
open Go.RowKit
set_option linter.unusedVariables false
set_option linter.unusedSimpArgs false
def hd (x : Int) : Int := (hold64 x).1
theorem hd_eq (x : Int) : hd x = if x < -9223372036854775808 then -9223372036854775808 else if x > 9223372036854775807 then 9223372036854775807 else x := by
  unfold hd hold64
  split
  · rfl
  · split <;> rfl
theorem hd_id {x : Int} (h : isI64 x) : hd x = x := by unfold hd; rw [hold64_id _ h]
theorem hd_i64 (x : Int) : isI64 (hd x) := hold64_i64 x
def ab (a : Int) : Int := if a < 0 then -a else a
end Go.Proofs.YtphgeljglhjamaaDoor.P
end

section
namespace Go.Proofs.YtphgeljglhjamaaDoor.P
open Go.RowKit
set_option linter.unusedVariables false
set_option linter.unusedSimpArgs false
end Go.Proofs.YtphgeljglhjamaaDoor.P
end

section
namespace Go.Proofs.YtphgeljglhjamaaDoor.P
open Go.RowKit Go.Proofs.YtphgeljglhjamaaDoorW.PrintWords Go.Proofs.YtphgeljglhjamaaDoorW.PrintLast Go.Proofs.YtphgeljglhjamaaDoorW.PrintMore
set_option linter.unusedVariables false
set_option linter.unusedSimpArgs false
theorem held_eq {hi lo v : Int} (h0 : 0 ≤ hi) (h1 : hi < 18446744073709551616) (l0 : 0 ≤ lo) (l1 : lo < 18446744073709551616)
    (hv : v = (if hi < 9223372036854775808 then hi else hi - 18446744073709551616) * 18446744073709551616 + lo) : sat_held.f hi lo = some (hd v) := by
  unfold sat_held.f
  rw [hd_eq, u64_mod]
  have w1 : wrap64 lo = if lo < 9223372036854775808 then lo else lo - 18446744073709551616 := by unfold wrap64; omega
  have w2 : wrap64 hi = if hi < 9223372036854775808 then hi else hi - 18446744073709551616 := by unfold wrap64; omega
  rw [w1, w2]
  generalize hl : (if lo < 9223372036854775808 then lo else lo - 18446744073709551616) = L
  generalize hh : (if hi < 9223372036854775808 then hi else hi - 18446744073709551616) = H at hv
  have L1 : L = lo ∧ lo < 9223372036854775808 ∨ L = lo - 18446744073709551616 ∧ 9223372036854775808 ≤ lo := by
    rw [← hl]; split <;> omega
  have H1 : H = hi ∧ hi < 9223372036854775808 ∨ H = hi - 18446744073709551616 ∧ 9223372036854775808 ≤ hi := by
    rw [← hh]; split <;> omega
  clear hl hh w1 w2
  by_cases c : L / 9223372036854775808 % 18446744073709551616 = hi
  · rw [if_pos c, if_neg (by omega), if_neg (by omega)]; congr 1; omega
  · rw [if_neg c]
    by_cases s : H < 0
    · rw [if_pos s, if_pos (by omega)]
    · rw [if_neg s, if_neg (by omega), if_pos (by omega)]
theorem and_none (y : Int) : Go.bits .and .u64 0 y = 0 := by
  unfold Go.bits
  rw [u64_mod]
  show ((0#64 &&& BitVec.ofInt 64 y).toNat : Int) % 18446744073709551616 = 0
  rw [BitVec.zero_and]; rfl
theorem and_every (y : Int) (h0 : 0 ≤ y) (h1 : y < 18446744073709551616) : Go.bits .and .u64 18446744073709551615 y = y := by
  unfold Go.bits
  rw [u64_mod]
  show ((BitVec.allOnes 64 &&& BitVec.ofInt 64 y).toNat : Int) % 18446744073709551616 = y
  rw [BitVec.allOnes_and, BitVec.toNat_ofInt]
  show ((y % 18446744073709551616).toNat : Int) % 18446744073709551616 = y
  omega
theorem sign_and {a y : Int} (ha : isI64 a) (h0 : 0 ≤ y) (h1 : y < 18446744073709551616) :
    Go.bits .and .u64 (IntKind.u64.wrap (a / 9223372036854775808)) y = if a < 0 then y else 0 := by
  unfold isI64 at ha
  rw [u64_mod]
  by_cases h : a < 0
  · rw [if_pos h, show a / 9223372036854775808 % 18446744073709551616 = 18446744073709551615 by omega, and_every y h0 h1]
  · rw [if_neg h, show a / 9223372036854775808 % 18446744073709551616 = 0 by omega, and_none]
theorem prod_span {a b : Int} (ha : isI64 a) (hb : isI64 b) : -85070591730234615865843651857942052864 ≤ a * b ∧ a * b ≤ 85070591730234615865843651857942052864 := by
  unfold isI64 at ha hb
  by_cases h1 : a < 0 <;> by_cases h2 : b < 0
  · have := abs_mul_le (a := -a) (b := -b) (by omega) (by omega) (by omega) (by omega)
    rw [Int.neg_mul_neg] at this
    have := Int.mul_nonneg_of_nonpos_of_nonpos (show a ≤ 0 by omega) (show b ≤ 0 by omega); omega
  · have := abs_mul_le (a := -a) (b := b) (by omega) (by omega) (by omega) (by omega)
    rw [Int.neg_mul] at this
    have := Int.mul_nonpos_of_nonpos_of_nonneg (show a ≤ 0 by omega) (show 0 ≤ b by omega); omega
  · have := abs_mul_le (a := a) (b := -b) (by omega) (by omega) (by omega) (by omega)
    rw [Int.mul_neg] at this
    have := Int.mul_nonpos_of_nonneg_of_nonpos (show 0 ≤ a by omega) (show b ≤ 0 by omega); omega
  · have := abs_mul_le (a := a) (b := b) (by omega) (by omega) (by omega) (by omega)
    have := Int.mul_nonneg (show 0 ≤ a by omega) (show 0 ≤ b by omega); omega
theorem mul_eq {a b : Int} (ha : isI64 a) (hb : isI64 b) : sat_Mul.f a b = some (hd (a * b)) := by
  have sp := prod_span ha hb
  have ha' := ha; have hb' := hb
  unfold isI64 at ha' hb'
  unfold sat_Mul.f
  have ua : IntKind.u64.wrap a = if a < 0 then a + 18446744073709551616 else a := by rw [u64_mod]; split <;> omega
  have ub : IntKind.u64.wrap b = if b < 0 then b + 18446744073709551616 else b := by rw [u64_mod]; split <;> omega
  have a0 : 0 ≤ IntKind.u64.wrap a ∧ IntKind.u64.wrap a < 18446744073709551616 := by rw [u64_mod]; omega
  have b0 : 0 ≤ IntKind.u64.wrap b ∧ IntKind.u64.wrap b < 18446744073709551616 := by rw [u64_mod]; omega
  rw [sign_and ha b0.1 b0.2, sign_and hb a0.1 a0.2, mul64_ok _ _ a0.1 a0.2 b0.1 b0.2]
  simp only [Option.bind_some]
  have key : ∀ N C q : Int, N = q + C * 18446744073709551616 ∨ N = q + C * 18446744073709551616 - 340282366920938463463374607431768211456 → -85070591730234615865843651857942052864 ≤ q → q ≤ 85070591730234615865843651857942052864 →
      sat_held.f (IntKind.u64.wrap (N / 18446744073709551616 - IntKind.u64.wrap C)) (N % 18446744073709551616) = some (hd q) := by
    intro N C q hN q0 q1
    rw [u64_mod, u64_mod]
    refine held_eq (by omega) (by omega) (by omega) (by omega) ?_
    split <;> omega
  have fin : ∀ x : Option Int, x = some (hd (a * b)) → (x.bind fun t => some t) = some (hd (a * b)) := by intro x h; rw [h]; rfl
  refine fin _ (key _ _ _ ?_ sp.1 sp.2)
  rw [ua, ub]
  by_cases h1 : a < 0 <;> by_cases h2 : b < 0
  · simp only [h1, h2, if_true]
    right
    rw [Int.add_mul, Int.mul_add, Int.mul_add]; omega
  · simp only [h1, h2, if_true, if_false]
    left
    rw [Int.add_mul]; omega
  · simp only [h1, h2, if_true, if_false]
    left
    rw [Int.mul_add]; omega
  · simp only [h1, h2, if_false]
    left; omega
theorem neg_eq {a : Int} (ha : isI64 a) : sat_Neg.f a = some (hd (-a)) := by
  unfold isI64 at ha
  unfold sat_Neg.f sat_negative.f
  have ua : IntKind.u64.wrap a = if a < 0 then a + 18446744073709551616 else a := by rw [u64_mod]; split <;> omega
  have us : IntKind.u64.wrap (a / 9223372036854775808) = if a < 0 then 18446744073709551615 else 0 := by rw [u64_mod]; split <;> omega
  have c0 : sub64c 0 (IntKind.u64.wrap a) 0 = if a = 0 then 0 else 1 := by
    rw [ua]; unfold sub64c; split <;> split <;> split <;> omega
  have s0 : sub64s 0 (IntKind.u64.wrap a) 0 = (-a) % 18446744073709551616 := by
    rw [ua]; unfold sub64s; split <;> omega
  rw [c0, s0, us]
  rw [if_pos (by split <;> omega)]
  simp only [Option.bind_some]
  have s1 : sub64s 0 (if a < 0 then 18446744073709551615 else 0) (if a = 0 then 0 else 1) = if 0 < a then 18446744073709551615 else 0 := by
    unfold sub64s; split <;> split <;> split <;> omega
  rw [s1, held_eq (v := -a) (by split <;> omega) (by split <;> omega) (by omega) (by omega) (by split <;> split <;> omega)]
  rfl
theorem abs_eq {a : Int} (ha : isI64 a) : sat_Abs.f a = some (hd (ab a)) := by
  unfold sat_Abs.f
  rw [neg_eq ha]
  have ha' := ha
  unfold isI64 at ha'
  simp only [Option.bind_some, Option.some.injEq, hd_eq]
  unfold mx ab
  repeat' split
  all_goals omega
theorem add64_two {hi lo a : Int} (h0 : 0 ≤ hi) (h1 : hi < 18446744073709551616) (l0 : 0 ≤ lo) (l1 : lo < 18446744073709551616) (ha : isI64 a) :
    add64c lo (IntKind.u64.wrap a) 0 ≤ 1 ∧ add64s lo (IntKind.u64.wrap a) 0 = (lo + a) % 18446744073709551616 ∧
    add64s hi (IntKind.u64.wrap (a / 9223372036854775808)) (add64c lo (IntKind.u64.wrap a) 0) = (hi + (lo + a) / 18446744073709551616) % 18446744073709551616 := by
  unfold isI64 at ha
  have ua : IntKind.u64.wrap a = if a < 0 then a + 18446744073709551616 else a := by rw [u64_mod]; split <;> omega
  have us : IntKind.u64.wrap (a / 9223372036854775808) = if a < 0 then 18446744073709551615 else 0 := by rw [u64_mod]; split <;> omega
  rw [ua, us]
  unfold add64c add64s
  refine ⟨?_, ?_, ?_⟩ <;> (by_cases h : a < 0 <;> simp only [h, if_true, if_false] <;> omega)
theorem add_eq {a b : Int} (k : Nat) (hk : 3 ≤ k) (ha : isI64 a) (hb : isI64 b) : sat_Add.f k a b = some (hd (a + b)) := by
  obtain ⟨k, rfl⟩ : ∃ j, k = j + 3 := ⟨k - 3, by omega⟩
  unfold sat_Add.f sat_plus.f
  have t1 := add64_two (hi := 0) (lo := 0) (by decide) (by decide) (by decide) (by decide) ha
  have ha' := ha; have hb' := hb
  unfold isI64 at ha' hb'
  have t2 := add64_two (hi := (0 + (0 + a) / 18446744073709551616) % 18446744073709551616) (lo := (0 + a) % 18446744073709551616) (by omega) (by omega) (by omega) (by omega) hb
  have r0 : rd [a, b] 0 = a := rfl
  have r1 : rd [a, b] 1 = b := rfl
  have w1 : wrap64 (0 + 1) = 1 := wrap64_id (isI64_mk (by decide) (by decide))
  have w2 : wrap64 (1 + 1) = 2 := wrap64_id (isI64_mk (by decide) (by decide))
  simp only [sat_plus.l0, List.length_cons, List.length_nil, r0, r1, w1, w2, t1.2.1, t1.2.2, t2.2.1, t2.2.2]
  rw [if_pos (by decide), if_pos (by decide), if_pos (by decide), if_pos t1.1, if_pos (by decide), if_pos (by decide), if_pos (by decide), if_pos t2.1, if_neg (by decide)]
  simp only [Option.bind_some]
  rw [held_eq (v := a + b) (by omega) (by omega) (by omega) (by omega) (by split <;> omega)]
  rfl
end Go.Proofs.YtphgeljglhjamaaDoor.P
end

section
namespace Go.Proofs.YtphgeljglhjamaaDoor.P
open Go.RowKit Go.Proofs.YtphgeljglhjamaaDoorW.PrintWords Go.Proofs.YtphgeljglhjamaaDoorW.PrintLast Go.Proofs.YtphgeljglhjamaaDoorW.PrintMore
set_option linter.unusedVariables false
set_option linter.unusedSimpArgs false
def sm : List Int → Int
  | [] => 0
  | x :: l => x + sm l
theorem sm_append (l m : List Int) : sm (l ++ m) = sm l + sm m := by
  induction l with
  | nil => simp [sm]
  | cons x l ih => simp only [List.cons_append, sm, ih]; omega
theorem drop_rd {l : List Int} {i : Nat} (h : i < l.length) : l.drop i = rd l (i : Int) :: l.drop (i + 1) := by
  rw [List.drop_eq_getElem_cons h]
  congr 1
  unfold rd
  simp [h]
theorem take_rd {l : List Int} {i : Nat} (h : i < l.length) : l.take (i + 1) = l.take i ++ [rd l (i : Int)] := by
  rw [List.take_succ_eq_append_getElem h]
  congr 2
  unfold rd
  simp [h]
theorem rd_mem {l : List Int} {i : Nat} (h : i < l.length) : rd l (i : Int) ∈ l := by
  unfold rd
  simp [h]
theorem wn64 (i : Nat) (h : i ≤ 4611686018427387904) : wrap64 ((i : Int) + 1) = ((i + 1 : Nat) : Int) := by rw [wrap64_id (isI64_mk (by omega) (by omega))]; omega
theorem sm_span {l : List Int} {B : Int} (h : ∀ x ∈ l, -B ≤ x ∧ x ≤ B) : -((l.length : Int) * B) ≤ sm l ∧ sm l ≤ (l.length : Int) * B := by
  induction l with
  | nil => simp [sm]
  | cons x l ih =>
    have := ih (fun y hy => h y (List.mem_cons_of_mem _ hy))
    have hx := h x List.mem_cons_self
    simp only [sm, List.length_cons]
    rw [show ((l.length + 1 : Nat) : Int) * B = (l.length : Int) * B + B by rw [Int.natCast_add]; rw [Int.add_mul]; simp]
    omega
theorem plus_eq {l : List Int} (hl : ∀ x ∈ l, isI64 x) (hn : l.length ≤ 1099511627776) : ∀ (m i k : Nat) (S : Int), i + m = l.length → m + 1 ≤ k →
    sat_plus.l0 k l (l.length : Int) i ((S / 18446744073709551616) % 18446744073709551616) (S % 18446744073709551616) =
      some (((S + sm (l.drop i)) / 18446744073709551616) % 18446744073709551616, (S + sm (l.drop i)) % 18446744073709551616) := by
  intro m
  induction m with
  | zero =>
    intro i k S hi hk
    obtain ⟨k, rfl⟩ : ∃ j, k = j + 1 := ⟨k - 1, by omega⟩
    simp only [sat_plus.l0]
    rw [if_neg (by omega), List.drop_eq_nil_of_le (by omega)]
    simp [sm]
  | succ m ih =>
    intro i k S hi hk
    obtain ⟨k, rfl⟩ : ∃ j, k = j + 1 := ⟨k - 1, by omega⟩
    have hil : i < l.length := by omega
    have t := add64_two (hi := (S / 18446744073709551616) % 18446744073709551616) (lo := S % 18446744073709551616) (by omega) (by omega) (by omega) (by omega) (hl _ (rd_mem hil))
    simp only [sat_plus.l0]
    rw [if_pos (by omega), if_pos (by omega), if_pos (by omega), if_pos t.1, t.2.1, t.2.2, wn64 i (by omega)]
    have e1 : (S % 18446744073709551616 + rd l (i : Int)) % 18446744073709551616 = (S + rd l (i : Int)) % 18446744073709551616 := by omega
    have e2 : (S / 18446744073709551616 % 18446744073709551616 + (S % 18446744073709551616 + rd l (i : Int)) / 18446744073709551616) % 18446744073709551616 = (S + rd l (i : Int)) / 18446744073709551616 % 18446744073709551616 := by omega
    rw [e1, e2, ih (i + 1) k (S + rd l (i : Int)) (by omega) (by omega), drop_rd hil]
    simp only [sm, Int.add_assoc]
theorem held128 {v : Int} (h0 : -170141183460469231731687303715884105728 ≤ v) (h1 : v < 170141183460469231731687303715884105728) :
    sat_held.f ((v / 18446744073709551616) % 18446744073709551616) (v % 18446744073709551616) = some (hd v) :=
  held_eq (by omega) (by omega) (by omega) (by omega) (by split <;> omega)
theorem i64_span {l : List Int} (hl : ∀ x ∈ l, isI64 x) (hn : l.length ≤ 1000000) : -9223372036854775808000000 ≤ sm l ∧ sm l ≤ 9223372036854775808000000 := by
  have h := sm_span (B := 9223372036854775808) (fun x hx => ⟨(hl x hx).1, by have := (hl x hx).2; omega⟩)
  omega
theorem sum_eq {l : List Int} (k : Nat) (hl : ∀ x ∈ l, isI64 x) (hn : l.length ≤ 1000000) (hk : l.length + 1 ≤ k) : sat_Sum.f k l = some (hd (sm l)) := by
  unfold sat_Sum.f sat_plus.f
  have h := plus_eq hl (by omega) l.length 0 k 0 (by omega) hk
  rw [show ((0 : Int) / 18446744073709551616) % 18446744073709551616 = 0 from rfl, show (0 : Int) % 18446744073709551616 = 0 from rfl] at h
  have s := i64_span hl hn
  rw [show ((0 : Nat) : Int) = 0 from rfl] at h
  rw [h]
  simp only [Option.bind_some, List.drop_zero, Int.zero_add]
  rw [held128 (by omega) (by omega)]
  rfl
theorem negative_eq {a : Int} (ha : isI64 a) : sat_negative.f a = some (((-a) / 18446744073709551616) % 18446744073709551616, (-a) % 18446744073709551616) := by
  unfold isI64 at ha
  unfold sat_negative.f
  have ua : IntKind.u64.wrap a = if a < 0 then a + 18446744073709551616 else a := by rw [u64_mod]; split <;> omega
  have us : IntKind.u64.wrap (a / 9223372036854775808) = if a < 0 then 18446744073709551615 else 0 := by rw [u64_mod]; split <;> omega
  have c0 : sub64c 0 (IntKind.u64.wrap a) 0 = if a = 0 then 0 else 1 := by
    rw [ua]; unfold sub64c; split <;> split <;> split <;> omega
  have s0 : sub64s 0 (IntKind.u64.wrap a) 0 = (-a) % 18446744073709551616 := by
    rw [ua]; unfold sub64s; split <;> omega
  rw [c0, s0, us]
  rw [if_pos (by split <;> omega)]
  have s1 : sub64s 0 (if a < 0 then 18446744073709551615 else 0) (if a = 0 then 0 else 1) = ((-a) / 18446744073709551616) % 18446744073709551616 := by
    unfold sub64s; split <;> split <;> omega
  rw [s1]
theorem sub_eq {a b : Int} (k : Nat) (hk : 2 ≤ k) (ha : isI64 a) (hb : isI64 b) : sat_Sub.f k a b = some (hd (a - b)) := by
  unfold sat_Sub.f
  rw [negative_eq hb]
  simp only [Option.bind_some]
  unfold sat_plus.f
  have h := plus_eq (l := [a]) (fun x hx => by rw [List.mem_singleton.1 hx]; exact ha) (by simp) 1 0 k (-b) (by simp) hk
  rw [show ((0 : Nat) : Int) = 0 from rfl] at h
  rw [h]
  simp only [Option.bind_some, List.drop_zero, sm, Int.add_zero]
  unfold isI64 at ha hb
  rw [held128 (by omega) (by omega), show -b + a = a - b by omega]
  rfl
end Go.Proofs.YtphgeljglhjamaaDoor.P
end

section
namespace Go.Proofs.YtphgeljglhjamaaDoor.P
open Go.RowKit Go.Proofs.YtphgeljglhjamaaDoorW.PrintWords Go.Proofs.YtphgeljglhjamaaDoorW.PrintLast Go.Proofs.YtphgeljglhjamaaDoorW.PrintMore
open Go.Proofs.YtphgeljglhjamaaDoor.FInt
set_option linter.unusedVariables false
set_option linter.unusedSimpArgs false
theorem csum_some {a b c d r s : Nat} (h1 : Ieee.double.add a c = some r) (h2 : Ieee.double.add b d = some s) : cSumBits .add .f64 a b c d = some (r, s) := by
  unfold cSumBits
  rw [show floatBits .add .f64 a c = Ieee.double.add a c from rfl, show floatBits .add .f64 b d = Ieee.double.add b d from rfl, h1, h2]
  rfl
theorem stands_zero : Stands 0 0 := by
  have h := stands_of (n := 0) (by decide)
  rwa [show floatOfInt .f64 0 = 0 by kernel_rfl] at h
def SI (z : Nat × Nat) (b : Bool) (xs ys : List Int) (i : Nat) : Prop := Tame z.1 ∧ Tame z.2 ∧ (b = true → (Stands z.1 (sm (xs.take i)) ∧ Stands z.2 (sm (ys.take i))) ∧ (-((i : Int) * 1099511627776) ≤ sm (xs.take i) ∧ sm (xs.take i) ≤ (i : Int) * 1099511627776) ∧ (-((i : Int) * 1099511627776) ≤ sm (ys.take i) ∧ sm (ys.take i) ≤ (i : Int) * 1099511627776))
theorem fin64 {x : Int} (h : isI64 x) : Finite (floatOfInt .f64 x) := finite_of (by unfold isI64 at h; omega)
theorem sums_loop {xs ys : List Int} (hx : ∀ x ∈ xs, isI64 x) (hy : ∀ y ∈ ys, isI64 y) (hlen : xs.length = ys.length) (hn : xs.length ≤ 64) : ∀ (m i k : Nat) (z : Nat × Nat) (b : Bool), i + m = xs.length → m + 70 ≤ k → SI z b xs ys i →
    trend_sums.l0 k xs ys z b (xs.length : Int) i = some (hd (sm xs), hd (sm ys)) := by
  intro m
  induction m with
  | zero =>
    intro i k z b hi hk h
    obtain ⟨k, rfl⟩ : ∃ j, k = j + 1 := ⟨k - 1, by omega⟩
    simp only [trend_sums.l0]
    rw [if_neg (by omega)]
    obtain ⟨t1, t2, h⟩ := h
    cases b with
    | true =>
      obtain ⟨⟨s1, s2⟩, ⟨a1, a2⟩, b1, b2⟩ := h rfl
      rw [List.take_of_length_le (by omega)] at s1 s2 a1 a2 b1 b2
      have e1 := stands_int s1 (by omega) (by omega)
      have e2 := stands_int s2 (by omega) (by omega)
      rw [if_pos rfl, e1, e2, hd_id (isI64_mk (by omega) (by omega)), hd_id (isI64_mk (by omega) (by omega))]
      rfl
    | false =>
      rw [if_neg (by simp), sum_eq k hx (by omega) (by omega), sum_eq k hy (by omega) (by omega)]
      rfl
  | succ m ih =>
    intro i k z b hi hk h
    obtain ⟨k, rfl⟩ : ∃ j, k = j + 1 := ⟨k - 1, by omega⟩
    have hil : i < xs.length := by omega
    have hil2 : i < ys.length := by omega
    have ix := hx _ (rd_mem hil)
    have iy := hy _ (rd_mem hil2)
    obtain ⟨t1, t2, h⟩ := h
    obtain ⟨r1, e1, q1⟩ := add_tame t1 (fin64 ix)
    obtain ⟨r2, e2, q2⟩ := add_tame t2 (fin64 iy)
    have ec := csum_some e1 e2
    simp only [trend_sums.l0]
    rw [if_pos (by omega), if_pos (by omega), if_pos (by omega), if_pos (by omega), ec, wn64 i (by omega)]
    simp only [Option.isSome_some, if_true, Option.getD_some]
    rw [abs_eq ix, abs_eq iy]
    simp only [Option.bind_some]
    cases b with
    | false =>
      rw [if_neg (by simp)]
      exact ih (i + 1) k _ _ (by omega) (by omega) ⟨q1, q2, fun h => by simp at h⟩
    | true =>
      obtain ⟨⟨s1, s2⟩, ⟨a1, a2⟩, b1, b2⟩ := h rfl
      rw [if_pos rfl]
      by_cases c1 : hd (ab (rd xs (i : Int))) < 1099511627776
      · rw [if_pos c1]
        refine ih (i + 1) k _ _ (by omega) (by omega) ⟨q1, q2, fun h => ?_⟩
        have c2 := of_decide_eq_true h
        rw [hd_eq] at c1 c2
        unfold ab at c1 c2
        unfold isI64 at ix iy
        have x1 : -1099511627776 ≤ rd xs (i : Int) ∧ rd xs (i : Int) ≤ 1099511627776 := by
          revert c1; repeat' split
          all_goals (intro c1; omega)
        have y1 : -1099511627776 ≤ rd ys (i : Int) ∧ rd ys (i : Int) ≤ 1099511627776 := by
          revert c2; repeat' split
          all_goals (intro c2; omega)
        have i64 : i ≤ 64 := by omega
        rw [take_rd hil, take_rd hil2, sm_append, sm_append]
        simp only [sm, Int.add_zero]
        obtain ⟨r1', e1', s1'⟩ := stands_add s1 (stands_of (n := rd xs (i : Int)) (by omega)) (by omega)
        obtain ⟨r2', e2', s2'⟩ := stands_add s2 (stands_of (n := rd ys (i : Int)) (by omega)) (by omega)
        rw [e1] at e1'
        rw [e2] at e2'
        obtain rfl := Option.some.inj e1'
        obtain rfl := Option.some.inj e2'
        rw [show ((i + 1 : Nat) : Int) * 1099511627776 = (i : Int) * 1099511627776 + 1099511627776 by omega]
        exact ⟨⟨s1', s2'⟩, ⟨by omega, by omega⟩, by omega, by omega⟩
      · rw [if_neg c1]
        exact ih (i + 1) k _ _ (by omega) (by omega) ⟨q1, q2, fun h => by simp at h⟩
theorem sums_eq {xs ys : List Int} (k : Nat) (hx : ∀ x ∈ xs, isI64 x) (hy : ∀ y ∈ ys, isI64 y) (hlen : xs.length = ys.length) (hn : xs.length ≤ 64) (hk : 140 ≤ k) : trend_sums.f k xs ys = some (hd (sm xs), hd (sm ys)) := by
  unfold trend_sums.f
  refine sums_loop hx hy hlen hn xs.length 0 k (0, 0) true (by omega) (by omega) ⟨.inl (stands_finite stands_zero), .inl (stands_finite stands_zero), fun _ => ⟨⟨stands_zero, stands_zero⟩, ?_, ?_⟩⟩ <;> simp [sm]
end Go.Proofs.YtphgeljglhjamaaDoor.P
end

section
namespace Go.Proofs.YtphgeljglhjamaaDoor.P
open Go.RowKit
end Go.Proofs.YtphgeljglhjamaaDoor.P
end

section
namespace Go.Proofs.YtphgeljglhjamaaDoor.P
open Go.RowKit Go.Proofs.YtphgeljglhjamaaDoorW.PrintWords Go.Proofs.YtphgeljglhjamaaDoorW.PrintLast Go.Proofs.YtphgeljglhjamaaDoorW.PrintMore
set_option linter.unusedVariables false
set_option linter.unusedSimpArgs false
def dl (l : List Int) (b : Int) : List Int := l.map (fun v => hd (v - b))
def ofl (n : Int) (l : List Int) (s : Int) : List Int := l.map (fun d => hd (hd (n * d) - s))
def prods (u v : List Int) : List Int := List.zipWith (fun a b => hd (a * b)) u v
def slope (n : Int) (dx dy : List Int) : Int :=
  md (hd (sm (prods (ofl n dx (hd (sm dx))) (ofl n dy (hd (sm dy)))))) 4294967296 (hd (sm (prods (ofl n dx (hd (sm dx))) (ofl n dx (hd (sm dx)))))) 2
def LN (xs ys : List Int) : Int := if min (min xs.length ys.length) 64 < 2 then 0 else
  slope (min (min xs.length ys.length) 64 : Nat) (dl (xs.take (min (min xs.length ys.length) 64)) (rd xs 0)) (dl (ys.take (min (min xs.length ys.length) 64)) (rd ys 0))
theorem dl_len (l : List Int) (b : Int) : (dl l b).length = l.length := List.length_map _
theorem ofl_len (n : Int) (l : List Int) (s : Int) : (ofl n l s).length = l.length := List.length_map _
theorem dl_i64 (l : List Int) (b : Int) : ∀ x ∈ dl l b, isI64 x := fun x hx => by
  obtain ⟨v, _, rfl⟩ := List.mem_map.1 hx
  exact hd_i64 _
theorem ofl_i64 (n : Int) (l : List Int) (s : Int) : ∀ x ∈ ofl n l s, isI64 x := fun x hx => by
  obtain ⟨v, _, rfl⟩ := List.mem_map.1 hx
  exact hd_i64 _
theorem mn_len (a b : Nat) : mn (mn (a : Int) (b : Int)) 64 = ((min (min a b) 64 : Nat) : Int) := by
  unfold mn; split <;> split <;> omega
theorem less_loop {l : List Int} {b : Int} (hb : isI64 b) (hl : ∀ x ∈ l, isI64 x) (hn : l.length ≤ 64) : ∀ (m i k : Nat) (acc : List Int), i + m = l.length → m + 5 ≤ k → acc.length ≤ i →
    trend_less.l0 k b acc l (l.length : Int) i = some (acc ++ dl (l.drop i) b) := by
  intro m
  induction m with
  | zero =>
    intro i k acc hi hk ha
    obtain ⟨k, rfl⟩ : ∃ j, k = j + 1 := ⟨k - 1, by omega⟩
    simp only [trend_less.l0]
    rw [if_neg (by omega), List.drop_eq_nil_of_le (by omega)]
    simp [dl]
  | succ m ih =>
    intro i k acc hi hk ha
    obtain ⟨k, rfl⟩ : ∃ j, k = j + 1 := ⟨k - 1, by omega⟩
    have hil : i < l.length := by omega
    simp only [trend_less.l0]
    rw [if_pos (by omega), if_pos (by omega), if_pos (by omega), sub_eq k (by omega) (hl _ (rd_mem hil)) hb]
    simp only [Option.bind_some]
    rw [if_pos (by omega), wn64 i (by omega), ih (i + 1) k _ (by omega) (by omega) (by rw [List.length_append]; simp; omega), drop_rd hil]
    simp [dl, List.append_assoc]
theorem less_eq {l : List Int} {b : Int} (k : Nat) (hb : isI64 b) (hl : ∀ x ∈ l, isI64 x) (hn : l.length ≤ 64) (hk : 70 ≤ k) : trend_less.f k l b = some (dl l b) := by
  unfold trend_less.f
  have h := less_loop hb hl hn l.length 0 k [] (by omega) (by omega) (by simp)
  rw [show ((0 : Nat) : Int) = 0 from rfl] at h
  rw [h]; simp
theorem off_loop {l : List Int} {s : Int} (hs : isI64 s) (hl : ∀ x ∈ l, isI64 x) (hn : l.length ≤ 64) : ∀ (m i k : Nat) (acc : List Int), i + m = l.length → m + 5 ≤ k → acc.length ≤ i →
    trend_off.l0 k l s acc l (l.length : Int) i = some (acc ++ ofl l.length (l.drop i) s) := by
  intro m
  induction m with
  | zero =>
    intro i k acc hi hk ha
    obtain ⟨k, rfl⟩ : ∃ j, k = j + 1 := ⟨k - 1, by omega⟩
    simp only [trend_off.l0]
    rw [if_neg (by omega), List.drop_eq_nil_of_le (by omega)]
    simp [ofl]
  | succ m ih =>
    intro i k acc hi hk ha
    obtain ⟨k, rfl⟩ : ∃ j, k = j + 1 := ⟨k - 1, by omega⟩
    have hil : i < l.length := by omega
    simp only [trend_off.l0]
    rw [if_pos (by omega), if_pos (by omega), if_pos (by omega), mul_eq (isI64_mk (by omega) (by omega)) (hl _ (rd_mem hil))]
    simp only [Option.bind_some]
    rw [sub_eq k (by omega) (hd_i64 _) hs]
    simp only [Option.bind_some]
    rw [if_pos (by omega), wn64 i (by omega), ih (i + 1) k _ (by omega) (by omega) (by rw [List.length_append]; simp; omega), drop_rd hil]
    simp [ofl, List.append_assoc]
theorem off_eq {l : List Int} {s : Int} (k : Nat) (hs : isI64 s) (hl : ∀ x ∈ l, isI64 x) (hn : l.length ≤ 64) (hk : 70 ≤ k) : trend_off.f k l s = some (ofl l.length l s) := by
  unfold trend_off.f
  have h := off_loop hs hl hn l.length 0 k [] (by omega) (by omega) (by simp)
  rw [show ((0 : Nat) : Int) = 0 from rfl] at h
  rw [h]; simp
theorem line_loop {u v : List Int} (hu : ∀ x ∈ u, isI64 x) (hv : ∀ x ∈ v, isI64 x) (hlen : u.length = v.length) (hn : u.length ≤ 64) : ∀ (m i k : Nat) (p q : List Int), i + m = u.length → m + 70 ≤ k → p.length = i → q.length = i →
    (∀ x ∈ p, isI64 x) → (∀ x ∈ q, isI64 x) →
    trend_Line.l0 k u v p q (u.length : Int) i = some (md (hd (sm (p ++ prods (u.drop i) (v.drop i)))) 4294967296 (hd (sm (q ++ prods (u.drop i) (u.drop i)))) 2) := by
  intro m
  induction m with
  | zero =>
    intro i k p q hi hk hp hq ip iq
    obtain ⟨k, rfl⟩ : ∃ j, k = j + 1 := ⟨k - 1, by omega⟩
    simp only [trend_Line.l0]
    rw [if_neg (by omega), List.drop_eq_nil_of_le (by omega), sum_eq k ip (by omega) (by omega), sum_eq k iq (by omega) (by omega)]
    simp only [Option.bind_some, prods, List.zipWith_nil_left, List.append_nil]
    unfold fixed_Div.f
    rw [do_eq 2 (hd_i64 _) (isI64_mk (by decide) (by decide)) (hd_i64 _)]
    rfl
  | succ m ih =>
    intro i k p q hi hk hp hq ip iq
    obtain ⟨k, rfl⟩ : ∃ j, k = j + 1 := ⟨k - 1, by omega⟩
    have h1 : i < u.length := by omega
    have h2 : i < v.length := by omega
    have x1 := hu _ (rd_mem h1)
    have x2 := hv _ (rd_mem h2)
    simp only [trend_Line.l0]
    rw [if_pos (by omega), if_pos (by omega), if_pos (by omega), if_pos (by omega), mul_eq x1 x2, mul_eq x1 x1]
    simp only [Option.bind_some]
    rw [if_pos (by omega), if_pos (by omega), wn64 i (by omega), ih (i + 1) k _ _ (by omega) (by omega) (by rw [List.length_append]; simp; omega) (by rw [List.length_append]; simp; omega)
      (fun x hx => by rcases List.mem_append.1 hx with h | h; exact ip x h; rw [List.mem_singleton.1 h]; exact hd_i64 _) (fun x hx => by rcases List.mem_append.1 hx with h | h; exact iq x h; rw [List.mem_singleton.1 h]; exact hd_i64 _)]
    rw [drop_rd h1, drop_rd h2]
    simp [prods, List.append_assoc]
theorem line_eq {xs ys : List Int} (k : Nat) (hx : ∀ x ∈ xs, isI64 x) (hy : ∀ y ∈ ys, isI64 y) (hk : 200 ≤ k) : trend_Line.f k xs ys = some (LN xs ys) := by
  unfold trend_Line.f LN
  rw [mn_len]
  generalize hm : min (min xs.length ys.length) 64 = n
  by_cases h : n < 2
  · rw [if_pos (by omega), if_pos h]
  rw [if_neg (by omega), if_neg h, if_pos (by omega), if_pos (by omega), if_pos (by omega), Int.toNat_natCast]
  have l1 : (xs.take n).length = n := by rw [List.length_take]; omega
  have l2 : (ys.take n).length = n := by rw [List.length_take]; omega
  have t1 : ∀ x ∈ xs.take n, isI64 x := fun x h => hx x (List.mem_of_mem_take h)
  have t2 : ∀ x ∈ ys.take n, isI64 x := fun x h => hy x (List.mem_of_mem_take h)
  have r1 : isI64 (rd xs 0) := hx _ (rd_mem (i := 0) (by omega))
  have r2 : isI64 (rd ys 0) := hy _ (rd_mem (i := 0) (by omega))
  rw [less_eq k r1 t1 (by omega) (by omega)]
  simp only [Option.bind_some]
  rw [if_pos (by omega), if_pos (by omega), less_eq k r2 t2 (by omega) (by omega)]
  simp only [Option.bind_some]
  have d1 : (dl (xs.take n) (rd xs 0)).length = n := by rw [dl_len, l1]
  have d2 : (dl (ys.take n) (rd ys 0)).length = n := by rw [dl_len, l2]
  rw [sums_eq k (dl_i64 _ _) (dl_i64 _ _) (by omega) (by omega) (by omega)]
  simp only [Option.bind_some]
  rw [off_eq k (hd_i64 _) (dl_i64 _ _) (by omega) (by omega), off_eq k (hd_i64 _) (dl_i64 _ _) (by omega) (by omega)]
  simp only [Option.bind_some]
  have h := line_loop (ofl_i64 (dl (xs.take n) (rd xs 0)).length (dl (xs.take n) (rd xs 0)) (hd (sm (dl (xs.take n) (rd xs 0))))) (ofl_i64 (dl (ys.take n) (rd ys 0)).length (dl (ys.take n) (rd ys 0)) (hd (sm (dl (ys.take n) (rd ys 0))))) (by rw [ofl_len, ofl_len]; omega) (by rw [ofl_len]; omega) n 0 k [] [] (by rw [ofl_len]; omega) (by omega) rfl rfl (by simp) (by simp)
  rw [show ((0 : Nat) : Int) = 0 from rfl] at h
  rw [h, d1, d2]
  simp only [List.drop_zero, List.nil_append, slope]
theorem LN_i64 (xs ys : List Int) : isI64 (LN xs ys) := by
  unfold LN
  split
  · exact isI64_mk (by decide) (by decide)
  · exact md_i64 _ _ _ _
end Go.Proofs.YtphgeljglhjamaaDoor.P
end

section
namespace Go.Proofs.YtphgeljglhjamaaDoor.P
open Go.RowKit Go.Proofs.YtphgeljglhjamaaDoorW.PrintWords Go.Proofs.YtphgeljglhjamaaDoorW.PrintLast Go.Proofs.YtphgeljglhjamaaDoorW.PrintMore
set_option linter.unusedVariables false
set_option linter.unusedSimpArgs false
def Us (n : Int) (d : List Int) : List Int := d.map (fun x => n * x - sm d)
def Ps (u v : List Int) : Int := sm (List.zipWith (· * ·) u v)
def Sml (B : Int) (l : List Int) : Prop := ∀ x ∈ l, -B ≤ x ∧ x ≤ B
theorem mul_span {a b A B : Int} (ha : -A ≤ a ∧ a ≤ A) (hb : -B ≤ b ∧ b ≤ B) : -(A * B) ≤ a * b ∧ a * b ≤ A * B := by
  have hA : 0 ≤ A := by omega
  have hB : 0 ≤ B := by omega
  have h1 : (a.natAbs : Int) ≤ A := by omega
  have h2 : (b.natAbs : Int) ≤ B := by omega
  have h3 : ((a * b).natAbs : Int) ≤ A * B := by
    rw [Int.natAbs_mul, Int.natCast_mul]
    exact Int.mul_le_mul h1 h2 (by omega) hA
  omega
theorem len_mul {n B : Int} (h0 : 0 ≤ n) (h : n ≤ 64) (hB : 0 ≤ B) : n * B ≤ 64 * B := Int.mul_le_mul_of_nonneg_right h hB
theorem sm_small {l : List Int} {B : Int} (hn : l.length ≤ 64) (hB : 0 ≤ B) (h : Sml B l) : -(64 * B) ≤ sm l ∧ sm l ≤ 64 * B := by
  have := sm_span h
  have := len_mul (n := (l.length : Int)) (B := B) (by omega) (by omega) hB
  omega
theorem Sml.mono {A B : Int} {l : List Int} (h : Sml A l) (hAB : A ≤ B) : Sml B l := fun x hx => by
  have := h x hx
  omega
theorem Us_small {n B : Int} {d : List Int} (hB : 0 ≤ B) (h0 : 0 ≤ n) (hn : n ≤ 64) (hl : d.length ≤ 64) (h : Sml B d) : Sml (128 * B) (Us n d) := fun x hx => by
  obtain ⟨y, hy, rfl⟩ := List.mem_map.1 hx
  have h1 := sm_small hl hB h
  have h2 := mul_span (a := n) (A := 64) ⟨by omega, hn⟩ (h y hy)
  omega
theorem ofl_small {n : Int} {d : List Int} (h0 : 0 ≤ n) (hn : n ≤ 64) (hl : d.length ≤ 64) (h : Sml 8388608 d) : ofl n d (hd (sm d)) = Us n d := by
  have h1 := sm_small hl (by decide) h
  unfold ofl Us
  rw [hd_id (isI64_mk (by omega) (by omega))]
  refine List.map_congr_left (fun x hx => ?_)
  have h2 := mul_span (a := n) (A := 64) ⟨by omega, hn⟩ (h x hx)
  rw [hd_id (x := n * x) (isI64_mk (by omega) (by omega)), hd_id (isI64_mk (by omega) (by omega))]
theorem zip_small {u v : List Int} {A B : Int} (hu : Sml A u) (hv : Sml B v) : Sml (A * B) (List.zipWith (· * ·) u v) := fun x hx => by
  rw [List.mem_iff_getElem] at hx
  obtain ⟨i, hi, rfl⟩ := hx
  rw [List.getElem_zipWith]
  exact mul_span (hu _ (List.getElem_mem _)) (hv _ (List.getElem_mem _))
theorem prods_small {u v : List Int} (hu : Sml 33554432 u) (hv : Sml 1073741824 v) : prods u v = List.zipWith (· * ·) u v := by
  unfold prods
  induction u generalizing v with
  | nil => rfl
  | cons x u ih =>
    cases v with
    | nil => rfl
    | cons y v =>
      simp only [List.zipWith_cons_cons]
      have h := mul_span (hu x List.mem_cons_self) (hv y List.mem_cons_self)
      rw [hd_id (isI64_mk (by omega) (by omega)), ih (fun z hz => hu z (List.mem_cons_of_mem _ hz)) (fun z hz => hv z (List.mem_cons_of_mem _ hz))]
theorem Ps_small {u v : List Int} (hl : u.length ≤ 64) (hu : Sml 33554432 u) (hv : Sml 1073741824 v) : hd (sm (prods u v)) = Ps u v := by
  rw [prods_small hu hv]
  have h := sm_small (l := List.zipWith (· * ·) u v) (by rw [List.length_zipWith]; omega) (by decide) (zip_small hu hv)
  exact hd_id (isI64_mk (by omega) (by omega))
theorem sm_map_mul (m : Int) (d : List Int) : sm (d.map (fun x => m * x)) = m * sm d := by
  induction d with
  | nil => simp [sm]
  | cons x d ih => simp only [List.map_cons, sm, ih, Int.mul_add]
theorem Us_mul (n m : Int) (d : List Int) : Us n (d.map (fun x => m * x)) = (Us n d).map (fun x => m * x) := by
  unfold Us
  rw [sm_map_mul, List.map_map, List.map_map]
  refine List.map_congr_left (fun x _ => ?_)
  simp only [Function.comp]
  rw [Int.mul_sub, ← Int.mul_assoc, ← Int.mul_assoc, Int.mul_comm n m]
theorem Ps_mul (m : Int) (u v : List Int) : Ps u (v.map (fun x => m * x)) = m * Ps u v := by
  unfold Ps
  induction u generalizing v with
  | nil => simp [sm]
  | cons x u ih =>
    cases v with
    | nil => simp [sm]
    | cons y v =>
      simp only [List.map_cons, List.zipWith_cons_cons, sm, ih, Int.mul_add]
      rw [← Int.mul_assoc, ← Int.mul_assoc, Int.mul_comm x m]
theorem LN_pts {xs ys : List Int} {n : Nat} (h1 : xs.length = n) (h2 : ys.length = n) (hn : n ≤ 64) : LN xs ys = if n < 2 then 0 else slope n (dl xs (rd xs 0)) (dl ys (rd ys 0)) := by
  unfold LN
  rw [show min (min xs.length ys.length) 64 = n by omega, List.take_of_length_le (by omega), List.take_of_length_le (by omega)]
theorem dl_exact {l : List Int} {b : Int} (h : ∀ x ∈ l, isI64 (x - b)) : dl l b = l.map (fun v => v - b) := by
  unfold dl
  exact List.map_congr_left (fun x hx => hd_id (h x hx))
end Go.Proofs.YtphgeljglhjamaaDoor.P
end

section
namespace Go.Proofs.YtphgeljglhjamaaDoor.P
open Go.RowKit Go.Proofs.YtphgeljglhjamaaDoorW.PrintWords Go.Proofs.YtphgeljglhjamaaDoorW.PrintLast Go.Proofs.YtphgeljglhjamaaDoorW.PrintMore
set_option linter.unusedVariables false
set_option linter.unusedSimpArgs false
def mixv (a b s : Int) : Int := hd (a + md (hd (b - a)) s 4294967296 2)
theorem mix_eq {a b s : Int} (k : Nat) (hk : 3 ≤ k) (ha : isI64 a) (hb : isI64 b) (hs : isI64 s) : fixed_Mix.f k a b s = some (mixv a b s) := by
  unfold fixed_Mix.f fixed_Mul.f
  rw [sub_eq k (by omega) hb ha]
  simp only [Option.bind_some]
  rw [do_eq 2 (hd_i64 _) hs (isI64_mk (by decide) (by decide))]
  simp only [Option.bind_some]
  rw [add_eq k hk ha (md_i64 _ _ _ _)]
  rfl
def TN (w s sum y x : Int) (xs ys : List Int) (c : Int) : Prop :=
  2 ≤ w ∧ w ≤ 64 ∧ isI64 s ∧ isI64 sum ∧ isI64 y ∧ isI64 x ∧ xs.length = ys.length ∧ (xs.length : Int) ≤ w ∧ (∀ v ∈ xs, isI64 v) ∧ (∀ v ∈ ys, isI64 v)
def slv (w : Int) (xs ys : List Int) : Int := if (xs.length : Int) < w then 0 else LN xs ys
theorem tslope_eq {w s sum y x c : Int} {xs ys : List Int} (k : Nat) (hk : 200 ≤ k) (h : TN w s sum y x xs ys c) : trend_Trend_Slope.f k w s sum y x xs ys c = some (slv w xs ys, w, s, sum, y, x, xs, ys, c) := by
  obtain ⟨_, _, _, _, _, _, _, _, h1, h2⟩ := h
  unfold trend_Trend_Slope.f slv
  split
  · rfl
  · rw [line_eq k h1 h2 hk]; rfl
def cT (a : Int) : Int := if a < -1125899906842624 then -1125899906842624 else if a > 1125899906842624 then 1125899906842624 else a
theorem cT_span (a : Int) : -1125899906842624 ≤ cT a ∧ cT a ≤ 1125899906842624 := by unfold cT; repeat' split <;> omega
theorem cT_id {a : Int} (h0 : -1125899906842624 ≤ a) (h1 : a ≤ 1125899906842624) : cT a = a := by unfold cT; rw [if_neg (by omega), if_neg (by omega)]
def tS (sum a b : Int) : Int := hd (sum + (cT b - cT a))
def tY (sum y s a b : Int) : Int := mixv (tS sum a b) y s
def tX (x a : Int) : Int := hd (x + cT a)
def tcut (w : Int) (l : List Int) : List Int := if 0 < (l.length : Int) - w then l.drop 1 else l
theorem tadd_eq {w s sum y x c a b : Int} {xs ys : List Int} (k : Nat) (hk : 300 ≤ k) (h : TN w s sum y x xs ys c) :
    trend_Trend_Add.f k w s sum y x xs ys c a b = some (slv w (tcut w (xs ++ [tX x a])) (tcut w (ys ++ [tY sum y s a b])), w, s, tS sum a b, tY sum y s a b, tX x a, tcut w (xs ++ [tX x a]), tcut w (ys ++ [tY sum y s a b]), mn (wrap64 (c + 1)) 1000) ∧
    TN w s (tS sum a b) (tY sum y s a b) (tX x a) (tcut w (xs ++ [tX x a])) (tcut w (ys ++ [tY sum y s a b])) (mn (wrap64 (c + 1)) 1000) := by
  obtain ⟨w2, w64, hs, hsum, hy, hx, hlen, hw, ix, iy⟩ := h
  unfold trend_Trend_Add.f
  rw [clamp_eq, clamp_eq]
  obtain ⟨t10, t11⟩ := cT_span a
  obtain ⟨t20, t21⟩ := cT_span b
  rw [show (if a < -1125899906842624 then -1125899906842624 else if a > 1125899906842624 then 1125899906842624 else a) = cT a from rfl, show (if b < -1125899906842624 then -1125899906842624 else if b > 1125899906842624 then 1125899906842624 else b) = cT b from rfl]
  simp only [Option.bind_some]
  rw [wrap64_id (a := cT b - cT a) (isI64_mk (by omega) (by omega)), add_eq k (by omega) hsum (isI64_mk (by omega) (by omega))]
  simp only [Option.bind_some]
  rw [mix_eq k (by omega) (hd_i64 _) hy hs]
  simp only [Option.bind_some]
  rw [add_eq k (by omega) hx (isI64_mk (by omega) (by omega))]
  simp only [Option.bind_some]
  have hc : xs.length = ys.length ∧ xs.length < 17592186044416 := ⟨hlen, by omega⟩
  rw [if_pos hc]
  rw [show hd (sum + (cT b - cT a)) = tS sum a b from rfl, show mixv (tS sum a b) y s = tY sum y s a b from rfl, show hd (x + cT a) = tX x a from rfl]
  have iS : isI64 (tS sum a b) := hd_i64 _
  have iY : isI64 (tY sum y s a b) := hd_i64 _
  have iX : isI64 (tX x a) := hd_i64 _
  generalize tS sum a b = S at iS ⊢
  generalize tY sum y s a b = Y at iY ⊢
  generalize tX x a = X at iX ⊢
  have ia : ∀ v ∈ xs ++ [X], isI64 v := fun v hv => by
    rcases List.mem_append.1 hv with h | h
    · exact ix v h
    · rw [List.mem_singleton.1 h]; exact iX
  have ib : ∀ v ∈ ys ++ [Y], isI64 v := fun v hv => by
    rcases List.mem_append.1 hv with h | h
    · exact iy v h
    · rw [List.mem_singleton.1 h]; exact iY
  have en : wrap64 (((xs ++ [X]).length : Int) - w) = (xs.length : Int) + 1 - w := by
    rw [List.length_append, List.length_singleton, wrap64_id (isI64_mk (by omega) (by omega))]; omega
  have el : ((xs ++ [X]).length : Int) = (xs.length : Int) + 1 := by rw [List.length_append, List.length_singleton]; omega
  have el2 : ((ys ++ [Y]).length : Int) = (xs.length : Int) + 1 := by rw [List.length_append, List.length_singleton]; omega
  rw [en, el]
  unfold tcut
  rw [el, el2]
  by_cases c1 : 0 < (xs.length : Int) + 1 - w
  · have q : TN w s S Y X ((xs ++ [X]).drop 1) ((ys ++ [Y]).drop 1) (mn (wrap64 (c + 1)) 1000) := by
      refine ⟨w2, w64, hs, iS, iY, iX, ?_, ?_, fun v hv => ia v (List.mem_of_mem_drop hv), fun v hv => ib v (List.mem_of_mem_drop hv)⟩
      · simp only [List.length_drop, List.length_append, List.length_singleton]; omega
      · simp only [List.length_drop, List.length_append, List.length_singleton]; omega
    rw [if_pos c1, if_pos (by omega), if_pos c1, if_pos c1, show ((xs.length : Int) + 1 - w).toNat = 1 by omega, tslope_eq k (by omega) q]
    exact ⟨rfl, q⟩
  · have q : TN w s S Y X (xs ++ [X]) (ys ++ [Y]) (mn (wrap64 (c + 1)) 1000) := by
      refine ⟨w2, w64, hs, iS, iY, iX, ?_, ?_, ia, ib⟩
      · simp only [List.length_append, List.length_singleton]; omega
      · simp only [List.length_append, List.length_singleton]; omega
    rw [if_neg c1, if_neg c1, if_neg c1, tslope_eq k (by omega) q]
    exact ⟨rfl, q⟩
theorem slv_i64 (w : Int) (xs ys : List Int) : isI64 (slv w xs ys) := by
  unfold slv; split
  · exact isI64_mk (by decide) (by decide)
  · exact LN_i64 xs ys
end Go.Proofs.YtphgeljglhjamaaDoor.P
end

section
namespace Go.Proofs.YtphgeljglhjamaaDoor.P
open Go.RowKit
set_option linter.unusedVariables false
set_option linter.unusedSimpArgs false
end Go.Proofs.YtphgeljglhjamaaDoor.P
end

section
namespace Go.Proofs.YtphgeljglhjamaaDoor.P
open Go.RowKit Go.Proofs.YtphgeljglhjamaaDoorW.PrintWords Go.Proofs.YtphgeljglhjamaaDoorW.PrintLast Go.Proofs.YtphgeljglhjamaaDoorW.PrintMore
set_option linter.unusedVariables false
set_option linter.unusedSimpArgs false
def cl (x lo hi : Int) : Int := if x < lo then lo else if x > hi then hi else x
def nn (n : Int) : Int := mn (mx n 0) 60
def dS (slope n : Int) : Int := hd (4 * nn n * slope)
def dT (t : Int) : Int := cl t 0 1000000
def dThr (thr s m : Int) : Int :=
  if hd (ab s) > thr + 64424509440 then thr
  else cl (thr + (hd (ab s) - thr) * ((if hd (ab s) < thr then 168 else 43) * m) / 4294967296) 25769803776 2576980377600
def dU (u thr us ti sg s t : Int) : Int × Int × Int :=
  if s > thr then (if (if us > 0 then us + t else mx (t / 2) 1) > 10000 ∧ ti + 1 > 1 ∧ s ≥ sg then (1, 0, 0) else (u, if us > 0 then us + t else mx (t / 2) 1, ti + 1))
  else if s < -thr then (2, 0, 0) else (0, 0, 0)
def TR (thr : Int) : Prop := 25769803776 ≤ thr ∧ thr ≤ 2576980377600
theorem nn_span (n : Int) : 0 ≤ nn n ∧ nn n ≤ 60 := by unfold nn mn mx; repeat' split <;> omega
theorem dT_span (t : Int) : 0 ≤ dT t ∧ dT t ≤ 1000000 := by unfold dT cl; repeat' split <;> omega
theorem ab_span {s : Int} (h : isI64 s) : 0 ≤ hd (ab s) ∧ hd (ab s) ≤ 9223372036854775807 := by
  unfold isI64 at h; rw [hd_eq]; unfold ab; repeat' split <;> omega
theorem cl_span (x lo hi : Int) (h : lo ≤ hi) : lo ≤ cl x lo hi ∧ cl x lo hi ≤ hi := by unfold cl; repeat' split <;> omega
theorem dThr_TR {thr s m : Int} (h : TR thr) : TR (dThr thr s m) := by
  unfold dThr
  split
  · exact h
  · exact cl_span _ _ _ (by decide)
theorem fof (n v : Int) (h : isI64 n) (hv : hd (n * 4294967296) = v) : fixed_Of.f n = some v := by
  unfold fixed_Of.f; rw [mul_eq h (isI64_mk (by decide) (by decide)), hv]; rfl
theorem fof6 : fixed_Of.f 6 = some 25769803776 := fof _ _ (isI64_mk (by decide) (by decide)) (by rw [hd_eq]; decide)
theorem fof15 : fixed_Of.f 15 = some 64424509440 := fof _ _ (isI64_mk (by decide) (by decide)) (by rw [hd_eq]; decide)
theorem fof25 : fixed_Of.f 25 = some 107374182400 := fof _ _ (isI64_mk (by decide) (by decide)) (by rw [hd_eq]; decide)
theorem fof600 : fixed_Of.f 600 = some 2576980377600 := fof _ _ (isI64_mk (by decide) (by decide)) (by rw [hd_eq]; decide)
theorem by_span {thr a m q : Int} (h : TR thr) (h0 : 0 ≤ a) (h1 : a ≤ thr + 64424509440) (m0 : 0 ≤ m) (m1 : m ≤ 100000) (hq : q = 168 ∨ q = 43) :
    isI64 (a - thr) ∧ isI64 (q * m) ∧ -4611686018427387904 ≤ (a - thr) * (q * m) / 4294967296 ∧ (a - thr) * (q * m) / 4294967296 ≤ 4611686018427387904 := by
  unfold TR at h
  have b0 : 0 ≤ q * m ∧ q * m ≤ 16800000 := by rcases hq with rfl | rfl <;> omega
  generalize q * m = p at b0 ⊢
  have d0 : -2576980377600 ≤ a - thr ∧ a - thr ≤ 64424509440 := by omega
  generalize a - thr = d at d0 ⊢
  have l1 : -2576980377600 * 16800000 ≤ d * p := by
    by_cases hd0 : 0 ≤ d
    · have := Int.mul_nonneg hd0 b0.1; omega
    · have := Int.mul_le_mul (a := -d) (b := p) (c := 2576980377600) (d := 16800000) (by omega) b0.2 b0.1 (by decide)
      rw [Int.neg_mul] at this; omega
  have l2 : d * p ≤ 64424509440 * 16800000 := by
    by_cases hd0 : 0 ≤ d
    · exact Int.mul_le_mul d0.2 b0.2 b0.1 (by decide)
    · have := Int.mul_nonneg (a := -d) (b := p) (by omega) b0.1
      rw [Int.neg_mul] at this; omega
  exact ⟨isI64_mk (by omega) (by omega), isI64_mk (by omega) (by omega), by omega, by omega⟩
theorem moves_eq {u thr us ti sg nx s m : Int} (k : Nat) (hk : 4 ≤ k) (h : TR thr) (hs : isI64 s) (m0 : 0 ≤ m) (m1 : m ≤ 100000) :
    detect_Detector_moves.f k u thr us ti sg nx (hd (ab s)) m = some (u, dThr thr s m, us, ti, sg, nx) := by
  obtain ⟨k, rfl⟩ : ∃ j, k = j + 1 := ⟨k - 1, by omega⟩
  have hsp := ab_span hs
  have h' := h
  unfold TR at h'
  unfold detect_Detector_moves.f dThr
  rw [fof15]
  simp only [Option.bind_some]
  rw [add_eq _ (by omega) (isI64_mk (by omega) (by omega)) (isI64_mk (by decide) (by decide)), hd_id (x := thr + 64424509440) (isI64_mk (by omega) (by omega))]
  simp only [Option.bind_some]
  have go : ∀ q, (q = 168 ∨ q = 43) → hd (ab s) ≤ thr + 64424509440 → detect_Detector_moves.j0 (k + 1) (hd (ab s)) m q u thr us ti sg nx = some (u, cl (thr + (hd (ab s) - thr) * (q * m) / 4294967296) 25769803776 2576980377600, us, ti, sg, nx) := by
    intro q hq hle
    obtain ⟨e1, e2, e3, e4⟩ := by_span h hsp.1 hle m0 m1 hq
    simp only [detect_Detector_moves.j0]
    rw [wrap64_id e1, wrap64_id e2, do_eq 1 e1 e2 (isI64_mk (by decide) (by decide)), md_down (by decide) (isI64_mk (by omega) (by omega))]
    simp only [Option.bind_some]
    rw [add_eq _ (by omega) (isI64_mk (by omega) (by omega)) (isI64_mk (by omega) (by omega)), hd_id (isI64_mk (by omega) (by omega)), fof6, fof600]
    simp only [Option.bind_some, clamp_eq]
    rfl
  by_cases c : hd (ab s) > thr + 64424509440
  · rw [if_pos c, if_pos c]
  · rw [if_neg c, if_neg c]
    by_cases d : hd (ab s) < thr
    · rw [if_pos d, if_pos d, go 168 (.inl rfl) (by omega)]
    · rw [if_neg d, if_neg d, go 43 (.inr rfl) (by omega)]
theorem mul_nn {slope n : Int} (h : isI64 slope) : sat_Mul.f (4 * nn n) slope = some (dS slope n) := by
  have := nn_span n
  rw [mul_eq (isI64_mk (by omega) (by omega)) h]; rfl
theorem dadd_eq {u thr us ti sg nx slope n ticks now : Int} (k : Nat) (hk : 4 ≤ k) (h : TR thr) (us0 : 0 ≤ us) (us1 : us ≤ 1000000000000) (ti0 : 0 ≤ ti) (ti1 : ti ≤ 1000000000000) (hs : isI64 slope) :
    detect_Detector_Add.f k u thr us ti sg nx slope n ticks now =
      some ((dU u thr us ti sg (dS slope n) (dT ticks)).1, (dU u thr us ti sg (dS slope n) (dT ticks)).1, dThr thr (dS slope n) (mn (dT ticks) 100000), (dU u thr us ti sg (dS slope n) (dT ticks)).2.1, (dU u thr us ti sg (dS slope n) (dT ticks)).2.2, dS slope n, nx) := by
  have ht := dT_span ticks
  have hS : isI64 (dS slope n) := hd_i64 _
  unfold detect_Detector_Add.f
  rw [clamp_eq]
  simp only [Option.bind_some]
  rw [show (if ticks < 0 then 0 else if ticks > 1000000 then 1000000 else ticks) = dT ticks from rfl, show mn (mx n 0) 60 = nn n from rfl, mul_nn hs]
  simp only [Option.bind_some]
  generalize dS slope n = S at hS ⊢
  generalize dT ticks = T at ht ⊢
  have hm : 0 ≤ mn T 100000 ∧ mn T 100000 ≤ 100000 := by unfold mn; split <;> omega
  have td : Int.tdiv T 2 = T / 2 := Int.tdiv_eq_ediv_of_nonneg ht.1
  have h' := h
  unfold TR at h'
  rw [td, wrap64_id (a := T / 2) (isI64_mk (by omega) (by omega)), wrap64_id (a := us + T) (isI64_mk (by omega) (by omega)), wrap64_id (a := ti + 1) (isI64_mk (by omega) (by omega)), wrap64_id (a := -thr) (isI64_mk (by omega) (by omega))]
  simp only [abs_eq hS, Option.bind_some, moves_eq k hk h hS hm.1 hm.2]
  unfold dU
  by_cases c1 : S > thr
  · simp only [c1, if_true]
    by_cases c2 : us > 0
    · simp only [c2, if_true]
      by_cases c3 : us + T > 10000 <;> by_cases c4 : ti + 1 > 1 <;> by_cases c5 : S ≥ sg <;> simp only [c3, c4, c5, if_true, if_false, and_true, true_and, and_false, false_and]
    · simp only [c2, if_false]
      by_cases c3 : mx (T / 2) 1 > 10000 <;> by_cases c4 : ti + 1 > 1 <;> by_cases c5 : S ≥ sg <;> simp only [c3, c4, c5, if_true, if_false, and_true, true_and, and_false, false_and]
  · simp only [c1, if_false]
    by_cases c2 : S < -thr <;> simp only [c2, if_true, if_false]
def DOk (i : Nat) (u thr us ti : Int) : Prop := 0 ≤ u ∧ u ≤ 2 ∧ TR thr ∧ 0 ≤ us ∧ us ≤ 1000000 * i ∧ 0 ≤ ti ∧ ti ≤ i
theorem DOk.start : DOk 0 0 53687091200 0 0 := ⟨by decide, by decide, ⟨by decide, by decide⟩, by decide, by decide, by decide, by decide⟩
theorem DOk.step {i : Nat} {u thr us ti : Int} (h : DOk i u thr us ti) (sg s t m : Int) (ht : 0 ≤ t ∧ t ≤ 1000000) :
    DOk (i + 1) (dU u thr us ti sg s t).1 (dThr thr s m) (dU u thr us ti sg s t).2.1 (dU u thr us ti sg s t).2.2 := by
  obtain ⟨h1, h2, h3, h4, h5, h6, h7⟩ := h
  have h8 := dThr_TR (s := s) (m := m) h3
  generalize dThr thr s m = thr' at h8 ⊢
  unfold dU
  have hx : 0 ≤ mx (t / 2) 1 ∧ mx (t / 2) 1 ≤ 1000000 := by unfold mx; split <;> omega
  generalize mx (t / 2) 1 = X at hx ⊢
  refine ⟨?_, ?_, h8, ?_, ?_, ?_, ?_⟩ <;> (repeat' split) <;> simp only [] <;> omega
theorem new_eq : detect_New.f = some (0, 53687091200, 0, 0, 0, 0) := by
  unfold detect_New.f
  rw [fof25]
  simp only [Option.bind_some]
  rw [show Int.tdiv 107374182400 2 = 53687091200 by decide, wrap64_id (isI64_mk (by decide) (by decide))]
end Go.Proofs.YtphgeljglhjamaaDoor.P
end

section
namespace Go.Proofs.YtphgeljglhjamaaDoor.P
open Go.RowKit Go.Proofs.YtphgeljglhjamaaDoorW.PrintWords Go.Proofs.YtphgeljglhjamaaDoorW.PrintLast Go.Proofs.YtphgeljglhjamaaDoorW.PrintMore
set_option linter.unusedVariables false
set_option linter.unusedSimpArgs false
theorem clamp_cl (a lo hi : Int) : sat_Clamp.f a lo hi = some (cl a lo hi) := clamp_eq a lo hi
theorem mx_eq (a b : Int) : mx a b = if a < b then b else a := rfl
def aN (n : Int) : Int := cl n 0 1125899906842624
def aG (g : Int) : Int := cl g 0 17179869184
def aR (t : Int) : Int := cl t 1000 1000000
def aD (an : Bool) (la n : Int) : Int := if an = true then cl (aN n - la) 0 1000000 else 0
def nr1 (nr : Bool) (me sp G : Int) : Bool := nr && !decide (G > me + 3 * sp)
def by1 (r : Int) (n : Bool) (R D : Int) : Int := if n = true then md 9600 D (R + 100000) 3 else md r (8 * D) 100000000 3
def to1 (r G b : Int) : Int := if G > 0 ∧ 3 * G / 2 + 10000 < r + mx b 1000 then mx (3 * G / 2 + 10000) r else r + mx b 1000
abbrev A9 := Int × Int × Int × Int × Bool × Int × Int × Bool × Int
def cutR (r G : Int) : Int := mn r (md G 85 100 1)
def cutM (nr : Bool) (me sp G : Int) : Int := if nr = true then (if G < me - 3 * sp then G else me + md (G - me) 5 100 2) else G
def cutS (nr : Bool) (me sp G : Int) : Int := if nr = true then (if G < me - 3 * sp then sp else sp + md (ab (G - me) - sp) 5 100 2) else G / 10
def aU (r lo hi st : Int) (nr : Bool) (me sp : Int) (an : Bool) (la u g t n : Int) : A9 :=
  if u = 1 then (cl (cutR r (aG g)) lo hi, lo, hi, 0, true, cutM nr me sp (aG g), cutS nr me sp (aG g), true, aN n)
  else if u = 2 ∨ st = 2 then (cl r lo hi, lo, hi, 0, nr, me, sp, true, aN n)
  else (cl (to1 r (aG g) (by1 r (nr1 nr me sp (aG g)) (aR t) (aD an la n))) lo hi, lo, hi, 1, nr1 nr me sp (aG g), me, sp, true, aN n)
structure AI (r lo hi st me sp la : Int) : Prop where
  lo1 : 1 ≤ lo
  r0 : lo ≤ r
  r1 : r ≤ hi
  hi1 : hi ≤ 17179869184
  st0 : st = 0 ∨ st = 1
  me0 : 0 ≤ me
  me1 : me ≤ 17179869184
  sp0 : 0 ≤ sp
  sp1 : sp ≤ 17179869184
  la0 : 0 ≤ la
  la1 : la ≤ 1125899906842624
theorem aG_span (g : Int) : 0 ≤ aG g ∧ aG g ≤ 17179869184 := cl_span _ _ _ (by decide)
theorem aR_span (g : Int) : 1000 ≤ aR g ∧ aR g ≤ 1000000 := cl_span _ _ _ (by decide)
theorem aN_span (g : Int) : 0 ≤ aN g ∧ aN g ≤ 1125899906842624 := cl_span _ _ _ (by decide)
theorem aD_span (an : Bool) (la n : Int) : 0 ≤ aD an la n ∧ aD an la n ≤ 1000000 := by
  unfold aD; split
  · exact cl_span _ _ _ (by decide)
  · exact ⟨by decide, by decide⟩
theorem md5 {x : Int} (h0 : -34359738368 ≤ x) (h1 : x ≤ 34359738368) : md x 5 100 2 = (10 * x + 100) / 200 := by
  rw [md_pos (by decide) (by decide) (by decide), rnd_near]
  have e : 2 * (x * 5) + 100 = 10 * x + 100 := by omega
  rw [e, show (2 * 100 : Int) = 200 from rfl]
  exact hd_id (isI64_mk (by omega) (by omega))
theorem up_span {p c : Int} (hp : 0 ≤ p) (hc : 0 < c) (h : p ≤ 171798691841 * c) : 0 ≤ -((-p) / c) ∧ -((-p) / c) ≤ 171798691841 := by
  have h1 : -p / c ≤ 0 := Int.ediv_le_of_le_mul hc (by omega)
  have h2 : -171798691841 ≤ -p / c := Int.le_ediv_of_mul_le hc (by omega)
  omega
theorem prod_sp {r D : Int} (r0 : 0 ≤ r) (r1 : r ≤ 17179869184) (d0 : 0 ≤ D) (d1 : D ≤ 1000000) : 0 ≤ r * (8 * D) ∧ r * (8 * D) ≤ 17179869184 * 8000000 :=
  ⟨Int.mul_nonneg r0 (by omega), Int.mul_le_mul r1 (by omega) (by omega) (by decide)⟩
theorem by1_span {r : Int} (n : Bool) {R D : Int} (r0 : 0 ≤ r) (r1 : r ≤ 17179869184) (R0 : 1000 ≤ R) (R1 : R ≤ 1000000) (d0 : 0 ≤ D) (d1 : D ≤ 1000000) : 0 ≤ by1 r n R D ∧ by1 r n R D ≤ 171798691841 := by
  unfold by1
  split
  · have u := up_span (p := 9600 * D) (c := R + 100000) (by omega) (by omega) (by omega)
    rw [md_up (by omega) (isI64_mk (by omega) (by omega))]; exact u
  · have p := prod_sp r0 r1 d0 d1
    have u := up_span (p := r * (8 * D)) (c := 100000000) p.1 (by decide) (by omega)
    rw [md_up (by decide) (isI64_mk (by omega) (by omega))]; exact u
theorem i64s {a : Int} (h0 : -4611686018427387904 ≤ a) (h1 : a ≤ 4611686018427387904) : isI64 a := isI64_mk (by omega) (by omega)
theorem w64 {a : Int} (h0 : -4611686018427387904 ≤ a) (h1 : a ≤ 4611686018427387904) : wrap64 a = a := wrap64_id (i64s h0 h1)
theorem lift_j1 (k : Nat) (r lo hi st : Int) (nr : Bool) (me sp : Int) (an : Bool) (la G R D : Int) (r0 : 0 ≤ r) (r1 : r ≤ 17179869184) (g0 : 0 ≤ G) (g1 : G ≤ 17179869184) (R0 : 1000 ≤ R) (R1 : R ≤ 1000000) (d0 : 0 ≤ D) (d1 : D ≤ 1000000) :
    aimd_Aimd_lift.j1 (k + 1) r lo hi st nr me sp an la G R D = some (to1 r G (by1 r nr R D), lo, hi, st, nr, me, sp, an, la) := by
  have b := by1_span nr r0 r1 R0 R1 d0 d1
  have hB : ∀ b : Int, 0 ≤ b → b ≤ 171798691841 → wrap64 (r + mx b 1000) = r + mx b 1000 := fun b h0 h1 => by rw [mx_eq]; split <;> exact w64 (by omega) (by omega)
  have hT : Int.tdiv (wrap64 (3 * G)) 2 = 3 * G / 2 := by rw [w64 (by omega) (by omega), Int.tdiv_eq_ediv_of_nonneg (by omega)]
  simp only [aimd_Aimd_lift.j1]
  rw [w64 (a := 8 * D) (by omega) (by omega), w64 (a := R + 100000) (by omega) (by omega), do_eq 3 (i64s (by omega) (by omega)) (i64s (by omega) (by omega)) (i64s (by decide) (by decide)), do_eq (a := 9600) 3 (i64s (by omega) (by omega)) (i64s (by omega) (by omega)) (i64s (by omega) (by omega)), hT, w64 (a := 3 * G / 2) (by omega) (by omega), w64 (a := 3 * G / 2 + 10000) (by omega) (by omega)]
  simp only [Option.bind_some]
  unfold by1 at b ⊢
  unfold to1
  cases nr with
  | true =>
    simp only [if_true] at b ⊢
    rw [hB _ b.1 b.2]
    by_cases h1 : G > 0
    · by_cases h2 : 3 * G / 2 + 10000 < r + mx (md 9600 D (R + 100000) 3) 1000
      · simp [h1, h2]
      · simp [h1, h2]
    · simp [h1]
  | false =>
    simp only [Bool.false_eq_true, if_false] at b ⊢
    rw [hB _ b.1 b.2]
    by_cases h1 : G > 0
    · by_cases h2 : 3 * G / 2 + 10000 < r + mx (md r (8 * D) 100000000 3) 1000
      · simp [h1, h2]
      · simp [h1, h2]
    · simp [h1]
theorem lift_j0 (k : Nat) (b : Bool) (r lo hi st : Int) (nr : Bool) (me sp : Int) (an : Bool) (la G R D : Int) (r0 : 0 ≤ r) (r1 : r ≤ 17179869184) (g0 : 0 ≤ G) (g1 : G ≤ 17179869184) (R0 : 1000 ≤ R) (R1 : R ≤ 1000000) (d0 : 0 ≤ D) (d1 : D ≤ 1000000) :
    aimd_Aimd_lift.j0 (k + 2) b r lo hi st nr me sp an la G R D = some (to1 r G (by1 r (nr && !b) R D), lo, hi, st, nr && !b, me, sp, an, la) := by
  simp only [aimd_Aimd_lift.j0]
  cases b with
  | true => simpa using lift_j1 k r lo hi st false me sp an la G R D r0 r1 g0 g1 R0 R1 d0 d1
  | false => simpa using lift_j1 k r lo hi st nr me sp an la G R D r0 r1 g0 g1 R0 R1 d0 d1
theorem lift_eq (k : Nat) (r lo hi st : Int) (nr : Bool) (me sp : Int) (an : Bool) (la G R D : Int) (r0 : 0 ≤ r) (r1 : r ≤ 17179869184) (m0 : 0 ≤ me) (m1 : me ≤ 17179869184) (s0 : 0 ≤ sp) (s1 : sp ≤ 17179869184) (g0 : 0 ≤ G) (g1 : G ≤ 17179869184) (R0 : 1000 ≤ R) (R1 : R ≤ 1000000) (d0 : 0 ≤ D) (d1 : D ≤ 1000000) :
    aimd_Aimd_lift.f (k + 2) r lo hi st nr me sp an la G R D = some (to1 r G (by1 r (nr1 nr me sp G) R D), lo, hi, st, nr1 nr me sp G, me, sp, an, la) := by
  unfold aimd_Aimd_lift.f nr1
  rw [w64 (a := 3 * sp) (by omega) (by omega), w64 (a := me + 3 * sp) (by omega) (by omega)]
  cases nr with
  | true => exact lift_j0 k (decide (G > me + 3 * sp)) r lo hi st true me sp an la G R D r0 r1 g0 g1 R0 R1 d0 d1
  | false => exact lift_j0 k false r lo hi st false me sp an la G R D r0 r1 g0 g1 R0 R1 d0 d1
theorem ab_sp {x : Int} (h0 : -17179869184 ≤ x) (h1 : x ≤ 17179869184) : 0 ≤ ab x ∧ ab x ≤ 17179869184 := by unfold ab; split <;> omega
theorem cut_eq (k : Nat) (r lo hi st : Int) (nr : Bool) (me sp : Int) (an : Bool) (la G R D : Int) (r0 : 0 ≤ r) (r1 : r ≤ 17179869184) (m0 : 0 ≤ me) (m1 : me ≤ 17179869184) (s0 : 0 ≤ sp) (s1 : sp ≤ 17179869184) (g0 : 0 ≤ G) (g1 : G ≤ 17179869184) :
    aimd_Aimd_cut.f r lo hi st nr me sp an la G R D = some (cutR r G, lo, hi, 0, true, cutM nr me sp G, cutS nr me sp G, an, la) := by
  have a := ab_sp (x := G - me) (by omega) (by omega)
  have ea : hd (ab (G - me)) = ab (G - me) := hd_id (i64s (by omega) (by omega))
  unfold aimd_Aimd_cut.f cutR cutM cutS
  rw [do_eq 1 (i64s (by omega) (by omega)) (i64s (by decide) (by decide)) (i64s (by decide) (by decide)), w64 (a := 3 * sp) (by omega) (by omega), w64 (a := me - 3 * sp) (by omega) (by omega), w64 (a := G - me) (by omega) (by omega), abs_eq (i64s (by omega) (by omega)), ea,
    do_eq (a := G - me) 2 (i64s (by omega) (by omega)) (i64s (by decide) (by decide)) (i64s (by decide) (by decide)), Int.tdiv_eq_ediv_of_nonneg (show (0 : Int) ≤ G by omega), w64 (a := G / 10) (by omega) (by omega)]
  simp only [Option.bind_some]
  rw [w64 (a := ab (G - me) - sp) (by omega) (by omega), do_eq (a := ab (G - me) - sp) 2 (i64s (by omega) (by omega)) (i64s (by decide) (by decide)) (i64s (by decide) (by decide)),
    md5 (x := G - me) (by omega) (by omega), md5 (x := ab (G - me) - sp) (by omega) (by omega)]
  simp only [Option.bind_some]
  rw [w64 (a := me + (10 * (G - me) + 100) / 200) (by omega) (by omega), w64 (a := sp + (10 * (ab (G - me) - sp) + 100) / 200) (by omega) (by omega)]
  cases nr with
  | true =>
    by_cases h : G < me - 3 * sp
    · simp [h]
    · simp [h]
  | false => simp
theorem up_eq (k : Nat) {r lo hi st : Int} (nr : Bool) {me sp : Int} (an : Bool) {la : Int} (u g t n : Int) (h : AI r lo hi st me sp la) :
    aimd_Aimd_Update.f (k + 3) r lo hi st nr me sp an la u g t n = some ((aU r lo hi st nr me sp an la u g t n).1, aU r lo hi st nr me sp an la u g t n) := by
  obtain ⟨h1, h2, h3, h4, h5, h6, h7, h8, h9, h10, h11⟩ := h
  have G := aG_span g; have R := aR_span t; have N := aN_span n; have D := aD_span an la n
  have key : ∀ D : Int, 0 ≤ D → D ≤ 1000000 → aD an la n = D → aimd_Aimd_Update.j0 (k + 3) u (aN n) r lo hi st nr me sp an la (aG g) (aR t) D = some ((aU r lo hi st nr me sp an la u g t n).1, aU r lo hi st nr me sp an la u g t n) := by
    intro D d0 d1 e
    simp only [aimd_Aimd_Update.j0, mkmap.f, Option.bind_some, (cut_eq k r lo hi 2 nr me sp true (aN n) (aG g) (aR t) D (by omega) (by omega) h6 h7 h8 h9 G.1 G.2), aimd_Aimd_hold.f, (lift_eq k r lo hi 1 nr me sp true (aN n) (aG g) (aR t) D (by omega) (by omega) h6 h7 h8 h9 G.1 G.2 R.1 R.2 d0 d1), clamp_cl]
    unfold aU
    rw [e]
    by_cases u1 : u = 1
    · simp [u1]
    · by_cases u2 : u = 2
      · simp [u2]
      · have s2 : ¬ st = 2 := by omega
        simp [u1, u2, s2]
  unfold aimd_Aimd_Update.f
  simp only [clamp_cl, Option.bind_some]
  have eN : cl n 0 1125899906842624 = aN n := rfl
  have eG : cl g 0 17179869184 = aG g := rfl
  have eR : cl t 1000 1000000 = aR t := rfl
  rw [eN, eG, eR, w64 (a := aN n - la) (by omega) (by omega)]
  cases an with
  | true => simp only [if_true]; exact key _ (cl_span _ _ _ (by decide)).1 (cl_span _ _ _ (by decide)).2 (by simp [aD])
  | false => simp only [Bool.false_eq_true, if_false]; exact key 0 (by decide) (by decide) (by simp [aD])
theorem aU_AI {r lo hi st : Int} (nr : Bool) {me sp : Int} (an : Bool) {la : Int} (u g t n : Int) (h : AI r lo hi st me sp la) :
    ∃ r' st' nr' me' sp', aU r lo hi st nr me sp an la u g t n = (r', lo, hi, st', nr', me', sp', true, aN n) ∧ AI r' lo hi st' me' sp' (aN n) := by
  obtain ⟨h1, h2, h3, h4, h5, h6, h7, h8, h9, h10, h11⟩ := h
  have G := aG_span g; have N := aN_span n
  have a := ab_sp (x := aG g - me) (by omega) (by omega)
  unfold aU
  split
  · have c := cl_span (cutR r (aG g)) lo hi (by omega)
    refine ⟨_, _, _, _, _, rfl, h1, c.1, c.2, h4, Or.inl rfl, ?_, ?_, ?_, ?_, N.1, N.2⟩
    all_goals (first | (unfold cutM; rw [md5 (by omega) (by omega)]; repeat' split <;> omega) | (unfold cutS; rw [md5 (by omega) (by omega)]; repeat' split <;> omega))
  · split
    · have c := cl_span r lo hi (by omega)
      exact ⟨_, _, _, _, _, rfl, h1, c.1, c.2, h4, Or.inl rfl, h6, h7, h8, h9, N.1, N.2⟩
    · have c := cl_span (to1 r (aG g) (by1 r (nr1 nr me sp (aG g)) (aR t) (aD an la n))) lo hi (by omega)
      exact ⟨_, _, _, _, _, rfl, h1, c.1, c.2, h4, Or.inr rfl, h6, h7, h8, h9, N.1, N.2⟩
end Go.Proofs.YtphgeljglhjamaaDoor.P
end

section
namespace Go.Proofs.YtphgeljglhjamaaDoor.P
open Go.RowKit Go.Proofs.YtphgeljglhjamaaDoorW.PrintWords Go.Proofs.YtphgeljglhjamaaDoorW.PrintLast Go.Proofs.YtphgeljglhjamaaDoorW.PrintMore
set_option linter.unusedVariables false
set_option linter.unusedSimpArgs false
def lN (n : Int) : Int := cl n 0 1125899906842624
def lL (n : Int) : Int := cl n 0 256
theorem lN_span (g : Int) : 0 ≤ lN g ∧ lN g ≤ 1125899906842624 := cl_span _ _ _ (by decide)
theorem lL_span (g : Int) : 0 ≤ lL g ∧ lL g ≤ 256 := cl_span _ _ _ (by decide)
def lR (r n : Int) : Int := if n ≤ 5 then -((-(r * 105)) / 100) + 1000 else if n ≤ 26 then r else r * (512 - n) / 512
def lU (r lo hi : Int) (an : Bool) (la loss now : Int) : Int × Int × Int × Bool × Int :=
  if an = true ∧ lN now - la < 200000 then (r, lo, hi, an, la) else (cl (lR r (lL loss)) lo hi, lo, hi, true, lN now)
structure LI (r lo hi la : Int) : Prop where
  lo1 : 1 ≤ lo
  r0 : lo ≤ r
  r1 : r ≤ hi
  hi1 : hi ≤ 17179869184
  la0 : 0 ≤ la
  la1 : la ≤ 1125899906842624
theorem part_span {r n : Int} (r0 : 0 ≤ r) (r1 : r ≤ 17179869184) (n0 : 0 ≤ n) (n1 : n ≤ 256) : 0 ≤ r * (512 - n) ∧ r * (512 - n) ≤ r * 512 :=
  ⟨Int.mul_nonneg r0 (by omega), Int.mul_le_mul_of_nonneg_left (by omega) r0⟩
theorem lrow_eq {r n : Int} (r0 : 0 ≤ r) (r1 : r ≤ 17179869184) (n0 : 0 ≤ n) (n1 : n ≤ 256) : lrow r n = some (lR r n) := by
  have p := part_span r0 r1 n0 n1
  unfold lrow lR
  rw [show wrap64 0 = 0 from w64 (by decide) (by decide), show wrap64 (105 - 0) = 105 from w64 (by decide) (by decide), show wrap64 (1 - 0) = 1 from w64 (by decide) (by decide), w64 (a := n) (by omega) (by omega), w64 (a := 512 - n) (by omega) (by omega)]
  by_cases h : n ≤ 5
  · rw [if_pos h, if_pos h, do_eq 3 (i64s (by omega) (by omega)) (i64s (by decide) (by decide)) (i64s (by decide) (by decide)), md_up (by decide) (i64s (by omega) (by omega))]
    simp only [Option.bind_some]
    rw [w64 (by omega) (by omega)]
  · rw [if_neg h, if_neg h]
    by_cases h2 : n ≤ 26
    · rw [if_pos h2, if_pos h2, do_eq 1 (i64s (by omega) (by omega)) (i64s (by decide) (by decide)) (i64s (by decide) (by decide)), md_down (by decide) (i64s (by omega) (by omega))]
      simp only [Option.bind_some]
      rw [w64 (by omega) (by omega)]
      congr 1
      omega
    · rw [if_neg h2, if_neg h2, do_eq 1 (i64s (by omega) (by omega)) (i64s (by omega) (by omega)) (i64s (by decide) (by decide)), md_down (by decide) (i64s (by omega) (by omega))]
      simp only [Option.bind_some]
      rw [w64 (by omega) (by omega)]
theorem lup_eq {r lo hi : Int} (an : Bool) {la : Int} (u n : Int) (h : LI r lo hi la) :
    lossy_Lossy_Update.f r lo hi an la u n = some ((lU r lo hi an la u n).1, lU r lo hi an la u n) := by
  obtain ⟨h1, h2, h3, h4, h5, h6⟩ := h
  have N := lN_span n; have U := lL_span u
  unfold lossy_Lossy_Update.f lU
  simp only [clamp_cl, Option.bind_some]
  rw [show cl n 0 1125899906842624 = lN n from rfl, show cl u 0 256 = lL u from rfl, w64 (a := lN n - la) (by omega) (by omega), lrow_eq (by omega) (by omega) U.1 U.2]
  split <;> rfl
theorem lU_LI {r lo hi : Int} (an : Bool) {la : Int} (u n : Int) (h : LI r lo hi la) :
    ∃ r' an' la', lU r lo hi an la u n = (r', lo, hi, an', la') ∧ LI r' lo hi la' ∧ (u < 6 → r ≤ r') ∧ (u > 26 → r' ≤ r) ∧
      ((an = true ∧ lN n - la < 200000 ∧ r' = r ∧ an' = an ∧ la' = la) ∨ (¬ (an = true ∧ lN n - la < 200000) ∧ an' = true ∧ la' = lN n)) := by
  obtain ⟨h1, h2, h3, h4, h5, h6⟩ := h
  have N := lN_span n; have U := lL_span u
  have p := part_span (r := r) (n := lL u) (by omega) (by omega) U.1 U.2
  have u5 : u < 6 → lL u ≤ 5 := by unfold lL cl; intro _; repeat' split <;> omega
  have u26 : u > 26 → ¬ lL u ≤ 26 := by unfold lL cl; intro _; repeat' split <;> omega
  unfold lU
  by_cases e : an = true ∧ lN n - la < 200000
  · rw [if_pos e]
    exact ⟨_, _, _, rfl, ⟨h1, h2, h3, h4, h5, h6⟩, fun _ => Int.le_refl _, fun _ => Int.le_refl _, .inl ⟨e.1, e.2, rfl, rfl, rfl⟩⟩
  · rw [if_neg e]
    have c := cl_span (lR r (lL u)) lo hi (by omega)
    refine ⟨_, _, _, rfl, ⟨h1, c.1, c.2, h4, N.1, N.2⟩, fun q => ?_, fun q => ?_, .inr ⟨e, rfl, rfl⟩⟩
    · have := u5 q
      unfold lR cl
      rw [if_pos this]
      repeat' split
      all_goals omega
    · have := u26 q
      unfold lR cl
      rw [if_neg (show ¬ lL u ≤ 5 by omega), if_neg this]
      repeat' split
      all_goals omega
end Go.Proofs.YtphgeljglhjamaaDoor.P
end

section
namespace Go.Proofs.YtphgeljglhjamaaDoor.P
open Go.RowKit Go.Proofs.YtphgeljglhjamaaDoorW.PrintWords Go.Proofs.YtphgeljglhjamaaDoorW.PrintLast Go.Proofs.YtphgeljglhjamaaDoorW.PrintMore
set_option linter.unusedVariables false
set_option linter.unusedSimpArgs false
def gA (s : GrS) (sz at_ ca : Int) (late : Bool) : (Int × Int × Int) × Bool × GrS :=
  if late = true then ((0, 0, 0), false, s) else if sz < 0 then ((0, 0, 0), false, s) else if 1500 < sz then ((0, 0, 0), false, s) else if at_ < 0 then ((0, 0, 0), false, s) else if 1125899906842624 < at_ then ((0, 0, 0), false, s)
  else if ca < -1125899906842624 then ((0, 0, 0), false, s) else if 1125899906842624 < ca then ((0, 0, 0), false, s)
  else if s.o = false then ((0, 0, 0), false, ⟨at_, at_, ca, sz, true, s.d, s.b⟩) else if at_ < s.f then ((0, 0, 0), false, s)
  else if wrap64 (at_ - s.f) ≤ s.b then ((0, 0, 0), false, ⟨s.f, mx s.l at_, mx s.c ca, wrap64 (s.n + sz), s.o, s.d, s.b⟩)
  else match s.d with
    | none => ((0, 0, 0), false, ⟨at_, at_, ca, sz, true, (some (s.f, s.l, s.c, s.n)), s.b⟩)
    | some x => ((hd (s.l - x.2.1), hd (s.c - x.2.2.1), wrap64 (s.n - x.2.2.2)), true, ⟨at_, at_, ca, sz, true, (some (s.f, s.l, s.c, s.n)), s.b⟩)
def GOk (s : GrS) : Prop := isI64 s.l ∧ isI64 s.c ∧ ∀ x, s.d = some x → isI64 x.2.1 ∧ isI64 x.2.2.1
theorem mx_i64 {a b : Int} (ha : isI64 a) (hb : isI64 b) : isI64 (mx a b) := by unfold mx; split <;> assumption
theorem gadd_eq {s : GrS} {sz at_ ca : Int} {late : Bool} (k : Nat) (hk : 3 ≤ k) (h : GOk s) : group_Grouper_Add.f k s sz at_ ca late = some (gA s sz at_ ca late) ∧ GOk (gA s sz at_ ca late).2.2 := by
  have h' := h
  obtain ⟨h1, h2, h3⟩ := h'
  unfold group_Grouper_Add.f gA
  by_cases c0 : late = true
  · rw [if_pos c0, if_pos c0]; exact ⟨rfl, h⟩
  rw [if_neg c0, if_neg c0]
  by_cases c1 : sz < 0
  · rw [if_pos c1, if_pos c1]; exact ⟨rfl, h⟩
  rw [if_neg c1, if_neg c1]
  by_cases c2 : 1500 < sz
  · rw [if_pos c2, if_pos c2]; exact ⟨rfl, h⟩
  rw [if_neg c2, if_neg c2]
  by_cases c3 : at_ < 0
  · rw [if_pos c3, if_pos c3]; exact ⟨rfl, h⟩
  rw [if_neg c3, if_neg c3]
  by_cases c4 : 1125899906842624 < at_
  · rw [if_pos c4, if_pos c4]; exact ⟨rfl, h⟩
  rw [if_neg c4, if_neg c4]
  by_cases c5 : ca < -1125899906842624
  · rw [if_pos c5, if_pos c5]; exact ⟨rfl, h⟩
  rw [if_neg c5, if_neg c5]
  by_cases c6 : 1125899906842624 < ca
  · rw [if_pos c6, if_pos c6]; exact ⟨rfl, h⟩
  rw [if_neg c6, if_neg c6]
  have ia : isI64 at_ := isI64_mk (by omega) (by omega)
  have ic : isI64 ca := isI64_mk (by omega) (by omega)
  by_cases c7 : s.o = false
  · rw [if_pos c7, if_pos c7]; exact ⟨rfl, ia, ic, h3⟩
  rw [if_neg c7, if_neg c7]
  by_cases c8 : at_ < s.f
  · rw [if_pos c8, if_pos c8]; exact ⟨rfl, h⟩
  rw [if_neg c8, if_neg c8]
  by_cases c9 : wrap64 (at_ - s.f) ≤ s.b
  · rw [if_pos c9, if_pos c9]; exact ⟨rfl, mx_i64 h1 ia, mx_i64 h2 ic, h3⟩
  rw [if_neg c9, if_neg c9]
  have nx : ∀ x, some (s.f, s.l, s.c, s.n) = some x → isI64 x.2.1 ∧ isI64 x.2.2.1 := fun x e => by cases e; exact ⟨h1, h2⟩
  cases hd : s.d with
  | none => exact ⟨rfl, ia, ic, nx⟩
  | some x =>
    have hx := h3 x hd
    simp only
    rw [sub_eq k (by omega) h1 hx.1, sub_eq k (by omega) h2 hx.2]
    exact ⟨rfl, ia, ic, nx⟩
structure HI (n : Nat) (lo hi : Int) (s : GccS) : Prop where
  g : GOk s.g
  t : TN s.t.w s.t.s s.t.m s.t.y s.t.x s.t.xs s.t.ys s.t.c
  d : DOk n s.d0 s.d1 s.d2 s.d3
  a : AI s.a0 s.a1 s.a2 s.a3 s.a5 s.a6 s.a8
  al : s.a1 = lo
  ah : s.a2 = hi
  l : LI s.l0 s.l1 s.l2 s.l4
  ll : s.l1 = lo
  lh : s.l2 = hi
  rt0 : 1000 ≤ s.rtt
  rt1 : s.rtt ≤ 1000000
theorem DOk.up {i j : Nat} {u thr us ti : Int} (h : DOk i u thr us ti) (hij : i ≤ j) : DOk j u thr us ti := by
  obtain ⟨h1, h2, h3, h4, h5, h6, h7⟩ := h
  exact ⟨h1, h2, h3, h4, by omega, h6, by omega⟩
def hT (s : GccS) (g' : GrS) (a b : Int) : GccS :=
  let xs := tcut s.t.w (s.t.xs ++ [tX s.t.x a]); let ys := tcut s.t.w (s.t.ys ++ [tY s.t.m s.t.y s.t.s a b]); let c := mn (wrap64 (s.t.c + 1)) 1000
  let S := dS (slv s.t.w xs ys) c; let u := dU s.d0 s.d1 s.d2 s.d3 s.d4 S (dT a)
  { s with g := g', t := ⟨s.t.w, s.t.s, tS s.t.m a b, tY s.t.m s.t.y s.t.s a b, tX s.t.x a, xs, ys, c⟩, d0 := u.1, d1 := dThr s.d1 S (mn (dT a) 100000), d2 := u.2.1, d3 := u.2.2, d4 := S, d5 := s.d5 }
def hS (now : Int) (s : GccS) (x : S41) : GccS :=
  if (gA s.g x.f0.f1 x.f0.f2 x.f1 x.f2).2.1 = true then
    hT s (gA s.g x.f0.f1 x.f0.f2 x.f1 x.f2).2.2 (gA s.g x.f0.f1 x.f0.f2 x.f1 x.f2).1.1 (gA s.g x.f0.f1 x.f0.f2 x.f1 x.f2).1.2.1
  else { s with g := (gA s.g x.f0.f1 x.f0.f2 x.f1 x.f2).2.2 }
theorem step_eq {n : Nat} {lo hi now : Int} {s : GccS} (k : Nat) (hk : 300 ≤ k) (hn : n ≤ 100000) (x : S41) (h : HI n lo hi s) : gcc_Gcc_Hear.step k now s x = some (hS now s x) ∧ HI (n + 1) lo hi (hS now s x) := by
  obtain ⟨e, hg⟩ := gadd_eq (s := s.g) (sz := x.f0.f1) (at_ := x.f0.f2) (ca := x.f1) (late := x.f2) k (by omega) h.g
  unfold gcc_Gcc_Hear.step hS
  rw [e]
  simp only [Option.bind_some]
  generalize gA s.g x.f0.f1 x.f0.f2 x.f1 x.f2 = q at hg ⊢
  by_cases c : q.2.1 = true
  · rw [if_pos c, if_pos c]
    obtain ⟨e1, ht⟩ := tadd_eq (a := q.1.1) (b := q.1.2.1) k hk h.t
    rw [e1]
    simp only [Option.bind_some]
    obtain ⟨d1, d2, d3, d4, d5, d6, d7⟩ := h.d
    rw [dadd_eq k (by omega) d3 d4 (by omega) d6 (by omega) (slv_i64 _ _ _)]
    simp only [Option.bind_some]
    exact ⟨rfl, hg, ht, h.d.step _ _ _ _ (dT_span _), h.a, h.al, h.ah, h.l, h.ll, h.lh, h.rt0, h.rt1⟩
  · rw [if_neg c, if_neg c]
    exact ⟨rfl, hg, h.t, h.d.up (by omega), h.a, h.al, h.ah, h.l, h.ll, h.lh, h.rt0, h.rt1⟩
theorem all_eq {lo hi now : Int} (k : Nat) (hk : 300 ≤ k) : ∀ (l : List S41) (n : Nat) (s : GccS), n + l.length ≤ 100000 → HI n lo hi s →
    gcc_Gcc_Hear.all k now s l = some (l.foldl (hS now) s) ∧ HI (n + l.length) lo hi (l.foldl (hS now) s)
  | [], n, s, _, h => ⟨rfl, h⟩
  | x :: r, n, s, hn, h => by
    rw [List.length_cons] at hn
    obtain ⟨e, h1⟩ := step_eq (now := now) k hk (by omega) x h
    obtain ⟨e2, h2⟩ := all_eq k hk r (n + 1) _ (by omega) h1
    refine ⟨?_, by rw [List.length_cons, show n + (r.length + 1) = n + 1 + r.length by omega]; exact h2⟩
    unfold gcc_Gcc_Hear.all
    rw [e]
    exact e2
def hR (s : GccS) (l : List S41) (got now : Int) : GccS :=
  if l.length = 0 then s else
    let t := cl (hd (now - (rd_T41 l (wrap64 ((l.length : Int) - 1))).f0.f2)) 1000 1000000; let u := aU s.a0 s.a1 s.a2 s.a3 s.a4 s.a5 s.a6 s.a7 s.a8 s.d0 got t now
    { s with rtt := t, a0 := u.1, a1 := u.2.1, a2 := u.2.2.1, a3 := u.2.2.2.1, a4 := u.2.2.2.2.1, a5 := u.2.2.2.2.2.1, a6 := u.2.2.2.2.2.2.1, a7 := u.2.2.2.2.2.2.2.1, a8 := u.2.2.2.2.2.2.2.2 }
theorem rated_eq {n : Nat} {lo hi got now : Int} {s : GccS} {l : List S41} (k : Nat) (hk : 300 ≤ k) (hnow : isI64 now) (hl : ∀ x ∈ l, isI64 x.f0.f2) (hll : l.length ≤ 100000) (h : HI n lo hi s) :
    gcc_Gcc_Hear.rated k s l got now = some (hR s l got now) ∧ HI n lo hi (hR s l got now) := by
  unfold gcc_Gcc_Hear.rated hR
  by_cases c : l.length = 0
  · rw [if_pos c, if_pos c]; exact ⟨rfl, h⟩
  rw [if_neg c, if_neg c]
  have hm : rd_T41 l (wrap64 ((l.length : Int) - 1)) ∈ l := by
    rw [wrap64_id (isI64_mk (by omega) (by omega))]
    unfold rd_T41
    have hj : ((l.length : Int) - 1).toNat < l.length := by omega
    generalize ((l.length : Int) - 1).toNat = j at hj
    rw [show l.getD j z41 = l[j] by simp [List.getD, hj]]
    exact List.getElem_mem hj
  rw [sub_eq k (by omega) hnow (hl _ hm)]
  simp only [Option.bind_some]
  rw [clamp_cl]
  simp only [Option.bind_some]
  obtain ⟨k, rfl⟩ : ∃ j, k = j + 3 := ⟨k - 3, by omega⟩
  rw [up_eq k s.a4 s.a7 s.d0 got _ now h.a]
  simp only [Option.bind_some]
  have ct := cl_span (hd (now - (rd_T41 l (wrap64 ((l.length : Int) - 1))).f0.f2)) 1000 1000000 (by decide)
  generalize cl (hd (now - (rd_T41 l (wrap64 ((l.length : Int) - 1))).f0.f2)) 1000 1000000 = t at ct ⊢
  obtain ⟨r', st', nr', me', sp', ea, ha⟩ := aU_AI s.a4 s.a7 s.d0 got t now h.a
  refine ⟨by first | rfl | trivial, h.g, h.t, h.d, ?_, ?_, ?_, h.l, h.ll, h.lh, ct.1, ct.2⟩
  · simp only [ea]; exact ha
  · simp only [ea]; exact h.al
  · simp only [ea]; exact h.ah
def hL (s : GccS) (loss now : Int) : GccS :=
  { s with l0 := (lU s.l0 s.l1 s.l2 s.l3 s.l4 loss now).1, l1 := (lU s.l0 s.l1 s.l2 s.l3 s.l4 loss now).2.1, l2 := (lU s.l0 s.l1 s.l2 s.l3 s.l4 loss now).2.2.1, l3 := (lU s.l0 s.l1 s.l2 s.l3 s.l4 loss now).2.2.2.1, l4 := (lU s.l0 s.l1 s.l2 s.l3 s.l4 loss now).2.2.2.2 }
def hA (s : GccS) (l : List S41) (loss got now : Int) : GccS := hL (hR (l.foldl (hS now) s) l got now) loss now
theorem hear_eq {n : Nat} {lo hi loss got now : Int} {s : GccS} {l : List S41} (k : Nat) (hk : 300 ≤ k) (hnow : isI64 now) (hl : ∀ x ∈ l, isI64 x.f0.f2) (hn : n + l.length ≤ 100000) (h : HI n lo hi s) :
    gcc_Gcc_Hear.f k s l loss got now = some (mn (hA s l loss got now).a0 (hA s l loss got now).l0, hA s l loss got now) ∧ HI (n + l.length) lo hi (hA s l loss got now) := by
  unfold gcc_Gcc_Hear.f hA
  obtain ⟨e1, h1⟩ := all_eq (now := now) k hk l n s hn h
  rw [e1]
  simp only [Option.bind_some]
  obtain ⟨e2, h2⟩ := rated_eq (got := got) k hk hnow hl (by omega) h1
  rw [e2]
  simp only [Option.bind_some]
  generalize hR (l.foldl (hS now) s) l got now = s2 at h2 ⊢
  rw [lup_eq s2.l3 loss now h2.l]
  obtain ⟨r', an', la', el, hl', _⟩ := lU_LI s2.l3 loss now h2.l
  refine ⟨rfl, h2.g, h2.t, h2.d, h2.a, h2.al, h2.ah, ?_, ?_, ?_, h2.rt0, h2.rt1⟩
  · simp only [hL, el]; exact hl'
  · simp only [hL, el]; exact h2.ll
  · simp only [hL, el]; exact h2.lh
def s0 (start min max : Int) : GccS := ⟨⟨0, 0, 0, 0, false, none, 5000⟩, ⟨20, 3865470566, 0, 0, 0, [], [], 0⟩, start, min, max, 0, false, 0, 0, false, 0, start, min, max, false, 0, 0, 53687091200, 0, 0, 0, 0, 100000⟩
theorem new_two (a b c : Int) : (gcc_New.made.f a b c = some (s0 a b c, 0) ∧ HI 0 b c (s0 a b c) ∧ 1 ≤ b ∧ b ≤ a ∧ a ≤ c ∧ c ≤ 17179869184) ∨ (gcc_New.made.f a b c = none ∧ gcc_New.nil.f a b c = some 1 ∧ ¬ (1 ≤ b ∧ b ≤ a ∧ a ≤ c ∧ c ≤ 17179869184)) := by
  have z : isI64 0 := isI64_mk (by decide) (by decide)
  unfold gcc_New.made.f gcc_New.nil.f aimd_New.made.f lossy_New.made.f aimd_New.nil.f
  rw [new_eq]
  by_cases h1 : b < 1
  · right; simp [h1] <;> omega
  · by_cases h2 : a < b
    · right; simp [h1, h2] <;> omega
    · by_cases h3 : c < a
      · right; simp [h1, h2, h3] <;> omega
      · by_cases h4 : c > 17179869184
        · right; simp [h1, h2, h3, h4] <;> omega
        · left
          refine ⟨by simp [h1, h2, h3, h4, s0], ⟨⟨z, z, fun x e => by cases e⟩, ?_, DOk.start, ?_, rfl, rfl, ?_, rfl, rfl, ?_, ?_⟩, by omega, by omega, by omega, by omega⟩
          · exact ⟨(by decide : (2 : Int) ≤ 20), (by decide : (20 : Int) ≤ 64), (isI64_mk (by decide) (by decide) : isI64 3865470566), z, z, z, rfl, (by decide : (0 : Int) ≤ 20), (fun v hv => by cases hv), (fun v hv => by cases hv)⟩
          · exact ⟨by simp only [s0]; omega, by simp only [s0]; omega, by simp only [s0]; omega, by simp only [s0]; omega, .inl rfl, by simp only [s0]; omega, by simp only [s0]; omega, by simp only [s0]; omega, by simp only [s0]; omega, by simp only [s0]; omega, by simp only [s0]; omega⟩
          · exact ⟨by simp only [s0]; omega, by simp only [s0]; omega, by simp only [s0]; omega, by simp only [s0]; omega, by simp only [s0]; omega, by simp only [s0]; omega⟩
          · simp only [s0]; omega
          · simp only [s0]; omega
end Go.Proofs.YtphgeljglhjamaaDoor.P
end

section
namespace Go.Proofs.YtphgeljglhjamaaDoor.P
open Go.RowKit Go.Proofs.YtphgeljglhjamaaDoorW.PrintWords Go.Proofs.YtphgeljglhjamaaDoorW.PrintLast Go.Proofs.YtphgeljglhjamaaDoorW.PrintMore
set_option linter.unusedVariables false
set_option linter.unusedSimpArgs false
def Zs (l : List Int) : Prop := ∀ x ∈ l, x = 0
end Go.Proofs.YtphgeljglhjamaaDoor.P
namespace Go.Proofs.YtphgeljglhjamaaDoor.Pure
open Go.RowKit Go.Proofs.YtphgeljglhjamaaDoor.P Go.Proofs.YtphgeljglhjamaaDoorW.PrintWords Go.Proofs.YtphgeljglhjamaaDoorW.PrintLast Go.Proofs.YtphgeljglhjamaaDoorW.PrintMore
set_option linter.unusedVariables false
set_option linter.unusedSimpArgs false
end Go.Proofs.YtphgeljglhjamaaDoor.Pure
end

section
namespace Go.Proofs.YtphgeljglhjamaaDoor.Pure
open Go.RowKit Go.Proofs.YtphgeljglhjamaaDoor.P Go.Proofs.YtphgeljglhjamaaDoorW.PrintWords Go.Proofs.YtphgeljglhjamaaDoorW.PrintLast Go.Proofs.YtphgeljglhjamaaDoorW.PrintMore
set_option linter.unusedVariables false
set_option linter.unusedSimpArgs false
set_option maxRecDepth 100000 in
theorem wakes22 : flywheellaw22_wakes.f 12 = some true := by kernel_rfl
theorem wakes22_ge (k : Nat) (h : 12 ≤ k) : flywheellaw22_wakes.f k = some true := by
  obtain ⟨d, rfl⟩ : ∃ d, k = 12 + d := ⟨k - 12, by omega⟩
  clear h
  induction d with
  | zero => exact wakes22
  | succ d ih => exact flywheellaw22_wakes.mono _ _ ih
theorem wk22 (k : Nat) (h : 12 ≤ k) : ((flywheellaw22_wakes.f k).bind fun t => some t) = some true := by rw [wakes22_ge k h]; rfl
theorem wn22 (i : Nat) (h : i ≤ 300) : wrap64 ((i : Int) + 1) = ((i + 1 : Nat) : Int) := by rw [wrap64_id (isI64_mk (by omega) (by omega))]; omega
structure CS (way : Int) (s : GccS) : Prop where
  m : s.t.m = 0
  y : s.t.y = 0
  ys : Zs s.t.ys
  u : s.d0 = 0
  go : s.g.o = true → s.g.c = s.g.l + way
  gd : ∀ x, s.g.d = some x → x.2.2.1 = x.2.1 + way
end Go.Proofs.YtphgeljglhjamaaDoor.Pure
end

section
namespace Go.Proofs.YtphgeljglhjamaaDoor.P
open Go.RowKit Go.Proofs.YtphgeljglhjamaaDoorW.PrintWords Go.Proofs.YtphgeljglhjamaaDoorW.PrintLast Go.Proofs.YtphgeljglhjamaaDoorW.PrintMore
set_option linter.unusedVariables false
set_option linter.unusedSimpArgs false
def yS (b : Int) : Nat → Int
  | 0 => 0
  | j + 1 => mixv (((j + 1 : Nat) : Int) * b) (yS b j) 3865470566
def fS (b : Int) (j : Nat) : Int := yS b j - (j : Int) * b + 9 * b
def uS : Nat → Int
  | 0 => 9000000
  | j + 1 => (9 * uS j + 9) / 10
theorem uS_span (j : Nat) : 0 ≤ uS j ∧ uS j ≤ 9000000 := by
  induction j with
  | zero => decide
  | succ j ih => unfold uS; omega
theorem mix_step {M b f : Int} (hM0 : 0 ≤ M) (hM1 : M ≤ 600000) (b0 : 2000 ≤ b) (b1 : b < 6000) (f0 : -6 ≤ f) (f1 : f ≤ 60000) :
    ∃ f', mixv (M + b) (M - 9 * b + f) 3865470566 = M + b - 9 * b + f' ∧ -6 ≤ f' ∧ 10 * f' ≤ 9 * f + 6 ∧ f' ≤ f + 1 := by
  unfold mixv
  have e : M - 9 * b + f - (M + b) = f - 10 * b := by omega
  rw [hd_id (x := M - 9 * b + f - (M + b)) (isI64_mk (by omega) (by omega)), md_pos (by decide) (by decide) (by decide), rnd_near, e]
  generalize hz : f - 10 * b = z
  generalize hr : (2 * (z * 3865470566) + 4294967296) / (2 * 4294967296) = r
  have z0 : -60006 ≤ z := by omega
  have z1 : z ≤ 60000 := by omega
  have hr2 : (2 * (z * 3865470566) + 4294967296) / 8589934592 = r := by rw [← hr, show (2 * 4294967296 : Int) = 8589934592 from rfl]
  have r0 : -100000 ≤ r := by omega
  have r1 : r ≤ 100000 := by omega
  rw [show (hold64 r).1 = r from hd_id (isI64_mk (by omega) (by omega)), hd_id (isI64_mk (by omega) (by omega))]
  clear hr
  refine ⟨9 * b + r, by omega, ?_, ?_, ?_⟩
  · omega
  · omega
  · omega
theorem fS_ok {b : Int} (b0 : 2000 ≤ b) (b1 : b < 6000) : ∀ j : Nat, j ≤ 100 → -6 ≤ fS b j ∧ 1000000 * fS b j ≤ uS j * b + 6000000 ∧ (j < 100 → fS b (j + 1) ≤ fS b j + 1) := by
  have step : ∀ j : Nat, j < 100 → -6 ≤ fS b j → 1000000 * fS b j ≤ uS j * b + 6000000 → -6 ≤ fS b (j + 1) ∧ 10 * fS b (j + 1) ≤ 9 * fS b j + 6 ∧ fS b (j + 1) ≤ fS b j + 1 := by
    intro j hj h0 h1
    have u := uS_span j
    have ub : uS j * b ≤ 9000000 * 6000 := Int.mul_le_mul u.2 (by omega) (by omega) (by decide)
    have jb : (j : Int) * b ≤ 100 * 6000 := Int.mul_le_mul (by omega) (by omega) (by omega) (by decide)
    have jb0 : 0 ≤ (j : Int) * b := Int.mul_nonneg (by omega) (by omega)
    obtain ⟨f', e, a1, a2, a3⟩ := mix_step (M := (j : Int) * b) (b := b) (f := fS b j) jb0 (by omega) b0 b1 h0 (by omega)
    have e1 : ((j + 1 : Nat) : Int) * b = (j : Int) * b + b := by rw [Int.natCast_add, Int.add_mul]; omega
    have e2 : yS b j = (j : Int) * b - 9 * b + fS b j := by unfold fS; omega
    have e3 : fS b (j + 1) = f' := by
      unfold fS yS
      rw [e1, e2, e]; omega
    rw [e3]; exact ⟨a1, a2, a3⟩
  have all : ∀ j : Nat, j ≤ 100 → -6 ≤ fS b j ∧ 1000000 * fS b j ≤ uS j * b + 6000000 := by
    intro j
    induction j with
    | zero => intro _; unfold fS yS uS; omega
    | succ j ih =>
      intro hj
      obtain ⟨h0, h1⟩ := ih (by omega)
      obtain ⟨s0, s1, _⟩ := step j (by omega) h0 h1
      refine ⟨s0, ?_⟩
      have hu : 9 * uS j ≤ 10 * uS (j + 1) := by
        show 9 * uS j ≤ 10 * ((9 * uS j + 9) / 10)
        omega
      have := Int.mul_le_mul_of_nonneg_right hu (show 0 ≤ b by omega)
      rw [Int.mul_assoc, Int.mul_assoc] at this
      omega
  exact fun j hj => ⟨(all j hj).1, (all j hj).2, fun h => (step j h (all j hj).1 (all j hj).2).2.2⟩
def win (f : Nat → Int) (n : Nat) : List Int := ((List.range n).map f).drop (n - 20)
theorem win_step (f : Nat → Int) (n : Nat) : tcut 20 (win f n ++ [f n]) = win f (n + 1) := by
  unfold tcut win
  rw [List.range_succ, List.map_append, List.map_cons, List.map_nil, List.length_append, List.length_drop, List.length_map, List.length_range, List.length_singleton]
  by_cases h : n < 20
  · rw [if_neg (by omega), show n - 20 = 0 by omega, show n + 1 - 20 = 0 by omega, List.drop_zero, List.drop_zero]
  · rw [if_pos (by omega), show n + 1 - 20 = (n - 20) + 1 by omega, ← List.drop_drop, List.drop_append_of_le_length (l₁ := List.map f (List.range n)) (l₂ := [f n]) (by rw [List.length_map, List.length_range]; omega)]
theorem Ps_comm (u v : List Int) : Ps u v = Ps v u := by
  unfold Ps
  induction u generalizing v with
  | nil => simp [sm]
  | cons x u ih =>
    cases v with
    | nil => simp [sm]
    | cons y v => simp only [List.zipWith_cons_cons, sm, ih, Int.mul_comm x y]
def R20 : List Nat := [0, 1, 2, 3, 4, 5, 6, 7, 8, 9, 10, 11, 12, 13, 14, 15, 16, 17, 18, 19]
def K20 : List Int := [-190, -170, -150, -130, -110, -90, -70, -50, -30, -10, 10, 30, 50, 70, 90, 110, 130, 150, 170, 190]
def C20 (y : Nat → Int) : Int := (-19) * y 0 + (-17) * y 1 + (-15) * y 2 + (-13) * y 3 + (-11) * y 4 + (-9) * y 5 + (-7) * y 6 + (-5) * y 7 + (-3) * y 8 + (-1) * y 9 + 1 * y 10 + 3 * y 11 + 5 * y 12 + 7 * y 13 + 9 * y 14 + 11 * y 15 + 13 * y 16 + 15 * y 17 + 17 * y 18 + 19 * y 19
theorem Us20 : Us 20 (R20.map (fun i : Nat => (i : Int))) = K20 := by decide
theorem Ps20 (y : Nat → Int) (c : Int) : Ps K20 (Us 20 (R20.map (fun i => y i - c))) = 200 * C20 y := by
  simp only [Ps, Us, K20, R20, C20, sm, List.map_cons, List.map_nil, List.zipWith_cons_cons, List.zipWith_nil_left]
  omega
theorem Ps20_sq : Ps K20 K20 = 266000 := by decide
theorem K20_small : Sml 190 K20 := by unfold Sml; decide
theorem LN20 {m d : Int} {y : Nat → Int} (hm0 : 0 ≤ m) (hm1 : m ≤ 1000) (d0 : 6000 ≤ d) (d1 : d < 26000) (hy : ∀ i, i < 20 → -8388608 ≤ y i - y 0 ∧ y i - y 0 ≤ 8388608) :
    LN (R20.map (fun i : Nat => (m + (i : Int)) * d)) (R20.map y) = md (d * (200 * C20 y)) 4294967296 (d * (d * 266000)) 2 := by
  have lx : (R20.map (fun i : Nat => (m + (i : Int)) * d)).length = 20 := by rw [List.length_map]; rfl
  have ly : (R20.map y).length = 20 := by rw [List.length_map]; rfl
  have hmem : ∀ i ∈ R20, i < 20 := by decide
  rw [LN_pts lx ly (by decide), if_neg (by decide)]
  have rx : rd (R20.map (fun i : Nat => (m + (i : Int)) * d)) 0 = m * d := by
    show (m + ((0 : Nat) : Int)) * d = m * d
    rw [Int.natCast_zero, Int.add_zero]
  have ry : rd (R20.map y) 0 = y 0 := rfl
  have ed : ∀ i : Nat, (m + (i : Int)) * d - m * d = d * (i : Int) := fun i => by rw [Int.add_mul, Int.mul_comm (i : Int) d]; omega
  have bd : ∀ i : Nat, i < 20 → 0 ≤ d * (i : Int) ∧ d * (i : Int) ≤ 26000 * 20 := fun i hi => ⟨Int.mul_nonneg (by omega) (by omega), Int.mul_le_mul (by omega) (by omega) (by omega) (by decide)⟩
  have ex : dl (R20.map (fun i : Nat => (m + (i : Int)) * d)) (m * d) = (R20.map (fun i : Nat => (i : Int))).map (fun x => d * x) := by
    rw [dl_exact, List.map_map, List.map_map]
    · exact List.map_congr_left (fun i _ => ed i)
    · intro x hx
      obtain ⟨i, hi, rfl⟩ := List.mem_map.1 hx
      have := bd i (hmem i hi)
      rw [ed i]
      exact isI64_mk (by omega) (by omega)
  have ey : dl (R20.map y) (y 0) = R20.map (fun i => y i - y 0) := by
    rw [dl_exact, List.map_map]
    · rfl
    · intro x hx
      obtain ⟨i, hi, rfl⟩ := List.mem_map.1 hx
      have := hy i (hmem i hi)
      exact isI64_mk (by omega) (by omega)
  rw [rx, ry, ex, ey]
  have sx : Sml 8388608 ((R20.map (fun i : Nat => (i : Int))).map (fun x => d * x)) := fun x hx => by
    rw [List.map_map] at hx
    obtain ⟨i, hi, rfl⟩ := List.mem_map.1 hx
    have := bd i (hmem i hi)
    simp only [Function.comp]
    omega
  have sy : Sml 8388608 (R20.map (fun i => y i - y 0)) := fun x hx => by
    obtain ⟨i, hi, rfl⟩ := List.mem_map.1 hx
    exact hy i (hmem i hi)
  unfold slope
  rw [show ((20 : Nat) : Int) = 20 from rfl, ofl_small (by decide) (by decide) (by rw [List.length_map, List.length_map]; decide) sx, ofl_small (by decide) (by decide) (by rw [List.length_map]; decide) sy, Us_mul, Us20]
  have ux : Sml 33554432 (K20.map (fun x => d * x)) := fun x hx => by
    obtain ⟨v, hv, rfl⟩ := List.mem_map.1 hx
    have := mul_span (a := d) (A := 26000) (b := v) ⟨by omega, by omega⟩ (K20_small v hv)
    omega
  have uy : Sml 1073741824 (Us 20 (R20.map (fun i => y i - y 0))) := (Us_small (by decide) (by decide) (by decide) (by rw [List.length_map]; decide) sy).mono (by decide)
  have lk : (K20.map (fun x => d * x)).length ≤ 64 := by rw [List.length_map]; decide
  rw [Ps_small lk ux uy, Ps_small lk ux (ux.mono (by decide)), Ps_comm _ (Us 20 (R20.map (fun i => y i - y 0))), Ps_mul, Ps_comm _ K20, Ps20, Ps_mul, Ps_comm _ K20, Ps_mul, Ps20_sq]
theorem near_d {C d : Int} (d0 : 6000 ≤ d) (d1 : d < 26000) (c0 : 0 ≤ C) (c1 : C ≤ 10000000) :
    ∃ r, md (d * (200 * C)) 4294967296 (d * (d * 266000)) 2 = r ∧ r * d * 2660 ≤ 8589934592 * C + 1330 * d ∧ 8589934592 * C + 1330 * d < r * d * 2660 + 2660 * d ∧ 0 ≤ r ∧ r ≤ 10000000000 := by
  have hdd : 0 < d * (d * 266000) := Int.mul_pos (by omega) (by omega)
  rw [md_pos hdd (by decide) (by decide), rnd_near]
  have e1 : 2 * (d * (200 * C) * 4294967296) + d * (d * 266000) = (d * 200) * (8589934592 * C + 1330 * d) := by
    have a1 : d * (200 * C) * 4294967296 = d * C * 858993459200 := by rw [show d * (200 * C) = d * C * 200 by rw [Int.mul_comm 200 C, Int.mul_assoc]]; omega
    have a2 : d * (d * 266000) = d * d * 266000 := by rw [Int.mul_assoc]
    have a3 : (d * 200) * (8589934592 * C + 1330 * d) = d * C * 1717986918400 + d * d * 266000 := by
      rw [Int.mul_add, show d * 200 * (8589934592 * C) = d * C * 1717986918400 by rw [Int.mul_assoc, Int.mul_left_comm 200, ← Int.mul_assoc d, Int.mul_comm d 8589934592]; rw [Int.mul_assoc, Int.mul_left_comm d 200 C]; omega,
        show d * 200 * (1330 * d) = d * d * 266000 by rw [Int.mul_assoc, Int.mul_left_comm 200, Int.mul_left_comm d 1330, Int.mul_left_comm d 200]; omega]
    rw [a1, a2, a3]
    generalize d * C = x
    generalize d * d = y
    omega
  have e2 : 2 * (d * (d * 266000)) = (d * 200) * (2660 * d) := by
    rw [show d * 200 * (2660 * d) = d * d * 532000 by rw [Int.mul_assoc, Int.mul_left_comm 200, Int.mul_left_comm d 2660, Int.mul_left_comm d 200]; omega, show d * (d * 266000) = d * d * 266000 by rw [Int.mul_assoc]]; omega
  rw [e1, e2, Int.mul_ediv_mul_of_pos _ _ (by omega)]
  generalize hX : 8589934592 * C + 1330 * d = X
  have q0 := Int.ediv_mul_le X (show 2660 * d ≠ 0 by omega)
  have q1 := Int.lt_ediv_add_one_mul_self X (show 0 < 2660 * d by omega)
  have q2 : 0 ≤ X / (2660 * d) := Int.ediv_nonneg (by omega) (by omega)
  have q3 : X / (2660 * d) ≤ 10000000000 := Int.ediv_le_of_le_mul (by omega) (by omega)
  generalize X / (2660 * d) = r at q0 q1 q2 q3 ⊢
  have e3 : r * (2660 * d) = r * d * 2660 := by rw [Int.mul_left_comm, Int.mul_comm 2660]
  have e4 : (r + 1) * (2660 * d) = r * d * 2660 + 2660 * d := by rw [Int.add_mul, e3, Int.one_mul]
  rw [e3] at q0; rw [e4] at q1
  exact ⟨r, hd_id (isI64_mk (by omega) (by omega)), q0, q1, q2, q3⟩
set_option maxHeartbeats 4000000 in
theorem C20_low {f : Nat → Int} {b : Int} (h0 : ∀ i, i < 20 → -6 ≤ f i) (h1 : ∀ i, i < 20 → 1000000 * f i ≤ 183000 * b + 6000000) : -(18300 * b) - 1200000 ≤ 1000 * C20 f := by
  have g0 := h1 0 (by decide)
  have g1 := h1 1 (by decide)
  have h2 := h1 2 (by decide)
  have h3 := h1 3 (by decide)
  have h4 := h1 4 (by decide)
  have h5 := h1 5 (by decide)
  have h6 := h1 6 (by decide)
  have h7 := h1 7 (by decide)
  have h8 := h1 8 (by decide)
  have h9 := h1 9 (by decide)
  have h10 := h0 10 (by decide)
  have h11 := h0 11 (by decide)
  have h12 := h0 12 (by decide)
  have h13 := h0 13 (by decide)
  have h14 := h0 14 (by decide)
  have h15 := h0 15 (by decide)
  have h16 := h0 16 (by decide)
  have h17 := h0 17 (by decide)
  have h18 := h0 18 (by decide)
  have h19 := h0 19 (by decide)
  clear h0 h1
  unfold C20
  omega
set_option maxHeartbeats 4000000 in
theorem C20_high {f : Nat → Int} (h2 : ∀ i, i < 19 → f (i + 1) ≤ f i + 1) : C20 f ≤ 1330 := by
  have s0 : f 1 ≤ f 0 + 1 := h2 0 (by decide)
  have s1 : f 2 ≤ f 1 + 1 := h2 1 (by decide)
  have s2 : f 3 ≤ f 2 + 1 := h2 2 (by decide)
  have s3 : f 4 ≤ f 3 + 1 := h2 3 (by decide)
  have s4 : f 5 ≤ f 4 + 1 := h2 4 (by decide)
  have s5 : f 6 ≤ f 5 + 1 := h2 5 (by decide)
  have s6 : f 7 ≤ f 6 + 1 := h2 6 (by decide)
  have s7 : f 8 ≤ f 7 + 1 := h2 7 (by decide)
  have s8 : f 9 ≤ f 8 + 1 := h2 8 (by decide)
  have s9 : f 10 ≤ f 9 + 1 := h2 9 (by decide)
  have s10 : f 11 ≤ f 10 + 1 := h2 10 (by decide)
  have s11 : f 12 ≤ f 11 + 1 := h2 11 (by decide)
  have s12 : f 13 ≤ f 12 + 1 := h2 12 (by decide)
  have s13 : f 14 ≤ f 13 + 1 := h2 13 (by decide)
  have s14 : f 15 ≤ f 14 + 1 := h2 14 (by decide)
  have s15 : f 16 ≤ f 15 + 1 := h2 15 (by decide)
  have s16 : f 17 ≤ f 16 + 1 := h2 16 (by decide)
  have s17 : f 18 ≤ f 17 + 1 := h2 17 (by decide)
  have s18 : f 19 ≤ f 18 + 1 := h2 18 (by decide)
  clear h2
  have d0 : f 10 ≤ f 9 + 1 := s9
  have d1 : f 11 ≤ f 8 + 3 := by clear s0 s1 s2 s3 s4 s5 s6 s7 s9 s11 s12 s13 s14 s15 s16 s17 s18; omega
  have d2 : f 12 ≤ f 7 + 5 := by clear s0 s1 s2 s3 s4 s5 s6 s8 s9 s10 s12 s13 s14 s15 s16 s17 s18 d0; omega
  have d3 : f 13 ≤ f 6 + 7 := by clear s0 s1 s2 s3 s4 s5 s7 s8 s9 s10 s11 s13 s14 s15 s16 s17 s18 d0 d1; omega
  have d4 : f 14 ≤ f 5 + 9 := by clear s0 s1 s2 s3 s4 s6 s7 s8 s9 s10 s11 s12 s14 s15 s16 s17 s18 d0 d1 d2; omega
  have d5 : f 15 ≤ f 4 + 11 := by clear s0 s1 s2 s3 s5 s6 s7 s8 s9 s10 s11 s12 s13 s15 s16 s17 s18 d0 d1 d2 d3; omega
  have d6 : f 16 ≤ f 3 + 13 := by clear s0 s1 s2 s4 s5 s6 s7 s8 s9 s10 s11 s12 s13 s14 s16 s17 s18 d0 d1 d2 d3 d4; omega
  have d7 : f 17 ≤ f 2 + 15 := by clear s0 s1 s3 s4 s5 s6 s7 s8 s9 s10 s11 s12 s13 s14 s15 s17 s18 d0 d1 d2 d3 d4 d5; omega
  have d8 : f 18 ≤ f 1 + 17 := by clear s0 s2 s3 s4 s5 s6 s7 s8 s9 s10 s11 s12 s13 s14 s15 s16 s18 d0 d1 d2 d3 d4 d5 d6; omega
  have d9 : f 19 ≤ f 0 + 19 := by clear s1 s2 s3 s4 s5 s6 s7 s8 s9 s10 s11 s12 s13 s14 s15 s16 s17 d0 d1 d2 d3 d4 d5 d6 d7; omega
  clear s0 s1 s2 s3 s4 s5 s6 s7 s8 s9 s10 s11 s12 s13 s14 s15 s16 s17 s18
  unfold C20
  omega
set_option maxHeartbeats 4000000 in
theorem C20_lin {f y : Nat → Int} {A b : Int} (h : ∀ (i : Nat) (c : Int), (i : Int) = c → y i = A + c * b + f i) : C20 y = 1330 * b + C20 f := by
  have q0 := h 0 0 rfl
  have q1 := h 1 1 rfl
  have q2 := h 2 2 rfl
  have q3 := h 3 3 rfl
  have q4 := h 4 4 rfl
  have q5 := h 5 5 rfl
  have q6 := h 6 6 rfl
  have q7 := h 7 7 rfl
  have q8 := h 8 8 rfl
  have q9 := h 9 9 rfl
  have q10 := h 10 10 rfl
  have q11 := h 11 11 rfl
  have q12 := h 12 12 rfl
  have q13 := h 13 13 rfl
  have q14 := h 14 14 rfl
  have q15 := h 15 15 rfl
  have q16 := h 16 16 rfl
  have q17 := h 17 17 rfl
  have q18 := h 18 18 rfl
  have q19 := h 19 19 rfl
  clear h
  unfold C20
  rw [q0, q1, q2, q3, q4, q5, q6, q7, q8, q9, q10, q11, q12, q13, q14, q15, q16, q17, q18, q19]
  clear q0 q1 q2 q3 q4 q5 q6 q7 q8 q9 q10 q11 q12 q13 q14 q15 q16 q17 q18 q19
  omega
set_option maxHeartbeats 4000000 in
theorem C20_span {b : Int} {m : Nat} (b0 : 2000 ≤ b) (b1 : b < 6000) (hm : 36 ≤ m) (hm1 : m ≤ 38) :
    1311 * b ≤ C20 (fun i => yS b (m + i + 1)) ∧ C20 (fun i => yS b (m + i + 1)) ≤ 1330 * b + 1330 ∧ 1311700 * b - 1200000 ≤ 1000 * C20 (fun i => yS b (m + i + 1)) := by
  have mono : ∀ j k : Nat, j ≤ k → uS k ≤ max (uS j) 10 := by
    intro j k hjk
    induction k with
    | zero => rw [show j = 0 by omega]; omega
    | succ k ih =>
      by_cases h : j = k + 1
      · rw [h]; omega
      · have := ih (by omega)
        have e : uS (k + 1) = (9 * uS k + 9) / 10 := rfl
        rw [e]
        omega
  have u37 : uS 37 ≤ 183000 := of_decide_eq_true (by kernel_rfl)
  have hf0 : ∀ i : Nat, i < 20 → -6 ≤ fS b (m + i + 1) := fun i hi => (fS_ok b0 b1 (m + i + 1) (by omega)).1
  have hf1 : ∀ i : Nat, i < 20 → 1000000 * fS b (m + i + 1) ≤ 183000 * b + 6000000 := fun i hi => by
    have a2 := (fS_ok b0 b1 (m + i + 1) (by omega)).2.1
    have := mono 37 (m + i + 1) (by omega)
    have hu : uS (m + i + 1) ≤ 183000 := by omega
    have := Int.mul_le_mul_of_nonneg_right hu (show 0 ≤ b by omega)
    omega
  have hf2 : ∀ i : Nat, i < 19 → fS b (m + (i + 1) + 1) ≤ fS b (m + i + 1) + 1 := fun i hi => (fS_ok b0 b1 (m + i + 1) (by omega)).2.2 (by omega)
  have lo := C20_low (f := fun i => fS b (m + i + 1)) hf0 hf1
  have hi := C20_high (f := fun i => fS b (m + i + 1)) hf2
  have e : C20 (fun i => yS b (m + i + 1)) = 1330 * b + C20 (fun i => fS b (m + i + 1)) := by
    refine C20_lin (A := (m : Int) * b - 8 * b) (fun i c hc => ?_)
    unfold fS
    rw [Int.natCast_add, Int.natCast_add, Int.add_mul, Int.add_mul, hc]
    generalize yS b (m + i + 1) = y
    generalize (m : Int) * b = x
    generalize c * b = z
    omega
  rw [e]
  clear e hf0 hf1 hf2 mono u37
  refine ⟨by omega, by omega, by omega⟩
theorem win20 (f : Nat → Int) : win f 56 = R20.map (fun i => f (36 + i)) ∧ win f 57 = R20.map (fun i => f (37 + i)) ∧ win f 58 = R20.map (fun i => f (38 + i)) := ⟨rfl, rfl, rfl⟩
theorem slope_at {b d : Int} {m : Nat} (b0 : 2000 ≤ b) (b1 : b < 6000) (d0 : 6000 ≤ d) (d1 : d < 26000) (hm : 36 ≤ m) (hm1 : m ≤ 38) :
    ∃ r, slv 20 (R20.map (fun i : Nat => (((m + i : Nat) : Int) + 1) * d)) (R20.map (fun i => yS b (m + i + 1))) = r ∧ 245000000 ≤ r ∧ r ≤ 10000000000 ∧
      r * d * 2660 ≤ 8589934592 * (1330 * b + 1330) + 1330 * d ∧ 8589934592 * (1311700 * b - 1200000) + 1330000 * d < 1000 * (r * d * 2660 + 2660 * d) := by
  obtain ⟨c0, c1, c2⟩ := C20_span b0 b1 hm hm1
  have hb : ∀ i : Nat, i < 20 → -8388608 ≤ (fun i => yS b (m + i + 1)) i - (fun i => yS b (m + i + 1)) 0 ∧ (fun i => yS b (m + i + 1)) i - (fun i => yS b (m + i + 1)) 0 ≤ 8388608 := by
    intro i hi
    have one : ∀ j : Nat, j < 20 → 0 ≤ yS b (m + j + 1) + 60000 ∧ yS b (m + j + 1) ≤ 1000000 := by
      intro j hj
      obtain ⟨a1, a2, _⟩ := fS_ok b0 b1 (m + j + 1) (by omega)
      have u := uS_span (m + j + 1)
      have ub : uS (m + j + 1) * b ≤ 9000000 * 6000 := Int.mul_le_mul u.2 (by omega) (by omega) (by decide)
      have jb : ((m + j + 1 : Nat) : Int) * b ≤ 100 * 6000 := Int.mul_le_mul (by omega) (by omega) (by omega) (by decide)
      have jb0 : 0 ≤ ((m + j + 1 : Nat) : Int) * b := Int.mul_nonneg (by omega) (by omega)
      unfold fS at a1 a2
      omega
    have := one i hi; have := one 0 (by decide)
    dsimp only
    omega
  have e := LN20 (m := (m : Int) + 1) (d := d) (y := fun i => yS b (m + i + 1)) (by omega) (by omega) d0 d1 hb
  have ex : R20.map (fun i : Nat => (((m + i : Nat) : Int) + 1) * d) = R20.map (fun i : Nat => ((m : Int) + 1 + (i : Int)) * d) := List.map_congr_left (fun i _ => by rw [Int.natCast_add]; congr 1; omega)
  obtain ⟨r, er, r0, r1, r2, r3⟩ := near_d (C := C20 (fun i => yS b (m + i + 1))) d0 d1 (by omega) (by omega)
  refine ⟨r, ?_, ?_, r3, by omega, by omega⟩
  · unfold slv
    rw [if_neg (by rw [List.length_map]; decide), ex, e, er]
  · by_cases h : 245000000 ≤ r
    · exact h
    · have : r * d ≤ 245000000 * 26000 := Int.mul_le_mul (by omega) (by omega) (by omega) (by decide)
      omega
theorem thr_step {thr S d : Int} (h : TR thr) (hS : isI64 S) (d0 : 6000 ≤ d) (d1 : d < 26000) : dThr thr S d ≤ thr + 16770000 := by
  unfold TR at h
  have hs := ab_span hS
  unfold dThr
  split
  · omega
  · rename_i c
    have key : (hd (ab S) - thr) * ((if hd (ab S) < thr then 168 else 43) * d) / 4294967296 ≤ 16770000 := by
      generalize hd (ab S) = a at hs c ⊢
      split
      · have := Int.mul_nonneg (show 0 ≤ thr - a by omega) (show 0 ≤ 168 * d by omega)
        have e : (a - thr) * (168 * d) = -((thr - a) * (168 * d)) := by rw [← Int.neg_mul]; congr 1; omega
        rw [e]; omega
      · have := Int.mul_le_mul (show a - thr ≤ 64424509440 by omega) (show 43 * d ≤ 43 * 26000 by omega) (by omega) (by decide)
        omega
    generalize (hd (ab S) - thr) * ((if hd (ab S) < thr then 168 else 43) * d) / 4294967296 = e at key ⊢
    unfold cl
    repeat' split
    all_goals omega
theorem dU_over {u thr us ti sg S t : Int} (h : S > thr) : (dU u thr us ti sg S t).1 = 1 ∨
    (¬ ((if us > 0 then us + t else mx (t / 2) 1) > 10000 ∧ ti + 1 > 1 ∧ S ≥ sg) ∧ (dU u thr us ti sg S t).2.1 = (if us > 0 then us + t else mx (t / 2) 1) ∧ (dU u thr us ti sg S t).2.2 = ti + 1) := by
  unfold dU
  rw [if_pos h]
  by_cases c : (if us > 0 then us + t else mx (t / 2) 1) > 10000 ∧ ti + 1 > 1 ∧ S ≥ sg
  · rw [if_pos c]; exact .inl rfl
  · rw [if_neg c]; exact .inr ⟨c, rfl, rfl⟩
structure FS (b d : Int) (n : Nat) (at_ ca : Int) (over : Bool) (s : GccS) : Prop where
  g : s.g = ⟨at_, at_, ca, 1200, true, some (at_ - d, at_ - d, ca - d - b, 1200), 5000⟩
  t : s.t = ⟨20, 3865470566, (n : Int) * b, yS b n, (n : Int) * d, win (fun i : Nat => ((i : Int) + 1) * d) n, win (fun i => yS b (i + 1)) n, n⟩
  thr : s.d1 ≤ 53687091200 + 16770000 * (n : Int)
  o : over = true ∨ ((n = 56 → d - 1 ≤ 2 * s.d2 ∧ 1 ≤ s.d3) ∧ (n = 57 → 3 * d - 1 ≤ 2 * s.d2 ∧ 2 ≤ s.d3 ∧ s.d4 = dS (slv 20 (R20.map (fun i : Nat => (((37 + i : Nat) : Int) + 1) * d)) (R20.map (fun i => yS b (37 + i + 1)))) 57) ∧ n ≠ 58)
theorem hA_one (s : GccS) (x : S41) (loss got now : Int) : (hA s [x] loss got now).g = (hS now s x).g ∧ (hA s [x] loss got now).t = (hS now s x).t ∧ (hA s [x] loss got now).d0 = (hS now s x).d0 ∧ (hA s [x] loss got now).d1 = (hS now s x).d1 ∧
    (hA s [x] loss got now).d2 = (hS now s x).d2 ∧ (hA s [x] loss got now).d3 = (hS now s x).d3 ∧ (hA s [x] loss got now).d4 = (hS now s x).d4 := by
  unfold hA hR hL
  rw [if_neg (by simp)]
  exact ⟨rfl, rfl, rfl, rfl, rfl, rfl, rfl⟩
theorem gA_next {at_ ca d : Int} {dn : Option (Int × Int × Int × Int)} (d0 : 6000 ≤ d) (d1 : d < 26000) (a0 : 0 ≤ at_) (a1 : at_ ≤ 10000000) (ca' : Int) (c0 : 0 ≤ ca') (c1 : ca' ≤ 100000000) :
    gA ⟨at_, at_, ca, 1200, true, dn, 5000⟩ 1200 (at_ + d) ca' false = match dn with
      | none => ((0, 0, 0), false, ⟨at_ + d, at_ + d, ca', 1200, true, some (at_, at_, ca, 1200), 5000⟩)
      | some x => ((hd (at_ - x.2.1), hd (ca - x.2.2.1), wrap64 (1200 - x.2.2.2)), true, ⟨at_ + d, at_ + d, ca', 1200, true, some (at_, at_, ca, 1200), 5000⟩) := by
  unfold gA
  simp only
  rw [if_neg (by decide), if_neg (by decide), if_neg (by decide), if_neg (by omega), if_neg (by omega), if_neg (by omega), if_neg (by omega), if_neg (by decide), if_neg (by omega), wrap64_id (isI64_mk (by omega) (by omega)), if_neg (by omega)]
  all_goals (cases dn <;> rfl)
theorem nn_id (n : Nat) (h : n ≤ 60) : nn (n : Int) = n := by unfold nn mn mx; repeat' split <;> omega
theorem fill_step {lo hi b d at_ ca now : Int} {n i : Nat} {over : Bool} {s : GccS} (b0 : 2000 ≤ b) (b1 : b < 6000) (d0 : 6000 ≤ d) (d1 : d < 26000) (hn : n < 58) (a0 : 0 ≤ at_) (a1 : at_ ≤ 10000000) (c0 : 0 ≤ ca) (c1 : ca ≤ 10000000) (hI : HI i lo hi s) (h : FS b d n at_ ca over s) :
    FS b d (n + 1) (at_ + d) (ca + d + b) (over || ((hA s [⟨⟨0, 1200, at_ + d⟩, ca + d + b, false, false⟩] 0 1000000 now).d0 == 1)) (hA s [⟨⟨0, 1200, at_ + d⟩, ca + d + b, false, false⟩] 0 1000000 now) := by
  obtain ⟨k1, k2, k3, k4, k5, k6, k7⟩ := hA_one s ⟨⟨0, 1200, at_ + d⟩, ca + d + b, false, false⟩ 0 1000000 now
  generalize hA s [⟨⟨0, 1200, at_ + d⟩, ca + d + b, false, false⟩] 0 1000000 now = s' at k1 k2 k3 k4 k5 k6 k7 ⊢
  have eg := gA_next (at_ := at_) (ca := ca) (dn := some (at_ - d, at_ - d, ca - d - b, 1200)) d0 d1 a0 a1 (ca + d + b) (by omega) (by omega)
  rw [← h.g] at eg
  simp only at eg
  rw [show at_ - (at_ - d) = d by omega, show ca - (ca - d - b) = d + b by omega, hd_id (x := d) (isI64_mk (by omega) (by omega)), hd_id (x := d + b) (isI64_mk (by omega) (by omega))] at eg
  unfold hS at k1 k2 k3 k4 k5 k6 k7
  simp only [eg, if_true] at k1 k2 k3 k4 k5 k6 k7
  unfold hT at k1 k2 k3 k4 k5 k6 k7
  have nb : (n : Int) * b ≤ 100 * 6000 := Int.mul_le_mul (by omega) (by omega) (by omega) (by decide)
  have nb0 : 0 ≤ (n : Int) * b := Int.mul_nonneg (by omega) (by omega)
  have nd : (n : Int) * d ≤ 100 * 26000 := Int.mul_le_mul (by omega) (by omega) (by omega) (by decide)
  have nd0 : 0 ≤ (n : Int) * d := Int.mul_nonneg (by omega) (by omega)
  have n1b : ((n + 1 : Nat) : Int) * b = (n : Int) * b + b := by rw [Int.natCast_add, Int.add_mul]; omega
  have n1d : ((n + 1 : Nat) : Int) * d = (n : Int) * d + d := by rw [Int.natCast_add, Int.add_mul]; omega
  have f1 : ((n : Int) + 1) * d = (n : Int) * d + d := by rw [Int.add_mul]; omega
  have eS : tS ((n : Int) * b) d (d + b) = ((n + 1 : Nat) : Int) * b := by unfold tS; rw [cT_id (by omega) (by omega), cT_id (by omega) (by omega), hd_id (isI64_mk (by omega) (by omega)), n1b]; omega
  have eY : tY ((n : Int) * b) (yS b n) 3865470566 d (d + b) = yS b (n + 1) := by unfold tY; rw [eS]; rfl
  have eX : tX ((n : Int) * d) d = ((n + 1 : Nat) : Int) * d := by unfold tX; rw [cT_id (by omega) (by omega), hd_id (isI64_mk (by omega) (by omega)), n1d]
  have eC : mn (wrap64 ((n : Int) + 1)) 1000 = ((n + 1 : Nat) : Int) := by rw [wrap64_id (isI64_mk (by omega) (by omega))]; unfold mn; split <;> omega
  have wx : tcut 20 (win (fun i : Nat => ((i : Int) + 1) * d) n ++ [((n + 1 : Nat) : Int) * d]) = win (fun i : Nat => ((i : Int) + 1) * d) (n + 1) := by
    have := win_step (fun i : Nat => ((i : Int) + 1) * d) n
    rw [← this]; simp only [f1, n1d]
  have wy : tcut 20 (win (fun i => yS b (i + 1)) n ++ [yS b (n + 1)]) = win (fun i => yS b (i + 1)) (n + 1) := win_step (fun i => yS b (i + 1)) n
  simp only [h.t, eS, eY, eX, eC, wx, wy] at k1 k2 k3 k4 k5 k6 k7
  clear eS eY eX eC wx wy nb nb0 nd nd0 n1b n1d f1
  have tD : dT d = d := by unfold dT cl; rw [if_neg (by omega), if_neg (by omega)]
  have mD : mn d 100000 = d := by unfold mn; rw [if_neg (by omega)]
  rw [tD] at k3 k4 k5 k6
  rw [mD] at k4
  clear tD mD
  have hTR := hI.d.2.2.1
  have hus := hI.d.2.2.2.1
  have hti := hI.d.2.2.2.2.2.1
  have nthr : s'.d1 ≤ 53687091200 + 16770000 * ((n + 1 : Nat) : Int) := by
    rw [k4]
    refine Int.le_trans (thr_step hTR (hd_i64 _) d0 d1) ?_
    have := h.thr
    clear k1 k2 k3 k4 k5 k6 k7 eg
    omega
  refine ⟨?_, k2, nthr, ?_⟩
  · rw [k1, show at_ + d - d = at_ by clear k1 k2 k3 k4 k5 k6 k7 eg; omega, show ca + d + b - d - b = ca by clear k1 k2 k3 k4 k5 k6 k7 eg; omega]
  · rcases h.o with ho | ⟨o56, o57, o58⟩
    · left; rw [ho]; rfl
    by_cases c : s'.d0 = 1
    · left; rw [c]; simp
    right
    have W := win20 (fun i : Nat => ((i : Int) + 1) * d)
    have V := win20 (fun i => yS b (i + 1))
    have big : ∀ r : Int, 245000000 ≤ r → r ≤ 10000000000 → ∀ m : Nat, 56 ≤ m → m ≤ 58 → dS r (m : Int) = 4 * (m : Int) * r ∧ s.d1 < 4 * (m : Int) * r := by
      intro r r0 r1 m m0 m1
      have := h.thr
      have l1 : 56 * 245000000 ≤ (m : Int) * r := Int.mul_le_mul (by omega) r0 (by decide) (by omega)
      have l2 : (m : Int) * r ≤ 58 * 10000000000 := Int.mul_le_mul (by omega) r1 (by omega) (by decide)
      unfold dS
      rw [nn_id m (by omega), Int.mul_assoc, hd_id (isI64_mk (by omega) (by omega))]
      exact ⟨rfl, by clear k1 k2 k3 k4 k5 k6 k7 eg; omega⟩
    refine ⟨fun e => ?_, fun e => ?_, fun e => ?_⟩
    · obtain rfl : n = 55 := by clear k1 k2 k3 k4 k5 k6 k7 eg big W V o56 o57 o58 c nthr; omega
      simp only [show 55 + 1 = 56 from rfl, W.1, V.1] at k3 k5 k6
      obtain ⟨r, er, r0, r1, _, _⟩ := slope_at (m := 36) b0 b1 d0 d1 (by decide) (by decide)
      rw [er] at k3 k5 k6
      obtain ⟨eS, gt⟩ := big r r0 r1 56 (by decide) (by decide)
      rw [show ((56 : Nat) : Int) = 56 from rfl] at eS gt k3 k5 k6
      rcases dU_over (u := s.d0) (us := s.d2) (ti := s.d3) (sg := s.d4) (t := d) (show dS r 56 > s.d1 by rw [eS]; exact gt) with q | ⟨_, q1, q2⟩
      · exact absurd (k3.trans q) c
      · rw [k5, k6, q1, q2]
        clear k1 k2 k3 k4 k5 k6 k7 eg big W V q1 q2 o56 o57 o58 nthr
        refine ⟨?_, by omega⟩
        unfold mx
        repeat' split
        all_goals omega
    · obtain rfl : n = 56 := by clear k1 k2 k3 k4 k5 k6 k7 eg big W V o56 o57 o58 c nthr; omega
      simp only [show 56 + 1 = 57 from rfl, W.2.1, V.2.1] at k3 k5 k6 k7
      obtain ⟨r, er, r0, r1, _, _⟩ := slope_at (m := 37) b0 b1 d0 d1 (by decide) (by decide)
      obtain ⟨p1, p2⟩ := o56 rfl
      obtain ⟨eS, gt⟩ := big r r0 r1 57 (by decide) (by decide)
      rw [show ((57 : Nat) : Int) = 57 from rfl] at eS gt k3 k5 k6 k7
      rw [← er] at eS gt
      rcases dU_over (u := s.d0) (us := s.d2) (ti := s.d3) (sg := s.d4) (t := d) (show dS (slv 20 (R20.map (fun i : Nat => (((37 + i : Nat) : Int) + 1) * d)) (R20.map (fun i => yS b (37 + i + 1)))) 57 > s.d1 by rw [eS]; exact gt) with q | ⟨_, q1, q2⟩
      · exact absurd (k3.trans q) c
      · rw [k5, k6, q1, q2, k7]
        clear k1 k2 k3 k4 k5 k6 k7 eg big W V q1 q2 o56 o57 o58 nthr
        rw [if_pos (by omega)]
        exact ⟨by omega, by omega, rfl⟩
    · obtain rfl : n = 57 := by clear k1 k2 k3 k4 k5 k6 k7 eg big W V o56 o57 o58 c nthr; omega
      simp only [show 57 + 1 = 58 from rfl, W.2.2, V.2.2] at k3 k5 k6 k7
      obtain ⟨r, er, r0, r1, _, r3⟩ := slope_at (m := 38) b0 b1 d0 d1 (by decide) (by decide)
      obtain ⟨q, eq, q0, q1, q2, _⟩ := slope_at (m := 37) b0 b1 d0 d1 (by decide) (by decide)
      obtain ⟨p1, p2, p3⟩ := o57 rfl
      rw [er] at k3
      rw [eq] at p3
      obtain ⟨eS, gt⟩ := big r r0 r1 58 (by decide) (by decide)
      obtain ⟨eQ, _⟩ := big q q0 q1 57 (by decide) (by decide)
      rw [show ((58 : Nat) : Int) = 58 from rfl] at eS gt k3
      rw [show ((57 : Nat) : Int) = 57 from rfl] at eQ
      have rise : 57 * q ≤ 58 * r := by
        by_cases hh : 57 * q ≤ 58 * r
        · exact hh
        · have := Int.mul_le_mul_of_nonneg_right (show 58 * r + 1 ≤ 57 * q by omega) (show 0 ≤ d by omega)
          rw [Int.add_mul, Int.mul_assoc, Int.mul_assoc] at this
          clear k1 k2 k3 k4 k5 k6 k7 eg big W V o56 o57 o58 nthr
          omega
      rcases dU_over (u := s.d0) (us := s.d2) (ti := s.d3) (sg := s.d4) (t := d) (show dS r 58 > s.d1 by rw [eS]; exact gt) with x | ⟨x, _, _⟩
      · exact absurd (k3.trans x) c
      · clear k1 k2 k3 k4 k5 k6 k7 eg big W V o56 o57 o58 nthr
        refine x ⟨by rw [if_pos (by omega)]; omega, by omega, ?_⟩
        rw [eS, p3, eQ]
        omega
end Go.Proofs.YtphgeljglhjamaaDoor.P
namespace Go.Proofs.YtphgeljglhjamaaDoor.Pure
open Go.RowKit Go.Proofs.YtphgeljglhjamaaDoor.P Go.Proofs.YtphgeljglhjamaaDoorW.PrintWords Go.Proofs.YtphgeljglhjamaaDoorW.PrintLast Go.Proofs.YtphgeljglhjamaaDoorW.PrintMore
set_option linter.unusedVariables false
set_option linter.unusedSimpArgs false
theorem GccFills : flywheellaw22_GccFills.Pure := by
  intro a1 a2 h1 h2
  have h1 := u16_of_wf h1
  have h2 := u16_of_wf h2
  refine ⟨700, ?_⟩
  unfold flywheellaw22_GccFills.f
  rw [wrap64_id (a := a1) (isI64_mk (by omega) (by omega)), wrap64_id (a := a2) (isI64_mk (by omega) (by omega)), Int.tmod_eq_emod_of_nonneg h1.1, Int.tmod_eq_emod_of_nonneg h2.1,
    wrap64_id (a := 6000 + a1 % 20000) (isI64_mk (by omega) (by omega)), wrap64_id (a := 2000 + a2 % 4000) (isI64_mk (by omega) (by omega))]
  generalize hd : 6000 + a1 % 20000 = d
  generalize hb : 2000 + a2 % 4000 = b
  have d0 : 6000 ≤ d := by omega
  have d1 : d < 26000 := by omega
  have b0 : 2000 ≤ b := by omega
  have b1 : b < 6000 := by omega
  clear hd hb h1 h2
  have one : ∀ (k i : Nat) (at_ ca : Int) (over : Bool) (s : GccS), 310 ≤ k → i < 60 → at_ = (i : Int) * d → HI i 1000 5000000 s → ca = (i : Int) * d + d + b * (i : Int) →
      flywheellaw22_GccFills.l0 (k + 1) d b at_ over i s = flywheellaw22_GccFills.l0 k d b (at_ + d) (over || ((hA s [⟨⟨0, 1200, at_ + d⟩, ca, false, false⟩] 0 1000000 (ca + 1000)).d0 == 1)) ((i + 1 : Nat) : Int) (hA s [⟨⟨0, 1200, at_ + d⟩, ca, false, false⟩] 0 1000000 (ca + 1000)) ∧
        HI (i + 1) 1000 5000000 (hA s [⟨⟨0, 1200, at_ + d⟩, ca, false, false⟩] 0 1000000 (ca + 1000)) := by
    intro k i at_ ca over s hk hi hat h hca
    have m1 : (i : Int) * d ≤ 60 * 26000 := Int.mul_le_mul (by omega) (by omega) (by omega) (by decide)
    have m2 : 0 ≤ (i : Int) * d := Int.mul_nonneg (by omega) (by omega)
    have m3 : b * (i : Int) ≤ 6000 * 60 := Int.mul_le_mul (by omega) (by omega) (by omega) (by decide)
    have m4 : 0 ≤ b * (i : Int) := Int.mul_nonneg (by omega) (by omega)
    simp only [flywheellaw22_GccFills.l0]
    rw [if_pos (by omega), wrap64_id (a := at_ + d) (isI64_mk (by omega) (by omega)), wrap64_id (a := b * (i : Int)) (isI64_mk (by omega) (by omega)), show at_ + d + b * (i : Int) = ca by omega, wrap64_id (a := ca) (isI64_mk (by omega) (by omega)), wrap64_id (a := ca + 1000) (isI64_mk (by omega) (by omega)), wn22 i (by omega)]
    obtain ⟨e, h'⟩ := hear_eq (l := [⟨⟨0, 1200, at_ + d⟩, ca, false, false⟩]) (loss := 0) (got := 1000000) (now := ca + 1000) k (by omega) (isI64_mk (by omega) (by omega))
      (fun x hx => by rw [List.mem_singleton.1 hx]; exact isI64_mk (by simp only; omega) (by simp only; omega)) (by rw [List.length_singleton]; omega) h
    rw [e]
    refine ⟨?_, by simpa using h'⟩
    cases over with
    | true => simp only [Option.bind_some, if_true, Bool.true_or]
    | false => simp only [Option.bind_some, Bool.false_eq_true, if_false, gcc_Gcc_Usage.f, Bool.false_or]
  have loop : ∀ (m i k : Nat) (at_ ca : Int) (over : Bool) (s : GccS), i + m = 60 → 2 ≤ i → m + 320 ≤ k → at_ = (i : Int) * d → ca = at_ + b * ((i : Int) - 1) → HI i 1000 5000000 s → FS b d (i - 2) at_ ca over s → flywheellaw22_GccFills.l0 k d b at_ over i s = some true := by
    intro m
    induction m with
    | zero =>
      intro i k at_ ca over s hi h2 hk hat hca h hf
      obtain ⟨k, rfl⟩ : ∃ j, k = j + 1 := ⟨k - 1, by omega⟩
      obtain rfl : i = 60 := by omega
      simp only [flywheellaw22_GccFills.l0]
      rw [if_neg (by decide)]
      rcases hf.o with ho | ⟨_, _, ho⟩
      · rw [if_pos ho]; exact wk22 k (by omega)
      · exact absurd rfl ho
    | succ m ih =>
      intro i k at_ ca over s hi h2 hk hat hca h hf
      obtain ⟨k, rfl⟩ : ∃ j, k = j + 1 := ⟨k - 1, by omega⟩
      have m1 : (i : Int) * d ≤ 60 * 26000 := Int.mul_le_mul (by omega) (by omega) (by omega) (by decide)
      have m2 : 0 ≤ (i : Int) * d := Int.mul_nonneg (by omega) (by omega)
      have m3 : b * ((i : Int) - 1) ≤ 6000 * 60 := Int.mul_le_mul (by omega) (by omega) (by omega) (by decide)
      have m4 : 0 ≤ b * ((i : Int) - 1) := Int.mul_nonneg (by omega) (by omega)
      have m5 : b * (i : Int) = b * ((i : Int) - 1) + b := by rw [Int.mul_sub]; omega
      have m6 : ((i + 1 : Nat) : Int) * d = (i : Int) * d + d := by rw [Int.natCast_add, Int.add_mul]; omega
      have m7 : ((i + 1 : Nat) : Int) - 1 = (i : Int) := by omega
      obtain ⟨e, h'⟩ := one k i at_ (ca + d + b) over s (by omega) (by omega) hat h (by omega)
      have hf' := fill_step (now := ca + d + b + 1000) b0 b1 d0 d1 (by omega) (by omega) (by omega) (by omega) (by omega) h hf
      rw [e]
      refine ih (i + 1) k _ (ca + d + b) _ _ (by omega) (by omega) (by omega) (by omega) (by rw [m7]; omega) h' ?_
      rw [show i + 1 - 2 = i - 2 + 1 by omega]
      exact hf'
  rcases new_two 2000000 1000 5000000 with ⟨e1, h, _⟩ | ⟨_, _, no⟩
  rotate_left
  · exact absurd ⟨by decide, by decide, by decide, by decide⟩ no
  rw [e1]
  simp only [Option.isSome_some, if_true, Option.bind_some]
  obtain ⟨q1, h1⟩ := one 699 0 0 d false _ (by decide) (by decide) (by simp) h (by simp)
  rw [show ((0 : Nat) : Int) = 0 from rfl] at q1
  rw [q1]
  obtain ⟨k1, k2, k3, k4, _⟩ := hA_one (s0 2000000 1000 5000000) ⟨⟨0, 1200, 0 + d⟩, d, false, false⟩ 0 1000000 (d + 1000)
  have g0 : gA (s0 2000000 1000 5000000).g 1200 (0 + d) d false = ((0, 0, 0), false, ⟨d, d, d, 1200, true, none, 5000⟩) := by
    unfold gA s0
    simp only
    rw [if_neg (by decide), if_neg (by decide), if_neg (by decide), if_neg (by omega), if_neg (by omega), if_neg (by omega), if_neg (by omega)]
    simp only [if_true, Int.zero_add]
  unfold hS at k1 k2 k3 k4
  simp only [g0, Bool.false_eq_true, if_false] at k1 k2 k3 k4
  generalize hA (s0 2000000 1000 5000000) [⟨⟨0, 1200, 0 + d⟩, d, false, false⟩] 0 1000000 (d + 1000) = s1 at h1 k1 k2 k3 k4 ⊢
  have o1 : (s1.d0 == 1) = false := by rw [k3]; rfl
  rw [o1, Bool.or_false]
  obtain ⟨q2, h2⟩ := one 698 1 (0 + d) (2 * d + b) false s1 (by decide) (by decide) (by simp) h1 (by simp; omega)
  rw [q2]
  obtain ⟨j1, j2, j3, j4, _⟩ := hA_one s1 ⟨⟨0, 1200, 0 + d + d⟩, 2 * d + b, false, false⟩ 0 1000000 (2 * d + b + 1000)
  have g1 : gA s1.g 1200 (0 + d + d) (2 * d + b) false = ((0, 0, 0), false, ⟨d + d, d + d, 2 * d + b, 1200, true, some (d, d, d, 1200), 5000⟩) := by
    rw [k1, Int.zero_add]
    exact gA_next (at_ := d) (ca := d) (dn := none) d0 d1 (by omega) (by omega) (2 * d + b) (by omega) (by omega)
  unfold hS at j1 j2 j3 j4
  simp only [g1, Bool.false_eq_true, if_false] at j1 j2 j3 j4
  generalize hA s1 [⟨⟨0, 1200, 0 + d + d⟩, 2 * d + b, false, false⟩] 0 1000000 (2 * d + b + 1000) = s2 at h2 j1 j2 j3 j4 ⊢
  have o2 : (s2.d0 == 1) = false := by rw [j3, k3]; rfl
  rw [o2, Bool.or_false]
  refine loop 58 2 698 (0 + d + d) (2 * d + b) false s2 (by decide) (by decide) (by decide) ?_ ?_ h2 ⟨?_, ?_, ?_, .inr ⟨(fun e => by cases e), (fun e => by cases e), by decide⟩⟩
  · show 0 + d + d = ((2 : Nat) : Int) * d
    omega
  · show 2 * d + b = 0 + d + d + b * (((2 : Nat) : Int) - 1)
    omega
  · rw [j1]
    congr 1
    · omega
    · omega
    · congr 1
      refine Prod.ext (by simp only; omega) (Prod.ext (by simp only; omega) (Prod.ext (by simp only; omega) rfl))
  · rw [j2, k2]
    simp [s0, yS, win]
  · rw [j4, k4]
    simp [s0]
end Go.Proofs.YtphgeljglhjamaaDoor.Pure
end

section

end

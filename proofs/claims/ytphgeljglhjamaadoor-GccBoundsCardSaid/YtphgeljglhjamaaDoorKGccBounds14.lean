-- PUT TOGETHER by a program of this session: of the claim's texts, what is used
import Derived.Test.YtphgeljglhjamaaDoorKGccBounds8
import Derived.Test.YtphgeljglhjamaaDoorKGccBounds9
import Derived.Test.YtphgeljglhjamaaDoorKGccBounds10
import Derived.Test.YtphgeljglhjamaaDoorKGccBounds11
import Derived.Test.YtphgeljglhjamaaDoorKGccBounds12
import Derived.Test.YtphgeljglhjamaaDoorKGccBounds13
import Derived.WalkArith
import Derived.KernelRfl
section
namespace Go.Proofs.YtphgeljglhjamaaDoor.P
open Go.RowKit
set_option linter.unusedVariables false
set_option linter.unusedSimpArgs false
def md (a b c how : Int) : Int := (mdq a b c how).1
theorem isI64_of_wf {a : Int} (h : (Lit.int .i64 a).wf = true) : isI64 a := by
  simp only [Lit.wf, IntKind.min, IntKind.max, IntKind.signed, IntKind.bits, Bool.and_eq_true, decide_eq_true_eq] at h
  unfold isI64; simp at h; omega
theorem wrap64_id {a : Int} (h : isI64 a) : wrap64 a = a := by unfold isI64 at h; unfold wrap64; omega
theorem isI64_mk {a : Int} (h : -9223372036854775808 ≤ a) (h' : a ≤ 9223372036854775807) : isI64 a := ⟨h, h'⟩
theorem hold64_i64 (q : Int) : isI64 (hold64 q).1 := by
  unfold hold64 isI64
  split
  · exact ⟨by decide, by decide⟩
  · split
    · exact ⟨by decide, by decide⟩
    · exact ⟨by simp; omega, by simp; omega⟩
theorem md_i64 (a b c how : Int) : isI64 (md a b c how) := by
  unfold md mdq
  split
  · exact ⟨by decide, by decide⟩
  · split <;> exact hold64_i64 _
theorem hold64_id (q : Int) (h : isI64 q) : hold64 q = (q, true) := by
  unfold isI64 at h; unfold hold64
  rw [if_neg (by omega), if_neg (by omega)]
theorem do_eq {a b c : Int} (how : Int) (ha : isI64 a) (hb : isI64 b) (hc : isI64 c) : muldiv_Do.f a b c how = some (md a b c how) := by
  unfold muldiv_Do.f muldiv_quotient_s.f
  rw [if_pos ⟨ha, hb, hc⟩]; rfl
theorem md_pos {a b c how : Int} (hc : 0 < c) (h1 : 1 ≤ how) (h3 : how ≤ 3) : md a b c how = (hold64 (rnd (a * b) c how)).1 := by
  unfold md mdq
  rw [if_neg (by omega), if_neg (by omega)]
theorem rnd_down (n d : Int) : rnd n d 1 = n / d := by unfold rnd; rw [if_pos rfl]
theorem rnd_up (n d : Int) : rnd n d 3 = -((-n) / d) := by unfold rnd; rw [if_neg (by decide), if_pos rfl]
theorem rnd_near (n d : Int) : rnd n d 2 = (2 * n + d) / (2 * d) := by unfold rnd; rw [if_neg (by decide), if_neg (by decide)]
theorem md_down {a b c : Int} (hc : 0 < c) (h : isI64 (a * b / c)) : md a b c 1 = a * b / c := by
  rw [md_pos hc (by decide) (by decide), rnd_down, hold64_id _ h]
theorem md_up {a b c : Int} (hc : 0 < c) (h : isI64 (-((-(a * b)) / c))) : md a b c 3 = -((-(a * b)) / c) := by
  rw [md_pos hc (by decide) (by decide), rnd_up, hold64_id _ h]
end Go.Proofs.YtphgeljglhjamaaDoor.P
end

section
namespace Go.Proofs.YtphgeljglhjamaaDoor.P
open Go.RowKit
set_option linter.unusedVariables false
set_option linter.unusedSimpArgs false
def hd (x : Int) : Int := (hold64 x).1
theorem hd_eq (x : Int) : hd x = if x < -9223372036854775808 then -9223372036854775808 else if x > 9223372036854775807 then 9223372036854775807 else x := by
  unfold hd hold64
  split
  · rfl
  · split <;> rfl
theorem hd_id {x : Int} (h : isI64 x) : hd x = x := by unfold hd; rw [hold64_id _ h]
theorem hd_i64 (x : Int) : isI64 (hd x) := hold64_i64 x
def ab (a : Int) : Int := if a < 0 then -a else a
end Go.Proofs.YtphgeljglhjamaaDoor.P
end

section
namespace Go.Proofs.YtphgeljglhjamaaDoor.P
open Go.RowKit
set_option linter.unusedVariables false
set_option linter.unusedSimpArgs false
end Go.Proofs.YtphgeljglhjamaaDoor.P
end

section
namespace Go.Proofs.YtphgeljglhjamaaDoor.P
open Go.RowKit Go.Proofs.YtphgeljglhjamaaDoorW.PrintWords Go.Proofs.YtphgeljglhjamaaDoorW.PrintLast Go.Proofs.YtphgeljglhjamaaDoorW.PrintMore
set_option linter.unusedVariables false
set_option linter.unusedSimpArgs false
theorem held_eq {hi lo v : Int} (h0 : 0 ≤ hi) (h1 : hi < 18446744073709551616) (l0 : 0 ≤ lo) (l1 : lo < 18446744073709551616)
    (hv : v = (if hi < 9223372036854775808 then hi else hi - 18446744073709551616) * 18446744073709551616 + lo) : sat_held.f hi lo = some (hd v) := by
  unfold sat_held.f
  rw [hd_eq, u64_mod]
  have w1 : wrap64 lo = if lo < 9223372036854775808 then lo else lo - 18446744073709551616 := by unfold wrap64; omega
  have w2 : wrap64 hi = if hi < 9223372036854775808 then hi else hi - 18446744073709551616 := by unfold wrap64; omega
  rw [w1, w2]
  generalize hl : (if lo < 9223372036854775808 then lo else lo - 18446744073709551616) = L
  generalize hh : (if hi < 9223372036854775808 then hi else hi - 18446744073709551616) = H at hv
  have L1 : L = lo ∧ lo < 9223372036854775808 ∨ L = lo - 18446744073709551616 ∧ 9223372036854775808 ≤ lo := by
    rw [← hl]; split <;> omega
  have H1 : H = hi ∧ hi < 9223372036854775808 ∨ H = hi - 18446744073709551616 ∧ 9223372036854775808 ≤ hi := by
    rw [← hh]; split <;> omega
  clear hl hh w1 w2
  by_cases c : L / 9223372036854775808 % 18446744073709551616 = hi
  · rw [if_pos c, if_neg (by omega), if_neg (by omega)]; congr 1; omega
  · rw [if_neg c]
    by_cases s : H < 0
    · rw [if_pos s, if_pos (by omega)]
    · rw [if_neg s, if_neg (by omega), if_pos (by omega)]
theorem and_none (y : Int) : Go.bits .and .u64 0 y = 0 := by
  unfold Go.bits
  rw [u64_mod]
  show ((0#64 &&& BitVec.ofInt 64 y).toNat : Int) % 18446744073709551616 = 0
  rw [BitVec.zero_and]; rfl
theorem and_every (y : Int) (h0 : 0 ≤ y) (h1 : y < 18446744073709551616) : Go.bits .and .u64 18446744073709551615 y = y := by
  unfold Go.bits
  rw [u64_mod]
  show ((BitVec.allOnes 64 &&& BitVec.ofInt 64 y).toNat : Int) % 18446744073709551616 = y
  rw [BitVec.allOnes_and, BitVec.toNat_ofInt]
  show ((y % 18446744073709551616).toNat : Int) % 18446744073709551616 = y
  omega
theorem sign_and {a y : Int} (ha : isI64 a) (h0 : 0 ≤ y) (h1 : y < 18446744073709551616) :
    Go.bits .and .u64 (IntKind.u64.wrap (a / 9223372036854775808)) y = if a < 0 then y else 0 := by
  unfold isI64 at ha
  rw [u64_mod]
  by_cases h : a < 0
  · rw [if_pos h, show a / 9223372036854775808 % 18446744073709551616 = 18446744073709551615 by omega, and_every y h0 h1]
  · rw [if_neg h, show a / 9223372036854775808 % 18446744073709551616 = 0 by omega, and_none]
theorem prod_span {a b : Int} (ha : isI64 a) (hb : isI64 b) : -85070591730234615865843651857942052864 ≤ a * b ∧ a * b ≤ 85070591730234615865843651857942052864 := by
  unfold isI64 at ha hb
  by_cases h1 : a < 0 <;> by_cases h2 : b < 0
  · have := abs_mul_le (a := -a) (b := -b) (by omega) (by omega) (by omega) (by omega)
    rw [Int.neg_mul_neg] at this
    have := Int.mul_nonneg_of_nonpos_of_nonpos (show a ≤ 0 by omega) (show b ≤ 0 by omega); omega
  · have := abs_mul_le (a := -a) (b := b) (by omega) (by omega) (by omega) (by omega)
    rw [Int.neg_mul] at this
    have := Int.mul_nonpos_of_nonpos_of_nonneg (show a ≤ 0 by omega) (show 0 ≤ b by omega); omega
  · have := abs_mul_le (a := a) (b := -b) (by omega) (by omega) (by omega) (by omega)
    rw [Int.mul_neg] at this
    have := Int.mul_nonpos_of_nonneg_of_nonpos (show 0 ≤ a by omega) (show b ≤ 0 by omega); omega
  · have := abs_mul_le (a := a) (b := b) (by omega) (by omega) (by omega) (by omega)
    have := Int.mul_nonneg (show 0 ≤ a by omega) (show 0 ≤ b by omega); omega
theorem mul_eq {a b : Int} (ha : isI64 a) (hb : isI64 b) : sat_Mul.f a b = some (hd (a * b)) := by
  have sp := prod_span ha hb
  have ha' := ha; have hb' := hb
  unfold isI64 at ha' hb'
  unfold sat_Mul.f
  have ua : IntKind.u64.wrap a = if a < 0 then a + 18446744073709551616 else a := by rw [u64_mod]; split <;> omega
  have ub : IntKind.u64.wrap b = if b < 0 then b + 18446744073709551616 else b := by rw [u64_mod]; split <;> omega
  have a0 : 0 ≤ IntKind.u64.wrap a ∧ IntKind.u64.wrap a < 18446744073709551616 := by rw [u64_mod]; omega
  have b0 : 0 ≤ IntKind.u64.wrap b ∧ IntKind.u64.wrap b < 18446744073709551616 := by rw [u64_mod]; omega
  rw [sign_and ha b0.1 b0.2, sign_and hb a0.1 a0.2, mul64_ok _ _ a0.1 a0.2 b0.1 b0.2]
  simp only [Option.bind_some]
  have key : ∀ N C q : Int, N = q + C * 18446744073709551616 ∨ N = q + C * 18446744073709551616 - 340282366920938463463374607431768211456 → -85070591730234615865843651857942052864 ≤ q → q ≤ 85070591730234615865843651857942052864 →
      sat_held.f (IntKind.u64.wrap (N / 18446744073709551616 - IntKind.u64.wrap C)) (N % 18446744073709551616) = some (hd q) := by
    intro N C q hN q0 q1
    rw [u64_mod, u64_mod]
    refine held_eq (by omega) (by omega) (by omega) (by omega) ?_
    split <;> omega
  have fin : ∀ x : Option Int, x = some (hd (a * b)) → (x.bind fun t => some t) = some (hd (a * b)) := by intro x h; rw [h]; rfl
  refine fin _ (key _ _ _ ?_ sp.1 sp.2)
  rw [ua, ub]
  by_cases h1 : a < 0 <;> by_cases h2 : b < 0
  · simp only [h1, h2, if_true]
    right
    rw [Int.add_mul, Int.mul_add, Int.mul_add]; omega
  · simp only [h1, h2, if_true, if_false]
    left
    rw [Int.add_mul]; omega
  · simp only [h1, h2, if_true, if_false]
    left
    rw [Int.mul_add]; omega
  · simp only [h1, h2, if_false]
    left; omega
theorem neg_eq {a : Int} (ha : isI64 a) : sat_Neg.f a = some (hd (-a)) := by
  unfold isI64 at ha
  unfold sat_Neg.f sat_negative.f
  have ua : IntKind.u64.wrap a = if a < 0 then a + 18446744073709551616 else a := by rw [u64_mod]; split <;> omega
  have us : IntKind.u64.wrap (a / 9223372036854775808) = if a < 0 then 18446744073709551615 else 0 := by rw [u64_mod]; split <;> omega
  have c0 : sub64c 0 (IntKind.u64.wrap a) 0 = if a = 0 then 0 else 1 := by
    rw [ua]; unfold sub64c; split <;> split <;> split <;> omega
  have s0 : sub64s 0 (IntKind.u64.wrap a) 0 = (-a) % 18446744073709551616 := by
    rw [ua]; unfold sub64s; split <;> omega
  rw [c0, s0, us]
  rw [if_pos (by split <;> omega)]
  simp only [Option.bind_some]
  have s1 : sub64s 0 (if a < 0 then 18446744073709551615 else 0) (if a = 0 then 0 else 1) = if 0 < a then 18446744073709551615 else 0 := by
    unfold sub64s; split <;> split <;> split <;> omega
  rw [s1, held_eq (v := -a) (by split <;> omega) (by split <;> omega) (by omega) (by omega) (by split <;> split <;> omega)]
  rfl
theorem abs_eq {a : Int} (ha : isI64 a) : sat_Abs.f a = some (hd (ab a)) := by
  unfold sat_Abs.f
  rw [neg_eq ha]
  have ha' := ha
  unfold isI64 at ha'
  simp only [Option.bind_some, Option.some.injEq, hd_eq]
  unfold mx ab
  repeat' split
  all_goals omega
theorem add64_two {hi lo a : Int} (h0 : 0 ≤ hi) (h1 : hi < 18446744073709551616) (l0 : 0 ≤ lo) (l1 : lo < 18446744073709551616) (ha : isI64 a) :
    add64c lo (IntKind.u64.wrap a) 0 ≤ 1 ∧ add64s lo (IntKind.u64.wrap a) 0 = (lo + a) % 18446744073709551616 ∧
    add64s hi (IntKind.u64.wrap (a / 9223372036854775808)) (add64c lo (IntKind.u64.wrap a) 0) = (hi + (lo + a) / 18446744073709551616) % 18446744073709551616 := by
  unfold isI64 at ha
  have ua : IntKind.u64.wrap a = if a < 0 then a + 18446744073709551616 else a := by rw [u64_mod]; split <;> omega
  have us : IntKind.u64.wrap (a / 9223372036854775808) = if a < 0 then 18446744073709551615 else 0 := by rw [u64_mod]; split <;> omega
  rw [ua, us]
  unfold add64c add64s
  refine ⟨?_, ?_, ?_⟩ <;> (by_cases h : a < 0 <;> simp only [h, if_true, if_false] <;> omega)
theorem add_eq {a b : Int} (k : Nat) (hk : 3 ≤ k) (ha : isI64 a) (hb : isI64 b) : sat_Add.f k a b = some (hd (a + b)) := by
  obtain ⟨k, rfl⟩ : ∃ j, k = j + 3 := ⟨k - 3, by omega⟩
  unfold sat_Add.f sat_plus.f
  have t1 := add64_two (hi := 0) (lo := 0) (by decide) (by decide) (by decide) (by decide) ha
  have ha' := ha; have hb' := hb
  unfold isI64 at ha' hb'
  have t2 := add64_two (hi := (0 + (0 + a) / 18446744073709551616) % 18446744073709551616) (lo := (0 + a) % 18446744073709551616) (by omega) (by omega) (by omega) (by omega) hb
  have r0 : rd [a, b] 0 = a := rfl
  have r1 : rd [a, b] 1 = b := rfl
  have w1 : wrap64 (0 + 1) = 1 := wrap64_id (isI64_mk (by decide) (by decide))
  have w2 : wrap64 (1 + 1) = 2 := wrap64_id (isI64_mk (by decide) (by decide))
  simp only [sat_plus.l0, List.length_cons, List.length_nil, r0, r1, w1, w2, t1.2.1, t1.2.2, t2.2.1, t2.2.2]
  rw [if_pos (by decide), if_pos (by decide), if_pos (by decide), if_pos t1.1, if_pos (by decide), if_pos (by decide), if_pos (by decide), if_pos t2.1, if_neg (by decide)]
  simp only [Option.bind_some]
  rw [held_eq (v := a + b) (by omega) (by omega) (by omega) (by omega) (by split <;> omega)]
  rfl
end Go.Proofs.YtphgeljglhjamaaDoor.P
end

section
namespace Go.Proofs.YtphgeljglhjamaaDoor.P
open Go.RowKit Go.Proofs.YtphgeljglhjamaaDoorW.PrintWords Go.Proofs.YtphgeljglhjamaaDoorW.PrintLast Go.Proofs.YtphgeljglhjamaaDoorW.PrintMore
set_option linter.unusedVariables false
set_option linter.unusedSimpArgs false
def sm : List Int → Int
  | [] => 0
  | x :: l => x + sm l
theorem sm_append (l m : List Int) : sm (l ++ m) = sm l + sm m := by
  induction l with
  | nil => simp [sm]
  | cons x l ih => simp only [List.cons_append, sm, ih]; omega
theorem drop_rd {l : List Int} {i : Nat} (h : i < l.length) : l.drop i = rd l (i : Int) :: l.drop (i + 1) := by
  rw [List.drop_eq_getElem_cons h]
  congr 1
  unfold rd
  simp [h]
theorem take_rd {l : List Int} {i : Nat} (h : i < l.length) : l.take (i + 1) = l.take i ++ [rd l (i : Int)] := by
  rw [List.take_succ_eq_append_getElem h]
  congr 2
  unfold rd
  simp [h]
theorem rd_mem {l : List Int} {i : Nat} (h : i < l.length) : rd l (i : Int) ∈ l := by
  unfold rd
  simp [h]
theorem wn64 (i : Nat) (h : i ≤ 4611686018427387904) : wrap64 ((i : Int) + 1) = ((i + 1 : Nat) : Int) := by rw [wrap64_id (isI64_mk (by omega) (by omega))]; omega
theorem sm_span {l : List Int} {B : Int} (h : ∀ x ∈ l, -B ≤ x ∧ x ≤ B) : -((l.length : Int) * B) ≤ sm l ∧ sm l ≤ (l.length : Int) * B := by
  induction l with
  | nil => simp [sm]
  | cons x l ih =>
    have := ih (fun y hy => h y (List.mem_cons_of_mem _ hy))
    have hx := h x List.mem_cons_self
    simp only [sm, List.length_cons]
    rw [show ((l.length + 1 : Nat) : Int) * B = (l.length : Int) * B + B by rw [Int.natCast_add]; rw [Int.add_mul]; simp]
    omega
theorem plus_eq {l : List Int} (hl : ∀ x ∈ l, isI64 x) (hn : l.length ≤ 1099511627776) : ∀ (m i k : Nat) (S : Int), i + m = l.length → m + 1 ≤ k →
    sat_plus.l0 k l (l.length : Int) i ((S / 18446744073709551616) % 18446744073709551616) (S % 18446744073709551616) =
      some (((S + sm (l.drop i)) / 18446744073709551616) % 18446744073709551616, (S + sm (l.drop i)) % 18446744073709551616) := by
  intro m
  induction m with
  | zero =>
    intro i k S hi hk
    obtain ⟨k, rfl⟩ : ∃ j, k = j + 1 := ⟨k - 1, by omega⟩
    simp only [sat_plus.l0]
    rw [if_neg (by omega), List.drop_eq_nil_of_le (by omega)]
    simp [sm]
  | succ m ih =>
    intro i k S hi hk
    obtain ⟨k, rfl⟩ : ∃ j, k = j + 1 := ⟨k - 1, by omega⟩
    have hil : i < l.length := by omega
    have t := add64_two (hi := (S / 18446744073709551616) % 18446744073709551616) (lo := S % 18446744073709551616) (by omega) (by omega) (by omega) (by omega) (hl _ (rd_mem hil))
    simp only [sat_plus.l0]
    rw [if_pos (by omega), if_pos (by omega), if_pos (by omega), if_pos t.1, t.2.1, t.2.2, wn64 i (by omega)]
    have e1 : (S % 18446744073709551616 + rd l (i : Int)) % 18446744073709551616 = (S + rd l (i : Int)) % 18446744073709551616 := by omega
    have e2 : (S / 18446744073709551616 % 18446744073709551616 + (S % 18446744073709551616 + rd l (i : Int)) / 18446744073709551616) % 18446744073709551616 = (S + rd l (i : Int)) / 18446744073709551616 % 18446744073709551616 := by omega
    rw [e1, e2, ih (i + 1) k (S + rd l (i : Int)) (by omega) (by omega), drop_rd hil]
    simp only [sm, Int.add_assoc]
theorem held128 {v : Int} (h0 : -170141183460469231731687303715884105728 ≤ v) (h1 : v < 170141183460469231731687303715884105728) :
    sat_held.f ((v / 18446744073709551616) % 18446744073709551616) (v % 18446744073709551616) = some (hd v) :=
  held_eq (by omega) (by omega) (by omega) (by omega) (by split <;> omega)
theorem i64_span {l : List Int} (hl : ∀ x ∈ l, isI64 x) (hn : l.length ≤ 1000000) : -9223372036854775808000000 ≤ sm l ∧ sm l ≤ 9223372036854775808000000 := by
  have h := sm_span (B := 9223372036854775808) (fun x hx => ⟨(hl x hx).1, by have := (hl x hx).2; omega⟩)
  omega
theorem sum_eq {l : List Int} (k : Nat) (hl : ∀ x ∈ l, isI64 x) (hn : l.length ≤ 1000000) (hk : l.length + 1 ≤ k) : sat_Sum.f k l = some (hd (sm l)) := by
  unfold sat_Sum.f sat_plus.f
  have h := plus_eq hl (by omega) l.length 0 k 0 (by omega) hk
  rw [show ((0 : Int) / 18446744073709551616) % 18446744073709551616 = 0 from rfl, show (0 : Int) % 18446744073709551616 = 0 from rfl] at h
  have s := i64_span hl hn
  rw [show ((0 : Nat) : Int) = 0 from rfl] at h
  rw [h]
  simp only [Option.bind_some, List.drop_zero, Int.zero_add]
  rw [held128 (by omega) (by omega)]
  rfl
theorem negative_eq {a : Int} (ha : isI64 a) : sat_negative.f a = some (((-a) / 18446744073709551616) % 18446744073709551616, (-a) % 18446744073709551616) := by
  unfold isI64 at ha
  unfold sat_negative.f
  have ua : IntKind.u64.wrap a = if a < 0 then a + 18446744073709551616 else a := by rw [u64_mod]; split <;> omega
  have us : IntKind.u64.wrap (a / 9223372036854775808) = if a < 0 then 18446744073709551615 else 0 := by rw [u64_mod]; split <;> omega
  have c0 : sub64c 0 (IntKind.u64.wrap a) 0 = if a = 0 then 0 else 1 := by
    rw [ua]; unfold sub64c; split <;> split <;> split <;> omega
  have s0 : sub64s 0 (IntKind.u64.wrap a) 0 = (-a) % 18446744073709551616 := by
    rw [ua]; unfold sub64s; split <;> omega
  rw [c0, s0, us]
  rw [if_pos (by split <;> omega)]
  have s1 : sub64s 0 (if a < 0 then 18446744073709551615 else 0) (if a = 0 then 0 else 1) = ((-a) / 18446744073709551616) % 18446744073709551616 := by
    unfold sub64s; split <;> split <;> omega
  rw [s1]
theorem sub_eq {a b : Int} (k : Nat) (hk : 2 ≤ k) (ha : isI64 a) (hb : isI64 b) : sat_Sub.f k a b = some (hd (a - b)) := by
  unfold sat_Sub.f
  rw [negative_eq hb]
  simp only [Option.bind_some]
  unfold sat_plus.f
  have h := plus_eq (l := [a]) (fun x hx => by rw [List.mem_singleton.1 hx]; exact ha) (by simp) 1 0 k (-b) (by simp) hk
  rw [show ((0 : Nat) : Int) = 0 from rfl] at h
  rw [h]
  simp only [Option.bind_some, List.drop_zero, sm, Int.add_zero]
  unfold isI64 at ha hb
  rw [held128 (by omega) (by omega), show -b + a = a - b by omega]
  rfl
end Go.Proofs.YtphgeljglhjamaaDoor.P
end

section
namespace Go.Proofs.YtphgeljglhjamaaDoor.P
open Go.RowKit Go.Proofs.YtphgeljglhjamaaDoorW.PrintWords Go.Proofs.YtphgeljglhjamaaDoorW.PrintLast Go.Proofs.YtphgeljglhjamaaDoorW.PrintMore
open Go.Proofs.YtphgeljglhjamaaDoor.FInt
set_option linter.unusedVariables false
set_option linter.unusedSimpArgs false
theorem csum_some {a b c d r s : Nat} (h1 : Ieee.double.add a c = some r) (h2 : Ieee.double.add b d = some s) : cSumBits .add .f64 a b c d = some (r, s) := by
  unfold cSumBits
  rw [show floatBits .add .f64 a c = Ieee.double.add a c from rfl, show floatBits .add .f64 b d = Ieee.double.add b d from rfl, h1, h2]
  rfl
theorem stands_zero : Stands 0 0 := by
  have h := stands_of (n := 0) (by decide)
  rwa [show floatOfInt .f64 0 = 0 by kernel_rfl] at h
def SI (z : Nat × Nat) (b : Bool) (xs ys : List Int) (i : Nat) : Prop := Tame z.1 ∧ Tame z.2 ∧ (b = true → (Stands z.1 (sm (xs.take i)) ∧ Stands z.2 (sm (ys.take i))) ∧ (-((i : Int) * 1099511627776) ≤ sm (xs.take i) ∧ sm (xs.take i) ≤ (i : Int) * 1099511627776) ∧ (-((i : Int) * 1099511627776) ≤ sm (ys.take i) ∧ sm (ys.take i) ≤ (i : Int) * 1099511627776))
theorem fin64 {x : Int} (h : isI64 x) : Finite (floatOfInt .f64 x) := finite_of (by unfold isI64 at h; omega)
theorem sums_loop {xs ys : List Int} (hx : ∀ x ∈ xs, isI64 x) (hy : ∀ y ∈ ys, isI64 y) (hlen : xs.length = ys.length) (hn : xs.length ≤ 64) : ∀ (m i k : Nat) (z : Nat × Nat) (b : Bool), i + m = xs.length → m + 70 ≤ k → SI z b xs ys i →
    trend_sums.l0 k xs ys z b (xs.length : Int) i = some (hd (sm xs), hd (sm ys)) := by
  intro m
  induction m with
  | zero =>
    intro i k z b hi hk h
    obtain ⟨k, rfl⟩ : ∃ j, k = j + 1 := ⟨k - 1, by omega⟩
    simp only [trend_sums.l0]
    rw [if_neg (by omega)]
    obtain ⟨t1, t2, h⟩ := h
    cases b with
    | true =>
      obtain ⟨⟨s1, s2⟩, ⟨a1, a2⟩, b1, b2⟩ := h rfl
      rw [List.take_of_length_le (by omega)] at s1 s2 a1 a2 b1 b2
      have e1 := stands_int s1 (by omega) (by omega)
      have e2 := stands_int s2 (by omega) (by omega)
      rw [if_pos rfl, e1, e2, hd_id (isI64_mk (by omega) (by omega)), hd_id (isI64_mk (by omega) (by omega))]
      rfl
    | false =>
      rw [if_neg (by simp), sum_eq k hx (by omega) (by omega), sum_eq k hy (by omega) (by omega)]
      rfl
  | succ m ih =>
    intro i k z b hi hk h
    obtain ⟨k, rfl⟩ : ∃ j, k = j + 1 := ⟨k - 1, by omega⟩
    have hil : i < xs.length := by omega
    have hil2 : i < ys.length := by omega
    have ix := hx _ (rd_mem hil)
    have iy := hy _ (rd_mem hil2)
    obtain ⟨t1, t2, h⟩ := h
    obtain ⟨r1, e1, q1⟩ := add_tame t1 (fin64 ix)
    obtain ⟨r2, e2, q2⟩ := add_tame t2 (fin64 iy)
    have ec := csum_some e1 e2
    simp only [trend_sums.l0]
    rw [if_pos (by omega), if_pos (by omega), if_pos (by omega), if_pos (by omega), ec, wn64 i (by omega)]
    simp only [Option.isSome_some, if_true, Option.getD_some]
    rw [abs_eq ix, abs_eq iy]
    simp only [Option.bind_some]
    cases b with
    | false =>
      rw [if_neg (by simp)]
      exact ih (i + 1) k _ _ (by omega) (by omega) ⟨q1, q2, fun h => by simp at h⟩
    | true =>
      obtain ⟨⟨s1, s2⟩, ⟨a1, a2⟩, b1, b2⟩ := h rfl
      rw [if_pos rfl]
      by_cases c1 : hd (ab (rd xs (i : Int))) < 1099511627776
      · rw [if_pos c1]
        refine ih (i + 1) k _ _ (by omega) (by omega) ⟨q1, q2, fun h => ?_⟩
        have c2 := of_decide_eq_true h
        rw [hd_eq] at c1 c2
        unfold ab at c1 c2
        unfold isI64 at ix iy
        have x1 : -1099511627776 ≤ rd xs (i : Int) ∧ rd xs (i : Int) ≤ 1099511627776 := by
          revert c1; repeat' split
          all_goals (intro c1; omega)
        have y1 : -1099511627776 ≤ rd ys (i : Int) ∧ rd ys (i : Int) ≤ 1099511627776 := by
          revert c2; repeat' split
          all_goals (intro c2; omega)
        have i64 : i ≤ 64 := by omega
        rw [take_rd hil, take_rd hil2, sm_append, sm_append]
        simp only [sm, Int.add_zero]
        obtain ⟨r1', e1', s1'⟩ := stands_add s1 (stands_of (n := rd xs (i : Int)) (by omega)) (by omega)
        obtain ⟨r2', e2', s2'⟩ := stands_add s2 (stands_of (n := rd ys (i : Int)) (by omega)) (by omega)
        rw [e1] at e1'
        rw [e2] at e2'
        obtain rfl := Option.some.inj e1'
        obtain rfl := Option.some.inj e2'
        rw [show ((i + 1 : Nat) : Int) * 1099511627776 = (i : Int) * 1099511627776 + 1099511627776 by omega]
        exact ⟨⟨s1', s2'⟩, ⟨by omega, by omega⟩, by omega, by omega⟩
      · rw [if_neg c1]
        exact ih (i + 1) k _ _ (by omega) (by omega) ⟨q1, q2, fun h => by simp at h⟩
theorem sums_eq {xs ys : List Int} (k : Nat) (hx : ∀ x ∈ xs, isI64 x) (hy : ∀ y ∈ ys, isI64 y) (hlen : xs.length = ys.length) (hn : xs.length ≤ 64) (hk : 140 ≤ k) : trend_sums.f k xs ys = some (hd (sm xs), hd (sm ys)) := by
  unfold trend_sums.f
  refine sums_loop hx hy hlen hn xs.length 0 k (0, 0) true (by omega) (by omega) ⟨.inl (stands_finite stands_zero), .inl (stands_finite stands_zero), fun _ => ⟨⟨stands_zero, stands_zero⟩, ?_, ?_⟩⟩ <;> simp [sm]
end Go.Proofs.YtphgeljglhjamaaDoor.P
end

section
namespace Go.Proofs.YtphgeljglhjamaaDoor.P
open Go.RowKit
end Go.Proofs.YtphgeljglhjamaaDoor.P
end

section
namespace Go.Proofs.YtphgeljglhjamaaDoor.P
open Go.RowKit Go.Proofs.YtphgeljglhjamaaDoorW.PrintWords Go.Proofs.YtphgeljglhjamaaDoorW.PrintLast Go.Proofs.YtphgeljglhjamaaDoorW.PrintMore
set_option linter.unusedVariables false
set_option linter.unusedSimpArgs false
def dl (l : List Int) (b : Int) : List Int := l.map (fun v => hd (v - b))
def ofl (n : Int) (l : List Int) (s : Int) : List Int := l.map (fun d => hd (hd (n * d) - s))
def prods (u v : List Int) : List Int := List.zipWith (fun a b => hd (a * b)) u v
def slope (n : Int) (dx dy : List Int) : Int :=
  md (hd (sm (prods (ofl n dx (hd (sm dx))) (ofl n dy (hd (sm dy)))))) 4294967296 (hd (sm (prods (ofl n dx (hd (sm dx))) (ofl n dx (hd (sm dx)))))) 2
def LN (xs ys : List Int) : Int := if min (min xs.length ys.length) 64 < 2 then 0 else
  slope (min (min xs.length ys.length) 64 : Nat) (dl (xs.take (min (min xs.length ys.length) 64)) (rd xs 0)) (dl (ys.take (min (min xs.length ys.length) 64)) (rd ys 0))
theorem dl_len (l : List Int) (b : Int) : (dl l b).length = l.length := List.length_map _
theorem ofl_len (n : Int) (l : List Int) (s : Int) : (ofl n l s).length = l.length := List.length_map _
theorem dl_i64 (l : List Int) (b : Int) : ∀ x ∈ dl l b, isI64 x := fun x hx => by
  obtain ⟨v, _, rfl⟩ := List.mem_map.1 hx
  exact hd_i64 _
theorem ofl_i64 (n : Int) (l : List Int) (s : Int) : ∀ x ∈ ofl n l s, isI64 x := fun x hx => by
  obtain ⟨v, _, rfl⟩ := List.mem_map.1 hx
  exact hd_i64 _
theorem mn_len (a b : Nat) : mn (mn (a : Int) (b : Int)) 64 = ((min (min a b) 64 : Nat) : Int) := by
  unfold mn; split <;> split <;> omega
theorem less_loop {l : List Int} {b : Int} (hb : isI64 b) (hl : ∀ x ∈ l, isI64 x) (hn : l.length ≤ 64) : ∀ (m i k : Nat) (acc : List Int), i + m = l.length → m + 5 ≤ k → acc.length ≤ i →
    trend_less.l0 k b acc l (l.length : Int) i = some (acc ++ dl (l.drop i) b) := by
  intro m
  induction m with
  | zero =>
    intro i k acc hi hk ha
    obtain ⟨k, rfl⟩ : ∃ j, k = j + 1 := ⟨k - 1, by omega⟩
    simp only [trend_less.l0]
    rw [if_neg (by omega), List.drop_eq_nil_of_le (by omega)]
    simp [dl]
  | succ m ih =>
    intro i k acc hi hk ha
    obtain ⟨k, rfl⟩ : ∃ j, k = j + 1 := ⟨k - 1, by omega⟩
    have hil : i < l.length := by omega
    simp only [trend_less.l0]
    rw [if_pos (by omega), if_pos (by omega), if_pos (by omega), sub_eq k (by omega) (hl _ (rd_mem hil)) hb]
    simp only [Option.bind_some]
    rw [if_pos (by omega), wn64 i (by omega), ih (i + 1) k _ (by omega) (by omega) (by rw [List.length_append]; simp; omega), drop_rd hil]
    simp [dl, List.append_assoc]
theorem less_eq {l : List Int} {b : Int} (k : Nat) (hb : isI64 b) (hl : ∀ x ∈ l, isI64 x) (hn : l.length ≤ 64) (hk : 70 ≤ k) : trend_less.f k l b = some (dl l b) := by
  unfold trend_less.f
  have h := less_loop hb hl hn l.length 0 k [] (by omega) (by omega) (by simp)
  rw [show ((0 : Nat) : Int) = 0 from rfl] at h
  rw [h]; simp
theorem off_loop {l : List Int} {s : Int} (hs : isI64 s) (hl : ∀ x ∈ l, isI64 x) (hn : l.length ≤ 64) : ∀ (m i k : Nat) (acc : List Int), i + m = l.length → m + 5 ≤ k → acc.length ≤ i →
    trend_off.l0 k l s acc l (l.length : Int) i = some (acc ++ ofl l.length (l.drop i) s) := by
  intro m
  induction m with
  | zero =>
    intro i k acc hi hk ha
    obtain ⟨k, rfl⟩ : ∃ j, k = j + 1 := ⟨k - 1, by omega⟩
    simp only [trend_off.l0]
    rw [if_neg (by omega), List.drop_eq_nil_of_le (by omega)]
    simp [ofl]
  | succ m ih =>
    intro i k acc hi hk ha
    obtain ⟨k, rfl⟩ : ∃ j, k = j + 1 := ⟨k - 1, by omega⟩
    have hil : i < l.length := by omega
    simp only [trend_off.l0]
    rw [if_pos (by omega), if_pos (by omega), if_pos (by omega), mul_eq (isI64_mk (by omega) (by omega)) (hl _ (rd_mem hil))]
    simp only [Option.bind_some]
    rw [sub_eq k (by omega) (hd_i64 _) hs]
    simp only [Option.bind_some]
    rw [if_pos (by omega), wn64 i (by omega), ih (i + 1) k _ (by omega) (by omega) (by rw [List.length_append]; simp; omega), drop_rd hil]
    simp [ofl, List.append_assoc]
theorem off_eq {l : List Int} {s : Int} (k : Nat) (hs : isI64 s) (hl : ∀ x ∈ l, isI64 x) (hn : l.length ≤ 64) (hk : 70 ≤ k) : trend_off.f k l s = some (ofl l.length l s) := by
  unfold trend_off.f
  have h := off_loop hs hl hn l.length 0 k [] (by omega) (by omega) (by simp)
  rw [show ((0 : Nat) : Int) = 0 from rfl] at h
  rw [h]; simp
theorem line_loop {u v : List Int} (hu : ∀ x ∈ u, isI64 x) (hv : ∀ x ∈ v, isI64 x) (hlen : u.length = v.length) (hn : u.length ≤ 64) : ∀ (m i k : Nat) (p q : List Int), i + m = u.length → m + 70 ≤ k → p.length = i → q.length = i →
    (∀ x ∈ p, isI64 x) → (∀ x ∈ q, isI64 x) →
    trend_Line.l0 k u v p q (u.length : Int) i = some (md (hd (sm (p ++ prods (u.drop i) (v.drop i)))) 4294967296 (hd (sm (q ++ prods (u.drop i) (u.drop i)))) 2) := by
  intro m
  induction m with
  | zero =>
    intro i k p q hi hk hp hq ip iq
    obtain ⟨k, rfl⟩ : ∃ j, k = j + 1 := ⟨k - 1, by omega⟩
    simp only [trend_Line.l0]
    rw [if_neg (by omega), List.drop_eq_nil_of_le (by omega), sum_eq k ip (by omega) (by omega), sum_eq k iq (by omega) (by omega)]
    simp only [Option.bind_some, prods, List.zipWith_nil_left, List.append_nil]
    unfold fixed_Div.f
    rw [do_eq 2 (hd_i64 _) (isI64_mk (by decide) (by decide)) (hd_i64 _)]
    rfl
  | succ m ih =>
    intro i k p q hi hk hp hq ip iq
    obtain ⟨k, rfl⟩ : ∃ j, k = j + 1 := ⟨k - 1, by omega⟩
    have h1 : i < u.length := by omega
    have h2 : i < v.length := by omega
    have x1 := hu _ (rd_mem h1)
    have x2 := hv _ (rd_mem h2)
    simp only [trend_Line.l0]
    rw [if_pos (by omega), if_pos (by omega), if_pos (by omega), if_pos (by omega), mul_eq x1 x2, mul_eq x1 x1]
    simp only [Option.bind_some]
    rw [if_pos (by omega), if_pos (by omega), wn64 i (by omega), ih (i + 1) k _ _ (by omega) (by omega) (by rw [List.length_append]; simp; omega) (by rw [List.length_append]; simp; omega)
      (fun x hx => by rcases List.mem_append.1 hx with h | h; exact ip x h; rw [List.mem_singleton.1 h]; exact hd_i64 _) (fun x hx => by rcases List.mem_append.1 hx with h | h; exact iq x h; rw [List.mem_singleton.1 h]; exact hd_i64 _)]
    rw [drop_rd h1, drop_rd h2]
    simp [prods, List.append_assoc]
theorem line_eq {xs ys : List Int} (k : Nat) (hx : ∀ x ∈ xs, isI64 x) (hy : ∀ y ∈ ys, isI64 y) (hk : 200 ≤ k) : trend_Line.f k xs ys = some (LN xs ys) := by
  unfold trend_Line.f LN
  rw [mn_len]
  generalize hm : min (min xs.length ys.length) 64 = n
  by_cases h : n < 2
  · rw [if_pos (by omega), if_pos h]
  rw [if_neg (by omega), if_neg h, if_pos (by omega), if_pos (by omega), if_pos (by omega), Int.toNat_natCast]
  have l1 : (xs.take n).length = n := by rw [List.length_take]; omega
  have l2 : (ys.take n).length = n := by rw [List.length_take]; omega
  have t1 : ∀ x ∈ xs.take n, isI64 x := fun x h => hx x (List.mem_of_mem_take h)
  have t2 : ∀ x ∈ ys.take n, isI64 x := fun x h => hy x (List.mem_of_mem_take h)
  have r1 : isI64 (rd xs 0) := hx _ (rd_mem (i := 0) (by omega))
  have r2 : isI64 (rd ys 0) := hy _ (rd_mem (i := 0) (by omega))
  rw [less_eq k r1 t1 (by omega) (by omega)]
  simp only [Option.bind_some]
  rw [if_pos (by omega), if_pos (by omega), less_eq k r2 t2 (by omega) (by omega)]
  simp only [Option.bind_some]
  have d1 : (dl (xs.take n) (rd xs 0)).length = n := by rw [dl_len, l1]
  have d2 : (dl (ys.take n) (rd ys 0)).length = n := by rw [dl_len, l2]
  rw [sums_eq k (dl_i64 _ _) (dl_i64 _ _) (by omega) (by omega) (by omega)]
  simp only [Option.bind_some]
  rw [off_eq k (hd_i64 _) (dl_i64 _ _) (by omega) (by omega), off_eq k (hd_i64 _) (dl_i64 _ _) (by omega) (by omega)]
  simp only [Option.bind_some]
  have h := line_loop (ofl_i64 (dl (xs.take n) (rd xs 0)).length (dl (xs.take n) (rd xs 0)) (hd (sm (dl (xs.take n) (rd xs 0))))) (ofl_i64 (dl (ys.take n) (rd ys 0)).length (dl (ys.take n) (rd ys 0)) (hd (sm (dl (ys.take n) (rd ys 0))))) (by rw [ofl_len, ofl_len]; omega) (by rw [ofl_len]; omega) n 0 k [] [] (by rw [ofl_len]; omega) (by omega) rfl rfl (by simp) (by simp)
  rw [show ((0 : Nat) : Int) = 0 from rfl] at h
  rw [h, d1, d2]
  simp only [List.drop_zero, List.nil_append, slope]
theorem LN_i64 (xs ys : List Int) : isI64 (LN xs ys) := by
  unfold LN
  split
  · exact isI64_mk (by decide) (by decide)
  · exact md_i64 _ _ _ _
end Go.Proofs.YtphgeljglhjamaaDoor.P
end

section
namespace Go.Proofs.YtphgeljglhjamaaDoor.P
open Go.RowKit Go.Proofs.YtphgeljglhjamaaDoorW.PrintWords Go.Proofs.YtphgeljglhjamaaDoorW.PrintLast Go.Proofs.YtphgeljglhjamaaDoorW.PrintMore
set_option linter.unusedVariables false
set_option linter.unusedSimpArgs false
end Go.Proofs.YtphgeljglhjamaaDoor.P
end

section
namespace Go.Proofs.YtphgeljglhjamaaDoor.P
open Go.RowKit Go.Proofs.YtphgeljglhjamaaDoorW.PrintWords Go.Proofs.YtphgeljglhjamaaDoorW.PrintLast Go.Proofs.YtphgeljglhjamaaDoorW.PrintMore
set_option linter.unusedVariables false
set_option linter.unusedSimpArgs false
def mixv (a b s : Int) : Int := hd (a + md (hd (b - a)) s 4294967296 2)
theorem mix_eq {a b s : Int} (k : Nat) (hk : 3 ≤ k) (ha : isI64 a) (hb : isI64 b) (hs : isI64 s) : fixed_Mix.f k a b s = some (mixv a b s) := by
  unfold fixed_Mix.f fixed_Mul.f
  rw [sub_eq k (by omega) hb ha]
  simp only [Option.bind_some]
  rw [do_eq 2 (hd_i64 _) hs (isI64_mk (by decide) (by decide))]
  simp only [Option.bind_some]
  rw [add_eq k hk ha (md_i64 _ _ _ _)]
  rfl
def TN (w s sum y x : Int) (xs ys : List Int) (c : Int) : Prop :=
  2 ≤ w ∧ w ≤ 64 ∧ isI64 s ∧ isI64 sum ∧ isI64 y ∧ isI64 x ∧ xs.length = ys.length ∧ (xs.length : Int) ≤ w ∧ (∀ v ∈ xs, isI64 v) ∧ (∀ v ∈ ys, isI64 v)
def slv (w : Int) (xs ys : List Int) : Int := if (xs.length : Int) < w then 0 else LN xs ys
theorem tslope_eq {w s sum y x c : Int} {xs ys : List Int} (k : Nat) (hk : 200 ≤ k) (h : TN w s sum y x xs ys c) : trend_Trend_Slope.f k w s sum y x xs ys c = some (slv w xs ys, w, s, sum, y, x, xs, ys, c) := by
  obtain ⟨_, _, _, _, _, _, _, _, h1, h2⟩ := h
  unfold trend_Trend_Slope.f slv
  split
  · rfl
  · rw [line_eq k h1 h2 hk]; rfl
def cT (a : Int) : Int := if a < -1125899906842624 then -1125899906842624 else if a > 1125899906842624 then 1125899906842624 else a
theorem cT_span (a : Int) : -1125899906842624 ≤ cT a ∧ cT a ≤ 1125899906842624 := by unfold cT; repeat' split <;> omega
def tS (sum a b : Int) : Int := hd (sum + (cT b - cT a))
def tY (sum y s a b : Int) : Int := mixv (tS sum a b) y s
def tX (x a : Int) : Int := hd (x + cT a)
def tcut (w : Int) (l : List Int) : List Int := if 0 < (l.length : Int) - w then l.drop 1 else l
theorem tadd_eq {w s sum y x c a b : Int} {xs ys : List Int} (k : Nat) (hk : 300 ≤ k) (h : TN w s sum y x xs ys c) :
    trend_Trend_Add.f k w s sum y x xs ys c a b = some (slv w (tcut w (xs ++ [tX x a])) (tcut w (ys ++ [tY sum y s a b])), w, s, tS sum a b, tY sum y s a b, tX x a, tcut w (xs ++ [tX x a]), tcut w (ys ++ [tY sum y s a b]), mn (wrap64 (c + 1)) 1000) ∧
    TN w s (tS sum a b) (tY sum y s a b) (tX x a) (tcut w (xs ++ [tX x a])) (tcut w (ys ++ [tY sum y s a b])) (mn (wrap64 (c + 1)) 1000) := by
  obtain ⟨w2, w64, hs, hsum, hy, hx, hlen, hw, ix, iy⟩ := h
  unfold trend_Trend_Add.f
  rw [clamp_eq, clamp_eq]
  obtain ⟨t10, t11⟩ := cT_span a
  obtain ⟨t20, t21⟩ := cT_span b
  rw [show (if a < -1125899906842624 then -1125899906842624 else if a > 1125899906842624 then 1125899906842624 else a) = cT a from rfl, show (if b < -1125899906842624 then -1125899906842624 else if b > 1125899906842624 then 1125899906842624 else b) = cT b from rfl]
  simp only [Option.bind_some]
  rw [wrap64_id (a := cT b - cT a) (isI64_mk (by omega) (by omega)), add_eq k (by omega) hsum (isI64_mk (by omega) (by omega))]
  simp only [Option.bind_some]
  rw [mix_eq k (by omega) (hd_i64 _) hy hs]
  simp only [Option.bind_some]
  rw [add_eq k (by omega) hx (isI64_mk (by omega) (by omega))]
  simp only [Option.bind_some]
  have hc : xs.length = ys.length ∧ xs.length < 17592186044416 := ⟨hlen, by omega⟩
  rw [if_pos hc]
  rw [show hd (sum + (cT b - cT a)) = tS sum a b from rfl, show mixv (tS sum a b) y s = tY sum y s a b from rfl, show hd (x + cT a) = tX x a from rfl]
  have iS : isI64 (tS sum a b) := hd_i64 _
  have iY : isI64 (tY sum y s a b) := hd_i64 _
  have iX : isI64 (tX x a) := hd_i64 _
  generalize tS sum a b = S at iS ⊢
  generalize tY sum y s a b = Y at iY ⊢
  generalize tX x a = X at iX ⊢
  have ia : ∀ v ∈ xs ++ [X], isI64 v := fun v hv => by
    rcases List.mem_append.1 hv with h | h
    · exact ix v h
    · rw [List.mem_singleton.1 h]; exact iX
  have ib : ∀ v ∈ ys ++ [Y], isI64 v := fun v hv => by
    rcases List.mem_append.1 hv with h | h
    · exact iy v h
    · rw [List.mem_singleton.1 h]; exact iY
  have en : wrap64 (((xs ++ [X]).length : Int) - w) = (xs.length : Int) + 1 - w := by
    rw [List.length_append, List.length_singleton, wrap64_id (isI64_mk (by omega) (by omega))]; omega
  have el : ((xs ++ [X]).length : Int) = (xs.length : Int) + 1 := by rw [List.length_append, List.length_singleton]; omega
  have el2 : ((ys ++ [Y]).length : Int) = (xs.length : Int) + 1 := by rw [List.length_append, List.length_singleton]; omega
  rw [en, el]
  unfold tcut
  rw [el, el2]
  by_cases c1 : 0 < (xs.length : Int) + 1 - w
  · have q : TN w s S Y X ((xs ++ [X]).drop 1) ((ys ++ [Y]).drop 1) (mn (wrap64 (c + 1)) 1000) := by
      refine ⟨w2, w64, hs, iS, iY, iX, ?_, ?_, fun v hv => ia v (List.mem_of_mem_drop hv), fun v hv => ib v (List.mem_of_mem_drop hv)⟩
      · simp only [List.length_drop, List.length_append, List.length_singleton]; omega
      · simp only [List.length_drop, List.length_append, List.length_singleton]; omega
    rw [if_pos c1, if_pos (by omega), if_pos c1, if_pos c1, show ((xs.length : Int) + 1 - w).toNat = 1 by omega, tslope_eq k (by omega) q]
    exact ⟨rfl, q⟩
  · have q : TN w s S Y X (xs ++ [X]) (ys ++ [Y]) (mn (wrap64 (c + 1)) 1000) := by
      refine ⟨w2, w64, hs, iS, iY, iX, ?_, ?_, ia, ib⟩
      · simp only [List.length_append, List.length_singleton]; omega
      · simp only [List.length_append, List.length_singleton]; omega
    rw [if_neg c1, if_neg c1, if_neg c1, tslope_eq k (by omega) q]
    exact ⟨rfl, q⟩
theorem slv_i64 (w : Int) (xs ys : List Int) : isI64 (slv w xs ys) := by
  unfold slv; split
  · exact isI64_mk (by decide) (by decide)
  · exact LN_i64 xs ys
end Go.Proofs.YtphgeljglhjamaaDoor.P
end

section
namespace Go.Proofs.YtphgeljglhjamaaDoor.P
open Go.RowKit
set_option linter.unusedVariables false
set_option linter.unusedSimpArgs false
end Go.Proofs.YtphgeljglhjamaaDoor.P
end

section
namespace Go.Proofs.YtphgeljglhjamaaDoor.P
open Go.RowKit Go.Proofs.YtphgeljglhjamaaDoorW.PrintWords Go.Proofs.YtphgeljglhjamaaDoorW.PrintLast Go.Proofs.YtphgeljglhjamaaDoorW.PrintMore
set_option linter.unusedVariables false
set_option linter.unusedSimpArgs false
def cl (x lo hi : Int) : Int := if x < lo then lo else if x > hi then hi else x
def nn (n : Int) : Int := mn (mx n 0) 60
def dS (slope n : Int) : Int := hd (4 * nn n * slope)
def dT (t : Int) : Int := cl t 0 1000000
def dThr (thr s m : Int) : Int :=
  if hd (ab s) > thr + 64424509440 then thr
  else cl (thr + (hd (ab s) - thr) * ((if hd (ab s) < thr then 168 else 43) * m) / 4294967296) 25769803776 2576980377600
def dU (u thr us ti sg s t : Int) : Int × Int × Int :=
  if s > thr then (if (if us > 0 then us + t else mx (t / 2) 1) > 10000 ∧ ti + 1 > 1 ∧ s ≥ sg then (1, 0, 0) else (u, if us > 0 then us + t else mx (t / 2) 1, ti + 1))
  else if s < -thr then (2, 0, 0) else (0, 0, 0)
def TR (thr : Int) : Prop := 25769803776 ≤ thr ∧ thr ≤ 2576980377600
theorem nn_span (n : Int) : 0 ≤ nn n ∧ nn n ≤ 60 := by unfold nn mn mx; repeat' split <;> omega
theorem dT_span (t : Int) : 0 ≤ dT t ∧ dT t ≤ 1000000 := by unfold dT cl; repeat' split <;> omega
theorem ab_span {s : Int} (h : isI64 s) : 0 ≤ hd (ab s) ∧ hd (ab s) ≤ 9223372036854775807 := by
  unfold isI64 at h; rw [hd_eq]; unfold ab; repeat' split <;> omega
theorem cl_span (x lo hi : Int) (h : lo ≤ hi) : lo ≤ cl x lo hi ∧ cl x lo hi ≤ hi := by unfold cl; repeat' split <;> omega
theorem dThr_TR {thr s m : Int} (h : TR thr) : TR (dThr thr s m) := by
  unfold dThr
  split
  · exact h
  · exact cl_span _ _ _ (by decide)
theorem fof (n v : Int) (h : isI64 n) (hv : hd (n * 4294967296) = v) : fixed_Of.f n = some v := by
  unfold fixed_Of.f; rw [mul_eq h (isI64_mk (by decide) (by decide)), hv]; rfl
theorem fof6 : fixed_Of.f 6 = some 25769803776 := fof _ _ (isI64_mk (by decide) (by decide)) (by rw [hd_eq]; decide)
theorem fof15 : fixed_Of.f 15 = some 64424509440 := fof _ _ (isI64_mk (by decide) (by decide)) (by rw [hd_eq]; decide)
theorem fof25 : fixed_Of.f 25 = some 107374182400 := fof _ _ (isI64_mk (by decide) (by decide)) (by rw [hd_eq]; decide)
theorem fof600 : fixed_Of.f 600 = some 2576980377600 := fof _ _ (isI64_mk (by decide) (by decide)) (by rw [hd_eq]; decide)
theorem by_span {thr a m q : Int} (h : TR thr) (h0 : 0 ≤ a) (h1 : a ≤ thr + 64424509440) (m0 : 0 ≤ m) (m1 : m ≤ 100000) (hq : q = 168 ∨ q = 43) :
    isI64 (a - thr) ∧ isI64 (q * m) ∧ -4611686018427387904 ≤ (a - thr) * (q * m) / 4294967296 ∧ (a - thr) * (q * m) / 4294967296 ≤ 4611686018427387904 := by
  unfold TR at h
  have b0 : 0 ≤ q * m ∧ q * m ≤ 16800000 := by rcases hq with rfl | rfl <;> omega
  generalize q * m = p at b0 ⊢
  have d0 : -2576980377600 ≤ a - thr ∧ a - thr ≤ 64424509440 := by omega
  generalize a - thr = d at d0 ⊢
  have l1 : -2576980377600 * 16800000 ≤ d * p := by
    by_cases hd0 : 0 ≤ d
    · have := Int.mul_nonneg hd0 b0.1; omega
    · have := Int.mul_le_mul (a := -d) (b := p) (c := 2576980377600) (d := 16800000) (by omega) b0.2 b0.1 (by decide)
      rw [Int.neg_mul] at this; omega
  have l2 : d * p ≤ 64424509440 * 16800000 := by
    by_cases hd0 : 0 ≤ d
    · exact Int.mul_le_mul d0.2 b0.2 b0.1 (by decide)
    · have := Int.mul_nonneg (a := -d) (b := p) (by omega) b0.1
      rw [Int.neg_mul] at this; omega
  exact ⟨isI64_mk (by omega) (by omega), isI64_mk (by omega) (by omega), by omega, by omega⟩
theorem moves_eq {u thr us ti sg nx s m : Int} (k : Nat) (hk : 4 ≤ k) (h : TR thr) (hs : isI64 s) (m0 : 0 ≤ m) (m1 : m ≤ 100000) :
    detect_Detector_moves.f k u thr us ti sg nx (hd (ab s)) m = some (u, dThr thr s m, us, ti, sg, nx) := by
  obtain ⟨k, rfl⟩ : ∃ j, k = j + 1 := ⟨k - 1, by omega⟩
  have hsp := ab_span hs
  have h' := h
  unfold TR at h'
  unfold detect_Detector_moves.f dThr
  rw [fof15]
  simp only [Option.bind_some]
  rw [add_eq _ (by omega) (isI64_mk (by omega) (by omega)) (isI64_mk (by decide) (by decide)), hd_id (x := thr + 64424509440) (isI64_mk (by omega) (by omega))]
  simp only [Option.bind_some]
  have go : ∀ q, (q = 168 ∨ q = 43) → hd (ab s) ≤ thr + 64424509440 → detect_Detector_moves.j0 (k + 1) (hd (ab s)) m q u thr us ti sg nx = some (u, cl (thr + (hd (ab s) - thr) * (q * m) / 4294967296) 25769803776 2576980377600, us, ti, sg, nx) := by
    intro q hq hle
    obtain ⟨e1, e2, e3, e4⟩ := by_span h hsp.1 hle m0 m1 hq
    simp only [detect_Detector_moves.j0]
    rw [wrap64_id e1, wrap64_id e2, do_eq 1 e1 e2 (isI64_mk (by decide) (by decide)), md_down (by decide) (isI64_mk (by omega) (by omega))]
    simp only [Option.bind_some]
    rw [add_eq _ (by omega) (isI64_mk (by omega) (by omega)) (isI64_mk (by omega) (by omega)), hd_id (isI64_mk (by omega) (by omega)), fof6, fof600]
    simp only [Option.bind_some, clamp_eq]
    rfl
  by_cases c : hd (ab s) > thr + 64424509440
  · rw [if_pos c, if_pos c]
  · rw [if_neg c, if_neg c]
    by_cases d : hd (ab s) < thr
    · rw [if_pos d, if_pos d, go 168 (.inl rfl) (by omega)]
    · rw [if_neg d, if_neg d, go 43 (.inr rfl) (by omega)]
theorem mul_nn {slope n : Int} (h : isI64 slope) : sat_Mul.f (4 * nn n) slope = some (dS slope n) := by
  have := nn_span n
  rw [mul_eq (isI64_mk (by omega) (by omega)) h]; rfl
theorem dadd_eq {u thr us ti sg nx slope n ticks now : Int} (k : Nat) (hk : 4 ≤ k) (h : TR thr) (us0 : 0 ≤ us) (us1 : us ≤ 1000000000000) (ti0 : 0 ≤ ti) (ti1 : ti ≤ 1000000000000) (hs : isI64 slope) :
    detect_Detector_Add.f k u thr us ti sg nx slope n ticks now =
      some ((dU u thr us ti sg (dS slope n) (dT ticks)).1, (dU u thr us ti sg (dS slope n) (dT ticks)).1, dThr thr (dS slope n) (mn (dT ticks) 100000), (dU u thr us ti sg (dS slope n) (dT ticks)).2.1, (dU u thr us ti sg (dS slope n) (dT ticks)).2.2, dS slope n, nx) := by
  have ht := dT_span ticks
  have hS : isI64 (dS slope n) := hd_i64 _
  unfold detect_Detector_Add.f
  rw [clamp_eq]
  simp only [Option.bind_some]
  rw [show (if ticks < 0 then 0 else if ticks > 1000000 then 1000000 else ticks) = dT ticks from rfl, show mn (mx n 0) 60 = nn n from rfl, mul_nn hs]
  simp only [Option.bind_some]
  generalize dS slope n = S at hS ⊢
  generalize dT ticks = T at ht ⊢
  have hm : 0 ≤ mn T 100000 ∧ mn T 100000 ≤ 100000 := by unfold mn; split <;> omega
  have td : Int.tdiv T 2 = T / 2 := Int.tdiv_eq_ediv_of_nonneg ht.1
  have h' := h
  unfold TR at h'
  rw [td, wrap64_id (a := T / 2) (isI64_mk (by omega) (by omega)), wrap64_id (a := us + T) (isI64_mk (by omega) (by omega)), wrap64_id (a := ti + 1) (isI64_mk (by omega) (by omega)), wrap64_id (a := -thr) (isI64_mk (by omega) (by omega))]
  simp only [abs_eq hS, Option.bind_some, moves_eq k hk h hS hm.1 hm.2]
  unfold dU
  by_cases c1 : S > thr
  · simp only [c1, if_true]
    by_cases c2 : us > 0
    · simp only [c2, if_true]
      by_cases c3 : us + T > 10000 <;> by_cases c4 : ti + 1 > 1 <;> by_cases c5 : S ≥ sg <;> simp only [c3, c4, c5, if_true, if_false, and_true, true_and, and_false, false_and]
    · simp only [c2, if_false]
      by_cases c3 : mx (T / 2) 1 > 10000 <;> by_cases c4 : ti + 1 > 1 <;> by_cases c5 : S ≥ sg <;> simp only [c3, c4, c5, if_true, if_false, and_true, true_and, and_false, false_and]
  · simp only [c1, if_false]
    by_cases c2 : S < -thr <;> simp only [c2, if_true, if_false]
def DOk (i : Nat) (u thr us ti : Int) : Prop := 0 ≤ u ∧ u ≤ 2 ∧ TR thr ∧ 0 ≤ us ∧ us ≤ 1000000 * i ∧ 0 ≤ ti ∧ ti ≤ i
theorem DOk.start : DOk 0 0 53687091200 0 0 := ⟨by decide, by decide, ⟨by decide, by decide⟩, by decide, by decide, by decide, by decide⟩
theorem DOk.step {i : Nat} {u thr us ti : Int} (h : DOk i u thr us ti) (sg s t m : Int) (ht : 0 ≤ t ∧ t ≤ 1000000) :
    DOk (i + 1) (dU u thr us ti sg s t).1 (dThr thr s m) (dU u thr us ti sg s t).2.1 (dU u thr us ti sg s t).2.2 := by
  obtain ⟨h1, h2, h3, h4, h5, h6, h7⟩ := h
  have h8 := dThr_TR (s := s) (m := m) h3
  generalize dThr thr s m = thr' at h8 ⊢
  unfold dU
  have hx : 0 ≤ mx (t / 2) 1 ∧ mx (t / 2) 1 ≤ 1000000 := by unfold mx; split <;> omega
  generalize mx (t / 2) 1 = X at hx ⊢
  refine ⟨?_, ?_, h8, ?_, ?_, ?_, ?_⟩ <;> (repeat' split) <;> simp only [] <;> omega
theorem new_eq : detect_New.f = some (0, 53687091200, 0, 0, 0, 0) := by
  unfold detect_New.f
  rw [fof25]
  simp only [Option.bind_some]
  rw [show Int.tdiv 107374182400 2 = 53687091200 by decide, wrap64_id (isI64_mk (by decide) (by decide))]
end Go.Proofs.YtphgeljglhjamaaDoor.P
end

section
namespace Go.Proofs.YtphgeljglhjamaaDoor.P
open Go.RowKit Go.Proofs.YtphgeljglhjamaaDoorW.PrintWords Go.Proofs.YtphgeljglhjamaaDoorW.PrintLast Go.Proofs.YtphgeljglhjamaaDoorW.PrintMore
set_option linter.unusedVariables false
set_option linter.unusedSimpArgs false
theorem clamp_cl (a lo hi : Int) : sat_Clamp.f a lo hi = some (cl a lo hi) := clamp_eq a lo hi
theorem mx_eq (a b : Int) : mx a b = if a < b then b else a := rfl
def aN (n : Int) : Int := cl n 0 1125899906842624
def aG (g : Int) : Int := cl g 0 17179869184
def aR (t : Int) : Int := cl t 1000 1000000
def aD (an : Bool) (la n : Int) : Int := if an = true then cl (aN n - la) 0 1000000 else 0
def nr1 (nr : Bool) (me sp G : Int) : Bool := nr && !decide (G > me + 3 * sp)
def by1 (r : Int) (n : Bool) (R D : Int) : Int := if n = true then md 9600 D (R + 100000) 3 else md r (8 * D) 100000000 3
def to1 (r G b : Int) : Int := if G > 0 ∧ 3 * G / 2 + 10000 < r + mx b 1000 then mx (3 * G / 2 + 10000) r else r + mx b 1000
abbrev A9 := Int × Int × Int × Int × Bool × Int × Int × Bool × Int
def cutR (r G : Int) : Int := mn r (md G 85 100 1)
def cutM (nr : Bool) (me sp G : Int) : Int := if nr = true then (if G < me - 3 * sp then G else me + md (G - me) 5 100 2) else G
def cutS (nr : Bool) (me sp G : Int) : Int := if nr = true then (if G < me - 3 * sp then sp else sp + md (ab (G - me) - sp) 5 100 2) else G / 10
def aU (r lo hi st : Int) (nr : Bool) (me sp : Int) (an : Bool) (la u g t n : Int) : A9 :=
  if u = 1 then (cl (cutR r (aG g)) lo hi, lo, hi, 0, true, cutM nr me sp (aG g), cutS nr me sp (aG g), true, aN n)
  else if u = 2 ∨ st = 2 then (cl r lo hi, lo, hi, 0, nr, me, sp, true, aN n)
  else (cl (to1 r (aG g) (by1 r (nr1 nr me sp (aG g)) (aR t) (aD an la n))) lo hi, lo, hi, 1, nr1 nr me sp (aG g), me, sp, true, aN n)
structure AI (r lo hi st me sp la : Int) : Prop where
  lo1 : 1 ≤ lo
  r0 : lo ≤ r
  r1 : r ≤ hi
  hi1 : hi ≤ 17179869184
  st0 : st = 0 ∨ st = 1
  me0 : 0 ≤ me
  me1 : me ≤ 17179869184
  sp0 : 0 ≤ sp
  sp1 : sp ≤ 17179869184
  la0 : 0 ≤ la
  la1 : la ≤ 1125899906842624
theorem aG_span (g : Int) : 0 ≤ aG g ∧ aG g ≤ 17179869184 := cl_span _ _ _ (by decide)
theorem aR_span (g : Int) : 1000 ≤ aR g ∧ aR g ≤ 1000000 := cl_span _ _ _ (by decide)
theorem aN_span (g : Int) : 0 ≤ aN g ∧ aN g ≤ 1125899906842624 := cl_span _ _ _ (by decide)
theorem aD_span (an : Bool) (la n : Int) : 0 ≤ aD an la n ∧ aD an la n ≤ 1000000 := by
  unfold aD; split
  · exact cl_span _ _ _ (by decide)
  · exact ⟨by decide, by decide⟩
theorem md5 {x : Int} (h0 : -34359738368 ≤ x) (h1 : x ≤ 34359738368) : md x 5 100 2 = (10 * x + 100) / 200 := by
  rw [md_pos (by decide) (by decide) (by decide), rnd_near]
  have e : 2 * (x * 5) + 100 = 10 * x + 100 := by omega
  rw [e, show (2 * 100 : Int) = 200 from rfl]
  exact hd_id (isI64_mk (by omega) (by omega))
theorem up_span {p c : Int} (hp : 0 ≤ p) (hc : 0 < c) (h : p ≤ 171798691841 * c) : 0 ≤ -((-p) / c) ∧ -((-p) / c) ≤ 171798691841 := by
  have h1 : -p / c ≤ 0 := Int.ediv_le_of_le_mul hc (by omega)
  have h2 : -171798691841 ≤ -p / c := Int.le_ediv_of_mul_le hc (by omega)
  omega
theorem prod_sp {r D : Int} (r0 : 0 ≤ r) (r1 : r ≤ 17179869184) (d0 : 0 ≤ D) (d1 : D ≤ 1000000) : 0 ≤ r * (8 * D) ∧ r * (8 * D) ≤ 17179869184 * 8000000 :=
  ⟨Int.mul_nonneg r0 (by omega), Int.mul_le_mul r1 (by omega) (by omega) (by decide)⟩
theorem by1_span {r : Int} (n : Bool) {R D : Int} (r0 : 0 ≤ r) (r1 : r ≤ 17179869184) (R0 : 1000 ≤ R) (R1 : R ≤ 1000000) (d0 : 0 ≤ D) (d1 : D ≤ 1000000) : 0 ≤ by1 r n R D ∧ by1 r n R D ≤ 171798691841 := by
  unfold by1
  split
  · have u := up_span (p := 9600 * D) (c := R + 100000) (by omega) (by omega) (by omega)
    rw [md_up (by omega) (isI64_mk (by omega) (by omega))]; exact u
  · have p := prod_sp r0 r1 d0 d1
    have u := up_span (p := r * (8 * D)) (c := 100000000) p.1 (by decide) (by omega)
    rw [md_up (by decide) (isI64_mk (by omega) (by omega))]; exact u
theorem i64s {a : Int} (h0 : -4611686018427387904 ≤ a) (h1 : a ≤ 4611686018427387904) : isI64 a := isI64_mk (by omega) (by omega)
theorem w64 {a : Int} (h0 : -4611686018427387904 ≤ a) (h1 : a ≤ 4611686018427387904) : wrap64 a = a := wrap64_id (i64s h0 h1)
theorem lift_j1 (k : Nat) (r lo hi st : Int) (nr : Bool) (me sp : Int) (an : Bool) (la G R D : Int) (r0 : 0 ≤ r) (r1 : r ≤ 17179869184) (g0 : 0 ≤ G) (g1 : G ≤ 17179869184) (R0 : 1000 ≤ R) (R1 : R ≤ 1000000) (d0 : 0 ≤ D) (d1 : D ≤ 1000000) :
    aimd_Aimd_lift.j1 (k + 1) r lo hi st nr me sp an la G R D = some (to1 r G (by1 r nr R D), lo, hi, st, nr, me, sp, an, la) := by
  have b := by1_span nr r0 r1 R0 R1 d0 d1
  have hB : ∀ b : Int, 0 ≤ b → b ≤ 171798691841 → wrap64 (r + mx b 1000) = r + mx b 1000 := fun b h0 h1 => by rw [mx_eq]; split <;> exact w64 (by omega) (by omega)
  have hT : Int.tdiv (wrap64 (3 * G)) 2 = 3 * G / 2 := by rw [w64 (by omega) (by omega), Int.tdiv_eq_ediv_of_nonneg (by omega)]
  simp only [aimd_Aimd_lift.j1]
  rw [w64 (a := 8 * D) (by omega) (by omega), w64 (a := R + 100000) (by omega) (by omega), do_eq 3 (i64s (by omega) (by omega)) (i64s (by omega) (by omega)) (i64s (by decide) (by decide)), do_eq (a := 9600) 3 (i64s (by omega) (by omega)) (i64s (by omega) (by omega)) (i64s (by omega) (by omega)), hT, w64 (a := 3 * G / 2) (by omega) (by omega), w64 (a := 3 * G / 2 + 10000) (by omega) (by omega)]
  simp only [Option.bind_some]
  unfold by1 at b ⊢
  unfold to1
  cases nr with
  | true =>
    simp only [if_true] at b ⊢
    rw [hB _ b.1 b.2]
    by_cases h1 : G > 0
    · by_cases h2 : 3 * G / 2 + 10000 < r + mx (md 9600 D (R + 100000) 3) 1000
      · simp [h1, h2]
      · simp [h1, h2]
    · simp [h1]
  | false =>
    simp only [Bool.false_eq_true, if_false] at b ⊢
    rw [hB _ b.1 b.2]
    by_cases h1 : G > 0
    · by_cases h2 : 3 * G / 2 + 10000 < r + mx (md r (8 * D) 100000000 3) 1000
      · simp [h1, h2]
      · simp [h1, h2]
    · simp [h1]
theorem lift_j0 (k : Nat) (b : Bool) (r lo hi st : Int) (nr : Bool) (me sp : Int) (an : Bool) (la G R D : Int) (r0 : 0 ≤ r) (r1 : r ≤ 17179869184) (g0 : 0 ≤ G) (g1 : G ≤ 17179869184) (R0 : 1000 ≤ R) (R1 : R ≤ 1000000) (d0 : 0 ≤ D) (d1 : D ≤ 1000000) :
    aimd_Aimd_lift.j0 (k + 2) b r lo hi st nr me sp an la G R D = some (to1 r G (by1 r (nr && !b) R D), lo, hi, st, nr && !b, me, sp, an, la) := by
  simp only [aimd_Aimd_lift.j0]
  cases b with
  | true => simpa using lift_j1 k r lo hi st false me sp an la G R D r0 r1 g0 g1 R0 R1 d0 d1
  | false => simpa using lift_j1 k r lo hi st nr me sp an la G R D r0 r1 g0 g1 R0 R1 d0 d1
theorem lift_eq (k : Nat) (r lo hi st : Int) (nr : Bool) (me sp : Int) (an : Bool) (la G R D : Int) (r0 : 0 ≤ r) (r1 : r ≤ 17179869184) (m0 : 0 ≤ me) (m1 : me ≤ 17179869184) (s0 : 0 ≤ sp) (s1 : sp ≤ 17179869184) (g0 : 0 ≤ G) (g1 : G ≤ 17179869184) (R0 : 1000 ≤ R) (R1 : R ≤ 1000000) (d0 : 0 ≤ D) (d1 : D ≤ 1000000) :
    aimd_Aimd_lift.f (k + 2) r lo hi st nr me sp an la G R D = some (to1 r G (by1 r (nr1 nr me sp G) R D), lo, hi, st, nr1 nr me sp G, me, sp, an, la) := by
  unfold aimd_Aimd_lift.f nr1
  rw [w64 (a := 3 * sp) (by omega) (by omega), w64 (a := me + 3 * sp) (by omega) (by omega)]
  cases nr with
  | true => exact lift_j0 k (decide (G > me + 3 * sp)) r lo hi st true me sp an la G R D r0 r1 g0 g1 R0 R1 d0 d1
  | false => exact lift_j0 k false r lo hi st false me sp an la G R D r0 r1 g0 g1 R0 R1 d0 d1
theorem ab_sp {x : Int} (h0 : -17179869184 ≤ x) (h1 : x ≤ 17179869184) : 0 ≤ ab x ∧ ab x ≤ 17179869184 := by unfold ab; split <;> omega
theorem cut_eq (k : Nat) (r lo hi st : Int) (nr : Bool) (me sp : Int) (an : Bool) (la G R D : Int) (r0 : 0 ≤ r) (r1 : r ≤ 17179869184) (m0 : 0 ≤ me) (m1 : me ≤ 17179869184) (s0 : 0 ≤ sp) (s1 : sp ≤ 17179869184) (g0 : 0 ≤ G) (g1 : G ≤ 17179869184) :
    aimd_Aimd_cut.f r lo hi st nr me sp an la G R D = some (cutR r G, lo, hi, 0, true, cutM nr me sp G, cutS nr me sp G, an, la) := by
  have a := ab_sp (x := G - me) (by omega) (by omega)
  have ea : hd (ab (G - me)) = ab (G - me) := hd_id (i64s (by omega) (by omega))
  unfold aimd_Aimd_cut.f cutR cutM cutS
  rw [do_eq 1 (i64s (by omega) (by omega)) (i64s (by decide) (by decide)) (i64s (by decide) (by decide)), w64 (a := 3 * sp) (by omega) (by omega), w64 (a := me - 3 * sp) (by omega) (by omega), w64 (a := G - me) (by omega) (by omega), abs_eq (i64s (by omega) (by omega)), ea,
    do_eq (a := G - me) 2 (i64s (by omega) (by omega)) (i64s (by decide) (by decide)) (i64s (by decide) (by decide)), Int.tdiv_eq_ediv_of_nonneg (show (0 : Int) ≤ G by omega), w64 (a := G / 10) (by omega) (by omega)]
  simp only [Option.bind_some]
  rw [w64 (a := ab (G - me) - sp) (by omega) (by omega), do_eq (a := ab (G - me) - sp) 2 (i64s (by omega) (by omega)) (i64s (by decide) (by decide)) (i64s (by decide) (by decide)),
    md5 (x := G - me) (by omega) (by omega), md5 (x := ab (G - me) - sp) (by omega) (by omega)]
  simp only [Option.bind_some]
  rw [w64 (a := me + (10 * (G - me) + 100) / 200) (by omega) (by omega), w64 (a := sp + (10 * (ab (G - me) - sp) + 100) / 200) (by omega) (by omega)]
  cases nr with
  | true =>
    by_cases h : G < me - 3 * sp
    · simp [h]
    · simp [h]
  | false => simp
theorem up_eq (k : Nat) {r lo hi st : Int} (nr : Bool) {me sp : Int} (an : Bool) {la : Int} (u g t n : Int) (h : AI r lo hi st me sp la) :
    aimd_Aimd_Update.f (k + 3) r lo hi st nr me sp an la u g t n = some ((aU r lo hi st nr me sp an la u g t n).1, aU r lo hi st nr me sp an la u g t n) := by
  obtain ⟨h1, h2, h3, h4, h5, h6, h7, h8, h9, h10, h11⟩ := h
  have G := aG_span g; have R := aR_span t; have N := aN_span n; have D := aD_span an la n
  have key : ∀ D : Int, 0 ≤ D → D ≤ 1000000 → aD an la n = D → aimd_Aimd_Update.j0 (k + 3) u (aN n) r lo hi st nr me sp an la (aG g) (aR t) D = some ((aU r lo hi st nr me sp an la u g t n).1, aU r lo hi st nr me sp an la u g t n) := by
    intro D d0 d1 e
    simp only [aimd_Aimd_Update.j0, mkmap.f, Option.bind_some, (cut_eq k r lo hi 2 nr me sp true (aN n) (aG g) (aR t) D (by omega) (by omega) h6 h7 h8 h9 G.1 G.2), aimd_Aimd_hold.f, (lift_eq k r lo hi 1 nr me sp true (aN n) (aG g) (aR t) D (by omega) (by omega) h6 h7 h8 h9 G.1 G.2 R.1 R.2 d0 d1), clamp_cl]
    unfold aU
    rw [e]
    by_cases u1 : u = 1
    · simp [u1]
    · by_cases u2 : u = 2
      · simp [u2]
      · have s2 : ¬ st = 2 := by omega
        simp [u1, u2, s2]
  unfold aimd_Aimd_Update.f
  simp only [clamp_cl, Option.bind_some]
  have eN : cl n 0 1125899906842624 = aN n := rfl
  have eG : cl g 0 17179869184 = aG g := rfl
  have eR : cl t 1000 1000000 = aR t := rfl
  rw [eN, eG, eR, w64 (a := aN n - la) (by omega) (by omega)]
  cases an with
  | true => simp only [if_true]; exact key _ (cl_span _ _ _ (by decide)).1 (cl_span _ _ _ (by decide)).2 (by simp [aD])
  | false => simp only [Bool.false_eq_true, if_false]; exact key 0 (by decide) (by decide) (by simp [aD])
theorem aU_AI {r lo hi st : Int} (nr : Bool) {me sp : Int} (an : Bool) {la : Int} (u g t n : Int) (h : AI r lo hi st me sp la) :
    ∃ r' st' nr' me' sp', aU r lo hi st nr me sp an la u g t n = (r', lo, hi, st', nr', me', sp', true, aN n) ∧ AI r' lo hi st' me' sp' (aN n) := by
  obtain ⟨h1, h2, h3, h4, h5, h6, h7, h8, h9, h10, h11⟩ := h
  have G := aG_span g; have N := aN_span n
  have a := ab_sp (x := aG g - me) (by omega) (by omega)
  unfold aU
  split
  · have c := cl_span (cutR r (aG g)) lo hi (by omega)
    refine ⟨_, _, _, _, _, rfl, h1, c.1, c.2, h4, Or.inl rfl, ?_, ?_, ?_, ?_, N.1, N.2⟩
    all_goals (first | (unfold cutM; rw [md5 (by omega) (by omega)]; repeat' split <;> omega) | (unfold cutS; rw [md5 (by omega) (by omega)]; repeat' split <;> omega))
  · split
    · have c := cl_span r lo hi (by omega)
      exact ⟨_, _, _, _, _, rfl, h1, c.1, c.2, h4, Or.inl rfl, h6, h7, h8, h9, N.1, N.2⟩
    · have c := cl_span (to1 r (aG g) (by1 r (nr1 nr me sp (aG g)) (aR t) (aD an la n))) lo hi (by omega)
      exact ⟨_, _, _, _, _, rfl, h1, c.1, c.2, h4, Or.inr rfl, h6, h7, h8, h9, N.1, N.2⟩
end Go.Proofs.YtphgeljglhjamaaDoor.P
end

section
namespace Go.Proofs.YtphgeljglhjamaaDoor.P
open Go.RowKit Go.Proofs.YtphgeljglhjamaaDoorW.PrintWords Go.Proofs.YtphgeljglhjamaaDoorW.PrintLast Go.Proofs.YtphgeljglhjamaaDoorW.PrintMore
set_option linter.unusedVariables false
set_option linter.unusedSimpArgs false
def lN (n : Int) : Int := cl n 0 1125899906842624
def lL (n : Int) : Int := cl n 0 256
theorem lN_span (g : Int) : 0 ≤ lN g ∧ lN g ≤ 1125899906842624 := cl_span _ _ _ (by decide)
theorem lL_span (g : Int) : 0 ≤ lL g ∧ lL g ≤ 256 := cl_span _ _ _ (by decide)
def lR (r n : Int) : Int := if n ≤ 5 then -((-(r * 105)) / 100) + 1000 else if n ≤ 26 then r else r * (512 - n) / 512
def lU (r lo hi : Int) (an : Bool) (la loss now : Int) : Int × Int × Int × Bool × Int :=
  if an = true ∧ lN now - la < 200000 then (r, lo, hi, an, la) else (cl (lR r (lL loss)) lo hi, lo, hi, true, lN now)
structure LI (r lo hi la : Int) : Prop where
  lo1 : 1 ≤ lo
  r0 : lo ≤ r
  r1 : r ≤ hi
  hi1 : hi ≤ 17179869184
  la0 : 0 ≤ la
  la1 : la ≤ 1125899906842624
theorem part_span {r n : Int} (r0 : 0 ≤ r) (r1 : r ≤ 17179869184) (n0 : 0 ≤ n) (n1 : n ≤ 256) : 0 ≤ r * (512 - n) ∧ r * (512 - n) ≤ r * 512 :=
  ⟨Int.mul_nonneg r0 (by omega), Int.mul_le_mul_of_nonneg_left (by omega) r0⟩
theorem lrow_eq {r n : Int} (r0 : 0 ≤ r) (r1 : r ≤ 17179869184) (n0 : 0 ≤ n) (n1 : n ≤ 256) : lrow r n = some (lR r n) := by
  have p := part_span r0 r1 n0 n1
  unfold lrow lR
  rw [show wrap64 0 = 0 from w64 (by decide) (by decide), show wrap64 (105 - 0) = 105 from w64 (by decide) (by decide), show wrap64 (1 - 0) = 1 from w64 (by decide) (by decide), w64 (a := n) (by omega) (by omega), w64 (a := 512 - n) (by omega) (by omega)]
  by_cases h : n ≤ 5
  · rw [if_pos h, if_pos h, do_eq 3 (i64s (by omega) (by omega)) (i64s (by decide) (by decide)) (i64s (by decide) (by decide)), md_up (by decide) (i64s (by omega) (by omega))]
    simp only [Option.bind_some]
    rw [w64 (by omega) (by omega)]
  · rw [if_neg h, if_neg h]
    by_cases h2 : n ≤ 26
    · rw [if_pos h2, if_pos h2, do_eq 1 (i64s (by omega) (by omega)) (i64s (by decide) (by decide)) (i64s (by decide) (by decide)), md_down (by decide) (i64s (by omega) (by omega))]
      simp only [Option.bind_some]
      rw [w64 (by omega) (by omega)]
      congr 1
      omega
    · rw [if_neg h2, if_neg h2, do_eq 1 (i64s (by omega) (by omega)) (i64s (by omega) (by omega)) (i64s (by decide) (by decide)), md_down (by decide) (i64s (by omega) (by omega))]
      simp only [Option.bind_some]
      rw [w64 (by omega) (by omega)]
theorem lup_eq {r lo hi : Int} (an : Bool) {la : Int} (u n : Int) (h : LI r lo hi la) :
    lossy_Lossy_Update.f r lo hi an la u n = some ((lU r lo hi an la u n).1, lU r lo hi an la u n) := by
  obtain ⟨h1, h2, h3, h4, h5, h6⟩ := h
  have N := lN_span n; have U := lL_span u
  unfold lossy_Lossy_Update.f lU
  simp only [clamp_cl, Option.bind_some]
  rw [show cl n 0 1125899906842624 = lN n from rfl, show cl u 0 256 = lL u from rfl, w64 (a := lN n - la) (by omega) (by omega), lrow_eq (by omega) (by omega) U.1 U.2]
  split <;> rfl
theorem lU_LI {r lo hi : Int} (an : Bool) {la : Int} (u n : Int) (h : LI r lo hi la) :
    ∃ r' an' la', lU r lo hi an la u n = (r', lo, hi, an', la') ∧ LI r' lo hi la' ∧ (u < 6 → r ≤ r') ∧ (u > 26 → r' ≤ r) ∧
      ((an = true ∧ lN n - la < 200000 ∧ r' = r ∧ an' = an ∧ la' = la) ∨ (¬ (an = true ∧ lN n - la < 200000) ∧ an' = true ∧ la' = lN n)) := by
  obtain ⟨h1, h2, h3, h4, h5, h6⟩ := h
  have N := lN_span n; have U := lL_span u
  have p := part_span (r := r) (n := lL u) (by omega) (by omega) U.1 U.2
  have u5 : u < 6 → lL u ≤ 5 := by unfold lL cl; intro _; repeat' split <;> omega
  have u26 : u > 26 → ¬ lL u ≤ 26 := by unfold lL cl; intro _; repeat' split <;> omega
  unfold lU
  by_cases e : an = true ∧ lN n - la < 200000
  · rw [if_pos e]
    exact ⟨_, _, _, rfl, ⟨h1, h2, h3, h4, h5, h6⟩, fun _ => Int.le_refl _, fun _ => Int.le_refl _, .inl ⟨e.1, e.2, rfl, rfl, rfl⟩⟩
  · rw [if_neg e]
    have c := cl_span (lR r (lL u)) lo hi (by omega)
    refine ⟨_, _, _, rfl, ⟨h1, c.1, c.2, h4, N.1, N.2⟩, fun q => ?_, fun q => ?_, .inr ⟨e, rfl, rfl⟩⟩
    · have := u5 q
      unfold lR cl
      rw [if_pos this]
      repeat' split
      all_goals omega
    · have := u26 q
      unfold lR cl
      rw [if_neg (show ¬ lL u ≤ 5 by omega), if_neg this]
      repeat' split
      all_goals omega
end Go.Proofs.YtphgeljglhjamaaDoor.P
end

section
namespace Go.Proofs.YtphgeljglhjamaaDoor.P
open Go.RowKit Go.Proofs.YtphgeljglhjamaaDoorW.PrintWords Go.Proofs.YtphgeljglhjamaaDoorW.PrintLast Go.Proofs.YtphgeljglhjamaaDoorW.PrintMore
set_option linter.unusedVariables false
set_option linter.unusedSimpArgs false
def gA (s : GrS) (sz at_ ca : Int) (late : Bool) : (Int × Int × Int) × Bool × GrS :=
  if late = true then ((0, 0, 0), false, s) else if sz < 0 then ((0, 0, 0), false, s) else if 1500 < sz then ((0, 0, 0), false, s) else if at_ < 0 then ((0, 0, 0), false, s) else if 1125899906842624 < at_ then ((0, 0, 0), false, s)
  else if ca < -1125899906842624 then ((0, 0, 0), false, s) else if 1125899906842624 < ca then ((0, 0, 0), false, s)
  else if s.o = false then ((0, 0, 0), false, ⟨at_, at_, ca, sz, true, s.d, s.b⟩) else if at_ < s.f then ((0, 0, 0), false, s)
  else if wrap64 (at_ - s.f) ≤ s.b then ((0, 0, 0), false, ⟨s.f, mx s.l at_, mx s.c ca, wrap64 (s.n + sz), s.o, s.d, s.b⟩)
  else match s.d with
    | none => ((0, 0, 0), false, ⟨at_, at_, ca, sz, true, (some (s.f, s.l, s.c, s.n)), s.b⟩)
    | some x => ((hd (s.l - x.2.1), hd (s.c - x.2.2.1), wrap64 (s.n - x.2.2.2)), true, ⟨at_, at_, ca, sz, true, (some (s.f, s.l, s.c, s.n)), s.b⟩)
def GOk (s : GrS) : Prop := isI64 s.l ∧ isI64 s.c ∧ ∀ x, s.d = some x → isI64 x.2.1 ∧ isI64 x.2.2.1
theorem mx_i64 {a b : Int} (ha : isI64 a) (hb : isI64 b) : isI64 (mx a b) := by unfold mx; split <;> assumption
theorem gadd_eq {s : GrS} {sz at_ ca : Int} {late : Bool} (k : Nat) (hk : 3 ≤ k) (h : GOk s) : group_Grouper_Add.f k s sz at_ ca late = some (gA s sz at_ ca late) ∧ GOk (gA s sz at_ ca late).2.2 := by
  have h' := h
  obtain ⟨h1, h2, h3⟩ := h'
  unfold group_Grouper_Add.f gA
  by_cases c0 : late = true
  · rw [if_pos c0, if_pos c0]; exact ⟨rfl, h⟩
  rw [if_neg c0, if_neg c0]
  by_cases c1 : sz < 0
  · rw [if_pos c1, if_pos c1]; exact ⟨rfl, h⟩
  rw [if_neg c1, if_neg c1]
  by_cases c2 : 1500 < sz
  · rw [if_pos c2, if_pos c2]; exact ⟨rfl, h⟩
  rw [if_neg c2, if_neg c2]
  by_cases c3 : at_ < 0
  · rw [if_pos c3, if_pos c3]; exact ⟨rfl, h⟩
  rw [if_neg c3, if_neg c3]
  by_cases c4 : 1125899906842624 < at_
  · rw [if_pos c4, if_pos c4]; exact ⟨rfl, h⟩
  rw [if_neg c4, if_neg c4]
  by_cases c5 : ca < -1125899906842624
  · rw [if_pos c5, if_pos c5]; exact ⟨rfl, h⟩
  rw [if_neg c5, if_neg c5]
  by_cases c6 : 1125899906842624 < ca
  · rw [if_pos c6, if_pos c6]; exact ⟨rfl, h⟩
  rw [if_neg c6, if_neg c6]
  have ia : isI64 at_ := isI64_mk (by omega) (by omega)
  have ic : isI64 ca := isI64_mk (by omega) (by omega)
  by_cases c7 : s.o = false
  · rw [if_pos c7, if_pos c7]; exact ⟨rfl, ia, ic, h3⟩
  rw [if_neg c7, if_neg c7]
  by_cases c8 : at_ < s.f
  · rw [if_pos c8, if_pos c8]; exact ⟨rfl, h⟩
  rw [if_neg c8, if_neg c8]
  by_cases c9 : wrap64 (at_ - s.f) ≤ s.b
  · rw [if_pos c9, if_pos c9]; exact ⟨rfl, mx_i64 h1 ia, mx_i64 h2 ic, h3⟩
  rw [if_neg c9, if_neg c9]
  have nx : ∀ x, some (s.f, s.l, s.c, s.n) = some x → isI64 x.2.1 ∧ isI64 x.2.2.1 := fun x e => by cases e; exact ⟨h1, h2⟩
  cases hd : s.d with
  | none => exact ⟨rfl, ia, ic, nx⟩
  | some x =>
    have hx := h3 x hd
    simp only
    rw [sub_eq k (by omega) h1 hx.1, sub_eq k (by omega) h2 hx.2]
    exact ⟨rfl, ia, ic, nx⟩
structure HI (n : Nat) (lo hi : Int) (s : GccS) : Prop where
  g : GOk s.g
  t : TN s.t.w s.t.s s.t.m s.t.y s.t.x s.t.xs s.t.ys s.t.c
  d : DOk n s.d0 s.d1 s.d2 s.d3
  a : AI s.a0 s.a1 s.a2 s.a3 s.a5 s.a6 s.a8
  al : s.a1 = lo
  ah : s.a2 = hi
  l : LI s.l0 s.l1 s.l2 s.l4
  ll : s.l1 = lo
  lh : s.l2 = hi
  rt0 : 1000 ≤ s.rtt
  rt1 : s.rtt ≤ 1000000
theorem DOk.up {i j : Nat} {u thr us ti : Int} (h : DOk i u thr us ti) (hij : i ≤ j) : DOk j u thr us ti := by
  obtain ⟨h1, h2, h3, h4, h5, h6, h7⟩ := h
  exact ⟨h1, h2, h3, h4, by omega, h6, by omega⟩
def hT (s : GccS) (g' : GrS) (a b : Int) : GccS :=
  let xs := tcut s.t.w (s.t.xs ++ [tX s.t.x a]); let ys := tcut s.t.w (s.t.ys ++ [tY s.t.m s.t.y s.t.s a b]); let c := mn (wrap64 (s.t.c + 1)) 1000
  let S := dS (slv s.t.w xs ys) c; let u := dU s.d0 s.d1 s.d2 s.d3 s.d4 S (dT a)
  { s with g := g', t := ⟨s.t.w, s.t.s, tS s.t.m a b, tY s.t.m s.t.y s.t.s a b, tX s.t.x a, xs, ys, c⟩, d0 := u.1, d1 := dThr s.d1 S (mn (dT a) 100000), d2 := u.2.1, d3 := u.2.2, d4 := S, d5 := s.d5 }
def hS (now : Int) (s : GccS) (x : S41) : GccS :=
  if (gA s.g x.f0.f1 x.f0.f2 x.f1 x.f2).2.1 = true then
    hT s (gA s.g x.f0.f1 x.f0.f2 x.f1 x.f2).2.2 (gA s.g x.f0.f1 x.f0.f2 x.f1 x.f2).1.1 (gA s.g x.f0.f1 x.f0.f2 x.f1 x.f2).1.2.1
  else { s with g := (gA s.g x.f0.f1 x.f0.f2 x.f1 x.f2).2.2 }
theorem step_eq {n : Nat} {lo hi now : Int} {s : GccS} (k : Nat) (hk : 300 ≤ k) (hn : n ≤ 100000) (x : S41) (h : HI n lo hi s) : gcc_Gcc_Hear.step k now s x = some (hS now s x) ∧ HI (n + 1) lo hi (hS now s x) := by
  obtain ⟨e, hg⟩ := gadd_eq (s := s.g) (sz := x.f0.f1) (at_ := x.f0.f2) (ca := x.f1) (late := x.f2) k (by omega) h.g
  unfold gcc_Gcc_Hear.step hS
  rw [e]
  simp only [Option.bind_some]
  generalize gA s.g x.f0.f1 x.f0.f2 x.f1 x.f2 = q at hg ⊢
  by_cases c : q.2.1 = true
  · rw [if_pos c, if_pos c]
    obtain ⟨e1, ht⟩ := tadd_eq (a := q.1.1) (b := q.1.2.1) k hk h.t
    rw [e1]
    simp only [Option.bind_some]
    obtain ⟨d1, d2, d3, d4, d5, d6, d7⟩ := h.d
    rw [dadd_eq k (by omega) d3 d4 (by omega) d6 (by omega) (slv_i64 _ _ _)]
    simp only [Option.bind_some]
    exact ⟨rfl, hg, ht, h.d.step _ _ _ _ (dT_span _), h.a, h.al, h.ah, h.l, h.ll, h.lh, h.rt0, h.rt1⟩
  · rw [if_neg c, if_neg c]
    exact ⟨rfl, hg, h.t, h.d.up (by omega), h.a, h.al, h.ah, h.l, h.ll, h.lh, h.rt0, h.rt1⟩
theorem all_eq {lo hi now : Int} (k : Nat) (hk : 300 ≤ k) : ∀ (l : List S41) (n : Nat) (s : GccS), n + l.length ≤ 100000 → HI n lo hi s →
    gcc_Gcc_Hear.all k now s l = some (l.foldl (hS now) s) ∧ HI (n + l.length) lo hi (l.foldl (hS now) s)
  | [], n, s, _, h => ⟨rfl, h⟩
  | x :: r, n, s, hn, h => by
    rw [List.length_cons] at hn
    obtain ⟨e, h1⟩ := step_eq (now := now) k hk (by omega) x h
    obtain ⟨e2, h2⟩ := all_eq k hk r (n + 1) _ (by omega) h1
    refine ⟨?_, by rw [List.length_cons, show n + (r.length + 1) = n + 1 + r.length by omega]; exact h2⟩
    unfold gcc_Gcc_Hear.all
    rw [e]
    exact e2
def hR (s : GccS) (l : List S41) (got now : Int) : GccS :=
  if l.length = 0 then s else
    let t := cl (hd (now - (rd_T41 l (wrap64 ((l.length : Int) - 1))).f0.f2)) 1000 1000000; let u := aU s.a0 s.a1 s.a2 s.a3 s.a4 s.a5 s.a6 s.a7 s.a8 s.d0 got t now
    { s with rtt := t, a0 := u.1, a1 := u.2.1, a2 := u.2.2.1, a3 := u.2.2.2.1, a4 := u.2.2.2.2.1, a5 := u.2.2.2.2.2.1, a6 := u.2.2.2.2.2.2.1, a7 := u.2.2.2.2.2.2.2.1, a8 := u.2.2.2.2.2.2.2.2 }
theorem rated_eq {n : Nat} {lo hi got now : Int} {s : GccS} {l : List S41} (k : Nat) (hk : 300 ≤ k) (hnow : isI64 now) (hl : ∀ x ∈ l, isI64 x.f0.f2) (hll : l.length ≤ 100000) (h : HI n lo hi s) :
    gcc_Gcc_Hear.rated k s l got now = some (hR s l got now) ∧ HI n lo hi (hR s l got now) := by
  unfold gcc_Gcc_Hear.rated hR
  by_cases c : l.length = 0
  · rw [if_pos c, if_pos c]; exact ⟨rfl, h⟩
  rw [if_neg c, if_neg c]
  have hm : rd_T41 l (wrap64 ((l.length : Int) - 1)) ∈ l := by
    rw [wrap64_id (isI64_mk (by omega) (by omega))]
    unfold rd_T41
    have hj : ((l.length : Int) - 1).toNat < l.length := by omega
    generalize ((l.length : Int) - 1).toNat = j at hj
    rw [show l.getD j z41 = l[j] by simp [List.getD, hj]]
    exact List.getElem_mem hj
  rw [sub_eq k (by omega) hnow (hl _ hm)]
  simp only [Option.bind_some]
  rw [clamp_cl]
  simp only [Option.bind_some]
  obtain ⟨k, rfl⟩ : ∃ j, k = j + 3 := ⟨k - 3, by omega⟩
  rw [up_eq k s.a4 s.a7 s.d0 got _ now h.a]
  simp only [Option.bind_some]
  have ct := cl_span (hd (now - (rd_T41 l (wrap64 ((l.length : Int) - 1))).f0.f2)) 1000 1000000 (by decide)
  generalize cl (hd (now - (rd_T41 l (wrap64 ((l.length : Int) - 1))).f0.f2)) 1000 1000000 = t at ct ⊢
  obtain ⟨r', st', nr', me', sp', ea, ha⟩ := aU_AI s.a4 s.a7 s.d0 got t now h.a
  refine ⟨by first | rfl | trivial, h.g, h.t, h.d, ?_, ?_, ?_, h.l, h.ll, h.lh, ct.1, ct.2⟩
  · simp only [ea]; exact ha
  · simp only [ea]; exact h.al
  · simp only [ea]; exact h.ah
def hL (s : GccS) (loss now : Int) : GccS :=
  { s with l0 := (lU s.l0 s.l1 s.l2 s.l3 s.l4 loss now).1, l1 := (lU s.l0 s.l1 s.l2 s.l3 s.l4 loss now).2.1, l2 := (lU s.l0 s.l1 s.l2 s.l3 s.l4 loss now).2.2.1, l3 := (lU s.l0 s.l1 s.l2 s.l3 s.l4 loss now).2.2.2.1, l4 := (lU s.l0 s.l1 s.l2 s.l3 s.l4 loss now).2.2.2.2 }
def hA (s : GccS) (l : List S41) (loss got now : Int) : GccS := hL (hR (l.foldl (hS now) s) l got now) loss now
theorem hear_eq {n : Nat} {lo hi loss got now : Int} {s : GccS} {l : List S41} (k : Nat) (hk : 300 ≤ k) (hnow : isI64 now) (hl : ∀ x ∈ l, isI64 x.f0.f2) (hn : n + l.length ≤ 100000) (h : HI n lo hi s) :
    gcc_Gcc_Hear.f k s l loss got now = some (mn (hA s l loss got now).a0 (hA s l loss got now).l0, hA s l loss got now) ∧ HI (n + l.length) lo hi (hA s l loss got now) := by
  unfold gcc_Gcc_Hear.f hA
  obtain ⟨e1, h1⟩ := all_eq (now := now) k hk l n s hn h
  rw [e1]
  simp only [Option.bind_some]
  obtain ⟨e2, h2⟩ := rated_eq (got := got) k hk hnow hl (by omega) h1
  rw [e2]
  simp only [Option.bind_some]
  generalize hR (l.foldl (hS now) s) l got now = s2 at h2 ⊢
  rw [lup_eq s2.l3 loss now h2.l]
  obtain ⟨r', an', la', el, hl', _⟩ := lU_LI s2.l3 loss now h2.l
  refine ⟨rfl, h2.g, h2.t, h2.d, h2.a, h2.al, h2.ah, ?_, ?_, ?_, h2.rt0, h2.rt1⟩
  · simp only [hL, el]; exact hl'
  · simp only [hL, el]; exact h2.ll
  · simp only [hL, el]; exact h2.lh
theorem HI.rate {n : Nat} {lo hi : Int} {s : GccS} (h : HI n lo hi s) : lo ≤ mn s.a0 s.l0 ∧ mn s.a0 s.l0 ≤ hi := by
  have a := h.a; have l := h.l
  have := a.r0; have := a.r1; have := l.r0; have := l.r1; have := h.al; have := h.ah; have := h.ll; have := h.lh
  unfold mn; split <;> omega
def s0 (start min max : Int) : GccS := ⟨⟨0, 0, 0, 0, false, none, 5000⟩, ⟨20, 3865470566, 0, 0, 0, [], [], 0⟩, start, min, max, 0, false, 0, 0, false, 0, start, min, max, false, 0, 0, 53687091200, 0, 0, 0, 0, 100000⟩
theorem new_two (a b c : Int) : (gcc_New.made.f a b c = some (s0 a b c, 0) ∧ HI 0 b c (s0 a b c) ∧ 1 ≤ b ∧ b ≤ a ∧ a ≤ c ∧ c ≤ 17179869184) ∨ (gcc_New.made.f a b c = none ∧ gcc_New.nil.f a b c = some 1 ∧ ¬ (1 ≤ b ∧ b ≤ a ∧ a ≤ c ∧ c ≤ 17179869184)) := by
  have z : isI64 0 := isI64_mk (by decide) (by decide)
  unfold gcc_New.made.f gcc_New.nil.f aimd_New.made.f lossy_New.made.f aimd_New.nil.f
  rw [new_eq]
  by_cases h1 : b < 1
  · right; simp [h1] <;> omega
  · by_cases h2 : a < b
    · right; simp [h1, h2] <;> omega
    · by_cases h3 : c < a
      · right; simp [h1, h2, h3] <;> omega
      · by_cases h4 : c > 17179869184
        · right; simp [h1, h2, h3, h4] <;> omega
        · left
          refine ⟨by simp [h1, h2, h3, h4, s0], ⟨⟨z, z, fun x e => by cases e⟩, ?_, DOk.start, ?_, rfl, rfl, ?_, rfl, rfl, ?_, ?_⟩, by omega, by omega, by omega, by omega⟩
          · exact ⟨(by decide : (2 : Int) ≤ 20), (by decide : (20 : Int) ≤ 64), (isI64_mk (by decide) (by decide) : isI64 3865470566), z, z, z, rfl, (by decide : (0 : Int) ≤ 20), (fun v hv => by cases hv), (fun v hv => by cases hv)⟩
          · exact ⟨by simp only [s0]; omega, by simp only [s0]; omega, by simp only [s0]; omega, by simp only [s0]; omega, .inl rfl, by simp only [s0]; omega, by simp only [s0]; omega, by simp only [s0]; omega, by simp only [s0]; omega, by simp only [s0]; omega, by simp only [s0]; omega⟩
          · exact ⟨by simp only [s0]; omega, by simp only [s0]; omega, by simp only [s0]; omega, by simp only [s0]; omega, by simp only [s0]; omega, by simp only [s0]; omega⟩
          · simp only [s0]; omega
          · simp only [s0]; omega
end Go.Proofs.YtphgeljglhjamaaDoor.P
end

section
namespace Go.Proofs.YtphgeljglhjamaaDoor.P
open Go.RowKit Go.Proofs.YtphgeljglhjamaaDoorW.PrintWords Go.Proofs.YtphgeljglhjamaaDoorW.PrintLast Go.Proofs.YtphgeljglhjamaaDoorW.PrintMore
set_option linter.unusedVariables false
set_option linter.unusedSimpArgs false
def Zs (l : List Int) : Prop := ∀ x ∈ l, x = 0
end Go.Proofs.YtphgeljglhjamaaDoor.P
namespace Go.Proofs.YtphgeljglhjamaaDoor.Pure
open Go.RowKit Go.Proofs.YtphgeljglhjamaaDoor.P Go.Proofs.YtphgeljglhjamaaDoorW.PrintWords Go.Proofs.YtphgeljglhjamaaDoorW.PrintLast Go.Proofs.YtphgeljglhjamaaDoorW.PrintMore
set_option linter.unusedVariables false
set_option linter.unusedSimpArgs false
end Go.Proofs.YtphgeljglhjamaaDoor.Pure
end

section
namespace Go.Proofs.YtphgeljglhjamaaDoor.Pure
open Go.RowKit Go.Proofs.YtphgeljglhjamaaDoor.P Go.Proofs.YtphgeljglhjamaaDoorW.PrintWords Go.Proofs.YtphgeljglhjamaaDoorW.PrintLast Go.Proofs.YtphgeljglhjamaaDoorW.PrintMore
set_option linter.unusedVariables false
set_option linter.unusedSimpArgs false
set_option maxRecDepth 100000 in
theorem wakes22 : flywheellaw22_wakes.f 12 = some true := by kernel_rfl
theorem wakes22_ge (k : Nat) (h : 12 ≤ k) : flywheellaw22_wakes.f k = some true := by
  obtain ⟨d, rfl⟩ : ∃ d, k = 12 + d := ⟨k - 12, by omega⟩
  clear h
  induction d with
  | zero => exact wakes22
  | succ d ih => exact flywheellaw22_wakes.mono _ _ ih
theorem wk22 (k : Nat) (h : 12 ≤ k) : ((flywheellaw22_wakes.f k).bind fun t => some t) = some true := by rw [wakes22_ge k h]; rfl
theorem wn22 (i : Nat) (h : i ≤ 300) : wrap64 ((i : Int) + 1) = ((i + 1 : Nat) : Int) := by rw [wrap64_id (isI64_mk (by omega) (by omega))]; omega
structure CS (way : Int) (s : GccS) : Prop where
  m : s.t.m = 0
  y : s.t.y = 0
  ys : Zs s.t.ys
  u : s.d0 = 0
  go : s.g.o = true → s.g.c = s.g.l + way
  gd : ∀ x, s.g.d = some x → x.2.2.1 = x.2.1 + way
end Go.Proofs.YtphgeljglhjamaaDoor.Pure
end

section
namespace Go.Proofs.YtphgeljglhjamaaDoor.Pure
open Go.RowKit Go.Proofs.YtphgeljglhjamaaDoor.P Go.Proofs.YtphgeljglhjamaaDoorW.PrintWords Go.Proofs.YtphgeljglhjamaaDoorW.PrintLast Go.Proofs.YtphgeljglhjamaaDoorW.PrintMore
set_option linter.unusedVariables false
set_option linter.unusedSimpArgs false
theorem rd33_mem {l : List S33} {i : Nat} (h : i < l.length) : rd_T33 l (i : Int) ∈ l := by
  unfold rd_T33
  rw [show l.getD ((i : Int).toNat) z33 = l[i] by simp [List.getD, h]]
  exact List.getElem_mem h
theorem GccBounds : flywheellaw22_GccBounds.Pure := by
  intro a b c l ha hb hcc hm hs hw
  refine ⟨600, ?_⟩
  have fin : ∀ (i k : Nat) (x y z : Int) (s : GccS), 50 ≤ k → flywheellaw22_GccBounds.j1 k l i false x y z s = some true := by
    intro i k x y z s hk
    obtain ⟨k, rfl⟩ : ∃ j, k = j + 1 := ⟨k - 1, by omega⟩
    simp only [flywheellaw22_GccBounds.j1, Bool.false_eq_true, if_false]
    exact wk22 k (by omega)
  have loop : ∀ (m i k n : Nat) (s : GccS), i + m = 60 → 3 * m + 305 ≤ k → n ≤ 300 * i → HI n b c s → flywheellaw22_GccBounds.l0 k l i a b c s = some true := by
    intro m
    induction m with
    | zero =>
      intro i k n s hi hk hn h
      obtain ⟨k, rfl⟩ : ∃ j, k = j + 1 := ⟨k - 1, by omega⟩
      simp only [flywheellaw22_GccBounds.l0]
      rw [show decide ((i : Int) < 60) = false from decide_eq_false (by omega)]
      split <;> exact fin i k _ _ _ s (by omega)
    | succ m ih =>
      intro i k n s hi hk hn h
      obtain ⟨k, rfl⟩ : ∃ j, k = j + 3 := ⟨k - 3, by omega⟩
      simp only [flywheellaw22_GccBounds.l0]
      by_cases c1 : (i : Int) < (l.length : Int)
      · rw [if_pos c1, show decide ((i : Int) < 60) = true from decide_eq_true (by omega)]
        simp only [flywheellaw22_GccBounds.j1, if_true]
        rw [if_pos (show (0 : Int) ≤ (i : Int) by omega), if_pos c1]
        obtain ⟨hp, _, _, h3⟩ := hw _ (rd33_mem (l := l) (i := i) (by omega))
        generalize rd_T33 l (i : Int) = x at hp h3 ⊢
        by_cases c2 : (x.f0.length : Int) > 300
        · rw [if_pos c2]; exact wk22 _ (by omega)
        rw [if_neg c2]
        simp only [Option.bind_some, List.nil_append, List.length_nil]
        rw [if_pos (by omega)]
        obtain ⟨e, h'⟩ := hear_eq (l := x.f0) (loss := x.f1) (got := x.f2) (now := x.f3) (k + 1) (by omega) (isI64_of_wf h3) (fun z hz => isI64_of_wf (hp z hz).2.2.1) (by omega) h
        have hr := h'.rate
        rw [e]
        simp only [Option.bind_some, gcc_Gcc_Rtt.f]
        rw [if_neg (by omega), if_neg (by omega), if_neg (by have := h'.rt0; omega), show decide ((hA s x.f0 x.f1 x.f2 x.f3).rtt > 1000000) = false from decide_eq_false (by have := h'.rt1; omega)]
        simp only [flywheellaw22_GccBounds.j2, Bool.false_eq_true, if_false]
        rw [wn22 i (by omega)]
        exact ih (i + 1) k _ _ (by omega) (by omega) (by omega) h'
      · rw [if_neg c1]; exact fin i (k + 2) _ _ _ s (by omega)
  unfold flywheellaw22_GccBounds.f
  rcases new_two a b c with ⟨e1, h, _⟩ | ⟨e1, e2, no⟩
  · rw [e1]
    simp only [Option.isSome_some, if_true, Option.bind_some]
    exact loop 60 0 600 0 _ (by decide) (by decide) (by decide) h
  · rw [e1, e2]
    simp only [Option.isSome_none, Bool.false_eq_true, if_false, Option.bind_some]
    rw [if_neg (by decide)]
    have hr : flywheelref19_Rates.f a b c = some false := by
      unfold flywheelref19_Rates.f
      by_cases h1 : b ≥ 1
      · rw [if_pos h1]
        by_cases h2 : b ≤ a
        · rw [if_pos h2]
          by_cases h3 : a ≤ c
          · rw [if_pos h3, decide_eq_false (show ¬ c ≤ 17179869184 from fun h4 => no ⟨h1, h2, h3, h4⟩)]
          · rw [if_neg h3]
        · rw [if_neg h2]
      · rw [if_neg h1]
    rw [hr]
    simp only [Option.bind_some, Bool.false_eq_true, if_false]
    exact wk22 600 (by decide)
end Go.Proofs.YtphgeljglhjamaaDoor.Pure
end

section

end

-- WRITTEN by a program of this session over the kit's print (hprint.py): functions proved by hand stand among the printed ones
import Derived.Test.YtipdmihaidpnpaaPx0
import Derived.Test.YtipdmihaidpnpaaPx4
import Derived.Test.YtipdmihaidpnpaaPx5
namespace Go.Proofs.Ytipdmihaidpnpaa.P
open Go.RowKit Go.Proofs.YtipdmihaidpnpaaW.PrintWords Go.Proofs.YtipdmihaidpnpaaW.PrintLast Go.Proofs.YtipdmihaidpnpaaW.PrintMore
attribute [local go_sem] max2_int min2_int max_two min_two max_three min_three max_four min_four   -- for this text's walks alone
set_option linter.unusedVariables false
set_option linter.unusedSimpArgs false

/-! ### flywheelref02_Did: function 25, by hand -/
theorem rsize (a : Int) (h : isI64 a) : flywheelref02_size.f a = some (if a < 0 then -a else a) := by
  unfold isI64 at h
  unfold flywheelref02_size.f wrap64
  simp only [u64_mod]
  split
  · congr 1; omega
  · congr 1; omega
theorem times_ok (a b : Int) (ha : 0 ≤ a) (ha1 : a < 18446744073709551616) (hb : 0 ≤ b) (hb1 : b < 18446744073709551616) :
    flywheelref02_times.f a b = some (a * b / 18446744073709551616, a * b % 18446744073709551616) := by
  obtain ⟨x, rfl⟩ := Int.eq_ofNat_of_zero_le ha
  obtain ⟨y, rfl⟩ := Int.eq_ofNat_of_zero_le hb
  have hx : x < 18446744073709551616 := by omega
  have hy : y < 18446744073709551616 := by omega
  have e1 : Go.bits .and .u64 (x : Int) 4294967295 = ((x % 4294967296 : Nat) : Int) := by rw [and_low32 _ ha (by omega)]; omega
  have e2 : Go.bits .and .u64 (y : Int) 4294967295 = ((y % 4294967296 : Nat) : Int) := by rw [and_low32 _ hb (by omega)]; omega
  have d1 : (x : Int) / 4294967296 = ((x / 4294967296 : Nat) : Int) := by omega
  have d2 : (y : Int) / 4294967296 = ((y / 4294967296 : Nat) : Int) := by omega
  have sp : x * y = (x / 4294967296) * (y / 4294967296) * (4294967296 * 4294967296) + ((x / 4294967296) * (y % 4294967296) + (x % 4294967296) * (y / 4294967296)) * 4294967296 + (x % 4294967296) * (y % 4294967296) := by
    rw [← Lib.split_mul, Nat.div_add_mod' x 4294967296, Nat.div_add_mod' y 4294967296]
  unfold flywheelref02_times.f
  rw [e1, e2, d1, d2]
  simp only [← Int.natCast_mul]
  have b2 := Lib.half_mul_le (a := x % 4294967296) (b := y % 4294967296) (by omega) (by omega)
  have b3 := Lib.half_mul_le (a := x / 4294967296) (b := y % 4294967296) (by omega) (by omega)
  have b4 := Lib.half_mul_le (a := x % 4294967296) (b := y / 4294967296) (by omega) (by omega)
  have b5 := Lib.half_mul_le (a := x / 4294967296) (b := y / 4294967296) (by omega) (by omega)
  rw [sp]
  generalize (x % 4294967296) * (y % 4294967296) = w0 at *
  generalize (x / 4294967296) * (y % 4294967296) = p1 at *
  generalize (x % 4294967296) * (y / 4294967296) = p2 at *
  generalize (x / 4294967296) * (y / 4294967296) = p3 at *
  have w1 : IntKind.u64.wrap ((w0 : Nat) : Int) = (w0 : Int) := u64_id _ (by omega) (by omega)
  have w2 : IntKind.u64.wrap ((p1 : Nat) : Int) = (p1 : Int) := u64_id _ (by omega) (by omega)
  have w3 : IntKind.u64.wrap ((p2 : Nat) : Int) = (p2 : Int) := u64_id _ (by omega) (by omega)
  have w4 : IntKind.u64.wrap ((p3 : Nat) : Int) = (p3 : Int) := u64_id _ (by omega) (by omega)
  rw [w1, w2, w3, w4]
  have t : (p1 : Int) + (w0 : Int) / 4294967296 = ((p1 + w0 / 4294967296 : Nat) : Int) := by omega
  rw [t]
  generalize hT : p1 + w0 / 4294967296 = T at *
  have w5 : IntKind.u64.wrap ((T : Nat) : Int) = (T : Int) := u64_id _ (by omega) (by omega)
  have e3 : Go.bits .and .u64 (T : Int) 4294967295 = ((T % 4294967296 : Nat) : Int) := by rw [and_low32 _ (by omega) (by omega)]; omega
  have e4 : Go.bits .and .u64 (w0 : Int) 4294967295 = ((w0 % 4294967296 : Nat) : Int) := by rw [and_low32 _ (by omega) (by omega)]; omega
  rw [w5, e3, e4]
  rw [u64_id ((p2 : Int) + ((T % 4294967296 : Nat) : Int)) (by omega) (by omega), u64_id ((p3 : Int) + (T : Int) / 4294967296) (by omega) (by omega), u64_id _ (by omega) (by omega), u64_mod, u64_mod]
  congr 2
  · omega
  · omega
theorem part_loop (c : Int) (hc : 0 < c) (hc1 : c ≤ 9223372036854775808) (n : Nat) (hn : n ≤ 128) : ∀ (hi lo q : Int) (over : Bool) (left T U : Int), 0 ≤ hi → hi < 18446744073709551616 → 0 ≤ lo → lo < 18446744073709551616 → 0 ≤ q → q < 18446744073709551616 → 0 ≤ left → left < c →
    (hi * 18446744073709551616 + lo) * pw n = T * 340282366920938463463374607431768211456 + U → 0 ≤ U → U < 340282366920938463463374607431768211456 →
    flywheelref02_part.l0 (n + 1) c ((n : Int) - 1) hi lo q over left = some ((q * pw n + (left * pw n + T) / c) % 18446744073709551616, over || decide (18446744073709551616 ≤ q * pw n + (left * pw n + T) / c), (left * pw n + T) % c) := by
  induction n with
  | zero =>
    intro hi lo q over left T U h0 h1 l0 l1 q0 q1 f0 f1 e u0 u1
    have p0 : pw 0 = 1 := rfl
    rw [p0, Int.mul_one] at e
    have hT : T = 0 := by omega
    subst hT
    simp only [flywheelref02_part.l0]
    rw [if_neg (by omega), p0, Int.mul_one, Int.mul_one, Int.add_zero, Int.ediv_eq_zero_of_lt f0 f1, Int.emod_eq_of_lt f0 f1, Int.add_zero, Int.emod_eq_of_lt q0 q1, decide_eq_false (by omega), Bool.or_false]
  | succ n ih =>
    intro hi lo q over left T U h0 h1 l0 l1 q0 q1 f0 f1 e u0 u1
    have IH := ih (by omega)
    have pp := pw_pos n
    have w1 : IntKind.u64.wrap (IntKind.u64.wrap (left * 2) + hi / 9223372036854775808) = left * 2 + hi / 9223372036854775808 := by rw [u64_id (left * 2) (by omega) (by omega), u64_id _ (by omega) (by omega)]
    have w2 : wrap64 (((n + 1 : Nat) : Int) - 1 - 1) = (n : Int) - 1 := by unfold wrap64; omega
    rw [pw_succ] at e ⊢
    -- the shifted number
    have sh : IntKind.u64.wrap (IntKind.u64.wrap (hi * 2) + lo / 9223372036854775808) = hi * 2 + lo / 9223372036854775808 - hi / 9223372036854775808 * 18446744073709551616 := by simp only [u64_mod]; omega
    have sl : IntKind.u64.wrap (lo * 2) = lo * 2 - lo / 9223372036854775808 * 18446744073709551616 := by simp only [u64_mod]; omega
    have b01 : hi / 9223372036854775808 = 0 ∨ hi / 9223372036854775808 = 1 := by omega
    have e' : ((hi * 2 + lo / 9223372036854775808 - hi / 9223372036854775808 * 18446744073709551616) * 18446744073709551616 + (lo * 2 - lo / 9223372036854775808 * 18446744073709551616)) * pw n = (T - hi / 9223372036854775808 * pw n) * 340282366920938463463374607431768211456 + U := by
      have : (hi * 2 + lo / 9223372036854775808 - hi / 9223372036854775808 * 18446744073709551616) * 18446744073709551616 + (lo * 2 - lo / 9223372036854775808 * 18446744073709551616) = (hi * 18446744073709551616 + lo) * 2 - hi / 9223372036854775808 * 340282366920938463463374607431768211456 := by omega
      rw [this, Int.sub_mul, Int.mul_assoc, e, Int.sub_mul, Int.mul_right_comm]
      omega
    -- the two ways of a round
    have way : ∀ (ov : Bool), (if left * 2 + hi / 9223372036854775808 ≥ c then
          flywheelref02_part.l0 (n + 1) c ((n : Int) - 1) (hi * 2 + lo / 9223372036854775808 - hi / 9223372036854775808 * 18446744073709551616) (lo * 2 - lo / 9223372036854775808 * 18446744073709551616) (IntKind.u64.wrap (IntKind.u64.wrap (q * 2) + 1)) ov (IntKind.u64.wrap (left * 2 + hi / 9223372036854775808 - c))
        else flywheelref02_part.l0 (n + 1) c ((n : Int) - 1) (hi * 2 + lo / 9223372036854775808 - hi / 9223372036854775808 * 18446744073709551616) (lo * 2 - lo / 9223372036854775808 * 18446744073709551616) (IntKind.u64.wrap (q * 2)) ov (left * 2 + hi / 9223372036854775808)) =
        some ((q * (2 * pw n) + (left * (2 * pw n) + T) / c) % 18446744073709551616, ov || decide (18446744073709551616 ≤ (q * 2 - q / 9223372036854775808 * 18446744073709551616) * pw n + (left * (2 * pw n) + T) / c), (left * (2 * pw n) + T) % c) := by
      intro ov
      have W : left * (2 * pw n) + T = (left * 2 + hi / 9223372036854775808) * pw n + (T - hi / 9223372036854775808 * pw n) := by rw [Int.add_mul, Int.mul_assoc]; omega
      have s2 : IntKind.u64.wrap (q * 2) = q * 2 - q / 9223372036854775808 * 18446744073709551616 := by simp only [u64_mod]; omega
      have s1 : IntKind.u64.wrap (IntKind.u64.wrap (q * 2) + 1) = q * 2 - q / 9223372036854775808 * 18446744073709551616 + 1 := by simp only [u64_mod]; omega
      have Q2 : (q * (2 * pw n)) = (q * 2 - q / 9223372036854775808 * 18446744073709551616) * pw n + 18446744073709551616 * (q / 9223372036854775808 * pw n) := by rw [Int.sub_mul, Int.mul_assoc, Int.mul_right_comm]; omega
      by_cases hge : left * 2 + hi / 9223372036854775808 ≥ c
      · rw [if_pos hge, s1, u64_id (left * 2 + hi / 9223372036854775808 - c) (by omega) (by omega)]
        rw [IH _ _ _ ov _ _ U (by omega) (by omega) (by omega) (by omega) (by omega) (by omega) (by omega) (by omega) e' u0 u1]
        have X : (left * 2 + hi / 9223372036854775808 - c) * pw n + (T - hi / 9223372036854775808 * pw n) = left * (2 * pw n) + T + (-(pw n)) * c := by rw [W, Int.sub_mul, Int.neg_mul, Int.mul_comm c]; omega
        rw [X, Int.add_mul_ediv_right _ _ (by omega), Int.add_mul_emod_self_right, Q2]
        generalize (q * 2 - q / 9223372036854775808 * 18446744073709551616) = z at *
        have Z : (z + 1) * pw n + ((left * (2 * pw n) + T) / c + -pw n) = z * pw n + (left * (2 * pw n) + T) / c := by rw [Int.add_mul]; omega
        rw [Z]
        congr 2
        omega
      · rw [if_neg hge, s2, IH _ _ _ ov _ _ U (by omega) (by omega) (by omega) (by omega) (by omega) (by omega) (by omega) (by omega) e' u0 u1, ← W, Q2]
        generalize (q * 2 - q / 9223372036854775808 * 18446744073709551616) = z at *
        congr 2
        omega
    have T0 : 0 ≤ (left * (2 * pw n) + T) / c := by
      apply Int.ediv_nonneg _ (by omega)
      have a1 := Int.mul_nonneg f0 (show 0 ≤ 2 * pw n by omega)
      have a2 := Int.mul_nonneg (show 0 ≤ hi * 18446744073709551616 + lo by omega) (show 0 ≤ 2 * pw n by omega)
      omega
    have final : ∀ ov : Bool, ov = (over || ((q / 9223372036854775808) == 1)) → (ov || decide (18446744073709551616 ≤ (q * 2 - q / 9223372036854775808 * 18446744073709551616) * pw n + (left * (2 * pw n) + T) / c)) = (over || decide (18446744073709551616 ≤ q * (2 * pw n) + (left * (2 * pw n) + T) / c)) := by
      intro ov hov
      subst hov
      cases over with
      | true => rfl
      | false =>
        simp only [Bool.false_or]
        have q01 : q / 9223372036854775808 = 0 ∨ q / 9223372036854775808 = 1 := by omega
        rcases q01 with hq | hq
        · rw [hq, Int.zero_mul, Int.sub_zero, Int.mul_assoc]; simp
        · have a3 : 9223372036854775808 * (2 * pw n) ≤ q * (2 * pw n) := Int.mul_le_mul_of_nonneg_right (by omega) (by omega)
          rw [hq, decide_eq_true (show 18446744073709551616 ≤ q * (2 * pw n) + (left * (2 * pw n) + T) / c by omega)]
          rfl
    rw [flywheelref02_part.l0]
    rw [if_pos (by omega)]
    simp only [w1, w2, sh, sl]
    cases over with
    | true =>
      rw [if_pos rfl, way true, final true (by simp)]
    | false =>
      rw [if_neg (by simp), way _, final _ (by simp)]
theorem part_ok (N c : Int) (hN : 0 ≤ N) (hN1 : N < 340282366920938463463374607431768211456) (hc : 0 < c) (hc1 : c ≤ 9223372036854775808) :
    flywheelref02_part.f 129 (N / 18446744073709551616) (N % 18446744073709551616) c = some (N / c % 18446744073709551616, decide (18446744073709551616 ≤ N / c), N % c) := by
  unfold flywheelref02_part.f
  have p : pw 128 = 340282366920938463463374607431768211456 := rfl
  have h := part_loop c hc hc1 128 (Nat.le_refl _) (N / 18446744073709551616) (N % 18446744073709551616) 0 false 0 N 0 (by omega) (by omega) (by omega) (by omega) (by omega) (by omega) (by omega) hc (by rw [p]; omega) (by omega) (by omega)
  simp only [Int.zero_mul, Int.zero_add, Bool.false_or] at h
  exact h
theorem did_tail (below ov : Bool) (q V : Int) (k : Nat) (h0 : 0 ≤ V) (hq : q = V % 18446744073709551616) (hov : ov = decide (18446744073709551616 ≤ V)) :
    flywheelref02_Did.j3 (k + 2) below q ov = some (hold64 (if below = true then -V else V)) := by
  subst hq; subst hov
  by_cases hb : 18446744073709551616 ≤ V
  · rw [decide_eq_true hb]
    cases below with
    | true =>
      simp only [flywheelref02_Did.j3, flywheelref02_Did.j4, if_true]
      unfold hold64
      rw [if_pos (by omega)]
    | false =>
      simp only [flywheelref02_Did.j3, if_true, Bool.false_eq_true, if_false]
      unfold hold64
      rw [if_neg (by omega), if_pos (by omega)]
  · rw [decide_eq_false hb, Int.emod_eq_of_lt h0 (by omega)]
    cases below with
    | true =>
      simp only [flywheelref02_Did.j3, flywheelref02_Did.j4, if_true, Bool.false_eq_true, if_false]
      unfold hold64
      by_cases hl : V > 9223372036854775808
      · rw [decide_eq_true hl, if_pos rfl, if_pos (by omega)]
      · rw [decide_eq_false hl, if_neg (by simp), if_neg (by omega), if_neg (by omega)]
        congr 2
        unfold wrap64; omega
    | false =>
      simp only [flywheelref02_Did.j3, Bool.false_eq_true, if_false]
      unfold hold64
      by_cases hl : V > 9223372036854775807
      · rw [if_pos hl, if_neg (by omega), if_pos hl]
      · rw [if_neg hl, if_neg (by omega), if_neg hl]
        congr 2
        unfold wrap64; omega
theorem did_j2 (below up : Bool) (Q L : Int) (k : Nat) (h0 : 0 ≤ Q) :
    flywheelref02_Did.j2 (k + 3) below up (Q % 18446744073709551616) (decide (18446744073709551616 ≤ Q)) L = some (hold64 (if below = true then -(Q + if up = true then 1 else 0) else Q + if up = true then 1 else 0)) := by
  cases up with
  | false =>
    simp only [flywheelref02_Did.j2, Bool.false_eq_true, if_false, Int.add_zero]
    exact did_tail below _ _ Q k h0 rfl rfl
  | true =>
    simp only [flywheelref02_Did.j2, if_true]
    have e : IntKind.u64.wrap (Q % 18446744073709551616 + 1) = (Q + 1) % 18446744073709551616 := by rw [u64_mod]; omega
    by_cases hb : 18446744073709551616 ≤ Q
    · rw [decide_eq_true hb, if_pos rfl, e]
      exact did_tail below _ _ (Q + 1) k (by omega) rfl (decide_eq_true (by omega)).symm
    · rw [decide_eq_false hb, if_neg (by simp), e]
      refine did_tail below _ _ (Q + 1) k (by omega) rfl ?_
      by_cases hz : Q = 18446744073709551615
      · subst hz; rfl
      · rw [decide_eq_false (by omega), beq_eq_false_iff_ne]; omega
theorem did_j1 (x2 how N C : Int) (below : Bool) (k : Nat) (hx : isI64 x2) (hC : C = if x2 < 0 then -x2 else x2) (hC0 : 0 < C) (hN : 0 ≤ N) (hh : how = 1 ∨ how = 2 ∨ how = 3) :
    flywheelref02_Did.j1 (k + 4) x2 how below (N / C % 18446744073709551616) (decide (18446744073709551616 ≤ N / C)) (N % C) = some (hold64 (rnd (if below = true then -N else N) C how)) := by
  have rs := rsize x2 hx
  rw [← hC] at rs
  have hCu : C ≤ 9223372036854775808 := by unfold isI64 at hx; rw [hC]; split <;> omega
  have r0 := Int.emod_nonneg N (show C ≠ 0 by omega)
  have r1 := Int.emod_lt_of_pos N hC0
  have q0 : 0 ≤ N / C := Int.ediv_nonneg hN (by omega)
  simp only [flywheelref02_Did.j1, rs, Option.bind_some]
  rw [u64_id (C - N % C) (by omega) (by omega)]
  have J := fun up => did_j2 below up (N / C) (N % C) k q0
  simp only [J]
  have c1 : ¬ C < 0 := by omega
  have c2 : ¬ C ≤ 0 := by omega
  cases below with
  | true =>
    simp only [if_true]
    rw [rnd_neg N C how hC0]
    have e1 : decide (N % C > C - N % C) = decide (C < 2 * (N % C)) := by rw [Bool.eq_iff_iff]; simp only [decide_eq_true_eq]; omega
    simp only [e1]
    by_cases hz : N % C = 0
    · rcases hh with rfl | rfl | rfl <;> simp [hz, c1]
    · have hp : 0 < N % C := by omega
      by_cases h : C < 2 * (N % C) <;> rcases hh with rfl | rfl | rfl <;> simp [hz, hp, h]
  | false =>
    simp only [Bool.false_eq_true, if_false]
    rw [rnd_pos N C how hC0]
    have e1 : decide (N % C ≥ C - N % C) = decide (C ≤ 2 * (N % C)) := by rw [Bool.eq_iff_iff]; simp only [decide_eq_true_eq]; omega
    simp only [e1]
    by_cases hz : N % C = 0
    · rcases hh with rfl | rfl | rfl <;> simp [hz, c2]
    · have hp : 0 < N % C := by omega
      by_cases h : C ≤ 2 * (N % C) <;> rcases hh with rfl | rfl | rfl <;> simp [hz, hp, h]
theorem did_ok (a b c how : Int) (ha : isI64 a) (hb : isI64 b) (hc : isI64 c) : flywheelref02_Did.f 130 a b c how = some (mdq a b c how) := by
  unfold flywheelref02_Did.f mdq
  by_cases hz : c = 0
  · rw [if_pos hz, if_pos (Or.inl hz)]; rfl
  rw [if_neg hz]
  by_cases hl : how < 1
  · rw [if_pos hl, if_pos (Or.inr (Or.inl hl))]; rfl
  rw [if_neg hl]
  by_cases hg : how > 3
  · rw [decide_eq_true hg, if_pos (Or.inr (Or.inr hg))]; rfl
  rw [decide_eq_false hg, if_neg (by omega)]
  rw [flywheelref02_Did.j0, if_neg (by simp), rsize a ha, rsize b hb, rsize c hc]
  simp only [Option.bind_some]
  have ha' := ha; have hb' := hb; have hc' := hc
  unfold isI64 at ha' hb' hc'
  rw [times_ok _ _ (by split <;> omega) (by split <;> omega) (by split <;> omega) (by split <;> omega)]
  simp only [Option.bind_some]
  have hN := abs_mul_le (a := if a < 0 then -a else a) (b := if b < 0 then -b else b) (by split <;> omega) (by split <;> omega) (by split <;> omega) (by split <;> omega)
  have hN0 := Int.mul_nonneg (a := if a < 0 then -a else a) (b := if b < 0 then -b else b) (by split <;> omega) (by split <;> omega)
  rw [part_ok _ _ hN0 (by omega) (by split <;> omega) (by split <;> omega)]
  simp only [Option.bind_some]
  have J := fun bl => did_j1 c how ((if a < 0 then -a else a) * (if b < 0 then -b else b)) (if c < 0 then -c else c) bl 125 hc rfl (by split <;> omega) hN0 (by omega)
  simp only [J]
  by_cases h1 : a < 0 <;> by_cases h2 : b < 0 <;> by_cases h3 : c < 0 <;> simp [h1, h2, h3, Int.neg_mul, Int.mul_neg]
def flywheelref02_Did_s.f (a0 : Int) (a1 : Int) (a2 : Int) (a3 : Int) : Option (Int × Bool) := if isI64 a0 ∧ isI64 a1 ∧ isI64 a2 then some (mdq a0 a1 a2 a3) else none
theorem flywheelref02_Did_s.calls (a0 : Int) (a1 : Int) (a2 : Int) (a3 : Int) (r1 : Int) (r2 : Bool) (w : World) (h : flywheelref02_Did_s.f a0 a1 a2 a3 = some (r1, r2)) :
    Calls Try.prog 25 #[.int .i64 a0, .int .i64 a1, .int .i64 a2, .int .i64 a3] w fun e w' => e = .returned (.agg #[.int .i64 r1, .bool r2]) ∧ Below w.heap.size w w' := by
  unfold flywheelref02_Did_s.f at h
  split at h
  · rename_i hb
    exact flywheelref02_Did.calls 130 a0 a1 a2 a3 r1 r2 w ((did_ok a0 a1 a2 a3 hb.1 hb.2.1 hb.2.2).trans h)
  · cases h

/-! ### flywheelref02_Do: function 33 -/
def flywheelref02_Do.f (a0 : Int) (a1 : Int) (a2 : Int) (a3 : Int) : Option (Int) := (flywheelref02_Did_s.f a0 a1 a2 a3).bind fun bt134 => (some bt134.1)
set_option maxHeartbeats 8000000 in
set_option maxRecDepth 100000 in
theorem flywheelref02_Do.calls (a0 : Int) (a1 : Int) (a2 : Int) (a3 : Int) (r : Int) (w : World) (h : flywheelref02_Do.f a0 a1 a2 a3 = some r) :
    Calls Try.prog 33 #[.int .i64 a0, .int .i64 a1, .int .i64 a2, .int .i64 a3] w fun e w' => e = .returned (.int .i64 r) ∧ Below w.heap.size w w' := by
  have hfd37_0 : ∀ (v0 v1 : Value) (W : World), (Instr.field 37 (.agg #[v0, v1]) 0).run Try.prog W = .ok v0 W := fun _ _ _ => by kernel_rfl
  have HB := Aside0.mk (Below.refl w.heap.size w)
  have H : ((flywheelref02_Did_s.f a0 a1 a2 a3).bind fun bt134 => (some bt134.1)) = some r := h
  clear h
  replace H := Option.bind_eq_some_iff.mp H
  obtain ⟨⟨t134, t135⟩, A50, H⟩ := H
  replace H : (some t134) = some r := H
  have A5 := Aside0.mk A50
  clear A50
  obtain rfl := Option.some.inj H
  go_enter Try.func33, Try.ntmps33
  go_wp2_with (first | ((with_reducible refine gate_callee (f := 25) rfl ?_); refine goesL_ (some 13) rfl rfl Try.func25 (by kernel_rfl) rfl #[.int .i64 a0, .int .i64 a1, .int .i64 a2, .int .i64 a3] rfl (by (try simp only [List.map_toArray, List.map_cons, List.map_nil]); first | done | rfl | (simp only [List.length_drop, List.length_take]; rfl)) ?_; (with_reducible refine (flywheelref02_Did_s.calls a0 a1 a2 a3 t134 t135 _ A5.out).mono ?_); rintro e w6 ⟨rfl, hb⟩; refine ⟨_, rfl, ?_⟩; have n0_ := Aside0.mk (below_step (by repeat (first | (with_reducible first | exact HB.out | apply below_alloc | apply pw_below_drewN | apply below_drew1) | exact HB.out)) hb); clear HB; have HB := n0_; clear n0_; (try clear hb); (try clear hb2); (try clear hk); (try clear hi)))
  go_ret
  exact ⟨by first | rfl | (simp [errW_none, errW_some] <;> rfl) | (simp [*, errW_none, errW_some] <;> rfl), by repeat (first | (with_reducible first | exact HB.out | apply below_alloc | apply pw_below_drewN | apply below_drew1) | exact HB.out)⟩

/-! ### flywheelref04_Bytes: function 15 -/
def flywheelref04_Bytes.f (a0 : Int) (a1 : Int) : Option (Int) := (flywheelref02_Do.f a0 a1 8000000 1).bind fun t136 => (some t136)
set_option maxHeartbeats 8000000 in
set_option maxRecDepth 100000 in
theorem flywheelref04_Bytes.calls (a0 : Int) (a1 : Int) (r : Int) (w : World) (h : flywheelref04_Bytes.f a0 a1 = some r) :
    Calls Try.prog 15 #[.int .i64 a0, .int .i64 a1] w fun e w' => e = .returned (.int .i64 r) ∧ Below w.heap.size w w' := by
  have HB := Aside0.mk (Below.refl w.heap.size w)
  have H : ((flywheelref02_Do.f a0 a1 8000000 1).bind fun t136 => (some t136)) = some r := h
  clear h
  replace H := Option.bind_eq_some_iff.mp H
  obtain ⟨t136, A30, H⟩ := H
  replace H : (some t136) = some r := H
  have A3 := Aside0.mk A30
  clear A30
  obtain rfl := Option.some.inj H
  go_enter Try.func15, Try.ntmps15
  go_wp2_with (first | ((with_reducible refine gate_callee (f := 33) rfl ?_); refine goesL_ (some 7) rfl rfl Try.func33 (by kernel_rfl) rfl #[.int .i64 a0, .int .i64 a1, .int .i64 8000000, .int .i64 1] rfl (by (try simp only [List.map_toArray, List.map_cons, List.map_nil]); first | done | rfl | (simp only [List.length_drop, List.length_take]; rfl)) ?_; (with_reducible refine (flywheelref02_Do.calls a0 a1 8000000 1 t136 _ A3.out).mono ?_); rintro e w4 ⟨rfl, hb⟩; refine ⟨_, rfl, ?_⟩; have n0_ := Aside0.mk (below_step (by repeat (first | (with_reducible first | exact HB.out | apply below_alloc | apply pw_below_drewN | apply below_drew1) | exact HB.out)) hb); clear HB; have HB := n0_; clear n0_; (try clear hb); (try clear hb2); (try clear hk); (try clear hi)))
  go_ret
  exact ⟨by first | rfl | (simp [errW_none, errW_some] <;> rfl) | (simp [*, errW_none, errW_some] <;> rfl), by repeat (first | (with_reducible first | exact HB.out | apply below_alloc | apply pw_below_drewN | apply below_drew1) | exact HB.out)⟩

/-! ### units_rate_ticks: function 34 -/
def units_rate_ticks.f (a0 : Int) (a1 : Int) : Option (Int) := (muldiv_Do.f a1 8000000 a0 3).bind fun t137 => (some t137)
set_option maxHeartbeats 8000000 in
set_option maxRecDepth 100000 in
theorem units_rate_ticks.calls (a0 : Int) (a1 : Int) (r : Int) (w : World) (h : units_rate_ticks.f a0 a1 = some r) :
    Calls Try.prog 34 #[.int .i64 a0, .int .i64 a1] w fun e w' => e = .returned (.int .i64 r) ∧ Below w.heap.size w w' := by
  have HB := Aside0.mk (Below.refl w.heap.size w)
  have H : ((muldiv_Do.f a1 8000000 a0 3).bind fun t137 => (some t137)) = some r := h
  clear h
  replace H := Option.bind_eq_some_iff.mp H
  obtain ⟨t137, A30, H⟩ := H
  replace H : (some t137) = some r := H
  have A3 := Aside0.mk A30
  clear A30
  obtain rfl := Option.some.inj H
  go_enter Try.func34, Try.ntmps34
  go_wp2_with (first | ((with_reducible refine gate_callee (f := 24) rfl ?_); refine goesL_ (some 7) rfl rfl Try.func24 (by kernel_rfl) rfl #[.int .i64 a1, .int .i64 8000000, .int .i64 a0, .int .i64 3] rfl (by (try simp only [List.map_toArray, List.map_cons, List.map_nil]); first | done | rfl | (simp only [List.length_drop, List.length_take]; rfl)) ?_; (with_reducible refine (muldiv_Do.calls a1 8000000 a0 3 t137 _ A3.out).mono ?_); rintro e w4 ⟨rfl, hb⟩; refine ⟨_, rfl, ?_⟩; have n0_ := Aside0.mk (below_step (by repeat (first | (with_reducible first | exact HB.out | apply below_alloc | apply pw_below_drewN | apply below_drew1) | exact HB.out)) hb); clear HB; have HB := n0_; clear n0_; (try clear hb); (try clear hb2); (try clear hk); (try clear hi)))
  go_ret
  exact ⟨by first | rfl | (simp [errW_none, errW_some] <;> rfl) | (simp [*, errW_none, errW_some] <;> rfl), by repeat (first | (with_reducible first | exact HB.out | apply below_alloc | apply pw_below_drewN | apply below_drew1) | exact HB.out)⟩

/-! ### units_Ticks: function 16, by hand -/
def units_Ticks.f (a0 : Int) (a1 : Int) : Option (Int) := units_rate_ticks.f a0 a1
set_option maxHeartbeats 4000000 in
set_option maxRecDepth 100000 in
theorem units_Ticks.calls (a0 : Int) (a1 : Int) (r : Int) (w : World) (h : units_Ticks.f a0 a1 = some r) :
    Calls Try.prog 16 #[.int .i64 a0, .int .i64 a1] w fun e w' => e = .returned (.int .i64 r) ∧ Below w.heap.size w w' := by
  have H := Aside0.mk (show units_rate_ticks.f a0 a1 = some r from h)
  clear h
  go_enter Try.func16, Try.ntmps16
  go_wp2_with (first | (go_at_call 34; (with_reducible refine (units_rate_ticks.calls a0 a1 r _ H.out).mono ?_); rintro e w' ⟨rfl, hb⟩) | go_in)
  go_ret
  exact ⟨rfl, hb⟩

/-! ### flywheelref04_Ticks: function 17 -/
def flywheelref04_Ticks.f (a0 : Int) (a1 : Int) : Option (Int) := (flywheelref02_Do.f a1 8000000 a0 3).bind fun t138 => (some t138)
set_option maxHeartbeats 8000000 in
set_option maxRecDepth 100000 in
theorem flywheelref04_Ticks.calls (a0 : Int) (a1 : Int) (r : Int) (w : World) (h : flywheelref04_Ticks.f a0 a1 = some r) :
    Calls Try.prog 17 #[.int .i64 a0, .int .i64 a1] w fun e w' => e = .returned (.int .i64 r) ∧ Below w.heap.size w w' := by
  have HB := Aside0.mk (Below.refl w.heap.size w)
  have H : ((flywheelref02_Do.f a1 8000000 a0 3).bind fun t138 => (some t138)) = some r := h
  clear h
  replace H := Option.bind_eq_some_iff.mp H
  obtain ⟨t138, A30, H⟩ := H
  replace H : (some t138) = some r := H
  have A3 := Aside0.mk A30
  clear A30
  obtain rfl := Option.some.inj H
  go_enter Try.func17, Try.ntmps17
  go_wp2_with (first | ((with_reducible refine gate_callee (f := 33) rfl ?_); refine goesL_ (some 7) rfl rfl Try.func33 (by kernel_rfl) rfl #[.int .i64 a1, .int .i64 8000000, .int .i64 a0, .int .i64 3] rfl (by (try simp only [List.map_toArray, List.map_cons, List.map_nil]); first | done | rfl | (simp only [List.length_drop, List.length_take]; rfl)) ?_; (with_reducible refine (flywheelref02_Do.calls a1 8000000 a0 3 t138 _ A3.out).mono ?_); rintro e w4 ⟨rfl, hb⟩; refine ⟨_, rfl, ?_⟩; have n0_ := Aside0.mk (below_step (by repeat (first | (with_reducible first | exact HB.out | apply below_alloc | apply pw_below_drewN | apply below_drew1) | exact HB.out)) hb); clear HB; have HB := n0_; clear n0_; (try clear hb); (try clear hb2); (try clear hk); (try clear hi)))
  go_ret
  exact ⟨by first | rfl | (simp [errW_none, errW_some] <;> rfl) | (simp [*, errW_none, errW_some] <;> rfl), by repeat (first | (with_reducible first | exact HB.out | apply below_alloc | apply pw_below_drewN | apply below_drew1) | exact HB.out)⟩

/-! ### units_Rate: function 18 -/
def units_Rate.f (a0 : Int) (a1 : Int) : Option (Int) := (muldiv_Do.f a0 8000000 a1 1).bind fun t139 => (some t139)
set_option maxHeartbeats 8000000 in
set_option maxRecDepth 100000 in
theorem units_Rate.calls (a0 : Int) (a1 : Int) (r : Int) (w : World) (h : units_Rate.f a0 a1 = some r) :
    Calls Try.prog 18 #[.int .i64 a0, .int .i64 a1] w fun e w' => e = .returned (.int .i64 r) ∧ Below w.heap.size w w' := by
  have HB := Aside0.mk (Below.refl w.heap.size w)
  have H : ((muldiv_Do.f a0 8000000 a1 1).bind fun t139 => (some t139)) = some r := h
  clear h
  replace H := Option.bind_eq_some_iff.mp H
  obtain ⟨t139, A30, H⟩ := H
  replace H : (some t139) = some r := H
  have A3 := Aside0.mk A30
  clear A30
  obtain rfl := Option.some.inj H
  go_enter Try.func18, Try.ntmps18
  go_wp2_with (first | ((with_reducible refine gate_callee (f := 24) rfl ?_); refine goesL_ (some 7) rfl rfl Try.func24 (by kernel_rfl) rfl #[.int .i64 a0, .int .i64 8000000, .int .i64 a1, .int .i64 1] rfl (by (try simp only [List.map_toArray, List.map_cons, List.map_nil]); first | done | rfl | (simp only [List.length_drop, List.length_take]; rfl)) ?_; (with_reducible refine (muldiv_Do.calls a0 8000000 a1 1 t139 _ A3.out).mono ?_); rintro e w4 ⟨rfl, hb⟩; refine ⟨_, rfl, ?_⟩; have n0_ := Aside0.mk (below_step (by repeat (first | (with_reducible first | exact HB.out | apply below_alloc | apply pw_below_drewN | apply below_drew1) | exact HB.out)) hb); clear HB; have HB := n0_; clear n0_; (try clear hb); (try clear hb2); (try clear hk); (try clear hi)))
  go_ret
  exact ⟨by first | rfl | (simp [errW_none, errW_some] <;> rfl) | (simp [*, errW_none, errW_some] <;> rfl), by repeat (first | (with_reducible first | exact HB.out | apply below_alloc | apply pw_below_drewN | apply below_drew1) | exact HB.out)⟩

/-! ### flywheelref04_Rate: function 19 -/
def flywheelref04_Rate.f (a0 : Int) (a1 : Int) : Option (Int) := (flywheelref02_Do.f a0 8000000 a1 1).bind fun t140 => (some t140)
set_option maxHeartbeats 8000000 in
set_option maxRecDepth 100000 in
theorem flywheelref04_Rate.calls (a0 : Int) (a1 : Int) (r : Int) (w : World) (h : flywheelref04_Rate.f a0 a1 = some r) :
    Calls Try.prog 19 #[.int .i64 a0, .int .i64 a1] w fun e w' => e = .returned (.int .i64 r) ∧ Below w.heap.size w w' := by
  have HB := Aside0.mk (Below.refl w.heap.size w)
  have H : ((flywheelref02_Do.f a0 8000000 a1 1).bind fun t140 => (some t140)) = some r := h
  clear h
  replace H := Option.bind_eq_some_iff.mp H
  obtain ⟨t140, A30, H⟩ := H
  replace H : (some t140) = some r := H
  have A3 := Aside0.mk A30
  clear A30
  obtain rfl := Option.some.inj H
  go_enter Try.func19, Try.ntmps19
  go_wp2_with (first | ((with_reducible refine gate_callee (f := 33) rfl ?_); refine goesL_ (some 7) rfl rfl Try.func33 (by kernel_rfl) rfl #[.int .i64 a0, .int .i64 8000000, .int .i64 a1, .int .i64 1] rfl (by (try simp only [List.map_toArray, List.map_cons, List.map_nil]); first | done | rfl | (simp only [List.length_drop, List.length_take]; rfl)) ?_; (with_reducible refine (flywheelref02_Do.calls a0 8000000 a1 1 t140 _ A3.out).mono ?_); rintro e w4 ⟨rfl, hb⟩; refine ⟨_, rfl, ?_⟩; have n0_ := Aside0.mk (below_step (by repeat (first | (with_reducible first | exact HB.out | apply below_alloc | apply pw_below_drewN | apply below_drew1) | exact HB.out)) hb); clear HB; have HB := n0_; clear n0_; (try clear hb); (try clear hb2); (try clear hk); (try clear hi)))
  go_ret
  exact ⟨by first | rfl | (simp [errW_none, errW_some] <;> rfl) | (simp [*, errW_none, errW_some] <;> rfl), by repeat (first | (with_reducible first | exact HB.out | apply below_alloc | apply pw_below_drewN | apply below_drew1) | exact HB.out)⟩

/-! ### units_stamped: function 39 -/
def units_stamped.f (a0 : Int) : Option (Int) := (muldiv_Do.f a0 65536 1000000 1).bind fun t141 => (some t141)
set_option maxHeartbeats 8000000 in
set_option maxRecDepth 100000 in
theorem units_stamped.calls (a0 : Int) (r : Int) (w : World) (h : units_stamped.f a0 = some r) :
    Calls Try.prog 39 #[.int .i64 a0] w fun e w' => e = .returned (.int .i64 r) ∧ Below w.heap.size w w' := by
  have HB := Aside0.mk (Below.refl w.heap.size w)
  have H : ((muldiv_Do.f a0 65536 1000000 1).bind fun t141 => (some t141)) = some r := h
  clear h
  replace H := Option.bind_eq_some_iff.mp H
  obtain ⟨t141, A20, H⟩ := H
  replace H : (some t141) = some r := H
  have A2 := Aside0.mk A20
  clear A20
  obtain rfl := Option.some.inj H
  go_enter Try.func39, Try.ntmps39
  go_wp2_with (first | ((with_reducible refine gate_callee (f := 24) rfl ?_); refine goesL_ (some 4) rfl rfl Try.func24 (by kernel_rfl) rfl #[.int .i64 a0, .int .i64 65536, .int .i64 1000000, .int .i64 1] rfl (by (try simp only [List.map_toArray, List.map_cons, List.map_nil]); first | done | rfl | (simp only [List.length_drop, List.length_take]; rfl)) ?_; (with_reducible refine (muldiv_Do.calls a0 65536 1000000 1 t141 _ A2.out).mono ?_); rintro e w3 ⟨rfl, hb⟩; refine ⟨_, rfl, ?_⟩; have n0_ := Aside0.mk (below_step (by repeat (first | (with_reducible first | exact HB.out | apply below_alloc | apply pw_below_drewN | apply below_drew1) | exact HB.out)) hb); clear HB; have HB := n0_; clear n0_; (try clear hb); (try clear hb2); (try clear hk); (try clear hi)))
  go_ret
  exact ⟨by first | rfl | (simp [errW_none, errW_some] <;> rfl) | (simp [*, errW_none, errW_some] <;> rfl), by repeat (first | (with_reducible first | exact HB.out | apply below_alloc | apply pw_below_drewN | apply below_drew1) | exact HB.out)⟩

/-! ### units_Stamp: function 27 -/
def units_Stamp.f (a0 : Int) : Option (Int) := (units_stamped.f a0).bind fun t142 => (some ((t142) % 4294967296))
set_option maxHeartbeats 8000000 in
set_option maxRecDepth 100000 in
theorem units_Stamp.calls (a0 : Int) (r : Int) (w : World) (h : units_Stamp.f a0 = some r) :
    Calls Try.prog 27 #[.int .i64 a0] w fun e w' => e = .returned (.int .u32 r) ∧ Below w.heap.size w w' := by
  have HB := Aside0.mk (Below.refl w.heap.size w)
  have H : ((units_stamped.f a0).bind fun t142 => (some ((t142) % 4294967296))) = some r := h
  clear h
  replace H := Option.bind_eq_some_iff.mp H
  obtain ⟨t142, A20, H⟩ := H
  replace H : (some ((t142) % 4294967296)) = some r := H
  have A2 := Aside0.mk A20
  clear A20
  obtain rfl := Option.some.inj H
  go_enter Try.func27, Try.ntmps27
  go_wp2_with (first | ((with_reducible refine gate_callee (f := 39) rfl ?_); refine goesL_ (some 4) rfl rfl Try.func39 (by kernel_rfl) rfl #[.int .i64 a0] rfl (by (try simp only [List.map_toArray, List.map_cons, List.map_nil]); first | done | rfl | (simp only [List.length_drop, List.length_take]; rfl)) ?_; (with_reducible refine (units_stamped.calls a0 t142 _ A2.out).mono ?_); rintro e w3 ⟨rfl, hb⟩; refine ⟨_, rfl, ?_⟩; have n0_ := Aside0.mk (below_step (by repeat (first | (with_reducible first | exact HB.out | apply below_alloc | apply pw_below_drewN | apply below_drew1) | exact HB.out)) hb); clear HB; have HB := n0_; clear n0_; (try clear hb); (try clear hb2); (try clear hk); (try clear hi)))
  go_ret
  exact ⟨by first | rfl | (simp [errW_none, errW_some] <;> rfl) | (simp [*, errW_none, errW_some] <;> rfl), by repeat (first | (with_reducible first | exact HB.out | apply below_alloc | apply pw_below_drewN | apply below_drew1) | exact HB.out)⟩

/-! ### flywheellaw04_wakes: function 20 -/
def flywheellaw04_wakes.f  : Option (Bool) := (units_Bytes.f 8000000 1000).bind fun t143 => (if t143 = 1000 then ((units_Ticks.f 8000000 1500).bind fun t144 => (if t144 = 1500 then ((units_Rate.f 1000 1000).bind fun t145 => (if t145 = 8000000 then ((units_Stamp.f 1000000).bind fun t146 => (some (t146 == 65536))) else (some false))) else (some false))) else (some false))
set_option maxHeartbeats 8000000 in
set_option maxRecDepth 100000 in
theorem flywheellaw04_wakes.calls  (r : Bool) (w : World) (h : flywheellaw04_wakes.f  = some r) :
    Calls Try.prog 20 #[] w fun e w' => e = .returned (.bool r) ∧ Below w.heap.size w w' := by
  have HB := Aside0.mk (Below.refl w.heap.size w)
  have H : ((units_Bytes.f 8000000 1000).bind fun t143 => (if t143 = 1000 then ((units_Ticks.f 8000000 1500).bind fun t144 => (if t144 = 1500 then ((units_Rate.f 1000 1000).bind fun t145 => (if t145 = 8000000 then ((units_Stamp.f 1000000).bind fun t146 => (some (t146 == 65536))) else (some false))) else (some false))) else (some false))) = some r := h
  clear h
  replace H := Option.bind_eq_some_iff.mp H
  obtain ⟨t143, A10, H⟩ := H
  replace H : (if t143 = 1000 then ((units_Ticks.f 8000000 1500).bind fun t144 => (if t144 = 1500 then ((units_Rate.f 1000 1000).bind fun t145 => (if t145 = 8000000 then ((units_Stamp.f 1000000).bind fun t146 => (some (t146 == 65536))) else (some false))) else (some false))) else (some false)) = some r := H
  have A1 := Aside0.mk A10
  clear A10
  by_cases c2 : t143 = 1000
  · rw [if_pos c2] at H
    have c2b0 : (t143 == 1000) = true := beq_iff_eq.mpr c2
    have c2b1 : (t143 != 1000) = false := bne_eq_false_iff_eq.mpr c2
    clear c2
    replace H := Option.bind_eq_some_iff.mp H
    obtain ⟨t144, A30, H⟩ := H
    replace H : (if t144 = 1500 then ((units_Rate.f 1000 1000).bind fun t145 => (if t145 = 8000000 then ((units_Stamp.f 1000000).bind fun t146 => (some (t146 == 65536))) else (some false))) else (some false)) = some r := H
    have A3 := Aside0.mk A30
    clear A30
    by_cases c4 : t144 = 1500
    · rw [if_pos c4] at H
      have c4b0 : (t144 == 1500) = true := beq_iff_eq.mpr c4
      have c4b1 : (t144 != 1500) = false := bne_eq_false_iff_eq.mpr c4
      clear c4
      replace H := Option.bind_eq_some_iff.mp H
      obtain ⟨t145, A50, H⟩ := H
      replace H : (if t145 = 8000000 then ((units_Stamp.f 1000000).bind fun t146 => (some (t146 == 65536))) else (some false)) = some r := H
      have A5 := Aside0.mk A50
      clear A50
      by_cases c6 : t145 = 8000000
      · rw [if_pos c6] at H
        have c6b0 : (t145 == 8000000) = true := beq_iff_eq.mpr c6
        have c6b1 : (t145 != 8000000) = false := bne_eq_false_iff_eq.mpr c6
        clear c6
        replace H := Option.bind_eq_some_iff.mp H
        obtain ⟨t146, A70, H⟩ := H
        replace H : (some (t146 == 65536)) = some r := H
        have A7 := Aside0.mk A70
        clear A70
        obtain rfl := Option.some.inj H
        go_enter Try.func20, Try.ntmps20
        go_wp2_with (first | ((with_reducible refine gate_callee (f := 14) rfl ?_); refine goesL_ (some 1) rfl rfl Try.func14 (by kernel_rfl) rfl #[.int .i64 8000000, .int .i64 1000] rfl (by (try simp only [List.map_toArray, List.map_cons, List.map_nil]); first | done | rfl | (simp only [List.length_drop, List.length_take]; rfl)) ?_; (with_reducible refine (units_Bytes.calls 8000000 1000 t143 _ A1.out).mono ?_); rintro e w8 ⟨rfl, hb⟩; refine ⟨_, rfl, ?_⟩; have n0_ := Aside0.mk (below_step (by repeat (first | (with_reducible first | exact HB.out | apply below_alloc | apply pw_below_drewN | apply below_drew1) | exact HB.out)) hb); clear HB; have HB := n0_; clear n0_; (try clear hb); (try clear hb2); (try clear hk); (try clear hi)) | (go_at_call 16; (with_reducible refine (units_Ticks.calls 8000000 1500 t144 _ A3.out).mono ?_); rintro e w9 ⟨rfl, hb⟩; have n0_ := Aside0.mk (below_step (by repeat (first | (with_reducible first | exact HB.out | apply below_alloc | apply pw_below_drewN | apply below_drew1) | exact HB.out)) hb); clear HB; have HB := n0_; clear n0_; (try clear hb); (try clear hb2); (try clear hk); (try clear hi)) | (go_at_call 18; (with_reducible refine (units_Rate.calls 1000 1000 t145 _ A5.out).mono ?_); rintro e w10 ⟨rfl, hb⟩; have n0_ := Aside0.mk (below_step (by repeat (first | (with_reducible first | exact HB.out | apply below_alloc | apply pw_below_drewN | apply below_drew1) | exact HB.out)) hb); clear HB; have HB := n0_; clear n0_; (try clear hb); (try clear hb2); (try clear hk); (try clear hi)) | (go_at_call 27; (with_reducible refine (units_Stamp.calls 1000000 t146 _ A7.out).mono ?_); rintro e w11 ⟨rfl, hb⟩; have n0_ := Aside0.mk (below_step (by repeat (first | (with_reducible first | exact HB.out | apply below_alloc | apply pw_below_drewN | apply below_drew1) | exact HB.out)) hb); clear HB; have HB := n0_; clear n0_; (try clear hb); (try clear hb2); (try clear hk); (try clear hi)))
        go_ret
        exact ⟨by first | rfl | (simp [errW_none, errW_some] <;> rfl) | (simp [*, errW_none, errW_some] <;> rfl), by repeat (first | (with_reducible first | exact HB.out | apply below_alloc | apply pw_below_drewN | apply below_drew1) | exact HB.out)⟩
      · rw [if_neg c6] at H
        have c6b0 : (t145 == 8000000) = false := beq_eq_false_iff_ne.mpr c6
        have c6b1 : (t145 != 8000000) = true := bne_iff_ne.mpr c6
        obtain rfl := Option.some.inj H
        go_enter Try.func20, Try.ntmps20
        go_wp2_with (first | ((with_reducible refine gate_callee (f := 14) rfl ?_); refine goesL_ (some 1) rfl rfl Try.func14 (by kernel_rfl) rfl #[.int .i64 8000000, .int .i64 1000] rfl (by (try simp only [List.map_toArray, List.map_cons, List.map_nil]); first | done | rfl | (simp only [List.length_drop, List.length_take]; rfl)) ?_; (with_reducible refine (units_Bytes.calls 8000000 1000 t143 _ A1.out).mono ?_); rintro e w12 ⟨rfl, hb⟩; refine ⟨_, rfl, ?_⟩; have n0_ := Aside0.mk (below_step (by repeat (first | (with_reducible first | exact HB.out | apply below_alloc | apply pw_below_drewN | apply below_drew1) | exact HB.out)) hb); clear HB; have HB := n0_; clear n0_; (try clear hb); (try clear hb2); (try clear hk); (try clear hi)) | (go_at_call 16; (with_reducible refine (units_Ticks.calls 8000000 1500 t144 _ A3.out).mono ?_); rintro e w13 ⟨rfl, hb⟩; have n0_ := Aside0.mk (below_step (by repeat (first | (with_reducible first | exact HB.out | apply below_alloc | apply pw_below_drewN | apply below_drew1) | exact HB.out)) hb); clear HB; have HB := n0_; clear n0_; (try clear hb); (try clear hb2); (try clear hk); (try clear hi)) | (go_at_call 18; (with_reducible refine (units_Rate.calls 1000 1000 t145 _ A5.out).mono ?_); rintro e w14 ⟨rfl, hb⟩; have n0_ := Aside0.mk (below_step (by repeat (first | (with_reducible first | exact HB.out | apply below_alloc | apply pw_below_drewN | apply below_drew1) | exact HB.out)) hb); clear HB; have HB := n0_; clear n0_; (try clear hb); (try clear hb2); (try clear hk); (try clear hi)))
        go_ret
        exact ⟨by first | rfl | (simp [errW_none, errW_some] <;> rfl) | (simp [*, errW_none, errW_some] <;> rfl), by repeat (first | (with_reducible first | exact HB.out | apply below_alloc | apply pw_below_drewN | apply below_drew1) | exact HB.out)⟩
    · rw [if_neg c4] at H
      have c4b0 : (t144 == 1500) = false := beq_eq_false_iff_ne.mpr c4
      have c4b1 : (t144 != 1500) = true := bne_iff_ne.mpr c4
      obtain rfl := Option.some.inj H
      go_enter Try.func20, Try.ntmps20
      go_wp2_with (first | ((with_reducible refine gate_callee (f := 14) rfl ?_); refine goesL_ (some 1) rfl rfl Try.func14 (by kernel_rfl) rfl #[.int .i64 8000000, .int .i64 1000] rfl (by (try simp only [List.map_toArray, List.map_cons, List.map_nil]); first | done | rfl | (simp only [List.length_drop, List.length_take]; rfl)) ?_; (with_reducible refine (units_Bytes.calls 8000000 1000 t143 _ A1.out).mono ?_); rintro e w15 ⟨rfl, hb⟩; refine ⟨_, rfl, ?_⟩; have n0_ := Aside0.mk (below_step (by repeat (first | (with_reducible first | exact HB.out | apply below_alloc | apply pw_below_drewN | apply below_drew1) | exact HB.out)) hb); clear HB; have HB := n0_; clear n0_; (try clear hb); (try clear hb2); (try clear hk); (try clear hi)) | (go_at_call 16; (with_reducible refine (units_Ticks.calls 8000000 1500 t144 _ A3.out).mono ?_); rintro e w16 ⟨rfl, hb⟩; have n0_ := Aside0.mk (below_step (by repeat (first | (with_reducible first | exact HB.out | apply below_alloc | apply pw_below_drewN | apply below_drew1) | exact HB.out)) hb); clear HB; have HB := n0_; clear n0_; (try clear hb); (try clear hb2); (try clear hk); (try clear hi)))
      go_ret
      exact ⟨by first | rfl | (simp [errW_none, errW_some] <;> rfl) | (simp [*, errW_none, errW_some] <;> rfl), by repeat (first | (with_reducible first | exact HB.out | apply below_alloc | apply pw_below_drewN | apply below_drew1) | exact HB.out)⟩
  · rw [if_neg c2] at H
    have c2b0 : (t143 == 1000) = false := beq_eq_false_iff_ne.mpr c2
    have c2b1 : (t143 != 1000) = true := bne_iff_ne.mpr c2
    obtain rfl := Option.some.inj H
    go_enter Try.func20, Try.ntmps20
    go_wp2_with (first | ((with_reducible refine gate_callee (f := 14) rfl ?_); refine goesL_ (some 1) rfl rfl Try.func14 (by kernel_rfl) rfl #[.int .i64 8000000, .int .i64 1000] rfl (by (try simp only [List.map_toArray, List.map_cons, List.map_nil]); first | done | rfl | (simp only [List.length_drop, List.length_take]; rfl)) ?_; (with_reducible refine (units_Bytes.calls 8000000 1000 t143 _ A1.out).mono ?_); rintro e w17 ⟨rfl, hb⟩; refine ⟨_, rfl, ?_⟩; have n0_ := Aside0.mk (below_step (by repeat (first | (with_reducible first | exact HB.out | apply below_alloc | apply pw_below_drewN | apply below_drew1) | exact HB.out)) hb); clear HB; have HB := n0_; clear n0_; (try clear hb); (try clear hb2); (try clear hk); (try clear hi)))
    go_ret
    exact ⟨by first | rfl | (simp [errW_none, errW_some] <;> rfl) | (simp [*, errW_none, errW_some] <;> rfl), by repeat (first | (with_reducible first | exact HB.out | apply below_alloc | apply pw_below_drewN | apply below_drew1) | exact HB.out)⟩

/-! ### flywheellaw04_UnitsDoes: function 3 -/
def flywheellaw04_UnitsDoes.f (a0 : Int) (a1 : Int) : Option (Bool) := (units_Bytes.f a0 a1).bind fun t147 => ((flywheelref04_Bytes.f a0 a1).bind fun t148 => (if t147 = t148 then ((units_Ticks.f a0 a1).bind fun t149 => ((flywheelref04_Ticks.f a0 a1).bind fun t150 => (if t149 = t150 then ((units_Rate.f a0 a1).bind fun t151 => ((flywheelref04_Rate.f a0 a1).bind fun t152 => (if t151 = t152 then ((flywheellaw04_wakes.f).bind fun t153 => (some t153)) else (some false)))) else (some false)))) else (some false)))
set_option maxHeartbeats 8000000 in
set_option maxRecDepth 100000 in
theorem flywheellaw04_UnitsDoes.calls (a0 : Int) (a1 : Int) (r : Bool) (w : World) (h : flywheellaw04_UnitsDoes.f a0 a1 = some r) :
    Calls Try.prog 3 #[.int .i64 a0, .int .i64 a1] w fun e w' => e = .returned (.bool r) ∧ Below w.heap.size w w' := by
  have HB := Aside0.mk (Below.refl w.heap.size w)
  have H : ((units_Bytes.f a0 a1).bind fun t147 => ((flywheelref04_Bytes.f a0 a1).bind fun t148 => (if t147 = t148 then ((units_Ticks.f a0 a1).bind fun t149 => ((flywheelref04_Ticks.f a0 a1).bind fun t150 => (if t149 = t150 then ((units_Rate.f a0 a1).bind fun t151 => ((flywheelref04_Rate.f a0 a1).bind fun t152 => (if t151 = t152 then ((flywheellaw04_wakes.f).bind fun t153 => (some t153)) else (some false)))) else (some false)))) else (some false)))) = some r := h
  clear h
  replace H := Option.bind_eq_some_iff.mp H
  obtain ⟨t147, A30, H⟩ := H
  replace H : ((flywheelref04_Bytes.f a0 a1).bind fun t148 => (if t147 = t148 then ((units_Ticks.f a0 a1).bind fun t149 => ((flywheelref04_Ticks.f a0 a1).bind fun t150 => (if t149 = t150 then ((units_Rate.f a0 a1).bind fun t151 => ((flywheelref04_Rate.f a0 a1).bind fun t152 => (if t151 = t152 then ((flywheellaw04_wakes.f).bind fun t153 => (some t153)) else (some false)))) else (some false)))) else (some false))) = some r := H
  have A3 := Aside0.mk A30
  clear A30
  replace H := Option.bind_eq_some_iff.mp H
  obtain ⟨t148, A40, H⟩ := H
  replace H : (if t147 = t148 then ((units_Ticks.f a0 a1).bind fun t149 => ((flywheelref04_Ticks.f a0 a1).bind fun t150 => (if t149 = t150 then ((units_Rate.f a0 a1).bind fun t151 => ((flywheelref04_Rate.f a0 a1).bind fun t152 => (if t151 = t152 then ((flywheellaw04_wakes.f).bind fun t153 => (some t153)) else (some false)))) else (some false)))) else (some false)) = some r := H
  have A4 := Aside0.mk A40
  clear A40
  by_cases c5 : t147 = t148
  · rw [if_pos c5] at H
    have c5b0 : (t147 == t148) = true := beq_iff_eq.mpr c5
    have c5b1 : (t147 != t148) = false := bne_eq_false_iff_eq.mpr c5
    clear c5
    replace H := Option.bind_eq_some_iff.mp H
    obtain ⟨t149, A60, H⟩ := H
    replace H : ((flywheelref04_Ticks.f a0 a1).bind fun t150 => (if t149 = t150 then ((units_Rate.f a0 a1).bind fun t151 => ((flywheelref04_Rate.f a0 a1).bind fun t152 => (if t151 = t152 then ((flywheellaw04_wakes.f).bind fun t153 => (some t153)) else (some false)))) else (some false))) = some r := H
    have A6 := Aside0.mk A60
    clear A60
    replace H := Option.bind_eq_some_iff.mp H
    obtain ⟨t150, A70, H⟩ := H
    replace H : (if t149 = t150 then ((units_Rate.f a0 a1).bind fun t151 => ((flywheelref04_Rate.f a0 a1).bind fun t152 => (if t151 = t152 then ((flywheellaw04_wakes.f).bind fun t153 => (some t153)) else (some false)))) else (some false)) = some r := H
    have A7 := Aside0.mk A70
    clear A70
    by_cases c8 : t149 = t150
    · rw [if_pos c8] at H
      have c8b0 : (t149 == t150) = true := beq_iff_eq.mpr c8
      have c8b1 : (t149 != t150) = false := bne_eq_false_iff_eq.mpr c8
      clear c8
      replace H := Option.bind_eq_some_iff.mp H
      obtain ⟨t151, A90, H⟩ := H
      replace H : ((flywheelref04_Rate.f a0 a1).bind fun t152 => (if t151 = t152 then ((flywheellaw04_wakes.f).bind fun t153 => (some t153)) else (some false))) = some r := H
      have A9 := Aside0.mk A90
      clear A90
      replace H := Option.bind_eq_some_iff.mp H
      obtain ⟨t152, A100, H⟩ := H
      replace H : (if t151 = t152 then ((flywheellaw04_wakes.f).bind fun t153 => (some t153)) else (some false)) = some r := H
      have A10 := Aside0.mk A100
      clear A100
      by_cases c11 : t151 = t152
      · rw [if_pos c11] at H
        have c11b0 : (t151 == t152) = true := beq_iff_eq.mpr c11
        have c11b1 : (t151 != t152) = false := bne_eq_false_iff_eq.mpr c11
        clear c11
        replace H := Option.bind_eq_some_iff.mp H
        obtain ⟨t153, A120, H⟩ := H
        replace H : (some t153) = some r := H
        have A12 := Aside0.mk A120
        clear A120
        obtain rfl := Option.some.inj H
        go_enter Try.func3, Try.ntmps3
        go_wp2_with (first | ((with_reducible refine gate_callee (f := 14) rfl ?_); refine goesL_ (some 7) rfl rfl Try.func14 (by kernel_rfl) rfl #[.int .i64 a0, .int .i64 a1] rfl (by (try simp only [List.map_toArray, List.map_cons, List.map_nil]); first | done | rfl | (simp only [List.length_drop, List.length_take]; rfl)) ?_; (with_reducible refine (units_Bytes.calls a0 a1 t147 _ A3.out).mono ?_); rintro e w13 ⟨rfl, hb⟩; refine ⟨_, rfl, ?_⟩; have n0_ := Aside0.mk (below_step (by repeat (first | (with_reducible first | exact HB.out | apply below_alloc | apply pw_below_drewN | apply below_drew1) | exact HB.out)) hb); clear HB; have HB := n0_; clear n0_; (try clear hb); (try clear hb2); (try clear hk); (try clear hi)) | ((with_reducible refine gate_callee (f := 15) rfl ?_); refine goesL_ (some 10) rfl rfl Try.func15 (by kernel_rfl) rfl #[.int .i64 a0, .int .i64 a1] rfl (by (try simp only [List.map_toArray, List.map_cons, List.map_nil]); first | done | rfl | (simp only [List.length_drop, List.length_take]; rfl)) ?_; (with_reducible refine (flywheelref04_Bytes.calls a0 a1 t148 _ A4.out).mono ?_); rintro e w14 ⟨rfl, hb⟩; refine ⟨_, rfl, ?_⟩; have n0_ := Aside0.mk (below_step (by repeat (first | (with_reducible first | exact HB.out | apply below_alloc | apply pw_below_drewN | apply below_drew1) | exact HB.out)) hb); clear HB; have HB := n0_; clear n0_; (try clear hb); (try clear hb2); (try clear hk); (try clear hi)) | (go_at_call 16; (with_reducible refine (units_Ticks.calls a0 a1 t149 _ A6.out).mono ?_); rintro e w15 ⟨rfl, hb⟩; have n0_ := Aside0.mk (below_step (by repeat (first | (with_reducible first | exact HB.out | apply below_alloc | apply pw_below_drewN | apply below_drew1) | exact HB.out)) hb); clear HB; have HB := n0_; clear n0_; (try clear hb); (try clear hb2); (try clear hk); (try clear hi)) | (go_at_call 17; (with_reducible refine (flywheelref04_Ticks.calls a0 a1 t150 _ A7.out).mono ?_); rintro e w16 ⟨rfl, hb⟩; have n0_ := Aside0.mk (below_step (by repeat (first | (with_reducible first | exact HB.out | apply below_alloc | apply pw_below_drewN | apply below_drew1) | exact HB.out)) hb); clear HB; have HB := n0_; clear n0_; (try clear hb); (try clear hb2); (try clear hk); (try clear hi)) | (go_at_call 18; (with_reducible refine (units_Rate.calls a0 a1 t151 _ A9.out).mono ?_); rintro e w17 ⟨rfl, hb⟩; have n0_ := Aside0.mk (below_step (by repeat (first | (with_reducible first | exact HB.out | apply below_alloc | apply pw_below_drewN | apply below_drew1) | exact HB.out)) hb); clear HB; have HB := n0_; clear n0_; (try clear hb); (try clear hb2); (try clear hk); (try clear hi)) | (go_at_call 19; (with_reducible refine (flywheelref04_Rate.calls a0 a1 t152 _ A10.out).mono ?_); rintro e w18 ⟨rfl, hb⟩; have n0_ := Aside0.mk (below_step (by repeat (first | (with_reducible first | exact HB.out | apply below_alloc | apply pw_below_drewN | apply below_drew1) | exact HB.out)) hb); clear HB; have HB := n0_; clear n0_; (try clear hb); (try clear hb2); (try clear hk); (try clear hi)) | (go_at_call 20; (with_reducible refine (flywheellaw04_wakes.calls  t153 _ A12.out).mono ?_); rintro e w19 ⟨rfl, hb⟩; have n0_ := Aside0.mk (below_step (by repeat (first | (with_reducible first | exact HB.out | apply below_alloc | apply pw_below_drewN | apply below_drew1) | exact HB.out)) hb); clear HB; have HB := n0_; clear n0_; (try clear hb); (try clear hb2); (try clear hk); (try clear hi)))
        go_ret
        exact ⟨by first | rfl | (simp [errW_none, errW_some] <;> rfl) | (simp [*, errW_none, errW_some] <;> rfl), by repeat (first | (with_reducible first | exact HB.out | apply below_alloc | apply pw_below_drewN | apply below_drew1) | exact HB.out)⟩
      · rw [if_neg c11] at H
        have c11b0 : (t151 == t152) = false := beq_eq_false_iff_ne.mpr c11
        have c11b1 : (t151 != t152) = true := bne_iff_ne.mpr c11
        obtain rfl := Option.some.inj H
        go_enter Try.func3, Try.ntmps3
        go_wp2_with (first | ((with_reducible refine gate_callee (f := 14) rfl ?_); refine goesL_ (some 7) rfl rfl Try.func14 (by kernel_rfl) rfl #[.int .i64 a0, .int .i64 a1] rfl (by (try simp only [List.map_toArray, List.map_cons, List.map_nil]); first | done | rfl | (simp only [List.length_drop, List.length_take]; rfl)) ?_; (with_reducible refine (units_Bytes.calls a0 a1 t147 _ A3.out).mono ?_); rintro e w20 ⟨rfl, hb⟩; refine ⟨_, rfl, ?_⟩; have n0_ := Aside0.mk (below_step (by repeat (first | (with_reducible first | exact HB.out | apply below_alloc | apply pw_below_drewN | apply below_drew1) | exact HB.out)) hb); clear HB; have HB := n0_; clear n0_; (try clear hb); (try clear hb2); (try clear hk); (try clear hi)) | ((with_reducible refine gate_callee (f := 15) rfl ?_); refine goesL_ (some 10) rfl rfl Try.func15 (by kernel_rfl) rfl #[.int .i64 a0, .int .i64 a1] rfl (by (try simp only [List.map_toArray, List.map_cons, List.map_nil]); first | done | rfl | (simp only [List.length_drop, List.length_take]; rfl)) ?_; (with_reducible refine (flywheelref04_Bytes.calls a0 a1 t148 _ A4.out).mono ?_); rintro e w21 ⟨rfl, hb⟩; refine ⟨_, rfl, ?_⟩; have n0_ := Aside0.mk (below_step (by repeat (first | (with_reducible first | exact HB.out | apply below_alloc | apply pw_below_drewN | apply below_drew1) | exact HB.out)) hb); clear HB; have HB := n0_; clear n0_; (try clear hb); (try clear hb2); (try clear hk); (try clear hi)) | (go_at_call 16; (with_reducible refine (units_Ticks.calls a0 a1 t149 _ A6.out).mono ?_); rintro e w22 ⟨rfl, hb⟩; have n0_ := Aside0.mk (below_step (by repeat (first | (with_reducible first | exact HB.out | apply below_alloc | apply pw_below_drewN | apply below_drew1) | exact HB.out)) hb); clear HB; have HB := n0_; clear n0_; (try clear hb); (try clear hb2); (try clear hk); (try clear hi)) | (go_at_call 17; (with_reducible refine (flywheelref04_Ticks.calls a0 a1 t150 _ A7.out).mono ?_); rintro e w23 ⟨rfl, hb⟩; have n0_ := Aside0.mk (below_step (by repeat (first | (with_reducible first | exact HB.out | apply below_alloc | apply pw_below_drewN | apply below_drew1) | exact HB.out)) hb); clear HB; have HB := n0_; clear n0_; (try clear hb); (try clear hb2); (try clear hk); (try clear hi)) | (go_at_call 18; (with_reducible refine (units_Rate.calls a0 a1 t151 _ A9.out).mono ?_); rintro e w24 ⟨rfl, hb⟩; have n0_ := Aside0.mk (below_step (by repeat (first | (with_reducible first | exact HB.out | apply below_alloc | apply pw_below_drewN | apply below_drew1) | exact HB.out)) hb); clear HB; have HB := n0_; clear n0_; (try clear hb); (try clear hb2); (try clear hk); (try clear hi)) | (go_at_call 19; (with_reducible refine (flywheelref04_Rate.calls a0 a1 t152 _ A10.out).mono ?_); rintro e w25 ⟨rfl, hb⟩; have n0_ := Aside0.mk (below_step (by repeat (first | (with_reducible first | exact HB.out | apply below_alloc | apply pw_below_drewN | apply below_drew1) | exact HB.out)) hb); clear HB; have HB := n0_; clear n0_; (try clear hb); (try clear hb2); (try clear hk); (try clear hi)))
        go_ret
        exact ⟨by first | rfl | (simp [errW_none, errW_some] <;> rfl) | (simp [*, errW_none, errW_some] <;> rfl), by repeat (first | (with_reducible first | exact HB.out | apply below_alloc | apply pw_below_drewN | apply below_drew1) | exact HB.out)⟩
    · rw [if_neg c8] at H
      have c8b0 : (t149 == t150) = false := beq_eq_false_iff_ne.mpr c8
      have c8b1 : (t149 != t150) = true := bne_iff_ne.mpr c8
      obtain rfl := Option.some.inj H
      go_enter Try.func3, Try.ntmps3
      go_wp2_with (first | ((with_reducible refine gate_callee (f := 14) rfl ?_); refine goesL_ (some 7) rfl rfl Try.func14 (by kernel_rfl) rfl #[.int .i64 a0, .int .i64 a1] rfl (by (try simp only [List.map_toArray, List.map_cons, List.map_nil]); first | done | rfl | (simp only [List.length_drop, List.length_take]; rfl)) ?_; (with_reducible refine (units_Bytes.calls a0 a1 t147 _ A3.out).mono ?_); rintro e w26 ⟨rfl, hb⟩; refine ⟨_, rfl, ?_⟩; have n0_ := Aside0.mk (below_step (by repeat (first | (with_reducible first | exact HB.out | apply below_alloc | apply pw_below_drewN | apply below_drew1) | exact HB.out)) hb); clear HB; have HB := n0_; clear n0_; (try clear hb); (try clear hb2); (try clear hk); (try clear hi)) | ((with_reducible refine gate_callee (f := 15) rfl ?_); refine goesL_ (some 10) rfl rfl Try.func15 (by kernel_rfl) rfl #[.int .i64 a0, .int .i64 a1] rfl (by (try simp only [List.map_toArray, List.map_cons, List.map_nil]); first | done | rfl | (simp only [List.length_drop, List.length_take]; rfl)) ?_; (with_reducible refine (flywheelref04_Bytes.calls a0 a1 t148 _ A4.out).mono ?_); rintro e w27 ⟨rfl, hb⟩; refine ⟨_, rfl, ?_⟩; have n0_ := Aside0.mk (below_step (by repeat (first | (with_reducible first | exact HB.out | apply below_alloc | apply pw_below_drewN | apply below_drew1) | exact HB.out)) hb); clear HB; have HB := n0_; clear n0_; (try clear hb); (try clear hb2); (try clear hk); (try clear hi)) | (go_at_call 16; (with_reducible refine (units_Ticks.calls a0 a1 t149 _ A6.out).mono ?_); rintro e w28 ⟨rfl, hb⟩; have n0_ := Aside0.mk (below_step (by repeat (first | (with_reducible first | exact HB.out | apply below_alloc | apply pw_below_drewN | apply below_drew1) | exact HB.out)) hb); clear HB; have HB := n0_; clear n0_; (try clear hb); (try clear hb2); (try clear hk); (try clear hi)) | (go_at_call 17; (with_reducible refine (flywheelref04_Ticks.calls a0 a1 t150 _ A7.out).mono ?_); rintro e w29 ⟨rfl, hb⟩; have n0_ := Aside0.mk (below_step (by repeat (first | (with_reducible first | exact HB.out | apply below_alloc | apply pw_below_drewN | apply below_drew1) | exact HB.out)) hb); clear HB; have HB := n0_; clear n0_; (try clear hb); (try clear hb2); (try clear hk); (try clear hi)))
      go_ret
      exact ⟨by first | rfl | (simp [errW_none, errW_some] <;> rfl) | (simp [*, errW_none, errW_some] <;> rfl), by repeat (first | (with_reducible first | exact HB.out | apply below_alloc | apply pw_below_drewN | apply below_drew1) | exact HB.out)⟩
  · rw [if_neg c5] at H
    have c5b0 : (t147 == t148) = false := beq_eq_false_iff_ne.mpr c5
    have c5b1 : (t147 != t148) = true := bne_iff_ne.mpr c5
    obtain rfl := Option.some.inj H
    go_enter Try.func3, Try.ntmps3
    go_wp2_with (first | ((with_reducible refine gate_callee (f := 14) rfl ?_); refine goesL_ (some 7) rfl rfl Try.func14 (by kernel_rfl) rfl #[.int .i64 a0, .int .i64 a1] rfl (by (try simp only [List.map_toArray, List.map_cons, List.map_nil]); first | done | rfl | (simp only [List.length_drop, List.length_take]; rfl)) ?_; (with_reducible refine (units_Bytes.calls a0 a1 t147 _ A3.out).mono ?_); rintro e w30 ⟨rfl, hb⟩; refine ⟨_, rfl, ?_⟩; have n0_ := Aside0.mk (below_step (by repeat (first | (with_reducible first | exact HB.out | apply below_alloc | apply pw_below_drewN | apply below_drew1) | exact HB.out)) hb); clear HB; have HB := n0_; clear n0_; (try clear hb); (try clear hb2); (try clear hk); (try clear hi)) | ((with_reducible refine gate_callee (f := 15) rfl ?_); refine goesL_ (some 10) rfl rfl Try.func15 (by kernel_rfl) rfl #[.int .i64 a0, .int .i64 a1] rfl (by (try simp only [List.map_toArray, List.map_cons, List.map_nil]); first | done | rfl | (simp only [List.length_drop, List.length_take]; rfl)) ?_; (with_reducible refine (flywheelref04_Bytes.calls a0 a1 t148 _ A4.out).mono ?_); rintro e w31 ⟨rfl, hb⟩; refine ⟨_, rfl, ?_⟩; have n0_ := Aside0.mk (below_step (by repeat (first | (with_reducible first | exact HB.out | apply below_alloc | apply pw_below_drewN | apply below_drew1) | exact HB.out)) hb); clear HB; have HB := n0_; clear n0_; (try clear hb); (try clear hb2); (try clear hk); (try clear hi)))
    go_ret
    exact ⟨by first | rfl | (simp [errW_none, errW_some] <;> rfl) | (simp [*, errW_none, errW_some] <;> rfl), by repeat (first | (with_reducible first | exact HB.out | apply below_alloc | apply pw_below_drewN | apply below_drew1) | exact HB.out)⟩

/-- THE ONE PURE STATEMENT of flywheellaw04_UnitsDoes: yours. -/
def flywheellaw04_UnitsDoes.Pure : Prop := ∀ (a0 : Int) (a1 : Int), (Lit.int .i64 a0).wf = true → (Lit.int .i64 a1).wf = true → flywheellaw04_UnitsDoes.f a0 a1 = some true
theorem flywheellaw04_UnitsDoes.walk (P : flywheellaw04_UnitsDoes.Pure) (a0 : Int) (a1 : Int) (w : World) (w0 : (Lit.int .i64 a0).wf = true) (w1 : (Lit.int .i64 a1).wf = true) :
    Calls Try.prog 3 #[.int .i64 a0, .int .i64 a1] w fun e w' => e = .returned (.bool true) ∧ Below w.heap.size w w' := by
  have h := P a0 a1 w0 w1
  refine (flywheellaw04_UnitsDoes.calls a0 a1 true w h).mono ?_
  rintro e w' ⟨rfl, hd⟩
  exact ⟨rfl, hd⟩

/-! ### flywheellaw04_UnitsBack: function 4 -/
def flywheellaw04_UnitsBack.j0 : Nat → Int → Int → Bool → Option (Bool)
  | 0, _, _, _ => none
  | k + 1, x7, x9, x39 => if x39 = true then (some false) else ((units_Bytes.f x7 x9).bind fun t157 => ((units_Rate.f t157 x9).bind fun t158 => (if t158 ≤ x7 then ((flywheellaw04_wakes.f).bind fun t159 => (some t159)) else (some false))))
def flywheellaw04_UnitsBack.f (k : Nat) (a0 : Int) (a1 : Int) (a2 : Int) : Option (Bool) := (units_Ticks.f (wrap64 ((wrap64 (a0)) + 1)) (wrap64 ((wrap64 (a1)) + 1))).bind fun t154 => ((units_Bytes.f (wrap64 ((wrap64 (a0)) + 1)) t154).bind fun t155 => (if t155 < (wrap64 ((wrap64 (a1)) + 1)) then (flywheellaw04_UnitsBack.j0 k (wrap64 ((wrap64 (a0)) + 1)) (wrap64 ((wrap64 (a2)) + 1)) true) else (if t154 > 1 then ((units_Bytes.f (wrap64 ((wrap64 (a0)) + 1)) (wrap64 (t154 - 1))).bind fun t156 => (flywheellaw04_UnitsBack.j0 k (wrap64 ((wrap64 (a0)) + 1)) (wrap64 ((wrap64 (a2)) + 1)) (decide (t156 ≥ (wrap64 ((wrap64 (a1)) + 1)))))) else (flywheellaw04_UnitsBack.j0 k (wrap64 ((wrap64 (a0)) + 1)) (wrap64 ((wrap64 (a2)) + 1)) false))))
theorem flywheellaw04_UnitsBack.mono_l : ∀ k, (∀ y0 y1 y2, LeO (flywheellaw04_UnitsBack.j0 k y0 y1 y2) (flywheellaw04_UnitsBack.j0 (k + 1) y0 y1 y2))
  | 0 => fun _ _ _ r h => by simp [flywheellaw04_UnitsBack.j0] at h
  | k + 1 => by
    have ih0 := flywheellaw04_UnitsBack.mono_l k
    · intro y0 y1 y2
      unfold flywheellaw04_UnitsBack.j0
      repeat' first
      | (with_reducible exact ih0 _ _ _)
      | (with_reducible exact LeO.refl _)
      | (with_reducible exact LeO.none _)
      | (with_reducible refine LeO.ite ?_ ?_)
      | (with_reducible refine LeO.bind ?_ (fun _ => ?_))
      | exact ih0 _ _ _
      | exact LeO.none _
      | refine LeO.ite ?_ ?_
      | refine LeO.bind ?_ (fun _ => ?_)
theorem flywheellaw04_UnitsBack.mono : ∀ a0 a1 a2 k, LeO (flywheellaw04_UnitsBack.f k a0 a1 a2) (flywheellaw04_UnitsBack.f (k + 1) a0 a1 a2) := by
  intro a0 a1 a2 k
  have ih0 := flywheellaw04_UnitsBack.mono_l k
  unfold flywheellaw04_UnitsBack.f
  repeat' first
      | (with_reducible exact ih0 _ _ _)
      | (with_reducible exact LeO.refl _)
      | (with_reducible exact LeO.none _)
      | (with_reducible refine LeO.ite ?_ ?_)
      | (with_reducible refine LeO.bind ?_ (fun _ => ?_))
      | exact ih0 _ _ _
      | exact LeO.none _
      | refine LeO.ite ?_ ?_
      | refine LeO.bind ?_ (fun _ => ?_)
set_option maxHeartbeats 8000000 in
set_option maxRecDepth 100000 in
theorem flywheellaw04_UnitsBack.calls (k : Nat) (a0 : Int) (a1 : Int) (a2 : Int) (r : Bool) (w : World) (h : flywheellaw04_UnitsBack.f k a0 a1 a2 = some r) :
    Calls Try.prog 4 #[.int .u32 a0, .int .u16 a1, .int .u32 a2] w fun e w' => e = .returned (.bool r) ∧ Below w.heap.size w w' := by
  have HB := Aside0.mk (Below.refl w.heap.size w)
  have H : ((units_Ticks.f (wrap64 ((wrap64 (a0)) + 1)) (wrap64 ((wrap64 (a1)) + 1))).bind fun t154 => ((units_Bytes.f (wrap64 ((wrap64 (a0)) + 1)) t154).bind fun t155 => (if t155 < (wrap64 ((wrap64 (a1)) + 1)) then (flywheellaw04_UnitsBack.j0 k (wrap64 ((wrap64 (a0)) + 1)) (wrap64 ((wrap64 (a2)) + 1)) true) else (if t154 > 1 then ((units_Bytes.f (wrap64 ((wrap64 (a0)) + 1)) (wrap64 (t154 - 1))).bind fun t156 => (flywheellaw04_UnitsBack.j0 k (wrap64 ((wrap64 (a0)) + 1)) (wrap64 ((wrap64 (a2)) + 1)) (decide (t156 ≥ (wrap64 ((wrap64 (a1)) + 1)))))) else (flywheellaw04_UnitsBack.j0 k (wrap64 ((wrap64 (a0)) + 1)) (wrap64 ((wrap64 (a2)) + 1)) false))))) = some r := h
  clear h
  replace H := Option.bind_eq_some_iff.mp H
  obtain ⟨t154, A40, H⟩ := H
  replace H : ((units_Bytes.f (wrap64 ((wrap64 (a0)) + 1)) t154).bind fun t155 => (if t155 < (wrap64 ((wrap64 (a1)) + 1)) then (flywheellaw04_UnitsBack.j0 k (wrap64 ((wrap64 (a0)) + 1)) (wrap64 ((wrap64 (a2)) + 1)) true) else (if t154 > 1 then ((units_Bytes.f (wrap64 ((wrap64 (a0)) + 1)) (wrap64 (t154 - 1))).bind fun t156 => (flywheellaw04_UnitsBack.j0 k (wrap64 ((wrap64 (a0)) + 1)) (wrap64 ((wrap64 (a2)) + 1)) (decide (t156 ≥ (wrap64 ((wrap64 (a1)) + 1)))))) else (flywheellaw04_UnitsBack.j0 k (wrap64 ((wrap64 (a0)) + 1)) (wrap64 ((wrap64 (a2)) + 1)) false)))) = some r := H
  have A4 := Aside0.mk A40
  clear A40
  have HC5 := Aside0.mk H
  clear H
  go_enter Try.func4, Try.ntmps4
  go_upto_region 3 with (first | ((with_reducible refine gate_callee (f := 16) rfl ?_); refine goesL_ (some 22) rfl rfl Try.func16 (by kernel_rfl) rfl #[.int .i64 (wrap64 ((wrap64 (a0)) + 1)), .int .i64 (wrap64 ((wrap64 (a1)) + 1))] rfl (by (try simp only [List.map_toArray, List.map_cons, List.map_nil]); first | done | rfl | (simp only [List.length_drop, List.length_take]; rfl)) ?_; (with_reducible refine (units_Ticks.calls (wrap64 ((wrap64 (a0)) + 1)) (wrap64 ((wrap64 (a1)) + 1)) t154 _ A4.out).mono ?_); rintro e w6 ⟨rfl, hb⟩; refine ⟨_, rfl, ?_⟩; have n0_ := Aside0.mk (below_step (by repeat (first | (with_reducible first | exact HB.out | apply below_alloc | apply pw_below_drewN | apply below_drew1) | exact HB.out)) hb); clear HB; have HB := n0_; clear n0_; (try clear hb); (try clear hb2); (try clear hk); (try clear hi)))
  (try simp only [Act.put, List.setIfInBounds_toArray, List.set_cons_zero, List.set_cons_succ])
  go_cut [39] (fun v39 wc => ∃ (kq : Nat) (x39_4 : Bool), v39 = .bool x39_4 ∧ Aside0 (flywheellaw04_UnitsBack.j0 kq (wrap64 ((wrap64 (a0)) + 1)) (wrap64 ((wrap64 (a2)) + 1)) x39_4 = some r) ∧ Aside0 (kq ≤ k) ∧ Aside0 (Below w.heap.size w wc))
  case first =>
    have H := HC5.out
    clear HC5
    replace H := Option.bind_eq_some_iff.mp H
    obtain ⟨t155, A70, H⟩ := H
    replace H : (if t155 < (wrap64 ((wrap64 (a1)) + 1)) then (flywheellaw04_UnitsBack.j0 k (wrap64 ((wrap64 (a0)) + 1)) (wrap64 ((wrap64 (a2)) + 1)) true) else (if t154 > 1 then ((units_Bytes.f (wrap64 ((wrap64 (a0)) + 1)) (wrap64 (t154 - 1))).bind fun t156 => (flywheellaw04_UnitsBack.j0 k (wrap64 ((wrap64 (a0)) + 1)) (wrap64 ((wrap64 (a2)) + 1)) (decide (t156 ≥ (wrap64 ((wrap64 (a1)) + 1)))))) else (flywheellaw04_UnitsBack.j0 k (wrap64 ((wrap64 (a0)) + 1)) (wrap64 ((wrap64 (a2)) + 1)) false))) = some r := H
    have A7 := Aside0.mk A70
    clear A70
    by_cases c8 : t155 < (wrap64 ((wrap64 (a1)) + 1))
    · rw [if_pos c8] at H
      have c8b0 : decide (t155 < (wrap64 ((wrap64 (a1)) + 1))) = true := decide_eq_true c8
      clear c8
      (first | rw [c8b0] | (simp only [i64_w, i32_w]; rw [c8b0]) | skip)
      have H' := Aside0.mk H
      clear H
      go_wp2_with (first | ((with_reducible refine gate_callee (f := 14) rfl ?_); refine goesL_ (some 25) rfl rfl Try.func14 (by kernel_rfl) rfl #[.int .i64 (wrap64 ((wrap64 (a0)) + 1)), .int .i64 t154] rfl (by (try simp only [List.map_toArray, List.map_cons, List.map_nil]); first | done | rfl | (simp only [List.length_drop, List.length_take]; rfl)) ?_; (with_reducible refine (units_Bytes.calls (wrap64 ((wrap64 (a0)) + 1)) t154 t155 _ A7.out).mono ?_); rintro e w9 ⟨rfl, hb⟩; refine ⟨_, rfl, ?_⟩; have n0_ := Aside0.mk (below_step (by repeat (first | (with_reducible first | exact HB.out | apply below_alloc | apply pw_below_drewN | apply below_drew1) | exact HB.out)) hb); clear HB; have HB := n0_; clear n0_; (try clear hb); (try clear hb2); (try clear hk); (try clear hi)))
      go_meet
      case rel => exact ⟨_, (true), (by first | rfl | (simp; done) | (simp [*]; done)), H', ⟨by first | omega | exact Nat.le_refl _⟩, ⟨by repeat (first | (with_reducible first | exact HB.out | apply below_alloc | apply pw_below_drewN | apply below_drew1) | exact HB.out)⟩⟩
    · rw [if_neg c8] at H
      have c8b0 : decide (t155 < (wrap64 ((wrap64 (a1)) + 1))) = false := decide_eq_false c8
      clear c8
      (first | rw [c8b0] | (simp only [i64_w, i32_w]; rw [c8b0]) | skip)
      by_cases c10 : t154 > 1
      · rw [if_pos c10] at H
        have c10b0 : decide (1 < t154) = true := decide_eq_true c10
        clear c10
        replace H := Option.bind_eq_some_iff.mp H
        obtain ⟨t156, A110, H⟩ := H
        replace H : (flywheellaw04_UnitsBack.j0 k (wrap64 ((wrap64 (a0)) + 1)) (wrap64 ((wrap64 (a2)) + 1)) (decide (t156 ≥ (wrap64 ((wrap64 (a1)) + 1))))) = some r := H
        have A11 := Aside0.mk A110
        clear A110
        have H' := Aside0.mk H
        clear H
        go_wp2_with (first | ((with_reducible refine gate_callee (f := 14) rfl ?_); refine goesL_ (some 25) rfl rfl Try.func14 (by kernel_rfl) rfl #[.int .i64 (wrap64 ((wrap64 (a0)) + 1)), .int .i64 t154] rfl (by (try simp only [List.map_toArray, List.map_cons, List.map_nil]); first | done | rfl | (simp only [List.length_drop, List.length_take]; rfl)) ?_; (with_reducible refine (units_Bytes.calls (wrap64 ((wrap64 (a0)) + 1)) t154 t155 _ A7.out).mono ?_); rintro e w12 ⟨rfl, hb⟩; refine ⟨_, rfl, ?_⟩; have n0_ := Aside0.mk (below_step (by repeat (first | (with_reducible first | exact HB.out | apply below_alloc | apply pw_below_drewN | apply below_drew1) | exact HB.out)) hb); clear HB; have HB := n0_; clear n0_; (try clear hb); (try clear hb2); (try clear hk); (try clear hi)) | (go_at_call 14; (with_reducible refine (units_Bytes.calls (wrap64 ((wrap64 (a0)) + 1)) (wrap64 (t154 - 1)) t156 _ A11.out).mono ?_); rintro e w13 ⟨rfl, hb⟩; have n0_ := Aside0.mk (below_step (by repeat (first | (with_reducible first | exact HB.out | apply below_alloc | apply pw_below_drewN | apply below_drew1) | exact HB.out)) hb); clear HB; have HB := n0_; clear n0_; (try clear hb); (try clear hb2); (try clear hk); (try clear hi)))
        go_meet
        case rel => exact ⟨_, (decide (t156 ≥ (wrap64 ((wrap64 (a1)) + 1)))), (by first | rfl | (simp; done) | (simp [*]; done)), H', ⟨by first | omega | exact Nat.le_refl _⟩, ⟨by repeat (first | (with_reducible first | exact HB.out | apply below_alloc | apply pw_below_drewN | apply below_drew1) | exact HB.out)⟩⟩
      · rw [if_neg c10] at H
        have c10b0 : decide (1 < t154) = false := decide_eq_false c10
        clear c10
        have H' := Aside0.mk H
        clear H
        go_wp2_with (first | ((with_reducible refine gate_callee (f := 14) rfl ?_); refine goesL_ (some 25) rfl rfl Try.func14 (by kernel_rfl) rfl #[.int .i64 (wrap64 ((wrap64 (a0)) + 1)), .int .i64 t154] rfl (by (try simp only [List.map_toArray, List.map_cons, List.map_nil]); first | done | rfl | (simp only [List.length_drop, List.length_take]; rfl)) ?_; (with_reducible refine (units_Bytes.calls (wrap64 ((wrap64 (a0)) + 1)) t154 t155 _ A7.out).mono ?_); rintro e w14 ⟨rfl, hb⟩; refine ⟨_, rfl, ?_⟩; have n0_ := Aside0.mk (below_step (by repeat (first | (with_reducible first | exact HB.out | apply below_alloc | apply pw_below_drewN | apply below_drew1) | exact HB.out)) hb); clear HB; have HB := n0_; clear n0_; (try clear hb); (try clear hb2); (try clear hk); (try clear hi)))
        go_meet
        case rel => exact ⟨_, (false), (by first | rfl | (simp; done) | (simp [*]; done)), H', ⟨by first | omega | exact Nat.le_refl _⟩, ⟨by repeat (first | (with_reducible first | exact HB.out | apply below_alloc | apply pw_below_drewN | apply below_drew1) | exact HB.out)⟩⟩
  case rest =>
    clear HC5
    try clear c1
    try clear p2
    try clear c4
    try clear p6
    try clear c8
    try clear c8b0
    try clear c10
    try clear c10b0
    try clear c14
    obtain ⟨kq, x39_4, rfl, HA, HJ4, HB⟩ := hcut
    cases kq with
    | zero => exact absurd HA.out (by simp [flywheellaw04_UnitsBack.j0])
    | succ kj4 =>
      have H := HA.out
      clear HA
      simp only [flywheellaw04_UnitsBack.j0] at H
      by_cases c15 : x39_4 = true
      · subst c15
        have H1 : (some false) = some r := by rw [if_pos rfl] at H; exact H
        clear H
        have H := H1
        clear H1
        obtain rfl := Option.some.inj H
        go_wp2
        go_ret
        exact ⟨by first | rfl | (simp [errW_none, errW_some] <;> rfl) | (simp [*, errW_none, errW_some] <;> rfl), by repeat (first | (with_reducible first | exact HB.out | apply below_alloc | apply pw_below_drewN | apply below_drew1) | exact HB.out)⟩
      · replace c15 := Bool.eq_false_iff.mpr c15
        subst c15
        have H1 : ((units_Bytes.f (wrap64 ((wrap64 (a0)) + 1)) (wrap64 ((wrap64 (a2)) + 1))).bind fun t157 => ((units_Rate.f t157 (wrap64 ((wrap64 (a2)) + 1))).bind fun t158 => (if t158 ≤ (wrap64 ((wrap64 (a0)) + 1)) then ((flywheellaw04_wakes.f).bind fun t159 => (some t159)) else (some false)))) = some r := by rw [if_neg (show ¬ (false = true) by decide)] at H; exact H
        clear H
        have H := H1
        clear H1
        replace H := Option.bind_eq_some_iff.mp H
        obtain ⟨t157, A160, H⟩ := H
        replace H : ((units_Rate.f t157 (wrap64 ((wrap64 (a2)) + 1))).bind fun t158 => (if t158 ≤ (wrap64 ((wrap64 (a0)) + 1)) then ((flywheellaw04_wakes.f).bind fun t159 => (some t159)) else (some false))) = some r := H
        have A16 := Aside0.mk A160
        clear A160
        replace H := Option.bind_eq_some_iff.mp H
        obtain ⟨t158, A170, H⟩ := H
        replace H : (if t158 ≤ (wrap64 ((wrap64 (a0)) + 1)) then ((flywheellaw04_wakes.f).bind fun t159 => (some t159)) else (some false)) = some r := H
        have A17 := Aside0.mk A170
        clear A170
        by_cases c18 : t158 ≤ (wrap64 ((wrap64 (a0)) + 1))
        · rw [if_pos c18] at H
          have c18b0 : decide (t158 ≤ (wrap64 ((wrap64 (a0)) + 1))) = true := decide_eq_true c18
          clear c18
          replace H := Option.bind_eq_some_iff.mp H
          obtain ⟨t159, A190, H⟩ := H
          replace H : (some t159) = some r := H
          have A19 := Aside0.mk A190
          clear A190
          obtain rfl := Option.some.inj H
          go_wp2_with (first | ((with_reducible refine gate_callee (f := 14) rfl ?_); refine goesL_ (some 42) rfl rfl Try.func14 (by kernel_rfl) rfl #[.int .i64 (wrap64 ((wrap64 (a0)) + 1)), .int .i64 (wrap64 ((wrap64 (a2)) + 1))] rfl (by (try simp only [List.map_toArray, List.map_cons, List.map_nil]); first | done | rfl | (simp only [List.length_drop, List.length_take]; rfl)) ?_; (with_reducible refine (units_Bytes.calls (wrap64 ((wrap64 (a0)) + 1)) (wrap64 ((wrap64 (a2)) + 1)) t157 _ A16.out).mono ?_); rintro e w20 ⟨rfl, hb⟩; refine ⟨_, rfl, ?_⟩; have n0_ := Aside0.mk (below_step (by repeat (first | (with_reducible first | exact HB.out | apply below_alloc | apply pw_below_drewN | apply below_drew1) | exact HB.out)) hb); clear HB; have HB := n0_; clear n0_; (try clear hb); (try clear hb2); (try clear hk); (try clear hi)) | ((with_reducible refine gate_callee (f := 18) rfl ?_); refine goesL_ (some 44) rfl rfl Try.func18 (by kernel_rfl) rfl #[.int .i64 t157, .int .i64 (wrap64 ((wrap64 (a2)) + 1))] rfl (by (try simp only [List.map_toArray, List.map_cons, List.map_nil]); first | done | rfl | (simp only [List.length_drop, List.length_take]; rfl)) ?_; (with_reducible refine (units_Rate.calls t157 (wrap64 ((wrap64 (a2)) + 1)) t158 _ A17.out).mono ?_); rintro e w21 ⟨rfl, hb⟩; refine ⟨_, rfl, ?_⟩; have n0_ := Aside0.mk (below_step (by repeat (first | (with_reducible first | exact HB.out | apply below_alloc | apply pw_below_drewN | apply below_drew1) | exact HB.out)) hb); clear HB; have HB := n0_; clear n0_; (try clear hb); (try clear hb2); (try clear hk); (try clear hi)) | (go_at_call 20; (with_reducible refine (flywheellaw04_wakes.calls  t159 _ A19.out).mono ?_); rintro e w22 ⟨rfl, hb⟩; have n0_ := Aside0.mk (below_step (by repeat (first | (with_reducible first | exact HB.out | apply below_alloc | apply pw_below_drewN | apply below_drew1) | exact HB.out)) hb); clear HB; have HB := n0_; clear n0_; (try clear hb); (try clear hb2); (try clear hk); (try clear hi)))
          go_ret
          exact ⟨by first | rfl | (simp [errW_none, errW_some] <;> rfl) | (simp [*, errW_none, errW_some] <;> rfl), by repeat (first | (with_reducible first | exact HB.out | apply below_alloc | apply pw_below_drewN | apply below_drew1) | exact HB.out)⟩
        · rw [if_neg c18] at H
          have c18b0 : decide (t158 ≤ (wrap64 ((wrap64 (a0)) + 1))) = false := decide_eq_false c18
          clear c18
          obtain rfl := Option.some.inj H
          go_wp2_with (first | ((with_reducible refine gate_callee (f := 14) rfl ?_); refine goesL_ (some 42) rfl rfl Try.func14 (by kernel_rfl) rfl #[.int .i64 (wrap64 ((wrap64 (a0)) + 1)), .int .i64 (wrap64 ((wrap64 (a2)) + 1))] rfl (by (try simp only [List.map_toArray, List.map_cons, List.map_nil]); first | done | rfl | (simp only [List.length_drop, List.length_take]; rfl)) ?_; (with_reducible refine (units_Bytes.calls (wrap64 ((wrap64 (a0)) + 1)) (wrap64 ((wrap64 (a2)) + 1)) t157 _ A16.out).mono ?_); rintro e w23 ⟨rfl, hb⟩; refine ⟨_, rfl, ?_⟩; have n0_ := Aside0.mk (below_step (by repeat (first | (with_reducible first | exact HB.out | apply below_alloc | apply pw_below_drewN | apply below_drew1) | exact HB.out)) hb); clear HB; have HB := n0_; clear n0_; (try clear hb); (try clear hb2); (try clear hk); (try clear hi)) | ((with_reducible refine gate_callee (f := 18) rfl ?_); refine goesL_ (some 44) rfl rfl Try.func18 (by kernel_rfl) rfl #[.int .i64 t157, .int .i64 (wrap64 ((wrap64 (a2)) + 1))] rfl (by (try simp only [List.map_toArray, List.map_cons, List.map_nil]); first | done | rfl | (simp only [List.length_drop, List.length_take]; rfl)) ?_; (with_reducible refine (units_Rate.calls t157 (wrap64 ((wrap64 (a2)) + 1)) t158 _ A17.out).mono ?_); rintro e w24 ⟨rfl, hb⟩; refine ⟨_, rfl, ?_⟩; have n0_ := Aside0.mk (below_step (by repeat (first | (with_reducible first | exact HB.out | apply below_alloc | apply pw_below_drewN | apply below_drew1) | exact HB.out)) hb); clear HB; have HB := n0_; clear n0_; (try clear hb); (try clear hb2); (try clear hk); (try clear hi)))
          go_ret
          exact ⟨by first | rfl | (simp [errW_none, errW_some] <;> rfl) | (simp [*, errW_none, errW_some] <;> rfl), by repeat (first | (with_reducible first | exact HB.out | apply below_alloc | apply pw_below_drewN | apply below_drew1) | exact HB.out)⟩

/-- THE ONE PURE STATEMENT of flywheellaw04_UnitsBack: yours. -/
def flywheellaw04_UnitsBack.Pure : Prop := ∀ (a0 : Int) (a1 : Int) (a2 : Int), (Lit.int .u32 a0).wf = true → (Lit.int .u16 a1).wf = true → (Lit.int .u32 a2).wf = true → ∃ k, flywheellaw04_UnitsBack.f k a0 a1 a2 = some true
theorem flywheellaw04_UnitsBack.walk (P : flywheellaw04_UnitsBack.Pure) (a0 : Int) (a1 : Int) (a2 : Int) (w : World) (w0 : (Lit.int .u32 a0).wf = true) (w1 : (Lit.int .u16 a1).wf = true) (w2 : (Lit.int .u32 a2).wf = true) :
    Calls Try.prog 4 #[.int .u32 a0, .int .u16 a1, .int .u32 a2] w fun e w' => e = .returned (.bool true) ∧ Below w.heap.size w w' := by
  obtain ⟨k, h⟩ := P a0 a1 a2 w0 w1 w2
  refine (flywheellaw04_UnitsBack.calls k a0 a1 a2 true w h).mono ?_
  rintro e w' ⟨rfl, hd⟩
  exact ⟨rfl, hd⟩

/-! ### flywheellaw04_UnitsAdds: function 5 -/
def flywheellaw04_UnitsAdds.f (a0 : Int) (a1 : Int) (a2 : Int) : Option (Bool) := (units_Bytes.f (wrap64 (a0)) (wrap64 (a1))).bind fun t160 => ((units_Bytes.f (wrap64 (a0)) (wrap64 (a2))).bind fun t161 => ((units_Bytes.f (wrap64 (a0)) (wrap64 ((wrap64 (a1)) + (wrap64 (a2))))).bind fun t162 => ((units_Bytes.f (wrap64 (a1)) (wrap64 (a0))).bind fun t163 => ((units_Bytes.f (wrap64 (a2)) (wrap64 (a0))).bind fun t164 => ((units_Bytes.f (wrap64 ((wrap64 (a1)) + (wrap64 (a2)))) (wrap64 (a0))).bind fun t165 => (if (wrap64 (t160 + t161)) ≤ t162 then (if t162 ≤ (wrap64 ((wrap64 (t160 + t161)) + 1)) then (if (wrap64 (t163 + t164)) ≤ t165 then (if t165 ≤ (wrap64 ((wrap64 (t163 + t164)) + 1)) then ((flywheellaw04_wakes.f).bind fun t166 => (some t166)) else (some false)) else (some false)) else (some false)) else (some false)))))))
set_option maxHeartbeats 8000000 in
set_option maxRecDepth 100000 in
theorem flywheellaw04_UnitsAdds.calls (a0 : Int) (a1 : Int) (a2 : Int) (r : Bool) (w : World) (h : flywheellaw04_UnitsAdds.f a0 a1 a2 = some r) :
    Calls Try.prog 5 #[.int .u32 a0, .int .u32 a1, .int .u32 a2] w fun e w' => e = .returned (.bool r) ∧ Below w.heap.size w w' := by
  have HB := Aside0.mk (Below.refl w.heap.size w)
  have H : ((units_Bytes.f (wrap64 (a0)) (wrap64 (a1))).bind fun t160 => ((units_Bytes.f (wrap64 (a0)) (wrap64 (a2))).bind fun t161 => ((units_Bytes.f (wrap64 (a0)) (wrap64 ((wrap64 (a1)) + (wrap64 (a2))))).bind fun t162 => ((units_Bytes.f (wrap64 (a1)) (wrap64 (a0))).bind fun t163 => ((units_Bytes.f (wrap64 (a2)) (wrap64 (a0))).bind fun t164 => ((units_Bytes.f (wrap64 ((wrap64 (a1)) + (wrap64 (a2)))) (wrap64 (a0))).bind fun t165 => (if (wrap64 (t160 + t161)) ≤ t162 then (if t162 ≤ (wrap64 ((wrap64 (t160 + t161)) + 1)) then (if (wrap64 (t163 + t164)) ≤ t165 then (if t165 ≤ (wrap64 ((wrap64 (t163 + t164)) + 1)) then ((flywheellaw04_wakes.f).bind fun t166 => (some t166)) else (some false)) else (some false)) else (some false)) else (some false)))))))) = some r := h
  clear h
  replace H := Option.bind_eq_some_iff.mp H
  obtain ⟨t160, A40, H⟩ := H
  replace H : ((units_Bytes.f (wrap64 (a0)) (wrap64 (a2))).bind fun t161 => ((units_Bytes.f (wrap64 (a0)) (wrap64 ((wrap64 (a1)) + (wrap64 (a2))))).bind fun t162 => ((units_Bytes.f (wrap64 (a1)) (wrap64 (a0))).bind fun t163 => ((units_Bytes.f (wrap64 (a2)) (wrap64 (a0))).bind fun t164 => ((units_Bytes.f (wrap64 ((wrap64 (a1)) + (wrap64 (a2)))) (wrap64 (a0))).bind fun t165 => (if (wrap64 (t160 + t161)) ≤ t162 then (if t162 ≤ (wrap64 ((wrap64 (t160 + t161)) + 1)) then (if (wrap64 (t163 + t164)) ≤ t165 then (if t165 ≤ (wrap64 ((wrap64 (t163 + t164)) + 1)) then ((flywheellaw04_wakes.f).bind fun t166 => (some t166)) else (some false)) else (some false)) else (some false)) else (some false))))))) = some r := H
  have A4 := Aside0.mk A40
  clear A40
  replace H := Option.bind_eq_some_iff.mp H
  obtain ⟨t161, A50, H⟩ := H
  replace H : ((units_Bytes.f (wrap64 (a0)) (wrap64 ((wrap64 (a1)) + (wrap64 (a2))))).bind fun t162 => ((units_Bytes.f (wrap64 (a1)) (wrap64 (a0))).bind fun t163 => ((units_Bytes.f (wrap64 (a2)) (wrap64 (a0))).bind fun t164 => ((units_Bytes.f (wrap64 ((wrap64 (a1)) + (wrap64 (a2)))) (wrap64 (a0))).bind fun t165 => (if (wrap64 (t160 + t161)) ≤ t162 then (if t162 ≤ (wrap64 ((wrap64 (t160 + t161)) + 1)) then (if (wrap64 (t163 + t164)) ≤ t165 then (if t165 ≤ (wrap64 ((wrap64 (t163 + t164)) + 1)) then ((flywheellaw04_wakes.f).bind fun t166 => (some t166)) else (some false)) else (some false)) else (some false)) else (some false)))))) = some r := H
  have A5 := Aside0.mk A50
  clear A50
  replace H := Option.bind_eq_some_iff.mp H
  obtain ⟨t162, A60, H⟩ := H
  replace H : ((units_Bytes.f (wrap64 (a1)) (wrap64 (a0))).bind fun t163 => ((units_Bytes.f (wrap64 (a2)) (wrap64 (a0))).bind fun t164 => ((units_Bytes.f (wrap64 ((wrap64 (a1)) + (wrap64 (a2)))) (wrap64 (a0))).bind fun t165 => (if (wrap64 (t160 + t161)) ≤ t162 then (if t162 ≤ (wrap64 ((wrap64 (t160 + t161)) + 1)) then (if (wrap64 (t163 + t164)) ≤ t165 then (if t165 ≤ (wrap64 ((wrap64 (t163 + t164)) + 1)) then ((flywheellaw04_wakes.f).bind fun t166 => (some t166)) else (some false)) else (some false)) else (some false)) else (some false))))) = some r := H
  have A6 := Aside0.mk A60
  clear A60
  replace H := Option.bind_eq_some_iff.mp H
  obtain ⟨t163, A70, H⟩ := H
  replace H : ((units_Bytes.f (wrap64 (a2)) (wrap64 (a0))).bind fun t164 => ((units_Bytes.f (wrap64 ((wrap64 (a1)) + (wrap64 (a2)))) (wrap64 (a0))).bind fun t165 => (if (wrap64 (t160 + t161)) ≤ t162 then (if t162 ≤ (wrap64 ((wrap64 (t160 + t161)) + 1)) then (if (wrap64 (t163 + t164)) ≤ t165 then (if t165 ≤ (wrap64 ((wrap64 (t163 + t164)) + 1)) then ((flywheellaw04_wakes.f).bind fun t166 => (some t166)) else (some false)) else (some false)) else (some false)) else (some false)))) = some r := H
  have A7 := Aside0.mk A70
  clear A70
  replace H := Option.bind_eq_some_iff.mp H
  obtain ⟨t164, A80, H⟩ := H
  replace H : ((units_Bytes.f (wrap64 ((wrap64 (a1)) + (wrap64 (a2)))) (wrap64 (a0))).bind fun t165 => (if (wrap64 (t160 + t161)) ≤ t162 then (if t162 ≤ (wrap64 ((wrap64 (t160 + t161)) + 1)) then (if (wrap64 (t163 + t164)) ≤ t165 then (if t165 ≤ (wrap64 ((wrap64 (t163 + t164)) + 1)) then ((flywheellaw04_wakes.f).bind fun t166 => (some t166)) else (some false)) else (some false)) else (some false)) else (some false))) = some r := H
  have A8 := Aside0.mk A80
  clear A80
  replace H := Option.bind_eq_some_iff.mp H
  obtain ⟨t165, A90, H⟩ := H
  replace H : (if (wrap64 (t160 + t161)) ≤ t162 then (if t162 ≤ (wrap64 ((wrap64 (t160 + t161)) + 1)) then (if (wrap64 (t163 + t164)) ≤ t165 then (if t165 ≤ (wrap64 ((wrap64 (t163 + t164)) + 1)) then ((flywheellaw04_wakes.f).bind fun t166 => (some t166)) else (some false)) else (some false)) else (some false)) else (some false)) = some r := H
  have A9 := Aside0.mk A90
  clear A90
  by_cases c10 : (wrap64 (t160 + t161)) ≤ t162
  · rw [if_pos c10] at H
    have c10b0 : decide ((wrap64 (t160 + t161)) ≤ t162) = true := decide_eq_true c10
    clear c10
    by_cases c11 : t162 ≤ (wrap64 ((wrap64 (t160 + t161)) + 1))
    · rw [if_pos c11] at H
      have c11b0 : decide (t162 ≤ (wrap64 ((wrap64 (t160 + t161)) + 1))) = true := decide_eq_true c11
      clear c11
      by_cases c12 : (wrap64 (t163 + t164)) ≤ t165
      · rw [if_pos c12] at H
        have c12b0 : decide ((wrap64 (t163 + t164)) ≤ t165) = true := decide_eq_true c12
        clear c12
        by_cases c13 : t165 ≤ (wrap64 ((wrap64 (t163 + t164)) + 1))
        · rw [if_pos c13] at H
          have c13b0 : decide (t165 ≤ (wrap64 ((wrap64 (t163 + t164)) + 1))) = true := decide_eq_true c13
          clear c13
          replace H := Option.bind_eq_some_iff.mp H
          obtain ⟨t166, A140, H⟩ := H
          replace H : (some t166) = some r := H
          have A14 := Aside0.mk A140
          clear A140
          obtain rfl := Option.some.inj H
          go_enter Try.func5, Try.ntmps5
          go_wp2_with (first | ((with_reducible refine gate_callee (f := 14) rfl ?_); refine goesL_ (some 22) rfl rfl Try.func14 (by kernel_rfl) rfl #[.int .i64 (wrap64 (a0)), .int .i64 (wrap64 (a1))] rfl (by (try simp only [List.map_toArray, List.map_cons, List.map_nil]); first | done | rfl | (simp only [List.length_drop, List.length_take]; rfl)) ?_; (with_reducible refine (units_Bytes.calls (wrap64 (a0)) (wrap64 (a1)) t160 _ A4.out).mono ?_); rintro e w15 ⟨rfl, hb⟩; refine ⟨_, rfl, ?_⟩; have n0_ := Aside0.mk (below_step (by repeat (first | (with_reducible first | exact HB.out | apply below_alloc | apply pw_below_drewN | apply below_drew1) | exact HB.out)) hb); clear HB; have HB := n0_; clear n0_; (try clear hb); (try clear hb2); (try clear hk); (try clear hi)) | ((with_reducible refine gate_callee (f := 14) rfl ?_); refine goesL_ (some 25) rfl rfl Try.func14 (by kernel_rfl) rfl #[.int .i64 (wrap64 (a0)), .int .i64 (wrap64 (a2))] rfl (by (try simp only [List.map_toArray, List.map_cons, List.map_nil]); first | done | rfl | (simp only [List.length_drop, List.length_take]; rfl)) ?_; (with_reducible refine (units_Bytes.calls (wrap64 (a0)) (wrap64 (a2)) t161 _ A5.out).mono ?_); rintro e w16 ⟨rfl, hb⟩; refine ⟨_, rfl, ?_⟩; have n0_ := Aside0.mk (below_step (by repeat (first | (with_reducible first | exact HB.out | apply below_alloc | apply pw_below_drewN | apply below_drew1) | exact HB.out)) hb); clear HB; have HB := n0_; clear n0_; (try clear hb); (try clear hb2); (try clear hk); (try clear hi)) | ((with_reducible refine gate_callee (f := 14) rfl ?_); refine goesL_ (some 31) rfl rfl Try.func14 (by kernel_rfl) rfl #[.int .i64 (wrap64 (a0)), .int .i64 (wrap64 ((wrap64 (a1)) + (wrap64 (a2))))] rfl (by (try simp only [List.map_toArray, List.map_cons, List.map_nil]); first | done | rfl | (simp only [List.length_drop, List.length_take]; rfl)) ?_; (with_reducible refine (units_Bytes.calls (wrap64 (a0)) (wrap64 ((wrap64 (a1)) + (wrap64 (a2)))) t162 _ A6.out).mono ?_); rintro e w17 ⟨rfl, hb⟩; refine ⟨_, rfl, ?_⟩; have n0_ := Aside0.mk (below_step (by repeat (first | (with_reducible first | exact HB.out | apply below_alloc | apply pw_below_drewN | apply below_drew1) | exact HB.out)) hb); clear HB; have HB := n0_; clear n0_; (try clear hb); (try clear hb2); (try clear hk); (try clear hi)) | ((with_reducible refine gate_callee (f := 14) rfl ?_); refine goesL_ (some 34) rfl rfl Try.func14 (by kernel_rfl) rfl #[.int .i64 (wrap64 (a1)), .int .i64 (wrap64 (a0))] rfl (by (try simp only [List.map_toArray, List.map_cons, List.map_nil]); first | done | rfl | (simp only [List.length_drop, List.length_take]; rfl)) ?_; (with_reducible refine (units_Bytes.calls (wrap64 (a1)) (wrap64 (a0)) t163 _ A7.out).mono ?_); rintro e w18 ⟨rfl, hb⟩; refine ⟨_, rfl, ?_⟩; have n0_ := Aside0.mk (below_step (by repeat (first | (with_reducible first | exact HB.out | apply below_alloc | apply pw_below_drewN | apply below_drew1) | exact HB.out)) hb); clear HB; have HB := n0_; clear n0_; (try clear hb); (try clear hb2); (try clear hk); (try clear hi)) | ((with_reducible refine gate_callee (f := 14) rfl ?_); refine goesL_ (some 37) rfl rfl Try.func14 (by kernel_rfl) rfl #[.int .i64 (wrap64 (a2)), .int .i64 (wrap64 (a0))] rfl (by (try simp only [List.map_toArray, List.map_cons, List.map_nil]); first | done | rfl | (simp only [List.length_drop, List.length_take]; rfl)) ?_; (with_reducible refine (units_Bytes.calls (wrap64 (a2)) (wrap64 (a0)) t164 _ A8.out).mono ?_); rintro e w19 ⟨rfl, hb⟩; refine ⟨_, rfl, ?_⟩; have n0_ := Aside0.mk (below_step (by repeat (first | (with_reducible first | exact HB.out | apply below_alloc | apply pw_below_drewN | apply below_drew1) | exact HB.out)) hb); clear HB; have HB := n0_; clear n0_; (try clear hb); (try clear hb2); (try clear hk); (try clear hi)) | ((with_reducible refine gate_callee (f := 14) rfl ?_); refine goesL_ (some 43) rfl rfl Try.func14 (by kernel_rfl) rfl #[.int .i64 (wrap64 ((wrap64 (a1)) + (wrap64 (a2)))), .int .i64 (wrap64 (a0))] rfl (by (try simp only [List.map_toArray, List.map_cons, List.map_nil]); first | done | rfl | (simp only [List.length_drop, List.length_take]; rfl)) ?_; (with_reducible refine (units_Bytes.calls (wrap64 ((wrap64 (a1)) + (wrap64 (a2)))) (wrap64 (a0)) t165 _ A9.out).mono ?_); rintro e w20 ⟨rfl, hb⟩; refine ⟨_, rfl, ?_⟩; have n0_ := Aside0.mk (below_step (by repeat (first | (with_reducible first | exact HB.out | apply below_alloc | apply pw_below_drewN | apply below_drew1) | exact HB.out)) hb); clear HB; have HB := n0_; clear n0_; (try clear hb); (try clear hb2); (try clear hk); (try clear hi)) | (go_at_call 20; (with_reducible refine (flywheellaw04_wakes.calls  t166 _ A14.out).mono ?_); rintro e w21 ⟨rfl, hb⟩; have n0_ := Aside0.mk (below_step (by repeat (first | (with_reducible first | exact HB.out | apply below_alloc | apply pw_below_drewN | apply below_drew1) | exact HB.out)) hb); clear HB; have HB := n0_; clear n0_; (try clear hb); (try clear hb2); (try clear hk); (try clear hi)))
          go_ret
          exact ⟨by first | rfl | (simp [errW_none, errW_some] <;> rfl) | (simp [*, errW_none, errW_some] <;> rfl), by repeat (first | (with_reducible first | exact HB.out | apply below_alloc | apply pw_below_drewN | apply below_drew1) | exact HB.out)⟩
        · rw [if_neg c13] at H
          have c13b0 : decide (t165 ≤ (wrap64 ((wrap64 (t163 + t164)) + 1))) = false := decide_eq_false c13
          clear c13
          obtain rfl := Option.some.inj H
          go_enter Try.func5, Try.ntmps5
          go_wp2_with (first | ((with_reducible refine gate_callee (f := 14) rfl ?_); refine goesL_ (some 22) rfl rfl Try.func14 (by kernel_rfl) rfl #[.int .i64 (wrap64 (a0)), .int .i64 (wrap64 (a1))] rfl (by (try simp only [List.map_toArray, List.map_cons, List.map_nil]); first | done | rfl | (simp only [List.length_drop, List.length_take]; rfl)) ?_; (with_reducible refine (units_Bytes.calls (wrap64 (a0)) (wrap64 (a1)) t160 _ A4.out).mono ?_); rintro e w22 ⟨rfl, hb⟩; refine ⟨_, rfl, ?_⟩; have n0_ := Aside0.mk (below_step (by repeat (first | (with_reducible first | exact HB.out | apply below_alloc | apply pw_below_drewN | apply below_drew1) | exact HB.out)) hb); clear HB; have HB := n0_; clear n0_; (try clear hb); (try clear hb2); (try clear hk); (try clear hi)) | ((with_reducible refine gate_callee (f := 14) rfl ?_); refine goesL_ (some 25) rfl rfl Try.func14 (by kernel_rfl) rfl #[.int .i64 (wrap64 (a0)), .int .i64 (wrap64 (a2))] rfl (by (try simp only [List.map_toArray, List.map_cons, List.map_nil]); first | done | rfl | (simp only [List.length_drop, List.length_take]; rfl)) ?_; (with_reducible refine (units_Bytes.calls (wrap64 (a0)) (wrap64 (a2)) t161 _ A5.out).mono ?_); rintro e w23 ⟨rfl, hb⟩; refine ⟨_, rfl, ?_⟩; have n0_ := Aside0.mk (below_step (by repeat (first | (with_reducible first | exact HB.out | apply below_alloc | apply pw_below_drewN | apply below_drew1) | exact HB.out)) hb); clear HB; have HB := n0_; clear n0_; (try clear hb); (try clear hb2); (try clear hk); (try clear hi)) | ((with_reducible refine gate_callee (f := 14) rfl ?_); refine goesL_ (some 31) rfl rfl Try.func14 (by kernel_rfl) rfl #[.int .i64 (wrap64 (a0)), .int .i64 (wrap64 ((wrap64 (a1)) + (wrap64 (a2))))] rfl (by (try simp only [List.map_toArray, List.map_cons, List.map_nil]); first | done | rfl | (simp only [List.length_drop, List.length_take]; rfl)) ?_; (with_reducible refine (units_Bytes.calls (wrap64 (a0)) (wrap64 ((wrap64 (a1)) + (wrap64 (a2)))) t162 _ A6.out).mono ?_); rintro e w24 ⟨rfl, hb⟩; refine ⟨_, rfl, ?_⟩; have n0_ := Aside0.mk (below_step (by repeat (first | (with_reducible first | exact HB.out | apply below_alloc | apply pw_below_drewN | apply below_drew1) | exact HB.out)) hb); clear HB; have HB := n0_; clear n0_; (try clear hb); (try clear hb2); (try clear hk); (try clear hi)) | ((with_reducible refine gate_callee (f := 14) rfl ?_); refine goesL_ (some 34) rfl rfl Try.func14 (by kernel_rfl) rfl #[.int .i64 (wrap64 (a1)), .int .i64 (wrap64 (a0))] rfl (by (try simp only [List.map_toArray, List.map_cons, List.map_nil]); first | done | rfl | (simp only [List.length_drop, List.length_take]; rfl)) ?_; (with_reducible refine (units_Bytes.calls (wrap64 (a1)) (wrap64 (a0)) t163 _ A7.out).mono ?_); rintro e w25 ⟨rfl, hb⟩; refine ⟨_, rfl, ?_⟩; have n0_ := Aside0.mk (below_step (by repeat (first | (with_reducible first | exact HB.out | apply below_alloc | apply pw_below_drewN | apply below_drew1) | exact HB.out)) hb); clear HB; have HB := n0_; clear n0_; (try clear hb); (try clear hb2); (try clear hk); (try clear hi)) | ((with_reducible refine gate_callee (f := 14) rfl ?_); refine goesL_ (some 37) rfl rfl Try.func14 (by kernel_rfl) rfl #[.int .i64 (wrap64 (a2)), .int .i64 (wrap64 (a0))] rfl (by (try simp only [List.map_toArray, List.map_cons, List.map_nil]); first | done | rfl | (simp only [List.length_drop, List.length_take]; rfl)) ?_; (with_reducible refine (units_Bytes.calls (wrap64 (a2)) (wrap64 (a0)) t164 _ A8.out).mono ?_); rintro e w26 ⟨rfl, hb⟩; refine ⟨_, rfl, ?_⟩; have n0_ := Aside0.mk (below_step (by repeat (first | (with_reducible first | exact HB.out | apply below_alloc | apply pw_below_drewN | apply below_drew1) | exact HB.out)) hb); clear HB; have HB := n0_; clear n0_; (try clear hb); (try clear hb2); (try clear hk); (try clear hi)) | ((with_reducible refine gate_callee (f := 14) rfl ?_); refine goesL_ (some 43) rfl rfl Try.func14 (by kernel_rfl) rfl #[.int .i64 (wrap64 ((wrap64 (a1)) + (wrap64 (a2)))), .int .i64 (wrap64 (a0))] rfl (by (try simp only [List.map_toArray, List.map_cons, List.map_nil]); first | done | rfl | (simp only [List.length_drop, List.length_take]; rfl)) ?_; (with_reducible refine (units_Bytes.calls (wrap64 ((wrap64 (a1)) + (wrap64 (a2)))) (wrap64 (a0)) t165 _ A9.out).mono ?_); rintro e w27 ⟨rfl, hb⟩; refine ⟨_, rfl, ?_⟩; have n0_ := Aside0.mk (below_step (by repeat (first | (with_reducible first | exact HB.out | apply below_alloc | apply pw_below_drewN | apply below_drew1) | exact HB.out)) hb); clear HB; have HB := n0_; clear n0_; (try clear hb); (try clear hb2); (try clear hk); (try clear hi)))
          go_ret
          exact ⟨by first | rfl | (simp [errW_none, errW_some] <;> rfl) | (simp [*, errW_none, errW_some] <;> rfl), by repeat (first | (with_reducible first | exact HB.out | apply below_alloc | apply pw_below_drewN | apply below_drew1) | exact HB.out)⟩
      · rw [if_neg c12] at H
        have c12b0 : decide ((wrap64 (t163 + t164)) ≤ t165) = false := decide_eq_false c12
        clear c12
        obtain rfl := Option.some.inj H
        go_enter Try.func5, Try.ntmps5
        go_wp2_with (first | ((with_reducible refine gate_callee (f := 14) rfl ?_); refine goesL_ (some 22) rfl rfl Try.func14 (by kernel_rfl) rfl #[.int .i64 (wrap64 (a0)), .int .i64 (wrap64 (a1))] rfl (by (try simp only [List.map_toArray, List.map_cons, List.map_nil]); first | done | rfl | (simp only [List.length_drop, List.length_take]; rfl)) ?_; (with_reducible refine (units_Bytes.calls (wrap64 (a0)) (wrap64 (a1)) t160 _ A4.out).mono ?_); rintro e w28 ⟨rfl, hb⟩; refine ⟨_, rfl, ?_⟩; have n0_ := Aside0.mk (below_step (by repeat (first | (with_reducible first | exact HB.out | apply below_alloc | apply pw_below_drewN | apply below_drew1) | exact HB.out)) hb); clear HB; have HB := n0_; clear n0_; (try clear hb); (try clear hb2); (try clear hk); (try clear hi)) | ((with_reducible refine gate_callee (f := 14) rfl ?_); refine goesL_ (some 25) rfl rfl Try.func14 (by kernel_rfl) rfl #[.int .i64 (wrap64 (a0)), .int .i64 (wrap64 (a2))] rfl (by (try simp only [List.map_toArray, List.map_cons, List.map_nil]); first | done | rfl | (simp only [List.length_drop, List.length_take]; rfl)) ?_; (with_reducible refine (units_Bytes.calls (wrap64 (a0)) (wrap64 (a2)) t161 _ A5.out).mono ?_); rintro e w29 ⟨rfl, hb⟩; refine ⟨_, rfl, ?_⟩; have n0_ := Aside0.mk (below_step (by repeat (first | (with_reducible first | exact HB.out | apply below_alloc | apply pw_below_drewN | apply below_drew1) | exact HB.out)) hb); clear HB; have HB := n0_; clear n0_; (try clear hb); (try clear hb2); (try clear hk); (try clear hi)) | ((with_reducible refine gate_callee (f := 14) rfl ?_); refine goesL_ (some 31) rfl rfl Try.func14 (by kernel_rfl) rfl #[.int .i64 (wrap64 (a0)), .int .i64 (wrap64 ((wrap64 (a1)) + (wrap64 (a2))))] rfl (by (try simp only [List.map_toArray, List.map_cons, List.map_nil]); first | done | rfl | (simp only [List.length_drop, List.length_take]; rfl)) ?_; (with_reducible refine (units_Bytes.calls (wrap64 (a0)) (wrap64 ((wrap64 (a1)) + (wrap64 (a2)))) t162 _ A6.out).mono ?_); rintro e w30 ⟨rfl, hb⟩; refine ⟨_, rfl, ?_⟩; have n0_ := Aside0.mk (below_step (by repeat (first | (with_reducible first | exact HB.out | apply below_alloc | apply pw_below_drewN | apply below_drew1) | exact HB.out)) hb); clear HB; have HB := n0_; clear n0_; (try clear hb); (try clear hb2); (try clear hk); (try clear hi)) | ((with_reducible refine gate_callee (f := 14) rfl ?_); refine goesL_ (some 34) rfl rfl Try.func14 (by kernel_rfl) rfl #[.int .i64 (wrap64 (a1)), .int .i64 (wrap64 (a0))] rfl (by (try simp only [List.map_toArray, List.map_cons, List.map_nil]); first | done | rfl | (simp only [List.length_drop, List.length_take]; rfl)) ?_; (with_reducible refine (units_Bytes.calls (wrap64 (a1)) (wrap64 (a0)) t163 _ A7.out).mono ?_); rintro e w31 ⟨rfl, hb⟩; refine ⟨_, rfl, ?_⟩; have n0_ := Aside0.mk (below_step (by repeat (first | (with_reducible first | exact HB.out | apply below_alloc | apply pw_below_drewN | apply below_drew1) | exact HB.out)) hb); clear HB; have HB := n0_; clear n0_; (try clear hb); (try clear hb2); (try clear hk); (try clear hi)) | ((with_reducible refine gate_callee (f := 14) rfl ?_); refine goesL_ (some 37) rfl rfl Try.func14 (by kernel_rfl) rfl #[.int .i64 (wrap64 (a2)), .int .i64 (wrap64 (a0))] rfl (by (try simp only [List.map_toArray, List.map_cons, List.map_nil]); first | done | rfl | (simp only [List.length_drop, List.length_take]; rfl)) ?_; (with_reducible refine (units_Bytes.calls (wrap64 (a2)) (wrap64 (a0)) t164 _ A8.out).mono ?_); rintro e w32 ⟨rfl, hb⟩; refine ⟨_, rfl, ?_⟩; have n0_ := Aside0.mk (below_step (by repeat (first | (with_reducible first | exact HB.out | apply below_alloc | apply pw_below_drewN | apply below_drew1) | exact HB.out)) hb); clear HB; have HB := n0_; clear n0_; (try clear hb); (try clear hb2); (try clear hk); (try clear hi)) | ((with_reducible refine gate_callee (f := 14) rfl ?_); refine goesL_ (some 43) rfl rfl Try.func14 (by kernel_rfl) rfl #[.int .i64 (wrap64 ((wrap64 (a1)) + (wrap64 (a2)))), .int .i64 (wrap64 (a0))] rfl (by (try simp only [List.map_toArray, List.map_cons, List.map_nil]); first | done | rfl | (simp only [List.length_drop, List.length_take]; rfl)) ?_; (with_reducible refine (units_Bytes.calls (wrap64 ((wrap64 (a1)) + (wrap64 (a2)))) (wrap64 (a0)) t165 _ A9.out).mono ?_); rintro e w33 ⟨rfl, hb⟩; refine ⟨_, rfl, ?_⟩; have n0_ := Aside0.mk (below_step (by repeat (first | (with_reducible first | exact HB.out | apply below_alloc | apply pw_below_drewN | apply below_drew1) | exact HB.out)) hb); clear HB; have HB := n0_; clear n0_; (try clear hb); (try clear hb2); (try clear hk); (try clear hi)))
        go_ret
        exact ⟨by first | rfl | (simp [errW_none, errW_some] <;> rfl) | (simp [*, errW_none, errW_some] <;> rfl), by repeat (first | (with_reducible first | exact HB.out | apply below_alloc | apply pw_below_drewN | apply below_drew1) | exact HB.out)⟩
    · rw [if_neg c11] at H
      have c11b0 : decide (t162 ≤ (wrap64 ((wrap64 (t160 + t161)) + 1))) = false := decide_eq_false c11
      clear c11
      obtain rfl := Option.some.inj H
      go_enter Try.func5, Try.ntmps5
      go_wp2_with (first | ((with_reducible refine gate_callee (f := 14) rfl ?_); refine goesL_ (some 22) rfl rfl Try.func14 (by kernel_rfl) rfl #[.int .i64 (wrap64 (a0)), .int .i64 (wrap64 (a1))] rfl (by (try simp only [List.map_toArray, List.map_cons, List.map_nil]); first | done | rfl | (simp only [List.length_drop, List.length_take]; rfl)) ?_; (with_reducible refine (units_Bytes.calls (wrap64 (a0)) (wrap64 (a1)) t160 _ A4.out).mono ?_); rintro e w34 ⟨rfl, hb⟩; refine ⟨_, rfl, ?_⟩; have n0_ := Aside0.mk (below_step (by repeat (first | (with_reducible first | exact HB.out | apply below_alloc | apply pw_below_drewN | apply below_drew1) | exact HB.out)) hb); clear HB; have HB := n0_; clear n0_; (try clear hb); (try clear hb2); (try clear hk); (try clear hi)) | ((with_reducible refine gate_callee (f := 14) rfl ?_); refine goesL_ (some 25) rfl rfl Try.func14 (by kernel_rfl) rfl #[.int .i64 (wrap64 (a0)), .int .i64 (wrap64 (a2))] rfl (by (try simp only [List.map_toArray, List.map_cons, List.map_nil]); first | done | rfl | (simp only [List.length_drop, List.length_take]; rfl)) ?_; (with_reducible refine (units_Bytes.calls (wrap64 (a0)) (wrap64 (a2)) t161 _ A5.out).mono ?_); rintro e w35 ⟨rfl, hb⟩; refine ⟨_, rfl, ?_⟩; have n0_ := Aside0.mk (below_step (by repeat (first | (with_reducible first | exact HB.out | apply below_alloc | apply pw_below_drewN | apply below_drew1) | exact HB.out)) hb); clear HB; have HB := n0_; clear n0_; (try clear hb); (try clear hb2); (try clear hk); (try clear hi)) | ((with_reducible refine gate_callee (f := 14) rfl ?_); refine goesL_ (some 31) rfl rfl Try.func14 (by kernel_rfl) rfl #[.int .i64 (wrap64 (a0)), .int .i64 (wrap64 ((wrap64 (a1)) + (wrap64 (a2))))] rfl (by (try simp only [List.map_toArray, List.map_cons, List.map_nil]); first | done | rfl | (simp only [List.length_drop, List.length_take]; rfl)) ?_; (with_reducible refine (units_Bytes.calls (wrap64 (a0)) (wrap64 ((wrap64 (a1)) + (wrap64 (a2)))) t162 _ A6.out).mono ?_); rintro e w36 ⟨rfl, hb⟩; refine ⟨_, rfl, ?_⟩; have n0_ := Aside0.mk (below_step (by repeat (first | (with_reducible first | exact HB.out | apply below_alloc | apply pw_below_drewN | apply below_drew1) | exact HB.out)) hb); clear HB; have HB := n0_; clear n0_; (try clear hb); (try clear hb2); (try clear hk); (try clear hi)) | ((with_reducible refine gate_callee (f := 14) rfl ?_); refine goesL_ (some 34) rfl rfl Try.func14 (by kernel_rfl) rfl #[.int .i64 (wrap64 (a1)), .int .i64 (wrap64 (a0))] rfl (by (try simp only [List.map_toArray, List.map_cons, List.map_nil]); first | done | rfl | (simp only [List.length_drop, List.length_take]; rfl)) ?_; (with_reducible refine (units_Bytes.calls (wrap64 (a1)) (wrap64 (a0)) t163 _ A7.out).mono ?_); rintro e w37 ⟨rfl, hb⟩; refine ⟨_, rfl, ?_⟩; have n0_ := Aside0.mk (below_step (by repeat (first | (with_reducible first | exact HB.out | apply below_alloc | apply pw_below_drewN | apply below_drew1) | exact HB.out)) hb); clear HB; have HB := n0_; clear n0_; (try clear hb); (try clear hb2); (try clear hk); (try clear hi)) | ((with_reducible refine gate_callee (f := 14) rfl ?_); refine goesL_ (some 37) rfl rfl Try.func14 (by kernel_rfl) rfl #[.int .i64 (wrap64 (a2)), .int .i64 (wrap64 (a0))] rfl (by (try simp only [List.map_toArray, List.map_cons, List.map_nil]); first | done | rfl | (simp only [List.length_drop, List.length_take]; rfl)) ?_; (with_reducible refine (units_Bytes.calls (wrap64 (a2)) (wrap64 (a0)) t164 _ A8.out).mono ?_); rintro e w38 ⟨rfl, hb⟩; refine ⟨_, rfl, ?_⟩; have n0_ := Aside0.mk (below_step (by repeat (first | (with_reducible first | exact HB.out | apply below_alloc | apply pw_below_drewN | apply below_drew1) | exact HB.out)) hb); clear HB; have HB := n0_; clear n0_; (try clear hb); (try clear hb2); (try clear hk); (try clear hi)) | ((with_reducible refine gate_callee (f := 14) rfl ?_); refine goesL_ (some 43) rfl rfl Try.func14 (by kernel_rfl) rfl #[.int .i64 (wrap64 ((wrap64 (a1)) + (wrap64 (a2)))), .int .i64 (wrap64 (a0))] rfl (by (try simp only [List.map_toArray, List.map_cons, List.map_nil]); first | done | rfl | (simp only [List.length_drop, List.length_take]; rfl)) ?_; (with_reducible refine (units_Bytes.calls (wrap64 ((wrap64 (a1)) + (wrap64 (a2)))) (wrap64 (a0)) t165 _ A9.out).mono ?_); rintro e w39 ⟨rfl, hb⟩; refine ⟨_, rfl, ?_⟩; have n0_ := Aside0.mk (below_step (by repeat (first | (with_reducible first | exact HB.out | apply below_alloc | apply pw_below_drewN | apply below_drew1) | exact HB.out)) hb); clear HB; have HB := n0_; clear n0_; (try clear hb); (try clear hb2); (try clear hk); (try clear hi)))
      go_ret
      exact ⟨by first | rfl | (simp [errW_none, errW_some] <;> rfl) | (simp [*, errW_none, errW_some] <;> rfl), by repeat (first | (with_reducible first | exact HB.out | apply below_alloc | apply pw_below_drewN | apply below_drew1) | exact HB.out)⟩
  · rw [if_neg c10] at H
    have c10b0 : decide ((wrap64 (t160 + t161)) ≤ t162) = false := decide_eq_false c10
    clear c10
    obtain rfl := Option.some.inj H
    go_enter Try.func5, Try.ntmps5
    go_wp2_with (first | ((with_reducible refine gate_callee (f := 14) rfl ?_); refine goesL_ (some 22) rfl rfl Try.func14 (by kernel_rfl) rfl #[.int .i64 (wrap64 (a0)), .int .i64 (wrap64 (a1))] rfl (by (try simp only [List.map_toArray, List.map_cons, List.map_nil]); first | done | rfl | (simp only [List.length_drop, List.length_take]; rfl)) ?_; (with_reducible refine (units_Bytes.calls (wrap64 (a0)) (wrap64 (a1)) t160 _ A4.out).mono ?_); rintro e w40 ⟨rfl, hb⟩; refine ⟨_, rfl, ?_⟩; have n0_ := Aside0.mk (below_step (by repeat (first | (with_reducible first | exact HB.out | apply below_alloc | apply pw_below_drewN | apply below_drew1) | exact HB.out)) hb); clear HB; have HB := n0_; clear n0_; (try clear hb); (try clear hb2); (try clear hk); (try clear hi)) | ((with_reducible refine gate_callee (f := 14) rfl ?_); refine goesL_ (some 25) rfl rfl Try.func14 (by kernel_rfl) rfl #[.int .i64 (wrap64 (a0)), .int .i64 (wrap64 (a2))] rfl (by (try simp only [List.map_toArray, List.map_cons, List.map_nil]); first | done | rfl | (simp only [List.length_drop, List.length_take]; rfl)) ?_; (with_reducible refine (units_Bytes.calls (wrap64 (a0)) (wrap64 (a2)) t161 _ A5.out).mono ?_); rintro e w41 ⟨rfl, hb⟩; refine ⟨_, rfl, ?_⟩; have n0_ := Aside0.mk (below_step (by repeat (first | (with_reducible first | exact HB.out | apply below_alloc | apply pw_below_drewN | apply below_drew1) | exact HB.out)) hb); clear HB; have HB := n0_; clear n0_; (try clear hb); (try clear hb2); (try clear hk); (try clear hi)) | ((with_reducible refine gate_callee (f := 14) rfl ?_); refine goesL_ (some 31) rfl rfl Try.func14 (by kernel_rfl) rfl #[.int .i64 (wrap64 (a0)), .int .i64 (wrap64 ((wrap64 (a1)) + (wrap64 (a2))))] rfl (by (try simp only [List.map_toArray, List.map_cons, List.map_nil]); first | done | rfl | (simp only [List.length_drop, List.length_take]; rfl)) ?_; (with_reducible refine (units_Bytes.calls (wrap64 (a0)) (wrap64 ((wrap64 (a1)) + (wrap64 (a2)))) t162 _ A6.out).mono ?_); rintro e w42 ⟨rfl, hb⟩; refine ⟨_, rfl, ?_⟩; have n0_ := Aside0.mk (below_step (by repeat (first | (with_reducible first | exact HB.out | apply below_alloc | apply pw_below_drewN | apply below_drew1) | exact HB.out)) hb); clear HB; have HB := n0_; clear n0_; (try clear hb); (try clear hb2); (try clear hk); (try clear hi)) | ((with_reducible refine gate_callee (f := 14) rfl ?_); refine goesL_ (some 34) rfl rfl Try.func14 (by kernel_rfl) rfl #[.int .i64 (wrap64 (a1)), .int .i64 (wrap64 (a0))] rfl (by (try simp only [List.map_toArray, List.map_cons, List.map_nil]); first | done | rfl | (simp only [List.length_drop, List.length_take]; rfl)) ?_; (with_reducible refine (units_Bytes.calls (wrap64 (a1)) (wrap64 (a0)) t163 _ A7.out).mono ?_); rintro e w43 ⟨rfl, hb⟩; refine ⟨_, rfl, ?_⟩; have n0_ := Aside0.mk (below_step (by repeat (first | (with_reducible first | exact HB.out | apply below_alloc | apply pw_below_drewN | apply below_drew1) | exact HB.out)) hb); clear HB; have HB := n0_; clear n0_; (try clear hb); (try clear hb2); (try clear hk); (try clear hi)) | ((with_reducible refine gate_callee (f := 14) rfl ?_); refine goesL_ (some 37) rfl rfl Try.func14 (by kernel_rfl) rfl #[.int .i64 (wrap64 (a2)), .int .i64 (wrap64 (a0))] rfl (by (try simp only [List.map_toArray, List.map_cons, List.map_nil]); first | done | rfl | (simp only [List.length_drop, List.length_take]; rfl)) ?_; (with_reducible refine (units_Bytes.calls (wrap64 (a2)) (wrap64 (a0)) t164 _ A8.out).mono ?_); rintro e w44 ⟨rfl, hb⟩; refine ⟨_, rfl, ?_⟩; have n0_ := Aside0.mk (below_step (by repeat (first | (with_reducible first | exact HB.out | apply below_alloc | apply pw_below_drewN | apply below_drew1) | exact HB.out)) hb); clear HB; have HB := n0_; clear n0_; (try clear hb); (try clear hb2); (try clear hk); (try clear hi)) | ((with_reducible refine gate_callee (f := 14) rfl ?_); refine goesL_ (some 43) rfl rfl Try.func14 (by kernel_rfl) rfl #[.int .i64 (wrap64 ((wrap64 (a1)) + (wrap64 (a2)))), .int .i64 (wrap64 (a0))] rfl (by (try simp only [List.map_toArray, List.map_cons, List.map_nil]); first | done | rfl | (simp only [List.length_drop, List.length_take]; rfl)) ?_; (with_reducible refine (units_Bytes.calls (wrap64 ((wrap64 (a1)) + (wrap64 (a2)))) (wrap64 (a0)) t165 _ A9.out).mono ?_); rintro e w45 ⟨rfl, hb⟩; refine ⟨_, rfl, ?_⟩; have n0_ := Aside0.mk (below_step (by repeat (first | (with_reducible first | exact HB.out | apply below_alloc | apply pw_below_drewN | apply below_drew1) | exact HB.out)) hb); clear HB; have HB := n0_; clear n0_; (try clear hb); (try clear hb2); (try clear hk); (try clear hi)))
    go_ret
    exact ⟨by first | rfl | (simp [errW_none, errW_some] <;> rfl) | (simp [*, errW_none, errW_some] <;> rfl), by repeat (first | (with_reducible first | exact HB.out | apply below_alloc | apply pw_below_drewN | apply below_drew1) | exact HB.out)⟩

/-- THE ONE PURE STATEMENT of flywheellaw04_UnitsAdds: yours. -/
def flywheellaw04_UnitsAdds.Pure : Prop := ∀ (a0 : Int) (a1 : Int) (a2 : Int), (Lit.int .u32 a0).wf = true → (Lit.int .u32 a1).wf = true → (Lit.int .u32 a2).wf = true → flywheellaw04_UnitsAdds.f a0 a1 a2 = some true
theorem flywheellaw04_UnitsAdds.walk (P : flywheellaw04_UnitsAdds.Pure) (a0 : Int) (a1 : Int) (a2 : Int) (w : World) (w0 : (Lit.int .u32 a0).wf = true) (w1 : (Lit.int .u32 a1).wf = true) (w2 : (Lit.int .u32 a2).wf = true) :
    Calls Try.prog 5 #[.int .u32 a0, .int .u32 a1, .int .u32 a2] w fun e w' => e = .returned (.bool true) ∧ Below w.heap.size w w' := by
  have h := P a0 a1 a2 w0 w1 w2
  refine (flywheellaw04_UnitsAdds.calls a0 a1 a2 true w h).mono ?_
  rintro e w' ⟨rfl, hd⟩
  exact ⟨rfl, hd⟩

end Go.Proofs.Ytipdmihaidpnpaa.P

-- PUT TOGETHER by a program of this session: of the claim's texts, what is used
import Derived.Lib.BitFns
import Derived.WalkKit
import Derived.Lib.Mul64
section
namespace Go.Proofs.Ytdddpmmpfemibaa.P
open Go.RowKit
set_option linter.unusedVariables false
set_option linter.unusedSimpArgs false
theorem dv_gap (B y yn1 yn0 u r un q : Int) (hy : y = yn1 * B + yn0) (hu : u = q * yn1 + r) : u * B + un - q * y = r * B + un - q * yn0 := by
  subst hy; subst hu
  rw [Int.mul_add, Int.add_mul, ← Int.mul_assoc]; omega
theorem dv_le (N y q : Int) (hy : 0 < y) (h : q * y ≤ N) : q ≤ N / y := (Int.le_ediv_iff_mul_le hy).mpr h
theorem dv_lt (N y q : Int) (hy : 0 < y) (h : N < q * y) : N / y < q := Int.ediv_lt_of_lt_mul hy h
theorem dv_prod (q yn0 : Int) (h0 : 0 ≤ q) (h1 : q ≤ 4294967297) (h2 : 0 ≤ yn0) (h3 : yn0 < 4294967296) : 0 ≤ q * yn0 ∧ q * yn0 < 18446744073709551616 := by
  refine ⟨Int.mul_nonneg h0 h2, ?_⟩
  have := Int.mul_le_mul h1 (show yn0 ≤ 4294967295 by omega) h2 (by omega)
  omega
theorem dv_prodB (q yn0 : Int) (h0 : 0 ≤ q) (h1 : q ≤ 4294967296) (h2 : 0 ≤ yn0) (h3 : yn0 < 4294967296) : q * yn0 ≤ 18446744069414584320 := by
  have := Int.mul_le_mul h1 (show yn0 ≤ 4294967295 by omega) h2 (by omega)
  omega
theorem u64_id (x : Int) (h0 : 0 ≤ x) (h1 : x < 18446744073709551616) : IntKind.u64.wrap x = x := by rw [IntKind.wrap_u64]; omega
theorem u64_mod (x : Int) : IntKind.u64.wrap x = x % 18446744073709551616 := IntKind.wrap_u64 x
theorem dv_rest (a b q y R : Int) (h : a * 4294967296 + b - q * y = R) (h0 : 0 ≤ R) (h1 : R < 18446744073709551616) :
    IntKind.u64.wrap ((IntKind.u64.wrap ((IntKind.u64.wrap (a * 4294967296)) + b)) - (IntKind.u64.wrap (q * y))) = R := by
  simp only [u64_mod]
  generalize q * y = p at *
  omega
structure DvInv (y yn1 yn0 u un r q : Int) : Prop where
  hy : y = yn1 * 4294967296 + yn0
  n1 : 2147483648 ≤ yn1
  n1' : yn1 < 4294967296
  n0 : 0 ≤ yn0
  n0' : yn0 < 4294967296
  m0 : 0 ≤ un
  m1 : un < 4294967296
  u0 : 0 ≤ u
  u1 : u < y
  he : u = q * yn1 + r
  r0 : 0 ≤ r
  r1 : r < 4294967296
  q1 : q ≤ 4294967297
  hQ : (u * 4294967296 + un) / y ≤ q
theorem DvInv.ypos {y yn1 yn0 u un r q : Int} (h : DvInv y yn1 yn0 u un r q) : 0 < y := by have := h.hy; have := h.n1; have := h.n0; omega
theorem DvInv.y64 {y yn1 yn0 u un r q : Int} (h : DvInv y yn1 yn0 u un r q) : y < 18446744073709551616 := by have := h.hy; have := h.n1'; have := h.n0'; omega
theorem DvInv.Q0 {y yn1 yn0 u un r q : Int} (h : DvInv y yn1 yn0 u un r q) : 0 ≤ (u * 4294967296 + un) / y := Int.ediv_nonneg (by have := h.u0; have := h.m0; omega) (Int.le_of_lt h.ypos)
theorem DvInv.QB {y yn1 yn0 u un r q : Int} (h : DvInv y yn1 yn0 u un r q) : (u * 4294967296 + un) / y < 4294967296 :=
  dv_lt _ _ _ h.ypos (by have := h.u1; have := h.m1; omega)
theorem DvInv.found {y yn1 yn0 u un r q : Int} (h : DvInv y yn1 yn0 u un r q) (ht : q * yn0 ≤ r * 4294967296 + un) : q = (u * 4294967296 + un) / y := by
  have g := dv_gap 4294967296 y yn1 yn0 u r un q h.hy h.he
  have := dv_le (u * 4294967296 + un) y q h.ypos (by omega)
  have := h.hQ
  omega
theorem DvInv.less {y yn1 yn0 u un r q : Int} (h : DvInv y yn1 yn0 u un r q) (ht : 4294967296 ≤ q ∨ r * 4294967296 + un < q * yn0) : 1 ≤ q ∧ (u * 4294967296 + un) / y ≤ q - 1 := by
  have Q0 := h.Q0
  have QB := h.QB
  rcases ht with ht | ht
  · omega
  · have g := dv_gap 4294967296 y yn1 yn0 u r un q h.hy h.he
    have := dv_lt (u * 4294967296 + un) y q h.ypos (by omega)
    omega
theorem DvInv.next {y yn1 yn0 u un r q : Int} (h : DvInv y yn1 yn0 u un r q) (ht : 4294967296 ≤ q ∨ r * 4294967296 + un < q * yn0) (hr : r + yn1 < 4294967296) : DvInv y yn1 yn0 u un (r + yn1) (q - 1) := by
  have l := h.less ht
  refine { h with he := ?_, r0 := by have := h.r0; have := h.n1; omega, r1 := hr, q1 := by have := h.q1; omega, hQ := l.2 }
  rw [Int.sub_mul]; have := h.he; omega
theorem DvInv.stop {y yn1 yn0 u un r q : Int} (h : DvInv y yn1 yn0 u un r q) (ht : 4294967296 ≤ q ∨ r * 4294967296 + un < q * yn0) (hr : 4294967296 ≤ r + yn1) : q - 1 = (u * 4294967296 + un) / y := by
  have l := h.less ht
  have e : u = (q - 1) * yn1 + (r + yn1) := by rw [Int.sub_mul]; have := h.he; omega
  have g := dv_gap 4294967296 y yn1 yn0 u (r + yn1) un (q - 1) h.hy e
  have p := dv_prodB (q - 1) yn0 (by omega) (by have := h.q1; omega) h.n0 h.n0'
  have := dv_le (u * 4294967296 + un) y (q - 1) h.ypos (by have := h.m0; omega)
  omega
theorem DvInv.start {y yn1 yn0 u un : Int} (hy : y = yn1 * 4294967296 + yn0) (n1 : 2147483648 ≤ yn1) (n1' : yn1 < 4294967296) (n0 : 0 ≤ yn0) (n0' : yn0 < 4294967296) (un0 : 0 ≤ un) (un1 : un < 4294967296) (u0 : 0 ≤ u) (u1 : u < y) :
    DvInv y yn1 yn0 u un (u - u / yn1 * yn1) (u / yn1) := by
  have m := Int.emod_add_mul_ediv u yn1
  have m0 := Int.emod_nonneg u (show yn1 ≠ 0 by omega)
  have m1 := Int.emod_lt_of_pos u (show 0 < yn1 by omega)
  rw [Int.mul_comm yn1 _] at m
  refine ⟨hy, n1, n1', n0, n0', un0, un1, u0, u1, by omega, by omega, by omega, ?_, ?_⟩
  · have : u / yn1 < 4294967298 := dv_lt _ _ _ (by omega) (by omega)
    omega
  · apply dv_le _ _ _ (by omega)
    have hQ := Int.ediv_mul_le (u * 4294967296 + un) (show y ≠ 0 by omega)
    have hq0 : 0 ≤ (u * 4294967296 + un) / y := Int.ediv_nonneg (by omega) (by omega)
    generalize (u * 4294967296 + un) / y = Q at *
    rw [hy, Int.mul_add, ← Int.mul_assoc] at hQ
    have := Int.mul_nonneg hq0 n0
    generalize Q * yn1 = z at *
    omega
theorem DvInv.test {y yn1 yn0 u un r q : Int} (h : DvInv y yn1 yn0 u un r q) : IntKind.u64.wrap (q * yn0) = q * yn0 ∧ IntKind.u64.wrap ((IntKind.u64.wrap (4294967296 * r)) + un) = r * 4294967296 + un ∧ 0 ≤ q := by
  have Q0 := h.Q0; have Q := h.hQ
  have p := dv_prod q yn0 (by omega) h.q1 h.n0 h.n0'
  have := h.r0; have := h.r1; have := h.m0; have := h.m1
  refine ⟨u64_id _ p.1 p.2, ?_, by omega⟩
  rw [u64_id (4294967296 * r) (by omega) (by omega), u64_id _ (by omega) (by omega)]
  omega
theorem DvInv.rest {y yn1 yn0 u un r q : Int} (h : DvInv y yn1 yn0 u un r q) : 0 ≤ u * 4294967296 + un - (u * 4294967296 + un) / y * y ∧ u * 4294967296 + un - (u * 4294967296 + un) / y * y < y := by
  have m := Int.emod_add_mul_ediv (u * 4294967296 + un) y
  have m0 := Int.emod_nonneg (u * 4294967296 + un) (show y ≠ 0 by have := h.ypos; omega)
  have m1 := Int.emod_lt_of_pos (u * 4294967296 + un) h.ypos
  rw [Int.mul_comm y _] at m
  omega
theorem bitLen_span (x : Nat) (h0 : x ≠ 0) (h : x < 18446744073709551616) : ∃ j, Lib.bitLen x = j + 1 ∧ 2 ^ j ≤ x ∧ x < 2 ^ (j + 1) ∧ j + 1 ≤ 64 := by
  have a := Nat.log2_self_le h0
  have b := @Nat.lt_log2_self x
  have e := Lib.bitLen_shift x.log2 x a (by omega)
  have d : x / 2 ^ x.log2 = 1 := by
    apply Nat.div_eq_of_lt_le
    · omega
    · rw [Nat.pow_succ] at b; omega
  rw [d] at e
  refine ⟨x.log2, by rw [e]; rfl, a, b, ?_⟩
  have := (Nat.log2_lt h0).mpr (show x < 2 ^ 64 by omega)
  omega
theorem or_add_u64 (a P b : Int) (j : Nat) (hP : P = ((2 ^ j : Nat) : Int)) (ha : 0 ≤ a) (hb : 0 ≤ b) (hb1 : b < P) (h : a * P + b < 18446744073709551616) : Go.bits .or .u64 (a * P) b = a * P + b := by
  obtain ⟨A, rfl⟩ := Int.eq_ofNat_of_zero_le ha
  obtain ⟨C, rfl⟩ := Int.eq_ofNat_of_zero_le hb
  subst hP
  have e : (A : Int) * ((2 ^ j : Nat) : Int) = ((2 ^ j * A : Nat) : Int) := by rw [Int.natCast_mul, Int.mul_comm]
  rw [e] at h ⊢
  rw [bits_or_u64_nat _ _ (by omega) (by omega), ← Nat.two_pow_add_eq_or_of_lt (by omega) A, Int.natCast_add]
theorem shift_parts (lo P R : Int) (hP : 0 < P) (hR : 0 < R) (hPR : P * R = 18446744073709551616) (h0 : 0 ≤ lo) (h1 : lo < 18446744073709551616) :
    lo * P = lo / R * 18446744073709551616 + lo * P % 18446744073709551616 ∧ 0 ≤ lo / R ∧ lo / R < P := by
  have e : lo * P / 18446744073709551616 = lo / R := by
    rw [← hPR, Int.mul_comm P R]
    exact Int.mul_ediv_mul_of_pos_left lo R hP
  have m := Int.emod_add_mul_ediv (lo * P) 18446744073709551616
  rw [e] at m
  refine ⟨by omega, Int.ediv_nonneg h0 (by omega), Int.ediv_lt_of_lt_mul hR (by omega)⟩
def hold64 (q : Int) : Int × Bool := if q < -9223372036854775808 then (-9223372036854775808, false) else if q > 9223372036854775807 then (9223372036854775807, false) else (q, true)
def rnd (n d how : Int) : Int := if how = 1 then n / d else if how = 3 then -((-n) / d) else (2 * n + d) / (2 * d)
def mdq (a b c how : Int) : Int × Bool :=
  if c = 0 ∨ how < 1 ∨ how > 3 then (0, false) else if c < 0 then hold64 (rnd (-(a * b)) (-c) how) else hold64 (rnd (a * b) c how)
def isI64 (a : Int) : Prop := -9223372036854775808 ≤ a ∧ a ≤ 9223372036854775807
instance (a : Int) : Decidable (isI64 a) := inferInstanceAs (Decidable (_ ∧ _))
theorem two_halves (N C : Int) (hN : 0 ≤ N) (hC : 0 < C) :
    N / C = N / 18446744073709551616 / C * 18446744073709551616 + (N / 18446744073709551616 % C * 18446744073709551616 + N % 18446744073709551616) / C ∧
    N % C = (N / 18446744073709551616 % C * 18446744073709551616 + N % 18446744073709551616) % C ∧
    0 ≤ (N / 18446744073709551616 % C * 18446744073709551616 + N % 18446744073709551616) / C ∧
    (N / 18446744073709551616 % C * 18446744073709551616 + N % 18446744073709551616) / C < 18446744073709551616 := by
  have r0 := Int.emod_nonneg (N / 18446744073709551616) (show C ≠ 0 by omega)
  have r1 := Int.emod_lt_of_pos (N / 18446744073709551616) hC
  have m := Int.emod_add_mul_ediv (N / 18446744073709551616) C
  generalize hn : N / 18446744073709551616 = n0 at *
  generalize hr : n0 % C = r at *
  generalize hq : n0 / C = q at *
  have e : N = (r * 18446744073709551616 + N % 18446744073709551616) + q * 18446744073709551616 * C := by
    rw [Int.mul_right_comm, Int.mul_comm q C]
    omega
  refine ⟨?_, ?_, Int.ediv_nonneg (by omega) (by omega), Int.ediv_lt_of_lt_mul hC (by omega)⟩
  · conv => lhs; rw [e]
    rw [Int.add_mul_ediv_right _ _ (by omega)]
    omega
  · conv => lhs; rw [e]
    rw [Int.add_mul_emod_self_right]
theorem rnd_pos (N C how : Int) (hC : 0 < C) : rnd N C how = N / C + (if how = 1 then 0 else if how = 3 then (if 0 < N % C then 1 else 0) else (if C ≤ 2 * (N % C) then 1 else 0)) := by
  have r0 := Int.emod_nonneg N (show C ≠ 0 by omega)
  have r1 := Int.emod_lt_of_pos N hC
  have m := Int.emod_add_mul_ediv N C
  generalize hr : N % C = r at *
  generalize hq : N / C = q at *
  have hN : N = r + q * C := by rw [Int.mul_comm q C]; omega
  unfold rnd
  by_cases h1 : how = 1
  · rw [if_pos h1, if_pos h1]; omega
  by_cases h3 : how = 3
  · rw [if_neg h1, if_pos h3, if_neg h1, if_pos h3]
    have e : -N = (-r) + (-q) * C := by rw [Int.neg_mul]; omega
    rw [e, Int.add_mul_ediv_right _ _ (by omega)]
    split
    · have : (-r) / C = -1 := by rw [Int.ediv_eq_iff_of_pos hC]; omega
      omega
    · have : r = 0 := by omega
      subst this; simp
  · rw [if_neg h1, if_neg h3, if_neg h1, if_neg h3]
    have e : 2 * N + C = (2 * r + C) + q * (2 * C) := by rw [Int.mul_left_comm q 2 C]; omega
    rw [e, Int.add_mul_ediv_right _ _ (by omega)]
    split
    · have : (2 * r + C) / (2 * C) = 1 := by rw [Int.ediv_eq_iff_of_pos (by omega)]; omega
      omega
    · have : (2 * r + C) / (2 * C) = 0 := by rw [Int.ediv_eq_iff_of_pos (by omega)]; omega
      omega
theorem rnd_neg (N C how : Int) (hC : 0 < C) : rnd (-N) C how = -(N / C + (if how = 1 then (if 0 < N % C then 1 else 0) else if how = 3 then 0 else (if C < 2 * (N % C) then 1 else 0))) := by
  have r0 := Int.emod_nonneg N (show C ≠ 0 by omega)
  have r1 := Int.emod_lt_of_pos N hC
  have m := Int.emod_add_mul_ediv N C
  generalize hr : N % C = r at *
  generalize hq : N / C = q at *
  have hN : N = r + q * C := by rw [Int.mul_comm q C]; omega
  unfold rnd
  by_cases h1 : how = 1
  · rw [if_pos h1, if_pos h1]
    have e : -N = (-r) + (-q) * C := by rw [Int.neg_mul]; omega
    rw [e, Int.add_mul_ediv_right _ _ (by omega)]
    split
    · have : (-r) / C = -1 := by rw [Int.ediv_eq_iff_of_pos hC]; omega
      omega
    · have : r = 0 := by omega
      subst this; simp
  by_cases h3 : how = 3
  · rw [if_neg h1, if_pos h3, if_neg h1, if_pos h3, Int.neg_neg, hq]; omega
  · rw [if_neg h1, if_neg h3, if_neg h1, if_neg h3]
    have e : 2 * -N + C = (C - 2 * r) + (-q) * (2 * C) := by rw [Int.neg_mul, Int.mul_left_comm q 2 C]; omega
    rw [e, Int.add_mul_ediv_right _ _ (by omega)]
    split
    · have : (C - 2 * r) / (2 * C) = -1 := by rw [Int.ediv_eq_iff_of_pos (by omega)]; omega
      omega
    · have : (C - 2 * r) / (2 * C) = 0 := by rw [Int.ediv_eq_iff_of_pos (by omega)]; omega
      omega
theorem abs_mul_le {a b : Int} (ha : 0 ≤ a) (ha1 : a ≤ 9223372036854775808) (hb : 0 ≤ b) (hb1 : b ≤ 9223372036854775808) : a * b ≤ 85070591730234615865843651857942052864 := by
  have := Int.mul_le_mul ha1 hb1 hb (by omega)
  omega
def pw (n : Nat) : Int := 2 ^ n
theorem pw_succ (n : Nat) : pw (n + 1) = 2 * pw n := by unfold pw; rw [Int.pow_succ]; omega
theorem pw_pos (n : Nat) : 0 < pw n := Int.pow_pos (by decide)
end Go.Proofs.Ytdddpmmpfemibaa.P
end

-- PUT TOGETHER by a program of this session: of the claim's texts, what is used
import Derived.Laws.ComplexArith
import Derived.Laws.FloatBits
section
namespace Go.Proofs.YtphgeljglhjamaaDoor.FInt
open Ieee
set_option linter.unusedVariables false
set_option linter.unusedSimpArgs false
def sv (s : Bool) (m : Nat) : Int := if s then -(m : Int) else (m : Int)
def Num (s : Bool) (m : Nat) (p n : Int) : Prop := sv s m * 2 ^ p.toNat = n * 2 ^ (-p).toNat
def Stands (w : Nat) (n : Int) : Prop := ∃ s m p, double.read w = .number s m p ∧ Num s m p n
def Finite (w : Nat) : Prop := ∃ s m p, double.read w = .number s m p
def Tame (w : Nat) : Prop := Finite w ∨ ∃ s, double.read w = .infinity s
theorem signed_eq (s : Bool) (m k : Nat) : signed s m k = sv s m * 2 ^ k := by
  unfold signed sv
  rw [Nat.shiftLeft_eq]
  cases s <;> simp [Int.neg_mul]
theorem sv_abs (s : Bool) (m : Nat) : (sv s m).natAbs = m := by unfold sv; cases s <;> simp
theorem least_eq : double.leastPlace = -1074 := by decide
theorem binade_eq : double.binade = 4503599627370496 := by decide
theorem inf_eq : double.infRung = 2047 * 4503599627370496 := by decide
theorem sign_eq : double.signWeight = 9223372036854775808 := by decide
theorem word_div (s : Bool) {r : Nat} (h : r < 9223372036854775808) : (double.word s r / 9223372036854775808 % 2 == 1) = s ∧ double.word s r % 9223372036854775808 = r := by
  unfold Format.word
  rw [sign_eq]
  cases s
  · simp only [Bool.false_eq_true, if_false]
    rw [Nat.div_eq_of_lt h, Nat.mod_eq_of_lt h]; exact ⟨rfl, rfl⟩
  · simp only [if_true]
    constructor
    · have : (9223372036854775808 + r) / 9223372036854775808 = 1 := by omega
      rw [this]; rfl
    · omega
theorem read_word (s : Bool) {r : Nat} (h : r ≤ 2047 * 4503599627370496) :
    double.read (double.word s r) = if r < 4503599627370496 then .number s r (-1074) else if r < 2047 * 4503599627370496 then .number s (4503599627370496 + r % 4503599627370496) (-1074 + (r / 4503599627370496 - 1 : Nat)) else .infinity s := by
  have d := word_div s (r := r) (by omega)
  unfold Format.read
  simp only [sign_eq, binade_eq, inf_eq, least_eq, d.1, d.2]
  by_cases h1 : r < 4503599627370496
  · rw [if_pos h1, if_pos h1]
  · rw [if_neg h1, if_neg h1]
    by_cases h2 : r < 2047 * 4503599627370496
    · rw [if_pos h2, if_pos h2]
    · rw [if_neg h2, if_neg h2, if_pos (by omega)]
theorem write_tame (s : Bool) (m : Nat) (p : Int) : Tame (double.write (.number s m p)) := by
  have key : ∀ r, r ≤ 2047 * 4503599627370496 → Tame (double.word s r) := by
    intro r h
    have e := read_word s h
    by_cases h1 : r < 4503599627370496
    · rw [if_pos h1] at e; exact .inl ⟨_, _, _, e⟩
    · rw [if_neg h1] at e
      by_cases h2 : r < 2047 * 4503599627370496
      · rw [if_pos h2] at e; exact .inl ⟨_, _, _, e⟩
      · rw [if_neg h2] at e; exact .inr ⟨_, e⟩
  show Tame (double.nearest s m p)
  unfold Format.nearest
  split
  · exact key 0 (by decide)
  · dsimp only
    refine key _ ?_
    rw [inf_eq]
    exact Nat.min_le_right _ _
theorem add_tame {x y : Nat} (hx : Tame x) (hy : Finite y) : ∃ r, double.add x y = some r ∧ Tame r := by
  obtain ⟨t, n, j, ey⟩ := hy
  unfold Format.add
  rcases hx with ⟨s, m, i, ex⟩ | ⟨s, ex⟩
  · rw [ex, ey]
    exact ⟨_, rfl, write_tame _ _ _⟩
  · rw [ex, ey]
    refine ⟨_, rfl, .inr ⟨s, ?_⟩⟩
    show double.read (double.word s double.infRung) = _
    rw [inf_eq, read_word s (Nat.le_refl _)]
    rw [if_neg (by decide), if_neg (by decide)]
theorem cut_zero (way : Toward) (s : Bool) (n : Nat) : way.cut s n 0 = n := by
  unfold Toward.cut
  simp only [Nat.zero_min, Nat.shiftLeft_zero, Nat.div_one, Nat.mod_one]
  cases way <;> simp
theorem cut_whole (way : Toward) (s : Bool) (q d : Nat) (hq : q = 0 ∨ d ≤ (q * 2 ^ d).log2 + 2) : way.cut s (q * 2 ^ d) d = q := by
  unfold Toward.cut
  rcases hq with rfl | hq
  · simp only [Nat.zero_mul, Nat.zero_div, Nat.zero_mod]
    have : 0 < 1 <<< min d (Nat.log2 0 + 2) := by rw [Nat.shiftLeft_eq, Nat.one_mul]; exact Nat.two_pow_pos _
    cases way <;> simp [this] <;> omega
  · have : 0 < 2 ^ d := Nat.two_pow_pos _
    simp only [Nat.min_eq_left hq, Nat.shiftLeft_eq, Nat.one_mul, Nat.mul_div_cancel _ this, Nat.mul_mod_left]
    have n0 : ¬ 2 ^ d = 0 := by omega
    cases way <;> simp [n0]
theorem log2_mul_pow (q d : Nat) (h : q ≠ 0) : (q * 2 ^ d).log2 = q.log2 + d := by
  have a : q * 2 ^ d ≠ 0 := by have := Nat.two_pow_pos d; exact Nat.mul_ne_zero h (by omega)
  rw [Nat.log2_eq_iff a]
  have b := (Nat.log2_eq_iff h (k := q.log2)).mp rfl
  have p := Nat.two_pow_pos d
  rw [Nat.pow_add, show q.log2 + d + 1 = (q.log2 + 1) + d by omega, Nat.pow_add 2 (q.log2 + 1)]
  exact ⟨Nat.mul_le_mul_right _ b.1, Nat.mul_lt_mul_of_pos_right b.2 p⟩
theorem sv_num {s : Bool} {m : Nat} {p n : Int} (h : Num s m p n) : m * 2 ^ p.toNat = n.natAbs * 2 ^ (-p).toNat := by
  have := congrArg Int.natAbs h
  rw [Int.natAbs_mul, Int.natAbs_mul, sv_abs, Int.natAbs_pow, Int.natAbs_pow] at this
  exact this
theorem num_mk {s : Bool} {m : Nat} {p n : Int} (hs : n ≠ 0 → s = decide (n < 0)) (h : m * 2 ^ p.toNat = n.natAbs * 2 ^ (-p).toNat) : Num s m p n := by
  unfold Num
  by_cases n0 : n = 0
  · subst n0
    have := Nat.two_pow_pos p.toNat
    have m0 : m = 0 := by
      simp only [Int.natAbs_zero, Nat.zero_mul] at h
      rcases Nat.mul_eq_zero.mp h with h | h
      · exact h
      · omega
    subst m0
    simp [sv]
  · have hs := hs n0
    have hc : ((m * 2 ^ p.toNat : Nat) : Int) = ((n.natAbs * 2 ^ (-p).toNat : Nat) : Int) := by rw [h]
    rw [Int.natCast_mul, Int.natCast_mul, Int.natCast_pow, Int.natCast_pow] at hc
    subst hs
    unfold sv
    by_cases c : n < 0
    · rw [decide_eq_true c, if_pos rfl, Int.neg_mul]
      have e : ((n.natAbs : Nat) : Int) = -n := by omega
      rw [e, Int.neg_mul] at hc
      have hc' : (m : Int) * 2 ^ p.toNat = -(n * 2 ^ (-p).toNat) := hc
      rw [hc', Int.neg_neg]
    · rw [decide_eq_false c, if_neg (by decide)]
      have e : ((n.natAbs : Nat) : Int) = n := by omega
      rw [e] at hc
      exact hc
theorem num_sign {s : Bool} {m : Nat} {p n : Int} (h : Num s m p n) (n0 : n ≠ 0) : s = decide (n < 0) := by
  have hp : (0 : Int) < 2 ^ p.toNat := Int.pow_pos (by decide)
  have hq : (0 : Int) < 2 ^ (-p).toNat := Int.pow_pos (by decide)
  unfold Num sv at h
  have hm : 0 ≤ (m : Int) * 2 ^ p.toNat := Int.mul_nonneg (by omega) (by omega)
  cases s
  · rw [if_neg (by decide)] at h
    have : 0 ≤ n := by
      refine Int.not_lt.mp fun c => ?_
      have := Int.mul_neg_of_neg_of_pos c hq
      omega
    exact (decide_eq_false (by omega)).symm
  · rw [if_pos rfl, Int.neg_mul] at h
    have : n ≤ 0 := by
      refine Int.not_lt.mp fun c => ?_
      have := Int.mul_pos c hq
      omega
    exact (decide_eq_true (by omega)).symm
theorem write_exact {s : Bool} {m : Nat} {p n : Int} (h : Num s m p n) (hn : n.natAbs < 9007199254740992) :
    ∃ m' p', double.read (double.write (.number s m p)) = .number s m' p' ∧ Num s m' p' n := by
  show ∃ m' p', double.read (double.nearest s m p) = .number s m' p' ∧ Num s m' p' n
  have hm := sv_num h
  by_cases m0 : m = 0
  · subst m0
    have hz : n = 0 := by
      have := Nat.two_pow_pos (-p).toNat
      rw [Nat.zero_mul] at hm
      rcases Nat.mul_eq_zero.mp hm.symm with h | h
      · omega
      · omega
    subst hz
    unfold Format.nearest
    rw [if_pos rfl, read_word s (by decide), if_pos (by decide)]
    have z : sv s 0 = 0 := by unfold sv; cases s <;> rfl
    exact ⟨_, _, rfl, by unfold Num; rw [z, Int.zero_mul, Int.zero_mul]⟩
  have n0 : n ≠ 0 := by
    intro hz; subst hz
    have := Nat.two_pow_pos p.toNat
    rw [Int.natAbs_zero, Nat.zero_mul] at hm
    rcases Nat.mul_eq_zero.mp hm with h | h <;> omega
  have hs := num_sign h n0
  generalize hN : n.natAbs = N at hm hn
  have N0 : N ≠ 0 := by omega
  have L1 : (m * 2 ^ p.toNat).log2 = m.log2 + p.toNat := log2_mul_pow m _ m0
  have L2 : (N * 2 ^ (-p).toNat).log2 = N.log2 + (-p).toNat := log2_mul_pow N _ N0
  rw [hm, L2] at L1
  have lN : N.log2 < 53 := (Nat.log2_lt N0).mpr hn
  have b := (Nat.log2_eq_iff N0 (k := N.log2)).mp rfl
  generalize N.log2 = e at L1 lN b
  have last_eq : max (p + (m.log2 : Int) - (double.fractionBits : Int)) double.leastPlace = (e : Int) - 52 := by
    rw [least_eq, show (double.fractionBits : Int) = 52 from rfl]
    omega
  have kept_eq : Toward.even.cut s (m <<< (p - ((e : Int) - 52)).toNat) (((e : Int) - 52) - p).toNat = N * 2 ^ (52 - e) := by
    by_cases c : (e : Int) - 52 ≤ p
    · rw [show (((e : Int) - 52) - p).toNat = 0 by omega, cut_zero, Nat.shiftLeft_eq]
      by_cases c0 : 0 ≤ p
      · rw [show (-p).toNat = 0 by omega, Nat.pow_zero, Nat.mul_one] at hm
        rw [show (p - ((e : Int) - 52)).toNat = p.toNat + (52 - e) by omega, Nat.pow_add, ← Nat.mul_assoc, hm]
      · rw [show p.toNat = 0 by omega, Nat.pow_zero, Nat.mul_one] at hm
        rw [hm, Nat.mul_assoc, ← Nat.pow_add]
        congr 2; omega
    · rw [show (p - ((e : Int) - 52)).toNat = 0 by omega, Nat.shiftLeft_zero]
      rw [show p.toNat = 0 by omega, Nat.pow_zero, Nat.mul_one] at hm
      have e1 : m = N * 2 ^ (52 - e) * 2 ^ (((e : Int) - 52) - p).toNat := by
        rw [hm, Nat.mul_assoc, ← Nat.pow_add]
        congr 2; omega
      have e2 : m.log2 = e + (-p).toNat := by omega
      rw [e1] at e2 ⊢
      exact cut_whole _ _ _ _ (.inr (by rw [e2]; omega))
  have hk : 4503599627370496 ≤ N * 2 ^ (52 - e) ∧ N * 2 ^ (52 - e) < 9007199254740992 := by
    have q1 : 2 ^ e * 2 ^ (52 - e) = 4503599627370496 := by rw [← Nat.pow_add, show e + (52 - e) = 52 by omega]
    have q2 : 2 ^ (e + 1) * 2 ^ (52 - e) = 9007199254740992 := by rw [← Nat.pow_add, show e + 1 + (52 - e) = 53 by omega]
    rw [← q1, ← q2]
    exact ⟨Nat.mul_le_mul_right _ b.1, Nat.mul_lt_mul_of_pos_right b.2 (Nat.two_pow_pos _)⟩
  unfold Format.nearest
  rw [if_neg m0]
  dsimp only
  rw [last_eq, kept_eq, least_eq, binade_eq, inf_eq]
  generalize hK : N * 2 ^ (52 - e) = K at hk ⊢
  rw [Nat.min_eq_left (by omega), read_word s (by omega), if_neg (by omega), if_pos (by omega)]
  refine ⟨K, (e : Int) - 52, ?_, num_mk (fun _ => hs) ?_⟩
  · have e1 : 4503599627370496 + (((e : Int) - 52 - -1074).toNat * 4503599627370496 + K) % 4503599627370496 = K := by omega
    have e2 : (-1074 + (((((e : Int) - 52 - -1074).toNat * 4503599627370496 + K) / 4503599627370496 - 1 : Nat) : Int)) = (e : Int) - 52 := by omega
    rw [e1, e2]
  · rw [hN, show ((e : Int) - 52).toNat = 0 by omega, Nat.pow_zero, Nat.mul_one, ← hK]
    congr 2; omega
theorem toInt_exact {s : Bool} {m : Nat} {p n : Int} (h : Num s m p n) : (Datum.number s m p).toInt .zero = some n := by
  have hm := sv_num h
  have key : Toward.zero.cut s (m <<< p.toNat) (-p).toNat = n.natAbs := by
    rw [Nat.shiftLeft_eq, hm]
    by_cases n0 : n.natAbs = 0
    · exact cut_whole _ _ _ _ (.inl n0)
    · exact cut_whole _ _ _ _ (.inr (by rw [log2_mul_pow _ _ n0]; omega))
  unfold Datum.toInt Datum.integral
  simp only [key]
  congr 1
  rw [signed_eq, Int.pow_zero, Int.mul_one]
  unfold sv
  by_cases n0 : n = 0
  · subst n0; simp
  · rw [num_sign h n0]
    by_cases c : n < 0
    · rw [decide_eq_true c, if_pos rfl]; omega
    · rw [decide_eq_false c, if_neg (by decide)]; omega
theorem stands_int {w : Nat} {n : Int} (h : Stands w n) (h0 : -9223372036854775808 ≤ n) (h1 : n ≤ 9223372036854775807) : floatToIntVal .f64 w .i64 = some n := by
  obtain ⟨s, m, p, e, hn⟩ := h
  unfold floatToIntVal
  have : (FloatKind.f64.decode w).toInt .zero = some n := by
    show (double.read w).toInt .zero = some n
    rw [e]; exact toInt_exact hn
  rw [this]
  exact if_pos ⟨by show (-9223372036854775808 : Int) ≤ n; exact h0, by show n ≤ (9223372036854775807 : Int); exact h1⟩
theorem stands_of {n : Int} (hn : n.natAbs < 9007199254740992) : Stands (floatOfInt .f64 n) n := by
  obtain ⟨m, p, e, h⟩ := write_exact (s := decide (n < 0)) (m := n.natAbs) (p := 0) (n := n) (num_mk (fun _ => rfl) (by simp)) hn
  exact ⟨_, _, _, e, h⟩
theorem num_shift {s : Bool} {m : Nat} {p n base : Int} (h : Num s m p n) (hb : base ≤ p) : signed s m (p - base).toNat * 2 ^ base.toNat = n * 2 ^ (-base).toNat := by
  rw [signed_eq]
  unfold Num at h
  by_cases c : 0 ≤ base
  · rw [show (-base).toNat = 0 by omega, Int.mul_assoc, ← Int.pow_add, show (p - base).toNat + base.toNat = p.toNat by omega, h, show (-p).toNat = 0 by omega]
  · rw [show base.toNat = 0 by omega, Int.pow_zero, Int.mul_one]
    by_cases d : 0 ≤ p
    · rw [show (p - base).toNat = p.toNat + (-base).toNat by omega, Int.pow_add, ← Int.mul_assoc, h, show (-p).toNat = 0 by omega, Int.pow_zero, Int.mul_one]
    · rw [show p.toNat = 0 by omega, Int.pow_zero, Int.mul_one] at h
      rw [h, Int.mul_assoc, ← Int.pow_add]
      congr 2; omega
theorem stands_add {x y : Nat} {a b : Int} (hx : Stands x a) (hy : Stands y b) (hn : (a + b).natAbs < 9007199254740992) : ∃ r, double.add x y = some r ∧ Stands r (a + b) := by
  obtain ⟨s, m, i, ex, h1⟩ := hx
  obtain ⟨t, q, j, ey, h2⟩ := hy
  unfold Format.add
  rw [ex, ey]
  have g1 := num_shift h1 (Int.min_le_left i j)
  have g2 := num_shift h2 (Int.min_le_right i j)
  generalize hB : min i j = base at g1 g2
  have hs : (Datum.number s m i).sum (Datum.number t q j) = some (.number (if signed s m (i - base).toNat + signed t q (j - base).toNat = 0 then s && t else decide (signed s m (i - base).toNat + signed t q (j - base).toNat < 0)) (signed s m (i - base).toNat + signed t q (j - base).toNat).natAbs base) := by
    rw [← hB]; rfl
  rw [hs]
  have g : (signed s m (i - base).toNat + signed t q (j - base).toNat) * 2 ^ base.toNat = (a + b) * 2 ^ (-base).toNat := by
    rw [Int.add_mul, Int.add_mul, g1, g2]
  generalize signed s m (i - base).toNat + signed t q (j - base).toNat = T at g ⊢
  have hnum : Num (if T = 0 then s && t else decide (T < 0)) T.natAbs base (a + b) := by
    unfold Num
    rw [← g]
    congr 1
    unfold sv
    by_cases c : T = 0
    · subst c; simp
    · rw [if_neg c]
      by_cases d : T < 0
      · rw [decide_eq_true d, if_pos rfl]; omega
      · rw [decide_eq_false d, if_neg (by decide)]; omega
  obtain ⟨m', p', e, h⟩ := write_exact hnum hn
  exact ⟨_, rfl, _, _, _, e, h⟩
theorem stands_finite {w : Nat} {n : Int} (h : Stands w n) : Finite w := by
  obtain ⟨s, m, p, e, _⟩ := h
  exact ⟨_, _, _, e⟩
theorem cut_le (s : Bool) (n d k : Nat) (hn : n < 2 ^ (k + d)) : Toward.even.cut s n d ≤ 2 ^ k := by
  have key : n / (1 <<< min d (n.log2 + 2)) < 2 ^ k := by
    rw [Nat.shiftLeft_eq, Nat.one_mul]
    by_cases c : d ≤ n.log2 + 2
    · rw [Nat.min_eq_left c]
      refine Nat.div_lt_of_lt_mul ?_
      rw [← Nat.pow_add, Nat.add_comm d k]; exact hn
    · rw [Nat.min_eq_right (by omega)]
      have : n < 2 ^ (n.log2 + 2) := by
        have a : n < 2 ^ (n.log2 + 1) := Nat.lt_log2_self
        have b : 2 ^ (n.log2 + 1) ≤ 2 ^ (n.log2 + 2) := Nat.pow_le_pow_right (by decide) (by omega)
        omega
      rw [Nat.div_eq_of_lt this]
      exact Nat.two_pow_pos _
  unfold Toward.cut
  have t : ∀ b : Bool, b.toNat ≤ 1 := fun b => by cases b <;> decide
  refine Nat.le_trans (Nat.add_le_add_left (t _) _) ?_
  omega
theorem finite_of {n : Int} (h : n.natAbs ≤ 9223372036854775808) : Finite (floatOfInt .f64 n) := by
  show Finite (double.nearest (decide (n < 0)) n.natAbs 0)
  generalize decide (n < 0) = s
  generalize n.natAbs = m at h
  have key : ∀ r, r < 2047 * 4503599627370496 → Finite (double.word s r) := by
    intro r hr
    have e := read_word s (r := r) (by omega)
    by_cases h1 : r < 4503599627370496
    · rw [if_pos h1] at e; exact ⟨_, _, _, e⟩
    · rw [if_neg h1, if_pos hr] at e; exact ⟨_, _, _, e⟩
  unfold Format.nearest
  by_cases m0 : m = 0
  · rw [if_pos m0]; exact key 0 (by decide)
  rw [if_neg m0]
  dsimp only
  have b := (Nat.log2_eq_iff m0 (k := m.log2)).mp rfl
  have lm : m.log2 < 64 := (Nat.log2_lt m0).mpr (by omega)
  generalize m.log2 = e at b lm
  have last_eq : max ((0 : Int) + (e : Int) - (double.fractionBits : Int)) double.leastPlace = (e : Int) - 52 := by
    rw [least_eq, show (double.fractionBits : Int) = 52 from rfl]
    omega
  rw [last_eq, least_eq, binade_eq, inf_eq]
  have c := cut_le s (m <<< ((0 : Int) - ((e : Int) - 52)).toNat) ((e : Int) - 52 - 0).toNat 53 (by
    rw [Nat.shiftLeft_eq]
    by_cases d : e ≤ 52
    · rw [show ((e : Int) - 52 - 0).toNat = 0 by omega, show ((0 : Int) - ((e : Int) - 52)).toNat = 52 - e by omega]
      have q2 : 2 ^ (e + 1) * 2 ^ (52 - e) = 2 ^ (53 + 0) := by rw [← Nat.pow_add, show e + 1 + (52 - e) = 53 + 0 by omega]
      rw [← q2]
      exact Nat.mul_lt_mul_of_pos_right b.2 (Nat.two_pow_pos _)
    · rw [show ((0 : Int) - ((e : Int) - 52)).toNat = 0 by omega, Nat.pow_zero, Nat.mul_one, show 53 + ((e : Int) - 52 - 0).toNat = e + 1 by omega]
      exact b.2)
  generalize Toward.even.cut s (m <<< ((0 : Int) - ((e : Int) - 52)).toNat) ((e : Int) - 52 - 0).toNat = K at c
  rw [show (2 : Nat) ^ 53 = 9007199254740992 from rfl] at c
  refine key _ ?_
  rw [Nat.min_eq_left (by omega)]
  omega
theorem run_cadd {P : Program} {a b c d : Nat} (h : (cSumBits .add .f64 a b c d).isSome = true) (t : TypeId) (W : World) :
    (Go.binOp .add t (.complex .f64 a b) (.complex .f64 c d)).run P W = .ok (.complex .f64 ((cSumBits .add .f64 a b c d).getD (0, 0)).1 ((cSumBits .add .f64 a b c d).getD (0, 0)).2) W := by
  obtain ⟨⟨re, im⟩, e⟩ := Option.isSome_iff_exists.1 h
  rw [e]
  exact run_complex_sum W .add (.inl rfl) t .f64 a b c d re im e
theorem run_f2i {P : Program} {src dst : TypeId} {b : Nat} {k : IntKind} (hs : (P.underlying src).isSome = true) (hd : P.underlying dst = some (.int k)) (h : (floatToIntVal .f64 b k).isSome = true) (W : World) :
    (Go.convert src dst (.float .f64 b)).run P W = .ok (.int k ((floatToIntVal .f64 b k).getD 0)) W := by
  obtain ⟨n, e⟩ := Option.isSome_iff_exists.1 h
  rw [e]
  exact run_convert_float_int W src dst .f64 k b n hs hd e
end Go.Proofs.YtphgeljglhjamaaDoor.FInt
end

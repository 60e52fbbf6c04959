-- WRITTEN by a program of this session over the kit's print (hprint.py): functions proved by hand stand among the printed ones
import Derived.Test.YtipdmihaidpnpaaPx0
import Derived.Test.YtipdmihaidpnpaaPx1
namespace Go.Proofs.Ytipdmihaidpnpaa.P
open Go.RowKit Go.Proofs.YtipdmihaidpnpaaW.PrintWords Go.Proofs.YtipdmihaidpnpaaW.PrintLast Go.Proofs.YtipdmihaidpnpaaW.PrintMore
attribute [local go_sem] max2_int min2_int max_two min_two max_three min_three max_four min_four   -- for this text's walks alone
set_option linter.unusedVariables false
set_option linter.unusedSimpArgs false

/-! ### muldiv_divided: function 44, by hand -/
/-- The second digit, and what is left. -/
theorem div64_l1 (y s yn1 yn0 un q1 u : Int) (hs : 0 ≤ s) (d : Nat) : ∀ r q, DvInv y yn1 yn0 u un r q → (4294967296 - r).toNat < d →
    ∃ k, bits_Div64.l1 k y s yn1 yn0 un q1 r u q = some (IntKind.u64.wrap ((IntKind.u64.wrap (q1 * 4294967296)) + (u * 4294967296 + un) / y), shr .u64 (u * 4294967296 + un - (u * 4294967296 + un) / y * y) s) := by
  induction d with
  | zero => intro r q h hd; omega
  | succ d ih =>
    intro r q h hd
    obtain ⟨t1, t2, q0⟩ := h.test
    have R := h.rest
    have y64 := h.y64
    have Q0 := h.Q0; have QB := h.QB
    have r0 := h.r0; have r1 := h.r1; have n1 := h.n1; have n1' := h.n1'
    by_cases ht : 4294967296 ≤ q ∨ r * 4294967296 + un < q * yn0
    · have l := h.less ht
      have hq := h.q1
      have eq1 : IntKind.u64.wrap (q - 1) = q - 1 := u64_id _ (by omega) (by omega)
      have er : IntKind.u64.wrap (r + yn1) = r + yn1 := u64_id _ (by omega) (by omega)
      have step : ∀ k, bits_Div64.l1 (k + 2) y s yn1 yn0 un q1 r u q = bits_Div64.j4 (k + 1) y s yn1 yn0 un q1 r u q true := by
        intro k
        conv => lhs; unfold bits_Div64.l1
        by_cases hb : 4294967296 ≤ q
        · rw [if_pos hb]
        · rw [if_neg hb, t1, t2, decide_eq_true (show q * yn0 > r * 4294967296 + un by omega)]
      by_cases hr : r + yn1 < 4294967296
      · obtain ⟨k, hk⟩ := ih (r + yn1) (q - 1) (h.next ht hr) (by omega)
        refine ⟨k + 2, ?_⟩
        rw [step k]
        conv => lhs; unfold bits_Div64.j4
        rw [if_pos rfl, er, if_neg (by omega), eq1]
        exact hk
      · refine ⟨2, ?_⟩
        have st := h.stop ht (by omega)
        rw [step 0]
        conv => lhs; unfold bits_Div64.j4
        rw [if_pos rfl, er, if_pos (by omega), if_pos hs, eq1, dv_rest u un (q - 1) y _ (by rw [st]) R.1 (by omega), st]
    · have f := h.found (by omega)
      refine ⟨2, ?_⟩
      conv => lhs; unfold bits_Div64.l1
      rw [if_neg (by omega), t1, t2, decide_eq_false (by omega)]
      conv => lhs; unfold bits_Div64.j4
      rw [if_neg (by simp), if_pos hs, dv_rest u un q y _ (by rw [f]) R.1 (by omega), f]
/-- The first digit, and from there on. -/
theorem div64_l0 (y s yn1 yn0 un1 un0 u : Int) (hs : 0 ≤ s) (hu0 : 0 ≤ un0) (hu1 : un0 < 4294967296) (d : Nat) : ∀ r q, DvInv y yn1 yn0 u un1 r q → (4294967296 - r).toNat < d →
    ∃ k, bits_Div64.l0 k y s yn1 yn0 u un1 un0 q r = some (IntKind.u64.wrap ((IntKind.u64.wrap ((u * 4294967296 + un1) / y * 4294967296)) + ((u * 4294967296 + un1 - (u * 4294967296 + un1) / y * y) * 4294967296 + un0) / y), shr .u64 ((u * 4294967296 + un1 - (u * 4294967296 + un1) / y * y) * 4294967296 + un0 - ((u * 4294967296 + un1 - (u * 4294967296 + un1) / y * y) * 4294967296 + un0) / y * y) s) := by
  have two : ∀ r q, DvInv y yn1 yn0 u un1 r q → ∀ q', q' = (u * 4294967296 + un1) / y → ∃ k, bits_Div64.j2 k y s yn1 yn0 u un1 un0 q' = some (IntKind.u64.wrap ((IntKind.u64.wrap ((u * 4294967296 + un1) / y * 4294967296)) + ((u * 4294967296 + un1 - (u * 4294967296 + un1) / y * y) * 4294967296 + un0) / y), shr .u64 ((u * 4294967296 + un1 - (u * 4294967296 + un1) / y * y) * 4294967296 + un0 - ((u * 4294967296 + un1 - (u * 4294967296 + un1) / y * y) * 4294967296 + un0) / y * y) s) := by
    intro r q h q' hq'
    have R := h.rest
    have y64 := h.y64
    have e := dv_rest u un1 q' y _ (by rw [hq']) R.1 (by omega)
    generalize hv : u * 4294967296 + un1 - (u * 4294967296 + un1) / y * y = v at *
    have i := DvInv.start h.hy h.n1 h.n1' h.n0 h.n0' hu0 hu1 R.1 R.2
    obtain ⟨k, hk⟩ := div64_l1 y s yn1 yn0 un0 q' v hs _ _ _ i (Nat.lt_succ_self _)
    refine ⟨k + 1, ?_⟩
    simp only [bits_Div64.j2]
    have n1 := h.n1
    have td : IntKind.u64.wrap (Int.tdiv v yn1) = v / yn1 := by
      rw [Int.tdiv_eq_ediv_of_nonneg R.1]
      exact u64_id _ (Int.ediv_nonneg R.1 (by omega)) (Int.lt_of_le_of_lt (Int.ediv_le_self _ R.1) (by omega))
    have m0 := Int.ediv_nonneg R.1 (show 0 ≤ yn1 by omega)
    have m1 := Int.ediv_mul_le v (show yn1 ≠ 0 by omega)
    have m2 := Int.mul_nonneg m0 (show 0 ≤ yn1 by omega)
    rw [if_neg (by omega), e, td, u64_id (v / yn1 * yn1) m2 (by omega), u64_id (v - v / yn1 * yn1) (by omega) (by omega), hk, hq']
  induction d with
  | zero => intro r q h hd; omega
  | succ d ih =>
    intro r q h hd
    obtain ⟨t1, t2, q0⟩ := h.test
    have r0 := h.r0; have r1 := h.r1; have n1 := h.n1; have n1' := h.n1'
    by_cases ht : 4294967296 ≤ q ∨ r * 4294967296 + un1 < q * yn0
    · have l := h.less ht
      have hq := h.q1
      have Q0 := h.Q0
      have eq1 : IntKind.u64.wrap (q - 1) = q - 1 := u64_id _ (by omega) (by omega)
      have er : IntKind.u64.wrap (r + yn1) = r + yn1 := u64_id _ (by omega) (by omega)
      have step : ∀ k, bits_Div64.l0 (k + 2) y s yn1 yn0 u un1 un0 q r = bits_Div64.j1 (k + 1) y s yn1 yn0 u un1 un0 q r true := by
        intro k
        conv => lhs; unfold bits_Div64.l0
        by_cases hb : 4294967296 ≤ q
        · rw [if_pos hb]
        · rw [if_neg hb, t1, t2, decide_eq_true (show q * yn0 > r * 4294967296 + un1 by omega)]
      by_cases hr : r + yn1 < 4294967296
      · obtain ⟨k, hk⟩ := ih (r + yn1) (q - 1) (h.next ht hr) (by omega)
        refine ⟨k + 2, ?_⟩
        rw [step k]
        conv => lhs; unfold bits_Div64.j1
        rw [if_pos rfl, er, if_neg (by omega), eq1]
        exact hk
      · obtain ⟨k, hk⟩ := two r q h (q - 1) (h.stop ht (by omega))
        refine ⟨k + 2, ?_⟩
        rw [step k]
        conv => lhs; unfold bits_Div64.j1
        rw [if_pos rfl, er, if_pos (by omega), eq1]
        exact hk
    · obtain ⟨k, hk⟩ := two r q h q (h.found (by omega))
      refine ⟨k + 2, ?_⟩
      conv => lhs; unfold bits_Div64.l0
      rw [if_neg (by omega), t1, t2, decide_eq_false (by omega)]
      conv => lhs; unfold bits_Div64.j1
      rw [if_neg (by simp)]
      exact hk

theorem div64_spec (hi lo y : Int) (h0 : 0 ≤ hi) (hy : hi < y) (hy1 : y < 18446744073709551616) (l0 : 0 ≤ lo) (l1 : lo < 18446744073709551616) :
    ∃ k, bits_Div64.f k hi lo y = some ((hi * 18446744073709551616 + lo) / y, (hi * 18446744073709551616 + lo) % y) := by
  by_cases hz : hi = 0
  · subst hz
    refine ⟨0, ?_⟩
    unfold bits_Div64.f
    rw [if_neg (by omega), if_neg (by omega), if_pos rfl, Int.tdiv_eq_ediv_of_nonneg l0, Int.tmod_eq_emod_of_nonneg l0, Int.zero_mul, Int.zero_add]
    rw [u64_id _ (Int.ediv_nonneg l0 (by omega)) (Int.lt_of_le_of_lt (Int.ediv_le_self _ l0) l1)]
  obtain ⟨j, eL, b1, b2, b3⟩ := bitLen_span y.toNat (by omega) (by omega)
  obtain ⟨P, hP⟩ : ∃ P : Int, P = ((2 ^ (63 - j) : Nat) : Int) := ⟨_, rfl⟩
  obtain ⟨R, hR⟩ : ∃ R : Int, R = ((2 ^ (j + 1) : Nat) : Int) := ⟨_, rfl⟩
  obtain ⟨J, hJ⟩ : ∃ J : Int, J = ((2 ^ j : Nat) : Int) := ⟨_, rfl⟩
  have P0 : 0 < P := by rw [hP]; exact Int.natCast_pos.mpr (Nat.two_pow_pos _)
  have R0 : 0 < R := by rw [hR]; exact Int.natCast_pos.mpr (Nat.two_pow_pos _)
  have PR : P * R = 18446744073709551616 := by
    rw [hP, hR, ← Int.natCast_mul, ← Nat.pow_add, show 63 - j + (j + 1) = 64 by omega]; rfl
  have PJ : J * P = 9223372036854775808 := by
    rw [hP, hJ, ← Int.natCast_mul, ← Nat.pow_add, show j + (63 - j) = 63 by omega]; rfl
  have yR : y < R := by rw [hR]; omega
  have Jy : J ≤ y := by rw [hJ]; omega
  have hs : (wrap64 (64 - ((j + 1 : Nat) : Int))) = ((63 - j : Nat) : Int) := by unfold wrap64; omega
  have hs2 : IntKind.u64.wrap ((63 - j : Nat) : Int) = ((63 - j : Nat) : Int) := u64_id _ (by omega) (by omega)
  have hs3 : IntKind.u64.wrap (64 - ((63 - j : Nat) : Int)) = ((j + 1 : Nat) : Int) := by rw [u64_id _ (by omega) (by omega)]; omega
  have eshl : ∀ x : Int, shl .u64 x ((63 - j : Nat) : Int) = x * P % 18446744073709551616 := by
    intro x
    unfold shl
    rw [u64_mod, hP, Int.toNat_natCast, Nat.min_eq_left (by show 63 - j ≤ 64; omega), Int.natCast_pow]; rfl
  have eshr : ∀ x : Int, shr .u64 x ((j + 1 : Nat) : Int) = x / R := by
    intro x
    unfold shr
    rw [hR, Int.toNat_natCast, Nat.min_eq_left (by show j + 1 ≤ 64; omega), Int.natCast_pow]; rfl
  have eshr2 : ∀ x : Int, shr .u64 x ((63 - j : Nat) : Int) = x / P := by
    intro x
    unfold shr
    rw [hP, Int.toNat_natCast, Nat.min_eq_left (by show 63 - j ≤ 64; omega), Int.natCast_pow]; rfl
  have Y1 : y * P < 18446744073709551616 := by rw [← PR, Int.mul_comm P R]; exact Int.mul_lt_mul_of_pos_right yR P0
  have Y0 : 9223372036854775808 ≤ y * P := by rw [← PJ]; exact Int.mul_le_mul_of_nonneg_right Jy (by omega)
  have hP1 : hi * P < y * P := Int.mul_lt_mul_of_pos_right hy P0
  have hP0 : 0 ≤ hi * P := Int.mul_nonneg h0 (by omega)
  obtain ⟨lp, lR0, lR1⟩ := shift_parts lo P R P0 R0 PR l0 l1
  have hyP : (hi + 1) * P ≤ y * P := Int.mul_le_mul_of_nonneg_right (by omega) (by omega)
  rw [Int.add_mul, Int.one_mul] at hyP
  have eor : Go.bits .or .u64 (hi * P) (lo / R) = hi * P + lo / R := or_add_u64 hi P (lo / R) (63 - j) hP h0 lR0 lR1 (by omega)
  have nP : (hi * 18446744073709551616 + lo) * P = (hi * P + lo / R) * 18446744073709551616 + lo * P % 18446744073709551616 := by
    rw [Int.add_mul, Int.mul_assoc, Int.mul_comm 18446744073709551616 P, ← Int.mul_assoc]
    omega
  have t0 := Int.emod_nonneg (lo * P) (show (18446744073709551616 : Int) ≠ 0 by omega)
  have t1 := Int.emod_lt_of_pos (lo * P) (show (0 : Int) < 18446744073709551616 by omega)
  have elz : bits_LeadingZeros64.f y = some ((63 - j : Nat) : Int) := by
    unfold bits_LeadingZeros64.f bits_Len64.f
    rw [if_pos ⟨by omega, by omega⟩, Option.bind_some, eL, hs]
  have qn := Int.mul_ediv_mul_of_pos_left (hi * 18446744073709551616 + lo) y P0
  have rn : (hi * 18446744073709551616 + lo) * P % (y * P) = (hi * 18446744073709551616 + lo) % y * P := by rw [Int.mul_comm _ P, Int.mul_comm y P, Int.mul_emod_mul_of_pos _ _ P0, Int.mul_comm]
  have y0 : 0 < y := by omega
  generalize hT : lo * P % 18446744073709551616 = T at *
  generalize hU : hi * P + lo / R = U at *
  have hA : (hi * P) % 18446744073709551616 = hi * P := Int.emod_eq_of_lt hP0 (by omega)
  have hB : (y * P) % 18446744073709551616 = y * P := Int.emod_eq_of_lt (by omega) Y1
  generalize hYY : y * P = Y at *
  have i := DvInv.start (y := Y) (yn1 := Y / 4294967296) (yn0 := Y % 4294967296) (u := U) (un := T / 4294967296) (by omega) (by omega) (by omega) (by omega) (by omega) (by omega) (by omega) (by omega) (by omega)
  obtain ⟨k, hk⟩ := div64_l0 Y ((63 - j : Nat) : Int) (Y / 4294967296) (Y % 4294967296) (T / 4294967296) (T % 4294967296) U (by omega) (by omega) (by omega) _ _ _ i (Nat.lt_succ_self _)
  refine ⟨k, ?_⟩
  unfold bits_Div64.f
  have yn := i.n1
  have td : IntKind.u64.wrap (Int.tdiv U (Y / 4294967296)) = U / (Y / 4294967296) := by
    rw [Int.tdiv_eq_ediv_of_nonneg i.u0]
    exact u64_id _ (Int.ediv_nonneg i.u0 (by omega)) (Int.lt_of_le_of_lt (Int.ediv_le_self _ i.u0) (by omega))
  have m0 := Int.ediv_nonneg i.u0 (show 0 ≤ Y / 4294967296 by omega)
  have m1 := Int.ediv_mul_le U (show Y / 4294967296 ≠ 0 by omega)
  have m2 := Int.mul_nonneg m0 (show 0 ≤ Y / 4294967296 by omega)
  have aY : Go.bits .and .u64 Y 4294967295 = Y % 4294967296 := and_low32 Y (by omega) (by omega)
  have aT : Go.bits .and .u64 T 4294967295 = T % 4294967296 := and_low32 T (by omega) (by omega)
  rw [if_neg (by omega), if_neg (by omega), if_neg hz, elz, Option.bind_some, hs2, if_pos (by omega), hs3, if_pos (by omega), eshl y, hYY, hB, if_neg (by omega), eshl hi, hA, eshr lo, eor, eshl lo, hT, aY, aT, td,
    u64_id (U / (Y / 4294967296) * (Y / 4294967296)) m2 (by omega), u64_id (U - U / (Y / 4294967296) * (Y / 4294967296)) (by omega) (by omega), hk]
  have R1 := i.rest
  have QB := i.QB
  have Q0 := i.Q0
  generalize hQ : (U * 4294967296 + T / 4294967296) / Y = Q1 at *
  generalize hV : U * 4294967296 + T / 4294967296 - Q1 * Y = V at *
  have V0 : 0 ≤ (V * 4294967296 + T % 4294967296) / Y := Int.ediv_nonneg (by omega) (by omega)
  have V1 : (V * 4294967296 + T % 4294967296) / Y < 4294967296 := dv_lt _ _ _ (by omega) (by omega)
  have me := Int.emod_add_mul_ediv (V * 4294967296 + T % 4294967296) Y
  have me0 := Int.emod_nonneg (V * 4294967296 + T % 4294967296) (show Y ≠ 0 by omega)
  have me1 := Int.emod_lt_of_pos (V * 4294967296 + T % 4294967296) (show 0 < Y by omega)
  rw [Int.mul_comm Y _] at me
  generalize hQ2 : (V * 4294967296 + T % 4294967296) / Y = Q2 at *
  generalize hW : (V * 4294967296 + T % 4294967296) % Y = W at *
  have all : (hi * 18446744073709551616 + lo) * P = (Q1 * 4294967296 + Q2) * Y + W := by
    rw [nP, Int.add_mul, Int.mul_assoc, Int.mul_comm 4294967296 Y, ← Int.mul_assoc]
    omega
  have fq : (hi * 18446744073709551616 + lo) / y = Q1 * 4294967296 + Q2 := by
    rw [← qn, all]
    rw [Int.add_comm, Int.add_mul_ediv_right _ _ (by omega), Int.ediv_eq_zero_of_lt me0 me1, Int.zero_add]
  have fr : (hi * 18446744073709551616 + lo) % y * P = W := by
    rw [← rn, all, Int.add_comm, Int.add_mul_emod_self_right, Int.emod_eq_of_lt me0 me1]
  rw [u64_id (Q1 * 4294967296) (by omega) (by omega), u64_id (Q1 * 4294967296 + Q2) (by omega) (by omega), eshr2, show V * 4294967296 + T % 4294967296 - Q2 * Y = W by omega, fq, ← fr, Int.mul_ediv_cancel _ (by omega)]


def muldiv_divided.f (n0 : Int) (n1 : Int) (c : Int) : Option (Int × Int × Int) :=
  if (0 ≤ n0 ∧ n0 < 18446744073709551616) ∧ (0 ≤ n1 ∧ n1 < 18446744073709551616) ∧ (0 < c ∧ c < 18446744073709551616) then
    some (n0 / c, (n0 % c * 18446744073709551616 + n1) / c, (n0 % c * 18446744073709551616 + n1) % c) else none
set_option maxHeartbeats 4000000 in
set_option maxRecDepth 100000 in
theorem muldiv_divided.walk (n0 n1 c q0 l0 q1 l1 : Int) (k1 k2 : Nat) (w : World) (h0 : bits_Div64.f k1 0 n0 c = some (q0, l0)) (h1 : bits_Div64.f k2 l0 n1 c = some (q1, l1)) :
    Calls Try.prog 44 #[.agg #[.int .u64 n0, .int .u64 n1], .int .u64 c] w fun e w' => e = .returned (.tuple #[.agg #[.int .u64 q0, .int .u64 q1], .int .u64 l1]) ∧ Below w.heap.size w w' := by
  have hu62 := Try.underlying62
  have A0 := Aside0.mk h0
  have A1 := Aside0.mk h1
  clear h0 h1
  go_enter Try.func44, Try.ntmps44
  go_wp2
  refine wp_scope_jumps 0 (fun a' w' => ∃ (n : Nat) (u9 u10 u11 u12 u13 u14 u15 u16 u17 u18 u19 u20 u21 u22 u23 u24 u25 : Value), a' = { tmps := #[.agg #[.int .u64 n0, .int .u64 n1], .int .u64 c, .pointer (some ⟨w.heap.size, 0, none⟩), undef, .pointer (some ⟨w.heap.size + 1, 0, none⟩), .int .u64 0, .pointer (some ⟨w.heap.size + 1 + 1, 0, none⟩), .int .u64 l0, .int .i64 1, u9, u10, u11, u12, u13, u14, u15, u16, u17, u18, u19, u20, u21, u22, u23, u24, u25], defers := [] } ∧
      w' = (((((w.alloc (.cells #[.int .u64 n0, .int .u64 n1] 62)).alloc (.cells #[.int .u64 0, .int .u64 0] 62)).alloc (.cells #[.int .u64 0, .int .u64 0] 62)).drewN n).setCell ⟨w.heap.size + 1 + 1, 0, none⟩ (.int .u64 q0))) (fun a' _ => 0) rfl ?_ ?_
  · go_wp2
    go_step3
    go_wp2_with (go_at_call 48; (with_reducible refine (bits_Div64.calls k1 0 n0 c q0 l0 _ A0.out).mono ?_); rintro e w' ⟨rfl, hd⟩; obtain ⟨n, rfl⟩ := hd.out)
    go_step3
    exact ⟨rfl, n, _, _, _, _, _, _, _, _, _, _, _, _, _, _, _, _, _, rfl, rfl⟩
  · rintro a' w' ⟨n, u9, u10, u11, u12, u13, u14, u15, u16, u17, u18, u19, u20, u21, u22, u23, u24, u25, rfl, rfl⟩
    go_wp2_with (go_at_call 48; (with_reducible refine (bits_Div64.calls k2 l0 n1 c q1 l1 _ A1.out).mono ?_); rintro e w' ⟨rfl, hd⟩; obtain ⟨n2, rfl⟩ := hd.out)
    simp only [Exit.jump]
    refine bodyPost_ret (v := .tuple #[.agg #[.int .u64 q0, .int .u64 q1], .int .u64 l1]) (by simp [results, Try.results44, go_sem]) rfl ⟨rfl, ?_⟩
    repeat (first | refine Below.setCell ?_ (by simp; try omega) _ | apply pw_below_drewN | refine Below.alloc ?_ (by simp; try omega) _ | exact Below.refl _ _)
theorem muldiv_divided.calls (a0_0 : Int) (a0_1 : Int) (a1 : Int) (r1 : Int) (r2 : Int) (r3 : Int) (w : World) (h : muldiv_divided.f a0_0 a0_1 a1 = some (r1, r2, r3)) :
    Calls Try.prog 44 #[.agg #[.int .u64 a0_0, .int .u64 a0_1], .int .u64 a1] w fun e w' => e = .returned (.tuple #[.agg #[.int .u64 r1, .int .u64 r2], .int .u64 r3]) ∧ Below w.heap.size w w' := by
  unfold muldiv_divided.f at h
  split at h
  · rename_i hb
    obtain ⟨⟨a, b⟩, ⟨c, d⟩, p, q⟩ := hb
    obtain ⟨k1, h1⟩ := div64_spec 0 a0_0 a1 (by omega) p q a b
    obtain ⟨k2, h2⟩ := div64_spec (a0_0 % a1) a0_1 a1 (Int.emod_nonneg _ (by omega)) (Int.emod_lt_of_pos _ p) q c d
    rw [Int.zero_mul, Int.zero_add] at h1
    simp only [Option.some.injEq, Prod.mk.injEq] at h
    obtain ⟨rfl, rfl, rfl⟩ := h
    exact muldiv_divided.walk _ _ _ _ _ _ _ k1 k2 w h1 h2
  · cases h

/-! ### muldiv_up: function 45 -/
def muldiv_up.f (a0 : Int) (a1 : Int) (a2 : Bool) (a3 : Int) : Option (Bool) := if a3 = 1 then (if a2 = true then (some (decide (a0 > 0))) else (some false)) else (if a3 = 3 then (if a2 = true then (some false) else (some (decide (a0 > 0)))) else (if a2 = true then (some (decide (a0 > (IntKind.u64.wrap (a1 - a0))))) else (if a0 > 0 then (some (decide (a0 ≥ (IntKind.u64.wrap (a1 - a0))))) else (some false))))
set_option maxHeartbeats 8000000 in
set_option maxRecDepth 100000 in
theorem muldiv_up.calls (a0 : Int) (a1 : Int) (a2 : Bool) (a3 : Int) (r : Bool) (w : World) (h : muldiv_up.f a0 a1 a2 a3 = some r) :
    Calls Try.prog 45 #[.int .u64 a0, .int .u64 a1, .bool a2, .int .i64 a3] w fun e w' => e = .returned (.bool r) ∧ Drawn0 w w' := by
  have H : (if a3 = 1 then (if a2 = true then (some (decide (a0 > 0))) else (some false)) else (if a3 = 3 then (if a2 = true then (some false) else (some (decide (a0 > 0)))) else (if a2 = true then (some (decide (a0 > (IntKind.u64.wrap (a1 - a0))))) else (if a0 > 0 then (some (decide (a0 ≥ (IntKind.u64.wrap (a1 - a0))))) else (some false))))) = some r := h
  clear h
  by_cases c5 : a3 = 1
  · rw [if_pos c5] at H
    have c5b0 : (a3 == 1) = true := beq_iff_eq.mpr c5
    have c5b1 : (a3 != 1) = false := bne_eq_false_iff_eq.mpr c5
    clear c5
    by_cases c6 : a2 = true
    · subst c6
      have H1 : (some (decide (a0 > 0))) = some r := by rw [if_pos rfl] at H; exact H
      clear H
      have H := H1
      clear H1
      obtain rfl := Option.some.inj H
      go_enter Try.func45, Try.ntmps45
      go_wp2
      go_ret
      exact ⟨by first | rfl | (simp; done) | (simp [*]; done), by repeat (first | exact Drawn0.refl _ | apply Drawn0.step)⟩
    · replace c6 := Bool.eq_false_iff.mpr c6
      subst c6
      have H1 : (some false) = some r := by rw [if_neg (show ¬ (false = true) by decide)] at H; exact H
      clear H
      have H := H1
      clear H1
      obtain rfl := Option.some.inj H
      go_enter Try.func45, Try.ntmps45
      go_wp2
      go_ret
      exact ⟨by first | rfl | (simp; done) | (simp [*]; done), by repeat (first | exact Drawn0.refl _ | apply Drawn0.step)⟩
  · rw [if_neg c5] at H
    have c5b0 : (a3 == 1) = false := beq_eq_false_iff_ne.mpr c5
    have c5b1 : (a3 != 1) = true := bne_iff_ne.mpr c5
    by_cases c7 : a3 = 3
    · rw [if_pos c7] at H
      have c7b0 : (a3 == 3) = true := beq_iff_eq.mpr c7
      have c7b1 : (a3 != 3) = false := bne_eq_false_iff_eq.mpr c7
      clear c7
      by_cases c8 : a2 = true
      · subst c8
        have H1 : (some false) = some r := by rw [if_pos rfl] at H; exact H
        clear H
        have H := H1
        clear H1
        obtain rfl := Option.some.inj H
        go_enter Try.func45, Try.ntmps45
        go_wp2
        go_ret
        exact ⟨by first | rfl | (simp; done) | (simp [*]; done), by repeat (first | exact Drawn0.refl _ | apply Drawn0.step)⟩
      · replace c8 := Bool.eq_false_iff.mpr c8
        subst c8
        have H1 : (some (decide (a0 > 0))) = some r := by rw [if_neg (show ¬ (false = true) by decide)] at H; exact H
        clear H
        have H := H1
        clear H1
        obtain rfl := Option.some.inj H
        go_enter Try.func45, Try.ntmps45
        go_wp2
        go_ret
        exact ⟨by first | rfl | (simp; done) | (simp [*]; done), by repeat (first | exact Drawn0.refl _ | apply Drawn0.step)⟩
    · rw [if_neg c7] at H
      have c7b0 : (a3 == 3) = false := beq_eq_false_iff_ne.mpr c7
      have c7b1 : (a3 != 3) = true := bne_iff_ne.mpr c7
      by_cases c9 : a2 = true
      · subst c9
        have H1 : (some (decide (a0 > (IntKind.u64.wrap (a1 - a0))))) = some r := by rw [if_pos rfl] at H; exact H
        clear H
        have H := H1
        clear H1
        obtain rfl := Option.some.inj H
        go_enter Try.func45, Try.ntmps45
        go_wp2
        go_ret
        exact ⟨by first | rfl | (simp; done) | (simp [*]; done), by repeat (first | exact Drawn0.refl _ | apply Drawn0.step)⟩
      · replace c9 := Bool.eq_false_iff.mpr c9
        subst c9
        have H1 : (if a0 > 0 then (some (decide (a0 ≥ (IntKind.u64.wrap (a1 - a0))))) else (some false)) = some r := by rw [if_neg (show ¬ (false = true) by decide)] at H; exact H
        clear H
        have H := H1
        clear H1
        by_cases c10 : a0 > 0
        · rw [if_pos c10] at H
          have c10b0 : decide (0 < a0) = true := decide_eq_true c10
          clear c10
          obtain rfl := Option.some.inj H
          go_enter Try.func45, Try.ntmps45
          go_wp2
          go_ret
          exact ⟨by first | rfl | (simp; done) | (simp [*]; done), by repeat (first | exact Drawn0.refl _ | apply Drawn0.step)⟩
        · rw [if_neg c10] at H
          have c10b0 : decide (0 < a0) = false := decide_eq_false c10
          clear c10
          obtain rfl := Option.some.inj H
          go_enter Try.func45, Try.ntmps45
          go_wp2
          go_ret
          exact ⟨by first | rfl | (simp; done) | (simp [*]; done), by repeat (first | exact Drawn0.refl _ | apply Drawn0.step)⟩

/-! ### bits_Add64: function 46, by hand -/
def add64s (x y c : Int) : Int := (((x.toNat + y.toNat + c.toNat) % 18446744073709551616 : Nat) : Int)
def add64c (x y c : Int) : Int := (((x.toNat + y.toNat + c.toNat) / 18446744073709551616 : Nat) : Int)
theorem run_add64_any (x y c : Int) (hc : c ≤ 1) (w : World) :
    (callFunc 46 #[.int .u64 x, .int .u64 y, .int .u64 c]).run Try.prog w = .ok (.value (.tuple #[.int .u64 (add64s x y c), .int .u64 (add64c x y c)])) w := by
  rw [run_callFunc_extern Try.func46 (by kernel_rfl) (by kernel_rfl) (by kernel_rfl) (e := add64Entry) (by kernel_rfl)]
  have key : (add64Entry #[.int .u64 x, .int .u64 y, .int .u64 c]).run Try.prog w = .ok (.tuple #[.int .u64 (add64s x y c), .int .u64 (add64c x y c)]) w := by
    cases c with
    | ofNat k =>
      have hk : k = 0 ∨ k = 1 := by have : ((k : Nat) : Int) ≤ 1 := hc; omega
      rcases hk with rfl | rfl <;> rfl
    | negSucc n => rfl
  rw [key]
  rfl
theorem run_add64_0 (x y : Int) (w : World) :
    (callFunc 46 #[.int .u64 x, .int .u64 y, .int .u64 0]).run Try.prog w = .ok (.value (.tuple #[.int .u64 (add64s x y 0), .int .u64 (add64c x y 0)])) w := run_add64_any x y 0 (by decide) w
theorem run_add64_c (x y c : Int) (hc : decide (c ≤ 1) = true) (w : World) :
    (callFunc 46 #[.int .u64 x, .int .u64 y, .int .u64 c]).run Try.prog w = .ok (.value (.tuple #[.int .u64 (add64s x y c), .int .u64 (add64c x y c)])) w := run_add64_any x y c (of_decide_eq_true hc) w

end Go.Proofs.Ytipdmihaidpnpaa.P

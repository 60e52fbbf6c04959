-- WRITTEN by a program of this session over the kit's print (hprint.py): functions proved by hand stand among the printed ones
import Derived.Test.YtipdmihaidpnpaaPx0
import Derived.Test.YtipdmihaidpnpaaPx1
import Derived.Test.YtipdmihaidpnpaaPx2
import Derived.Test.YtipdmihaidpnpaaPx3
namespace Go.Proofs.Ytipdmihaidpnpaa.P
open Go.RowKit Go.Proofs.YtipdmihaidpnpaaW.PrintWords Go.Proofs.YtipdmihaidpnpaaW.PrintLast Go.Proofs.YtipdmihaidpnpaaW.PrintMore
attribute [local go_sem] max2_int min2_int max_two min_two max_three min_three max_four min_four   -- for this text's walks alone
set_option linter.unusedVariables false
set_option linter.unusedSimpArgs false

/-! ### muldiv_quotient: function 35, by hand -/
theorem mul64_ok (a b : Int) (ha : 0 ≤ a) (ha1 : a < 18446744073709551616) (hb : 0 ≤ b) (hb1 : b < 18446744073709551616) :
    bits_Mul64.f a b = some (a * b / 18446744073709551616, a * b % 18446744073709551616) := by
  obtain ⟨x, rfl⟩ := Int.eq_ofNat_of_zero_le ha
  obtain ⟨y, rfl⟩ := Int.eq_ofNat_of_zero_le hb
  have hx : x < 18446744073709551616 := by omega
  have hy : y < 18446744073709551616 := by omega
  obtain ⟨bd, bt, bw, hhi⟩ := Lib.mul64_hi x y hx hy
  have e1 : Go.bits .and .u64 (x : Int) 4294967295 = ((x % 4294967296 : Nat) : Int) := by rw [and_low32 _ ha (by omega)]; omega
  have e2 : Go.bits .and .u64 (y : Int) 4294967295 = ((y % 4294967296 : Nat) : Int) := by rw [and_low32 _ hb (by omega)]; omega
  have d1 : (x : Int) / 4294967296 = ((x / 4294967296 : Nat) : Int) := by omega
  have d2 : (y : Int) / 4294967296 = ((y / 4294967296 : Nat) : Int) := by omega
  unfold bits_Mul64.f
  rw [e1, e2, d1, d2]
  simp only [← Int.natCast_mul]
  have b3 := Lib.half_mul_le (a := x / 4294967296) (b := y % 4294967296) (by omega) (by omega)
  have b4 := Lib.half_mul_le (a := x % 4294967296) (b := y / 4294967296) (by omega) (by omega)
  have b5 := Lib.half_mul_le (a := x / 4294967296) (b := y / 4294967296) (by omega) (by omega)
  generalize (x % 4294967296) * (y % 4294967296) = w0 at *
  generalize (x / 4294967296) * (y % 4294967296) = p1 at *
  generalize (x % 4294967296) * (y / 4294967296) = p2 at *
  generalize (x / 4294967296) * (y / 4294967296) = p3 at *
  generalize x * y = N at *
  have w1 : IntKind.u64.wrap ((w0 : Nat) : Int) = (w0 : Int) := u64_id _ (by omega) (by omega)
  have w2 : IntKind.u64.wrap ((p1 : Nat) : Int) = (p1 : Int) := u64_id _ (by omega) (by omega)
  have w3 : IntKind.u64.wrap ((p2 : Nat) : Int) = (p2 : Int) := u64_id _ (by omega) (by omega)
  have w4 : IntKind.u64.wrap ((p3 : Nat) : Int) = (p3 : Int) := u64_id _ (by omega) (by omega)
  rw [w1, w2, w3, w4]
  have t : (p1 : Int) + (w0 : Int) / 4294967296 = ((p1 + w0 / 4294967296 : Nat) : Int) := by omega
  rw [t]
  generalize hT : p1 + w0 / 4294967296 = T at *
  have w5 : IntKind.u64.wrap ((T : Nat) : Int) = (T : Int) := u64_id _ (by omega) (by omega)
  have e3 : Go.bits .and .u64 (T : Int) 4294967295 = ((T % 4294967296 : Nat) : Int) := by rw [and_low32 _ (by omega) (by omega)]; omega
  rw [w5, e3]
  rw [u64_id (((T % 4294967296 : Nat) : Int) + (p2 : Int)) (by omega) (by omega), u64_id ((p3 : Int) + (T : Int) / 4294967296) (by omega) (by omega), u64_id _ (by omega) (by omega), u64_mod]
  congr 2
  · omega
theorem msize (a : Int) (h : isI64 a) : muldiv_size.f a = some (if a < 0 then -a else a) := by
  unfold isI64 at h
  unfold muldiv_size.f
  simp only [u64_mod]
  split
  · congr 1; omega
  · congr 1; omega
theorem quotient_tail (below : Bool) (hi lo : Int) (h0 : 0 ≤ hi) (l0 : 0 ≤ lo) (l1 : lo < 18446744073709551616) :
    muldiv_quotient.j2 3 below hi lo = some (hold64 (if below = true then -(hi * 18446744073709551616 + lo) else hi * 18446744073709551616 + lo)) := by
  cases below with
  | true =>
    simp only [muldiv_quotient.j2, muldiv_quotient.j3, muldiv_quotient.j4, if_true]
    unfold hold64
    by_cases hz : hi > 0
    · rw [if_pos hz, if_pos (by omega)]
    · rw [if_neg hz]
      by_cases hl : lo > 9223372036854775808
      · rw [decide_eq_true (by omega), if_pos rfl, if_pos (by omega)]
      · rw [decide_eq_false (by omega), if_neg (by simp), if_neg (by omega), if_neg (by omega)]
        congr 2
        rw [u64_mod]; unfold wrap64; omega
  | false =>
    simp only [muldiv_quotient.j2, muldiv_quotient.j3, muldiv_quotient.j4, Bool.false_eq_true, if_false]
    unfold hold64
    by_cases hz : hi > 0
    · rw [if_pos hz, if_pos trivial, if_neg (by omega), if_pos (by omega)]
    · rw [if_neg hz]
      by_cases hl : lo > 9223372036854775807
      · rw [decide_eq_true (by omega), if_pos rfl, if_neg (by omega), if_pos (by omega)]
      · rw [decide_eq_false (by omega), if_neg (by simp), if_neg (by omega), if_neg (by omega)]
        congr 2
        unfold wrap64; omega
theorem up_ok (left C : Int) (below : Bool) (how : Int) (h0 : 0 ≤ left) (h1 : left < C) (hC : C < 18446744073709551616) (hh : how = 1 ∨ how = 2 ∨ how = 3) :
    muldiv_up.f left C below how = some (decide (1 = (if below = true then (if how = 1 then (if 0 < left then 1 else 0) else if how = 3 then 0 else (if C < 2 * left then 1 else 0)) else (if how = 1 then 0 else if how = 3 then (if 0 < left then 1 else 0) else (if C ≤ 2 * left then 1 else 0)) : Int))) := by
  unfold muldiv_up.f
  have w : IntKind.u64.wrap (C - left) = C - left := u64_id _ (by omega) (by omega)
  rw [w]
  rcases hh with rfl | rfl | rfl <;> cases below <;> simp
  all_goals (try (split <;> simp_all <;> omega))
  all_goals (try omega)
theorem quotient_j1 (x2 how N C : Int) (below : Bool) (hx : isI64 x2) (hC : C = if x2 < 0 then -x2 else x2) (hC0 : 0 < C) (hN : 0 ≤ N) (hN1 : N ≤ 85070591730234615865843651857942052864) (hh : how = 1 ∨ how = 2 ∨ how = 3) :
    muldiv_quotient.j1 4 x2 how below (N / 18446744073709551616) (N % 18446744073709551616) = some (hold64 (rnd (if below = true then -N else N) C how)) := by
  have ms := msize x2 hx
  rw [← hC] at ms
  have hCu : C ≤ 9223372036854775808 := by unfold isI64 at hx; rw [hC]; split <;> omega
  obtain ⟨t1, t2, t3, t4⟩ := two_halves N C hN hC0
  simp only [muldiv_quotient.j1, ms, Option.bind_some]
  unfold muldiv_divided.f
  rw [if_pos ⟨⟨by omega, by omega⟩, ⟨by omega, by omega⟩, ⟨hC0, by omega⟩⟩]
  simp only [Option.bind_some]
  rw [← t2]
  have r0 := Int.emod_nonneg N (show C ≠ 0 by omega)
  have r1 := Int.emod_lt_of_pos N hC0
  rw [up_ok _ _ _ _ r0 r1 (by omega) hh, Option.bind_some]
  have q0 : 0 ≤ N / 18446744073709551616 / C := Int.ediv_nonneg (by omega) (by omega)
  have q1 : N / 18446744073709551616 / C ≤ N / 18446744073709551616 := Int.ediv_le_self _ (by omega)
  have val : ∀ u : Int, u = 0 ∨ u = 1 → (if decide (1 = u) = true then
        muldiv_quotient.j2 3 below (IntKind.u64.wrap (N / 18446744073709551616 / C + add64c ((N / 18446744073709551616 % C * 18446744073709551616 + N % 18446744073709551616) / C) 1 0)) (add64s ((N / 18446744073709551616 % C * 18446744073709551616 + N % 18446744073709551616) / C) 1 0)
      else muldiv_quotient.j2 3 below (N / 18446744073709551616 / C) ((N / 18446744073709551616 % C * 18446744073709551616 + N % 18446744073709551616) / C)) = some (hold64 (if below = true then -(N / C + u) else N / C + u)) := by
    intro u hu
    generalize (N / 18446744073709551616 % C * 18446744073709551616 + N % 18446744073709551616) / C = lo at *
    generalize N / 18446744073709551616 / C = hi at *
    rcases hu with rfl | rfl
    · rw [if_neg (by simp), quotient_tail below hi lo q0 t3 t4, Int.add_zero, t1]
    · rw [if_pos (by simp)]
      have s1 : add64s lo 1 0 = (lo + 1) % 18446744073709551616 := by unfold add64s; simp only [show (1 : Int).toNat = 1 from rfl, show (0 : Int).toNat = 0 from rfl]; omega
      have s2 : add64c lo 1 0 = (lo + 1) / 18446744073709551616 := by unfold add64c; simp only [show (1 : Int).toNat = 1 from rfl, show (0 : Int).toNat = 0 from rfl]; omega
      rw [s1, s2, u64_id _ (by omega) (by omega), quotient_tail below _ _ (by omega) (by omega) (by omega)]
      congr 3
      all_goals omega
  cases below with
  | true =>
    simp only [if_true] at val ⊢
    rw [rnd_neg N C how hC0]
    apply val
    split
    · split <;> simp
    · split
      · simp
      · split <;> simp
  | false =>
    simp only [Bool.false_eq_true, if_false] at val ⊢
    rw [rnd_pos N C how hC0]
    apply val
    split
    · simp
    · split
      · split <;> simp
      · split <;> simp
theorem quotient_ok (a b c how : Int) (ha : isI64 a) (hb : isI64 b) (hc : isI64 c) : muldiv_quotient.f 5 a b c how = some (mdq a b c how) := by
  unfold muldiv_quotient.f mdq
  by_cases hz : c = 0
  · rw [if_pos hz, if_pos (Or.inl hz)]; rfl
  rw [if_neg hz]
  by_cases hl : how < 1
  · rw [if_pos hl, if_pos (Or.inr (Or.inl hl))]; rfl
  rw [if_neg hl]
  by_cases hg : how > 3
  · rw [decide_eq_true hg, if_pos (Or.inr (Or.inr hg))]; rfl
  rw [decide_eq_false hg, if_neg (by omega)]
  simp only [muldiv_quotient.j0, Bool.false_eq_true, if_false]
  rw [msize a ha, msize b hb]
  simp only [Option.bind_some]
  have ha' := ha; have hb' := hb; have hc' := hc
  unfold isI64 at ha' hb' hc'
  rw [mul64_ok _ _ (by split <;> omega) (by split <;> omega) (by split <;> omega) (by split <;> omega)]
  simp only [Option.bind_some]
  have hN := abs_mul_le (a := if a < 0 then -a else a) (b := if b < 0 then -b else b) (by split <;> omega) (by split <;> omega) (by split <;> omega) (by split <;> omega)
  have hN0 := Int.mul_nonneg (a := if a < 0 then -a else a) (b := if b < 0 then -b else b) (by split <;> omega) (by split <;> omega)
  have J := fun bl => quotient_j1 c how ((if a < 0 then -a else a) * (if b < 0 then -b else b)) (if c < 0 then -c else c) bl hc rfl (by split <;> omega) hN0 hN (by omega)
  simp only [J]
  by_cases h1 : a < 0 <;> by_cases h2 : b < 0 <;> by_cases h3 : c < 0 <;> simp [h1, h2, h3, Int.neg_mul, Int.mul_neg]
def muldiv_quotient_s.f (a0 : Int) (a1 : Int) (a2 : Int) (a3 : Int) : Option (Int × Bool) := if isI64 a0 ∧ isI64 a1 ∧ isI64 a2 then some (mdq a0 a1 a2 a3) else none
theorem muldiv_quotient_s.calls (a0 : Int) (a1 : Int) (a2 : Int) (a3 : Int) (r1 : Int) (r2 : Bool) (w : World) (h : muldiv_quotient_s.f a0 a1 a2 a3 = some (r1, r2)) :
    Calls Try.prog 35 #[.int .i64 a0, .int .i64 a1, .int .i64 a2, .int .i64 a3] w fun e w' => e = .returned (.tuple #[.int .i64 r1, .bool r2]) ∧ Below w.heap.size w w' := by
  unfold muldiv_quotient_s.f at h
  split at h
  · rename_i hb
    exact muldiv_quotient.calls 5 a0 a1 a2 a3 r1 r2 w ((quotient_ok a0 a1 a2 a3 hb.1 hb.2.1 hb.2.2).trans h)
  · cases h

/-! ### muldiv_Do: function 24 -/
def muldiv_Do.f (a0 : Int) (a1 : Int) (a2 : Int) (a3 : Int) : Option (Int) := (muldiv_quotient_s.f a0 a1 a2 a3).bind fun bt115 => (some bt115.1)
set_option maxHeartbeats 8000000 in
set_option maxRecDepth 100000 in
theorem muldiv_Do.calls (a0 : Int) (a1 : Int) (a2 : Int) (a3 : Int) (r : Int) (w : World) (h : muldiv_Do.f a0 a1 a2 a3 = some r) :
    Calls Try.prog 24 #[.int .i64 a0, .int .i64 a1, .int .i64 a2, .int .i64 a3] w fun e w' => e = .returned (.int .i64 r) ∧ Below w.heap.size w w' := by
  have HB := Aside0.mk (Below.refl w.heap.size w)
  have H : ((muldiv_quotient_s.f a0 a1 a2 a3).bind fun bt115 => (some bt115.1)) = some r := h
  clear h
  replace H := Option.bind_eq_some_iff.mp H
  obtain ⟨⟨t115, t116⟩, A50, H⟩ := H
  replace H : (some t115) = some r := H
  have A5 := Aside0.mk A50
  clear A50
  obtain rfl := Option.some.inj H
  go_enter Try.func24, Try.ntmps24
  go_wp2_with (first | ((with_reducible refine gate_callee (f := 35) rfl ?_); refine goesL_ (some 16) rfl rfl Try.func35 (by kernel_rfl) rfl #[.int .i64 a0, .int .i64 a1, .int .i64 a2, .int .i64 a3] rfl (by (try simp only [List.map_toArray, List.map_cons, List.map_nil]); first | done | rfl | (simp only [List.length_drop, List.length_take]; rfl)) ?_; (with_reducible refine (muldiv_quotient_s.calls a0 a1 a2 a3 t115 t116 _ A5.out).mono ?_); rintro e w6 ⟨rfl, hb⟩; refine ⟨_, rfl, ?_⟩; have n0_ := Aside0.mk (below_step (by repeat (first | (with_reducible first | exact HB.out | apply below_alloc | apply pw_below_drewN | apply below_drew1) | exact HB.out)) hb); clear HB; have HB := n0_; clear n0_; (try clear hb); (try clear hb2); (try clear hk); (try clear hi)))
  go_ret
  exact ⟨by first | rfl | (simp [errW_none, errW_some] <;> rfl) | (simp [*, errW_none, errW_some] <;> rfl), by repeat (first | (with_reducible first | exact HB.out | apply below_alloc | apply pw_below_drewN | apply below_drew1) | exact HB.out)⟩

/-! ### units_rate_bytes: function 32 -/
def units_rate_bytes.f (a0 : Int) (a1 : Int) : Option (Int) := (muldiv_Do.f a0 a1 8000000 1).bind fun t117 => (some t117)
set_option maxHeartbeats 8000000 in
set_option maxRecDepth 100000 in
theorem units_rate_bytes.calls (a0 : Int) (a1 : Int) (r : Int) (w : World) (h : units_rate_bytes.f a0 a1 = some r) :
    Calls Try.prog 32 #[.int .i64 a0, .int .i64 a1] w fun e w' => e = .returned (.int .i64 r) ∧ Below w.heap.size w w' := by
  have HB := Aside0.mk (Below.refl w.heap.size w)
  have H : ((muldiv_Do.f a0 a1 8000000 1).bind fun t117 => (some t117)) = some r := h
  clear h
  replace H := Option.bind_eq_some_iff.mp H
  obtain ⟨t117, A30, H⟩ := H
  replace H : (some t117) = some r := H
  have A3 := Aside0.mk A30
  clear A30
  obtain rfl := Option.some.inj H
  go_enter Try.func32, Try.ntmps32
  go_wp2_with (first | ((with_reducible refine gate_callee (f := 24) rfl ?_); refine goesL_ (some 7) rfl rfl Try.func24 (by kernel_rfl) rfl #[.int .i64 a0, .int .i64 a1, .int .i64 8000000, .int .i64 1] rfl (by (try simp only [List.map_toArray, List.map_cons, List.map_nil]); first | done | rfl | (simp only [List.length_drop, List.length_take]; rfl)) ?_; (with_reducible refine (muldiv_Do.calls a0 a1 8000000 1 t117 _ A3.out).mono ?_); rintro e w4 ⟨rfl, hb⟩; refine ⟨_, rfl, ?_⟩; have n0_ := Aside0.mk (below_step (by repeat (first | (with_reducible first | exact HB.out | apply below_alloc | apply pw_below_drewN | apply below_drew1) | exact HB.out)) hb); clear HB; have HB := n0_; clear n0_; (try clear hb); (try clear hb2); (try clear hk); (try clear hi)))
  go_ret
  exact ⟨by first | rfl | (simp [errW_none, errW_some] <;> rfl) | (simp [*, errW_none, errW_some] <;> rfl), by repeat (first | (with_reducible first | exact HB.out | apply below_alloc | apply pw_below_drewN | apply below_drew1) | exact HB.out)⟩

/-! ### units_Bytes: function 14, by hand -/
def units_Bytes.f (a0 : Int) (a1 : Int) : Option (Int) := units_rate_bytes.f a0 a1
set_option maxHeartbeats 4000000 in
set_option maxRecDepth 100000 in
theorem units_Bytes.calls (a0 : Int) (a1 : Int) (r : Int) (w : World) (h : units_Bytes.f a0 a1 = some r) :
    Calls Try.prog 14 #[.int .i64 a0, .int .i64 a1] w fun e w' => e = .returned (.int .i64 r) ∧ Below w.heap.size w w' := by
  have H := Aside0.mk (show units_rate_bytes.f a0 a1 = some r from h)
  clear h
  go_enter Try.func14, Try.ntmps14
  go_wp2_with (first | (go_at_call 32; (with_reducible refine (units_rate_bytes.calls a0 a1 r _ H.out).mono ?_); rintro e w' ⟨rfl, hb⟩) | go_in)
  go_ret
  exact ⟨rfl, hb⟩

/-! ### flywheelref02_part: function 36 -/
def flywheelref02_part.l0 : Nat → Int → Int → Int → Int → Int → Bool → Int → Option (Int × Bool × Int)
  | 0, _, _, _, _, _, _, _ => none
  | k + 1, x1, x6, x119000, x119001, x121000, x121001, x121002 => if x6 ≥ 0 then (if x121001 = true then (if (IntKind.u64.wrap ((IntKind.u64.wrap (x121002 * 2)) + (x119000 / 9223372036854775808))) ≥ x1 then (flywheelref02_part.l0 k x1 (wrap64 (x6 - 1)) (IntKind.u64.wrap ((IntKind.u64.wrap (x119000 * 2)) + (x119001 / 9223372036854775808))) (IntKind.u64.wrap (x119001 * 2)) (IntKind.u64.wrap ((IntKind.u64.wrap (x121000 * 2)) + 1)) true (IntKind.u64.wrap ((IntKind.u64.wrap ((IntKind.u64.wrap (x121002 * 2)) + (x119000 / 9223372036854775808))) - x1))) else (flywheelref02_part.l0 k x1 (wrap64 (x6 - 1)) (IntKind.u64.wrap ((IntKind.u64.wrap (x119000 * 2)) + (x119001 / 9223372036854775808))) (IntKind.u64.wrap (x119001 * 2)) (IntKind.u64.wrap (x121000 * 2)) true (IntKind.u64.wrap ((IntKind.u64.wrap (x121002 * 2)) + (x119000 / 9223372036854775808))))) else (if (IntKind.u64.wrap ((IntKind.u64.wrap (x121002 * 2)) + (x119000 / 9223372036854775808))) ≥ x1 then (flywheelref02_part.l0 k x1 (wrap64 (x6 - 1)) (IntKind.u64.wrap ((IntKind.u64.wrap (x119000 * 2)) + (x119001 / 9223372036854775808))) (IntKind.u64.wrap (x119001 * 2)) (IntKind.u64.wrap ((IntKind.u64.wrap (x121000 * 2)) + 1)) ((x121000 / 9223372036854775808) == 1) (IntKind.u64.wrap ((IntKind.u64.wrap ((IntKind.u64.wrap (x121002 * 2)) + (x119000 / 9223372036854775808))) - x1))) else (flywheelref02_part.l0 k x1 (wrap64 (x6 - 1)) (IntKind.u64.wrap ((IntKind.u64.wrap (x119000 * 2)) + (x119001 / 9223372036854775808))) (IntKind.u64.wrap (x119001 * 2)) (IntKind.u64.wrap (x121000 * 2)) ((x121000 / 9223372036854775808) == 1) (IntKind.u64.wrap ((IntKind.u64.wrap (x121002 * 2)) + (x119000 / 9223372036854775808)))))) else (some (x121000, x121001, x121002))
def flywheelref02_part.f (k : Nat) (a0_0 : Int) (a0_1 : Int) (a1 : Int) : Option (Int × Bool × Int) := flywheelref02_part.l0 k a1 127 a0_0 a0_1 0 false 0
theorem flywheelref02_part.mono_l : ∀ k, (∀ y0 y1 y2 y3 y4 y5 y6, LeO (flywheelref02_part.l0 k y0 y1 y2 y3 y4 y5 y6) (flywheelref02_part.l0 (k + 1) y0 y1 y2 y3 y4 y5 y6))
  | 0 => fun _ _ _ _ _ _ _ r h => by simp [flywheelref02_part.l0] at h
  | k + 1 => by
    have ih0 := flywheelref02_part.mono_l k
    · intro y0 y1 y2 y3 y4 y5 y6
      unfold flywheelref02_part.l0
      repeat' first
      | (with_reducible exact ih0 _ _ _ _ _ _ _)
      | (with_reducible exact LeO.refl _)
      | (with_reducible exact LeO.none _)
      | (with_reducible refine LeO.ite ?_ ?_)
      | (with_reducible refine LeO.bind ?_ (fun _ => ?_))
      | exact ih0 _ _ _ _ _ _ _
      | exact LeO.none _
      | refine LeO.ite ?_ ?_
      | refine LeO.bind ?_ (fun _ => ?_)
theorem flywheelref02_part.mono : ∀ a0 a1 a2 k, LeO (flywheelref02_part.f k a0 a1 a2) (flywheelref02_part.f (k + 1) a0 a1 a2) := by
  intro a0 a1 a2 k
  have ih0 := flywheelref02_part.mono_l k
  unfold flywheelref02_part.f
  repeat' first
      | (with_reducible exact ih0 _ _ _ _ _ _ _)
      | (with_reducible exact LeO.refl _)
      | (with_reducible exact LeO.none _)
      | (with_reducible refine LeO.ite ?_ ?_)
      | (with_reducible refine LeO.bind ?_ (fun _ => ?_))
      | exact ih0 _ _ _ _ _ _ _
      | exact LeO.none _
      | refine LeO.ite ?_ ?_
      | refine LeO.bind ?_ (fun _ => ?_)
set_option maxHeartbeats 8000000 in
set_option maxRecDepth 100000 in
theorem flywheelref02_part.calls (k : Nat) (a0_0 : Int) (a0_1 : Int) (a1 : Int) (r1 : Int) (r2 : Bool) (r3 : Int) (w : World) (h : flywheelref02_part.f k a0_0 a0_1 a1 = some (r1, r2, r3)) :
    Calls Try.prog 36 #[.agg #[.int .u64 a0_0, .int .u64 a0_1], .int .u64 a1] w fun e w' => e = .returned (.agg #[.int .u64 r1, .bool r2, .int .u64 r3]) ∧ Below w.heap.size w w' := by
  have hu56 := Try.underlying56
  have hu53 := Try.underlying53
  have HB := Aside0.mk (Below.refl w.heap.size w)
  have H : (flywheelref02_part.l0 k a1 127 a0_0 a0_1 0 false 0) = some (r1, r2, r3) := h
  clear h
  have H' := Aside0.mk H
  clear H
  go_enter Try.func36, Try.ntmps36
  go_wp2_with (first | ((with_reducible refine gate_dst (N := 2) rfl ?_); refine box_event ?hg (N := 2) ?hd (cs := #[.int .u64 a0_0, .int .u64 a0_1]) (t := 56) ?hr ?_; (case hd => rfl); (case hg => rfl); (case hr => first | (go_simp; done) | (go_simp; rfl)); intro gb118 hg w3 hbox hb; have n0_ := Aside0.mk (below_step (by repeat (first | (with_reducible first | exact HB.out | apply below_alloc | apply pw_below_drewN | apply below_drew1) | exact HB.out)) hb); have n1_ := Aside0.mk (hbox); have n2_ := Aside0.mk ((by rw [hg]; exact (below_size (by repeat (first | (with_reducible first | exact HB.out | apply below_alloc | apply pw_below_drewN | apply below_drew1) | exact HB.out))) : w.heap.size ≤ gb118)); have n3_ := Aside0.mk ((by rw [hg]; exact (below_size (by repeat (first | (with_reducible first | exact HB.out | apply below_alloc | apply pw_below_drewN | apply below_drew1) | exact HB.out))) : w.heap.size ≤ gb118)); clear HB; have HB := n0_; have BK118 := n1_; have GW118 := n2_; have GE118 := n3_; clear n0_ n1_ n2_ n3_; clear hb hbox hg) | ((with_reducible refine gate_dst (N := 4) rfl ?_); refine box_event ?hg (N := 4) ?hd (cs := #[.int .u64 0, .bool false, .int .u64 0]) (t := 53) ?hr ?_; (case hd => rfl); (case hg => rfl); (case hr => first | (go_simp; done) | (go_simp; rfl)); intro gb119 hg w4 hbox hb; have n0_ := Aside0.mk (blk_below (g := gb118) (o := .cells #[.int .u64 a0_0, .int .u64 a0_1] 56 (0, 0)) (by (with_reducible repeat (first | refine blk_drewN ?_ _ | refine blk_drew ?_ | refine blk_alloc ?_ _)); exact BK118.out) hb); have n1_ := Aside0.mk (below_step (by repeat (first | (with_reducible first | exact HB.out | apply below_alloc | apply pw_below_drewN | apply below_drew1 | refine below_set ?_ GE118.out) | exact HB.out)) hb); have n2_ := Aside0.mk (hbox); have n3_ := Aside0.mk ((by rw [hg]; exact (below_size (by repeat (first | (with_reducible first | exact HB.out | apply below_alloc | apply pw_below_drewN | apply below_drew1 | refine below_set ?_ GE118.out) | exact HB.out))) : w.heap.size ≤ gb119)); have n4_ := Aside0.mk ((by rw [hg]; exact (below_size (by repeat (first | (with_reducible first | exact HB.out | apply below_alloc | apply pw_below_drewN | apply below_drew1 | refine below_set ?_ GE118.out) | exact HB.out))) : w.heap.size ≤ gb119)); have n5_ := Aside0.mk ((by rw [hg]; exact Nat.ne_of_lt (blk_lt (g := gb118) (o := .cells #[.int .u64 a0_0, .int .u64 a0_1] 56 (0, 0)) (by (with_reducible repeat (first | refine blk_drewN ?_ _ | refine blk_drew ?_ | refine blk_alloc ?_ _)); exact BK118.out)) : gb118 ≠ gb119)); have n6_ := Aside0.mk ((by rw [hg]; exact Nat.ne_of_gt (blk_lt (g := gb118) (o := .cells #[.int .u64 a0_0, .int .u64 a0_1] 56 (0, 0)) (by (with_reducible repeat (first | refine blk_drewN ?_ _ | refine blk_drew ?_ | refine blk_alloc ?_ _)); exact BK118.out)) : gb119 ≠ gb118)); clear BK118; clear HB; have BK118 := n0_; have HB := n1_; have BK119 := n2_; have GW119 := n3_; have GE119 := n4_; have NB118_119 := n5_; have NB119_118 := n6_; clear n0_ n1_ n2_ n3_ n4_ n5_ n6_; clear hb hbox hg) | ((with_reducible refine gate_dst (N := 5) rfl ?_); refine box_event ?hg (N := 5) ?hd (cs := #[.int .u64 0, .bool false, .int .u64 0]) (t := 53) ?hr ?_; (case hd => rfl); (case hg => rfl); (case hr => first | (go_simp; done) | (go_simp; rfl)); intro gb120 hg w5 hbox hb; have n0_ := Aside0.mk (blk_below (g := gb118) (o := .cells #[.int .u64 a0_0, .int .u64 a0_1] 56 (0, 0)) (by (with_reducible repeat (first | refine blk_drewN ?_ _ | refine blk_drew ?_ | refine blk_alloc ?_ _)); exact BK118.out) hb); have n1_ := Aside0.mk (blk_below (g := gb119) (o := .cells #[.int .u64 0, .bool false, .int .u64 0] 53 (0, 0)) (by (with_reducible repeat (first | refine blk_drewN ?_ _ | refine blk_drew ?_ | refine blk_alloc ?_ _)); exact BK119.out) hb); have n2_ := Aside0.mk (below_step (by repeat (first | (with_reducible first | exact HB.out | apply below_alloc | apply pw_below_drewN | apply below_drew1 | refine below_set ?_ GE118.out | refine below_set ?_ GE119.out) | exact HB.out)) hb); have n3_ := Aside0.mk (hbox); have n4_ := Aside0.mk ((by rw [hg]; exact (below_size (by repeat (first | (with_reducible first | exact HB.out | apply below_alloc | apply pw_below_drewN | apply below_drew1 | refine below_set ?_ GE118.out | refine below_set ?_ GE119.out) | exact HB.out))) : w.heap.size ≤ gb120)); have n5_ := Aside0.mk ((by rw [hg]; exact (below_size (by repeat (first | (with_reducible first | exact HB.out | apply below_alloc | apply pw_below_drewN | apply below_drew1 | refine below_set ?_ GE118.out | refine below_set ?_ GE119.out) | exact HB.out))) : w.heap.size ≤ gb120)); have n6_ := Aside0.mk ((by rw [hg]; exact Nat.ne_of_lt (blk_lt (g := gb118) (o := .cells #[.int .u64 a0_0, .int .u64 a0_1] 56 (0, 0)) (by (with_reducible repeat (first | refine blk_drewN ?_ _ | refine blk_drew ?_ | refine blk_alloc ?_ _)); exact BK118.out)) : gb118 ≠ gb120)); have n7_ := Aside0.mk ((by rw [hg]; exact Nat.ne_of_gt (blk_lt (g := gb118) (o := .cells #[.int .u64 a0_0, .int .u64 a0_1] 56 (0, 0)) (by (with_reducible repeat (first | refine blk_drewN ?_ _ | refine blk_drew ?_ | refine blk_alloc ?_ _)); exact BK118.out)) : gb120 ≠ gb118)); have n8_ := Aside0.mk ((by rw [hg]; exact Nat.ne_of_lt (blk_lt (g := gb119) (o := .cells #[.int .u64 0, .bool false, .int .u64 0] 53 (0, 0)) (by (with_reducible repeat (first | refine blk_drewN ?_ _ | refine blk_drew ?_ | refine blk_alloc ?_ _)); exact BK119.out)) : gb119 ≠ gb120)); have n9_ := Aside0.mk ((by rw [hg]; exact Nat.ne_of_gt (blk_lt (g := gb119) (o := .cells #[.int .u64 0, .bool false, .int .u64 0] 53 (0, 0)) (by (with_reducible repeat (first | refine blk_drewN ?_ _ | refine blk_drew ?_ | refine blk_alloc ?_ _)); exact BK119.out)) : gb120 ≠ gb119)); clear BK118; clear BK119; clear HB; have BK118 := n0_; have BK119 := n1_; have HB := n2_; have BK120 := n3_; have GW120 := n4_; have GE120 := n5_; have NB118_120 := n6_; have NB120_118 := n7_; have NB119_120 := n8_; have NB120_119 := n9_; clear n0_ n1_ n2_ n3_ n4_ n5_ n6_ n7_ n8_ n9_; clear hb hbox hg; have hnb6 := NB120_118.out; have hnc6 := NB118_120.out; have hnb7 := NB120_119.out; have hnc7 := NB119_120.out; have hcz8_0 : w5.cell? ⟨gb120, 0, none⟩ = some (.int .u64 0) := (blk_cell BK120.out 0).trans rfl; have hcz8_1 : w5.cell? ⟨gb120, 1, none⟩ = some (.bool false) := (blk_cell BK120.out 1).trans rfl; have hcz8_2 : w5.cell? ⟨gb120, 2, none⟩ = some (.int .u64 0) := (blk_cell BK120.out 2).trans rfl; have hfz8_0 := blk_frozen BK120.out 0; have hfz8_1 := blk_frozen BK120.out 1; have hfz8_2 := blk_frozen BK120.out 2))
  go_loopg [6] k (fun kq v6 w' => ∃ (x6_1 : Int) (x119000_1 : Int) (x119001_1 : Int) (x121000_1 : Int) (x121001_1 : Bool) (x121002_1 : Int), v6 = .int .i64 x6_1 ∧ Aside0 (flywheelref02_part.l0 kq a1 x6_1 x119000_1 x119001_1 x121000_1 x121001_1 x121002_1 = some (r1, r2, r3)) ∧ Aside0 (kq ≤ k) ∧ Aside0 (w'.heap[gb118]? = some (.cells #[.int .u64 x119000_1, .int .u64 x119001_1] 56 (0, 0))) ∧ Aside0 (w'.heap[gb119]? = some (.cells #[.int .u64 0, .bool false, .int .u64 0] 53 (0, 0))) ∧ Aside0 (w'.heap[gb120]? = some (.cells #[.int .u64 x121000_1, .bool x121001_1, .int .u64 x121002_1] 53 (0, 0))) ∧ Aside0 (Below w.heap.size w w'))
  case atStart => exact ⟨(127), (a0_0), (a0_1), (0), (false), (0), (by first | rfl | (simp; done) | (simp [*]; done)), H', ⟨Nat.le_refl _⟩, ⟨by (with_reducible repeat (first | refine blk_drewN ?_ _ | refine blk_drew ?_ | refine blk_alloc ?_ _)); refine blk_far ?_ NB118_120.out _; (with_reducible repeat (first | refine blk_drewN ?_ _ | refine blk_drew ?_ | refine blk_alloc ?_ _)); refine blk_far ?_ NB118_120.out _; (with_reducible repeat (first | refine blk_drewN ?_ _ | refine blk_drew ?_ | refine blk_alloc ?_ _)); refine blk_far ?_ NB118_120.out _; (with_reducible repeat (first | refine blk_drewN ?_ _ | refine blk_drew ?_ | refine blk_alloc ?_ _)); exact BK118.out⟩, ⟨by (with_reducible repeat (first | refine blk_drewN ?_ _ | refine blk_drew ?_ | refine blk_alloc ?_ _)); refine blk_far ?_ NB119_120.out _; (with_reducible repeat (first | refine blk_drewN ?_ _ | refine blk_drew ?_ | refine blk_alloc ?_ _)); refine blk_far ?_ NB119_120.out _; (with_reducible repeat (first | refine blk_drewN ?_ _ | refine blk_drew ?_ | refine blk_alloc ?_ _)); refine blk_far ?_ NB119_120.out _; (with_reducible repeat (first | refine blk_drewN ?_ _ | refine blk_drew ?_ | refine blk_alloc ?_ _)); exact BK119.out⟩, ⟨by (with_reducible repeat (first | refine blk_drewN ?_ _ | refine blk_drew ?_ | refine blk_alloc ?_ _)); refine blk_put (cs := #[.int .u64 0, .bool false, .int .u64 0]) ?_ 2 _ rfl; (with_reducible repeat (first | refine blk_drewN ?_ _ | refine blk_drew ?_ | refine blk_alloc ?_ _)); refine blk_put (cs := #[.int .u64 0, .bool false, .int .u64 0]) ?_ 1 _ rfl; (with_reducible repeat (first | refine blk_drewN ?_ _ | refine blk_drew ?_ | refine blk_alloc ?_ _)); refine blk_put (cs := #[.int .u64 0, .bool false, .int .u64 0]) ?_ 0 _ rfl; (with_reducible repeat (first | refine blk_drewN ?_ _ | refine blk_drew ?_ | refine blk_alloc ?_ _)); exact BK120.out⟩, ⟨by repeat (first | (with_reducible first | exact HB.out | apply below_alloc | apply pw_below_drewN | apply below_drew1 | refine below_set ?_ GE118.out | refine below_set ?_ GE119.out | refine below_set ?_ GE120.out) | exact HB.out)⟩⟩
  case round =>
    clear H'
    try clear p2
    try clear c3
    try clear c6
    try clear c7
    try clear hcz8_0
    try clear hcz8_1
    try clear hcz8_2
    try clear hfz8_0
    try clear hfz8_1
    try clear hfz8_2
    obtain ⟨x6_1, x119000_1, x119001_1, x121000_1, x121001_1, x121002_1, rfl, HA, HK1, BK118, BK119, BK120, HB⟩ := hrel
    cases gk with
    | zero => exact absurd HA.out (by simp [flywheelref02_part.l0])
    | succ k1 =>
      have H := HA.out
      clear HA
      simp only [flywheelref02_part.l0] at H
      by_cases c9 : x6_1 ≥ 0
      · rw [if_pos c9] at H
        have c9b0 : decide (0 ≤ x6_1) = true := decide_eq_true c9
        clear c9
        by_cases c10 : x121001_1 = true
        · subst c10
          have H1 : (if (IntKind.u64.wrap ((IntKind.u64.wrap (x121002_1 * 2)) + (x119000_1 / 9223372036854775808))) ≥ a1 then (flywheelref02_part.l0 k1 a1 (wrap64 (x6_1 - 1)) (IntKind.u64.wrap ((IntKind.u64.wrap (x119000_1 * 2)) + (x119001_1 / 9223372036854775808))) (IntKind.u64.wrap (x119001_1 * 2)) (IntKind.u64.wrap ((IntKind.u64.wrap (x121000_1 * 2)) + 1)) true (IntKind.u64.wrap ((IntKind.u64.wrap ((IntKind.u64.wrap (x121002_1 * 2)) + (x119000_1 / 9223372036854775808))) - a1))) else (flywheelref02_part.l0 k1 a1 (wrap64 (x6_1 - 1)) (IntKind.u64.wrap ((IntKind.u64.wrap (x119000_1 * 2)) + (x119001_1 / 9223372036854775808))) (IntKind.u64.wrap (x119001_1 * 2)) (IntKind.u64.wrap (x121000_1 * 2)) true (IntKind.u64.wrap ((IntKind.u64.wrap (x121002_1 * 2)) + (x119000_1 / 9223372036854775808))))) = some (r1, r2, r3) := by rw [if_pos rfl] at H; exact H
          clear H
          have H := H1
          clear H1
          by_cases c11 : (IntKind.u64.wrap ((IntKind.u64.wrap (x121002_1 * 2)) + (x119000_1 / 9223372036854775808))) ≥ a1
          · rw [if_pos c11] at H
            have c11b0 : decide (a1 ≤ (IntKind.u64.wrap ((IntKind.u64.wrap (x121002_1 * 2)) + (x119000_1 / 9223372036854775808)))) = true := decide_eq_true c11
            clear c11
            have H' := Aside0.mk H
            clear H
            have hnb12 := NB118_119.out
            have hnc12 := NB119_118.out
            have hnb13 := NB118_120.out
            have hnc13 := NB120_118.out
            have hcz14_0 : wr.cell? ⟨gb118, 0, none⟩ = some (.int .u64 x119000_1) := (blk_cell BK118.out 0).trans rfl
            have hcz14_1 : wr.cell? ⟨gb118, 1, none⟩ = some (.int .u64 x119001_1) := (blk_cell BK118.out 1).trans rfl
            have hfz14_0 := blk_frozen BK118.out 0
            have hfz14_1 := blk_frozen BK118.out 1
            have hnb15 := NB120_119.out
            have hnc15 := NB119_120.out
            have hcz16_0 : wr.cell? ⟨gb120, 0, none⟩ = some (.int .u64 x121000_1) := (blk_cell BK120.out 0).trans rfl
            have hcz16_1 : wr.cell? ⟨gb120, 1, none⟩ = some (.bool true) := (blk_cell BK120.out 1).trans rfl
            have hcz16_2 : wr.cell? ⟨gb120, 2, none⟩ = some (.int .u64 x121002_1) := (blk_cell BK120.out 2).trans rfl
            have hfz16_0 := blk_frozen BK120.out 0
            have hfz16_1 := blk_frozen BK120.out 1
            have hfz16_2 := blk_frozen BK120.out 2
            go_wp2
            go_roundg k1
            case measure => have := HK1.out; omega
            case rel => exact ⟨(wrap64 (x6_1 - 1)), (IntKind.u64.wrap ((IntKind.u64.wrap (x119000_1 * 2)) + (x119001_1 / 9223372036854775808))), (IntKind.u64.wrap (x119001_1 * 2)), (IntKind.u64.wrap ((IntKind.u64.wrap (x121000_1 * 2)) + 1)), (true), (IntKind.u64.wrap ((IntKind.u64.wrap ((IntKind.u64.wrap (x121002_1 * 2)) + (x119000_1 / 9223372036854775808))) - a1)), (by first | rfl | (simp; done) | (simp [*]; done)), H', ⟨by have := HK1.out; omega⟩, ⟨by (with_reducible repeat (first | refine blk_drewN ?_ _ | refine blk_drew ?_ | refine blk_alloc ?_ _)); refine blk_far ?_ NB118_120.out _; (with_reducible repeat (first | refine blk_drewN ?_ _ | refine blk_drew ?_ | refine blk_alloc ?_ _)); refine blk_far ?_ NB118_120.out _; (with_reducible repeat (first | refine blk_drewN ?_ _ | refine blk_drew ?_ | refine blk_alloc ?_ _)); refine blk_far ?_ NB118_120.out _; (with_reducible repeat (first | refine blk_drewN ?_ _ | refine blk_drew ?_ | refine blk_alloc ?_ _)); refine blk_far ?_ NB118_120.out _; (with_reducible repeat (first | refine blk_drewN ?_ _ | refine blk_drew ?_ | refine blk_alloc ?_ _)); refine blk_far ?_ NB118_120.out _; (with_reducible repeat (first | refine blk_drewN ?_ _ | refine blk_drew ?_ | refine blk_alloc ?_ _)); refine blk_put (cs := #[.int .u64 (IntKind.u64.wrap ((IntKind.u64.wrap (x119000_1 * 2)) + (x119001_1 / 9223372036854775808))), .int .u64 x119001_1]) ?_ 1 _ rfl; (with_reducible repeat (first | refine blk_drewN ?_ _ | refine blk_drew ?_ | refine blk_alloc ?_ _)); refine blk_put (cs := #[.int .u64 x119000_1, .int .u64 x119001_1]) ?_ 0 _ rfl; (with_reducible repeat (first | refine blk_drewN ?_ _ | refine blk_drew ?_ | refine blk_alloc ?_ _)); exact BK118.out⟩, ⟨by (with_reducible repeat (first | refine blk_drewN ?_ _ | refine blk_drew ?_ | refine blk_alloc ?_ _)); refine blk_far ?_ NB119_120.out _; (with_reducible repeat (first | refine blk_drewN ?_ _ | refine blk_drew ?_ | refine blk_alloc ?_ _)); refine blk_far ?_ NB119_120.out _; (with_reducible repeat (first | refine blk_drewN ?_ _ | refine blk_drew ?_ | refine blk_alloc ?_ _)); refine blk_far ?_ NB119_120.out _; (with_reducible repeat (first | refine blk_drewN ?_ _ | refine blk_drew ?_ | refine blk_alloc ?_ _)); refine blk_far ?_ NB119_120.out _; (with_reducible repeat (first | refine blk_drewN ?_ _ | refine blk_drew ?_ | refine blk_alloc ?_ _)); refine blk_far ?_ NB119_120.out _; (with_reducible repeat (first | refine blk_drewN ?_ _ | refine blk_drew ?_ | refine blk_alloc ?_ _)); refine blk_far ?_ NB119_118.out _; (with_reducible repeat (first | refine blk_drewN ?_ _ | refine blk_drew ?_ | refine blk_alloc ?_ _)); refine blk_far ?_ NB119_118.out _; (with_reducible repeat (first | refine blk_drewN ?_ _ | refine blk_drew ?_ | refine blk_alloc ?_ _)); exact BK119.out⟩, ⟨by (with_reducible repeat (first | refine blk_drewN ?_ _ | refine blk_drew ?_ | refine blk_alloc ?_ _)); refine blk_put (cs := #[.int .u64 (IntKind.u64.wrap (x121000_1 * 2)), .bool true, .int .u64 (IntKind.u64.wrap ((IntKind.u64.wrap ((IntKind.u64.wrap (x121002_1 * 2)) + (x119000_1 / 9223372036854775808))) - a1))]) ?_ 0 _ rfl; (with_reducible repeat (first | refine blk_drewN ?_ _ | refine blk_drew ?_ | refine blk_alloc ?_ _)); refine blk_put (cs := #[.int .u64 (IntKind.u64.wrap (x121000_1 * 2)), .bool true, .int .u64 (IntKind.u64.wrap ((IntKind.u64.wrap (x121002_1 * 2)) + (x119000_1 / 9223372036854775808)))]) ?_ 2 _ rfl; (with_reducible repeat (first | refine blk_drewN ?_ _ | refine blk_drew ?_ | refine blk_alloc ?_ _)); refine blk_put (cs := #[.int .u64 x121000_1, .bool true, .int .u64 (IntKind.u64.wrap ((IntKind.u64.wrap (x121002_1 * 2)) + (x119000_1 / 9223372036854775808)))]) ?_ 0 _ rfl; (with_reducible repeat (first | refine blk_drewN ?_ _ | refine blk_drew ?_ | refine blk_alloc ?_ _)); refine blk_put (cs := #[.int .u64 x121000_1, .bool true, .int .u64 (IntKind.u64.wrap ((IntKind.u64.wrap (x121002_1 * 2)) + (x119000_1 / 9223372036854775808)))]) ?_ 1 _ rfl; (with_reducible repeat (first | refine blk_drewN ?_ _ | refine blk_drew ?_ | refine blk_alloc ?_ _)); refine blk_put (cs := #[.int .u64 x121000_1, .bool true, .int .u64 x121002_1]) ?_ 2 _ rfl; (with_reducible repeat (first | refine blk_drewN ?_ _ | refine blk_drew ?_ | refine blk_alloc ?_ _)); refine blk_far ?_ NB120_118.out _; (with_reducible repeat (first | refine blk_drewN ?_ _ | refine blk_drew ?_ | refine blk_alloc ?_ _)); refine blk_far ?_ NB120_118.out _; (with_reducible repeat (first | refine blk_drewN ?_ _ | refine blk_drew ?_ | refine blk_alloc ?_ _)); exact BK120.out⟩, ⟨by repeat (first | (with_reducible first | exact HB.out | apply below_alloc | apply pw_below_drewN | apply below_drew1 | refine below_set ?_ GE118.out | refine below_set ?_ GE119.out | refine below_set ?_ GE120.out) | exact HB.out)⟩⟩
          · rw [if_neg c11] at H
            have c11b0 : decide (a1 ≤ (IntKind.u64.wrap ((IntKind.u64.wrap (x121002_1 * 2)) + (x119000_1 / 9223372036854775808)))) = false := decide_eq_false c11
            clear c11
            have H' := Aside0.mk H
            clear H
            have hnb17 := NB118_119.out
            have hnc17 := NB119_118.out
            have hnb18 := NB118_120.out
            have hnc18 := NB120_118.out
            have hcz19_0 : wr.cell? ⟨gb118, 0, none⟩ = some (.int .u64 x119000_1) := (blk_cell BK118.out 0).trans rfl
            have hcz19_1 : wr.cell? ⟨gb118, 1, none⟩ = some (.int .u64 x119001_1) := (blk_cell BK118.out 1).trans rfl
            have hfz19_0 := blk_frozen BK118.out 0
            have hfz19_1 := blk_frozen BK118.out 1
            have hnb20 := NB120_119.out
            have hnc20 := NB119_120.out
            have hcz21_0 : wr.cell? ⟨gb120, 0, none⟩ = some (.int .u64 x121000_1) := (blk_cell BK120.out 0).trans rfl
            have hcz21_1 : wr.cell? ⟨gb120, 1, none⟩ = some (.bool true) := (blk_cell BK120.out 1).trans rfl
            have hcz21_2 : wr.cell? ⟨gb120, 2, none⟩ = some (.int .u64 x121002_1) := (blk_cell BK120.out 2).trans rfl
            have hfz21_0 := blk_frozen BK120.out 0
            have hfz21_1 := blk_frozen BK120.out 1
            have hfz21_2 := blk_frozen BK120.out 2
            go_wp2
            go_roundg k1
            case measure => have := HK1.out; omega
            case rel => exact ⟨(wrap64 (x6_1 - 1)), (IntKind.u64.wrap ((IntKind.u64.wrap (x119000_1 * 2)) + (x119001_1 / 9223372036854775808))), (IntKind.u64.wrap (x119001_1 * 2)), (IntKind.u64.wrap (x121000_1 * 2)), (true), (IntKind.u64.wrap ((IntKind.u64.wrap (x121002_1 * 2)) + (x119000_1 / 9223372036854775808))), (by first | rfl | (simp; done) | (simp [*]; done)), H', ⟨by have := HK1.out; omega⟩, ⟨by (with_reducible repeat (first | refine blk_drewN ?_ _ | refine blk_drew ?_ | refine blk_alloc ?_ _)); refine blk_far ?_ NB118_120.out _; (with_reducible repeat (first | refine blk_drewN ?_ _ | refine blk_drew ?_ | refine blk_alloc ?_ _)); refine blk_far ?_ NB118_120.out _; (with_reducible repeat (first | refine blk_drewN ?_ _ | refine blk_drew ?_ | refine blk_alloc ?_ _)); refine blk_far ?_ NB118_120.out _; (with_reducible repeat (first | refine blk_drewN ?_ _ | refine blk_drew ?_ | refine blk_alloc ?_ _)); refine blk_put (cs := #[.int .u64 (IntKind.u64.wrap ((IntKind.u64.wrap (x119000_1 * 2)) + (x119001_1 / 9223372036854775808))), .int .u64 x119001_1]) ?_ 1 _ rfl; (with_reducible repeat (first | refine blk_drewN ?_ _ | refine blk_drew ?_ | refine blk_alloc ?_ _)); refine blk_put (cs := #[.int .u64 x119000_1, .int .u64 x119001_1]) ?_ 0 _ rfl; (with_reducible repeat (first | refine blk_drewN ?_ _ | refine blk_drew ?_ | refine blk_alloc ?_ _)); exact BK118.out⟩, ⟨by (with_reducible repeat (first | refine blk_drewN ?_ _ | refine blk_drew ?_ | refine blk_alloc ?_ _)); refine blk_far ?_ NB119_120.out _; (with_reducible repeat (first | refine blk_drewN ?_ _ | refine blk_drew ?_ | refine blk_alloc ?_ _)); refine blk_far ?_ NB119_120.out _; (with_reducible repeat (first | refine blk_drewN ?_ _ | refine blk_drew ?_ | refine blk_alloc ?_ _)); refine blk_far ?_ NB119_120.out _; (with_reducible repeat (first | refine blk_drewN ?_ _ | refine blk_drew ?_ | refine blk_alloc ?_ _)); refine blk_far ?_ NB119_118.out _; (with_reducible repeat (first | refine blk_drewN ?_ _ | refine blk_drew ?_ | refine blk_alloc ?_ _)); refine blk_far ?_ NB119_118.out _; (with_reducible repeat (first | refine blk_drewN ?_ _ | refine blk_drew ?_ | refine blk_alloc ?_ _)); exact BK119.out⟩, ⟨by (with_reducible repeat (first | refine blk_drewN ?_ _ | refine blk_drew ?_ | refine blk_alloc ?_ _)); refine blk_put (cs := #[.int .u64 x121000_1, .bool true, .int .u64 (IntKind.u64.wrap ((IntKind.u64.wrap (x121002_1 * 2)) + (x119000_1 / 9223372036854775808)))]) ?_ 0 _ rfl; (with_reducible repeat (first | refine blk_drewN ?_ _ | refine blk_drew ?_ | refine blk_alloc ?_ _)); refine blk_put (cs := #[.int .u64 x121000_1, .bool true, .int .u64 (IntKind.u64.wrap ((IntKind.u64.wrap (x121002_1 * 2)) + (x119000_1 / 9223372036854775808)))]) ?_ 1 _ rfl; (with_reducible repeat (first | refine blk_drewN ?_ _ | refine blk_drew ?_ | refine blk_alloc ?_ _)); refine blk_put (cs := #[.int .u64 x121000_1, .bool true, .int .u64 x121002_1]) ?_ 2 _ rfl; (with_reducible repeat (first | refine blk_drewN ?_ _ | refine blk_drew ?_ | refine blk_alloc ?_ _)); refine blk_far ?_ NB120_118.out _; (with_reducible repeat (first | refine blk_drewN ?_ _ | refine blk_drew ?_ | refine blk_alloc ?_ _)); refine blk_far ?_ NB120_118.out _; (with_reducible repeat (first | refine blk_drewN ?_ _ | refine blk_drew ?_ | refine blk_alloc ?_ _)); exact BK120.out⟩, ⟨by repeat (first | (with_reducible first | exact HB.out | apply below_alloc | apply pw_below_drewN | apply below_drew1 | refine below_set ?_ GE118.out | refine below_set ?_ GE119.out | refine below_set ?_ GE120.out) | exact HB.out)⟩⟩
        · replace c10 := Bool.eq_false_iff.mpr c10
          subst c10
          have H1 : (if (IntKind.u64.wrap ((IntKind.u64.wrap (x121002_1 * 2)) + (x119000_1 / 9223372036854775808))) ≥ a1 then (flywheelref02_part.l0 k1 a1 (wrap64 (x6_1 - 1)) (IntKind.u64.wrap ((IntKind.u64.wrap (x119000_1 * 2)) + (x119001_1 / 9223372036854775808))) (IntKind.u64.wrap (x119001_1 * 2)) (IntKind.u64.wrap ((IntKind.u64.wrap (x121000_1 * 2)) + 1)) ((x121000_1 / 9223372036854775808) == 1) (IntKind.u64.wrap ((IntKind.u64.wrap ((IntKind.u64.wrap (x121002_1 * 2)) + (x119000_1 / 9223372036854775808))) - a1))) else (flywheelref02_part.l0 k1 a1 (wrap64 (x6_1 - 1)) (IntKind.u64.wrap ((IntKind.u64.wrap (x119000_1 * 2)) + (x119001_1 / 9223372036854775808))) (IntKind.u64.wrap (x119001_1 * 2)) (IntKind.u64.wrap (x121000_1 * 2)) ((x121000_1 / 9223372036854775808) == 1) (IntKind.u64.wrap ((IntKind.u64.wrap (x121002_1 * 2)) + (x119000_1 / 9223372036854775808))))) = some (r1, r2, r3) := by rw [if_neg (show ¬ (false = true) by decide)] at H; exact H
          clear H
          have H := H1
          clear H1
          by_cases c22 : (IntKind.u64.wrap ((IntKind.u64.wrap (x121002_1 * 2)) + (x119000_1 / 9223372036854775808))) ≥ a1
          · rw [if_pos c22] at H
            have c22b0 : decide (a1 ≤ (IntKind.u64.wrap ((IntKind.u64.wrap (x121002_1 * 2)) + (x119000_1 / 9223372036854775808)))) = true := decide_eq_true c22
            clear c22
            have H' := Aside0.mk H
            clear H
            have hnb23 := NB118_119.out
            have hnc23 := NB119_118.out
            have hnb24 := NB118_120.out
            have hnc24 := NB120_118.out
            have hcz25_0 : wr.cell? ⟨gb118, 0, none⟩ = some (.int .u64 x119000_1) := (blk_cell BK118.out 0).trans rfl
            have hcz25_1 : wr.cell? ⟨gb118, 1, none⟩ = some (.int .u64 x119001_1) := (blk_cell BK118.out 1).trans rfl
            have hfz25_0 := blk_frozen BK118.out 0
            have hfz25_1 := blk_frozen BK118.out 1
            have hnb26 := NB120_119.out
            have hnc26 := NB119_120.out
            have hcz27_0 : wr.cell? ⟨gb120, 0, none⟩ = some (.int .u64 x121000_1) := (blk_cell BK120.out 0).trans rfl
            have hcz27_1 : wr.cell? ⟨gb120, 1, none⟩ = some (.bool false) := (blk_cell BK120.out 1).trans rfl
            have hcz27_2 : wr.cell? ⟨gb120, 2, none⟩ = some (.int .u64 x121002_1) := (blk_cell BK120.out 2).trans rfl
            have hfz27_0 := blk_frozen BK120.out 0
            have hfz27_1 := blk_frozen BK120.out 1
            have hfz27_2 := blk_frozen BK120.out 2
            go_wp2
            go_roundg k1
            case measure => have := HK1.out; omega
            case rel => exact ⟨(wrap64 (x6_1 - 1)), (IntKind.u64.wrap ((IntKind.u64.wrap (x119000_1 * 2)) + (x119001_1 / 9223372036854775808))), (IntKind.u64.wrap (x119001_1 * 2)), (IntKind.u64.wrap ((IntKind.u64.wrap (x121000_1 * 2)) + 1)), (((x121000_1 / 9223372036854775808) == 1)), (IntKind.u64.wrap ((IntKind.u64.wrap ((IntKind.u64.wrap (x121002_1 * 2)) + (x119000_1 / 9223372036854775808))) - a1)), (by first | rfl | (simp; done) | (simp [*]; done)), H', ⟨by have := HK1.out; omega⟩, ⟨by (with_reducible repeat (first | refine blk_drewN ?_ _ | refine blk_drew ?_ | refine blk_alloc ?_ _)); refine blk_far ?_ NB118_120.out _; (with_reducible repeat (first | refine blk_drewN ?_ _ | refine blk_drew ?_ | refine blk_alloc ?_ _)); refine blk_far ?_ NB118_120.out _; (with_reducible repeat (first | refine blk_drewN ?_ _ | refine blk_drew ?_ | refine blk_alloc ?_ _)); refine blk_far ?_ NB118_120.out _; (with_reducible repeat (first | refine blk_drewN ?_ _ | refine blk_drew ?_ | refine blk_alloc ?_ _)); refine blk_far ?_ NB118_120.out _; (with_reducible repeat (first | refine blk_drewN ?_ _ | refine blk_drew ?_ | refine blk_alloc ?_ _)); refine blk_far ?_ NB118_120.out _; (with_reducible repeat (first | refine blk_drewN ?_ _ | refine blk_drew ?_ | refine blk_alloc ?_ _)); refine blk_put (cs := #[.int .u64 (IntKind.u64.wrap ((IntKind.u64.wrap (x119000_1 * 2)) + (x119001_1 / 9223372036854775808))), .int .u64 x119001_1]) ?_ 1 _ rfl; (with_reducible repeat (first | refine blk_drewN ?_ _ | refine blk_drew ?_ | refine blk_alloc ?_ _)); refine blk_put (cs := #[.int .u64 x119000_1, .int .u64 x119001_1]) ?_ 0 _ rfl; (with_reducible repeat (first | refine blk_drewN ?_ _ | refine blk_drew ?_ | refine blk_alloc ?_ _)); exact BK118.out⟩, ⟨by (with_reducible repeat (first | refine blk_drewN ?_ _ | refine blk_drew ?_ | refine blk_alloc ?_ _)); refine blk_far ?_ NB119_120.out _; (with_reducible repeat (first | refine blk_drewN ?_ _ | refine blk_drew ?_ | refine blk_alloc ?_ _)); refine blk_far ?_ NB119_120.out _; (with_reducible repeat (first | refine blk_drewN ?_ _ | refine blk_drew ?_ | refine blk_alloc ?_ _)); refine blk_far ?_ NB119_120.out _; (with_reducible repeat (first | refine blk_drewN ?_ _ | refine blk_drew ?_ | refine blk_alloc ?_ _)); refine blk_far ?_ NB119_120.out _; (with_reducible repeat (first | refine blk_drewN ?_ _ | refine blk_drew ?_ | refine blk_alloc ?_ _)); refine blk_far ?_ NB119_120.out _; (with_reducible repeat (first | refine blk_drewN ?_ _ | refine blk_drew ?_ | refine blk_alloc ?_ _)); refine blk_far ?_ NB119_118.out _; (with_reducible repeat (first | refine blk_drewN ?_ _ | refine blk_drew ?_ | refine blk_alloc ?_ _)); refine blk_far ?_ NB119_118.out _; (with_reducible repeat (first | refine blk_drewN ?_ _ | refine blk_drew ?_ | refine blk_alloc ?_ _)); exact BK119.out⟩, ⟨by (with_reducible repeat (first | refine blk_drewN ?_ _ | refine blk_drew ?_ | refine blk_alloc ?_ _)); refine blk_put (cs := #[.int .u64 (IntKind.u64.wrap (x121000_1 * 2)), .bool ((x121000_1 / 9223372036854775808) == 1), .int .u64 (IntKind.u64.wrap ((IntKind.u64.wrap ((IntKind.u64.wrap (x121002_1 * 2)) + (x119000_1 / 9223372036854775808))) - a1))]) ?_ 0 _ rfl; (with_reducible repeat (first | refine blk_drewN ?_ _ | refine blk_drew ?_ | refine blk_alloc ?_ _)); refine blk_put (cs := #[.int .u64 (IntKind.u64.wrap (x121000_1 * 2)), .bool ((x121000_1 / 9223372036854775808) == 1), .int .u64 (IntKind.u64.wrap ((IntKind.u64.wrap (x121002_1 * 2)) + (x119000_1 / 9223372036854775808)))]) ?_ 2 _ rfl; (with_reducible repeat (first | refine blk_drewN ?_ _ | refine blk_drew ?_ | refine blk_alloc ?_ _)); refine blk_put (cs := #[.int .u64 x121000_1, .bool ((x121000_1 / 9223372036854775808) == 1), .int .u64 (IntKind.u64.wrap ((IntKind.u64.wrap (x121002_1 * 2)) + (x119000_1 / 9223372036854775808)))]) ?_ 0 _ rfl; (with_reducible repeat (first | refine blk_drewN ?_ _ | refine blk_drew ?_ | refine blk_alloc ?_ _)); refine blk_put (cs := #[.int .u64 x121000_1, .bool false, .int .u64 (IntKind.u64.wrap ((IntKind.u64.wrap (x121002_1 * 2)) + (x119000_1 / 9223372036854775808)))]) ?_ 1 _ rfl; (with_reducible repeat (first | refine blk_drewN ?_ _ | refine blk_drew ?_ | refine blk_alloc ?_ _)); refine blk_put (cs := #[.int .u64 x121000_1, .bool false, .int .u64 x121002_1]) ?_ 2 _ rfl; (with_reducible repeat (first | refine blk_drewN ?_ _ | refine blk_drew ?_ | refine blk_alloc ?_ _)); refine blk_far ?_ NB120_118.out _; (with_reducible repeat (first | refine blk_drewN ?_ _ | refine blk_drew ?_ | refine blk_alloc ?_ _)); refine blk_far ?_ NB120_118.out _; (with_reducible repeat (first | refine blk_drewN ?_ _ | refine blk_drew ?_ | refine blk_alloc ?_ _)); exact BK120.out⟩, ⟨by repeat (first | (with_reducible first | exact HB.out | apply below_alloc | apply pw_below_drewN | apply below_drew1 | refine below_set ?_ GE118.out | refine below_set ?_ GE119.out | refine below_set ?_ GE120.out) | exact HB.out)⟩⟩
          · rw [if_neg c22] at H
            have c22b0 : decide (a1 ≤ (IntKind.u64.wrap ((IntKind.u64.wrap (x121002_1 * 2)) + (x119000_1 / 9223372036854775808)))) = false := decide_eq_false c22
            clear c22
            have H' := Aside0.mk H
            clear H
            have hnb28 := NB118_119.out
            have hnc28 := NB119_118.out
            have hnb29 := NB118_120.out
            have hnc29 := NB120_118.out
            have hcz30_0 : wr.cell? ⟨gb118, 0, none⟩ = some (.int .u64 x119000_1) := (blk_cell BK118.out 0).trans rfl
            have hcz30_1 : wr.cell? ⟨gb118, 1, none⟩ = some (.int .u64 x119001_1) := (blk_cell BK118.out 1).trans rfl
            have hfz30_0 := blk_frozen BK118.out 0
            have hfz30_1 := blk_frozen BK118.out 1
            have hnb31 := NB120_119.out
            have hnc31 := NB119_120.out
            have hcz32_0 : wr.cell? ⟨gb120, 0, none⟩ = some (.int .u64 x121000_1) := (blk_cell BK120.out 0).trans rfl
            have hcz32_1 : wr.cell? ⟨gb120, 1, none⟩ = some (.bool false) := (blk_cell BK120.out 1).trans rfl
            have hcz32_2 : wr.cell? ⟨gb120, 2, none⟩ = some (.int .u64 x121002_1) := (blk_cell BK120.out 2).trans rfl
            have hfz32_0 := blk_frozen BK120.out 0
            have hfz32_1 := blk_frozen BK120.out 1
            have hfz32_2 := blk_frozen BK120.out 2
            go_wp2
            go_roundg k1
            case measure => have := HK1.out; omega
            case rel => exact ⟨(wrap64 (x6_1 - 1)), (IntKind.u64.wrap ((IntKind.u64.wrap (x119000_1 * 2)) + (x119001_1 / 9223372036854775808))), (IntKind.u64.wrap (x119001_1 * 2)), (IntKind.u64.wrap (x121000_1 * 2)), (((x121000_1 / 9223372036854775808) == 1)), (IntKind.u64.wrap ((IntKind.u64.wrap (x121002_1 * 2)) + (x119000_1 / 9223372036854775808))), (by first | rfl | (simp; done) | (simp [*]; done)), H', ⟨by have := HK1.out; omega⟩, ⟨by (with_reducible repeat (first | refine blk_drewN ?_ _ | refine blk_drew ?_ | refine blk_alloc ?_ _)); refine blk_far ?_ NB118_120.out _; (with_reducible repeat (first | refine blk_drewN ?_ _ | refine blk_drew ?_ | refine blk_alloc ?_ _)); refine blk_far ?_ NB118_120.out _; (with_reducible repeat (first | refine blk_drewN ?_ _ | refine blk_drew ?_ | refine blk_alloc ?_ _)); refine blk_far ?_ NB118_120.out _; (with_reducible repeat (first | refine blk_drewN ?_ _ | refine blk_drew ?_ | refine blk_alloc ?_ _)); refine blk_put (cs := #[.int .u64 (IntKind.u64.wrap ((IntKind.u64.wrap (x119000_1 * 2)) + (x119001_1 / 9223372036854775808))), .int .u64 x119001_1]) ?_ 1 _ rfl; (with_reducible repeat (first | refine blk_drewN ?_ _ | refine blk_drew ?_ | refine blk_alloc ?_ _)); refine blk_put (cs := #[.int .u64 x119000_1, .int .u64 x119001_1]) ?_ 0 _ rfl; (with_reducible repeat (first | refine blk_drewN ?_ _ | refine blk_drew ?_ | refine blk_alloc ?_ _)); exact BK118.out⟩, ⟨by (with_reducible repeat (first | refine blk_drewN ?_ _ | refine blk_drew ?_ | refine blk_alloc ?_ _)); refine blk_far ?_ NB119_120.out _; (with_reducible repeat (first | refine blk_drewN ?_ _ | refine blk_drew ?_ | refine blk_alloc ?_ _)); refine blk_far ?_ NB119_120.out _; (with_reducible repeat (first | refine blk_drewN ?_ _ | refine blk_drew ?_ | refine blk_alloc ?_ _)); refine blk_far ?_ NB119_120.out _; (with_reducible repeat (first | refine blk_drewN ?_ _ | refine blk_drew ?_ | refine blk_alloc ?_ _)); refine blk_far ?_ NB119_118.out _; (with_reducible repeat (first | refine blk_drewN ?_ _ | refine blk_drew ?_ | refine blk_alloc ?_ _)); refine blk_far ?_ NB119_118.out _; (with_reducible repeat (first | refine blk_drewN ?_ _ | refine blk_drew ?_ | refine blk_alloc ?_ _)); exact BK119.out⟩, ⟨by (with_reducible repeat (first | refine blk_drewN ?_ _ | refine blk_drew ?_ | refine blk_alloc ?_ _)); refine blk_put (cs := #[.int .u64 x121000_1, .bool ((x121000_1 / 9223372036854775808) == 1), .int .u64 (IntKind.u64.wrap ((IntKind.u64.wrap (x121002_1 * 2)) + (x119000_1 / 9223372036854775808)))]) ?_ 0 _ rfl; (with_reducible repeat (first | refine blk_drewN ?_ _ | refine blk_drew ?_ | refine blk_alloc ?_ _)); refine blk_put (cs := #[.int .u64 x121000_1, .bool false, .int .u64 (IntKind.u64.wrap ((IntKind.u64.wrap (x121002_1 * 2)) + (x119000_1 / 9223372036854775808)))]) ?_ 1 _ rfl; (with_reducible repeat (first | refine blk_drewN ?_ _ | refine blk_drew ?_ | refine blk_alloc ?_ _)); refine blk_put (cs := #[.int .u64 x121000_1, .bool false, .int .u64 x121002_1]) ?_ 2 _ rfl; (with_reducible repeat (first | refine blk_drewN ?_ _ | refine blk_drew ?_ | refine blk_alloc ?_ _)); refine blk_far ?_ NB120_118.out _; (with_reducible repeat (first | refine blk_drewN ?_ _ | refine blk_drew ?_ | refine blk_alloc ?_ _)); refine blk_far ?_ NB120_118.out _; (with_reducible repeat (first | refine blk_drewN ?_ _ | refine blk_drew ?_ | refine blk_alloc ?_ _)); exact BK120.out⟩, ⟨by repeat (first | (with_reducible first | exact HB.out | apply below_alloc | apply pw_below_drewN | apply below_drew1 | refine below_set ?_ GE118.out | refine below_set ?_ GE119.out | refine below_set ?_ GE120.out) | exact HB.out)⟩⟩
      · rw [if_neg c9] at H
        have c9b0 : decide (0 ≤ x6_1) = false := decide_eq_false c9
        clear c9
        simp only [Option.some.injEq, Prod.mk.injEq] at H
        obtain ⟨rfl, rfl, rfl⟩ := H
        have hnb33 := NB120_118.out
        have hnc33 := NB118_120.out
        have hnb34 := NB120_119.out
        have hnc34 := NB119_120.out
        have hcz35_0 : wr.cell? ⟨gb120, 0, none⟩ = some (.int .u64 x121000_1) := (blk_cell BK120.out 0).trans rfl
        have hcz35_1 : wr.cell? ⟨gb120, 1, none⟩ = some (.bool x121001_1) := (blk_cell BK120.out 1).trans rfl
        have hcz35_2 : wr.cell? ⟨gb120, 2, none⟩ = some (.int .u64 x121002_1) := (blk_cell BK120.out 2).trans rfl
        have hfz35_0 := blk_frozen BK120.out 0
        have hfz35_1 := blk_frozen BK120.out 1
        have hfz35_2 := blk_frozen BK120.out 2
        have hnb36 := NB119_118.out
        have hnc36 := NB118_119.out
        have hcz37_0 : wr.cell? ⟨gb119, 0, none⟩ = some (.int .u64 0) := (blk_cell BK119.out 0).trans rfl
        have hcz37_1 : wr.cell? ⟨gb119, 1, none⟩ = some (.bool false) := (blk_cell BK119.out 1).trans rfl
        have hcz37_2 : wr.cell? ⟨gb119, 2, none⟩ = some (.int .u64 0) := (blk_cell BK119.out 2).trans rfl
        have hfz37_0 := blk_frozen BK119.out 0
        have hfz37_1 := blk_frozen BK119.out 1
        have hfz37_2 := blk_frozen BK119.out 2
        go_wp2
        refine bodyPost_ret (results_cell_row rfl _ _ gb119 53 #[.int .u64 x121000_1, .bool x121001_1, .int .u64 x121002_1] (0, 0) _ rfl (by (with_reducible repeat (first | refine blk_drewN ?_ _ | refine blk_drew ?_ | refine blk_alloc ?_ _)); refine blk_put (cs := #[.int .u64 x121000_1, .bool x121001_1, .int .u64 0]) ?_ 2 _ rfl; (with_reducible repeat (first | refine blk_drewN ?_ _ | refine blk_drew ?_ | refine blk_alloc ?_ _)); refine blk_put (cs := #[.int .u64 x121000_1, .bool false, .int .u64 0]) ?_ 1 _ rfl; (with_reducible repeat (first | refine blk_drewN ?_ _ | refine blk_drew ?_ | refine blk_alloc ?_ _)); refine blk_put (cs := #[.int .u64 0, .bool false, .int .u64 0]) ?_ 0 _ rfl; (with_reducible repeat (first | refine blk_drewN ?_ _ | refine blk_drew ?_ | refine blk_alloc ?_ _)); exact BK119.out) Try.underlying53 rfl (by kernel_rfl)) rfl ?_
        exact ⟨by first | rfl | (simp [errW_none, errW_some] <;> rfl) | (simp [*, errW_none, errW_some] <;> rfl), by repeat (first | (with_reducible first | exact HB.out | apply below_alloc | apply pw_below_drewN | apply below_drew1 | refine below_set ?_ GE118.out | refine below_set ?_ GE119.out | refine below_set ?_ GE120.out) | exact HB.out)⟩

/-! ### flywheelref02_times: function 37 -/
def flywheelref02_times.f (a0 : Int) (a1 : Int) : Option (Int × Int) := some (IntKind.u64.wrap ((IntKind.u64.wrap ((IntKind.u64.wrap ((a0 / 4294967296) * (a1 / 4294967296))) + ((IntKind.u64.wrap ((IntKind.u64.wrap ((a0 / 4294967296) * (Go.bits .and .u64 a1 4294967295))) + ((IntKind.u64.wrap ((Go.bits .and .u64 a0 4294967295) * (Go.bits .and .u64 a1 4294967295))) / 4294967296))) / 4294967296))) + ((IntKind.u64.wrap ((IntKind.u64.wrap ((Go.bits .and .u64 a0 4294967295) * (a1 / 4294967296))) + (Go.bits .and .u64 (IntKind.u64.wrap ((IntKind.u64.wrap ((a0 / 4294967296) * (Go.bits .and .u64 a1 4294967295))) + ((IntKind.u64.wrap ((Go.bits .and .u64 a0 4294967295) * (Go.bits .and .u64 a1 4294967295))) / 4294967296))) 4294967295))) / 4294967296)), IntKind.u64.wrap ((IntKind.u64.wrap ((IntKind.u64.wrap ((IntKind.u64.wrap ((Go.bits .and .u64 a0 4294967295) * (a1 / 4294967296))) + (Go.bits .and .u64 (IntKind.u64.wrap ((IntKind.u64.wrap ((a0 / 4294967296) * (Go.bits .and .u64 a1 4294967295))) + ((IntKind.u64.wrap ((Go.bits .and .u64 a0 4294967295) * (Go.bits .and .u64 a1 4294967295))) / 4294967296))) 4294967295))) * 4294967296)) + (Go.bits .and .u64 (IntKind.u64.wrap ((Go.bits .and .u64 a0 4294967295) * (Go.bits .and .u64 a1 4294967295))) 4294967295)))
set_option maxHeartbeats 8000000 in
set_option maxRecDepth 100000 in
theorem flywheelref02_times.calls (a0 : Int) (a1 : Int) (r1 : Int) (r2 : Int) (w : World) (h : flywheelref02_times.f a0 a1 = some (r1, r2)) :
    Calls Try.prog 37 #[.int .u64 a0, .int .u64 a1] w fun e w' => e = .returned (.agg #[.int .u64 r1, .int .u64 r2]) ∧ Below w.heap.size w w' := by
  have hu56 := Try.underlying56
  have HB := Aside0.mk (Below.refl w.heap.size w)
  have H : (some (IntKind.u64.wrap ((IntKind.u64.wrap ((IntKind.u64.wrap ((a0 / 4294967296) * (a1 / 4294967296))) + ((IntKind.u64.wrap ((IntKind.u64.wrap ((a0 / 4294967296) * (Go.bits .and .u64 a1 4294967295))) + ((IntKind.u64.wrap ((Go.bits .and .u64 a0 4294967295) * (Go.bits .and .u64 a1 4294967295))) / 4294967296))) / 4294967296))) + ((IntKind.u64.wrap ((IntKind.u64.wrap ((Go.bits .and .u64 a0 4294967295) * (a1 / 4294967296))) + (Go.bits .and .u64 (IntKind.u64.wrap ((IntKind.u64.wrap ((a0 / 4294967296) * (Go.bits .and .u64 a1 4294967295))) + ((IntKind.u64.wrap ((Go.bits .and .u64 a0 4294967295) * (Go.bits .and .u64 a1 4294967295))) / 4294967296))) 4294967295))) / 4294967296)), IntKind.u64.wrap ((IntKind.u64.wrap ((IntKind.u64.wrap ((IntKind.u64.wrap ((Go.bits .and .u64 a0 4294967295) * (a1 / 4294967296))) + (Go.bits .and .u64 (IntKind.u64.wrap ((IntKind.u64.wrap ((a0 / 4294967296) * (Go.bits .and .u64 a1 4294967295))) + ((IntKind.u64.wrap ((Go.bits .and .u64 a0 4294967295) * (Go.bits .and .u64 a1 4294967295))) / 4294967296))) 4294967295))) * 4294967296)) + (Go.bits .and .u64 (IntKind.u64.wrap ((Go.bits .and .u64 a0 4294967295) * (Go.bits .and .u64 a1 4294967295))) 4294967295)))) = some (r1, r2) := h
  clear h
  simp only [Option.some.injEq, Prod.mk.injEq] at H
  obtain ⟨rfl, rfl⟩ := H
  go_enter Try.func37, Try.ntmps37
  go_wp2_with (first | ((with_reducible refine gate_dst (N := 4) rfl ?_); refine box_event ?hg (N := 4) ?hd (cs := #[.int .u64 0, .int .u64 0]) (t := 56) ?hr ?_; (case hd => rfl); (case hg => rfl); (case hr => first | (go_simp; done) | (go_simp; rfl)); intro gb121 hg w3 hbox hb; have n0_ := Aside0.mk (below_step (by repeat (first | (with_reducible first | exact HB.out | apply below_alloc | apply pw_below_drewN | apply below_drew1) | exact HB.out)) hb); have n1_ := Aside0.mk (hbox); have n2_ := Aside0.mk ((by rw [hg]; exact (below_size (by repeat (first | (with_reducible first | exact HB.out | apply below_alloc | apply pw_below_drewN | apply below_drew1) | exact HB.out))) : w.heap.size ≤ gb121)); have n3_ := Aside0.mk ((by rw [hg]; exact (below_size (by repeat (first | (with_reducible first | exact HB.out | apply below_alloc | apply pw_below_drewN | apply below_drew1) | exact HB.out))) : w.heap.size ≤ gb121)); clear HB; have HB := n0_; have BK121 := n1_; have GW121 := n2_; have GE121 := n3_; clear n0_ n1_ n2_ n3_; clear hb hbox hg; have hcz4_0 : w3.cell? ⟨gb121, 0, none⟩ = some (.int .u64 0) := (blk_cell BK121.out 0).trans rfl; have hcz4_1 : w3.cell? ⟨gb121, 1, none⟩ = some (.int .u64 0) := (blk_cell BK121.out 1).trans rfl; have hfz4_0 := blk_frozen BK121.out 0; have hfz4_1 := blk_frozen BK121.out 1))
  refine bodyPost_ret (results_cell_row rfl _ _ gb121 56 #[.int .u64 (IntKind.u64.wrap ((IntKind.u64.wrap ((IntKind.u64.wrap ((a0 / 4294967296) * (a1 / 4294967296))) + ((IntKind.u64.wrap ((IntKind.u64.wrap ((a0 / 4294967296) * (Go.bits .and .u64 a1 4294967295))) + ((IntKind.u64.wrap ((Go.bits .and .u64 a0 4294967295) * (Go.bits .and .u64 a1 4294967295))) / 4294967296))) / 4294967296))) + ((IntKind.u64.wrap ((IntKind.u64.wrap ((Go.bits .and .u64 a0 4294967295) * (a1 / 4294967296))) + (Go.bits .and .u64 (IntKind.u64.wrap ((IntKind.u64.wrap ((a0 / 4294967296) * (Go.bits .and .u64 a1 4294967295))) + ((IntKind.u64.wrap ((Go.bits .and .u64 a0 4294967295) * (Go.bits .and .u64 a1 4294967295))) / 4294967296))) 4294967295))) / 4294967296))), .int .u64 (IntKind.u64.wrap ((IntKind.u64.wrap ((IntKind.u64.wrap ((IntKind.u64.wrap ((Go.bits .and .u64 a0 4294967295) * (a1 / 4294967296))) + (Go.bits .and .u64 (IntKind.u64.wrap ((IntKind.u64.wrap ((a0 / 4294967296) * (Go.bits .and .u64 a1 4294967295))) + ((IntKind.u64.wrap ((Go.bits .and .u64 a0 4294967295) * (Go.bits .and .u64 a1 4294967295))) / 4294967296))) 4294967295))) * 4294967296)) + (Go.bits .and .u64 (IntKind.u64.wrap ((Go.bits .and .u64 a0 4294967295) * (Go.bits .and .u64 a1 4294967295))) 4294967295)))] (0, 0) _ rfl (by (with_reducible repeat (first | refine blk_drewN ?_ _ | refine blk_drew ?_ | refine blk_alloc ?_ _)); refine blk_put (cs := #[.int .u64 (IntKind.u64.wrap ((IntKind.u64.wrap ((IntKind.u64.wrap ((a0 / 4294967296) * (a1 / 4294967296))) + ((IntKind.u64.wrap ((IntKind.u64.wrap ((a0 / 4294967296) * (Go.bits .and .u64 a1 4294967295))) + ((IntKind.u64.wrap ((Go.bits .and .u64 a0 4294967295) * (Go.bits .and .u64 a1 4294967295))) / 4294967296))) / 4294967296))) + ((IntKind.u64.wrap ((IntKind.u64.wrap ((Go.bits .and .u64 a0 4294967295) * (a1 / 4294967296))) + (Go.bits .and .u64 (IntKind.u64.wrap ((IntKind.u64.wrap ((a0 / 4294967296) * (Go.bits .and .u64 a1 4294967295))) + ((IntKind.u64.wrap ((Go.bits .and .u64 a0 4294967295) * (Go.bits .and .u64 a1 4294967295))) / 4294967296))) 4294967295))) / 4294967296))), .int .u64 0]) ?_ 1 _ rfl; (with_reducible repeat (first | refine blk_drewN ?_ _ | refine blk_drew ?_ | refine blk_alloc ?_ _)); refine blk_put (cs := #[.int .u64 0, .int .u64 0]) ?_ 0 _ rfl; (with_reducible repeat (first | refine blk_drewN ?_ _ | refine blk_drew ?_ | refine blk_alloc ?_ _)); exact BK121.out) Try.underlying56 rfl (by kernel_rfl)) rfl ?_
  exact ⟨by first | rfl | (simp [errW_none, errW_some] <;> rfl) | (simp [*, errW_none, errW_some] <;> rfl), by repeat (first | (with_reducible first | exact HB.out | apply below_alloc | apply pw_below_drewN | apply below_drew1 | refine below_set ?_ GE121.out) | exact HB.out)⟩

/-! ### flywheelref02_size: function 38 -/
def flywheelref02_size.f (a0 : Int) : Option (Int) := if a0 < 0 then (some (IntKind.u64.wrap ((IntKind.u64.wrap (wrap64 (-(wrap64 (a0 + 1))))) + 1))) else (some (IntKind.u64.wrap (a0)))
set_option maxHeartbeats 8000000 in
set_option maxRecDepth 100000 in
theorem flywheelref02_size.calls (a0 : Int) (r : Int) (w : World) (h : flywheelref02_size.f a0 = some r) :
    Calls Try.prog 38 #[.int .i64 a0] w fun e w' => e = .returned (.int .u64 r) ∧ Drawn0 w w' := by
  have H : (if a0 < 0 then (some (IntKind.u64.wrap ((IntKind.u64.wrap (wrap64 (-(wrap64 (a0 + 1))))) + 1))) else (some (IntKind.u64.wrap (a0)))) = some r := h
  clear h
  by_cases c2 : a0 < 0
  · rw [if_pos c2] at H
    have c2b0 : decide (a0 < 0) = true := decide_eq_true c2
    clear c2
    obtain rfl := Option.some.inj H
    go_enter Try.func38, Try.ntmps38
    go_wp2
    go_ret
    exact ⟨by first | rfl | (simp; done) | (simp [*]; done), by repeat (first | exact Drawn0.refl _ | apply Drawn0.step)⟩
  · rw [if_neg c2] at H
    have c2b0 : decide (a0 < 0) = false := decide_eq_false c2
    clear c2
    obtain rfl := Option.some.inj H
    go_enter Try.func38, Try.ntmps38
    go_wp2
    go_ret
    exact ⟨by first | rfl | (simp; done) | (simp [*]; done), by repeat (first | exact Drawn0.refl _ | apply Drawn0.step)⟩

end Go.Proofs.Ytipdmihaidpnpaa.P

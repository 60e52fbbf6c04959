-- PUT TOGETHER by a program of this session: of the claim's texts, what is used
import Derived.Test.YtphgeljglhjamaaDoorKGccBounds6
import Derived.Test.YtphgeljglhjamaaDoorKGccBounds8
import Derived.Test.YtphgeljglhjamaaDoorKGccBounds9
import Derived.Test.YtphgeljglhjamaaDoorKGccBounds10
section
namespace Go.Proofs.YtphgeljglhjamaaDoor.P
open Go.RowKit Go.Proofs.YtphgeljglhjamaaDoorW.PrintWords Go.Proofs.YtphgeljglhjamaaDoorW.PrintLast Go.Proofs.YtphgeljglhjamaaDoorW.PrintMore
attribute [local go_sem] max2_int min2_int max_two min_two max_three min_three max_four min_four
set_option linter.unusedVariables false
set_option linter.unusedSimpArgs false
theorem mul64_ok (a b : Int) (ha : 0 ≤ a) (ha1 : a < 18446744073709551616) (hb : 0 ≤ b) (hb1 : b < 18446744073709551616) :
  bits_Mul64.f a b = some (a * b / 18446744073709551616, a * b % 18446744073709551616) := by
 obtain ⟨x, rfl⟩ := Int.eq_ofNat_of_zero_le ha
 obtain ⟨y, rfl⟩ := Int.eq_ofNat_of_zero_le hb
 have hx : x < 18446744073709551616 := by omega
 have hy : y < 18446744073709551616 := by omega
 obtain ⟨bd, bt, bw, hhi⟩ := Lib.mul64_hi x y hx hy
 have e1 : Go.bits .and .u64 (x : Int) 4294967295 = ((x % 4294967296 : Nat) : Int) := by rw [and_low32 _ ha (by omega)]; omega
 have e2 : Go.bits .and .u64 (y : Int) 4294967295 = ((y % 4294967296 : Nat) : Int) := by rw [and_low32 _ hb (by omega)]; omega
 have d1 : (x : Int) / 4294967296 = ((x / 4294967296 : Nat) : Int) := by omega
 have d2 : (y : Int) / 4294967296 = ((y / 4294967296 : Nat) : Int) := by omega
 unfold bits_Mul64.f
 rw [e1, e2, d1, d2]
 simp only [← Int.natCast_mul]
 have b3 := Lib.half_mul_le (a := x / 4294967296) (b := y % 4294967296) (by omega) (by omega)
 have b4 := Lib.half_mul_le (a := x % 4294967296) (b := y / 4294967296) (by omega) (by omega)
 have b5 := Lib.half_mul_le (a := x / 4294967296) (b := y / 4294967296) (by omega) (by omega)
 generalize (x % 4294967296) * (y % 4294967296) = w0 at *
 generalize (x / 4294967296) * (y % 4294967296) = p1 at *
 generalize (x % 4294967296) * (y / 4294967296) = p2 at *
 generalize (x / 4294967296) * (y / 4294967296) = p3 at *
 generalize x * y = N at *
 have w1 : IntKind.u64.wrap ((w0 : Nat) : Int) = (w0 : Int) := u64_id _ (by omega) (by omega)
 have w2 : IntKind.u64.wrap ((p1 : Nat) : Int) = (p1 : Int) := u64_id _ (by omega) (by omega)
 have w3 : IntKind.u64.wrap ((p2 : Nat) : Int) = (p2 : Int) := u64_id _ (by omega) (by omega)
 have w4 : IntKind.u64.wrap ((p3 : Nat) : Int) = (p3 : Int) := u64_id _ (by omega) (by omega)
 rw [w1, w2, w3, w4]
 have t : (p1 : Int) + (w0 : Int) / 4294967296 = ((p1 + w0 / 4294967296 : Nat) : Int) := by omega
 rw [t]
 generalize hT : p1 + w0 / 4294967296 = T at *
 have w5 : IntKind.u64.wrap ((T : Nat) : Int) = (T : Int) := u64_id _ (by omega) (by omega)
 have e3 : Go.bits .and .u64 (T : Int) 4294967295 = ((T % 4294967296 : Nat) : Int) := by rw [and_low32 _ (by omega) (by omega)]; omega
 rw [w5, e3]
 rw [u64_id (((T % 4294967296 : Nat) : Int) + (p2 : Int)) (by omega) (by omega), u64_id ((p3 : Int) + (T : Int) / 4294967296) (by omega) (by omega), u64_id _ (by omega) (by omega), u64_mod]
 congr 2
 ·omega
theorem msize (a : Int) (h : isI64 a) : muldiv_size.f a = some (if a < 0 then -a else a) := by
 unfold isI64 at h
 unfold muldiv_size.f
 simp only [u64_mod]
 split
 ·congr 1; omega
 ·congr 1; omega
theorem quotient_tail (below : Bool) (hi lo : Int) (h0 : 0 ≤ hi) (l0 : 0 ≤ lo) (l1 : lo < 18446744073709551616) :
  muldiv_quotient.j2 3 below hi lo = some (hold64 (if below = true then -(hi * 18446744073709551616 + lo) else hi * 18446744073709551616 + lo)) := by
 cases below with
 | true =>
  simp only [muldiv_quotient.j2, muldiv_quotient.j3, muldiv_quotient.j4, if_true]
  unfold hold64
  by_cases hz : hi > 0
  ·rw [if_pos hz, if_pos (by omega)]
  ·rw [if_neg hz]
   by_cases hl : lo > 9223372036854775808
   ·rw [decide_eq_true (by omega), if_pos rfl, if_pos (by omega)]
   ·rw [decide_eq_false (by omega), if_neg (by simp), if_neg (by omega), if_neg (by omega)]
    congr 2
    rw [u64_mod]; unfold wrap64; omega
 | false =>
  simp only [muldiv_quotient.j2, muldiv_quotient.j3, muldiv_quotient.j4, Bool.false_eq_true, if_false]
  unfold hold64
  by_cases hz : hi > 0
  ·rw [if_pos hz, if_pos trivial, if_neg (by omega), if_pos (by omega)]
  ·rw [if_neg hz]
   by_cases hl : lo > 9223372036854775807
   ·rw [decide_eq_true (by omega), if_pos rfl, if_neg (by omega), if_pos (by omega)]
   ·rw [decide_eq_false (by omega), if_neg (by simp), if_neg (by omega), if_neg (by omega)]
    congr 2
    unfold wrap64; omega
theorem up_ok (left C : Int) (below : Bool) (how : Int) (h0 : 0 ≤ left) (h1 : left < C) (hC : C < 18446744073709551616) (hh : how = 1 ∨ how = 2 ∨ how = 3) :
  muldiv_up.f left C below how = some (decide (1 = (if below = true then (if how = 1 then (if 0 < left then 1 else 0) else if how = 3 then 0 else (if C < 2 * left then 1 else 0)) else (if how = 1 then 0 else if how = 3 then (if 0 < left then 1 else 0) else (if C ≤ 2 * left then 1 else 0)) : Int))) := by
 unfold muldiv_up.f
 have w : IntKind.u64.wrap (C - left) = C - left := u64_id _ (by omega) (by omega)
 rw [w]
 rcases hh with rfl | rfl | rfl <;> cases below <;> simp
 all_goals (try (split <;> simp_all <;> omega))
 all_goals (try omega)
theorem quotient_j1 (x2 how N C : Int) (below : Bool) (hx : isI64 x2) (hC : C = if x2 < 0 then -x2 else x2) (hC0 : 0 < C) (hN : 0 ≤ N) (hN1 : N ≤ 85070591730234615865843651857942052864) (hh : how = 1 ∨ how = 2 ∨ how = 3) :
  muldiv_quotient.j1 4 x2 how below (N / 18446744073709551616) (N % 18446744073709551616) = some (hold64 (rnd (if below = true then -N else N) C how)) := by
 have ms := msize x2 hx
 rw [← hC] at ms
 have hCu : C ≤ 9223372036854775808 := by unfold isI64 at hx; rw [hC]; split <;> omega
 obtain ⟨t1, t2, t3, t4⟩ := two_halves N C hN hC0
 simp only [muldiv_quotient.j1, ms, Option.bind_some]
 unfold muldiv_divided.f
 rw [if_pos ⟨⟨by omega, by omega⟩, ⟨by omega, by omega⟩, ⟨hC0, by omega⟩⟩]
 simp only [Option.bind_some]
 rw [← t2]
 have r0 := Int.emod_nonneg N (show C ≠ 0 by omega)
 have r1 := Int.emod_lt_of_pos N hC0
 rw [up_ok _ _ _ _ r0 r1 (by omega) hh, Option.bind_some]
 have q0 : 0 ≤ N / 18446744073709551616 / C := Int.ediv_nonneg (by omega) (by omega)
 have q1 : N / 18446744073709551616 / C ≤ N / 18446744073709551616 := Int.ediv_le_self _ (by omega)
 have val : ∀ u : Int, u = 0 ∨ u = 1 → (if decide (1 = u) = true then
    muldiv_quotient.j2 3 below (IntKind.u64.wrap (N / 18446744073709551616 / C + add64c ((N / 18446744073709551616 % C * 18446744073709551616 + N % 18446744073709551616) / C) 1 0)) (add64s ((N / 18446744073709551616 % C * 18446744073709551616 + N % 18446744073709551616) / C) 1 0)
   else muldiv_quotient.j2 3 below (N / 18446744073709551616 / C) ((N / 18446744073709551616 % C * 18446744073709551616 + N % 18446744073709551616) / C)) = some (hold64 (if below = true then -(N / C + u) else N / C + u)) := by
  intro u hu
  generalize (N / 18446744073709551616 % C * 18446744073709551616 + N % 18446744073709551616) / C = lo at *
  generalize N / 18446744073709551616 / C = hi at *
  rcases hu with rfl | rfl
  ·rw [if_neg (by simp), quotient_tail below hi lo q0 t3 t4, Int.add_zero, t1]
  ·rw [if_pos (by simp)]
   have s1 : add64s lo 1 0 = (lo + 1) % 18446744073709551616 := by unfold add64s; simp only [show (1 : Int).toNat = 1 from rfl, show (0 : Int).toNat = 0 from rfl]; omega
   have s2 : add64c lo 1 0 = (lo + 1) / 18446744073709551616 := by unfold add64c; simp only [show (1 : Int).toNat = 1 from rfl, show (0 : Int).toNat = 0 from rfl]; omega
   rw [s1, s2, u64_id _ (by omega) (by omega), quotient_tail below _ _ (by omega) (by omega) (by omega)]
   congr 3
   all_goals omega
 cases below with
 | true =>
  simp only [if_true] at val ⊢
  rw [rnd_neg N C how hC0]
  apply val
  split
  ·split <;> simp
  ·split
   ·simp
   ·split <;> simp
 | false =>
  simp only [Bool.false_eq_true, if_false] at val ⊢
  rw [rnd_pos N C how hC0]
  apply val
  split
  ·simp
  ·split
   ·split <;> simp
   ·split <;> simp
theorem quotient_ok (a b c how : Int) (ha : isI64 a) (hb : isI64 b) (hc : isI64 c) : muldiv_quotient.f 5 a b c how = some (mdq a b c how) := by
 unfold muldiv_quotient.f mdq
 by_cases hz : c = 0
 ·rw [if_pos hz, if_pos (Or.inl hz)]; rfl
 rw [if_neg hz]
 by_cases hl : how < 1
 ·rw [if_pos hl, if_pos (Or.inr (Or.inl hl))]; rfl
 rw [if_neg hl]
 by_cases hg : how > 3
 ·rw [decide_eq_true hg, if_pos (Or.inr (Or.inr hg))]; rfl
 rw [decide_eq_false hg, if_neg (by omega)]
 simp only [muldiv_quotient.j0, Bool.false_eq_true, if_false]
 rw [msize a ha, msize b hb]
 simp only [Option.bind_some]
 have ha' := ha; have hb' := hb; have hc' := hc
 unfold isI64 at ha' hb' hc'
 rw [mul64_ok _ _ (by split <;> omega) (by split <;> omega) (by split <;> omega) (by split <;> omega)]
 simp only [Option.bind_some]
 have hN := abs_mul_le (a := if a < 0 then -a else a) (b := if b < 0 then -b else b) (by split <;> omega) (by split <;> omega) (by split <;> omega) (by split <;> omega)
 have hN0 := Int.mul_nonneg (a := if a < 0 then -a else a) (b := if b < 0 then -b else b) (by split <;> omega) (by split <;> omega)
 have J := fun bl => quotient_j1 c how ((if a < 0 then -a else a) * (if b < 0 then -b else b)) (if c < 0 then -c else c) bl hc rfl (by split <;> omega) hN0 hN (by omega)
 simp only [J]
 by_cases h1 : a < 0 <;> by_cases h2 : b < 0 <;> by_cases h3 : c < 0 <;> simp [h1, h2, h3, Int.neg_mul, Int.mul_neg]
def muldiv_quotient_s.f (a0 : Int) (a1 : Int) (a2 : Int) (a3 : Int) : Option (Int × Bool) := if isI64 a0 ∧ isI64 a1 ∧ isI64 a2 then some (mdq a0 a1 a2 a3) else none
theorem muldiv_quotient_s.calls (a0 : Int) (a1 : Int) (a2 : Int) (a3 : Int) (r1 : Int) (r2 : Bool) (w : World) (h : muldiv_quotient_s.f a0 a1 a2 a3 = some (r1, r2)) :
  Calls Tryd.prog 51 #[.int .i64 a0, .int .i64 a1, .int .i64 a2, .int .i64 a3] w fun e w' => e = .returned (.tuple #[.int .i64 r1, .bool r2]) ∧ Below w.heap.size w w' := by
 unfold muldiv_quotient_s.f at h
 split at h
 ·rename_i hb
  exact muldiv_quotient.calls 5 a0 a1 a2 a3 r1 r2 w ((quotient_ok a0 a1 a2 a3 hb.1 hb.2.1 hb.2.2).trans h)
 ·cases h
def muldiv_Do.f (a0 : Int) (a1 : Int) (a2 : Int) (a3 : Int) : Option (Int) := (muldiv_quotient_s.f a0 a1 a2 a3).bind fun bt146 => (some bt146.1)
set_option maxHeartbeats 8000000 in
set_option maxRecDepth 100000 in
theorem muldiv_Do.calls (a0 : Int) (a1 : Int) (a2 : Int) (a3 : Int) (r : Int) (w : World) (h : muldiv_Do.f a0 a1 a2 a3 = some r) :
  Calls Tryd.prog 44 #[.int .i64 a0, .int .i64 a1, .int .i64 a2, .int .i64 a3] w fun e w' => e = .returned (.int .i64 r) ∧ Below w.heap.size w w' := by
 have HB := aW (Below.refl w.heap.size w)
 have H : ((muldiv_quotient_s.f a0 a1 a2 a3).bind fun bt146 => (some bt146.1)) = some r := h
 clear h
 replace H := Option.bind_eq_some_iff.mp H
 obtain ⟨⟨t146, t147⟩, A50, H⟩ := H
 replace H : (some t146) = some r := H
 have A5 := aW A50
 clear A50
 obtain rfl := Option.some.inj H
 go_enter Tryd.func44, Tryd.ntmps44
 go_wp2_with (first | ((with_reducible refine gate_callee (f := 51) rfl ?_); refine gL_ 16 Tryd.func51 #[.int .i64 a0, .int .i64 a1, .int .i64 a2, .int .i64 a3] ?_; (with_reducible refine (muldiv_quotient_s.calls a0 a1 a2 a3 t146 t147 _ A5.out).mono ?_); rintro e w6 ⟨rfl, hb⟩; refine ⟨_, rfl, ?_⟩; replace HB := aW (below_step o76 hb); (try clear hb); (try clear hb2); (try clear hk); (try clear hi)))
 go_ret
 exact ⟨o95, o77⟩
def fixed_Mul.f (a0 : Int) (a1 : Int) : Option (Int) := (muldiv_Do.f a0 a1 4294967296 2).bind fun t148 => (some t148)
set_option maxHeartbeats 8000000 in
set_option maxRecDepth 100000 in
theorem fixed_Mul.calls (a0 : Int) (a1 : Int) (r : Int) (w : World) (h : fixed_Mul.f a0 a1 = some r) :
  Calls Tryd.prog 45 #[.int .i64 a0, .int .i64 a1] w fun e w' => e = .returned (.int .i64 r) ∧ Below w.heap.size w w' := by
 have HB := aW (Below.refl w.heap.size w)
 have H : ((muldiv_Do.f a0 a1 4294967296 2).bind fun t148 => (some t148)) = some r := h
 clear h
 obtain ⟨t148, A3, H⟩ := bw H
 obtain rfl := Option.some.inj H
 go_enter Tryd.func45, Tryd.ntmps45
 go_wp2_with (first | ((with_reducible refine gate_callee (f := 44) rfl ?_); refine gL_ 7 Tryd.func44 #[.int .i64 a0, .int .i64 a1, .int .i64 4294967296, .int .i64 2] ?_; (with_reducible refine (muldiv_Do.calls a0 a1 4294967296 2 t148 _ A3.out).mono ?_); rintro e w4 ⟨rfl, hb⟩; refine ⟨_, rfl, ?_⟩; replace HB := aW (below_step o76 hb); (try clear hb); (try clear hb2); (try clear hk); (try clear hi)))
 go_ret
 exact ⟨o95, o77⟩
def fixed_Mix.f (k : Nat) (a0 : Int) (a1 : Int) (a2 : Int) : Option (Int) := (sat_Sub.f k a1 a0).bind fun t149 => ((fixed_Mul.f t149 a2).bind fun t150 => ((sat_Add.f k a0 t150).bind fun t151 => (some t151)))
theorem fixed_Mix.mono : ∀ a0 a1 a2 k, LeO (fixed_Mix.f k a0 a1 a2) (fixed_Mix.f (k + 1) a0 a1 a2) := by
 intro a0 a1 a2 k
 unfold fixed_Mix.f
 repeat' first
   | (with_reducible exact sat_Add.mono _ _ _)
   | (with_reducible exact sat_Sub.mono _ _ _)
   | (with_reducible exact LeO.refl _)
   | (with_reducible exact LeO.none _)
   | (with_reducible refine LeO.ite ?_ ?_)
   | (with_reducible refine LeO.bind ?_ (fun _ => ?_))
   | exact sat_Add.mono _ _ _
   | exact sat_Sub.mono _ _ _
   | exact LeO.none _
   | refine LeO.ite ?_ ?_
   | refine LeO.bind ?_ (fun _ => ?_)
set_option maxHeartbeats 8000000 in
set_option maxRecDepth 100000 in
theorem fixed_Mix.calls (k : Nat) (a0 : Int) (a1 : Int) (a2 : Int) (r : Int) (w : World) (h : fixed_Mix.f k a0 a1 a2 = some r) :
  Calls Tryd.prog 33 #[.int .i64 a0, .int .i64 a1, .int .i64 a2] w fun e w' => e = .returned (.int .i64 r) ∧ Below w.heap.size w w' := by
 have HB := aW (Below.refl w.heap.size w)
 have H : ((sat_Sub.f k a1 a0).bind fun t149 => ((fixed_Mul.f t149 a2).bind fun t150 => ((sat_Add.f k a0 t150).bind fun t151 => (some t151)))) = some r := h
 clear h
 obtain ⟨t149, A4, H⟩ := bw H
 obtain ⟨t150, A5, H⟩ := bw H
 obtain ⟨t151, A6, H⟩ := bw H
 obtain rfl := Option.some.inj H
 go_enter Tryd.func33, Tryd.ntmps33
 go_wp2_with (first | ((with_reducible refine gate_callee (f := 24) rfl ?_); refine gL_ 10 Tryd.func24 #[.int .i64 a1, .int .i64 a0] ?_; (with_reducible refine (sat_Sub.calls k a1 a0 t149 _ A4.out).mono ?_); rintro e w7 ⟨rfl, hb⟩; refine ⟨_, rfl, ?_⟩; replace HB := aW (below_step o76 hb); (try clear hb); (try clear hb2); (try clear hk); (try clear hi)) | ((with_reducible refine gate_callee (f := 45) rfl ?_); refine gL_ 12 Tryd.func45 #[.int .i64 t149, .int .i64 a2] ?_; (with_reducible refine (fixed_Mul.calls t149 a2 t150 _ A5.out).mono ?_); rintro e w8 ⟨rfl, hb⟩; refine ⟨_, rfl, ?_⟩; replace HB := aW (below_step o76 hb); (try clear hb); (try clear hb2); (try clear hk); (try clear hi)) | ((with_reducible refine gate_callee (f := 32) rfl ?_); refine gL_ 13 Tryd.func32 #[.int .i64 a0, .int .i64 t150] ?_; (with_reducible refine (sat_Add.calls k a0 t150 t151 _ A6.out).mono ?_); rintro e w9 ⟨rfl, hb⟩; refine ⟨_, rfl, ?_⟩; replace HB := aW (below_step o76 hb); (try clear hb); (try clear hb2); (try clear hk); (try clear hi)))
 go_ret
 exact ⟨o95, o77⟩
def trend_less.l0 : Nat → Int → List Int → List Int → Int → Int → Option (List Int)
 | 0, _, _, _, _, _ => none
 | k + 1, x1, x5, x8, x9, x10 => if x10 < x9 then (if 0 ≤ x10 then (if x10 < (x8.length : Int) then ((sat_Sub.f k (rd x8 x10) x1).bind fun t153 => (if x5.length < 17592186044416 then (trend_less.l0 k x1 (x5 ++ [t153]) x8 x9 (wrap64 (x10 + 1))) else (none))) else (none)) else (none)) else (some x5)
def trend_less.f (k : Nat) (l0 : List Int) (a1 : Int) : Option (List Int) := trend_less.l0 k a1 ([] : List Int) l0 (l0.length : Int) 0
theorem trend_less.mono_l : ∀ k, (∀ y0 y1 y2 y3 y4, LeO (trend_less.l0 k y0 y1 y2 y3 y4) (trend_less.l0 (k + 1) y0 y1 y2 y3 y4))
 | 0 => fun _ _ _ _ _ r h => by simp [trend_less.l0] at h
 | k + 1 => by
  have ih0 := trend_less.mono_l k
  ·intro y0 y1 y2 y3 y4
   unfold trend_less.l0
   repeat' first
   | (with_reducible exact ih0 _ _ _ _ _)
   | (with_reducible exact sat_Sub.mono _ _ _)
   | (with_reducible exact LeO.refl _)
   | (with_reducible exact LeO.none _)
   | (with_reducible refine LeO.ite ?_ ?_)
   | (with_reducible refine LeO.bind ?_ (fun _ => ?_))
   | exact ih0 _ _ _ _ _
   | exact sat_Sub.mono _ _ _
   | exact LeO.none _
   | refine LeO.ite ?_ ?_
   | refine LeO.bind ?_ (fun _ => ?_)
theorem trend_less.mono : ∀ a0 a1 k, LeO (trend_less.f k a0 a1) (trend_less.f (k + 1) a0 a1) := by
 intro a0 a1 k
 have ih0 := trend_less.mono_l k
 unfold trend_less.f
 repeat' first
   | (with_reducible exact ih0 _ _ _ _ _)
   | (with_reducible exact sat_Sub.mono _ _ _)
   | (with_reducible exact LeO.refl _)
   | (with_reducible exact LeO.none _)
   | (with_reducible refine LeO.ite ?_ ?_)
   | (with_reducible refine LeO.bind ?_ (fun _ => ?_))
   | exact ih0 _ _ _ _ _
   | exact sat_Sub.mono _ _ _
   | exact LeO.none _
   | refine LeO.ite ?_ ?_
   | refine LeO.bind ?_ (fun _ => ?_)
set_option maxHeartbeats 8000000 in
set_option maxRecDepth 100000 in
theorem trend_less.calls (k : Nat) (A0 : Option Addr) (c0 : Nat) (l0 : List Int) (a1 : Int) (r : List Int) (w : World) (hr0 : Kd.C (Kd.int .i64) w A0 l0.length l0) (hc0 : l0.length ≤ c0) (h : trend_less.f k l0 a1 = some r) :
  Calls Tryd.prog 52 #[.slice A0 l0.length c0, .int .i64 a1] w fun e w' => ∃ v0_ : Value, e = .returned (v0_) ∧ Kd.R (Kd.int .i64) 2 w' w.heap.size (fun _ => True) v0_ r ∧ Below w.heap.size w w' := by
 have HR0 := aW hr0
 have HC0 := aW hc0
 clear hr0 hc0
 have HB := aW (Below.refl w.heap.size w)
 have H : (trend_less.l0 k a1 ([] : List Int) l0 (l0.length : Int) 0) = some r := h
 clear h
 have H' := aW H
 clear H
 go_enter Tryd.func52, Tryd.ntmps52
 go_wp2
 go_loopg [5, 10] k (fun kq v5 v10 w' => ∃ (x5_1 : List Int) (x10_1 : Int), v10 = .int .i64 x10_1 ∧ Aside0 (trend_less.l0 kq a1 x5_1 l0 (l0.length : Int) x10_1 = some r) ∧ Aside0 (kq ≤ k) ∧ Aside0 (Kd.R (Kd.int .i64) 2 w' w.heap.size (fun _ => True) v5 x5_1) ∧ Aside0 (Below w.heap.size w w'))
 case atStart => exact ⟨(([] : List Int)), (0), o105, H', ⟨Nat.le_refl _⟩, ⟨o73⟩, ⟨o77⟩⟩
 case round =>
  clear H'
  try clear p2
  obtain ⟨x5_1, x10_1, rfl, HA, HK1, HO_5, HB⟩ := hrel
  cases gk with
  | zero => exact absurd HA.out (by simp [trend_less.l0])
  | succ k1 =>
   have H := HA.out
   clear HA
   simp only [trend_less.l0] at H
   by_cases c3 : x10_1 < (l0.length : Int)
   ·rw [if_pos c3] at H
    have c3b0 : decide (x10_1 < (l0.length : Int)) = true := decide_eq_true c3
    clear c3
    by_cases c4 : 0 ≤ x10_1
    ·rw [if_pos c4] at H
     have c4b0 : decide (0 ≤ x10_1) = true := decide_eq_true c4
     clear c4
     by_cases c5 : x10_1 < (l0.length : Int)
     ·rw [if_pos c5] at H
      have c5b0 : decide (x10_1 < (l0.length : Int)) = true := decide_eq_true c5
      clear c5
      obtain ⟨t153, A6, H⟩ := bw H
      replace H : (if x5_1.length < 17592186044416 then (trend_less.l0 k1 a1 (x5_1 ++ [t153]) l0 (l0.length : Int) (wrap64 (x10_1 + 1))) else (none)) = some r := H
      by_cases c7 : x5_1.length < 17592186044416
      ·rw [if_pos c7] at H
       have LMc7 := aW c7
       clear c7
       obtain ⟨y154, hy154⟩ : ∃ y_ : List Int, y_ = (x5_1 ++ [t153]) := ⟨_, rfl⟩
       replace H : (trend_less.l0 k1 a1 y154 l0 (l0.length : Int) (wrap64 (x10_1 + 1))) = some r := by first | (rw [hy154]; with_reducible exact H) | (have H2_ := (Option.bind_some _ _).symm.trans H; rw [hy154]; with_reducible exact H2_) | (have H2_ := (Option.bind_some _ _).symm.trans H; with_reducible exact H2_) | with_reducible exact H | (rw [hy154]; exact H) | exact H
       have Ny154 := aW hy154
       clear hy154
       have H' := aW H
       clear H
       have p152 : 0 ≤ (x10_1 : Int) := of_decide_eq_true o104
       have q152 : x10_1 < (l0.length : Int) := of_decide_eq_true o104
       obtain ⟨ad152, e152, hx152_0⟩ := Kd.at_int HR0.out x10_1 p152 q152
       cases e152
       replace hx152_0 := (HB.out.cell (World.block_lt_of_cell? w _ hx152_0)).trans hx152_0
       replace p152 := eq_true p152
       replace q152 := eq_true q152
       go_wp2_with (first | ((with_reducible refine gate_callee (f := 24) rfl ?_); refine gL_ 17 Tryd.func24 #[.int .i64 (rd l0 x10_1), .int .i64 a1] ?_; (with_reducible refine (sat_Sub.calls k1 (rd l0 x10_1) a1 t153 _ A6.out).mono ?_); rintro e w8 ⟨rfl, hb⟩; refine ⟨_, rfl, ?_⟩; replace HB := aW (below_step o76 hb); replace HO_5 := aW (Kd.R_below o90 hb); (try clear hb); (try clear hb2); (try clear hk); (try clear hi)) | ((with_reducible refine gate_builtin (b := .append) (xs := #[.tmp 14, .tmp 18]) rfl ?_); at_builtin; refine Kd.R_append (Kd.int .i64) (w0 := w) w.heap.size rfl (.tmp 14) (.tmp 18) 86 2 (.int .i64 0) 8 rfl Tryd.underlying86 info2 rfl (by decide) (by omega) u5 x5_1 t153 [.int .i64 t153] (fun _ => True) (fun _ => False) rfl rfl ?aP (fun _ hk => hk.elim) ?aF ?aO ?aB ?aS ?aL ?_; (case aP => exact rfl); (case aB => exact o76); (case aF => exact (fun _ _ => trivial)); (case aO => exact o90); (case aS => exact (below_size o76)); (case aL => have := LMc7.out; omega); intro v155 w9 ho hb hg hat; rw [← Ny154.out] at ho; have HO156 := aW (ho); replace HB := aW (hb); clear HO_5; clear ho hb hg hat))
       go_roundg k1
       case measure => have := HK1.out; omega
       case rel => exact ⟨(y154), (wrap64 (x10_1 + 1)), o105, H', ⟨by have := HK1.out; omega⟩, ⟨by (with_reducible repeat (first | apply Kd.R_alloc | apply Kd.R_drewN | apply Kd.R_drew)); exact HO156.out⟩, ⟨o77⟩⟩
      ·rw [if_neg c7] at H
       exact absurd H (by simp)
     ·rw [if_neg c5] at H
      exact absurd H (by simp)
    ·rw [if_neg c4] at H
     exact absurd H (by simp)
   ·rw [if_neg c3] at H
    have c3b0 : decide (x10_1 < (l0.length : Int)) = false := decide_eq_false c3
    clear c3
    obtain rfl := Option.some.inj H
    go_wp2
    go_ret
    exact ⟨_, o95, by (with_reducible repeat (first | apply Kd.R_alloc | apply Kd.R_drewN | apply Kd.R_drew)); exact HO_5.out, o77⟩
def sat_Neg.f (a0 : Int) : Option (Int) := (sat_negative.f a0).bind fun bt157 => ((sat_held.f bt157.1 bt157.2).bind fun t159 => (some t159))
set_option maxHeartbeats 8000000 in
set_option maxRecDepth 100000 in
theorem sat_Neg.calls (a0 : Int) (r : Int) (w : World) (h : sat_Neg.f a0 = some r) :
  Calls Tryd.prog 48 #[.int .i64 a0] w fun e w' => e = .returned (.int .i64 r) ∧ Below w.heap.size w w' := by
 have HB := aW (Below.refl w.heap.size w)
 have H : ((sat_negative.f a0).bind fun bt157 => ((sat_held.f bt157.1 bt157.2).bind fun t159 => (some t159))) = some r := h
 clear h
 replace H := Option.bind_eq_some_iff.mp H
 obtain ⟨⟨t157, t158⟩, A20, H⟩ := H
 replace H : ((sat_held.f t157 t158).bind fun t159 => (some t159)) = some r := H
 have A2 := aW A20
 clear A20
 obtain ⟨t159, A3, H⟩ := bw H
 obtain rfl := Option.some.inj H
 go_enter Tryd.func48, Tryd.ntmps48
 go_wp2_with (first | ((with_reducible refine gate_callee (f := 40) rfl ?_); refine gL_ 4 Tryd.func40 #[.int .i64 a0] ?_; (with_reducible refine (sat_negative.calls a0 t157 t158 _ A2.out).mono ?_); rintro e w4 ⟨rfl, hb⟩; refine ⟨_, rfl, ?_⟩; replace HB := aW (below_step o76 hb); (try clear hb); (try clear hb2); (try clear hk); (try clear hi)) | ((with_reducible refine gate_callee (f := 38) rfl ?_); refine gL_ 5 Tryd.func38 #[.agg #[.int .u64 t157, .int .u64 t158]] ?_; (with_reducible refine (sat_held.calls t157 t158 t159 _ A3.out).mono ?_); rintro e w5 ⟨rfl, hb⟩; refine ⟨_, rfl, ?_⟩; replace HB := aW (below_step o76 hb); (try clear hb); (try clear hb2); (try clear hk); (try clear hi)))
 go_ret
 exact ⟨o95, o77⟩
def sat_Abs.f (a0 : Int) : Option (Int) := (sat_Neg.f a0).bind fun t160 => (some (mx a0 t160))
set_option maxHeartbeats 8000000 in
set_option maxRecDepth 100000 in
theorem sat_Abs.calls (a0 : Int) (r : Int) (w : World) (h : sat_Abs.f a0 = some r) :
  Calls Tryd.prog 37 #[.int .i64 a0] w fun e w' => e = .returned (.int .i64 r) ∧ Below w.heap.size w w' := by
 have HB := aW (Below.refl w.heap.size w)
 have H : ((sat_Neg.f a0).bind fun t160 => (some (mx a0 t160))) = some r := h
 clear h
 obtain ⟨t160, A2, H⟩ := bw H
 obtain ⟨ji3, hji3⟩ : ∃ j_ : Int, (mx a0 t160) = j_ := ⟨_, rfl⟩
 replace H : (some ji3) = some r := by first | (rw [hji3] at H; exact H) | (simp only [hji3] at H ⊢; exact H)
 (try rw [hji3] at A2)
 have hji3_ : (if a0 < t160 then t160 else a0) = ji3 := hji3
 obtain rfl := Option.some.inj H
 go_enter Tryd.func37, Tryd.ntmps37
 go_wp2_with (first | ((with_reducible refine gate_callee (f := 48) rfl ?_); refine gL_ 5 Tryd.func48 #[.int .i64 a0] ?_; (with_reducible refine (sat_Neg.calls a0 t160 _ A2.out).mono ?_); rintro e w4 ⟨rfl, hb⟩; refine ⟨_, rfl, ?_⟩; replace HB := aW (below_step o76 hb); (try clear hb); (try clear hb2); (try clear hk); (try clear hi)))
 go_ret
 exact ⟨by first | rfl | (simp [errW_none, errW_some] <;> rfl) | (simp only [← hji3]; first | rfl | (simp [errW_none, errW_some] <;> rfl)) | (simp [*, errW_none, errW_some] <;> rfl), o77⟩
def sat_Sum.f (k : Nat) (l0 : List Int) : Option (Int) := (sat_plus.f k 0 0 l0).bind fun bt161 => ((sat_held.f bt161.1 bt161.2).bind fun t163 => (some t163))
theorem sat_Sum.mono : ∀ a0 k, LeO (sat_Sum.f k a0) (sat_Sum.f (k + 1) a0) := by
 intro a0 k
 unfold sat_Sum.f
 repeat' first
   | (with_reducible exact sat_plus.mono _ _ _ _)
   | (with_reducible exact LeO.refl _)
   | (with_reducible exact LeO.none _)
   | (with_reducible refine LeO.ite ?_ ?_)
   | (with_reducible refine LeO.bind ?_ (fun _ => ?_))
   | exact sat_plus.mono _ _ _ _
   | exact LeO.none _
   | refine LeO.ite ?_ ?_
   | refine LeO.bind ?_ (fun _ => ?_)
set_option maxHeartbeats 8000000 in
set_option maxRecDepth 100000 in
theorem sat_Sum.calls (k : Nat) (A0 : Option Addr) (c0 : Nat) (l0 : List Int) (r : Int) (w : World) (hr0 : Kd.C (Kd.int .i64) w A0 l0.length l0) (hc0 : l0.length ≤ c0) (h : sat_Sum.f k l0 = some r) :
  Calls Tryd.prog 56 #[.slice A0 l0.length c0] w fun e w' => e = .returned (.int .i64 r) ∧ Below w.heap.size w w' := by
 have hu97 := Tryd.underlying97
 have HR0 := aW hr0
 have HC0 := aW hc0
 clear hr0 hc0
 have HB := aW (Below.refl w.heap.size w)
 have H : ((sat_plus.f k 0 0 l0).bind fun bt161 => ((sat_held.f bt161.1 bt161.2).bind fun t163 => (some t163))) = some r := h
 clear h
 replace H := Option.bind_eq_some_iff.mp H
 obtain ⟨⟨t161, t162⟩, A20, H⟩ := H
 replace H : ((sat_held.f t161 t162).bind fun t163 => (some t163)) = some r := H
 have A2 := aW A20
 clear A20
 obtain ⟨t163, A3, H⟩ := bw H
 obtain rfl := Option.some.inj H
 go_enter Tryd.func56, Tryd.ntmps56
 go_wp2_with (first | ((with_reducible refine gate_callee (f := 39) rfl ?_); refine gL_ 5 Tryd.func39 #[.agg #[.int .u64 0, .int .u64 0], .slice A0 l0.length c0] ?_; (with_reducible refine (sat_plus.calls k 0 0 _ _ l0 t161 t162 _ ?side1 ?side2 A2.out).mono ?_); (case side1 => repeat (first | exact HR0.out | (with_reducible refine Kd.C_alloc ?_ _) | (with_reducible refine Kd.C_drewN ?_ _) | (with_reducible refine Kd.C_drew ?_))); (case side2 => exact HC0.out); rintro e w4 ⟨rfl, hb⟩; refine ⟨_, rfl, ?_⟩; replace HB := aW (below_step o76 hb); (try clear hb); (try clear hb2); (try clear hk); (try clear hi)) | ((with_reducible refine gate_callee (f := 38) rfl ?_); refine gL_ 6 Tryd.func38 #[.agg #[.int .u64 t161, .int .u64 t162]] ?_; (with_reducible refine (sat_held.calls t161 t162 t163 _ A3.out).mono ?_); rintro e w5 ⟨rfl, hb⟩; refine ⟨_, rfl, ?_⟩; replace HB := aW (below_step o76 hb); (try clear hb); (try clear hb2); (try clear hk); (try clear hi)))
 go_ret
 exact ⟨o95, o77⟩
def trend_sums.l0 : Nat → List Int → List Int → (Nat × Nat) → Bool → Int → Int → Option (Int × Int)
 | 0, _, _, _, _, _, _ => none
 | k + 1, x0, x1, x6, x7, x10, x11 => if x11 < x10 then (if 0 ≤ x11 then (if x11 < (x0.length : Int) then (if x11 < (x1.length : Int) then (if (cSumBits .add .f64 x6.1 x6.2 (floatOfInt .f64 (rd x0 x11)) (floatOfInt .f64 (rd x1 x11))).isSome = true then (if x7 = true then ((sat_Abs.f (rd x0 x11)).bind fun t167 => (if t167 < 1099511627776 then ((sat_Abs.f (rd x1 x11)).bind fun t169 => (trend_sums.l0 k x0 x1 ((cSumBits .add .f64 x6.1 x6.2 (floatOfInt .f64 (rd x0 x11)) (floatOfInt .f64 (rd x1 x11))).getD (0, 0)) (decide (t169 < 1099511627776)) x10 (wrap64 (x11 + 1)))) else (trend_sums.l0 k x0 x1 ((cSumBits .add .f64 x6.1 x6.2 (floatOfInt .f64 (rd x0 x11)) (floatOfInt .f64 (rd x1 x11))).getD (0, 0)) false x10 (wrap64 (x11 + 1))))) else (trend_sums.l0 k x0 x1 ((cSumBits .add .f64 x6.1 x6.2 (floatOfInt .f64 (rd x0 x11)) (floatOfInt .f64 (rd x1 x11))).getD (0, 0)) false x10 (wrap64 (x11 + 1)))) else (none)) else (none)) else (none)) else (none)) else (if x7 = true then (if (floatToIntVal .f64 x6.1 .i64).isSome = true then (if (floatToIntVal .f64 x6.2 .i64).isSome = true then (some ((floatToIntVal .f64 x6.1 .i64).getD 0, (floatToIntVal .f64 x6.2 .i64).getD 0)) else (none)) else (none)) else ((sat_Sum.f k x0).bind fun t170 => ((sat_Sum.f k x1).bind fun t171 => (some (t170, t171)))))
def trend_sums.f (k : Nat) (l0 : List Int) (l1 : List Int) : Option (Int × Int) := trend_sums.l0 k l0 l1 (0, 0) true (l0.length : Int) 0
theorem trend_sums.mono_l : ∀ k, (∀ y0 y1 y2 y3 y4 y5, LeO (trend_sums.l0 k y0 y1 y2 y3 y4 y5) (trend_sums.l0 (k + 1) y0 y1 y2 y3 y4 y5))
 | 0 => fun _ _ _ _ _ _ r h => by simp [trend_sums.l0] at h
 | k + 1 => by
  have ih0 := trend_sums.mono_l k
  ·intro y0 y1 y2 y3 y4 y5
   unfold trend_sums.l0
   repeat' first
   | (with_reducible exact ih0 _ _ _ _ _ _)
   | (with_reducible exact sat_Sum.mono _ _)
   | (with_reducible exact LeO.refl _)
   | (with_reducible exact LeO.none _)
   | (with_reducible refine LeO.ite ?_ ?_)
   | (with_reducible refine LeO.bind ?_ (fun _ => ?_))
   | exact ih0 _ _ _ _ _ _
   | exact sat_Sum.mono _ _
   | exact LeO.none _
   | refine LeO.ite ?_ ?_
   | refine LeO.bind ?_ (fun _ => ?_)
theorem trend_sums.mono : ∀ a0 a1 k, LeO (trend_sums.f k a0 a1) (trend_sums.f (k + 1) a0 a1) := by
 intro a0 a1 k
 have ih0 := trend_sums.mono_l k
 unfold trend_sums.f
 repeat' first
   | (with_reducible exact ih0 _ _ _ _ _ _)
   | (with_reducible exact sat_Sum.mono _ _)
   | (with_reducible exact LeO.refl _)
   | (with_reducible exact LeO.none _)
   | (with_reducible refine LeO.ite ?_ ?_)
   | (with_reducible refine LeO.bind ?_ (fun _ => ?_))
   | exact ih0 _ _ _ _ _ _
   | exact sat_Sum.mono _ _
   | exact LeO.none _
   | refine LeO.ite ?_ ?_
   | refine LeO.bind ?_ (fun _ => ?_)
set_option maxHeartbeats 8000000 in
set_option maxRecDepth 100000 in
theorem trend_sums.calls (k : Nat) (A0 : Option Addr) (c0 : Nat) (l0 : List Int) (A1 : Option Addr) (c1 : Nat) (l1 : List Int) (r1 : Int) (r2 : Int) (w : World) (hr0 : Kd.C (Kd.int .i64) w A0 l0.length l0) (hc0 : l0.length ≤ c0) (hr1 : Kd.C (Kd.int .i64) w A1 l1.length l1) (hc1 : l1.length ≤ c1) (h : trend_sums.f k l0 l1 = some (r1, r2)) :
  Calls Tryd.prog 53 #[.slice A0 l0.length c0, .slice A1 l1.length c1] w fun e w' => e = .returned (.tuple #[.int .i64 r1, .int .i64 r2]) ∧ Below w.heap.size w w' := by
 have hu2 := Tryd.underlying2
 have hu127 := Tryd.underlying127
 have HR0 := aW hr0
 have HC0 := aW hc0
 clear hr0 hc0
 have HR1 := aW hr1
 have HC1 := aW hc1
 clear hr1 hc1
 have HB := aW (Below.refl w.heap.size w)
 have H : (trend_sums.l0 k l0 l1 (0, 0) true (l0.length : Int) 0) = some (r1, r2) := h
 clear h
 have H' := aW H
 clear H
 go_enter Tryd.func53, Tryd.ntmps53
 go_wp2
 repeat (go_quiet (fail); try go_wp2)
 go_loopg [6, 7, 11] k (fun kq v6 v7 v11 w' => ∃ (x6_1 : (Nat × Nat)) (x7_1 : Bool) (x11_1 : Int), v6 = .complex .f64 x6_1.1 x6_1.2 ∧ v7 = .bool x7_1 ∧ v11 = .int .i64 x11_1 ∧ Aside0 (trend_sums.l0 kq l0 l1 x6_1 x7_1 (l0.length : Int) x11_1 = some (r1, r2)) ∧ Aside0 (kq ≤ k) ∧ Aside0 (Below w.heap.size w w'))
 case atStart => exact ⟨((0, 0)), (true), (0), o105, o105, o105, H', ⟨Nat.le_refl _⟩, ⟨o77⟩⟩
 case round =>
  clear H'
  try clear c1
  try clear p2
  obtain ⟨x6_1, x7_1, x11_1, rfl, rfl, rfl, HA, HK1, HB⟩ := hrel
  cases gk with
  | zero => exact absurd HA.out (by simp [trend_sums.l0])
  | succ k1 =>
   have H := HA.out
   clear HA
   simp only [trend_sums.l0] at H
   by_cases c3 : x11_1 < (l0.length : Int)
   ·rw [if_pos c3] at H
    have c3b0 : decide (x11_1 < (l0.length : Int)) = true := decide_eq_true c3
    clear c3
    by_cases c4 : 0 ≤ x11_1
    ·rw [if_pos c4] at H
     have c4b0 : decide (0 ≤ x11_1) = true := decide_eq_true c4
     clear c4
     by_cases c5 : x11_1 < (l0.length : Int)
     ·rw [if_pos c5] at H
      have c5b0 : decide (x11_1 < (l0.length : Int)) = true := decide_eq_true c5
      clear c5
      by_cases c6 : x11_1 < (l1.length : Int)
      ·rw [if_pos c6] at H
       have c6b0 : decide (x11_1 < (l1.length : Int)) = true := decide_eq_true c6
       clear c6
       by_cases c7 : (cSumBits .add .f64 x6_1.1 x6_1.2 (floatOfInt .f64 (rd l0 x11_1)) (floatOfInt .f64 (rd l1 x11_1))).isSome = true
       ·rw [if_pos c7] at H
        have c7x : ∀ (t_ : TypeId) (W_ : World), (Go.binOp .add t_ (.complex .f64 x6_1.1 x6_1.2) (.complex .f64 (floatOfInt .f64 (rd l0 x11_1)) (floatOfInt .f64 (rd l1 x11_1)))).run Tryd.prog W_ = .ok (.complex .f64 ((cSumBits .add .f64 x6_1.1 x6_1.2 (floatOfInt .f64 (rd l0 x11_1)) (floatOfInt .f64 (rd l1 x11_1))).getD (0, 0)).1 ((cSumBits .add .f64 x6_1.1 x6_1.2 (floatOfInt .f64 (rd l0 x11_1)) (floatOfInt .f64 (rd l1 x11_1))).getD (0, 0)).2) W_ := fun t_ W_ => FInt.run_cadd c7 t_ W_
        have c7b0 := eq_true c7
        have c7b1 : decide ((cSumBits .add .f64 x6_1.1 x6_1.2 (floatOfInt .f64 (rd l0 x11_1)) (floatOfInt .f64 (rd l1 x11_1))).isSome = true) = true := decide_eq_true c7
        clear c7
        by_cases c8 : x7_1 = true
        ·subst c8
         have H1 : ((sat_Abs.f (rd l0 x11_1)).bind fun t167 => (if t167 < 1099511627776 then ((sat_Abs.f (rd l1 x11_1)).bind fun t169 => (trend_sums.l0 k1 l0 l1 ((cSumBits .add .f64 x6_1.1 x6_1.2 (floatOfInt .f64 (rd l0 x11_1)) (floatOfInt .f64 (rd l1 x11_1))).getD (0, 0)) (decide (t169 < 1099511627776)) (l0.length : Int) (wrap64 (x11_1 + 1)))) else (trend_sums.l0 k1 l0 l1 ((cSumBits .add .f64 x6_1.1 x6_1.2 (floatOfInt .f64 (rd l0 x11_1)) (floatOfInt .f64 (rd l1 x11_1))).getD (0, 0)) false (l0.length : Int) (wrap64 (x11_1 + 1))))) = some (r1, r2) := by rw [if_pos rfl] at H; exact H
         clear H
         have H := H1
         clear H1
         obtain ⟨t167, A9, H⟩ := bw H
         replace H : (if t167 < 1099511627776 then ((sat_Abs.f (rd l1 x11_1)).bind fun t169 => (trend_sums.l0 k1 l0 l1 ((cSumBits .add .f64 x6_1.1 x6_1.2 (floatOfInt .f64 (rd l0 x11_1)) (floatOfInt .f64 (rd l1 x11_1))).getD (0, 0)) (decide (t169 < 1099511627776)) (l0.length : Int) (wrap64 (x11_1 + 1)))) else (trend_sums.l0 k1 l0 l1 ((cSumBits .add .f64 x6_1.1 x6_1.2 (floatOfInt .f64 (rd l0 x11_1)) (floatOfInt .f64 (rd l1 x11_1))).getD (0, 0)) false (l0.length : Int) (wrap64 (x11_1 + 1)))) = some (r1, r2) := H
         by_cases c10 : t167 < 1099511627776
         ·rw [if_pos c10] at H
          have c10b0 : decide (t167 < 1099511627776) = true := decide_eq_true c10
          clear c10
          obtain ⟨t169, A11, H⟩ := bw H
          replace H : (trend_sums.l0 k1 l0 l1 ((cSumBits .add .f64 x6_1.1 x6_1.2 (floatOfInt .f64 (rd l0 x11_1)) (floatOfInt .f64 (rd l1 x11_1))).getD (0, 0)) (decide (t169 < 1099511627776)) (l0.length : Int) (wrap64 (x11_1 + 1))) = some (r1, r2) := H
          have H' := aW H
          clear H
          have p164 : 0 ≤ (x11_1 : Int) := of_decide_eq_true o104
          have q164 : x11_1 < (l0.length : Int) := of_decide_eq_true o104
          obtain ⟨ad164, e164, hx164_0⟩ := Kd.at_int HR0.out x11_1 p164 q164
          cases e164
          replace hx164_0 := (HB.out.cell (World.block_lt_of_cell? w _ hx164_0)).trans hx164_0
          replace p164 := eq_true p164
          replace q164 := eq_true q164
          have p165 : 0 ≤ (x11_1 : Int) := of_decide_eq_true o104
          have q165 : x11_1 < (l1.length : Int) := of_decide_eq_true o104
          obtain ⟨ad165, e165, hx165_0⟩ := Kd.at_int HR1.out x11_1 p165 q165
          cases e165
          replace hx165_0 := (HB.out.cell (World.block_lt_of_cell? w _ hx165_0)).trans hx165_0
          replace p165 := eq_true p165
          replace q165 := eq_true q165
          have p166 : 0 ≤ (x11_1 : Int) := of_decide_eq_true o104
          have q166 : x11_1 < (l0.length : Int) := of_decide_eq_true o104
          obtain ⟨ad166, e166, hx166_0⟩ := Kd.at_int HR0.out x11_1 p166 q166
          obtain rfl : ad164 = ad166 := (by injection e166)
          replace hx166_0 := (HB.out.cell (World.block_lt_of_cell? w _ hx166_0)).trans hx166_0
          replace p166 := eq_true p166
          replace q166 := eq_true q166
          go_wp2_with (first | (go_at_call 37; (with_reducible refine (sat_Abs.calls (rd l0 x11_1) t167 _ A9.out).mono ?_); rintro e w12 ⟨rfl, hb⟩; replace HB := aW (below_step o76 hb); (try clear hb); (try clear hb2); (try clear hk); (try clear hi); have p168 : 0 ≤ (x11_1 : Int) := of_decide_eq_true o104; have q168 : x11_1 < (l1.length : Int) := of_decide_eq_true o104; obtain ⟨ad168, e168, hx168_0⟩ := Kd.at_int HR1.out x11_1 p168 q168; obtain rfl : ad165 = ad168 := (by injection e168); replace hx168_0 := (HB.out.cell (World.block_lt_of_cell? w _ hx168_0)).trans hx168_0; replace p168 := eq_true p168; replace q168 := eq_true q168) | (go_at_call 37; (with_reducible refine (sat_Abs.calls (rd l1 x11_1) t169 _ A11.out).mono ?_); rintro e w13 ⟨rfl, hb⟩; replace HB := aW (below_step o76 hb); (try clear hb); (try clear hb2); (try clear hk); (try clear hi)))
          repeat (go_quiet (first | (go_at_call 37; (with_reducible refine (sat_Abs.calls (rd l0 x11_1) t167 _ A9.out).mono ?_); rintro e w12 ⟨rfl, hb⟩; replace HB := aW (below_step o76 hb); (try clear hb); (try clear hb2); (try clear hk); (try clear hi); have p168 : 0 ≤ (x11_1 : Int) := of_decide_eq_true o104; have q168 : x11_1 < (l1.length : Int) := of_decide_eq_true o104; obtain ⟨ad168, e168, hx168_0⟩ := Kd.at_int HR1.out x11_1 p168 q168; obtain rfl : ad165 = ad168 := (by injection e168); replace hx168_0 := (HB.out.cell (World.block_lt_of_cell? w _ hx168_0)).trans hx168_0; replace p168 := eq_true p168; replace q168 := eq_true q168) | (go_at_call 37; (with_reducible refine (sat_Abs.calls (rd l1 x11_1) t169 _ A11.out).mono ?_); rintro e w13 ⟨rfl, hb⟩; replace HB := aW (below_step o76 hb); (try clear hb); (try clear hb2); (try clear hk); (try clear hi))); try go_wp2_with (first | (go_at_call 37; (with_reducible refine (sat_Abs.calls (rd l0 x11_1) t167 _ A9.out).mono ?_); rintro e w12 ⟨rfl, hb⟩; replace HB := aW (below_step o76 hb); (try clear hb); (try clear hb2); (try clear hk); (try clear hi); have p168 : 0 ≤ (x11_1 : Int) := of_decide_eq_true o104; have q168 : x11_1 < (l1.length : Int) := of_decide_eq_true o104; obtain ⟨ad168, e168, hx168_0⟩ := Kd.at_int HR1.out x11_1 p168 q168; obtain rfl : ad165 = ad168 := (by injection e168); replace hx168_0 := (HB.out.cell (World.block_lt_of_cell? w _ hx168_0)).trans hx168_0; replace p168 := eq_true p168; replace q168 := eq_true q168) | (go_at_call 37; (with_reducible refine (sat_Abs.calls (rd l1 x11_1) t169 _ A11.out).mono ?_); rintro e w13 ⟨rfl, hb⟩; replace HB := aW (below_step o76 hb); (try clear hb); (try clear hb2); (try clear hk); (try clear hi))))
          go_roundg k1
          case measure => have := HK1.out; omega
          case rel => exact ⟨(((cSumBits .add .f64 x6_1.1 x6_1.2 (floatOfInt .f64 (rd l0 x11_1)) (floatOfInt .f64 (rd l1 x11_1))).getD (0, 0))), (decide (t169 < 1099511627776)), (wrap64 (x11_1 + 1)), o105, o105, o105, H', ⟨by have := HK1.out; omega⟩, ⟨o77⟩⟩
         ·rw [if_neg c10] at H
          have c10b0 : decide (t167 < 1099511627776) = false := decide_eq_false c10
          clear c10
          have H' := aW H
          clear H
          have p164 : 0 ≤ (x11_1 : Int) := of_decide_eq_true o104
          have q164 : x11_1 < (l0.length : Int) := of_decide_eq_true o104
          obtain ⟨ad164, e164, hx164_0⟩ := Kd.at_int HR0.out x11_1 p164 q164
          cases e164
          replace hx164_0 := (HB.out.cell (World.block_lt_of_cell? w _ hx164_0)).trans hx164_0
          replace p164 := eq_true p164
          replace q164 := eq_true q164
          have p165 : 0 ≤ (x11_1 : Int) := of_decide_eq_true o104
          have q165 : x11_1 < (l1.length : Int) := of_decide_eq_true o104
          obtain ⟨ad165, e165, hx165_0⟩ := Kd.at_int HR1.out x11_1 p165 q165
          cases e165
          replace hx165_0 := (HB.out.cell (World.block_lt_of_cell? w _ hx165_0)).trans hx165_0
          replace p165 := eq_true p165
          replace q165 := eq_true q165
          have p166 : 0 ≤ (x11_1 : Int) := of_decide_eq_true o104
          have q166 : x11_1 < (l0.length : Int) := of_decide_eq_true o104
          obtain ⟨ad166, e166, hx166_0⟩ := Kd.at_int HR0.out x11_1 p166 q166
          obtain rfl : ad164 = ad166 := (by injection e166)
          replace hx166_0 := (HB.out.cell (World.block_lt_of_cell? w _ hx166_0)).trans hx166_0
          replace p166 := eq_true p166
          replace q166 := eq_true q166
          go_wp2_with (first | (go_at_call 37; (with_reducible refine (sat_Abs.calls (rd l0 x11_1) t167 _ A9.out).mono ?_); rintro e w14 ⟨rfl, hb⟩; replace HB := aW (below_step o76 hb); (try clear hb); (try clear hb2); (try clear hk); (try clear hi)))
          repeat (go_quiet (first | (go_at_call 37; (with_reducible refine (sat_Abs.calls (rd l0 x11_1) t167 _ A9.out).mono ?_); rintro e w14 ⟨rfl, hb⟩; replace HB := aW (below_step o76 hb); (try clear hb); (try clear hb2); (try clear hk); (try clear hi))); try go_wp2_with (first | (go_at_call 37; (with_reducible refine (sat_Abs.calls (rd l0 x11_1) t167 _ A9.out).mono ?_); rintro e w14 ⟨rfl, hb⟩; replace HB := aW (below_step o76 hb); (try clear hb); (try clear hb2); (try clear hk); (try clear hi))))
          go_roundg k1
          case measure => have := HK1.out; omega
          case rel => exact ⟨(((cSumBits .add .f64 x6_1.1 x6_1.2 (floatOfInt .f64 (rd l0 x11_1)) (floatOfInt .f64 (rd l1 x11_1))).getD (0, 0))), (false), (wrap64 (x11_1 + 1)), o105, o105, o105, H', ⟨by have := HK1.out; omega⟩, ⟨o77⟩⟩
        ·replace c8 := Bool.eq_false_iff.mpr c8
         subst c8
         have H1 : (trend_sums.l0 k1 l0 l1 ((cSumBits .add .f64 x6_1.1 x6_1.2 (floatOfInt .f64 (rd l0 x11_1)) (floatOfInt .f64 (rd l1 x11_1))).getD (0, 0)) false (l0.length : Int) (wrap64 (x11_1 + 1))) = some (r1, r2) := by rw [if_neg (show ¬ (false = true) by decide)] at H; exact H
         clear H
         have H := H1
         clear H1
         have H' := aW H
         clear H
         have p164 : 0 ≤ (x11_1 : Int) := of_decide_eq_true o104
         have q164 : x11_1 < (l0.length : Int) := of_decide_eq_true o104
         obtain ⟨ad164, e164, hx164_0⟩ := Kd.at_int HR0.out x11_1 p164 q164
         cases e164
         replace hx164_0 := (HB.out.cell (World.block_lt_of_cell? w _ hx164_0)).trans hx164_0
         replace p164 := eq_true p164
         replace q164 := eq_true q164
         have p165 : 0 ≤ (x11_1 : Int) := of_decide_eq_true o104
         have q165 : x11_1 < (l1.length : Int) := of_decide_eq_true o104
         obtain ⟨ad165, e165, hx165_0⟩ := Kd.at_int HR1.out x11_1 p165 q165
         cases e165
         replace hx165_0 := (HB.out.cell (World.block_lt_of_cell? w _ hx165_0)).trans hx165_0
         replace p165 := eq_true p165
         replace q165 := eq_true q165
         go_wp2
         repeat (go_quiet (fail); try go_wp2)
         go_roundg k1
         case measure => have := HK1.out; omega
         case rel => exact ⟨(((cSumBits .add .f64 x6_1.1 x6_1.2 (floatOfInt .f64 (rd l0 x11_1)) (floatOfInt .f64 (rd l1 x11_1))).getD (0, 0))), (false), (wrap64 (x11_1 + 1)), o105, o105, o105, H', ⟨by have := HK1.out; omega⟩, ⟨o77⟩⟩
       ·rw [if_neg c7] at H
        exact absurd H (by simp)
      ·rw [if_neg c6] at H
       exact absurd H (by simp)
     ·rw [if_neg c5] at H
      exact absurd H (by simp)
    ·rw [if_neg c4] at H
     exact absurd H (by simp)
   ·rw [if_neg c3] at H
    have c3b0 : decide (x11_1 < (l0.length : Int)) = false := decide_eq_false c3
    clear c3
    by_cases c15 : x7_1 = true
    ·subst c15
     have H1 : (if (floatToIntVal .f64 x6_1.1 .i64).isSome = true then (if (floatToIntVal .f64 x6_1.2 .i64).isSome = true then (some ((floatToIntVal .f64 x6_1.1 .i64).getD 0, (floatToIntVal .f64 x6_1.2 .i64).getD 0)) else (none)) else (none)) = some (r1, r2) := by rw [if_pos rfl] at H; exact H
     clear H
     have H := H1
     clear H1
     by_cases c16 : (floatToIntVal .f64 x6_1.1 .i64).isSome = true
     ·rw [if_pos c16] at H
      have c16x0 : ∀ (W_ : World), (Go.convert 127 2 (.float .f64 x6_1.1)).run Tryd.prog W_ = .ok (.int .i64 ((floatToIntVal .f64 x6_1.1 .i64).getD 0)) W_ := fun W_ => FInt.run_f2i (by rw [Tryd.underlying127]; rfl) Tryd.underlying2 c16 W_
      have c16b0 := eq_true c16
      have c16b1 : decide ((floatToIntVal .f64 x6_1.1 .i64).isSome = true) = true := decide_eq_true c16
      clear c16
      by_cases c17 : (floatToIntVal .f64 x6_1.2 .i64).isSome = true
      ·rw [if_pos c17] at H
       have c17x0 : ∀ (W_ : World), (Go.convert 127 2 (.float .f64 x6_1.2)).run Tryd.prog W_ = .ok (.int .i64 ((floatToIntVal .f64 x6_1.2 .i64).getD 0)) W_ := fun W_ => FInt.run_f2i (by rw [Tryd.underlying127]; rfl) Tryd.underlying2 c17 W_
       have c17b0 := eq_true c17
       have c17b1 : decide ((floatToIntVal .f64 x6_1.2 .i64).isSome = true) = true := decide_eq_true c17
       clear c17
       simp only [Option.some.injEq, Prod.mk.injEq] at H
       obtain ⟨rfl, rfl⟩ := H
       go_wp2
       repeat (go_quiet (fail); try go_wp2)
       go_ret2
       exact ⟨o95, o77⟩
      ·rw [if_neg c17] at H
       exact absurd H (by simp)
     ·rw [if_neg c16] at H
      exact absurd H (by simp)
    ·replace c15 := Bool.eq_false_iff.mpr c15
     subst c15
     have H1 : ((sat_Sum.f k1 l0).bind fun t170 => ((sat_Sum.f k1 l1).bind fun t171 => (some (t170, t171)))) = some (r1, r2) := by rw [if_neg (show ¬ (false = true) by decide)] at H; exact H
     clear H
     have H := H1
     clear H1
     obtain ⟨t170, A18, H⟩ := bw H
     replace H : ((sat_Sum.f k1 l1).bind fun t171 => (some (t170, t171))) = some (r1, r2) := H
     obtain ⟨t171, A19, H⟩ := bw H
     simp only [Option.some.injEq, Prod.mk.injEq] at H
     obtain ⟨rfl, rfl⟩ := H
     go_wp2_with (first | (go_at_call 56; (with_reducible refine (sat_Sum.calls k1 _ _ l0 t170 _ ?side1 ?side2 A18.out).mono ?_); (case side1 => exact o53); (case side2 => exact HC0.out); rintro e w20 ⟨rfl, hb⟩; replace HB := aW (below_step o76 hb); (try clear hb); (try clear hb2); (try clear hk); (try clear hi)) | (go_at_call 56; (with_reducible refine (sat_Sum.calls k1 _ _ l1 t171 _ ?side1 ?side2 A19.out).mono ?_); (case side1 => exact o52); (case side2 => exact HC1.out); rintro e w21 ⟨rfl, hb⟩; replace HB := aW (below_step o76 hb); (try clear hb); (try clear hb2); (try clear hk); (try clear hi)))
     repeat (go_quiet (first | (go_at_call 56; (with_reducible refine (sat_Sum.calls k1 _ _ l0 t170 _ ?side1 ?side2 A18.out).mono ?_); (case side1 => exact o53); (case side2 => exact HC0.out); rintro e w20 ⟨rfl, hb⟩; replace HB := aW (below_step o76 hb); (try clear hb); (try clear hb2); (try clear hk); (try clear hi)) | (go_at_call 56; (with_reducible refine (sat_Sum.calls k1 _ _ l1 t171 _ ?side1 ?side2 A19.out).mono ?_); (case side1 => exact o52); (case side2 => exact HC1.out); rintro e w21 ⟨rfl, hb⟩; replace HB := aW (below_step o76 hb); (try clear hb); (try clear hb2); (try clear hk); (try clear hi))); try go_wp2_with (first | (go_at_call 56; (with_reducible refine (sat_Sum.calls k1 _ _ l0 t170 _ ?side1 ?side2 A18.out).mono ?_); (case side1 => exact o53); (case side2 => exact HC0.out); rintro e w20 ⟨rfl, hb⟩; replace HB := aW (below_step o76 hb); (try clear hb); (try clear hb2); (try clear hk); (try clear hi)) | (go_at_call 56; (with_reducible refine (sat_Sum.calls k1 _ _ l1 t171 _ ?side1 ?side2 A19.out).mono ?_); (case side1 => exact o52); (case side2 => exact HC1.out); rintro e w21 ⟨rfl, hb⟩; replace HB := aW (below_step o76 hb); (try clear hb); (try clear hb2); (try clear hk); (try clear hi))))
     go_ret2
     exact ⟨o95, o77⟩
def trend_off.l0 : Nat → List Int → Int → List Int → List Int → Int → Int → Option (List Int)
 | 0, _, _, _, _, _, _ => none
 | k + 1, x0, x1, x5, x8, x9, x10 => if x10 < x9 then (if 0 ≤ x10 then (if x10 < (x8.length : Int) then ((sat_Mul.f (x0.length : Int) (rd x8 x10)).bind fun t173 => ((sat_Sub.f k t173 x1).bind fun t174 => (if x5.length < 17592186044416 then (trend_off.l0 k x0 x1 (x5 ++ [t174]) x8 x9 (wrap64 (x10 + 1))) else (none)))) else (none)) else (none)) else (some x5)
def trend_off.f (k : Nat) (l0 : List Int) (a1 : Int) : Option (List Int) := trend_off.l0 k l0 a1 ([] : List Int) l0 (l0.length : Int) 0
theorem trend_off.mono_l : ∀ k, (∀ y0 y1 y2 y3 y4 y5, LeO (trend_off.l0 k y0 y1 y2 y3 y4 y5) (trend_off.l0 (k + 1) y0 y1 y2 y3 y4 y5))
 | 0 => fun _ _ _ _ _ _ r h => by simp [trend_off.l0] at h
 | k + 1 => by
  have ih0 := trend_off.mono_l k
  ·intro y0 y1 y2 y3 y4 y5
   unfold trend_off.l0
   repeat' first
   | (with_reducible exact ih0 _ _ _ _ _ _)
   | (with_reducible exact sat_Sub.mono _ _ _)
   | (with_reducible exact LeO.refl _)
   | (with_reducible exact LeO.none _)
   | (with_reducible refine LeO.ite ?_ ?_)
   | (with_reducible refine LeO.bind ?_ (fun _ => ?_))
   | exact ih0 _ _ _ _ _ _
   | exact sat_Sub.mono _ _ _
   | exact LeO.none _
   | refine LeO.ite ?_ ?_
   | refine LeO.bind ?_ (fun _ => ?_)
theorem trend_off.mono : ∀ a0 a1 k, LeO (trend_off.f k a0 a1) (trend_off.f (k + 1) a0 a1) := by
 intro a0 a1 k
 have ih0 := trend_off.mono_l k
 unfold trend_off.f
 repeat' first
   | (with_reducible exact ih0 _ _ _ _ _ _)
   | (with_reducible exact sat_Sub.mono _ _ _)
   | (with_reducible exact LeO.refl _)
   | (with_reducible exact LeO.none _)
   | (with_reducible refine LeO.ite ?_ ?_)
   | (with_reducible refine LeO.bind ?_ (fun _ => ?_))
   | exact ih0 _ _ _ _ _ _
   | exact sat_Sub.mono _ _ _
   | exact LeO.none _
   | refine LeO.ite ?_ ?_
   | refine LeO.bind ?_ (fun _ => ?_)
set_option maxHeartbeats 8000000 in
set_option maxRecDepth 100000 in
theorem trend_off.calls (k : Nat) (A0 : Option Addr) (c0 : Nat) (l0 : List Int) (a1 : Int) (r : List Int) (w : World) (hr0 : Kd.C (Kd.int .i64) w A0 l0.length l0) (hc0 : l0.length ≤ c0) (h : trend_off.f k l0 a1 = some r) :
  Calls Tryd.prog 54 #[.slice A0 l0.length c0, .int .i64 a1] w fun e w' => ∃ v0_ : Value, e = .returned (v0_) ∧ Kd.R (Kd.int .i64) 2 w' w.heap.size (fun _ => True) v0_ r ∧ Below w.heap.size w w' := by
 have HR0 := aW hr0
 have HC0 := aW hc0
 clear hr0 hc0
 have HB := aW (Below.refl w.heap.size w)
 have H : (trend_off.l0 k l0 a1 ([] : List Int) l0 (l0.length : Int) 0) = some r := h
 clear h
 have H' := aW H
 clear H
 go_enter Tryd.func54, Tryd.ntmps54
 go_wp2
 go_loopg [5, 10] k (fun kq v5 v10 w' => ∃ (x5_1 : List Int) (x10_1 : Int), v10 = .int .i64 x10_1 ∧ Aside0 (trend_off.l0 kq l0 a1 x5_1 l0 (l0.length : Int) x10_1 = some r) ∧ Aside0 (kq ≤ k) ∧ Aside0 (Kd.R (Kd.int .i64) 2 w' w.heap.size (fun _ => True) v5 x5_1) ∧ Aside0 (Below w.heap.size w w'))
 case atStart => exact ⟨(([] : List Int)), (0), o105, H', ⟨Nat.le_refl _⟩, ⟨o73⟩, ⟨o77⟩⟩
 case round =>
  clear H'
  try clear p2
  obtain ⟨x5_1, x10_1, rfl, HA, HK1, HO_5, HB⟩ := hrel
  cases gk with
  | zero => exact absurd HA.out (by simp [trend_off.l0])
  | succ k1 =>
   have H := HA.out
   clear HA
   simp only [trend_off.l0] at H
   by_cases c3 : x10_1 < (l0.length : Int)
   ·rw [if_pos c3] at H
    have c3b0 : decide (x10_1 < (l0.length : Int)) = true := decide_eq_true c3
    clear c3
    by_cases c4 : 0 ≤ x10_1
    ·rw [if_pos c4] at H
     have c4b0 : decide (0 ≤ x10_1) = true := decide_eq_true c4
     clear c4
     by_cases c5 : x10_1 < (l0.length : Int)
     ·rw [if_pos c5] at H
      have c5b0 : decide (x10_1 < (l0.length : Int)) = true := decide_eq_true c5
      clear c5
      obtain ⟨t173, A6, H⟩ := bw H
      replace H : ((sat_Sub.f k1 t173 a1).bind fun t174 => (if x5_1.length < 17592186044416 then (trend_off.l0 k1 l0 a1 (x5_1 ++ [t174]) l0 (l0.length : Int) (wrap64 (x10_1 + 1))) else (none))) = some r := H
      obtain ⟨t174, A7, H⟩ := bw H
      by_cases c8 : x5_1.length < 17592186044416
      ·rw [if_pos c8] at H
       have LMc8 := aW c8
       clear c8
       obtain ⟨y175, hy175⟩ : ∃ y_ : List Int, y_ = (x5_1 ++ [t174]) := ⟨_, rfl⟩
       replace H : (trend_off.l0 k1 l0 a1 y175 l0 (l0.length : Int) (wrap64 (x10_1 + 1))) = some r := by first | (rw [hy175]; with_reducible exact H) | (have H2_ := (Option.bind_some _ _).symm.trans H; rw [hy175]; with_reducible exact H2_) | (have H2_ := (Option.bind_some _ _).symm.trans H; with_reducible exact H2_) | with_reducible exact H | (rw [hy175]; exact H) | exact H
       have Ny175 := aW hy175
       clear hy175
       have H' := aW H
       clear H
       have p172 : 0 ≤ (x10_1 : Int) := of_decide_eq_true o104
       have q172 : x10_1 < (l0.length : Int) := of_decide_eq_true o104
       obtain ⟨ad172, e172, hx172_0⟩ := Kd.at_int HR0.out x10_1 p172 q172
       cases e172
       replace hx172_0 := (HB.out.cell (World.block_lt_of_cell? w _ hx172_0)).trans hx172_0
       replace p172 := eq_true p172
       replace q172 := eq_true q172
       go_wp2_with (first | ((with_reducible refine gate_callee (f := 35) rfl ?_); refine gL_ 18 Tryd.func35 #[.int .i64 (l0.length : Int), .int .i64 (rd l0 x10_1)] ?_; (with_reducible refine (sat_Mul.calls (l0.length : Int) (rd l0 x10_1) t173 _ A6.out).mono ?_); rintro e w9 ⟨rfl, hb⟩; refine ⟨_, rfl, ?_⟩; replace HB := aW (below_step o76 hb); replace HO_5 := aW (Kd.R_below o90 hb); (try clear hb); (try clear hb2); (try clear hk); (try clear hi)) | ((with_reducible refine gate_callee (f := 24) rfl ?_); refine gL_ 20 Tryd.func24 #[.int .i64 t173, .int .i64 a1] ?_; (with_reducible refine (sat_Sub.calls k1 t173 a1 t174 _ A7.out).mono ?_); rintro e w10 ⟨rfl, hb⟩; refine ⟨_, rfl, ?_⟩; replace HB := aW (below_step o76 hb); replace HO_5 := aW (Kd.R_below o90 hb); (try clear hb); (try clear hb2); (try clear hk); (try clear hi)) | ((with_reducible refine gate_builtin (b := .append) (xs := #[.tmp 14, .tmp 21]) rfl ?_); at_builtin; refine Kd.R_append (Kd.int .i64) (w0 := w) w.heap.size rfl (.tmp 14) (.tmp 21) 86 2 (.int .i64 0) 8 rfl Tryd.underlying86 info2 rfl (by decide) (by omega) u5 x5_1 t174 [.int .i64 t174] (fun _ => True) (fun _ => False) rfl rfl ?aP (fun _ hk => hk.elim) ?aF ?aO ?aB ?aS ?aL ?_; (case aP => exact rfl); (case aB => exact o76); (case aF => exact (fun _ _ => trivial)); (case aO => exact o90); (case aS => exact (below_size o76)); (case aL => have := LMc8.out; omega); intro v176 w11 ho hb hg hat; rw [← Ny175.out] at ho; have HO177 := aW (ho); replace HB := aW (hb); clear HO_5; clear ho hb hg hat))
       go_roundg k1
       case measure => have := HK1.out; omega
       case rel => exact ⟨(y175), (wrap64 (x10_1 + 1)), o105, H', ⟨by have := HK1.out; omega⟩, ⟨by (with_reducible repeat (first | apply Kd.R_alloc | apply Kd.R_drewN | apply Kd.R_drew)); exact HO177.out⟩, ⟨o77⟩⟩
      ·rw [if_neg c8] at H
       exact absurd H (by simp)
     ·rw [if_neg c5] at H
      exact absurd H (by simp)
    ·rw [if_neg c4] at H
     exact absurd H (by simp)
   ·rw [if_neg c3] at H
    have c3b0 : decide (x10_1 < (l0.length : Int)) = false := decide_eq_false c3
    clear c3
    obtain rfl := Option.some.inj H
    go_wp2
    go_ret
    exact ⟨_, o95, by (with_reducible repeat (first | apply Kd.R_alloc | apply Kd.R_drewN | apply Kd.R_drew)); exact HO_5.out, o77⟩
def fixed_Div.f (a0 : Int) (a1 : Int) : Option (Int) := (muldiv_Do.f a0 4294967296 a1 2).bind fun t178 => (some t178)
set_option maxHeartbeats 8000000 in
set_option maxRecDepth 100000 in
theorem fixed_Div.calls (a0 : Int) (a1 : Int) (r : Int) (w : World) (h : fixed_Div.f a0 a1 = some r) :
  Calls Tryd.prog 55 #[.int .i64 a0, .int .i64 a1] w fun e w' => e = .returned (.int .i64 r) ∧ Below w.heap.size w w' := by
 have HB := aW (Below.refl w.heap.size w)
 have H : ((muldiv_Do.f a0 4294967296 a1 2).bind fun t178 => (some t178)) = some r := h
 clear h
 obtain ⟨t178, A3, H⟩ := bw H
 obtain rfl := Option.some.inj H
 go_enter Tryd.func55, Tryd.ntmps55
 go_wp2_with (first | ((with_reducible refine gate_callee (f := 44) rfl ?_); refine gL_ 7 Tryd.func44 #[.int .i64 a0, .int .i64 4294967296, .int .i64 a1, .int .i64 2] ?_; (with_reducible refine (muldiv_Do.calls a0 4294967296 a1 2 t178 _ A3.out).mono ?_); rintro e w4 ⟨rfl, hb⟩; refine ⟨_, rfl, ?_⟩; replace HB := aW (below_step o76 hb); (try clear hb); (try clear hb2); (try clear hk); (try clear hi)))
 go_ret
 exact ⟨o95, o77⟩
end Go.Proofs.YtphgeljglhjamaaDoor.P
end

section
namespace Go.Proofs.YtphgeljglhjamaaDoor.P
open Go.RowKit Go.Proofs.YtphgeljglhjamaaDoorW.PrintWords Go.Proofs.YtphgeljglhjamaaDoorW.PrintLast Go.Proofs.YtphgeljglhjamaaDoorW.PrintMore
attribute [local go_sem] max2_int min2_int max_two min_two max_three min_three max_four min_four
set_option linter.unusedVariables false
set_option linter.unusedSimpArgs false
def trend_Line.l0 : Nat → List Int → List Int → List Int → List Int → Int → Int → Option (Int)
 | 0, _, _, _, _, _, _ => none
 | k + 1, x0, x1, x8, x9, x45, x46 => if x46 < x45 then (if 0 ≤ x46 then (if x46 < (x0.length : Int) then (if x46 < (x1.length : Int) then ((sat_Mul.f (rd x0 x46) (rd x1 x46)).bind fun t199 => (if x8.length < 17592186044416 then ((sat_Mul.f (rd x0 x46) (rd x0 x46)).bind fun t205 => (if x9.length < 17592186044416 then (trend_Line.l0 k x0 x1 (x8 ++ [t199]) (x9 ++ [t205]) x45 (wrap64 (x46 + 1))) else (none))) else (none))) else (none)) else (none)) else (none)) else ((sat_Sum.f k x8).bind fun t209 => ((sat_Sum.f k x9).bind fun t210 => ((fixed_Div.f t209 t210).bind fun t211 => (some t211))))
def trend_Line.f (k : Nat) (l0 : List Int) (l1 : List Int) : Option (Int) := if (mn (mn (l0.length : Int) (l1.length : Int)) 64) < 2 then (some 0) else (if 0 ≤ (mn (mn (l0.length : Int) (l1.length : Int)) 64) then (if (mn (mn (l0.length : Int) (l1.length : Int)) 64) ≤ (l0.length : Int) then (if 0 < (l0.length : Int) then ((trend_less.f k (l0.take ((mn (mn (l0.length : Int) (l1.length : Int)) 64) : Int).toNat) (rd l0 0)).bind fun t181 => (if (mn (mn (l0.length : Int) (l1.length : Int)) 64) ≤ (l1.length : Int) then (if 0 < (l1.length : Int) then ((trend_less.f k (l1.take ((mn (mn (l0.length : Int) (l1.length : Int)) 64) : Int).toNat) (rd l1 0)).bind fun t186 => ((trend_sums.f k t181 t186).bind fun bt189 => ((trend_off.f k t181 bt189.1).bind fun t191 => ((trend_off.f k t186 bt189.2).bind fun t194 => (trend_Line.l0 k t191 t194 ([] : List Int) ([] : List Int) (t191.length : Int) 0))))) else (none)) else (none))) else (none)) else (none)) else (none))
theorem trend_Line.mono_l : ∀ k, (∀ y0 y1 y2 y3 y4 y5, LeO (trend_Line.l0 k y0 y1 y2 y3 y4 y5) (trend_Line.l0 (k + 1) y0 y1 y2 y3 y4 y5))
 | 0 => fun _ _ _ _ _ _ r h => by simp [trend_Line.l0] at h
 | k + 1 => by
  have ih0 := trend_Line.mono_l k
  ·intro y0 y1 y2 y3 y4 y5
   unfold trend_Line.l0
   repeat' first
   | (with_reducible exact ih0 _ _ _ _ _ _)
   | (with_reducible exact sat_Sum.mono _ _)
   | (with_reducible exact trend_less.mono _ _ _)
   | (with_reducible exact trend_off.mono _ _ _)
   | (with_reducible exact trend_sums.mono _ _ _)
   | (with_reducible exact LeO.refl _)
   | (with_reducible exact LeO.none _)
   | (with_reducible refine LeO.ite ?_ ?_)
   | (with_reducible refine LeO.bind ?_ (fun _ => ?_))
   | exact ih0 _ _ _ _ _ _
   | exact sat_Sum.mono _ _
   | exact trend_less.mono _ _ _
   | exact trend_off.mono _ _ _
   | exact trend_sums.mono _ _ _
   | exact LeO.none _
   | refine LeO.ite ?_ ?_
   | refine LeO.bind ?_ (fun _ => ?_)
theorem trend_Line.mono : ∀ a0 a1 k, LeO (trend_Line.f k a0 a1) (trend_Line.f (k + 1) a0 a1) := by
 intro a0 a1 k
 have ih0 := trend_Line.mono_l k
 unfold trend_Line.f
 repeat' first
   | (with_reducible exact ih0 _ _ _ _ _ _)
   | (with_reducible exact sat_Sum.mono _ _)
   | (with_reducible exact trend_less.mono _ _ _)
   | (with_reducible exact trend_off.mono _ _ _)
   | (with_reducible exact trend_sums.mono _ _ _)
   | (with_reducible exact LeO.refl _)
   | (with_reducible exact LeO.none _)
   | (with_reducible refine LeO.ite ?_ ?_)
   | (with_reducible refine LeO.bind ?_ (fun _ => ?_))
   | exact ih0 _ _ _ _ _ _
   | exact sat_Sum.mono _ _
   | exact trend_less.mono _ _ _
   | exact trend_off.mono _ _ _
   | exact trend_sums.mono _ _ _
   | exact LeO.none _
   | refine LeO.ite ?_ ?_
   | refine LeO.bind ?_ (fun _ => ?_)
def trend_Line.T4 : Bool × List (List Nat × List Nat) := (true, [([], []), ([], []), ([0, 1], [0, 1]), ([], []), ([3], [3]), ([4], [4]), ([2, 5], [2, 5]), ([], []), ([], []), ([7, 8], [7, 8]), ([], []), ([10], [10]), ([11], [11]), ([9, 12, 6], [9, 12]), ([6, 13, 0, 1, 2, 3, 4, 5, 6], [0, 3, 6]), ([13, 14, 0, 1, 2, 3, 4, 5, 6, 7, 8, 9, 10, 11, 12, 13, 14], [7, 10, 13])])
def trend_Line.B4 : List Nat := [0, 0, 3, 0, 8, 24, 63, 0, 0, 384, 0, 1024, 3072, 8191, 16383, 32767]
theorem trend_Line.tab4 : rtab .any (opsOf Tryd.f46 4) = trend_Line.T4 := by kernel_rfl
theorem trend_Line.bits4 : waitsOk trend_Line.T4.2 trend_Line.B4 = true := by kernel_rfl
def trend_Line.T11 : Bool × List (List Nat × List Nat) := (true, [([], []), ([], []), ([], []), ([1, 2], [1, 2]), ([3], [3]), ([], []), ([], []), ([5, 6], [5, 6]), ([7], [7]), ([4, 8], [4, 8]), ([9], [9]), ([0, 10, 9], [0, 10]), ([11, 11, 0, 1, 2, 3, 4, 5, 6, 7, 8, 9, 10, 11], [0, 11])])
def trend_Line.B11 : List Nat := [0, 0, 0, 6, 14, 0, 0, 96, 224, 510, 1022, 2047, 4095]
theorem trend_Line.tab11 : rtab .any (opsOf Tryd.f46 11) = trend_Line.T11 := by kernel_rfl
theorem trend_Line.bits11 : waitsOk trend_Line.T11.2 trend_Line.B11 = true := by kernel_rfl
def trend_Line.T12 : Bool × List (List Nat × List Nat) := (true, [([], []), ([], []), ([], []), ([1, 2], [1, 2]), ([3], [3]), ([], []), ([], []), ([5, 6], [5, 6]), ([7], [7]), ([4, 8], [4, 8]), ([9], [9]), ([0, 10, 9], [0, 10]), ([11, 11, 0, 1, 2, 3, 4, 5, 6, 7, 8, 9, 10, 11], [0, 11])])
def trend_Line.B12 : List Nat := [0, 0, 0, 6, 14, 0, 0, 96, 224, 510, 1022, 2047, 4095]
theorem trend_Line.tab12 : rtab .any (opsOf Tryd.f46 12) = trend_Line.T12 := by kernel_rfl
theorem trend_Line.bits12 : waitsOk trend_Line.T12.2 trend_Line.B12 = true := by kernel_rfl
set_option maxHeartbeats 8000000 in
set_option maxRecDepth 100000 in
theorem trend_Line.calls (k : Nat) (A0 : Option Addr) (c0 : Nat) (l0 : List Int) (A1 : Option Addr) (c1 : Nat) (l1 : List Int) (r : Int) (w : World) (hr0 : Kd.C (Kd.int .i64) w A0 l0.length l0) (hc0 : l0.length ≤ c0) (hr1 : Kd.C (Kd.int .i64) w A1 l1.length l1) (hc1 : l1.length ≤ c1) (h : trend_Line.f k l0 l1 = some r) :
  Calls Tryd.prog 46 #[.slice A0 l0.length c0, .slice A1 l1.length c1] w fun e w' => e = .returned (.int .i64 r) ∧ Below w.heap.size w w' := by
 have HR0 := aW hr0
 have HC0 := aW hc0
 clear hr0 hc0
 have HR1 := aW hr1
 have HC1 := aW hc1
 clear hr1 hc1
 have HB := aW (Below.refl w.heap.size w)
 have H : (if (mn (mn (l0.length : Int) (l1.length : Int)) 64) < 2 then (some 0) else (if 0 ≤ (mn (mn (l0.length : Int) (l1.length : Int)) 64) then (if (mn (mn (l0.length : Int) (l1.length : Int)) 64) ≤ (l0.length : Int) then (if 0 < (l0.length : Int) then ((trend_less.f k (l0.take ((mn (mn (l0.length : Int) (l1.length : Int)) 64) : Int).toNat) (rd l0 0)).bind fun t181 => (if (mn (mn (l0.length : Int) (l1.length : Int)) 64) ≤ (l1.length : Int) then (if 0 < (l1.length : Int) then ((trend_less.f k (l1.take ((mn (mn (l0.length : Int) (l1.length : Int)) 64) : Int).toNat) (rd l1 0)).bind fun t186 => ((trend_sums.f k t181 t186).bind fun bt189 => ((trend_off.f k t181 bt189.1).bind fun t191 => ((trend_off.f k t186 bt189.2).bind fun t194 => (trend_Line.l0 k t191 t194 ([] : List Int) ([] : List Int) (t191.length : Int) 0))))) else (none)) else (none))) else (none)) else (none)) else (none))) = some r := h
 clear h
 obtain ⟨ji3, hji3⟩ : ∃ j_ : Int, (mn (l0.length : Int) (l1.length : Int)) = j_ := ⟨_, rfl⟩
 replace H : (if (mn (ji3) 64) < 2 then (some 0) else (if 0 ≤ (mn (ji3) 64) then (if (mn (ji3) 64) ≤ (l0.length : Int) then (if 0 < (l0.length : Int) then ((trend_less.f k (l0.take ((mn (ji3) 64) : Int).toNat) (rd l0 0)).bind fun t181 => (if (mn (ji3) 64) ≤ (l1.length : Int) then (if 0 < (l1.length : Int) then ((trend_less.f k (l1.take ((mn (ji3) 64) : Int).toNat) (rd l1 0)).bind fun t186 => ((trend_sums.f k t181 t186).bind fun bt189 => ((trend_off.f k t181 bt189.1).bind fun t191 => ((trend_off.f k t186 bt189.2).bind fun t194 => (trend_Line.l0 k t191 t194 ([] : List Int) ([] : List Int) (t191.length : Int) 0))))) else (none)) else (none))) else (none)) else (none)) else (none))) = some r := by first | (rw [hji3] at H; exact H) | (simp only [hji3] at H ⊢; exact H)
 (try (have hji3l : 0 ≤ ji3 := by (rw [← hji3]; unfold mn; (repeat' split) <;> omega)))
 (try (have hji3m : 0 ≤ ji3 := by omega))
 have hji3_ : (if (l1.length : Int) < (l0.length : Int) then (l1.length : Int) else (l0.length : Int)) = ji3 := hji3
 have hji3n_ : (if l1.length < l0.length then (l1.length : Int) else (l0.length : Int)) = ji3 := by rw [← hji3_]; simp only [Int.ofNat_lt]
 obtain ⟨ji4, hji4⟩ : ∃ j_ : Int, (mn (ji3) 64) = j_ := ⟨_, rfl⟩
 replace H : (if (ji4) < 2 then (some 0) else (if 0 ≤ (ji4) then (if (ji4) ≤ (l0.length : Int) then (if 0 < (l0.length : Int) then ((trend_less.f k (l0.take ((ji4) : Int).toNat) (rd l0 0)).bind fun t181 => (if (ji4) ≤ (l1.length : Int) then (if 0 < (l1.length : Int) then ((trend_less.f k (l1.take ((ji4) : Int).toNat) (rd l1 0)).bind fun t186 => ((trend_sums.f k t181 t186).bind fun bt189 => ((trend_off.f k t181 bt189.1).bind fun t191 => ((trend_off.f k t186 bt189.2).bind fun t194 => (trend_Line.l0 k t191 t194 ([] : List Int) ([] : List Int) (t191.length : Int) 0))))) else (none)) else (none))) else (none)) else (none)) else (none))) = some r := by first | (rw [hji4] at H; exact H) | (simp only [hji4] at H ⊢; exact H)
 have hji4_ : (if 64 < (ji3) then 64 else (ji3)) = ji4 := hji4
 by_cases c5 : (ji4) < 2
 ·rw [if_pos c5] at H
  have c5b0 : decide ((ji4) < 2) = true := decide_eq_true c5
  clear c5
  obtain rfl := Option.some.inj H
  go_enter Tryd.func46, Tryd.ntmps46
  go_wp2
  go_ret
  exact ⟨by first | rfl | (simp [errW_none, errW_some] <;> rfl) | (simp only [← hji3, ← hji4]; first | rfl | (simp [errW_none, errW_some] <;> rfl)) | (simp [*, errW_none, errW_some] <;> rfl), o77⟩
 ·rw [if_neg c5] at H
  have c5b0 : decide ((ji4) < 2) = false := decide_eq_false c5
  clear c5
  by_cases c6 : 0 ≤ (ji4)
  ·rw [if_pos c6] at H
   have c6b0 := eq_true c6
   have c6b1 : decide (0 ≤ (ji4)) = true := decide_eq_true c6
   clear c6
   by_cases c7 : (ji4) ≤ (l0.length : Int)
   ·rw [if_pos c7] at H
    have c7b0 := eq_true c7
    have c7b1 : decide ((ji4) ≤ (l0.length : Int)) = true := decide_eq_true c7
    clear c7
    by_cases c8 : 0 < (l0.length : Int)
    ·rw [if_pos c8] at H
     have c8b0 : decide (0 < (l0.length : Int)) = true := decide_eq_true c8
     have c8b1 : decide (0 < l0.length) = true := decide_eq_true (by omega)
     clear c8
     obtain ⟨t181, A9, H⟩ := bw H
     replace H : (if (ji4) ≤ (l1.length : Int) then (if 0 < (l1.length : Int) then ((trend_less.f k (l1.take ((ji4) : Int).toNat) (rd l1 0)).bind fun t186 => ((trend_sums.f k t181 t186).bind fun bt189 => ((trend_off.f k t181 bt189.1).bind fun t191 => ((trend_off.f k t186 bt189.2).bind fun t194 => (trend_Line.l0 k t191 t194 ([] : List Int) ([] : List Int) (t191.length : Int) 0))))) else (none)) else (none)) = some r := H
     have c10b0 := eq_true (of_decide_eq_true o104 : 0 ≤ (ji4))
     by_cases c11 : (ji4) ≤ (l1.length : Int)
     ·rw [if_pos c11] at H
      have c11b0 := eq_true c11
      have c11b1 : decide ((ji4) ≤ (l1.length : Int)) = true := decide_eq_true c11
      clear c11
      by_cases c12 : 0 < (l1.length : Int)
      ·rw [if_pos c12] at H
       have c12b0 : decide (0 < (l1.length : Int)) = true := decide_eq_true c12
       have c12b1 : decide (0 < l1.length) = true := decide_eq_true (by omega)
       clear c12
       obtain ⟨t186, A13, H⟩ := bw H
       replace H : ((trend_sums.f k t181 t186).bind fun bt189 => ((trend_off.f k t181 bt189.1).bind fun t191 => ((trend_off.f k t186 bt189.2).bind fun t194 => (trend_Line.l0 k t191 t194 ([] : List Int) ([] : List Int) (t191.length : Int) 0)))) = some r := H
       replace H := Option.bind_eq_some_iff.mp H
       obtain ⟨⟨t189, t190⟩, A140, H⟩ := H
       replace H : ((trend_off.f k t181 t189).bind fun t191 => ((trend_off.f k t186 t190).bind fun t194 => (trend_Line.l0 k t191 t194 ([] : List Int) ([] : List Int) (t191.length : Int) 0))) = some r := H
       have A14 := aW A140
       clear A140
       obtain ⟨t191, A15, H⟩ := bw H
       obtain ⟨t194, A16, H⟩ := bw H
       have H' := aW H
       clear H
       go_enter Tryd.func46, Tryd.ntmps46
       try go_wp2
       replace HB := aW (below_drew1 HB.out)
       obtain ⟨i018, hi018, _, hsz18, _⟩ := info_parts info2
       obtain ⟨hcut18, hA18, hC18⟩ := print_take_of (P := Tryd.prog) (Value.int .i64) 0 86 2 .i64 Tryd.underlying86 hi018 hsz18 A0 c0 l0 (ji4) (of_decide_eq_true o104) (of_decide_eq_true o104) HC0.out
       have HR179 := aW (Kd.C_of_reads (h1 := fun _ => rfl) (hA18 _ (Kd.reads_of_C HR0.out)))
       have HC179 := aW hC18
       clear hA18 hC18 hi018 hsz18
       have p180 : 0 ≤ (0 : Int) := (by omega)
       have q180 : 0 < (l0.length : Int) := of_decide_eq_true o104
       obtain ⟨ad180, e180, hx180_0⟩ := Kd.at_int HR0.out 0 p180 q180
       have hw180_0 := hx180_0
       (try rw [show ((0 : Int)).toNat = 0 from rfl] at hw180_0)
       (try rw [show 0 * 1 = 0 from rfl] at hw180_0)
       (try rw [Addr.add_zero'] at hw180_0)
       cases e180
       have qi180 : (0 < l0.length) = True := eq_true (by omega)
       (try rw [show ((0 : Int)).toNat = 0 from rfl] at hx180_0)
       (try rw [Addr.add_zero'] at hx180_0)
       replace hx180_0 := (HB.out.cell (World.block_lt_of_cell? w _ hx180_0)).trans hx180_0
       replace p180 := eq_true p180
       replace q180 := eq_true q180
       obtain ⟨i019, hi019, _, hsz19, _⟩ := info_parts info2
       obtain ⟨hcut19, hA19, hC19⟩ := print_take_of (P := Tryd.prog) (Value.int .i64) 0 86 2 .i64 Tryd.underlying86 hi019 hsz19 A1 c1 l1 (ji4) (of_decide_eq_true o104) (of_decide_eq_true o104) HC1.out
       have HR184 := aW (Kd.C_of_reads (h1 := fun _ => rfl) (hA19 _ (Kd.reads_of_C HR1.out)))
       have HC184 := aW hC19
       clear hA19 hC19 hi019 hsz19
       have p185 : 0 ≤ (0 : Int) := (by omega)
       have q185 : 0 < (l1.length : Int) := of_decide_eq_true o104
       obtain ⟨ad185, e185, hx185_0⟩ := Kd.at_int HR1.out 0 p185 q185
       have hw185_0 := hx185_0
       (try rw [show ((0 : Int)).toNat = 0 from rfl] at hw185_0)
       (try rw [show 0 * 1 = 0 from rfl] at hw185_0)
       (try rw [Addr.add_zero'] at hw185_0)
       cases e185
       have qi185 : (0 < l1.length) = True := eq_true (by omega)
       (try rw [show ((0 : Int)).toNat = 0 from rfl] at hx185_0)
       (try rw [Addr.add_zero'] at hx185_0)
       replace hx185_0 := (HB.out.cell (World.block_lt_of_cell? w _ hx185_0)).trans hx185_0
       replace p185 := eq_true p185
       replace q185 := eq_true q185
       refine start_ (n := 16) (S := fun w' => w'.cell? ad180 = some (.int .i64 (rd l0 0)) ∧ w'.cell? ad185 = some (.int .i64 (rd l1 0))) (ds := []) (bl 16 0) (by kernel_rfl) rfl rfl ⟨((HB.out.cell (World.block_lt_of_cell? w _ hw180_0)).trans hw180_0), ((HB.out.cell (World.block_lt_of_cell? w _ hw185_0)).trans hw185_0)⟩ (fun hHeld => ?_); refine with_tabW trend_Line.tab4 trend_Line.bits4 (fun HT_ HW_ => ?_)
       generalize w.drew = w17 at HB HR179 HR184 hx180_0 hx185_0 hHeld ⊢
       refine pq_ 0 18 (bl 16 1) HT_ ?_
       refine pq_ 1 19 (bl 16 3) HT_ ?_
       refine pq_ 2 20 (bl 16 7) HT_ ?_
       refine pq_ 3 21 (bl 16 15) HT_ ?_
       refine pq_ 4 22 (bl 16 31) HT_ ?_
       refine pq_ 7 25 (bl 16 159) HT_ ?_
       refine pq_ 8 26 (bl 16 415) HT_ ?_
       refine pq_ 9 27 (bl 16 927) HT_ ?_
       refine pq_ 10 28 (bl 16 1951) HT_ ?_
       refine pq_ 11 29 (bl 16 3999) HT_ ?_
       refine tq_ 5 23 (bl 16 4031) HT_ HW_ hHeld ?_ (hr := by rintro w' ⟨s0, s1⟩; go_simp; with_reducible rfl)
       refine tq_ 12 30 (bl 16 8127) HT_ HW_ hHeld ?_ (hr := by rintro w' ⟨s0, s1⟩; go_simp; with_reducible rfl)
       refine one_ (i := 6) (N := some 24) (bl 16 8191) rfl rfl (one_of HT_.out (by kernel_rfl)) (by decide) (fun K hK => ?_)
       refine goes_ Tryd.func52 (by kernel_rfl) rfl #[.slice (some ad180) (l0.take ((ji4) : Int).toNat).length c0, .int .i64 (rd l0 0)] (by rfl) rfl rfl (by (try simp only [List.map_toArray, List.map_cons, List.map_nil]); first | done | (rw [show (l0.take ((ji4) : Int).toNat).length = (ji4).toNat from (by rw [List.length_take]; have h_ : ((ji4) : Int) ≤ (l0.length : Int) := of_decide_eq_true o104; omega)] <;> rfl) | (simp only [hji4]; rfl) | rfl | (simp only [List.length_drop, List.length_take]; rfl)) ?_
       with_reducible refine (trend_less.calls k _ _ (l0.take ((ji4) : Int).toNat) (rd l0 0) t181 _ ?side1 ?side2 A9.out).mono ?_
       (case side1 => repeat (first | exact (Kd.C_below HR179.out HB.out) | (with_reducible refine Kd.C_alloc ?_ _) | (with_reducible refine Kd.C_drewN ?_ _) | (with_reducible refine Kd.C_drew ?_)))
       (case side2 => exact HC179.out)
       rintro e w20 ⟨v182, rfl, ho0, hb⟩
       refine ⟨_, rfl, ?_⟩
       have n0_ := aW (Kd.R_lower ho0 (below_size o76))
       have n1_ := aW (below_step o76 hb)
       clear HB
       have HO183 := n0_
       have HB := n1_
       clear n0_ n1_
       (try clear hb)
       (try clear hb2)
       (try clear hk)
       (try clear hi)
       (try clear ho0)
       refine hK.out _ _ ⟨((HB.out.cell (World.block_lt_of_cell? w _ hw180_0)).trans hw180_0), ((HB.out.cell (World.block_lt_of_cell? w _ hw185_0)).trans hw185_0)⟩ (fun hHeld => ?_)
       clear hK K
       refine no_ 24 ?_
       refine one_ (i := 13) (N := some 31) (bl 16 16383) rfl rfl (one_of HT_.out (by kernel_rfl)) (by decide) (fun K hK => ?_)
       refine goes_ Tryd.func52 (by kernel_rfl) rfl #[.slice (some ad185) (l1.take ((ji4) : Int).toNat).length c1, .int .i64 (rd l1 0)] (by rfl) rfl rfl (by (try simp only [List.map_toArray, List.map_cons, List.map_nil]); first | done | (rw [show (l1.take ((ji4) : Int).toNat).length = (ji4).toNat from (by rw [List.length_take]; have h_ : ((ji4) : Int) ≤ (l1.length : Int) := of_decide_eq_true o104; omega)] <;> rfl) | (simp only [hji4]; rfl) | rfl | (simp only [List.length_drop, List.length_take]; rfl)) ?_
       with_reducible refine (trend_less.calls k _ _ (l1.take ((ji4) : Int).toNat) (rd l1 0) t186 _ ?side1 ?side2 A13.out).mono ?_
       (case side1 => repeat (first | exact (Kd.C_below HR184.out HB.out) | (with_reducible refine Kd.C_alloc ?_ _) | (with_reducible refine Kd.C_drewN ?_ _) | (with_reducible refine Kd.C_drew ?_)))
       (case side2 => exact HC184.out)
       rintro e w21 ⟨v187, rfl, ho0, hb⟩
       refine ⟨_, rfl, ?_⟩
       have n0_ := aW (Kd.R_elder' o87 (Kd.R_base ho0) hb)
       have n1_ := aW (Kd.R_lower (Kd.R_new' ho0 (Kd.R_lt o87)) (below_size o76))
       have n2_ := aW (below_step o76 hb)
       clear HO183
       clear HB
       have HO183 := n0_
       have HO188 := n1_
       have HB := n2_
       clear n0_ n1_ n2_
       (try clear hb)
       (try clear hb2)
       (try clear hk)
       (try clear hi)
       (try clear ho0)
       refine hK.out _ _ ⟨((HB.out.cell (World.block_lt_of_cell? w _ hw180_0)).trans hw180_0), ((HB.out.cell (World.block_lt_of_cell? w _ hw185_0)).trans hw185_0)⟩ (fun hHeld => ?_)
       clear hK K
       refine no_ 31 ?_
       refine pq_ 14 0 (bl 16 32767) HT_ ?_
       refine pq_ 15 1 (bl 16 65535) HT_ ?_
       refine done_ (done_of HT_.out (by kernel_rfl)) ?_
       obtain ⟨Ao22, co22, eo22⟩ := Kd.R_slice HO183.out
       subst eo22
       obtain ⟨Ao23, co23, eo23⟩ := Kd.R_slice HO188.out
       subst eo23
       try go_wp2_with (first | ((with_reducible refine gate_callee (f := 53) rfl ?_); refine gL_ 35 Tryd.func53 #[.slice Ao22 t181.length co22, .slice Ao23 t186.length co23] ?_; (with_reducible refine (trend_sums.calls k _ _ t181 _ _ t186 t189 t190 _ ?side1 ?side2 ?side3 ?side4 A14.out).mono ?_); (case side1 => repeat (first | exact (Kd.R_reads' HO183.out).2.2 | (with_reducible refine Kd.C_alloc ?_ _) | (with_reducible refine Kd.C_drewN ?_ _) | (with_reducible refine Kd.C_drew ?_))); (case side2 => exact (Kd.R_reads' HO183.out).2.1); (case side3 => repeat (first | exact (Kd.R_reads' HO188.out).2.2 | (with_reducible refine Kd.C_alloc ?_ _) | (with_reducible refine Kd.C_drewN ?_ _) | (with_reducible refine Kd.C_drew ?_))); (case side4 => exact (Kd.R_reads' HO188.out).2.1); rintro e w24 ⟨rfl, hb⟩; refine ⟨_, rfl, ?_⟩; replace HB := aW (below_step o76 hb); replace HO188 := aW (Kd.R_below o86 hb); replace HO183 := aW (Kd.R_below o87 hb); (try clear hb); (try clear hb2); (try clear hk); (try clear hi)) | ((with_reducible refine gate_callee (f := 54) rfl ?_); refine gL_ 40 Tryd.func54 #[.slice Ao22 t181.length co22, .int .i64 t189] ?_; (with_reducible refine (trend_off.calls k _ _ t181 t189 t191 _ ?side1 ?side2 A15.out).mono ?_); (case side1 => repeat (first | exact (Kd.R_reads' HO183.out).2.2 | (with_reducible refine Kd.C_alloc ?_ _) | (with_reducible refine Kd.C_drewN ?_ _) | (with_reducible refine Kd.C_drew ?_))); (case side2 => exact (Kd.R_reads' HO183.out).2.1); rintro e w25 ⟨v192, rfl, ho0, hb⟩; refine ⟨_, rfl, ?_⟩; have n0_ := aW (Kd.R_elder' o87 (Kd.R_base ho0) hb); have n1_ := aW (Kd.R_elder' o86 (Kd.R_base ho0) hb); have n2_ := aW (Kd.R_lower (Kd.R_new' (Kd.R_new' ho0 (Kd.R_lt o87)) (Kd.R_lt o86)) (below_size o76)); have n3_ := aW (below_step o76 hb); clear HO183; clear HO188; clear HB; have HO183 := n0_; have HO188 := n1_; have HO193 := n2_; have HB := n3_; clear n0_ n1_ n2_ n3_; (try clear hb); (try clear hb2); (try clear hk); (try clear hi); (try clear ho0)) | ((with_reducible refine gate_callee (f := 54) rfl ?_); refine gL_ 43 Tryd.func54 #[.slice Ao23 t186.length co23, .int .i64 t190] ?_; (with_reducible refine (trend_off.calls k _ _ t186 t190 t194 _ ?side1 ?side2 A16.out).mono ?_); (case side1 => repeat (first | exact (Kd.R_reads' HO188.out).2.2 | (with_reducible refine Kd.C_alloc ?_ _) | (with_reducible refine Kd.C_drewN ?_ _) | (with_reducible refine Kd.C_drew ?_))); (case side2 => exact (Kd.R_reads' HO188.out).2.1); rintro e w26 ⟨v195, rfl, ho0, hb⟩; refine ⟨_, rfl, ?_⟩; have n0_ := aW (Kd.R_elder' o87 (Kd.R_base ho0) hb); have n1_ := aW (Kd.R_elder' o86 (Kd.R_base ho0) hb); have n2_ := aW (Kd.R_elder' (by (with_reducible repeat (first | apply Kd.R_alloc | apply Kd.R_drewN | apply Kd.R_drew)); exact HO193.out) (Kd.R_base ho0) hb); have n3_ := aW (Kd.R_lower (Kd.R_new' (Kd.R_new' (Kd.R_new' ho0 (Kd.R_lt o87)) (Kd.R_lt o86)) (Kd.R_lt (by (with_reducible repeat (first | apply Kd.R_alloc | apply Kd.R_drewN | apply Kd.R_drew)); exact HO193.out))) (below_size o76)); have n4_ := aW (below_step o76 hb); clear HO183; clear HO188; clear HO193; clear HB; have HO183 := n0_; have HO188 := n1_; have HO193 := n2_; have HO196 := n3_; have HB := n4_; clear n0_ n1_ n2_ n3_ n4_; (try clear hb); (try clear hb2); (try clear hk); (try clear hi); (try clear ho0); obtain ⟨Ao27, co27, eo27⟩ := Kd.R_slice HO193.out; subst eo27))
       go_loopg [8, 9, 46] k (fun kq v8 v9 v46 w' => ∃ (x8_1 : List Int) (x9_1 : List Int) (x46_1 : Int), v46 = .int .i64 x46_1 ∧ Aside0 (trend_Line.l0 kq t191 t194 x8_1 x9_1 (t191.length : Int) x46_1 = some r) ∧ Aside0 (kq ≤ k) ∧ Aside0 (Kd.R (Kd.int .i64) 2 w' w.heap.size (fun k_ => some k_ ≠ (v195 : Value).ownBlock ∧ some k_ ≠ (v8 : Value).ownBlock ∧ some k_ ≠ (v9 : Value).ownBlock) (.slice Ao27 t191.length co27) t191) ∧ Aside0 (Kd.R (Kd.int .i64) 2 w' w.heap.size (fun k_ => some k_ ≠ ((.slice Ao27 t191.length co27) : Value).ownBlock ∧ some k_ ≠ (v8 : Value).ownBlock ∧ some k_ ≠ (v9 : Value).ownBlock) v195 t194) ∧ Aside0 (Kd.R (Kd.int .i64) 2 w' w.heap.size (fun k_ => some k_ ≠ ((.slice Ao27 t191.length co27) : Value).ownBlock ∧ some k_ ≠ (v195 : Value).ownBlock ∧ some k_ ≠ (v9 : Value).ownBlock) v8 x8_1) ∧ Aside0 (Kd.R (Kd.int .i64) 2 w' w.heap.size (fun k_ => some k_ ≠ ((.slice Ao27 t191.length co27) : Value).ownBlock ∧ some k_ ≠ (v195 : Value).ownBlock ∧ some k_ ≠ (v8 : Value).ownBlock) v9 x9_1) ∧ Aside0 (Below w.heap.size w w'))
       case atStart => exact ⟨(([] : List Int)), (([] : List Int)), (0), o105, H', ⟨Nat.le_refl _⟩, ⟨by (with_reducible repeat (first | apply Kd.R_alloc | apply Kd.R_drewN | apply Kd.R_drew)); exact Kd.R_mono HO193.out (fun _ hk => ⟨hk.2, ⟨(by simp [Value.ownBlock]), (by simp [Value.ownBlock])⟩⟩)⟩, ⟨by (with_reducible repeat (first | apply Kd.R_alloc | apply Kd.R_drewN | apply Kd.R_drew)); exact Kd.R_mono HO196.out (fun _ hk => ⟨hk.2, ⟨(by simp [Value.ownBlock]), (by simp [Value.ownBlock])⟩⟩)⟩, ⟨o73⟩, ⟨o73⟩, ⟨o77⟩⟩
       case round =>
        clear H'
        try clear c1
        try clear p1
        try clear q1
        try clear hx1
        try clear qi1
        try clear p2
        try clear c4
        try clear c5
        try clear c5b0
        try clear c6
        try clear c6b0
        try clear c6b1
        try clear c7
        try clear c7b0
        try clear c7b1
        try clear c8
        try clear c8b0
        try clear c8b1
        try clear c10
        try clear c10b0
        try clear c11
        try clear c11b0
        try clear c11b1
        try clear c12
        try clear c12b0
        try clear c12b1
        try clear p18
        try clear q18
        try clear hx18
        try clear qi18
        try clear hx180_0
        try clear hx185_0
        try clear p180
        try clear p185
        try clear q180
        try clear q185
        obtain ⟨x8_1, x9_1, x46_1, rfl, HA, HK1, HO_0, HO_1, HO_8, HO_9, HB⟩ := hrel
        cases gk with
        | zero => exact absurd HA.out (by simp [trend_Line.l0])
        | succ k1 =>
         have H := HA.out
         clear HA
         simp only [trend_Line.l0] at H
         by_cases c28 : x46_1 < (t191.length : Int)
         ·rw [if_pos c28] at H
          have c28b0 : decide (x46_1 < (t191.length : Int)) = true := decide_eq_true c28
          clear c28
          by_cases c29 : 0 ≤ x46_1
          ·rw [if_pos c29] at H
           have c29b0 : decide (0 ≤ x46_1) = true := decide_eq_true c29
           clear c29
           by_cases c30 : x46_1 < (t191.length : Int)
           ·rw [if_pos c30] at H
            have c30b0 : decide (x46_1 < (t191.length : Int)) = true := decide_eq_true c30
            clear c30
            by_cases c31 : x46_1 < (t194.length : Int)
            ·rw [if_pos c31] at H
             have c31b0 : decide (x46_1 < (t194.length : Int)) = true := decide_eq_true c31
             clear c31
             obtain ⟨t199, A32, H⟩ := bw H
             replace H : (if x8_1.length < 17592186044416 then ((sat_Mul.f (rd t191 x46_1) (rd t191 x46_1)).bind fun t205 => (if x9_1.length < 17592186044416 then (trend_Line.l0 k1 t191 t194 (x8_1 ++ [t199]) (x9_1 ++ [t205]) (t191.length : Int) (wrap64 (x46_1 + 1))) else (none))) else (none)) = some r := H
             by_cases c33 : x8_1.length < 17592186044416
             ·rw [if_pos c33] at H
              have LMc33 := aW c33
              clear c33
              obtain ⟨y200, hy200⟩ : ∃ y_ : List Int, y_ = (x8_1 ++ [t199]) := ⟨_, rfl⟩
              replace H : ((sat_Mul.f (rd t191 x46_1) (rd t191 x46_1)).bind fun t205 => (if x9_1.length < 17592186044416 then (trend_Line.l0 k1 t191 t194 y200 (x9_1 ++ [t205]) (t191.length : Int) (wrap64 (x46_1 + 1))) else (none))) = some r := by first | (rw [hy200]; with_reducible exact H) | (have H2_ := (Option.bind_some _ _).symm.trans H; rw [hy200]; with_reducible exact H2_) | (have H2_ := (Option.bind_some _ _).symm.trans H; with_reducible exact H2_) | with_reducible exact H | (rw [hy200]; exact H) | exact H
              have Ny200 := aW hy200
              clear hy200
              obtain ⟨t205, A34, H⟩ := bw H
              replace H : (if x9_1.length < 17592186044416 then (trend_Line.l0 k1 t191 t194 y200 (x9_1 ++ [t205]) (t191.length : Int) (wrap64 (x46_1 + 1))) else (none)) = some r := H
              by_cases c35 : x9_1.length < 17592186044416
              ·rw [if_pos c35] at H
               have LMc35 := aW c35
               clear c35
               obtain ⟨y206, hy206⟩ : ∃ y_ : List Int, y_ = (x9_1 ++ [t205]) := ⟨_, rfl⟩
               replace H : (trend_Line.l0 k1 t191 t194 y200 y206 (t191.length : Int) (wrap64 (x46_1 + 1))) = some r := by first | (rw [hy206]; with_reducible exact H) | (have H2_ := (Option.bind_some _ _).symm.trans H; rw [hy206]; with_reducible exact H2_) | (have H2_ := (Option.bind_some _ _).symm.trans H; with_reducible exact H2_) | with_reducible exact H | (rw [hy206]; exact H) | exact H
               have Ny206 := aW hy206
               clear hy206
               have H' := aW H
               clear H
               try go_wp2
               replace HB := aW (below_drew1 HB.out)
               replace HO_9 := aW (Kd.R_drew HO_9.out)
               replace HO_8 := aW (Kd.R_drew HO_8.out)
               replace HO_1 := aW (Kd.R_drew HO_1.out)
               replace HO_0 := aW (Kd.R_drew HO_0.out)
               have p197 : 0 ≤ (x46_1 : Int) := of_decide_eq_true o104
               have q197 : x46_1 < (t191.length : Int) := of_decide_eq_true o104
               obtain ⟨ad197, e197, hx197_0⟩ := Kd.at_int (Kd.R_reads' HO_0.out).2.2 x46_1 p197 q197
               cases e197
               replace p197 := eq_true p197
               replace q197 := eq_true q197
               obtain ⟨Ao37, co37, eo37⟩ := Kd.R_slice HO_1.out
               (first | subst eo37 | (injection eo37 with f1_ f2_ f3_; have f4_ := f1_.symm; have f5_ := f3_.symm; clear f1_ f2_ f3_; subst f4_; subst f5_))
               have p198 : 0 ≤ (x46_1 : Int) := of_decide_eq_true o104
               have q198 : x46_1 < (t194.length : Int) := of_decide_eq_true o104
               obtain ⟨ad198, e198, hx198_0⟩ := Kd.at_int (Kd.R_reads' HO_1.out).2.2 x46_1 p198 q198
               cases e198
               replace p198 := eq_true p198
               replace q198 := eq_true q198
               refine start_ (n := 13) (S := fun w' => w'.cell? (ad197.add (x46_1).toNat) = some (.int .i64 (rd t191 x46_1)) ∧ w'.cell? (ad198.add (x46_1).toNat) = some (.int .i64 (rd t194 x46_1))) (ds := [10, 11]) (bl 13 0) (by kernel_rfl) rfl rfl ⟨hx197_0, hx198_0⟩ (fun hHeld => ?_); refine with_tabW trend_Line.tab11 trend_Line.bits11 (fun HT_ HW_ => ?_)
               generalize wr.drew = w36 at HO_0 HO_1 HO_8 HO_9 HB hx197_0 hx198_0 hHeld ⊢
               refine pq_ 0 49 (bl 13 1) HT_ ?_
               refine pq_ 1 50 (bl 13 3) HT_ ?_
               refine pq_ 2 51 (bl 13 7) HT_ ?_
               refine pq_ 3 52 (bl 13 15) HT_ ?_
               refine pq_ 5 54 (bl 13 47) HT_ ?_
               refine pq_ 6 55 (bl 13 111) HT_ ?_
               refine pq_ 7 56 (bl 13 239) HT_ ?_
               refine tq_ 4 53 (bl 13 255) HT_ HW_ hHeld ?_ (hr := by rintro w' ⟨s0, s1⟩; go_simp; with_reducible rfl)
               refine tq_ 8 57 (bl 13 511) HT_ HW_ hHeld ?_ (hr := by rintro w' ⟨s0, s1⟩; go_simp; with_reducible rfl)
               refine one_ (i := 9) (N := some 58) (bl 13 1023) rfl rfl (one_of HT_.out (by kernel_rfl)) (by decide) (fun K hK => ?_)
               refine goes_ Tryd.func35 (by kernel_rfl) rfl #[.int .i64 (rd t191 x46_1), .int .i64 (rd t194 x46_1)] (by rfl) rfl rfl o72 ?_
               with_reducible refine (sat_Mul.calls (rd t191 x46_1) (rd t194 x46_1) t199 _ A32.out).mono ?_
               rintro e w38 ⟨rfl, hb⟩
               have HS0_ := (hb.cell (World.block_lt_of_cell? _ _ (hHeld.1))).trans (hHeld.1)
               have HS1_ := (hb.cell (World.block_lt_of_cell? _ _ (hHeld.2))).trans (hHeld.2)
               refine ⟨_, rfl, ?_⟩
               replace HB := aW (below_step o76 hb)
               replace HO_9 := aW (Kd.R_below o88 hb)
               replace HO_8 := aW (Kd.R_below o89 hb)
               replace HO_1 := aW (Kd.R_below o91 hb)
               replace HO_0 := aW (Kd.R_below o92 hb)
               (try clear hb)
               (try clear hb2)
               (try clear hk)
               (try clear hi)
               refine hK.out _ _ ⟨HS0_, HS1_⟩ (fun hHeld => ?_)
               clear hK K
               refine no_ 58 ?_
               refine last_ (i := 10) (N := some 59) (bl 13 2047) rfl rfl (one_of HT_.out (by kernel_rfl)) (by decide) (fun K hK => ?_)
               refine value_ (w1 := ?_) (v := ?_) (by rfl) rfl ?_ ?_
               rotate_left 2
               ·go_simp
                constructor
                ·rfl
                ·rfl
               refine hK.out _ _ ?_
               clear hK K
               refine no_ 59 ?_
               refine last_ (i := 11) (N := some 60) (bl 13 4095) rfl rfl (one_of HT_.out (by kernel_rfl)) (by decide) (fun K hK => ?_)
               refine Kd.R_append_step (Kd.int .i64) (w0 := w) w.heap.size (by rfl) (.tmp 49) (.tmp 59) 86 2 (.int .i64 0) 8 rfl Tryd.underlying86 info2 rfl (by decide) (by omega) u8 x8_1 t199 [.int .i64 t199] (fun k_ => some k_ ≠ (.slice (some ad197) t191.length co27 : Value).ownBlock ∧ some k_ ≠ (.slice (some ad198) t194.length co37 : Value).ownBlock ∧ some k_ ≠ (u9 : Value).ownBlock) (fun _ => False) rfl rfl ?aP (fun _ hk => hk.elim) ?aF ?aO ?aB ?aS ?aL ?_
               (case aP => exact rfl)
               (case aB => exact o76)
               (case aF => exact (fun k_ hk => ⟨Kd.fresh' (Kd.R_lt o92) k_ hk, Kd.fresh' (Kd.R_lt o91) k_ hk, Kd.fresh' (Kd.R_lt o88) k_ hk⟩))
               (case aO => exact o89)
               (case aS => exact (below_size o76))
               (case aL => have := LMc33.out; omega)
               intro v201 w39 ho hb hg hat
               rw [← Ny200.out] at ho
               have HO202 := aW (ho)
               replace HB := aW (hb)
               replace HO_9 := aW (Kd.R_after (ok := (fun k_ => some k_ ≠ (.slice (some ad197) t191.length co27 : Value).ownBlock ∧ some k_ ≠ (.slice (some ad198) t194.length co37 : Value).ownBlock)) (by (with_reducible repeat (first | apply Kd.R_alloc | apply Kd.R_drewN | apply Kd.R_drew)); exact Kd.R_mono HO_9.out (fun _ hk => ⟨⟨hk.1, hk.2.1⟩, hk.2.2⟩)) hg hat)
               replace HO_1 := aW (Kd.R_after (ok := (fun k_ => some k_ ≠ (.slice (some ad197) t191.length co27 : Value).ownBlock ∧ some k_ ≠ (u9 : Value).ownBlock)) (by (with_reducible repeat (first | apply Kd.R_alloc | apply Kd.R_drewN | apply Kd.R_drew)); exact Kd.R_mono HO_1.out (fun _ hk => ⟨⟨hk.1, hk.2.2⟩, hk.2.1⟩)) hg hat)
               replace HO_0 := aW (Kd.R_after (ok := (fun k_ => some k_ ≠ (.slice (some ad198) t194.length co37 : Value).ownBlock ∧ some k_ ≠ (u9 : Value).ownBlock)) (by (with_reducible repeat (first | apply Kd.R_alloc | apply Kd.R_drewN | apply Kd.R_drew)); exact Kd.R_mono HO_0.out (fun _ hk => ⟨⟨hk.1, hk.2.2⟩, hk.2.1⟩)) hg hat)
               clear HO_8
               clear ho hb hg hat
               refine hK.out _ _ ?_
               clear hK K
               refine no_ 60 ?_
               refine pq_ 12 8 (bl 13 8191) HT_ ?_
               refine done_ (done_of HT_.out (by kernel_rfl)) ?_
               try go_wp2
               replace HB := aW (below_drew1 HB.out)
               replace HO202 := aW (Kd.R_drew HO202.out)
               replace HO_9 := aW (Kd.R_drew HO_9.out)
               replace HO_1 := aW (Kd.R_drew HO_1.out)
               replace HO_0 := aW (Kd.R_drew HO_0.out)
               have p203 : 0 ≤ (x46_1 : Int) := of_decide_eq_true o104
               have q203 : x46_1 < (t191.length : Int) := of_decide_eq_true o104
               obtain ⟨ad203, e203, hx203_0⟩ := Kd.at_int (Kd.R_reads' HO_0.out).2.2 x46_1 p203 q203
               obtain rfl : ad197 = ad203 := (by injection e203)
               replace p203 := eq_true p203
               replace q203 := eq_true q203
               have p204 : 0 ≤ (x46_1 : Int) := of_decide_eq_true o104
               have q204 : x46_1 < (t191.length : Int) := of_decide_eq_true o104
               obtain ⟨ad204, e204, hx204_0⟩ := Kd.at_int (Kd.R_reads' HO_0.out).2.2 x46_1 p204 q204
               obtain rfl : ad197 = ad204 := (by injection e204)
               replace p204 := eq_true p204
               replace q204 := eq_true q204
               refine start_ (n := 13) (S := fun w' => w'.cell? (ad197.add (x46_1).toNat) = some (.int .i64 (rd t191 x46_1)) ∧ w'.cell? (ad197.add (x46_1).toNat) = some (.int .i64 (rd t191 x46_1))) (ds := [10, 11]) (bl 13 0) (by kernel_rfl) rfl rfl ⟨hx203_0, hx204_0⟩ (fun hHeld => ?_); refine with_tabW trend_Line.tab12 trend_Line.bits12 (fun HT_ HW_ => ?_)
               generalize w39.drew = w40 at HO_0 HO_1 HO_9 HO202 HB hx203_0 hx204_0 hHeld ⊢
               refine pq_ 0 61 (bl 13 1) HT_ ?_
               refine pq_ 1 62 (bl 13 3) HT_ ?_
               refine pq_ 2 63 (bl 13 7) HT_ ?_
               refine pq_ 3 64 (bl 13 15) HT_ ?_
               refine pq_ 5 66 (bl 13 47) HT_ ?_
               refine pq_ 6 67 (bl 13 111) HT_ ?_
               refine pq_ 7 68 (bl 13 239) HT_ ?_
               refine tq_ 4 65 (bl 13 255) HT_ HW_ hHeld ?_ (hr := by rintro w' ⟨s0, s1⟩; go_simp; with_reducible rfl)
               refine tq_ 8 69 (bl 13 511) HT_ HW_ hHeld ?_ (hr := by rintro w' ⟨s0, s1⟩; go_simp; with_reducible rfl)
               refine one_ (i := 9) (N := some 70) (bl 13 1023) rfl rfl (one_of HT_.out (by kernel_rfl)) (by decide) (fun K hK => ?_)
               refine goes_ Tryd.func35 (by kernel_rfl) rfl #[.int .i64 (rd t191 x46_1), .int .i64 (rd t191 x46_1)] (by rfl) rfl rfl o72 ?_
               with_reducible refine (sat_Mul.calls (rd t191 x46_1) (rd t191 x46_1) t205 _ A34.out).mono ?_
               rintro e w41 ⟨rfl, hb⟩
               have HS0_ := (hb.cell (World.block_lt_of_cell? _ _ (hHeld.1))).trans (hHeld.1)
               have HS1_ := (hb.cell (World.block_lt_of_cell? _ _ (hHeld.2))).trans (hHeld.2)
               refine ⟨_, rfl, ?_⟩
               replace HB := aW (below_step o76 hb)
               replace HO202 := aW (Kd.R_below (by (with_reducible repeat (first | apply Kd.R_alloc | apply Kd.R_drewN | apply Kd.R_drew)); exact HO202.out) hb)
               replace HO_9 := aW (Kd.R_below o88 hb)
               replace HO_1 := aW (Kd.R_below o91 hb)
               replace HO_0 := aW (Kd.R_below o92 hb)
               (try clear hb)
               (try clear hb2)
               (try clear hk)
               (try clear hi)
               refine hK.out _ _ ⟨HS0_, HS1_⟩ (fun hHeld => ?_)
               clear hK K
               refine no_ 70 ?_
               refine last_ (i := 10) (N := some 71) (bl 13 2047) rfl rfl (one_of HT_.out (by kernel_rfl)) (by decide) (fun K hK => ?_)
               refine value_ (w1 := ?_) (v := ?_) (by rfl) rfl ?_ ?_
               rotate_left 2
               ·go_simp
                constructor
                ·rfl
                ·rfl
               refine hK.out _ _ ?_
               clear hK K
               refine no_ 71 ?_
               refine last_ (i := 11) (N := some 72) (bl 13 4095) rfl rfl (one_of HT_.out (by kernel_rfl)) (by decide) (fun K hK => ?_)
               refine Kd.R_append_step (Kd.int .i64) (w0 := w) w.heap.size (by rfl) (.tmp 61) (.tmp 71) 86 2 (.int .i64 0) 8 rfl Tryd.underlying86 info2 rfl (by decide) (by omega) u9 x9_1 t205 [.int .i64 t205] (fun k_ => some k_ ≠ (.slice (some ad197) t191.length co27 : Value).ownBlock ∧ some k_ ≠ (.slice (some ad198) t194.length co37 : Value).ownBlock ∧ some k_ ≠ (v201 : Value).ownBlock) (fun _ => False) rfl rfl ?aP (fun _ hk => hk.elim) ?aF ?aO ?aB ?aS ?aL ?_
               (case aP => exact rfl)
               (case aB => exact o76)
               (case aF => exact (fun k_ hk => ⟨Kd.fresh' (Kd.R_lt o92) k_ hk, Kd.fresh' (Kd.R_lt o91) k_ hk, Kd.fresh' (Kd.R_lt (by (with_reducible repeat (first | apply Kd.R_alloc | apply Kd.R_drewN | apply Kd.R_drew)); exact HO202.out)) k_ hk⟩))
               (case aO => exact (by (with_reducible repeat (first | apply Kd.R_alloc | apply Kd.R_drewN | apply Kd.R_drew)); exact Kd.R_mono HO_9.out (fun _ hk => ⟨hk.1.1, ⟨hk.1.2, hk.2⟩⟩)))
               (case aS => exact (below_size o76))
               (case aL => have := LMc35.out; omega)
               intro v207 w42 ho hb hg hat
               rw [← Ny206.out] at ho
               have HO208 := aW (ho)
               replace HB := aW (hb)
               replace HO202 := aW (Kd.R_after (ok := (fun k_ => some k_ ≠ (.slice (some ad197) t191.length co27 : Value).ownBlock ∧ some k_ ≠ (.slice (some ad198) t194.length co37 : Value).ownBlock)) (by (with_reducible repeat (first | apply Kd.R_alloc | apply Kd.R_drewN | apply Kd.R_drew)); exact Kd.R_mono HO202.out (fun _ hk => ⟨⟨hk.1, hk.2.1⟩, hk.2.2⟩)) hg hat)
               replace HO_1 := aW (Kd.R_after (ok := (fun k_ => some k_ ≠ (.slice (some ad197) t191.length co27 : Value).ownBlock ∧ some k_ ≠ (v201 : Value).ownBlock)) (by (with_reducible repeat (first | apply Kd.R_alloc | apply Kd.R_drewN | apply Kd.R_drew)); exact Kd.R_mono HO_1.out (fun _ hk => ⟨⟨hk.1.1, hk.2⟩, hk.1.2⟩)) hg hat)
               replace HO_0 := aW (Kd.R_after (ok := (fun k_ => some k_ ≠ (.slice (some ad198) t194.length co37 : Value).ownBlock ∧ some k_ ≠ (v201 : Value).ownBlock)) (by (with_reducible repeat (first | apply Kd.R_alloc | apply Kd.R_drewN | apply Kd.R_drew)); exact Kd.R_mono HO_0.out (fun _ hk => ⟨⟨hk.1.1, hk.2⟩, hk.1.2⟩)) hg hat)
               clear HO_9
               clear ho hb hg hat
               refine hK.out _ _ ?_
               clear hK K
               refine no_ 72 ?_
               refine pq_ 12 9 (bl 13 8191) HT_ ?_
               refine done_ (done_of HT_.out (by kernel_rfl)) ?_
               try go_wp2
               go_roundg k1
               case measure => have := HK1.out; omega
               case rel => exact ⟨(y200), (y206), (wrap64 (x46_1 + 1)), o105, H', ⟨by have := HK1.out; omega⟩, ⟨by (with_reducible repeat (first | apply Kd.R_alloc | apply Kd.R_drewN | apply Kd.R_drew)); exact Kd.R_mono HO_0.out (fun _ hk => ⟨hk.1.1, ⟨hk.1.2, hk.2⟩⟩)⟩, ⟨by (with_reducible repeat (first | apply Kd.R_alloc | apply Kd.R_drewN | apply Kd.R_drew)); exact Kd.R_mono HO_1.out (fun _ hk => ⟨hk.1.1, ⟨hk.1.2, hk.2⟩⟩)⟩, ⟨by (with_reducible repeat (first | apply Kd.R_alloc | apply Kd.R_drewN | apply Kd.R_drew)); exact Kd.R_mono HO202.out (fun _ hk => ⟨hk.1.1, ⟨hk.1.2, hk.2⟩⟩)⟩, ⟨by (with_reducible repeat (first | apply Kd.R_alloc | apply Kd.R_drewN | apply Kd.R_drew)); exact HO208.out⟩, ⟨o77⟩⟩
              ·rw [if_neg c35] at H
               exact absurd H (by simp)
             ·rw [if_neg c33] at H
              exact absurd H (by simp)
            ·rw [if_neg c31] at H
             exact absurd H (by simp)
           ·rw [if_neg c30] at H
            exact absurd H (by simp)
          ·rw [if_neg c29] at H
           exact absurd H (by simp)
         ·rw [if_neg c28] at H
          have c28b0 : decide (x46_1 < (t191.length : Int)) = false := decide_eq_false c28
          clear c28
          obtain ⟨t209, A43, H⟩ := bw H
          replace H : ((sat_Sum.f k1 x9_1).bind fun t210 => ((fixed_Div.f t209 t210).bind fun t211 => (some t211))) = some r := H
          obtain ⟨t210, A44, H⟩ := bw H
          obtain ⟨t211, A45, H⟩ := bw H
          obtain rfl := Option.some.inj H
          obtain ⟨Ao46, co46, eo46⟩ := Kd.R_slice HO_8.out
          subst eo46
          go_wp2_with (first | ((with_reducible refine gate_callee (f := 56) rfl ?_); refine gL_ 75 Tryd.func56 #[.slice Ao46 x8_1.length co46] ?_; (with_reducible refine (sat_Sum.calls k1 _ _ x8_1 t209 _ ?side1 ?side2 A43.out).mono ?_); (case side1 => repeat (first | exact (Kd.R_reads' HO_8.out).2.2 | (with_reducible refine Kd.C_alloc ?_ _) | (with_reducible refine Kd.C_drewN ?_ _) | (with_reducible refine Kd.C_drew ?_))); (case side2 => exact (Kd.R_reads' HO_8.out).2.1); rintro e w47 ⟨rfl, hb⟩; refine ⟨_, rfl, ?_⟩; replace HB := aW (below_step o76 hb); replace HO_9 := aW (Kd.R_below o88 hb); replace HO_8 := aW (Kd.R_below o89 hb); replace HO_1 := aW (Kd.R_below o91 hb); replace HO_0 := aW (Kd.R_below o92 hb); (try clear hb); (try clear hb2); (try clear hk); (try clear hi); obtain ⟨Ao48, co48, eo48⟩ := Kd.R_slice HO_9.out; subst eo48) | ((with_reducible refine gate_callee (f := 56) rfl ?_); refine gL_ 77 Tryd.func56 #[.slice Ao48 x9_1.length co48] ?_; (with_reducible refine (sat_Sum.calls k1 _ _ x9_1 t210 _ ?side1 ?side2 A44.out).mono ?_); (case side1 => repeat (first | exact (Kd.R_reads' HO_9.out).2.2 | (with_reducible refine Kd.C_alloc ?_ _) | (with_reducible refine Kd.C_drewN ?_ _) | (with_reducible refine Kd.C_drew ?_))); (case side2 => exact (Kd.R_reads' HO_9.out).2.1); rintro e w49 ⟨rfl, hb⟩; refine ⟨_, rfl, ?_⟩; replace HB := aW (below_step o76 hb); replace HO_9 := aW (Kd.R_below o88 hb); replace HO_8 := aW (Kd.R_below o89 hb); replace HO_1 := aW (Kd.R_below o91 hb); replace HO_0 := aW (Kd.R_below o92 hb); (try clear hb); (try clear hb2); (try clear hk); (try clear hi)) | ((with_reducible refine gate_callee (f := 55) rfl ?_); refine gL_ 78 Tryd.func55 #[.int .i64 t209, .int .i64 t210] ?_; (with_reducible refine (fixed_Div.calls t209 t210 t211 _ A45.out).mono ?_); rintro e w50 ⟨rfl, hb⟩; refine ⟨_, rfl, ?_⟩; replace HB := aW (below_step o76 hb); replace HO_9 := aW (Kd.R_below o88 hb); replace HO_8 := aW (Kd.R_below o89 hb); replace HO_1 := aW (Kd.R_below o91 hb); replace HO_0 := aW (Kd.R_below o92 hb); (try clear hb); (try clear hb2); (try clear hk); (try clear hi)))
          go_ret
          exact ⟨by first | rfl | (simp [errW_none, errW_some] <;> rfl) | (simp only [← hji3, ← hji4]; first | rfl | (simp [errW_none, errW_some] <;> rfl)) | (simp [*, errW_none, errW_some] <;> rfl), o77⟩
      ·rw [if_neg c12] at H
       exact absurd H (by simp)
     ·rw [if_neg c11] at H
      exact absurd H (by simp)
    ·rw [if_neg c8] at H
     exact absurd H (by simp)
   ·rw [if_neg c7] at H
    exact absurd H (by simp)
  ·rw [if_neg c6] at H
   exact absurd H (by simp)
end Go.Proofs.YtphgeljglhjamaaDoor.P
end

section
namespace Go.Proofs.YtphgeljglhjamaaDoor.P
open Go.RowKit Go.Proofs.YtphgeljglhjamaaDoorW.PrintWords Go.Proofs.YtphgeljglhjamaaDoorW.PrintLast Go.Proofs.YtphgeljglhjamaaDoorW.PrintMore
attribute [local go_sem] max2_int min2_int max_two min_two max_three min_three max_four min_four
set_option linter.unusedVariables false
set_option linter.unusedSimpArgs false
def TF (P : Nat → Prop) (w0 w W : World) (g : Nat) (cs : Array Value) (v5 : Value) (xs : List Int) (v6 : Value) (ys : List Int) : Prop :=
 W.heap[g]? = some (.cells cs 88 (0, 0)) ∧ w0.heap.size ≤ g ∧ P g ∧ (∀ j, w.heap.size ≤ j → P j) ∧ Kd.Q (Kd.int .i64) 2 W w0.heap.size (fun k => P k ∧ k ≠ g) v5 xs ∧ Kd.Q (Kd.int .i64) 2 W w0.heap.size (fun k => (P k ∧ k ≠ g) ∧ some k ≠ v5.ownBlock) v6 ys ∧ Below w0.heap.size w0 W ∧ Kept w W P
section
variable {P : Nat → Prop} {w0 w W : World} {g : Nat} {cs : Array Value} {v5 v6 : Value} {xs ys : List Int}
theorem TF.alloc (h : TF P w0 w W g cs v5 xs v6 ys) (o : Obj) : TF P w0 w (W.alloc o) g cs v5 xs v6 ys := by
 obtain ⟨h1, h2, h3, h4, h5, h6, h7, h8⟩ := h
 exact ⟨blk_alloc h1 o, h2, h3, h4, Kd.Q_alloc h5 o, Kd.Q_alloc h6 o, below_alloc h7 o, h8.alloc o⟩
theorem TF.drew (h : TF P w0 w W g cs v5 xs v6 ys) : TF P w0 w W.drew g cs v5 xs v6 ys := by
 obtain ⟨h1, h2, h3, h4, h5, h6, h7, h8⟩ := h
 exact ⟨h1, h2, h3, h4, Kd.Q_drew h5, Kd.Q_drew h6, below_drew h7, h8.drew⟩
theorem TF.set (h : TF P w0 w W g cs v5 xs v6 ys) (i : Nat) (u : Value) : TF P w0 w (W.setCell ⟨g, i, none⟩ u) g (cs.setIfInBounds i u) v5 xs v6 ys := by
 obtain ⟨h1, h2, h3, h4, h5, h6, h7, h8⟩ := h
 exact ⟨blk_set h1 i u, h2, h3, h4, Kd.Q_far h5 (fun _ h => h.2) _, Kd.Q_far h6 (fun _ h => h.1.2) _, below_set h7 h2, h8.setCell (.inl h3) _⟩
theorem TF.lt5 (h : TF P w0 w W g cs v5 xs v6 ys) : some W.heap.size ≠ v5.ownBlock := fun e => by
 have := Kd.Q_lt h.2.2.2.2.1 _ e.symm; omega
theorem Qi_run (base : Nat) (ty : TypeId) (v : Value) (xs : List Int) (p : Int) (b : Nat) (ok : Nat → Prop) (hb : W.cell? ⟨b, 0, none⟩ = some (.int .i64 p)) (hfresh : ∀ k, W.heap.size ≤ k → ok k)
  (HO : Kd.Q (Kd.int .i64) 2 W base ok v xs) (HB : Below base w0 W) (hbase : base ≤ W.heap.size) (hl : xs.length < 17592186044416) :
  ∃ v1 w1, (Builtin.append_ #[86, 86] ty #[v, .slice (some ⟨b, 0, none⟩) 1 1]).run Tryd.prog W = .ok v1 w1 ∧ Kd.Q (Kd.int .i64) 2 w1 base ok v1 (xs ++ [p]) ∧ Below base w0 w1 ∧ W.grownBy w1 v.ownBlock ∧ (v1.ownBlock = v.ownBlock ∨ ∃ b, v1.ownBlock = some b ∧ W.heap.size ≤ b) := by
 obtain ⟨h0, inner, hown, hr⟩ := HO
 obtain ⟨i0, hi, hzz⟩ := Option.map_eq_some_iff.1 (show (Tryd.prog.info? 2).map (fun i => (i.zero, i.size, i.bytes)) = some (some (.int .i64 0), 1, 8) by kernel_rfl)
 simp only [Prod.mk.injEq] at hzz
 obtain ⟨hz0, hz1, hz2⟩ := hzz
 have hnews : ∀ (j : Nat) (u : Value), [Value.int .i64 p][j]? = some u → W.cell? ((⟨b, 0, none⟩ : Addr).add j) = some u := by
  intro j u hu
  rcases j with _ | j
  ·have e : u = .int .i64 p := by simpa using hu.symm
   subst e
   rw [add_plain]
   exact hb
  ·simp at hu
 obtain ⟨v1, w1, hrun, hq1, hg1, hat⟩ := q_append (P := Tryd.prog) W base 86 ty 2 i0 (.int .i64 0) 1 8 Tryd.underlying86 hi hz0 hz1 hz2 rfl (by omega) v xs.length inner hown ⟨b, 0, none⟩ 1 1 [.int .i64 p] rfl
  hnews (fun u hu => by rw [List.mem_singleton.1 hu]; rfl) (by omega) (by simp only [maxLen]; omega) (by omega) hbase
 exact ⟨v1, w1, hrun, Kd.Q_appended (d := Kd.int .i64) (okp := fun _ => False) h0 hr (show Kd.M (Kd.int .i64) W base (fun _ => False) p [.int .i64 p] from rfl) (fun _ hk => hk.elim) hfresh hq1 hg1 hat, HB.grown hg1 hbase (fun k hk => (q_typed hown k hk).1), hg1, hat⟩
theorem TF.fresh (h : TF P w0 w W g cs v5 xs v6 ys) : ∀ k, W.heap.size ≤ k → P k ∧ k ≠ g := fun k hk => ⟨h.2.2.2.1 k (Nat.le_trans h.2.2.2.2.2.2.2.1 hk), fun e => by have := blk_lt h.1; omega⟩
theorem TF.app5 (h : TF P w0 w W g cs v5 xs v6 ys) (ty : TypeId) (p : Int) (b : Nat) (hb : W.cell? ⟨b, 0, none⟩ = some (.int .i64 p)) (hl : xs.length < 17592186044416) :
  ∃ v1 w1, (Builtin.append_ #[86, 86] ty #[v5, .slice (some ⟨b, 0, none⟩) 1 1]).run Tryd.prog W = .ok v1 w1 ∧ TF P w0 w w1 g cs v1 (xs ++ [p]) v6 ys ∧ W.grownBy w1 v5.ownBlock := by
 have hf := h.fresh
 obtain ⟨h1, h2, h3, h4, h5, h6, h7, h8⟩ := h
 obtain ⟨v1, w1, hr, hq, hb1, hg, hat⟩ := Qi_run w0.heap.size ty v5 xs p b _ hb hf h5 h7 h7.size hl
 exact ⟨v1, w1, hr, ⟨blk_grown h1 hg (Kd.Q_away h5 (fun _ h => h.2)), h2, h3, h4, hq, Kd.Q_after h6 hg hat, hb1, Kept.of_grown hg h8 (fun k hk => .inl (h5.1 k hk).1)⟩, hg⟩
theorem TF.app6 (h : TF P w0 w W g cs v5 xs v6 ys) (ty : TypeId) (p : Int) (b : Nat) (hb : W.cell? ⟨b, 0, none⟩ = some (.int .i64 p)) (hl : ys.length < 17592186044416) :
  ∃ v1 w1, (Builtin.append_ #[86, 86] ty #[v6, .slice (some ⟨b, 0, none⟩) 1 1]).run Tryd.prog W = .ok v1 w1 ∧ TF P w0 w w1 g cs v5 xs v1 (ys ++ [p]) := by
 have hf := h.fresh
 obtain ⟨h1, h2, h3, h4, h5, h6, h7, h8⟩ := h
 obtain ⟨v1, w1, hr, hq, hb1, hg, hat⟩ := Qi_run w0.heap.size ty v6 ys p b _ hb (fun k hk => ⟨hf k hk, fun e => by have := Kd.Q_lt h5 _ e.symm; omega⟩) h6 h7 h7.size hl
 exact ⟨v1, w1, hr, ⟨blk_grown h1 hg (Kd.Q_away h6 (fun _ h => h.1.2)), h2, h3, h4, Kd.Q_grown2 h5 rfl hg (fun k hk => (h6.1 k hk).2), hq, hb1, Kept.of_grown hg h8 (fun k hk => .inl (h6.1 k hk).1.1)⟩⟩
theorem app_step {ops : Array Oper} {o : Oper} {a : Act} {Q' : Exit → Act → World → Prop} {Kc : Act → World → Prop} {v1 : Value} {w1 : World} {v : Value} {b : Nat} (hw : Region.wanted o (yielded ops a.tmps) = true) (s x : Operand) (ho : o.op = .call { callee := .builtin .append, args := #[s, x], argTypes := #[86, 86] })
  (hs : a.eval s = v) (hx : a.eval x = .slice (some ⟨b, 0, none⟩) 1 1) (hr : (Builtin.append_ #[86, 86] o.type #[v, .slice (some ⟨b, 0, none⟩) 1 1]).run Tryd.prog W = .ok v1 w1) (hk : Kc (a.put o.dst v1) w1) :
  if Region.wanted o (yielded ops a.tmps) = true then Oper.wp Tryd.prog o a W Kc Q' else Kc (a.put o.dst undef) W := by
 rw [if_pos hw]
 unfold Oper.wp execOp
 simp only [ho, resolve, invoke, builtin, Sem.run_bind, Sem.run_pure, Result.andThen_ok, List.map_toArray, List.map_cons, List.map_nil, hs, hx, hr]
 exact hk
end
theorem kp_set {P : Nat → Prop} {w W : World} {g i : Nat} {u : Value} (hP : P g) (h : Kept w W P) : Kept w (W.setCell ⟨g, i, none⟩ u) P := h.setCell (.inl hP) u
theorem TF.below {P : Nat → Prop} {w0 w W W1 : World} {g : Nat} {cs : Array Value} {v5 v6 : Value} {xs ys : List Int} (h : TF P w0 w W g cs v5 xs v6 ys) (hb : Below W.heap.size W W1) : TF P w0 w W1 g cs v5 xs v6 ys := by
 obtain ⟨h1, h2, h3, h4, h5, h6, h7, h8⟩ := h
 exact ⟨blk_below h1 hb, h2, h3, h4, Kd.Q_below h5 hb, Kd.Q_below h6 hb, below_step h7 hb, h8.below hb⟩
theorem own_cut (A : Option Addr) (n c n' c' m j : Nat) : (Value.slice (if c = m then A else A.map (·.add j)) n' c').ownBlock = (Value.slice A n c).ownBlock := by
 cases A with
 | none => split <;> rfl
 | some a => split <;> simp [Value.ownBlock, add_block]
theorem TF.cut {P : Nat → Prop} {w0 w W : World} {g : Nat} {cs : Array Value} {A5 A6 : Option Addr} {n5 c5 n6 c6 : Nat} {xs ys : List Int} (h : TF P w0 w W g cs (.slice A5 n5 c5) xs (.slice A6 n6 c6) ys) {m : Nat} (hm : m ≤ xs.length) (hm6 : m ≤ ys.length) :
  TF P w0 w W g cs (.slice (if c5 = m then A5 else A5.map (·.add (m * 1))) (n5 - m) (c5 - m)) (xs.drop m) (.slice (if c6 = m then A6 else A6.map (·.add (m * 1))) (n6 - m) (c6 - m)) (ys.drop m) := by
 obtain ⟨h1, h2, h3, h4, h5, h6, h7, h8⟩ := h
 refine ⟨h1, h2, h3, h4, Kd.Q_drop h5 hm, Kd.Q_mono (Kd.Q_drop h6 hm6) (fun k hk => ⟨hk.1, ?_⟩), h7, h8⟩
 rw [own_cut A5 n5 c5]
 exact hk.2
theorem IsS88P.pg {P : Nat → Prop} {w0 W : World} {g : Nat} {f0 f1 f2 f3 f4 : Int} {f5 f6 : List Int} {f7 : Int} (h : IsS88P P w0 W g f0 f1 f2 f3 f4 f5 f6 f7) : P g := by
 obtain ⟨A5, c5, A6, c6, _, _, _, _, h⟩ := h
 exact h
theorem TF.of_state {P : Nat → Prop} {w0 w W : World} {g : Nat} {f0 f1 f2 f3 f4 : Int} {f5 f6 : List Int} {f7 : Int} (h : IsS88P P w0 W g f0 f1 f2 f3 f4 f5 f6 f7) (hPf : ∀ j, w.heap.size ≤ j → P j) (hB : Below w0.heap.size w0 W) (hK : Kept w W P) :
  ∃ A5 c5 A6 c6, TF P w0 w W g #[.int .i64 f0, .int .i64 f1, .int .i64 f2, .int .i64 f3, .int .i64 f4, .slice A5 f5.length c5, .slice A6 f6.length c6, .int .i64 f7] (.slice A5 f5.length c5) f5 (.slice A6 f6.length c6) f6 := by
 obtain ⟨A5, c5, A6, c6, hb, hg, h5, h6, hp⟩ := h
 exact ⟨A5, c5, A6, c6, hb, hg, hp, hPf, h5, h6, hB, hK⟩
theorem TF.to_state {P : Nat → Prop} {w0 w W : World} {g : Nat} {A5 A6 : Option Addr} {c5 c6 : Nat} {f0 f1 f2 f3 f4 : Int} {f5 f6 : List Int} {f7 : Int} (h : TF P w0 w W g #[.int .i64 f0, .int .i64 f1, .int .i64 f2, .int .i64 f3, .int .i64 f4, .slice A5 f5.length c5, .slice A6 f6.length c6, .int .i64 f7] (.slice A5 f5.length c5) f5 (.slice A6 f6.length c6) f6) : IsS88P P w0 W g f0 f1 f2 f3 f4 f5 f6 f7 :=
 ⟨A5, c5, A6, c6, h.1, h.2.1, h.2.2.2.2.1, h.2.2.2.2.2.1, h.2.2.1⟩
theorem TF.reads5 {P : Nat → Prop} {w0 w W : World} {g : Nat} {cs : Array Value} {A5 : Option Addr} {n5 c5 : Nat} {v6 : Value} {xs ys : List Int} (h : TF P w0 w W g cs (.slice A5 n5 c5) xs v6 ys) : n5 = xs.length ∧ n5 ≤ c5 ∧ Kd.C (Kd.int .i64) W A5 xs.length xs := Kd.Q_reads' h.2.2.2.2.1
theorem TF.reads6 {P : Nat → Prop} {w0 w W : World} {g : Nat} {cs : Array Value} {A6 : Option Addr} {n6 c6 : Nat} {v5 : Value} {xs ys : List Int} (h : TF P w0 w W g cs v5 xs (.slice A6 n6 c6) ys) : n6 = ys.length ∧ n6 ≤ c6 ∧ Kd.C (Kd.int .i64) W A6 ys.length ys := Kd.Q_reads' h.2.2.2.2.2.1
def trend_Trend_Slope.f (k : Nat) (s0_0 : Int) (s0_1 : Int) (s0_2 : Int) (s0_3 : Int) (s0_4 : Int) (s0_5 : List Int) (s0_6 : List Int) (s0_7 : Int) : Option (Int × Int × Int × Int × Int × Int × List Int × List Int × Int) := if (s0_5.length : Int) < s0_0 then (some (0, s0_0, s0_1, s0_2, s0_3, s0_4, s0_5, s0_6, s0_7)) else ((trend_Line.f k s0_5 s0_6).bind fun t => (some (t, s0_0, s0_1, s0_2, s0_3, s0_4, s0_5, s0_6, s0_7)))
theorem trend_Trend_Slope.mono : ∀ a0 a1 a2 a3 a4 a5 a6 a7 k, LeO (trend_Trend_Slope.f k a0 a1 a2 a3 a4 a5 a6 a7) (trend_Trend_Slope.f (k + 1) a0 a1 a2 a3 a4 a5 a6 a7) := by
 intro a0 a1 a2 a3 a4 a5 a6 a7 k
 unfold trend_Trend_Slope.f
 exact LeO.ite (LeO.refl _) (LeO.bind (trend_Line.mono _ _ _) (fun _ => LeO.refl _))
def trend_Trend_Slope.T1 : Bool × List (List Nat × List Nat) := (true, [([], []), ([0], [0]), ([1], [1]), ([2], [2]), ([3, 2], [2, 3]), ([4, 2], [2, 4]), ([5, 2], [2, 5]), ([6, 2], [2, 6]), ([2], [2]), ([8, 2], [2, 8]), ([9, 2], [2, 9]), ([10, 2], [2, 10]), ([7, 11, 2], [2, 7, 11]), ([2, 12], [2, 12])])
def trend_Trend_Slope.B1 : List Nat := [0, 1, 3, 7, 15, 31, 63, 127, 7, 263, 775, 1799, 4095, 8191]
theorem trend_Trend_Slope.tab1 : rtab .any (opsOf Tryd.f34 1) = trend_Trend_Slope.T1 := by kernel_rfl
theorem trend_Trend_Slope.bits1 : waitsOk trend_Trend_Slope.T1.2 trend_Trend_Slope.B1 = true := by kernel_rfl
def trend_Trend_Slope.T3 : Bool × List (List Nat × List Nat) := (true, [([], []), ([0], [0]), ([1], [1]), ([2], [2]), ([], []), ([4], [4]), ([5], [5]), ([6], [6]), ([3, 7], [3, 7]), ([8, 8, 0, 1, 2, 3, 4, 5, 6, 7, 8], [8])])
def trend_Trend_Slope.B3 : List Nat := [0, 1, 3, 7, 0, 16, 48, 112, 255, 511]
theorem trend_Trend_Slope.tab3 : rtab .any (opsOf Tryd.f34 3) = trend_Trend_Slope.T3 := by kernel_rfl
theorem trend_Trend_Slope.bits3 : waitsOk trend_Trend_Slope.T3.2 trend_Trend_Slope.B3 = true := by kernel_rfl
set_option maxHeartbeats 8000000 in
set_option maxRecDepth 100000 in
theorem trend_Trend_Slope.callsP (P : Nat → Prop) (k : Nat) (g : Nat) (s0_0 : Int) (s0_1 : Int) (s0_2 : Int) (s0_3 : Int) (s0_4 : Int) (s0_5 : List Int) (s0_6 : List Int) (s0_7 : Int) (r1 : Int) (r2 : Int) (r3 : Int) (r4 : Int) (r5 : Int) (r6 : Int) (r7 : List Int) (r8 : List Int) (r9 : Int) (w0 w : World) (hPf : ∀ j, w.heap.size ≤ j → P j) (hI : IsS88P P w0 w g s0_0 s0_1 s0_2 s0_3 s0_4 s0_5 s0_6 s0_7) (hB : Below w0.heap.size w0 w) (h : trend_Trend_Slope.f k s0_0 s0_1 s0_2 s0_3 s0_4 s0_5 s0_6 s0_7 = some (r1, r2, r3, r4, r5, r6, r7, r8, r9)) :
  Calls Tryd.prog 34 #[.pointer (some ⟨g, 0, none⟩)] w fun e w' => e = .returned (.int .i64 r1) ∧ IsS88P P w0 w' g r2 r3 r4 r5 r6 r7 r8 r9 ∧ Below w0.heap.size w0 w' ∧ Kept w w' P := by
 have hpn57_eql : ∀ (a_ : Addr) (W_ : World), (Go.binOp .eql 57 (.pointer (some a_)) (.pointer none)).run Tryd.prog W_ = .ok (.bool false) W_ := fun _ _ => by kernel_rfl
 have hnn57_eql : ∀ (W_ : World), (Go.binOp .eql 57 (.pointer none) (.pointer none)).run Tryd.prog W_ = .ok (.bool true) W_ := fun _ => by kernel_rfl
 obtain ⟨A5, c5, A6, c6, hT⟩ := TF.of_state hI hPf hB (Kept.refl w P)
 have HT := aW hT
 clear hI hT hB hPf
 have H : (if (s0_5.length : Int) < s0_0 then (some (0, s0_0, s0_1, s0_2, s0_3, s0_4, s0_5, s0_6, s0_7)) else ((trend_Line.f k s0_5 s0_6).bind fun t => (some (t, s0_0, s0_1, s0_2, s0_3, s0_4, s0_5, s0_6, s0_7)))) = some (r1, r2, r3, r4, r5, r6, r7, r8, r9) := h
 clear h
 by_cases c2 : (s0_5.length : Int) < s0_0
 ·rw [if_pos c2] at H
  have c2b0 : decide ((s0_5.length : Int) < s0_0) = true := decide_eq_true c2
  clear c2
  simp only [Option.some.injEq, Prod.mk.injEq] at H
  obtain ⟨rfl, rfl, rfl, rfl, rfl, rfl, rfl, rfl, rfl⟩ := H
  go_enter Tryd.func34, Tryd.ntmps34
  try go_wp2
  replace HT := aW (TF.drew HT.out)
  refine start_ (n := 14) (S := fun w' => w'.cell? ⟨g, 0, none⟩ = some (.int .i64 s0_0) ∧ w'.cell? ⟨g, 5, none⟩ = some (.slice A5 s0_5.length c5) ∧ w'.cell? ⟨g, 6, none⟩ = some (.slice A6 s0_6.length c6)) (ds := []) (bl 14 0) (by kernel_rfl) rfl rfl ⟨(blk_cell HT.out.1 0).trans rfl, (blk_cell HT.out.1 5).trans rfl, (blk_cell HT.out.1 6).trans rfl⟩ (fun hHeld => ?_); refine with_tabW trend_Trend_Slope.tab1 trend_Trend_Slope.bits1 (fun HT_ HW_ => ?_)
  generalize World.drew w = w1 at HT hHeld ⊢
  refine pq_ 0 3 (bl 14 1) HT_ ?_
  refine pq_ 1 4 (bl 14 3) HT_ ?_
  refine pq_ 2 5 (bl 14 7) HT_ ?_
  refine pq_ 3 6 (bl 14 15) HT_ ?_
  refine pq_ 4 7 (bl 14 31) HT_ ?_
  refine pq_ 5 8 (bl 14 63) HT_ ?_
  refine tq_ 6 9 (bl 14 127) HT_ HW_ hHeld ?_ (hr := by rintro w' ⟨s0, s1, s2⟩; go_simp; with_reducible rfl)
  refine pq_ 7 10 (bl 14 255) HT_ ?_
  refine pq_ 8 11 (bl 14 511) HT_ ?_
  refine pq_ 9 12 (bl 14 1023) HT_ ?_
  refine pq_ 10 13 (bl 14 2047) HT_ ?_
  refine tq_ 11 14 (bl 14 4095) HT_ HW_ hHeld ?_ (hr := by rintro w' ⟨s0, s1, s2⟩; go_simp; with_reducible rfl)
  refine pq_ 12 15 (bl 14 8191) HT_ ?_
  refine pq_ 13 16 (bl 14 16383) HT_ ?_
  refine done_ (done_of HT_.out (by kernel_rfl)) ?_
  go_wp2
  go_ret
  exact ⟨rfl, TF.to_state HT.out, HT.out.2.2.2.2.2.2.1, HT.out.2.2.2.2.2.2.2⟩
 ·rw [if_neg c2] at H
  have c2b0 : decide ((s0_5.length : Int) < s0_0) = false := decide_eq_false c2
  clear c2
  obtain ⟨t, A3, H⟩ := bw H
  simp only [Option.some.injEq, Prod.mk.injEq] at H
  obtain ⟨rfl, rfl, rfl, rfl, rfl, rfl, rfl, rfl, rfl⟩ := H
  go_enter Tryd.func34, Tryd.ntmps34
  try go_wp2
  replace HT := aW (TF.drew HT.out)
  refine start_ (n := 14) (S := fun w' => w'.cell? ⟨g, 0, none⟩ = some (.int .i64 s0_0) ∧ w'.cell? ⟨g, 5, none⟩ = some (.slice A5 s0_5.length c5) ∧ w'.cell? ⟨g, 6, none⟩ = some (.slice A6 s0_6.length c6)) (ds := []) (bl 14 0) (by kernel_rfl) rfl rfl ⟨(blk_cell HT.out.1 0).trans rfl, (blk_cell HT.out.1 5).trans rfl, (blk_cell HT.out.1 6).trans rfl⟩ (fun hHeld => ?_); refine with_tabW trend_Trend_Slope.tab1 trend_Trend_Slope.bits1 (fun HT_ HW_ => ?_)
  generalize World.drew w = w1 at HT hHeld ⊢
  refine pq_ 0 3 (bl 14 1) HT_ ?_
  refine pq_ 1 4 (bl 14 3) HT_ ?_
  refine pq_ 2 5 (bl 14 7) HT_ ?_
  refine pq_ 3 6 (bl 14 15) HT_ ?_
  refine pq_ 4 7 (bl 14 31) HT_ ?_
  refine pq_ 5 8 (bl 14 63) HT_ ?_
  refine tq_ 6 9 (bl 14 127) HT_ HW_ hHeld ?_ (hr := by rintro w' ⟨s0, s1, s2⟩; go_simp; with_reducible rfl)
  refine pq_ 7 10 (bl 14 255) HT_ ?_
  refine pq_ 8 11 (bl 14 511) HT_ ?_
  refine pq_ 9 12 (bl 14 1023) HT_ ?_
  refine pq_ 10 13 (bl 14 2047) HT_ ?_
  refine tq_ 11 14 (bl 14 4095) HT_ HW_ hHeld ?_ (hr := by rintro w' ⟨s0, s1, s2⟩; go_simp; with_reducible rfl)
  refine pq_ 12 15 (bl 14 8191) HT_ ?_
  refine pq_ 13 16 (bl 14 16383) HT_ ?_
  refine done_ (done_of HT_.out (by kernel_rfl)) ?_
  try go_wp2
  replace HT := aW (TF.drew HT.out)
  refine start_ (n := 10) (S := fun w' => w'.cell? ⟨g, 0, none⟩ = some (.int .i64 s0_0) ∧ w'.cell? ⟨g, 5, none⟩ = some (.slice A5 s0_5.length c5) ∧ w'.cell? ⟨g, 6, none⟩ = some (.slice A6 s0_6.length c6)) (ds := []) (bl 10 0) (by kernel_rfl) rfl rfl ⟨(blk_cell HT.out.1 0).trans rfl, (blk_cell HT.out.1 5).trans rfl, (blk_cell HT.out.1 6).trans rfl⟩ (fun hHeld => ?_); refine with_tabW trend_Trend_Slope.tab3 trend_Trend_Slope.bits3 (fun HT_ HW_ => ?_)
  generalize World.drew w1 = w2 at HT hHeld ⊢
  refine pq_ 0 17 (bl 10 1) HT_ ?_
  refine pq_ 1 18 (bl 10 3) HT_ ?_
  refine pq_ 2 19 (bl 10 7) HT_ ?_
  refine tq_ 3 20 (bl 10 15) HT_ HW_ hHeld ?_ (hr := by rintro w' ⟨s0, s1, s2⟩; go_simp; with_reducible rfl)
  refine pq_ 4 21 (bl 10 31) HT_ ?_
  refine pq_ 5 22 (bl 10 63) HT_ ?_
  refine pq_ 6 23 (bl 10 127) HT_ ?_
  refine tq_ 7 24 (bl 10 255) HT_ HW_ hHeld ?_ (hr := by rintro w' ⟨s0, s1, s2⟩; go_simp; with_reducible rfl)
  refine one_ (i := 8) (N := some 25) (bl 10 511) rfl rfl (one_of HT_.out (by kernel_rfl)) (by decide) (fun K hK => ?_)
  refine gD_ Tryd.func46 #[.slice A5 s0_5.length c5, .slice A6 s0_6.length c6] ?_
  with_reducible refine (trend_Line.calls k A5 c5 s0_5 A6 c6 s0_6 t _ (TF.reads5 HT.out).2.2 (TF.reads5 HT.out).2.1 (TF.reads6 HT.out).2.2 (TF.reads6 HT.out).2.1 A3.out).mono ?_
  rintro e w3 ⟨rfl, hb⟩
  refine ⟨_, rfl, ?_⟩
  replace HT := aW (TF.below HT.out hb)
  clear hb
  refine hK.out _ _ ⟨(blk_cell HT.out.1 0).trans rfl, (blk_cell HT.out.1 5).trans rfl, (blk_cell HT.out.1 6).trans rfl⟩ (fun hHeld => ?_)
  clear hK K
  refine no_ 25 ?_
  refine pq_ 9 2 (bl 10 1023) HT_ ?_
  refine done_ (done_of HT_.out (by kernel_rfl)) ?_
  try go_wp2
  go_ret
  exact ⟨rfl, TF.to_state HT.out, HT.out.2.2.2.2.2.2.1, HT.out.2.2.2.2.2.2.2⟩
end Go.Proofs.YtphgeljglhjamaaDoor.P
end

section
namespace Go.Proofs.YtphgeljglhjamaaDoor.P
open Go.RowKit Go.Proofs.YtphgeljglhjamaaDoorW.PrintWords Go.Proofs.YtphgeljglhjamaaDoorW.PrintLast Go.Proofs.YtphgeljglhjamaaDoorW.PrintMore
attribute [local go_sem] max2_int min2_int max_two min_two max_three min_three max_four min_four
set_option linter.unusedVariables false
set_option linter.unusedSimpArgs false
def trend_Trend_Add.f (k : Nat) (s0_0 : Int) (s0_1 : Int) (s0_2 : Int) (s0_3 : Int) (s0_4 : Int) (s0_5 : List Int) (s0_6 : List Int) (s0_7 : Int) (a1 : Int) (a2 : Int) : Option (Int × Int × Int × Int × Int × Int × List Int × List Int × Int) := (sat_Clamp.f a1 (-1125899906842624) 1125899906842624).bind fun t206 => ((sat_Clamp.f a2 (-1125899906842624) 1125899906842624).bind fun t207 => ((sat_Add.f k s0_2 (wrap64 (t207 - t206))).bind fun t208 => ((fixed_Mix.f k t208 s0_3 s0_1).bind fun t209 => ((sat_Add.f k s0_4 t206).bind fun t210 => (if s0_5.length = s0_6.length ∧ s0_5.length < 17592186044416 then (if 0 < wrap64 (((s0_5 ++ [t210]).length : Int) - s0_0) then (if wrap64 (((s0_5 ++ [t210]).length : Int) - s0_0) ≤ ((s0_5 ++ [t210]).length : Int) then trend_Trend_Slope.f k s0_0 s0_1 t208 t209 t210 ((s0_5 ++ [t210]).drop (wrap64 (((s0_5 ++ [t210]).length : Int) - s0_0)).toNat) ((s0_6 ++ [t209]).drop (wrap64 (((s0_5 ++ [t210]).length : Int) - s0_0)).toNat) (mn (wrap64 (s0_7 + 1)) 1000) else none) else trend_Trend_Slope.f k s0_0 s0_1 t208 t209 t210 (s0_5 ++ [t210]) (s0_6 ++ [t209]) (mn (wrap64 (s0_7 + 1)) 1000)) else none)))))
theorem trend_Trend_Add.mono : ∀ a0 a1 a2 a3 a4 a5 a6 a7 a8 a9 k, LeO (trend_Trend_Add.f k a0 a1 a2 a3 a4 a5 a6 a7 a8 a9) (trend_Trend_Add.f (k + 1) a0 a1 a2 a3 a4 a5 a6 a7 a8 a9) := by
 intro a0 a1 a2 a3 a4 a5 a6 a7 a8 a9 k
 unfold trend_Trend_Add.f
 exact LeO.bind (LeO.refl _) (fun _ => LeO.bind (LeO.refl _) (fun _ => LeO.bind (sat_Add.mono _ _ _) (fun _ => LeO.bind (fixed_Mix.mono _ _ _ _) (fun _ => LeO.bind (sat_Add.mono _ _ _) (fun _ => LeO.ite (LeO.ite (LeO.ite (trend_Trend_Slope.mono _ _ _ _ _ _ _ _ _) (LeO.none _)) (trend_Trend_Slope.mono _ _ _ _ _ _ _ _ _)) (LeO.none _))))))
def trend_Trend_Add.T6 : Bool × List (List Nat × List Nat) := (true, [([], []), ([], []), ([1], [1]), ([2], [2]), ([3], [3]), ([], []), ([5], [5]), ([6], [6]), ([7], [7]), ([], []), ([9], [9]), ([10], [10]), ([11], [11]), ([4, 8, 12], [4, 8, 12]), ([0, 0, 1, 2, 3, 4, 5, 6, 7, 8, 9, 10, 11, 12, 13], [0]), ([14, 0, 1, 2, 3, 4, 5, 6, 7, 8, 9, 10, 11, 12, 13], [14]), ([15, 13, 13, 0, 1, 2, 3, 4, 5, 6, 7, 8, 9, 10, 11, 12, 13], [13, 15])])
def trend_Trend_Add.B6 : List Nat := [0, 0, 2, 6, 14, 0, 32, 96, 224, 0, 512, 1536, 3584, 8190, 16383, 32767, 65535]
theorem trend_Trend_Add.tab6 : rtab .any (opsOf Tryd.f20 6) = trend_Trend_Add.T6 := by kernel_rfl
theorem trend_Trend_Add.bits6 : waitsOk trend_Trend_Add.T6.2 trend_Trend_Add.B6 = true := by kernel_rfl
def trend_Trend_Add.T8 : Bool × List (List Nat × List Nat) := (true, [([], []), ([], []), ([], []), ([2], [2]), ([3], [3]), ([4], [4]), ([], []), ([6], [6]), ([7], [7]), ([8], [8]), ([9], [9]), ([5, 10], [5, 10]), ([], []), ([12], [12]), ([13], [13]), ([14], [14]), ([], []), ([16], [16]), ([17], [17]), ([18], [18]), ([19], [19]), ([15, 20, 11], [15, 20]), ([0, 0, 2, 3, 4, 5, 6, 7, 8, 9, 10, 11, 15, 19, 21], [0]), ([22, 0, 2, 3, 4, 5, 6, 7, 8, 9, 10, 11, 15, 19, 21], [22]), ([23, 11, 21, 0, 2, 3, 4, 5, 6, 7, 8, 9, 10, 11, 15, 19, 21], [11, 23]), ([1, 0, 1, 2, 3, 4, 5, 6, 7, 8, 9, 10, 11, 12, 13, 14, 15, 16, 17, 18, 19, 20, 21, 22, 23, 24], [1]), ([25, 0, 1, 2, 3, 4, 5, 6, 7, 8, 9, 10, 11, 12, 13, 14, 15, 16, 17, 18, 19, 20, 21, 22, 23, 24], [25]), ([26, 21, 24, 0, 1, 2, 3, 4, 5, 6, 7, 8, 9, 10, 11, 12, 13, 14, 15, 16, 17, 18, 19, 20, 21, 22, 23, 24], [21, 26])])
def trend_Trend_Add.B8 : List Nat := [0, 0, 0, 4, 12, 28, 0, 64, 192, 448, 960, 2044, 0, 4096, 12288, 28672, 0, 65536, 196608, 458752, 983040, 2097148, 4194301, 8388605, 16777213, 33554431, 67108863, 134217727]
theorem trend_Trend_Add.tab8 : rtab .any (opsOf Tryd.f20 8) = trend_Trend_Add.T8 := by kernel_rfl
theorem trend_Trend_Add.bits8 : waitsOk trend_Trend_Add.T8.2 trend_Trend_Add.B8 = true := by kernel_rfl
def trend_Trend_Add.T9 : Bool × List (List Nat × List Nat) := (true, [([], []), ([0], [0]), ([1], [1]), ([2], [2]), ([3], [3]), ([], []), ([5], [5]), ([6], [6]), ([7], [7]), ([4, 8], [4, 8]), ([9, 0, 1, 2, 3, 4, 5, 6, 7, 8, 9], [9])])
def trend_Trend_Add.B9 : List Nat := [0, 1, 3, 7, 15, 0, 32, 96, 224, 511, 1023]
theorem trend_Trend_Add.tab9 : rtab .any (opsOf Tryd.f20 9) = trend_Trend_Add.T9 := by kernel_rfl
theorem trend_Trend_Add.bits9 : waitsOk trend_Trend_Add.T9.2 trend_Trend_Add.B9 = true := by kernel_rfl
def trend_Trend_Add.T11 : Bool × List (List Nat × List Nat) := (true, [([], []), ([], []), ([], []), ([2], [2]), ([3], [3]), ([4], [4]), ([], []), ([5, 6], [5, 6]), ([], []), ([8], [8]), ([9], [9]), ([10], [10]), ([], []), ([11, 12], [11, 12]), ([0, 0, 2, 3, 4, 5, 6, 7, 11], [0]), ([14, 0, 2, 3, 4, 5, 6, 7, 11], [14]), ([15, 7, 0, 2, 3, 4, 5, 6, 7, 11], [7, 15]), ([1, 0, 1, 2, 3, 4, 5, 6, 7, 8, 9, 10, 11, 12, 13, 14, 15, 16], [1]), ([17, 0, 1, 2, 3, 4, 5, 6, 7, 8, 9, 10, 11, 12, 13, 14, 15, 16], [17]), ([18, 13, 16, 0, 1, 2, 3, 4, 5, 6, 7, 8, 9, 10, 11, 12, 13, 14, 15, 16], [13, 18])])
def trend_Trend_Add.B11 : List Nat := [0, 0, 0, 4, 12, 28, 0, 124, 0, 256, 768, 1792, 0, 7936, 4093, 20477, 53245, 131071, 262143, 524287]
theorem trend_Trend_Add.tab11 : rtab .any (opsOf Tryd.f20 11) = trend_Trend_Add.T11 := by kernel_rfl
theorem trend_Trend_Add.bits11 : waitsOk trend_Trend_Add.T11.2 trend_Trend_Add.B11 = true := by kernel_rfl
set_option maxHeartbeats 16000000 in
set_option maxRecDepth 100000 in
theorem trend_Trend_Add.callsP (P : Nat → Prop) (k : Nat) (g : Nat) (s0_0 : Int) (s0_1 : Int) (s0_2 : Int) (s0_3 : Int) (s0_4 : Int) (s0_5 : List Int) (s0_6 : List Int) (s0_7 : Int) (a1 : Int) (a2 : Int) (r1 : Int) (r2 : Int) (r3 : Int) (r4 : Int) (r5 : Int) (r6 : Int) (r7 : List Int) (r8 : List Int) (r9 : Int) (w0 w : World) (hPf : ∀ j, w.heap.size ≤ j → P j) (hI : IsS88P P w0 w g s0_0 s0_1 s0_2 s0_3 s0_4 s0_5 s0_6 s0_7) (hB : Below w0.heap.size w0 w) (h : trend_Trend_Add.f k s0_0 s0_1 s0_2 s0_3 s0_4 s0_5 s0_6 s0_7 a1 a2 = some (r1, r2, r3, r4, r5, r6, r7, r8, r9)) :
  Calls Tryd.prog 20 #[.pointer (some ⟨g, 0, none⟩), .int .i64 a1, .int .i64 a2] w fun e w' => e = .returned (.int .i64 r1) ∧ IsS88P P w0 w' g r2 r3 r4 r5 r6 r7 r8 r9 ∧ Below w0.heap.size w0 w' ∧ Kept w w' P := by
 have hpn57_eql : ∀ (a_ : Addr) (W_ : World), (Go.binOp .eql 57 (.pointer (some a_)) (.pointer none)).run Tryd.prog W_ = .ok (.bool false) W_ := fun _ _ => by kernel_rfl
 have hnn57_eql : ∀ (W_ : World), (Go.binOp .eql 57 (.pointer none) (.pointer none)).run Tryd.prog W_ = .ok (.bool true) W_ := fun _ => by kernel_rfl
 have hPg := hI.pg
 have HI0 := aW hI
 have HK := aW (Kept.refl w P)
 have HL := aW hB.size
 have HB := aW hB
 clear hI hB
 simp only [trend_Trend_Add.f, Option.bind_eq_some_iff] at h
 obtain ⟨t206, A4_, t207, A5_, t208, A6_, t209, A7_, t210, A8_, H⟩ := h
 have A4 := aW A4_
 clear A4_
 have A5 := aW A5_
 clear A5_
 have A6 := aW A6_
 clear A6_
 have A7 := aW A7_
 clear A7_
 have A8 := aW A8_
 clear A8_
 by_cases hl : s0_5.length = s0_6.length ∧ s0_5.length < 17592186044416
 rotate_left
 ·rw [if_neg hl] at H; exact absurd H (by simp)
 rw [if_pos hl] at H
 have HLN := aW hl
 clear hl
 have HH := aW H
 clear H
 obtain ⟨cnt, hcnt⟩ : ∃ j_ : Int, (mn (wrap64 (s0_7 + 1)) 1000) = j_ := ⟨_, rfl⟩
 rw [hcnt] at HH
 have hcnt_ : (if 1000 < (wrap64 (s0_7 + 1)) then 1000 else (wrap64 (s0_7 + 1))) = cnt := hcnt
 clear hcnt
 go_enter Tryd.func20, Tryd.ntmps20
 try go_wp2_with (first | ((with_reducible refine gate_callee (f := 23) rfl ?_); refine gL_ 11 Tryd.func23 #[.int .i64 a1, .int .i64 (-1125899906842624), .int .i64 1125899906842624] ?_; (with_reducible refine (sat_Clamp.calls a1 (-1125899906842624) 1125899906842624 t206 _ A4.out).mono ?_); rintro e w' ⟨rfl, ⟨nd, rfl⟩⟩; refine ⟨_, rfl, ?_⟩; (generalize hq_ : World.drewN w _ = w11; have n0_ : Aside0 (IsS88P P w0 w11 g s0_0 s0_1 s0_2 s0_3 s0_4 s0_5 s0_6 s0_7) := ⟨o12⟩; have n1_ : Aside0 (Kept w w11 P) := ⟨by rw [← hq_]; exact o68⟩; have n2_ : Aside0 (Below w0.heap.size w0 w11) := ⟨by rw [← hq_]; exact o46⟩; clear HI0 HK HB hq_; have HI0 := n0_; have HK := n1_; have HB := n2_; clear n0_ n1_ n2_)) | ((with_reducible refine gate_callee (f := 23) rfl ?_); refine gL_ 13 Tryd.func23 #[.int .i64 a2, .int .i64 (-1125899906842624), .int .i64 1125899906842624] ?_; (with_reducible refine (sat_Clamp.calls a2 (-1125899906842624) 1125899906842624 t207 _ A5.out).mono ?_); rintro e w' ⟨rfl, ⟨nd, rfl⟩⟩; refine ⟨_, rfl, ?_⟩; (try (rw [drewN_self w11]; generalize hq_ : World.drewN w11 _ = w11; have n0_ : Aside0 (IsS88P P w0 w11 g s0_0 s0_1 s0_2 s0_3 s0_4 s0_5 s0_6 s0_7) := ⟨o12⟩; have n1_ : Aside0 (Kept w w11 P) := ⟨by rw [← hq_]; exact o68⟩; have n2_ : Aside0 (Below w0.heap.size w0 w11) := ⟨by rw [← hq_]; exact o46⟩; clear HI0 HK HB hq_; have HI0 := n0_; have HK := n1_; have HB := n2_; clear n0_ n1_ n2_)); obtain ⟨ASz12_5, cSz12_5, ASz12_6, cSz12_6, HGz12, hgz12, HSz12_5, HSz12_6⟩ := HI0.out; have hcz12_0 := cellS88_0 HGz12; have hcz12_1 := cellS88_1 HGz12; have hcz12_2 := cellS88_2 HGz12; have hcz12_3 := cellS88_3 HGz12; have hcz12_4 := cellS88_4 HGz12; have hcz12_5 := cellS88_5 HGz12; have hcz12_6 := cellS88_6 HGz12; have hcz12_7 := cellS88_7 HGz12; have hfz12_0 := blk_frozen HGz12 0; have hfz12_1 := blk_frozen HGz12 1; have hfz12_2 := blk_frozen HGz12 2; have hfz12_3 := blk_frozen HGz12 3; have hfz12_4 := blk_frozen HGz12 4; have hfz12_5 := blk_frozen HGz12 5; have hfz12_6 := blk_frozen HGz12 6; have hfz12_7 := blk_frozen HGz12 7; clear HGz12 hgz12) | ((with_reducible refine gate_callee (f := 32) rfl ?_); refine gL_ 22 Tryd.func32 #[.int .i64 s0_2, .int .i64 (wrap64 (t207 - t206))] ?_; (with_reducible refine (sat_Add.calls k s0_2 (wrap64 (t207 - t206)) t208 _ A6.out).mono ?_); rintro e w13 ⟨rfl, hb⟩; refine ⟨_, rfl, ?_⟩; replace HB := aW (below_step o46 hb); replace HK := aW (Kept.below (S := P) o68 hb); replace HI0 := aW (IsS88P.below o15 hb); (try clear hb); (try clear hb2); (try clear hk); (try clear hi); obtain ⟨ASz14_5, cSz14_5, ASz14_6, cSz14_6, HGz14, hgz14, HSz14_5, HSz14_6⟩ := HI0.out; have hcz14_0 := cellS88_0 HGz14; have hcz14_1 := cellS88_1 HGz14; have hcz14_2 := cellS88_2 HGz14; have hcz14_3 := cellS88_3 HGz14; have hcz14_4 := cellS88_4 HGz14; have hcz14_5 := cellS88_5 HGz14; have hcz14_6 := cellS88_6 HGz14; have hcz14_7 := cellS88_7 HGz14; have hfz14_0 := blk_frozen HGz14 0; have hfz14_1 := blk_frozen HGz14 1; have hfz14_2 := blk_frozen HGz14 2; have hfz14_3 := blk_frozen HGz14 3; have hfz14_4 := blk_frozen HGz14 4; have hfz14_5 := blk_frozen HGz14 5; have hfz14_6 := blk_frozen HGz14 6; have hfz14_7 := blk_frozen HGz14 7; clear HGz14 hgz14))
 have n0_ : Aside0 (IsS88P P w0 (w13.setCell ⟨g, 2, none⟩ (.int .i64 t208)) g s0_0 s0_1 t208 s0_3 s0_4 s0_5 s0_6 s0_7) := ⟨by repeat (first | (with_reducible first | exact HI0.out | apply IsS88P.alloc | apply IsS88P.drewN | apply IsS88P.drew | apply IsS88P.set_0 | apply IsS88P.set_1 | apply IsS88P.set_2 | apply IsS88P.set_3 | apply IsS88P.set_4 | apply IsS88P.set_5 | apply IsS88P.set_6 | apply IsS88P.set_7) | exact HI0.out)⟩
 have n1_ : Aside0 (Kept w (w13.setCell ⟨g, 2, none⟩ (.int .i64 t208)) P) := ⟨by repeat (first | (with_reducible first | exact HK.out | refine kp_set hPg ?_ | apply Kept.drewN | apply Kept.drew | apply Kept.alloc) | exact HK.out)⟩
 have n2_ : Aside0 (Below w0.heap.size w0 (w13.setCell ⟨g, 2, none⟩ (.int .i64 t208))) := ⟨by repeat (first | (with_reducible first | exact HB.out | apply below_alloc | apply pw_below_drewN | apply below_drew1 | refine below_set ?_ (IsS88P.ge HI0.out)) | exact HB.out)⟩
 (try clear HI0)
 (try clear HK)
 (try clear HB)
 generalize (w13.setCell ⟨g, 2, none⟩ (.int .i64 t208)) = w15 at n0_ n1_ n2_ ⊢
 have HI0 := n0_
 have HK := n1_
 have HB := n2_
 clear n0_ n1_ n2_
 replace HB := aW (below_drew1 HB.out)
 replace HK := aW (Kept.drew HK.out)
 replace HI0 := aW (IsS88P.drew HI0.out)
 refine start_ (n := 17) (S := fun w' => w'.cell? ⟨g, 0, none⟩ = some (.int .i64 s0_0) ∧ w'.cell? ⟨g, 1, none⟩ = some (.int .i64 s0_1) ∧ w'.cell? ⟨g, 2, none⟩ = some (.int .i64 t208) ∧ w'.cell? ⟨g, 3, none⟩ = some (.int .i64 s0_3) ∧ w'.cell? ⟨g, 4, none⟩ = some (.int .i64 s0_4) ∧ w'.cell? ⟨g, 7, none⟩ = some (.int .i64 s0_7)) (ds := [16]) (bl 17 0) (by kernel_rfl) rfl rfl ⟨(IsS88P.cell_0 HI0.out), (IsS88P.cell_1 HI0.out), (IsS88P.cell_2 HI0.out), (IsS88P.cell_3 HI0.out), (IsS88P.cell_4 HI0.out), (IsS88P.cell_7 HI0.out)⟩ (fun hHeld => ?_); refine with_tabW trend_Trend_Add.tab6 trend_Trend_Add.bits6 (fun HT_ HW_ => ?_)
 generalize w15.drew = w16 at HI0 HK HB hHeld ⊢
 refine pq_ 0 25 (bl 17 1) HT_ ?_
 refine pq_ 1 26 (bl 17 3) HT_ ?_
 refine pq_ 2 27 (bl 17 7) HT_ ?_
 refine pq_ 3 28 (bl 17 15) HT_ ?_
 refine pq_ 5 30 (bl 17 47) HT_ ?_
 refine pq_ 6 31 (bl 17 111) HT_ ?_
 refine pq_ 7 32 (bl 17 239) HT_ ?_
 refine pq_ 9 34 (bl 17 751) HT_ ?_
 refine pq_ 10 35 (bl 17 1775) HT_ ?_
 refine pq_ 11 36 (bl 17 3823) HT_ ?_
 refine tq_ 4 29 (bl 17 3839) HT_ HW_ hHeld ?_ (hr := by rintro w' ⟨s0, s1, s2, s3, s4, s5⟩; go_simp; with_reducible rfl)
 refine tq_ 8 33 (bl 17 4095) HT_ HW_ hHeld ?_ (hr := by rintro w' ⟨s0, s1, s2, s3, s4, s5⟩; go_simp; with_reducible rfl)
 refine tq_ 12 37 (bl 17 8191) HT_ HW_ hHeld ?_ (hr := by rintro w' ⟨s0, s1, s2, s3, s4, s5⟩; go_simp; with_reducible rfl)
 refine one_ (i := 13) (N := some 38) (bl 17 16383) rfl rfl (one_of HT_.out (by kernel_rfl)) (by decide) (fun K hK => ?_)
 refine goes_ Tryd.func33 (by kernel_rfl) rfl #[.int .i64 t208, .int .i64 s0_3, .int .i64 s0_1] (by rfl) rfl rfl o72 ?_
 with_reducible refine (fixed_Mix.calls k t208 s0_3 s0_1 t209 _ A7.out).mono ?_
 rintro e w17 ⟨rfl, hb⟩
 refine ⟨_, rfl, ?_⟩
 replace HB := aW (below_step o46 hb)
 replace HK := aW (Kept.below (S := P) o68 hb)
 replace HI0 := aW (IsS88P.below o15 hb)
 (try clear hb)
 (try clear hb2)
 (try clear hk)
 (try clear hi)
 refine hK.out _ _ ⟨(IsS88P.cell_0 HI0.out), (IsS88P.cell_1 HI0.out), (IsS88P.cell_2 HI0.out), (IsS88P.cell_3 HI0.out), (IsS88P.cell_4 HI0.out), (IsS88P.cell_7 HI0.out)⟩ (fun hHeld => ?_)
 clear hK K
 refine no_ 38 ?_
 refine pq_ 14 39 (bl 17 32767) HT_ ?_
 refine pq_ 15 40 (bl 17 65535) HT_ ?_
 refine last_ (i := 16) (N := none) (bl 17 131071) rfl rfl (one_of HT_.out (by kernel_rfl)) (by decide) (fun K hK => ?_)
 have hs18 : w17.cell? ⟨g, 3, none⟩ = some (.int .i64 s0_3) := IsS88P.cell_3 HI0.out
 have hfs18 := IsS88P.froz_3 HI0.out
 refine skip_ (w1 := ?_) (by rfl) rfl ?_ ?_
 rotate_left
 ·go_simp
  rfl
 refine hK.out _ _ ?_
 clear hK K
 refine done_ (done_of HT_.out (by kernel_rfl)) ?_
 obtain ⟨ASz19_5, cSz19_5, ASz19_6, cSz19_6, HGz19, hgz19, HSz19_5, HSz19_6⟩ := HI0.out
 obtain ⟨hcz19_0, hfz19_0, hcz19_1, hfz19_1, hcz19_2, hfz19_2, hcz19_3, hfz19_3, hcz19_4, hfz19_4, hcz19_5, hfz19_5, hcz19_6, hfz19_6, hcz19_7, hfz19_7⟩ := bp8 HGz19
 clear HGz19 hgz19
 go_wp2_with (first | ((with_reducible refine gate_callee (f := 32) rfl ?_); refine gL_ 47 Tryd.func32 #[.int .i64 s0_4, .int .i64 t206] ?_; (with_reducible refine (sat_Add.calls k s0_4 t206 t210 _ A8.out).mono ?_); rintro e w20 ⟨rfl, hb⟩; refine ⟨_, rfl, ?_⟩; replace HB := aW (below_step o46 hb); replace HK := aW (Kept.below (show Kept w (w17.setCell ⟨g, 3, none⟩ (.int .i64 t209)) P from by repeat (first | (with_reducible first | exact HK.out | refine kp_set hPg ?_ | apply Kept.drewN | apply Kept.drew | apply Kept.alloc) | exact HK.out)) hb); replace HI0 := aW (IsS88P.below (show IsS88P P w0 (w17.setCell ⟨g, 3, none⟩ (.int .i64 t209)) g s0_0 s0_1 t208 t209 s0_4 s0_5 s0_6 s0_7 from by repeat (first | (with_reducible first | exact HI0.out | apply IsS88P.alloc | apply IsS88P.drewN | apply IsS88P.drew | apply IsS88P.set_0 | apply IsS88P.set_1 | apply IsS88P.set_2 | apply IsS88P.set_3 | apply IsS88P.set_4 | apply IsS88P.set_5 | apply IsS88P.set_6 | apply IsS88P.set_7) | exact HI0.out)) hb); (try clear hb); (try clear hb2); (try clear hk); (try clear hi); obtain ⟨ASz21_5, cSz21_5, ASz21_6, cSz21_6, HGz21, hgz21, HSz21_5, HSz21_6⟩ := HI0.out; have hcz21_0 := cellS88_0 HGz21; have hcz21_1 := cellS88_1 HGz21; have hcz21_2 := cellS88_2 HGz21; have hcz21_3 := cellS88_3 HGz21; have hcz21_4 := cellS88_4 HGz21; have hcz21_5 := cellS88_5 HGz21; have hcz21_6 := cellS88_6 HGz21; have hcz21_7 := cellS88_7 HGz21; have hfz21_0 := blk_frozen HGz21 0; have hfz21_1 := blk_frozen HGz21 1; have hfz21_2 := blk_frozen HGz21 2; have hfz21_3 := blk_frozen HGz21 3; have hfz21_4 := blk_frozen HGz21 4; have hfz21_5 := blk_frozen HGz21 5; have hfz21_6 := blk_frozen HGz21 6; have hfz21_7 := blk_frozen HGz21 7; clear HGz21 hgz21))
 have hIx : IsS88P P w0 (w20.setCell ⟨g, 4, none⟩ (.int .i64 t210)) g s0_0 s0_1 t208 t209 t210 s0_5 s0_6 s0_7 := by repeat (first | (with_reducible first | exact HI0.out | apply IsS88P.set_3 | apply IsS88P.set_4) | exact HI0.out)
 have hBx : Below w0.heap.size w0 (w20.setCell ⟨g, 4, none⟩ (.int .i64 t210)) := by repeat (first | (with_reducible first | exact HB.out | refine below_set ?_ (IsS88P.ge HI0.out)) | exact HB.out)
 have hKx : Kept w (w20.setCell ⟨g, 4, none⟩ (.int .i64 t210)) P := by repeat (first | (with_reducible first | exact HK.out | refine kp_set hPg ?_) | exact HK.out)
 clear HI0 HB HK
 generalize (w20.setCell ⟨g, 4, none⟩ (.int .i64 t210)) = w80 at hIx hBx hKx ⊢
 obtain ⟨A5, c5, A6, c6, hT⟩ := TF.of_state hIx hPf hBx hKx
 have HT := aW hT
 clear hIx hBx hKx hT
 (try clear hcz21_0 hcz21_1 hcz21_2 hcz21_3 hcz21_4 hcz21_5 hcz21_6 hcz21_7)
 replace HT := aW (TF.drew HT.out)
 refine start_ (n := 28) (S := fun w' => w'.cell? ⟨g, 3, none⟩ = some (.int .i64 t209) ∧ w'.cell? ⟨g, 4, none⟩ = some (.int .i64 t210) ∧ w'.cell? ⟨g, 5, none⟩ = some (.slice A5 s0_5.length c5) ∧ w'.cell? ⟨g, 6, none⟩ = some (.slice A6 s0_6.length c6)) (ds := [24, 27]) (bl 28 0) (by kernel_rfl) rfl rfl ⟨(blk_cell HT.out.1 3).trans rfl, (blk_cell HT.out.1 4).trans rfl, (blk_cell HT.out.1 5).trans rfl, (blk_cell HT.out.1 6).trans rfl⟩ (fun hHeld => ?_); refine with_tabW trend_Trend_Add.tab8 trend_Trend_Add.bits8 (fun HT_ HW_ => ?_)
 generalize World.drew w80 = w8 at HT hHeld ⊢
 refine pq_ 0 50 (bl 28 1) HT_ ?_
 refine pq_ 1 51 (bl 28 3) HT_ ?_
 refine pq_ 2 52 (bl 28 7) HT_ ?_
 refine pq_ 3 53 (bl 28 15) HT_ ?_
 refine pq_ 4 54 (bl 28 31) HT_ ?_
 refine tq_ 5 55 (bl 28 63) HT_ HW_ hHeld ?_ (hr := by rintro w' ⟨s0, s1, s2, s3⟩; go_simp; with_reducible rfl)
 refine pq_ 6 56 (bl 28 127) HT_ ?_
 refine pq_ 7 57 (bl 28 255) HT_ ?_
 refine pq_ 8 58 (bl 28 511) HT_ ?_
 refine tq_ 9 59 (bl 28 1023) HT_ HW_ hHeld ?_ (hr := by rintro w' ⟨s0, s1, s2, s3⟩; go_simp; with_reducible rfl)
 refine pq_ 12 62 (bl 28 5119) HT_ ?_
 refine pq_ 13 63 (bl 28 13311) HT_ ?_
 refine pq_ 14 64 (bl 28 29695) HT_ ?_
 refine tq_ 15 65 (bl 28 62463) HT_ HW_ hHeld ?_ (hr := by rintro w' ⟨s0, s1, s2, s3⟩; go_simp; with_reducible rfl)
 refine pq_ 16 66 (bl 28 127999) HT_ ?_
 refine pq_ 17 67 (bl 28 259071) HT_ ?_
 refine pq_ 18 68 (bl 28 521215) HT_ ?_
 refine tq_ 19 69 (bl 28 1045503) HT_ HW_ hHeld ?_ (hr := by rintro w' ⟨s0, s1, s2, s3⟩; go_simp; with_reducible rfl)
 refine join_ (σ := Value × Nat × Nat) 7 (bl 28 2097151) (fun s_ => [(60, .slice (some ⟨s_.2.1, 0, none⟩) 1 1), (61, s_.1), (70, .slice (some ⟨s_.2.2, 0, none⟩) 1 1)]) (fun s_ w' => (w'.cell? ⟨g, 3, none⟩ = some (.int .i64 t209) ∧ w'.cell? ⟨g, 4, none⟩ = some (.int .i64 t210) ∧ w'.cell? ⟨g, 5, none⟩ = some (.slice A5 s0_5.length c5) ∧ w'.cell? ⟨g, 6, none⟩ = some (.slice A6 s0_6.length c6)) ∧ TF P w0 w w' g #[.int .i64 s0_0, .int .i64 s0_1, .int .i64 t208, .int .i64 t209, .int .i64 t210, .slice A5 s0_5.length c5, .slice A6 s0_6.length c6, .int .i64 s0_7] s_.1 (s0_5 ++ [t210]) (.slice A6 s0_6.length c6) s0_6 ∧ w'.cell? ⟨s_.2.2, 0, none⟩ = some (.int .i64 t209)) ?_ ?_
 rotate_left
 ·intro hCont
  refine two_ (i := 10) (j := 20) (Ni := some 60) (Nj := some 70) (bl 28 1046527) (bl 28 2094079) rfl rfl rfl rfl (two_of HT_.out (by kernel_rfl)) (by decide) (by decide) (fun K hK => ?_) (fun K hK => ?_)
  ·refine value_ (v := .slice (some ⟨w8.heap.size, 0, none⟩) 1 1) (w1 := w8.alloc (.cells #[.int .i64 t210] 2)) (by rfl) rfl (by first | (go_simp; done) | (go_simp; rfl)) ?_
   have n1_ : (w8.alloc (.cells #[.int .i64 t210] 2)).cell? ⟨w8.heap.size, 0, none⟩ = some (.int .i64 t210) := (blk_cell (t := 2) (blk_new w8 (.cells #[.int .i64 t210] 2)) 0).trans rfl
   have n2_ := TF.lt5 HT.out
   replace HT := aW (TF.alloc HT.out (.cells #[.int .i64 t210] 2))
   generalize hE_ : w8.heap.size = b1 at n1_ n2_ ⊢
   clear hE_
   generalize (w8.alloc (.cells #[.int .i64 t210] 2)) = wb1 at HT n1_  ⊢
   have Hb1 := aW n1_
   have Nb1 := aW n2_
   clear n1_ n2_
   refine hK.out _ _ ⟨(blk_cell HT.out.1 3).trans rfl, (blk_cell HT.out.1 4).trans rfl, (blk_cell HT.out.1 5).trans rfl, (blk_cell HT.out.1 6).trans rfl⟩ (fun hHeld => ?_)
   clear hK K
   refine no_ 60 ?_
   refine two_ (i := 11) (j := 20) (Ni := some 61) (Nj := some 70) (bl 28 1048575) (bl 28 2095103) rfl rfl rfl rfl (two_of HT_.out (by kernel_rfl)) (by decide) (by decide) (fun K hK => ?_) (fun K hK => ?_)
   ·obtain ⟨v1, wb2, hr, hT1, hg⟩ := TF.app5 HT.out 86 t210 b1 Hb1.out HLN.out.2
    have n0_ := aW hT1
    refine app_step (by rfl) (.tmp 55) (.tmp 60) rfl rfl rfl hr ?_
    clear HT hT1 hg hr
    have HT := n0_
    clear n0_
    refine hK.out _ _ ⟨(blk_cell HT.out.1 3).trans rfl, (blk_cell HT.out.1 4).trans rfl, (blk_cell HT.out.1 5).trans rfl, (blk_cell HT.out.1 6).trans rfl⟩ (fun hHeld => ?_)
    clear hK K
    refine no_ 61 ?_
    refine one_ (i := 20) (N := some 70) (bl 28 2097151) rfl rfl (one_of HT_.out (by kernel_rfl)) (by decide) (fun K hK => ?_)
    refine value_ (v := .slice (some ⟨wb2.heap.size, 0, none⟩) 1 1) (w1 := wb2.alloc (.cells #[.int .i64 t209] 2)) (by rfl) rfl (by first | (go_simp; done) | (go_simp; rfl)) ?_
    have n1_ : (wb2.alloc (.cells #[.int .i64 t209] 2)).cell? ⟨wb2.heap.size, 0, none⟩ = some (.int .i64 t209) := (blk_cell (t := 2) (blk_new wb2 (.cells #[.int .i64 t209] 2)) 0).trans rfl
    have n2_ := TF.lt5 HT.out
    replace HT := aW (TF.alloc HT.out (.cells #[.int .i64 t209] 2))
    generalize hE_ : wb2.heap.size = b2 at n1_ n2_ ⊢
    clear hE_
    generalize (wb2.alloc (.cells #[.int .i64 t209] 2)) = wb3 at HT n1_  ⊢
    have Hb2 := aW n1_
    have Nb2 := aW n2_
    clear n1_ n2_
    refine hK.out _ _ ⟨(blk_cell HT.out.1 3).trans rfl, (blk_cell HT.out.1 4).trans rfl, (blk_cell HT.out.1 5).trans rfl, (blk_cell HT.out.1 6).trans rfl⟩ (fun hHeld => ?_)
    clear hK K
    refine no_ 70 ?_
    exact norm_ o94 (hCont (v1, b1, b2) _ ⟨hHeld, HT.out, Hb2.out⟩)
   ·refine value_ (v := .slice (some ⟨wb1.heap.size, 0, none⟩) 1 1) (w1 := wb1.alloc (.cells #[.int .i64 t209] 2)) (by rfl) rfl (by first | (go_simp; done) | (go_simp; rfl)) ?_
    have n1_ : (wb1.alloc (.cells #[.int .i64 t209] 2)).cell? ⟨wb1.heap.size, 0, none⟩ = some (.int .i64 t209) := (blk_cell (t := 2) (blk_new wb1 (.cells #[.int .i64 t209] 2)) 0).trans rfl
    have n2_ := TF.lt5 HT.out
    have n0_ := aW (TF.alloc HT.out (.cells #[.int .i64 t209] 2))
    have mHb1 := aW (pw_cell_below (below_alloc (Below.refl wb1.heap.size wb1) (.cells #[.int .i64 t209] 2)) Hb1.out)
    clear HT
    have HT := n0_
    clear n0_
    clear Hb1
    have Hb1 := mHb1
    clear mHb1
    generalize hE_ : wb1.heap.size = b2 at n1_ n2_ ⊢
    clear hE_
    generalize (wb1.alloc (.cells #[.int .i64 t209] 2)) = wb4 at HT n1_ Hb1 ⊢
    have Hb2 := aW n1_
    have Nb2 := aW n2_
    clear n1_ n2_
    refine hK.out _ _ ⟨(blk_cell HT.out.1 3).trans rfl, (blk_cell HT.out.1 4).trans rfl, (blk_cell HT.out.1 5).trans rfl, (blk_cell HT.out.1 6).trans rfl⟩ (fun hHeld => ?_)
    clear hK K
    refine no_ 70 ?_
    refine one_ (i := 11) (N := some 61) (bl 28 2097151) rfl rfl (one_of HT_.out (by kernel_rfl)) (by decide) (fun K hK => ?_)
    obtain ⟨v1, wb5, hr, hT1, hg⟩ := TF.app5 HT.out 86 t210 b1 Hb1.out HLN.out.2
    have n0_ := aW hT1
    replace Hb2 := aW (cell_grown hg Hb2.out Nb2.out)
    refine app_step (by rfl) (.tmp 55) (.tmp 60) rfl rfl rfl hr ?_
    clear HT hT1 hg hr
    have HT := n0_
    clear n0_
    refine hK.out _ _ ⟨(blk_cell HT.out.1 3).trans rfl, (blk_cell HT.out.1 4).trans rfl, (blk_cell HT.out.1 5).trans rfl, (blk_cell HT.out.1 6).trans rfl⟩ (fun hHeld => ?_)
    clear hK K
    refine no_ 61 ?_
    exact norm_ o94 (hCont (v1, b1, b2) _ ⟨hHeld, HT.out, Hb2.out⟩)
  ·refine value_ (v := .slice (some ⟨w8.heap.size, 0, none⟩) 1 1) (w1 := w8.alloc (.cells #[.int .i64 t209] 2)) (by rfl) rfl (by first | (go_simp; done) | (go_simp; rfl)) ?_
   have n1_ : (w8.alloc (.cells #[.int .i64 t209] 2)).cell? ⟨w8.heap.size, 0, none⟩ = some (.int .i64 t209) := (blk_cell (t := 2) (blk_new w8 (.cells #[.int .i64 t209] 2)) 0).trans rfl
   have n2_ := TF.lt5 HT.out
   replace HT := aW (TF.alloc HT.out (.cells #[.int .i64 t209] 2))
   generalize hE_ : w8.heap.size = b2 at n1_ n2_ ⊢
   clear hE_
   generalize (w8.alloc (.cells #[.int .i64 t209] 2)) = wb6 at HT n1_  ⊢
   have Hb2 := aW n1_
   have Nb2 := aW n2_
   clear n1_ n2_
   refine hK.out _ _ ⟨(blk_cell HT.out.1 3).trans rfl, (blk_cell HT.out.1 4).trans rfl, (blk_cell HT.out.1 5).trans rfl, (blk_cell HT.out.1 6).trans rfl⟩ (fun hHeld => ?_)
   clear hK K
   refine no_ 70 ?_
   refine one_ (i := 10) (N := some 60) (bl 28 2095103) rfl rfl (one_of HT_.out (by kernel_rfl)) (by decide) (fun K hK => ?_)
   refine value_ (v := .slice (some ⟨wb6.heap.size, 0, none⟩) 1 1) (w1 := wb6.alloc (.cells #[.int .i64 t210] 2)) (by rfl) rfl (by first | (go_simp; done) | (go_simp; rfl)) ?_
   have n1_ : (wb6.alloc (.cells #[.int .i64 t210] 2)).cell? ⟨wb6.heap.size, 0, none⟩ = some (.int .i64 t210) := (blk_cell (t := 2) (blk_new wb6 (.cells #[.int .i64 t210] 2)) 0).trans rfl
   have n2_ := TF.lt5 HT.out
   have n0_ := aW (TF.alloc HT.out (.cells #[.int .i64 t210] 2))
   have mHb2 := aW (pw_cell_below (below_alloc (Below.refl wb6.heap.size wb6) (.cells #[.int .i64 t210] 2)) Hb2.out)
   clear HT
   have HT := n0_
   clear n0_
   clear Hb2
   have Hb2 := mHb2
   clear mHb2
   generalize hE_ : wb6.heap.size = b1 at n1_ n2_ ⊢
   clear hE_
   generalize (wb6.alloc (.cells #[.int .i64 t210] 2)) = wb7 at HT n1_ Hb2 ⊢
   have Hb1 := aW n1_
   have Nb1 := aW n2_
   clear n1_ n2_
   refine hK.out _ _ ⟨(blk_cell HT.out.1 3).trans rfl, (blk_cell HT.out.1 4).trans rfl, (blk_cell HT.out.1 5).trans rfl, (blk_cell HT.out.1 6).trans rfl⟩ (fun hHeld => ?_)
   clear hK K
   refine no_ 60 ?_
   refine one_ (i := 11) (N := some 61) (bl 28 2097151) rfl rfl (one_of HT_.out (by kernel_rfl)) (by decide) (fun K hK => ?_)
   obtain ⟨v1, wb8, hr, hT1, hg⟩ := TF.app5 HT.out 86 t210 b1 Hb1.out HLN.out.2
   have n0_ := aW hT1
   replace Hb2 := aW (cell_grown hg Hb2.out Nb2.out)
   refine app_step (by rfl) (.tmp 55) (.tmp 60) rfl rfl rfl hr ?_
   clear HT hT1 hg hr
   have HT := n0_
   clear n0_
   refine hK.out _ _ ⟨(blk_cell HT.out.1 3).trans rfl, (blk_cell HT.out.1 4).trans rfl, (blk_cell HT.out.1 5).trans rfl, (blk_cell HT.out.1 6).trans rfl⟩ (fun hHeld => ?_)
   clear hK K
   refine no_ 61 ?_
   exact norm_ o94 (hCont (v1, b1, b2) _ ⟨hHeld, HT.out, Hb2.out⟩)
 rintro ⟨v1, b1, b2⟩ w9 ⟨hHeld, hT1, hb2⟩
 clear HT
 have HT := aW hT1
 have Hb2 := aW hb2
 clear hT1 hb2
 try dsimp only at HT Hb2 hHeld
 refine norm_ (a' := ?_) ?_ ?_
 rotate_left
 ·simp only [putAll, Act.put, List.setIfInBounds_toArray, List.set_cons_zero, List.set_cons_succ]
  rfl
 refine one_ (i := 21) (N := some 71) (bl 28 4194303) rfl rfl (one_of HT_.out (by kernel_rfl)) (by decide) (fun K hK => ?_)
 obtain ⟨v2, w10, hr, hT1⟩ := TF.app6 HT.out 86 t209 b2 Hb2.out (by have := HLN.out; omega)
 refine app_step (by rfl) (.tmp 65) (.tmp 70) rfl rfl rfl hr ?_
 clear HT Hb2 hr
 obtain ⟨D5, d5, hv5, _⟩ := Kd.Q_slice hT1.2.2.2.2.1
 obtain ⟨D6, d6, hv6, _⟩ := Kd.Q_slice hT1.2.2.2.2.2.1
 subst hv5 hv6
 have HT := aW hT1
 clear hT1
 generalize hX : (s0_5 ++ [t210]) = X5 at HT HH ⊢
 generalize hY : (s0_6 ++ [t209]) = X6 at HT HH ⊢
 have hXY : Aside0 (X5.length = X6.length) := ⟨by rw [← hX, ← hY, List.length_append, List.length_append, HLN.out.1]; rfl⟩
 clear hX hY HLN
 refine hK.out _ _ ⟨(blk_cell HT.out.1 3).trans rfl, (blk_cell HT.out.1 4).trans rfl, (blk_cell HT.out.1 5).trans rfl, (blk_cell HT.out.1 6).trans rfl⟩ (fun hHeld => ?_)
 clear hK K
 refine no_ 71 ?_
 refine pq_ 22 72 (bl 28 8388607) HT_ ?_
 refine pq_ 23 73 (bl 28 16777215) HT_ ?_
 refine last_ (i := 24) (N := none) (bl 28 33554431) rfl rfl (one_of HT_.out (by kernel_rfl)) (by decide) (fun K hK => ?_)
 have hs_ : w10.cell? ⟨g, 5, none⟩ = some (.slice A5 s0_5.length c5) := (blk_cell HT.out.1 5).trans rfl
 have hfs_ := blk_frozen HT.out.1 5
 refine skip_ (w1 := ?_) (by rfl) rfl ?_ ?_
 rotate_left
 ·go_simp
  rfl
 have n0_ : Aside0 (TF P w0 w (w10.setCell ⟨g, 5, none⟩ (.slice D5 X5.length d5)) g #[.int .i64 s0_0, .int .i64 s0_1, .int .i64 t208, .int .i64 t209, .int .i64 t210, .slice D5 X5.length d5, .slice A6 s0_6.length c6, .int .i64 s0_7] (.slice D5 X5.length d5) X5 (.slice D6 X6.length d6) X6) := ⟨HT.out.set 5 _⟩
 clear HT hs_ hfs_
 have HT := n0_
 clear n0_
 generalize (w10.setCell ⟨g, 5, none⟩ (.slice D5 X5.length d5)) = w11 at HT ⊢
 refine hK.out _ _ ?_
 clear hK K
 refine pq_ 25 74 (bl 28 67108863) HT_ ?_
 refine pq_ 26 75 (bl 28 134217727) HT_ ?_
 refine last_ (i := 27) (N := none) (bl 28 268435455) rfl rfl (one_of HT_.out (by kernel_rfl)) (by decide) (fun K hK => ?_)
 have hs_ : w11.cell? ⟨g, 6, none⟩ = some (.slice A6 s0_6.length c6) := (blk_cell HT.out.1 6).trans rfl
 have hfs_ := blk_frozen HT.out.1 6
 refine skip_ (w1 := ?_) (by rfl) rfl ?_ ?_
 rotate_left
 ·go_simp
  rfl
 have n0_ : Aside0 (TF P w0 w (w11.setCell ⟨g, 6, none⟩ (.slice D6 X6.length d6)) g #[.int .i64 s0_0, .int .i64 s0_1, .int .i64 t208, .int .i64 t209, .int .i64 t210, .slice D5 X5.length d5, .slice D6 X6.length d6, .int .i64 s0_7] (.slice D5 X5.length d5) X5 (.slice D6 X6.length d6) X6) := ⟨HT.out.set 6 _⟩
 clear HT hs_ hfs_
 have HT := n0_
 clear n0_
 generalize (w11.setCell ⟨g, 6, none⟩ (.slice D6 X6.length d6)) = w12 at HT ⊢
 refine hK.out _ _ ?_
 clear hK K
 refine done_ (done_of HT_.out (by kernel_rfl)) ?_
 clear hHeld HT_ HW_
 obtain ⟨nn, hnn⟩ : ∃ n_ : Int, wrap64 ((X5.length : Int) - s0_0) = n_ := ⟨_, rfl⟩
 rw [hnn] at HH
 try go_wp2
 replace HT := aW (TF.drew HT.out)
 refine start_ (n := 11) (S := fun w' => w'.cell? ⟨g, 0, none⟩ = some (.int .i64 s0_0) ∧ w'.cell? ⟨g, 5, none⟩ = some (.slice D5 X5.length d5) ∧ w'.cell? ⟨g, 6, none⟩ = some (.slice D6 X6.length d6)) (ds := []) (bl 11 0) (by kernel_rfl) rfl rfl ⟨(blk_cell HT.out.1 0).trans rfl, (blk_cell HT.out.1 5).trans rfl, (blk_cell HT.out.1 6).trans rfl⟩ (fun hHeld => ?_); refine with_tabW trend_Trend_Add.tab9 trend_Trend_Add.bits9 (fun HT_ HW_ => ?_)
 generalize World.drew w12 = w13 at HT hHeld ⊢
 refine pq_ 0 76 (bl 11 1) HT_ ?_
 refine pq_ 1 77 (bl 11 3) HT_ ?_
 refine pq_ 2 78 (bl 11 7) HT_ ?_
 refine tq_ 3 79 (bl 11 15) HT_ HW_ hHeld ?_ (hr := by rintro w' ⟨s0, s1, s2⟩; go_simp; with_reducible rfl)
 refine pq_ 4 80 (bl 11 31) HT_ ?_
 refine pq_ 5 81 (bl 11 63) HT_ ?_
 refine pq_ 6 82 (bl 11 127) HT_ ?_
 refine pq_ 7 83 (bl 11 255) HT_ ?_
 refine tq_ 8 84 (bl 11 511) HT_ HW_ hHeld ?_ (hr := by rintro w' ⟨s0, s1, s2⟩; go_simp; with_reducible rfl)
 refine pq_ 9 85 (bl 11 1023) HT_ ?_
 refine pq_ 10 7 (bl 11 2047) HT_ ?_
 refine done_ (done_of HT_.out (by kernel_rfl)) ?_
 clear hHeld HT_ HW_
 try rw [hnn]
 clear hnn
 by_cases c9 : 0 < nn
 ·rw [if_pos c9] at HH
  have c9b0 : decide (0 < nn) = true := decide_eq_true c9
  by_cases c10 : nn ≤ (X5.length : Int)
  rotate_left
  ·have H := HH.out; rw [if_neg c10] at H; exact absurd H (by simp)
  rw [if_pos c10] at HH
  try go_wp2
  obtain ⟨i2, hi2, hzz⟩ := Option.map_eq_some_iff.1 (show (Tryd.prog.info? 2).map (fun i => i.size) = some 1 by kernel_rfl)
  have hm5 : nn.toNat ≤ X5.length := by omega
  have hm6 : nn.toNat ≤ X6.length := by have := hXY.out; omega
  have hcut5 : ∀ W_ : World, (Instr.slice 86 (.slice D5 X5.length d5) (some (.int .i64 nn)) none none).run Tryd.prog W_ = .ok (.slice (if d5 = nn.toNat then D5 else D5.map (·.add (nn.toNat * 1))) (X5.length - nn.toNat) (d5 - nn.toNat)) W_ := cut_from 86 2 .i64 Tryd.underlying86 hi2 1 hzz D5 X5.length d5 nn (by omega) (by omega)
  have hcut6 : ∀ W_ : World, (Instr.slice 86 (.slice D6 X6.length d6) (some (.int .i64 nn)) none none).run Tryd.prog W_ = .ok (.slice (if d6 = nn.toNat then D6 else D6.map (·.add (nn.toNat * 1))) (X6.length - nn.toNat) (d6 - nn.toNat)) W_ := cut_from 86 2 .i64 Tryd.underlying86 hi2 1 hzz D6 X6.length d6 nn (by omega) (by have := hXY.out; omega)
  have HT2 := aW (TF.cut HT.out hm5 hm6)
  clear HT
  have HT := HT2
  clear HT2
  generalize hE5 : (if d5 = nn.toNat then D5 else D5.map (·.add (nn.toNat * 1))) = E5 at hcut5 HT
  generalize hE6 : (if d6 = nn.toNat then D6 else D6.map (·.add (nn.toNat * 1))) = E6 at hcut6 HT
  generalize hG5 : d5 - nn.toNat = e5 at hcut5 HT
  generalize hG6 : d6 - nn.toNat = e6 at hcut6 HT
  rw [show X5.length - nn.toNat = (X5.drop nn.toNat).length from List.length_drop.symm] at hcut5 HT
  rw [show X6.length - nn.toNat = (X6.drop nn.toNat).length from List.length_drop.symm] at hcut6 HT
  clear hE5 hE6 hG5 hG6 hm5 hm6
  generalize hZ5 : X5.drop nn.toNat = Z5 at HT HH hcut5
  generalize hZ6 : X6.drop nn.toNat = Z6 at HT HH hcut6
  replace HT := aW (TF.drew HT.out)
  refine start_ (n := 20) (S := fun w' => w'.cell? ⟨g, 0, none⟩ = some (.int .i64 s0_0) ∧ w'.cell? ⟨g, 5, none⟩ = some (.slice D5 X5.length d5) ∧ w'.cell? ⟨g, 6, none⟩ = some (.slice D6 X6.length d6)) (ds := [16, 19]) (bl 20 0) (by kernel_rfl) rfl rfl ⟨(blk_cell HT.out.1 0).trans rfl, (blk_cell HT.out.1 5).trans rfl, (blk_cell HT.out.1 6).trans rfl⟩ (fun hHeld => ?_); refine with_tabW trend_Trend_Add.tab11 trend_Trend_Add.bits11 (fun HT_ HW_ => ?_)
  generalize World.drew w13 = w14 at HT hHeld ⊢
  refine pq_ 0 88 (bl 20 1) HT_ ?_
  refine pq_ 1 89 (bl 20 3) HT_ ?_
  refine pq_ 2 90 (bl 20 7) HT_ ?_
  refine pq_ 3 91 (bl 20 15) HT_ ?_
  refine pq_ 4 92 (bl 20 31) HT_ ?_
  refine tq_ 5 93 (bl 20 63) HT_ HW_ hHeld ?_ (hr := by rintro w' ⟨s0, s1, s2⟩; go_simp; with_reducible rfl)
  refine pq_ 6 94 (bl 20 127) HT_ ?_
  refine pq_ 7 95 (bl 20 255) HT_ ?_
  refine pq_ 8 96 (bl 20 511) HT_ ?_
  refine pq_ 9 97 (bl 20 1023) HT_ ?_
  refine pq_ 10 98 (bl 20 2047) HT_ ?_
  refine tq_ 11 99 (bl 20 4095) HT_ HW_ hHeld ?_ (hr := by rintro w' ⟨s0, s1, s2⟩; go_simp; with_reducible rfl)
  refine pq_ 12 100 (bl 20 8191) HT_ ?_
  refine pq_ 13 101 (bl 20 16383) HT_ ?_
  refine pq_ 14 102 (bl 20 32767) HT_ ?_
  refine pq_ 15 103 (bl 20 65535) HT_ ?_
  refine last_ (i := 16) (N := none) (bl 20 131071) rfl rfl (one_of HT_.out (by kernel_rfl)) (by decide) (fun K hK => ?_)
  have hs_ : w14.cell? ⟨g, 5, none⟩ = some (.slice D5 X5.length d5) := (blk_cell HT.out.1 5).trans rfl
  have hfs_ := blk_frozen HT.out.1 5
  refine skip_ (w1 := ?_) (by rfl) rfl ?_ ?_
  rotate_left
  ·go_simp
   rfl
  have n0_ : Aside0 (TF P w0 w (w14.setCell ⟨g, 5, none⟩ (.slice E5 Z5.length e5)) g #[.int .i64 s0_0, .int .i64 s0_1, .int .i64 t208, .int .i64 t209, .int .i64 t210, .slice E5 Z5.length e5, .slice D6 X6.length d6, .int .i64 s0_7] (.slice E5 Z5.length e5) Z5 (.slice E6 Z6.length e6) Z6) := ⟨HT.out.set 5 _⟩
  clear HT hs_ hfs_
  have HT := n0_
  clear n0_
  generalize (w14.setCell ⟨g, 5, none⟩ (.slice E5 Z5.length e5)) = w16 at HT ⊢
  refine hK.out _ _ ?_
  clear hK K
  refine pq_ 17 104 (bl 20 262143) HT_ ?_
  refine pq_ 18 105 (bl 20 524287) HT_ ?_
  refine last_ (i := 19) (N := none) (bl 20 1048575) rfl rfl (one_of HT_.out (by kernel_rfl)) (by decide) (fun K hK => ?_)
  have hs_ : w16.cell? ⟨g, 6, none⟩ = some (.slice D6 X6.length d6) := (blk_cell HT.out.1 6).trans rfl
  have hfs_ := blk_frozen HT.out.1 6
  refine skip_ (w1 := ?_) (by rfl) rfl ?_ ?_
  rotate_left
  ·go_simp
   rfl
  have n0_ : Aside0 (TF P w0 w (w16.setCell ⟨g, 6, none⟩ (.slice E6 Z6.length e6)) g #[.int .i64 s0_0, .int .i64 s0_1, .int .i64 t208, .int .i64 t209, .int .i64 t210, .slice E5 Z5.length e5, .slice E6 Z6.length e6, .int .i64 s0_7] (.slice E5 Z5.length e5) Z5 (.slice E6 Z6.length e6) Z6) := ⟨HT.out.set 6 _⟩
  clear HT hs_ hfs_
  have HT := n0_
  clear n0_
  generalize (w16.setCell ⟨g, 6, none⟩ (.slice E6 Z6.length e6)) = w17 at HT ⊢
  refine hK.out _ _ ?_
  clear hK K
  refine done_ (done_of HT_.out (by kernel_rfl)) ?_
  clear hHeld HT_ HW_
  have hcq_0 := (blk_cell HT.out.1 0).trans rfl
  have hcq_1 := (blk_cell HT.out.1 1).trans rfl
  have hcq_2 := (blk_cell HT.out.1 2).trans rfl
  have hcq_3 := (blk_cell HT.out.1 3).trans rfl
  have hcq_4 := (blk_cell HT.out.1 4).trans rfl
  have hcq_5 := (blk_cell HT.out.1 5).trans rfl
  have hcq_6 := (blk_cell HT.out.1 6).trans rfl
  have hcq_7 := (blk_cell HT.out.1 7).trans rfl
  have hfq_0 := blk_frozen HT.out.1 0
  have hfq_1 := blk_frozen HT.out.1 1
  have hfq_2 := blk_frozen HT.out.1 2
  have hfq_3 := blk_frozen HT.out.1 3
  have hfq_4 := blk_frozen HT.out.1 4
  have hfq_5 := blk_frozen HT.out.1 5
  have hfq_6 := blk_frozen HT.out.1 6
  have hfq_7 := blk_frozen HT.out.1 7
  go_wp2_with (first | ((with_reducible refine gate_callee (f := 34) rfl ?_); refine gL_ 116 Tryd.func34 #[.pointer (some ⟨g, 0, none⟩)] ?_; have n0_ : TF P w0 w (w17.setCell ⟨g, 7, none⟩ (.int .i64 cnt)) g #[.int .i64 s0_0, .int .i64 s0_1, .int .i64 t208, .int .i64 t209, .int .i64 t210, .slice E5 Z5.length e5, .slice E6 Z6.length e6, .int .i64 cnt] (.slice E5 Z5.length e5) Z5 (.slice E6 Z6.length e6) Z6 := HT.out.set 7 _; (refine (trend_Trend_Slope.callsP P k g s0_0 s0_1 t208 t209 t210 Z5 Z6 cnt r1 r2 r3 r4 r5 r6 r7 r8 r9 w0 _ (fun j hj => hPf j (Nat.le_trans n0_.2.2.2.2.2.2.2.1 hj)) (TF.to_state n0_) n0_.2.2.2.2.2.2.1 HH.out).mono ?_); rintro e w15 ⟨rfl, hi, hb, hk⟩; refine ⟨_, rfl, ?_⟩))
  go_ret
  exact ⟨rfl, hi, hb, n0_.2.2.2.2.2.2.2.then_ hk (fun _ h => .inl h)⟩
 ·rw [if_neg c9] at HH
  have c9b0 : decide (0 < nn) = false := decide_eq_false c9
  have hcq_0 := (blk_cell HT.out.1 0).trans rfl
  have hcq_1 := (blk_cell HT.out.1 1).trans rfl
  have hcq_2 := (blk_cell HT.out.1 2).trans rfl
  have hcq_3 := (blk_cell HT.out.1 3).trans rfl
  have hcq_4 := (blk_cell HT.out.1 4).trans rfl
  have hcq_5 := (blk_cell HT.out.1 5).trans rfl
  have hcq_6 := (blk_cell HT.out.1 6).trans rfl
  have hcq_7 := (blk_cell HT.out.1 7).trans rfl
  have hfq_0 := blk_frozen HT.out.1 0
  have hfq_1 := blk_frozen HT.out.1 1
  have hfq_2 := blk_frozen HT.out.1 2
  have hfq_3 := blk_frozen HT.out.1 3
  have hfq_4 := blk_frozen HT.out.1 4
  have hfq_5 := blk_frozen HT.out.1 5
  have hfq_6 := blk_frozen HT.out.1 6
  have hfq_7 := blk_frozen HT.out.1 7
  go_wp2_with (first | ((with_reducible refine gate_callee (f := 34) rfl ?_); refine gL_ 116 Tryd.func34 #[.pointer (some ⟨g, 0, none⟩)] ?_; have n0_ : TF P w0 w (w13.setCell ⟨g, 7, none⟩ (.int .i64 cnt)) g #[.int .i64 s0_0, .int .i64 s0_1, .int .i64 t208, .int .i64 t209, .int .i64 t210, .slice D5 X5.length d5, .slice D6 X6.length d6, .int .i64 cnt] (.slice D5 X5.length d5) X5 (.slice D6 X6.length d6) X6 := HT.out.set 7 _; (refine (trend_Trend_Slope.callsP P k g s0_0 s0_1 t208 t209 t210 X5 X6 cnt r1 r2 r3 r4 r5 r6 r7 r8 r9 w0 _ (fun j hj => hPf j (Nat.le_trans n0_.2.2.2.2.2.2.2.1 hj)) (TF.to_state n0_) n0_.2.2.2.2.2.2.1 HH.out).mono ?_); rintro e w15 ⟨rfl, hi, hb, hk⟩; refine ⟨_, rfl, ?_⟩))
  go_ret
  exact ⟨rfl, hi, hb, n0_.2.2.2.2.2.2.2.then_ hk (fun _ h => .inl h)⟩
end Go.Proofs.YtphgeljglhjamaaDoor.P
end

section
namespace Go.Proofs.YtphgeljglhjamaaDoor.P
open Go.RowKit Go.Proofs.YtphgeljglhjamaaDoorW.PrintWords Go.Proofs.YtphgeljglhjamaaDoorW.PrintLast Go.Proofs.YtphgeljglhjamaaDoorW.PrintMore
attribute [local go_sem] max2_int min2_int max_two min_two max_three min_three max_four min_four
set_option linter.unusedVariables false
set_option linter.unusedSimpArgs false
def detect_Detector_moves.j0 : Nat → Int → Int → Int → Int → Int → Int → Int → Int → Int → Option (Int × Int × Int × Int × Int × Int)
 | 0, _, _, _, _, _, _, _, _, _ => none
 | k + 1, x1, x2, x6, x1000, x1001, x1002, x1003, x1004, x1005 => (muldiv_Do.f (wrap64 (x1 - x1001)) (wrap64 (x6 * x2)) 4294967296 1).bind fun t214 => ((sat_Add.f k x1001 t214).bind fun t215 => ((fixed_Of.f 6).bind fun t216 => ((fixed_Of.f 600).bind fun t217 => ((sat_Clamp.f t215 t216 t217).bind fun t218 => (some (x1000, t218, x1002, x1003, x1004, x1005))))))
def detect_Detector_moves.f (k : Nat) (s0_0 : Int) (s0_1 : Int) (s0_2 : Int) (s0_3 : Int) (s0_4 : Int) (s0_5 : Int) (a1 : Int) (a2 : Int) : Option (Int × Int × Int × Int × Int × Int) := (fixed_Of.f 15).bind fun t212 => ((sat_Add.f k s0_1 t212).bind fun t213 => (if a1 > t213 then (some (s0_0, s0_1, s0_2, s0_3, s0_4, s0_5)) else (if a1 < s0_1 then (detect_Detector_moves.j0 k a1 a2 168 s0_0 s0_1 s0_2 s0_3 s0_4 s0_5) else (detect_Detector_moves.j0 k a1 a2 43 s0_0 s0_1 s0_2 s0_3 s0_4 s0_5))))
theorem detect_Detector_moves.mono_l : ∀ k, (∀ y0 y1 y2 y3 y4 y5 y6 y7 y8, LeO (detect_Detector_moves.j0 k y0 y1 y2 y3 y4 y5 y6 y7 y8) (detect_Detector_moves.j0 (k + 1) y0 y1 y2 y3 y4 y5 y6 y7 y8))
 | 0 => fun _ _ _ _ _ _ _ _ _ r h => by simp [detect_Detector_moves.j0] at h
 | k + 1 => by
  have ih0 := detect_Detector_moves.mono_l k
  ·intro y0 y1 y2 y3 y4 y5 y6 y7 y8
   unfold detect_Detector_moves.j0
   repeat' first
   | (with_reducible exact ih0 _ _ _ _ _ _ _ _ _)
   | (with_reducible exact sat_Add.mono _ _ _)
   | (with_reducible exact LeO.refl _)
   | (with_reducible exact LeO.none _)
   | (with_reducible refine LeO.ite ?_ ?_)
   | (with_reducible refine LeO.bind ?_ (fun _ => ?_))
   | exact ih0 _ _ _ _ _ _ _ _ _
   | exact sat_Add.mono _ _ _
   | exact LeO.none _
   | refine LeO.ite ?_ ?_
   | refine LeO.bind ?_ (fun _ => ?_)
theorem detect_Detector_moves.mono : ∀ a0 a1 a2 a3 a4 a5 a6 a7 k, LeO (detect_Detector_moves.f k a0 a1 a2 a3 a4 a5 a6 a7) (detect_Detector_moves.f (k + 1) a0 a1 a2 a3 a4 a5 a6 a7) := by
 intro a0 a1 a2 a3 a4 a5 a6 a7 k
 have ih0 := detect_Detector_moves.mono_l k
 unfold detect_Detector_moves.f
 repeat' first
   | (with_reducible exact ih0 _ _ _ _ _ _ _ _ _)
   | (with_reducible exact sat_Add.mono _ _ _)
   | (with_reducible exact LeO.refl _)
   | (with_reducible exact LeO.none _)
   | (with_reducible refine LeO.ite ?_ ?_)
   | (with_reducible refine LeO.bind ?_ (fun _ => ?_))
   | exact ih0 _ _ _ _ _ _ _ _ _
   | exact sat_Add.mono _ _ _
   | exact LeO.none _
   | refine LeO.ite ?_ ?_
   | refine LeO.bind ?_ (fun _ => ?_)
def detect_Detector_moves.T0 : Bool × List (List Nat × List Nat) := (true, [([], []), ([], []), ([1], [1]), ([2], [2]), ([3], [3]), ([], []), ([4, 5, 5], [4, 5]), ([0, 6], [0, 6])])
def detect_Detector_moves.B0 : List Nat := [0, 0, 2, 6, 14, 0, 62, 127]
theorem detect_Detector_moves.tab0 : rtab .any (opsOf Tryd.f36 0) = detect_Detector_moves.T0 := by kernel_rfl
theorem detect_Detector_moves.bits0 : waitsOk detect_Detector_moves.T0.2 detect_Detector_moves.B0 = true := by kernel_rfl
set_option maxHeartbeats 8000000 in
set_option maxRecDepth 100000 in
theorem detect_Detector_moves.calls (k : Nat) (g : Nat) (s0_0 : Int) (s0_1 : Int) (s0_2 : Int) (s0_3 : Int) (s0_4 : Int) (s0_5 : Int) (a1 : Int) (a2 : Int) (r1 : Int) (r2 : Int) (r3 : Int) (r4 : Int) (r5 : Int) (r6 : Int) (w0 w : World) (hI : IsS91 w0 w g s0_0 s0_1 s0_2 s0_3 s0_4 s0_5) (hB : Below w0.heap.size w0 w) (h : detect_Detector_moves.f k s0_0 s0_1 s0_2 s0_3 s0_4 s0_5 a1 a2 = some (r1, r2, r3, r4, r5, r6)) :
  Calls Tryd.prog 36 #[.pointer (some ⟨g, 0, none⟩), .int .i64 a1, .int .i64 a2] w fun e w' => e = .returned (.tuple #[]) ∧ IsS91 w0 w' g r1 r2 r3 r4 r5 r6 ∧ Below w0.heap.size w0 w' ∧ KeepBut w w' g none := by
 have HI0 := aW hI
 have HK := aW (KeepBut.refl w g none)
 have HL := aW hB.size
 clear hI
 have HW0 := aW hB.size
 have HB := aW hB
 clear hB
 have H : ((fixed_Of.f 15).bind fun t212 => ((sat_Add.f k s0_1 t212).bind fun t213 => (if a1 > t213 then (some (s0_0, s0_1, s0_2, s0_3, s0_4, s0_5)) else (if a1 < s0_1 then (detect_Detector_moves.j0 k a1 a2 168 s0_0 s0_1 s0_2 s0_3 s0_4 s0_5) else (detect_Detector_moves.j0 k a1 a2 43 s0_0 s0_1 s0_2 s0_3 s0_4 s0_5))))) = some (r1, r2, r3, r4, r5, r6) := h
 clear h
 obtain ⟨t212, A4, H⟩ := bw H
 obtain ⟨t213, A5, H⟩ := bw H
 by_cases c6 : a1 > t213
 ·rw [if_pos c6] at H
  have c6b0 : decide (t213 < a1) = true := decide_eq_true c6
  clear c6
  simp only [Option.some.injEq, Prod.mk.injEq] at H
  obtain ⟨rfl, rfl, rfl, rfl, rfl, rfl⟩ := H
  go_enter Tryd.func36, Tryd.ntmps36
  try go_wp2
  replace HB := aW (below_drew1 HB.out)
  replace HK := aW (keep_drew HK.out)
  replace HI0 := aW (IsS91.drew HI0.out)
  refine start_ (n := 8) (S := fun w' => w'.cell? ⟨g, 0, none⟩ = some (.int .i64 s0_0) ∧ w'.cell? ⟨g, 1, none⟩ = some (.int .i64 s0_1) ∧ w'.cell? ⟨g, 2, none⟩ = some (.int .i64 s0_2) ∧ w'.cell? ⟨g, 3, none⟩ = some (.int .i64 s0_3) ∧ w'.cell? ⟨g, 4, none⟩ = some (.int .i64 s0_4) ∧ w'.cell? ⟨g, 5, none⟩ = some (.int .i64 s0_5)) (ds := []) (bl 8 0) (by kernel_rfl) rfl rfl ⟨(IsS91.cell_0 HI0.out), (IsS91.cell_1 HI0.out), (IsS91.cell_2 HI0.out), (IsS91.cell_3 HI0.out), (IsS91.cell_4 HI0.out), (IsS91.cell_5 HI0.out)⟩ (fun hHeld => ?_); refine with_tabW detect_Detector_moves.tab0 detect_Detector_moves.bits0 (fun HT_ HW_ => ?_)
  generalize w.drew = w7 at HI0 HK HB hHeld ⊢
  refine pq_ 0 8 (bl 8 1) HT_ ?_
  refine pq_ 1 9 (bl 8 3) HT_ ?_
  refine pq_ 2 10 (bl 8 7) HT_ ?_
  refine pq_ 3 11 (bl 8 15) HT_ ?_
  refine tq_ 4 12 (bl 8 31) HT_ HW_ hHeld ?_ (hr := by rintro w' ⟨s0, s1, s2, s3, s4, s5⟩; go_simp; with_reducible rfl)
  refine one_ (i := 5) (N := some 13) (bl 8 63) rfl rfl (one_of HT_.out (by kernel_rfl)) (by decide) (fun K hK => ?_)
  refine goes_ Tryd.func30 (by kernel_rfl) rfl #[.int .i64 15] (by rfl) rfl rfl o72 ?_
  with_reducible refine (fixed_Of.calls 15 t212 _ A4.out).mono ?_
  rintro e w8 ⟨rfl, hb⟩
  refine ⟨_, rfl, ?_⟩
  replace HB := aW (below_step o49 hb)
  replace HK := aW (KeepBut.trans o69 (KeepBut.of_below hb g none) (.inl rfl))
  replace HI0 := aW (IsS91.below o19 hb)
  (try clear hb)
  (try clear hb2)
  (try clear hk)
  (try clear hi)
  refine hK.out _ _ ⟨(IsS91.cell_0 HI0.out), (IsS91.cell_1 HI0.out), (IsS91.cell_2 HI0.out), (IsS91.cell_3 HI0.out), (IsS91.cell_4 HI0.out), (IsS91.cell_5 HI0.out)⟩ (fun hHeld => ?_)
  clear hK K
  refine no_ 13 ?_
  refine one_ (i := 6) (N := some 14) (bl 8 127) rfl rfl (one_of HT_.out (by kernel_rfl)) (by decide) (fun K hK => ?_)
  refine goes_ Tryd.func32 (by kernel_rfl) rfl #[.int .i64 s0_1, .int .i64 t212] (by rfl) rfl rfl o72 ?_
  with_reducible refine (sat_Add.calls k s0_1 t212 t213 _ A5.out).mono ?_
  rintro e w9 ⟨rfl, hb⟩
  refine ⟨_, rfl, ?_⟩
  replace HB := aW (below_step o49 hb)
  replace HK := aW (KeepBut.trans o69 (KeepBut.of_below hb g none) (.inl rfl))
  replace HI0 := aW (IsS91.below o19 hb)
  (try clear hb)
  (try clear hb2)
  (try clear hk)
  (try clear hi)
  refine hK.out _ _ ⟨(IsS91.cell_0 HI0.out), (IsS91.cell_1 HI0.out), (IsS91.cell_2 HI0.out), (IsS91.cell_3 HI0.out), (IsS91.cell_4 HI0.out), (IsS91.cell_5 HI0.out)⟩ (fun hHeld => ?_)
  clear hK K
  refine no_ 14 ?_
  refine pq_ 7 15 (bl 8 255) HT_ ?_
  refine done_ (done_of HT_.out (by kernel_rfl)) ?_
  try go_wp2
  first | go_end0 | ((try simp only [Exit.inBlock, Exit.then]); refine bodyPost_ret (results_none rfl _ _ _) rfl ?_)
  exact ⟨o95, o20, o51, o70⟩
 ·rw [if_neg c6] at H
  have c6b0 : decide (t213 < a1) = false := decide_eq_false c6
  clear c6
  have HC10 := aW H
  clear H
  go_enter Tryd.func36, Tryd.ntmps36
  try go_wp2
  replace HB := aW (below_drew1 HB.out)
  replace HK := aW (keep_drew HK.out)
  replace HI0 := aW (IsS91.drew HI0.out)
  refine start_ (n := 8) (S := fun w' => w'.cell? ⟨g, 0, none⟩ = some (.int .i64 s0_0) ∧ w'.cell? ⟨g, 1, none⟩ = some (.int .i64 s0_1) ∧ w'.cell? ⟨g, 2, none⟩ = some (.int .i64 s0_2) ∧ w'.cell? ⟨g, 3, none⟩ = some (.int .i64 s0_3) ∧ w'.cell? ⟨g, 4, none⟩ = some (.int .i64 s0_4) ∧ w'.cell? ⟨g, 5, none⟩ = some (.int .i64 s0_5)) (ds := []) (bl 8 0) (by kernel_rfl) rfl rfl ⟨(IsS91.cell_0 HI0.out), (IsS91.cell_1 HI0.out), (IsS91.cell_2 HI0.out), (IsS91.cell_3 HI0.out), (IsS91.cell_4 HI0.out), (IsS91.cell_5 HI0.out)⟩ (fun hHeld => ?_); refine with_tabW detect_Detector_moves.tab0 detect_Detector_moves.bits0 (fun HT_ HW_ => ?_)
  generalize w.drew = w11 at HI0 HK HB hHeld ⊢
  refine pq_ 0 8 (bl 8 1) HT_ ?_
  refine pq_ 1 9 (bl 8 3) HT_ ?_
  refine pq_ 2 10 (bl 8 7) HT_ ?_
  refine pq_ 3 11 (bl 8 15) HT_ ?_
  refine tq_ 4 12 (bl 8 31) HT_ HW_ hHeld ?_ (hr := by rintro w' ⟨s0, s1, s2, s3, s4, s5⟩; go_simp; with_reducible rfl)
  refine one_ (i := 5) (N := some 13) (bl 8 63) rfl rfl (one_of HT_.out (by kernel_rfl)) (by decide) (fun K hK => ?_)
  refine goes_ Tryd.func30 (by kernel_rfl) rfl #[.int .i64 15] (by rfl) rfl rfl o72 ?_
  with_reducible refine (fixed_Of.calls 15 t212 _ A4.out).mono ?_
  rintro e w12 ⟨rfl, hb⟩
  refine ⟨_, rfl, ?_⟩
  replace HB := aW (below_step o49 hb)
  replace HK := aW (KeepBut.trans o69 (KeepBut.of_below hb g none) (.inl rfl))
  replace HI0 := aW (IsS91.below o19 hb)
  (try clear hb)
  (try clear hb2)
  (try clear hk)
  (try clear hi)
  refine hK.out _ _ ⟨(IsS91.cell_0 HI0.out), (IsS91.cell_1 HI0.out), (IsS91.cell_2 HI0.out), (IsS91.cell_3 HI0.out), (IsS91.cell_4 HI0.out), (IsS91.cell_5 HI0.out)⟩ (fun hHeld => ?_)
  clear hK K
  refine no_ 13 ?_
  refine one_ (i := 6) (N := some 14) (bl 8 127) rfl rfl (one_of HT_.out (by kernel_rfl)) (by decide) (fun K hK => ?_)
  refine goes_ Tryd.func32 (by kernel_rfl) rfl #[.int .i64 s0_1, .int .i64 t212] (by rfl) rfl rfl o72 ?_
  with_reducible refine (sat_Add.calls k s0_1 t212 t213 _ A5.out).mono ?_
  rintro e w13 ⟨rfl, hb⟩
  refine ⟨_, rfl, ?_⟩
  replace HB := aW (below_step o49 hb)
  replace HK := aW (KeepBut.trans o69 (KeepBut.of_below hb g none) (.inl rfl))
  replace HI0 := aW (IsS91.below o19 hb)
  (try clear hb)
  (try clear hb2)
  (try clear hk)
  (try clear hi)
  refine hK.out _ _ ⟨(IsS91.cell_0 HI0.out), (IsS91.cell_1 HI0.out), (IsS91.cell_2 HI0.out), (IsS91.cell_3 HI0.out), (IsS91.cell_4 HI0.out), (IsS91.cell_5 HI0.out)⟩ (fun hHeld => ?_)
  clear hK K
  refine no_ 14 ?_
  refine pq_ 7 15 (bl 8 255) HT_ ?_
  refine done_ (done_of HT_.out (by kernel_rfl)) ?_
  obtain ⟨HGz14, hgz14⟩ := HI0.out
  obtain ⟨hcz14_0, hfz14_0, hcz14_1, hfz14_1, hcz14_2, hfz14_2, hcz14_3, hfz14_3, hcz14_4, hfz14_4, hcz14_5, hfz14_5⟩ := bp6 HGz14
  clear HGz14 hgz14
  go_upto_if 21 with (fail)
  go_cut [6] (fun v6 wc => ∃ (kq : Nat) (x6_9 : Int), v6 = .int .i64 x6_9 ∧ Aside0 (detect_Detector_moves.j0 kq a1 a2 x6_9 s0_0 s0_1 s0_2 s0_3 s0_4 s0_5 = some (r1, r2, r3, r4, r5, r6)) ∧ Aside0 (kq ≤ k) ∧ Aside0 (IsS91 w0 wc g s0_0 s0_1 s0_2 s0_3 s0_4 s0_5) ∧ Aside0 (KeepBut w wc g none) ∧ Aside0 (Below w0.heap.size w0 wc))
  case first =>
   have H := HC10.out
   clear HC10
   by_cases c15 : a1 < s0_1
   ·rw [if_pos c15] at H
    have c15b0 : decide (a1 < s0_1) = true := decide_eq_true c15
    clear c15
    (first | rw [c15b0] | (simp only [i64_w, i32_w]; rw [c15b0]) | skip)
    have H' := aW H
    clear H
    go_wp2
    go_meet
    case rel => exact ⟨_, (168), o105, H', ⟨o107⟩, ⟨o20⟩, ⟨o70⟩, ⟨o51⟩⟩
   ·rw [if_neg c15] at H
    have c15b0 : decide (a1 < s0_1) = false := decide_eq_false c15
    clear c15
    (first | rw [c15b0] | (simp only [i64_w, i32_w]; rw [c15b0]) | skip)
    have H' := aW H
    clear H
    go_wp2
    go_meet
    case rel => exact ⟨_, (43), o105, H', ⟨o107⟩, ⟨o20⟩, ⟨o70⟩, ⟨o51⟩⟩
  case rest =>
   clear HC10
   try clear c1
   try clear p2
   try clear c3
   try clear c6
   try clear c6b0
   try clear c15
   try clear c15b0
   try clear hcz14_0
   try clear hcz14_1
   try clear hcz14_2
   try clear hcz14_3
   try clear hcz14_4
   try clear hcz14_5
   try clear hfz14_0
   try clear hfz14_1
   try clear hfz14_2
   try clear hfz14_3
   try clear hfz14_4
   try clear hfz14_5
   obtain ⟨kq, x6_9, rfl, HA, HJ9, HI0, HK, HB⟩ := hcut
   cases kq with
   | zero => exact absurd HA.out (by simp [detect_Detector_moves.j0])
   | succ kj9 =>
    have H := HA.out
    clear HA
    simp only [detect_Detector_moves.j0] at H
    obtain ⟨t214, A16, H⟩ := bw H
    replace H : ((sat_Add.f kj9 s0_1 t214).bind fun t215 => ((fixed_Of.f 6).bind fun t216 => ((fixed_Of.f 600).bind fun t217 => ((sat_Clamp.f t215 t216 t217).bind fun t218 => (some (s0_0, t218, s0_2, s0_3, s0_4, s0_5)))))) = some (r1, r2, r3, r4, r5, r6) := H
    obtain ⟨t215, A17, H⟩ := bw H
    obtain ⟨t216, A18, H⟩ := bw H
    obtain ⟨t217, A19, H⟩ := bw H
    obtain ⟨t218, A20, H⟩ := bw H
    simp only [Option.some.injEq, Prod.mk.injEq] at H
    obtain ⟨rfl, rfl, rfl, rfl, rfl, rfl⟩ := H
    obtain ⟨HGz21, hgz21⟩ := HI0.out
    obtain ⟨hcz21_0, hfz21_0, hcz21_1, hfz21_1, hcz21_2, hfz21_2, hcz21_3, hfz21_3, hcz21_4, hfz21_4, hcz21_5, hfz21_5⟩ := bp6 HGz21
    clear HGz21 hgz21
    go_wp2_with (first | ((with_reducible refine gate_callee (f := 44) rfl ?_); refine gL_ 31 Tryd.func44 #[.int .i64 (wrap64 (a1 - s0_1)), .int .i64 (wrap64 (x6_9 * a2)), .int .i64 4294967296, .int .i64 1] ?_; (with_reducible refine (muldiv_Do.calls (wrap64 (a1 - s0_1)) (wrap64 (x6_9 * a2)) 4294967296 1 t214 _ A16.out).mono ?_); rintro e w22 ⟨rfl, hb⟩; refine ⟨_, rfl, ?_⟩; replace HB := aW (below_step o49 hb); replace HK := aW (KeepBut.trans o69 (KeepBut.of_below hb g none) (.inl rfl)); replace HI0 := aW (IsS91.below o19 hb); (try clear hb); (try clear hb2); (try clear hk); (try clear hi); obtain ⟨HGz23, hgz23⟩ := HI0.out; have hcz23_0 := cellS91_0 HGz23; have hcz23_1 := cellS91_1 HGz23; have hcz23_2 := cellS91_2 HGz23; have hcz23_3 := cellS91_3 HGz23; have hcz23_4 := cellS91_4 HGz23; have hcz23_5 := cellS91_5 HGz23; have hfz23_0 := blk_frozen HGz23 0; have hfz23_1 := blk_frozen HGz23 1; have hfz23_2 := blk_frozen HGz23 2; have hfz23_3 := blk_frozen HGz23 3; have hfz23_4 := blk_frozen HGz23 4; have hfz23_5 := blk_frozen HGz23 5; clear HGz23 hgz23) | ((with_reducible refine gate_callee (f := 32) rfl ?_); refine gL_ 38 Tryd.func32 #[.int .i64 s0_1, .int .i64 t214] ?_; (with_reducible refine (sat_Add.calls kj9 s0_1 t214 t215 _ A17.out).mono ?_); rintro e w24 ⟨rfl, hb⟩; refine ⟨_, rfl, ?_⟩; replace HB := aW (below_step o49 hb); replace HK := aW (KeepBut.trans o69 (KeepBut.of_below hb g none) (.inl rfl)); replace HI0 := aW (IsS91.below o19 hb); (try clear hb); (try clear hb2); (try clear hk); (try clear hi)) | ((with_reducible refine gate_callee (f := 30) rfl ?_); refine gL_ 39 Tryd.func30 #[.int .i64 6] ?_; (with_reducible refine (fixed_Of.calls 6 t216 _ A18.out).mono ?_); rintro e w25 ⟨rfl, hb⟩; refine ⟨_, rfl, ?_⟩; replace HB := aW (below_step o49 hb); replace HK := aW (KeepBut.trans o69 (KeepBut.of_below hb g none) (.inl rfl)); replace HI0 := aW (IsS91.below o19 hb); (try clear hb); (try clear hb2); (try clear hk); (try clear hi)) | ((with_reducible refine gate_callee (f := 30) rfl ?_); refine gL_ 40 Tryd.func30 #[.int .i64 600] ?_; (with_reducible refine (fixed_Of.calls 600 t217 _ A19.out).mono ?_); rintro e w26 ⟨rfl, hb⟩; refine ⟨_, rfl, ?_⟩; replace HB := aW (below_step o49 hb); replace HK := aW (KeepBut.trans o69 (KeepBut.of_below hb g none) (.inl rfl)); replace HI0 := aW (IsS91.below o19 hb); (try clear hb); (try clear hb2); (try clear hk); (try clear hi)) | ((with_reducible refine gate_callee (f := 23) rfl ?_); refine gL_ 41 Tryd.func23 #[.int .i64 t215, .int .i64 t216, .int .i64 t217] ?_; (with_reducible refine (sat_Clamp.calls t215 t216 t217 t218 _ A20.out).mono ?_); rintro e w' ⟨rfl, ⟨nd, rfl⟩⟩; refine ⟨_, rfl, ?_⟩; (try (rw [drewN_self w26]; generalize hq_ : World.drewN w26 _ = w26; have n0_ : Aside0 (IsS91 w0 w26 g s0_0 s0_1 s0_2 s0_3 s0_4 s0_5) := ⟨o16⟩; have n1_ : Aside0 (KeepBut w w26 g none) := ⟨o56⟩; have n2_ : Aside0 (Below w0.heap.size w0 w26) := ⟨o33⟩; clear HI0 HK HB hq_; have HI0 := n0_; have HK := n1_; have HB := n2_; clear n0_ n1_ n2_)); obtain ⟨HGz27, hgz27⟩ := HI0.out; have hcz27_0 := cellS91_0 HGz27; have hcz27_1 := cellS91_1 HGz27; have hcz27_2 := cellS91_2 HGz27; have hcz27_3 := cellS91_3 HGz27; have hcz27_4 := cellS91_4 HGz27; have hcz27_5 := cellS91_5 HGz27; have hfz27_0 := blk_frozen HGz27 0; have hfz27_1 := blk_frozen HGz27 1; have hfz27_2 := blk_frozen HGz27 2; have hfz27_3 := blk_frozen HGz27 3; have hfz27_4 := blk_frozen HGz27 4; have hfz27_5 := blk_frozen HGz27 5; clear HGz27 hgz27))
    first | go_end0 | ((try simp only [Exit.inBlock, Exit.then]); refine bodyPost_ret (results_none rfl _ _ _) rfl ?_)
    exact ⟨o95, o20, o51, o70⟩
def detect_Detector_Add.f (k : Nat) (s0_0 : Int) (s0_1 : Int) (s0_2 : Int) (s0_3 : Int) (s0_4 : Int) (s0_5 : Int) (a1 : Int) (a2 : Int) (a3 : Int) (a4 : Int) : Option (Int × Int × Int × Int × Int × Int × Int) := (sat_Clamp.f a3 0 1000000).bind fun t219 => ((sat_Mul.f (4 * (mn (mx a2 0) 60)) a1).bind fun t220 => (if t220 > s0_1 then (if s0_2 > 0 then (if (wrap64 (s0_2 + t219)) > 10000 then (if (wrap64 (s0_3 + 1)) > 1 then (if t220 ≥ s0_4 then ((sat_Abs.f t220).bind fun t221 => ((detect_Detector_moves.f k 1 s0_1 0 0 s0_4 s0_5 t221 (mn t219 100000)).bind fun bt222 => (some (bt222.1, bt222.1, bt222.2.1, bt222.2.2.1, bt222.2.2.2.1, t220, bt222.2.2.2.2.2)))) else ((sat_Abs.f t220).bind fun t228 => ((detect_Detector_moves.f k s0_0 s0_1 (wrap64 (s0_2 + t219)) (wrap64 (s0_3 + 1)) s0_4 s0_5 t228 (mn t219 100000)).bind fun bt229 => (some (bt229.1, bt229.1, bt229.2.1, bt229.2.2.1, bt229.2.2.2.1, t220, bt229.2.2.2.2.2))))) else ((sat_Abs.f t220).bind fun t235 => ((detect_Detector_moves.f k s0_0 s0_1 (wrap64 (s0_2 + t219)) (wrap64 (s0_3 + 1)) s0_4 s0_5 t235 (mn t219 100000)).bind fun bt236 => (some (bt236.1, bt236.1, bt236.2.1, bt236.2.2.1, bt236.2.2.2.1, t220, bt236.2.2.2.2.2))))) else ((sat_Abs.f t220).bind fun t242 => ((detect_Detector_moves.f k s0_0 s0_1 (wrap64 (s0_2 + t219)) (wrap64 (s0_3 + 1)) s0_4 s0_5 t242 (mn t219 100000)).bind fun bt243 => (some (bt243.1, bt243.1, bt243.2.1, bt243.2.2.1, bt243.2.2.2.1, t220, bt243.2.2.2.2.2))))) else (if (mx (wrap64 (Int.tdiv t219 2)) 1) > 10000 then (if (wrap64 (s0_3 + 1)) > 1 then (if t220 ≥ s0_4 then ((sat_Abs.f t220).bind fun t249 => ((detect_Detector_moves.f k 1 s0_1 0 0 s0_4 s0_5 t249 (mn t219 100000)).bind fun bt250 => (some (bt250.1, bt250.1, bt250.2.1, bt250.2.2.1, bt250.2.2.2.1, t220, bt250.2.2.2.2.2)))) else ((sat_Abs.f t220).bind fun t256 => ((detect_Detector_moves.f k s0_0 s0_1 (mx (wrap64 (Int.tdiv t219 2)) 1) (wrap64 (s0_3 + 1)) s0_4 s0_5 t256 (mn t219 100000)).bind fun bt257 => (some (bt257.1, bt257.1, bt257.2.1, bt257.2.2.1, bt257.2.2.2.1, t220, bt257.2.2.2.2.2))))) else ((sat_Abs.f t220).bind fun t263 => ((detect_Detector_moves.f k s0_0 s0_1 (mx (wrap64 (Int.tdiv t219 2)) 1) (wrap64 (s0_3 + 1)) s0_4 s0_5 t263 (mn t219 100000)).bind fun bt264 => (some (bt264.1, bt264.1, bt264.2.1, bt264.2.2.1, bt264.2.2.2.1, t220, bt264.2.2.2.2.2))))) else ((sat_Abs.f t220).bind fun t270 => ((detect_Detector_moves.f k s0_0 s0_1 (mx (wrap64 (Int.tdiv t219 2)) 1) (wrap64 (s0_3 + 1)) s0_4 s0_5 t270 (mn t219 100000)).bind fun bt271 => (some (bt271.1, bt271.1, bt271.2.1, bt271.2.2.1, bt271.2.2.2.1, t220, bt271.2.2.2.2.2)))))) else (if t220 < (wrap64 (-s0_1)) then ((sat_Abs.f t220).bind fun t277 => ((detect_Detector_moves.f k 2 s0_1 0 0 s0_4 s0_5 t277 (mn t219 100000)).bind fun bt278 => (some (bt278.1, bt278.1, bt278.2.1, bt278.2.2.1, bt278.2.2.2.1, t220, bt278.2.2.2.2.2)))) else ((sat_Abs.f t220).bind fun t284 => ((detect_Detector_moves.f k 0 s0_1 0 0 s0_4 s0_5 t284 (mn t219 100000)).bind fun bt285 => (some (bt285.1, bt285.1, bt285.2.1, bt285.2.2.1, bt285.2.2.2.1, t220, bt285.2.2.2.2.2)))))))
theorem detect_Detector_Add.mono : ∀ a0 a1 a2 a3 a4 a5 a6 a7 a8 a9 k, LeO (detect_Detector_Add.f k a0 a1 a2 a3 a4 a5 a6 a7 a8 a9) (detect_Detector_Add.f (k + 1) a0 a1 a2 a3 a4 a5 a6 a7 a8 a9) := by
 intro a0 a1 a2 a3 a4 a5 a6 a7 a8 a9 k
 unfold detect_Detector_Add.f
 repeat' first
   | (with_reducible exact detect_Detector_moves.mono _ _ _ _ _ _ _ _ _)
   | (with_reducible exact LeO.refl _)
   | (with_reducible exact LeO.none _)
   | (with_reducible refine LeO.ite ?_ ?_)
   | (with_reducible refine LeO.bind ?_ (fun _ => ?_))
   | exact detect_Detector_moves.mono _ _ _ _ _ _ _ _ _
   | exact LeO.none _
   | refine LeO.ite ?_ ?_
   | refine LeO.bind ?_ (fun _ => ?_)
set_option maxHeartbeats 8000000 in
set_option maxRecDepth 100000 in
theorem detect_Detector_Add.calls (k : Nat) (g : Nat) (s0_0 : Int) (s0_1 : Int) (s0_2 : Int) (s0_3 : Int) (s0_4 : Int) (s0_5 : Int) (a1 : Int) (a2 : Int) (a3 : Int) (a4 : Int) (r1 : Int) (r2 : Int) (r3 : Int) (r4 : Int) (r5 : Int) (r6 : Int) (r7 : Int) (w0 w : World) (hI : IsS91 w0 w g s0_0 s0_1 s0_2 s0_3 s0_4 s0_5) (hB : Below w0.heap.size w0 w) (h : detect_Detector_Add.f k s0_0 s0_1 s0_2 s0_3 s0_4 s0_5 a1 a2 a3 a4 = some (r1, r2, r3, r4, r5, r6, r7)) :
  Calls Tryd.prog 21 #[.pointer (some ⟨g, 0, none⟩), .int .i64 a1, .int .i64 a2, .int .i64 a3, .int .i64 a4] w fun e w' => e = .returned (.int .i64 r1) ∧ IsS91 w0 w' g r2 r3 r4 r5 r6 r7 ∧ Below w0.heap.size w0 w' ∧ KeepBut w w' g none := by
 have hpn60_eql : ∀ (a_ : Addr) (W_ : World), (Go.binOp .eql 60 (.pointer (some a_)) (.pointer none)).run Tryd.prog W_ = .ok (.bool false) W_ := fun _ _ => by kernel_rfl
 have hnn60_eql : ∀ (W_ : World), (Go.binOp .eql 60 (.pointer none) (.pointer none)).run Tryd.prog W_ = .ok (.bool true) W_ := fun _ => by kernel_rfl
 have HI0 := aW hI
 have HK := aW (KeepBut.refl w g none)
 have HL := aW hB.size
 clear hI
 have HW0 := aW hB.size
 have HB := aW hB
 clear hB
 have H : ((sat_Clamp.f a3 0 1000000).bind fun t219 => ((sat_Mul.f (4 * (mn (mx a2 0) 60)) a1).bind fun t220 => (if t220 > s0_1 then (if s0_2 > 0 then (if (wrap64 (s0_2 + t219)) > 10000 then (if (wrap64 (s0_3 + 1)) > 1 then (if t220 ≥ s0_4 then ((sat_Abs.f t220).bind fun t221 => ((detect_Detector_moves.f k 1 s0_1 0 0 s0_4 s0_5 t221 (mn t219 100000)).bind fun bt222 => (some (bt222.1, bt222.1, bt222.2.1, bt222.2.2.1, bt222.2.2.2.1, t220, bt222.2.2.2.2.2)))) else ((sat_Abs.f t220).bind fun t228 => ((detect_Detector_moves.f k s0_0 s0_1 (wrap64 (s0_2 + t219)) (wrap64 (s0_3 + 1)) s0_4 s0_5 t228 (mn t219 100000)).bind fun bt229 => (some (bt229.1, bt229.1, bt229.2.1, bt229.2.2.1, bt229.2.2.2.1, t220, bt229.2.2.2.2.2))))) else ((sat_Abs.f t220).bind fun t235 => ((detect_Detector_moves.f k s0_0 s0_1 (wrap64 (s0_2 + t219)) (wrap64 (s0_3 + 1)) s0_4 s0_5 t235 (mn t219 100000)).bind fun bt236 => (some (bt236.1, bt236.1, bt236.2.1, bt236.2.2.1, bt236.2.2.2.1, t220, bt236.2.2.2.2.2))))) else ((sat_Abs.f t220).bind fun t242 => ((detect_Detector_moves.f k s0_0 s0_1 (wrap64 (s0_2 + t219)) (wrap64 (s0_3 + 1)) s0_4 s0_5 t242 (mn t219 100000)).bind fun bt243 => (some (bt243.1, bt243.1, bt243.2.1, bt243.2.2.1, bt243.2.2.2.1, t220, bt243.2.2.2.2.2))))) else (if (mx (wrap64 (Int.tdiv t219 2)) 1) > 10000 then (if (wrap64 (s0_3 + 1)) > 1 then (if t220 ≥ s0_4 then ((sat_Abs.f t220).bind fun t249 => ((detect_Detector_moves.f k 1 s0_1 0 0 s0_4 s0_5 t249 (mn t219 100000)).bind fun bt250 => (some (bt250.1, bt250.1, bt250.2.1, bt250.2.2.1, bt250.2.2.2.1, t220, bt250.2.2.2.2.2)))) else ((sat_Abs.f t220).bind fun t256 => ((detect_Detector_moves.f k s0_0 s0_1 (mx (wrap64 (Int.tdiv t219 2)) 1) (wrap64 (s0_3 + 1)) s0_4 s0_5 t256 (mn t219 100000)).bind fun bt257 => (some (bt257.1, bt257.1, bt257.2.1, bt257.2.2.1, bt257.2.2.2.1, t220, bt257.2.2.2.2.2))))) else ((sat_Abs.f t220).bind fun t263 => ((detect_Detector_moves.f k s0_0 s0_1 (mx (wrap64 (Int.tdiv t219 2)) 1) (wrap64 (s0_3 + 1)) s0_4 s0_5 t263 (mn t219 100000)).bind fun bt264 => (some (bt264.1, bt264.1, bt264.2.1, bt264.2.2.1, bt264.2.2.2.1, t220, bt264.2.2.2.2.2))))) else ((sat_Abs.f t220).bind fun t270 => ((detect_Detector_moves.f k s0_0 s0_1 (mx (wrap64 (Int.tdiv t219 2)) 1) (wrap64 (s0_3 + 1)) s0_4 s0_5 t270 (mn t219 100000)).bind fun bt271 => (some (bt271.1, bt271.1, bt271.2.1, bt271.2.2.1, bt271.2.2.2.1, t220, bt271.2.2.2.2.2)))))) else (if t220 < (wrap64 (-s0_1)) then ((sat_Abs.f t220).bind fun t277 => ((detect_Detector_moves.f k 2 s0_1 0 0 s0_4 s0_5 t277 (mn t219 100000)).bind fun bt278 => (some (bt278.1, bt278.1, bt278.2.1, bt278.2.2.1, bt278.2.2.2.1, t220, bt278.2.2.2.2.2)))) else ((sat_Abs.f t220).bind fun t284 => ((detect_Detector_moves.f k 0 s0_1 0 0 s0_4 s0_5 t284 (mn t219 100000)).bind fun bt285 => (some (bt285.1, bt285.1, bt285.2.1, bt285.2.2.1, bt285.2.2.2.1, t220, bt285.2.2.2.2.2)))))))) = some (r1, r2, r3, r4, r5, r6, r7) := h
 clear h
 obtain ⟨t219, A6, H⟩ := bw H
 obtain ⟨ji7, hji7⟩ : ∃ j_ : Int, (mx a2 0) = j_ := ⟨_, rfl⟩
 replace H : ((sat_Mul.f (4 * (mn (ji7) 60)) a1).bind fun t220 => (if t220 > s0_1 then (if s0_2 > 0 then (if (wrap64 (s0_2 + t219)) > 10000 then (if (wrap64 (s0_3 + 1)) > 1 then (if t220 ≥ s0_4 then ((sat_Abs.f t220).bind fun t221 => ((detect_Detector_moves.f k 1 s0_1 0 0 s0_4 s0_5 t221 (mn t219 100000)).bind fun bt222 => (some (bt222.1, bt222.1, bt222.2.1, bt222.2.2.1, bt222.2.2.2.1, t220, bt222.2.2.2.2.2)))) else ((sat_Abs.f t220).bind fun t228 => ((detect_Detector_moves.f k s0_0 s0_1 (wrap64 (s0_2 + t219)) (wrap64 (s0_3 + 1)) s0_4 s0_5 t228 (mn t219 100000)).bind fun bt229 => (some (bt229.1, bt229.1, bt229.2.1, bt229.2.2.1, bt229.2.2.2.1, t220, bt229.2.2.2.2.2))))) else ((sat_Abs.f t220).bind fun t235 => ((detect_Detector_moves.f k s0_0 s0_1 (wrap64 (s0_2 + t219)) (wrap64 (s0_3 + 1)) s0_4 s0_5 t235 (mn t219 100000)).bind fun bt236 => (some (bt236.1, bt236.1, bt236.2.1, bt236.2.2.1, bt236.2.2.2.1, t220, bt236.2.2.2.2.2))))) else ((sat_Abs.f t220).bind fun t242 => ((detect_Detector_moves.f k s0_0 s0_1 (wrap64 (s0_2 + t219)) (wrap64 (s0_3 + 1)) s0_4 s0_5 t242 (mn t219 100000)).bind fun bt243 => (some (bt243.1, bt243.1, bt243.2.1, bt243.2.2.1, bt243.2.2.2.1, t220, bt243.2.2.2.2.2))))) else (if (mx (wrap64 (Int.tdiv t219 2)) 1) > 10000 then (if (wrap64 (s0_3 + 1)) > 1 then (if t220 ≥ s0_4 then ((sat_Abs.f t220).bind fun t249 => ((detect_Detector_moves.f k 1 s0_1 0 0 s0_4 s0_5 t249 (mn t219 100000)).bind fun bt250 => (some (bt250.1, bt250.1, bt250.2.1, bt250.2.2.1, bt250.2.2.2.1, t220, bt250.2.2.2.2.2)))) else ((sat_Abs.f t220).bind fun t256 => ((detect_Detector_moves.f k s0_0 s0_1 (mx (wrap64 (Int.tdiv t219 2)) 1) (wrap64 (s0_3 + 1)) s0_4 s0_5 t256 (mn t219 100000)).bind fun bt257 => (some (bt257.1, bt257.1, bt257.2.1, bt257.2.2.1, bt257.2.2.2.1, t220, bt257.2.2.2.2.2))))) else ((sat_Abs.f t220).bind fun t263 => ((detect_Detector_moves.f k s0_0 s0_1 (mx (wrap64 (Int.tdiv t219 2)) 1) (wrap64 (s0_3 + 1)) s0_4 s0_5 t263 (mn t219 100000)).bind fun bt264 => (some (bt264.1, bt264.1, bt264.2.1, bt264.2.2.1, bt264.2.2.2.1, t220, bt264.2.2.2.2.2))))) else ((sat_Abs.f t220).bind fun t270 => ((detect_Detector_moves.f k s0_0 s0_1 (mx (wrap64 (Int.tdiv t219 2)) 1) (wrap64 (s0_3 + 1)) s0_4 s0_5 t270 (mn t219 100000)).bind fun bt271 => (some (bt271.1, bt271.1, bt271.2.1, bt271.2.2.1, bt271.2.2.2.1, t220, bt271.2.2.2.2.2)))))) else (if t220 < (wrap64 (-s0_1)) then ((sat_Abs.f t220).bind fun t277 => ((detect_Detector_moves.f k 2 s0_1 0 0 s0_4 s0_5 t277 (mn t219 100000)).bind fun bt278 => (some (bt278.1, bt278.1, bt278.2.1, bt278.2.2.1, bt278.2.2.2.1, t220, bt278.2.2.2.2.2)))) else ((sat_Abs.f t220).bind fun t284 => ((detect_Detector_moves.f k 0 s0_1 0 0 s0_4 s0_5 t284 (mn t219 100000)).bind fun bt285 => (some (bt285.1, bt285.1, bt285.2.1, bt285.2.2.1, bt285.2.2.2.1, t220, bt285.2.2.2.2.2))))))) = some (r1, r2, r3, r4, r5, r6, r7) := by first | (rw [hji7] at H; exact H) | (simp only [hji7] at H ⊢; exact H)
 (try rw [hji7] at A6)
 (try (have hji7l : 0 ≤ ji7 := by (rw [← hji7]; unfold mx; (repeat' split) <;> omega)))
 (try (have hji7m : 0 ≤ ji7 := by omega))
 have hji7_ : (if a2 < 0 then 0 else a2) = ji7 := hji7
 obtain ⟨ji8, hji8⟩ : ∃ j_ : Int, (mn (ji7) 60) = j_ := ⟨_, rfl⟩
 replace H : ((sat_Mul.f (4 * (ji8)) a1).bind fun t220 => (if t220 > s0_1 then (if s0_2 > 0 then (if (wrap64 (s0_2 + t219)) > 10000 then (if (wrap64 (s0_3 + 1)) > 1 then (if t220 ≥ s0_4 then ((sat_Abs.f t220).bind fun t221 => ((detect_Detector_moves.f k 1 s0_1 0 0 s0_4 s0_5 t221 (mn t219 100000)).bind fun bt222 => (some (bt222.1, bt222.1, bt222.2.1, bt222.2.2.1, bt222.2.2.2.1, t220, bt222.2.2.2.2.2)))) else ((sat_Abs.f t220).bind fun t228 => ((detect_Detector_moves.f k s0_0 s0_1 (wrap64 (s0_2 + t219)) (wrap64 (s0_3 + 1)) s0_4 s0_5 t228 (mn t219 100000)).bind fun bt229 => (some (bt229.1, bt229.1, bt229.2.1, bt229.2.2.1, bt229.2.2.2.1, t220, bt229.2.2.2.2.2))))) else ((sat_Abs.f t220).bind fun t235 => ((detect_Detector_moves.f k s0_0 s0_1 (wrap64 (s0_2 + t219)) (wrap64 (s0_3 + 1)) s0_4 s0_5 t235 (mn t219 100000)).bind fun bt236 => (some (bt236.1, bt236.1, bt236.2.1, bt236.2.2.1, bt236.2.2.2.1, t220, bt236.2.2.2.2.2))))) else ((sat_Abs.f t220).bind fun t242 => ((detect_Detector_moves.f k s0_0 s0_1 (wrap64 (s0_2 + t219)) (wrap64 (s0_3 + 1)) s0_4 s0_5 t242 (mn t219 100000)).bind fun bt243 => (some (bt243.1, bt243.1, bt243.2.1, bt243.2.2.1, bt243.2.2.2.1, t220, bt243.2.2.2.2.2))))) else (if (mx (wrap64 (Int.tdiv t219 2)) 1) > 10000 then (if (wrap64 (s0_3 + 1)) > 1 then (if t220 ≥ s0_4 then ((sat_Abs.f t220).bind fun t249 => ((detect_Detector_moves.f k 1 s0_1 0 0 s0_4 s0_5 t249 (mn t219 100000)).bind fun bt250 => (some (bt250.1, bt250.1, bt250.2.1, bt250.2.2.1, bt250.2.2.2.1, t220, bt250.2.2.2.2.2)))) else ((sat_Abs.f t220).bind fun t256 => ((detect_Detector_moves.f k s0_0 s0_1 (mx (wrap64 (Int.tdiv t219 2)) 1) (wrap64 (s0_3 + 1)) s0_4 s0_5 t256 (mn t219 100000)).bind fun bt257 => (some (bt257.1, bt257.1, bt257.2.1, bt257.2.2.1, bt257.2.2.2.1, t220, bt257.2.2.2.2.2))))) else ((sat_Abs.f t220).bind fun t263 => ((detect_Detector_moves.f k s0_0 s0_1 (mx (wrap64 (Int.tdiv t219 2)) 1) (wrap64 (s0_3 + 1)) s0_4 s0_5 t263 (mn t219 100000)).bind fun bt264 => (some (bt264.1, bt264.1, bt264.2.1, bt264.2.2.1, bt264.2.2.2.1, t220, bt264.2.2.2.2.2))))) else ((sat_Abs.f t220).bind fun t270 => ((detect_Detector_moves.f k s0_0 s0_1 (mx (wrap64 (Int.tdiv t219 2)) 1) (wrap64 (s0_3 + 1)) s0_4 s0_5 t270 (mn t219 100000)).bind fun bt271 => (some (bt271.1, bt271.1, bt271.2.1, bt271.2.2.1, bt271.2.2.2.1, t220, bt271.2.2.2.2.2)))))) else (if t220 < (wrap64 (-s0_1)) then ((sat_Abs.f t220).bind fun t277 => ((detect_Detector_moves.f k 2 s0_1 0 0 s0_4 s0_5 t277 (mn t219 100000)).bind fun bt278 => (some (bt278.1, bt278.1, bt278.2.1, bt278.2.2.1, bt278.2.2.2.1, t220, bt278.2.2.2.2.2)))) else ((sat_Abs.f t220).bind fun t284 => ((detect_Detector_moves.f k 0 s0_1 0 0 s0_4 s0_5 t284 (mn t219 100000)).bind fun bt285 => (some (bt285.1, bt285.1, bt285.2.1, bt285.2.2.1, bt285.2.2.2.1, t220, bt285.2.2.2.2.2))))))) = some (r1, r2, r3, r4, r5, r6, r7) := by first | (rw [hji8] at H; exact H) | (simp only [hji8] at H ⊢; exact H)
 (try rw [hji8] at A6)
 have hji8_ : (if 60 < (ji7) then 60 else (ji7)) = ji8 := hji8
 obtain ⟨t220, A9, H⟩ := bw H
 replace H : (if t220 > s0_1 then (if s0_2 > 0 then (if (wrap64 (s0_2 + t219)) > 10000 then (if (wrap64 (s0_3 + 1)) > 1 then (if t220 ≥ s0_4 then ((sat_Abs.f t220).bind fun t221 => ((detect_Detector_moves.f k 1 s0_1 0 0 s0_4 s0_5 t221 (mn t219 100000)).bind fun bt222 => (some (bt222.1, bt222.1, bt222.2.1, bt222.2.2.1, bt222.2.2.2.1, t220, bt222.2.2.2.2.2)))) else ((sat_Abs.f t220).bind fun t228 => ((detect_Detector_moves.f k s0_0 s0_1 (wrap64 (s0_2 + t219)) (wrap64 (s0_3 + 1)) s0_4 s0_5 t228 (mn t219 100000)).bind fun bt229 => (some (bt229.1, bt229.1, bt229.2.1, bt229.2.2.1, bt229.2.2.2.1, t220, bt229.2.2.2.2.2))))) else ((sat_Abs.f t220).bind fun t235 => ((detect_Detector_moves.f k s0_0 s0_1 (wrap64 (s0_2 + t219)) (wrap64 (s0_3 + 1)) s0_4 s0_5 t235 (mn t219 100000)).bind fun bt236 => (some (bt236.1, bt236.1, bt236.2.1, bt236.2.2.1, bt236.2.2.2.1, t220, bt236.2.2.2.2.2))))) else ((sat_Abs.f t220).bind fun t242 => ((detect_Detector_moves.f k s0_0 s0_1 (wrap64 (s0_2 + t219)) (wrap64 (s0_3 + 1)) s0_4 s0_5 t242 (mn t219 100000)).bind fun bt243 => (some (bt243.1, bt243.1, bt243.2.1, bt243.2.2.1, bt243.2.2.2.1, t220, bt243.2.2.2.2.2))))) else (if (mx (wrap64 (Int.tdiv t219 2)) 1) > 10000 then (if (wrap64 (s0_3 + 1)) > 1 then (if t220 ≥ s0_4 then ((sat_Abs.f t220).bind fun t249 => ((detect_Detector_moves.f k 1 s0_1 0 0 s0_4 s0_5 t249 (mn t219 100000)).bind fun bt250 => (some (bt250.1, bt250.1, bt250.2.1, bt250.2.2.1, bt250.2.2.2.1, t220, bt250.2.2.2.2.2)))) else ((sat_Abs.f t220).bind fun t256 => ((detect_Detector_moves.f k s0_0 s0_1 (mx (wrap64 (Int.tdiv t219 2)) 1) (wrap64 (s0_3 + 1)) s0_4 s0_5 t256 (mn t219 100000)).bind fun bt257 => (some (bt257.1, bt257.1, bt257.2.1, bt257.2.2.1, bt257.2.2.2.1, t220, bt257.2.2.2.2.2))))) else ((sat_Abs.f t220).bind fun t263 => ((detect_Detector_moves.f k s0_0 s0_1 (mx (wrap64 (Int.tdiv t219 2)) 1) (wrap64 (s0_3 + 1)) s0_4 s0_5 t263 (mn t219 100000)).bind fun bt264 => (some (bt264.1, bt264.1, bt264.2.1, bt264.2.2.1, bt264.2.2.2.1, t220, bt264.2.2.2.2.2))))) else ((sat_Abs.f t220).bind fun t270 => ((detect_Detector_moves.f k s0_0 s0_1 (mx (wrap64 (Int.tdiv t219 2)) 1) (wrap64 (s0_3 + 1)) s0_4 s0_5 t270 (mn t219 100000)).bind fun bt271 => (some (bt271.1, bt271.1, bt271.2.1, bt271.2.2.1, bt271.2.2.2.1, t220, bt271.2.2.2.2.2)))))) else (if t220 < (wrap64 (-s0_1)) then ((sat_Abs.f t220).bind fun t277 => ((detect_Detector_moves.f k 2 s0_1 0 0 s0_4 s0_5 t277 (mn t219 100000)).bind fun bt278 => (some (bt278.1, bt278.1, bt278.2.1, bt278.2.2.1, bt278.2.2.2.1, t220, bt278.2.2.2.2.2)))) else ((sat_Abs.f t220).bind fun t284 => ((detect_Detector_moves.f k 0 s0_1 0 0 s0_4 s0_5 t284 (mn t219 100000)).bind fun bt285 => (some (bt285.1, bt285.1, bt285.2.1, bt285.2.2.1, bt285.2.2.2.1, t220, bt285.2.2.2.2.2)))))) = some (r1, r2, r3, r4, r5, r6, r7) := H
 by_cases c10 : t220 > s0_1
 ·rw [if_pos c10] at H
  have c10b0 : decide (s0_1 < t220) = true := decide_eq_true c10
  clear c10
  by_cases c11 : s0_2 > 0
  ·rw [if_pos c11] at H
   have c11b0 : decide (0 < s0_2) = true := decide_eq_true c11
   clear c11
   by_cases c12 : (wrap64 (s0_2 + t219)) > 10000
   ·rw [if_pos c12] at H
    have c12b0 : decide (10000 < (wrap64 (s0_2 + t219))) = true := decide_eq_true c12
    clear c12
    by_cases c13 : (wrap64 (s0_3 + 1)) > 1
    ·rw [if_pos c13] at H
     have c13b0 : decide (1 < (wrap64 (s0_3 + 1))) = true := decide_eq_true c13
     clear c13
     by_cases c14 : t220 ≥ s0_4
     ·rw [if_pos c14] at H
      have c14b0 : decide (s0_4 ≤ t220) = true := decide_eq_true c14
      clear c14
      obtain ⟨t221, A15, H⟩ := bw H
      replace H : ((detect_Detector_moves.f k 1 s0_1 0 0 s0_4 s0_5 t221 (mn t219 100000)).bind fun bt222 => (some (bt222.1, bt222.1, bt222.2.1, bt222.2.2.1, bt222.2.2.2.1, t220, bt222.2.2.2.2.2))) = some (r1, r2, r3, r4, r5, r6, r7) := H
      obtain ⟨ji16, hji16⟩ : ∃ j_ : Int, (mn t219 100000) = j_ := ⟨_, rfl⟩
      replace H : ((detect_Detector_moves.f k 1 s0_1 0 0 s0_4 s0_5 t221 (ji16)).bind fun bt222 => (some (bt222.1, bt222.1, bt222.2.1, bt222.2.2.1, bt222.2.2.2.1, t220, bt222.2.2.2.2.2))) = some (r1, r2, r3, r4, r5, r6, r7) := by first | (rw [hji16] at H; exact H) | (simp only [hji16] at H ⊢; exact H)
      (try rw [hji16] at A6)
      (try rw [hji16] at A9)
      (try rw [hji16] at A15)
      (try (have hji16h : ji16 ≤ 100000 := by (rw [← hji16]; unfold mn; (repeat' split) <;> omega)))
      (try (have hji16g : ji16 ≤ 64 := by omega))
      have hji16_ : (if 100000 < t219 then 100000 else t219) = ji16 := hji16
      replace H := Option.bind_eq_some_iff.mp H
      obtain ⟨⟨t222, t223, t224, t225, t226, t227⟩, A170, H⟩ := H
      replace H : (some (t222, t222, t223, t224, t225, t220, t227)) = some (r1, r2, r3, r4, r5, r6, r7) := H
      have A17 := aW A170
      clear A170
      simp only [Option.some.injEq, Prod.mk.injEq] at H
      obtain ⟨rfl, rfl, rfl, rfl, rfl, rfl, rfl⟩ := H
      go_enter Tryd.func21, Tryd.ntmps21
      go_wp2
      repeat ((first | refine wp_scope_fwd 2 ?_ | refine Exit.fwd_goto rfl ?_ | (refine wp_label ?_; dsimp only [Exit.then]) | refine wp_label ?_ | (go_step3; refine Exit.fwd_goto rfl ?_) | (go_step3; (try simp only [Exit.then, Exit.inBlock]); refine Exit.fwd_goto rfl ?_)); try go_wp2_with (first | ((with_reducible refine gate_callee (f := 23) rfl ?_); refine gL_ 15 Tryd.func23 #[.int .i64 a3, .int .i64 0, .int .i64 1000000] ?_; (with_reducible refine (sat_Clamp.calls a3 0 1000000 t219 _ A6.out).mono ?_); rintro e w' ⟨rfl, ⟨nd, rfl⟩⟩; refine ⟨_, rfl, ?_⟩; (generalize hq_ : World.drewN w _ = w18; have n0_ : Aside0 (IsS91 w0 w18 g s0_0 s0_1 s0_2 s0_3 s0_4 s0_5) := ⟨o16⟩; have n1_ : Aside0 (KeepBut w w18 g none) := ⟨o56⟩; have n2_ : Aside0 (Below w0.heap.size w0 w18) := ⟨o33⟩; clear HI0 HK HB hq_; have HI0 := n0_; have HK := n1_; have HB := n2_; clear n0_ n1_ n2_)) | ((with_reducible refine gate_callee (f := 35) rfl ?_); refine goesL_ (some 21) rfl rfl Tryd.func35 (by kernel_rfl) rfl #[.int .i64 (4 * (ji8)), .int .i64 a1] rfl o57 ?_; (with_reducible refine (sat_Mul.calls (4 * (ji8)) a1 t220 _ A9.out).mono ?_); rintro e w19 ⟨rfl, hb⟩; refine ⟨_, rfl, ?_⟩; replace HB := aW (below_step o49 hb); replace HK := aW (KeepBut.trans o69 (KeepBut.of_below hb g none) (.inl rfl)); replace HI0 := aW (IsS91.below o19 hb); (try clear hb); (try clear hb2); (try clear hk); (try clear hi); obtain ⟨HGz20, hgz20⟩ := HI0.out; have hcz20_0 := cellS91_0 HGz20; have hcz20_1 := cellS91_1 HGz20; have hcz20_2 := cellS91_2 HGz20; have hcz20_3 := cellS91_3 HGz20; have hcz20_4 := cellS91_4 HGz20; have hcz20_5 := cellS91_5 HGz20; have hfz20_0 := blk_frozen HGz20 0; have hfz20_1 := blk_frozen HGz20 1; have hfz20_2 := blk_frozen HGz20 2; have hfz20_3 := blk_frozen HGz20 3; have hfz20_4 := blk_frozen HGz20 4; have hfz20_5 := blk_frozen HGz20 5; clear HGz20 hgz20) | ((with_reducible refine gate_callee (f := 37) rfl ?_); refine gL_ 104 Tryd.func37 #[.int .i64 t220] ?_; (with_reducible refine (sat_Abs.calls t220 t221 _ A15.out).mono ?_); rintro e w21 ⟨rfl, hb⟩; refine ⟨_, rfl, ?_⟩; replace HB := aW (below_step o49 hb); replace HK := aW (KeepBut.trans o69 (KeepBut.of_below hb g none) (.inl rfl)); replace HI0 := aW (IsS91.below (show IsS91 w0 (((((w19.setCell ⟨g, 2, none⟩ (.int .i64 (wrap64 (s0_2 + t219)))).setCell ⟨g, 3, none⟩ (.int .i64 (wrap64 (s0_3 + 1)))).setCell ⟨g, 2, none⟩ (.int .i64 0)).setCell ⟨g, 3, none⟩ (.int .i64 0)).setCell ⟨g, 0, none⟩ (.int .i64 1)) g 1 s0_1 0 0 s0_4 s0_5 from o18) hb); (try clear hb); (try clear hb2); (try clear hk); (try clear hi)) | ((with_reducible refine gate_callee (f := 36) rfl ?_); refine goesL_ (some 107) rfl rfl Tryd.func36 (by kernel_rfl) rfl #[.pointer (some ⟨g, 0, none⟩), .int .i64 t221, .int .i64 ji16] rfl (by (try simp only [List.map_toArray, List.map_cons, List.map_nil]); first | done | (simp only [hji16]; rfl) | rfl | (simp only [List.length_drop, List.length_take]; rfl)) ?_; (with_reducible refine (detect_Detector_moves.calls k g 1 s0_1 0 0 s0_4 s0_5 t221 ji16 t222 t223 t224 t225 t226 t227 w0 _ ?side1 ?side2 A17.out).mono ?_); (case side1 => exact o21); (case side2 => exact o54); rintro e w22 ⟨rfl, hi, hb, hk⟩; refine ⟨_, rfl, ?_⟩; replace HI0 := aW (hi); replace HB := aW (hb); replace HK := aW (KeepBut.trans o69 hk (.inl rfl)); (try clear hb); (try clear hb2); (try clear hk); (try clear hi); obtain ⟨HGz23, hgz23⟩ := HI0.out; have hcz23_0 := cellS91_0 HGz23; have hcz23_1 := cellS91_1 HGz23; have hcz23_2 := cellS91_2 HGz23; have hcz23_3 := cellS91_3 HGz23; have hcz23_4 := cellS91_4 HGz23; have hcz23_5 := cellS91_5 HGz23; have hfz23_0 := blk_frozen HGz23 0; have hfz23_1 := blk_frozen HGz23 1; have hfz23_2 := blk_frozen HGz23 2; have hfz23_3 := blk_frozen HGz23 3; have hfz23_4 := blk_frozen HGz23 4; have hfz23_5 := blk_frozen HGz23 5; clear HGz23 hgz23)))
      (try rw [Exit.fwd_ret])
      (try rw [Exit.fwd_normal])
      go_ret
      exact ⟨by first | rfl | (simp [errW_none, errW_some] <;> rfl) | (simp only [← hji7, ← hji8, ← hji16]; first | rfl | (simp [errW_none, errW_some] <;> rfl)) | (simp [*, errW_none, errW_some] <;> rfl), o20, o51, o70⟩
     ·rw [if_neg c14] at H
      have c14b0 : decide (s0_4 ≤ t220) = false := decide_eq_false c14
      clear c14
      obtain ⟨t228, A24, H⟩ := bw H
      replace H : ((detect_Detector_moves.f k s0_0 s0_1 (wrap64 (s0_2 + t219)) (wrap64 (s0_3 + 1)) s0_4 s0_5 t228 (mn t219 100000)).bind fun bt229 => (some (bt229.1, bt229.1, bt229.2.1, bt229.2.2.1, bt229.2.2.2.1, t220, bt229.2.2.2.2.2))) = some (r1, r2, r3, r4, r5, r6, r7) := H
      obtain ⟨ji25, hji25⟩ : ∃ j_ : Int, (mn t219 100000) = j_ := ⟨_, rfl⟩
      replace H : ((detect_Detector_moves.f k s0_0 s0_1 (wrap64 (s0_2 + t219)) (wrap64 (s0_3 + 1)) s0_4 s0_5 t228 (ji25)).bind fun bt229 => (some (bt229.1, bt229.1, bt229.2.1, bt229.2.2.1, bt229.2.2.2.1, t220, bt229.2.2.2.2.2))) = some (r1, r2, r3, r4, r5, r6, r7) := by first | (rw [hji25] at H; exact H) | (simp only [hji25] at H ⊢; exact H)
      (try rw [hji25] at A6)
      (try rw [hji25] at A9)
      (try rw [hji25] at A24)
      (try (have hji25h : ji25 ≤ 100000 := by (rw [← hji25]; unfold mn; (repeat' split) <;> omega)))
      (try (have hji25g : ji25 ≤ 64 := by omega))
      have hji25_ : (if 100000 < t219 then 100000 else t219) = ji25 := hji25
      replace H := Option.bind_eq_some_iff.mp H
      obtain ⟨⟨t229, t230, t231, t232, t233, t234⟩, A260, H⟩ := H
      replace H : (some (t229, t229, t230, t231, t232, t220, t234)) = some (r1, r2, r3, r4, r5, r6, r7) := H
      have A26 := aW A260
      clear A260
      simp only [Option.some.injEq, Prod.mk.injEq] at H
      obtain ⟨rfl, rfl, rfl, rfl, rfl, rfl, rfl⟩ := H
      go_enter Tryd.func21, Tryd.ntmps21
      go_wp2
      repeat ((first | refine wp_scope_fwd 2 ?_ | refine Exit.fwd_goto rfl ?_ | (refine wp_label ?_; dsimp only [Exit.then]) | refine wp_label ?_ | (go_step3; refine Exit.fwd_goto rfl ?_) | (go_step3; (try simp only [Exit.then, Exit.inBlock]); refine Exit.fwd_goto rfl ?_)); try go_wp2_with (first | ((with_reducible refine gate_callee (f := 23) rfl ?_); refine gL_ 15 Tryd.func23 #[.int .i64 a3, .int .i64 0, .int .i64 1000000] ?_; (with_reducible refine (sat_Clamp.calls a3 0 1000000 t219 _ A6.out).mono ?_); rintro e w' ⟨rfl, ⟨nd, rfl⟩⟩; refine ⟨_, rfl, ?_⟩; (generalize hq_ : World.drewN w _ = w27; have n0_ : Aside0 (IsS91 w0 w27 g s0_0 s0_1 s0_2 s0_3 s0_4 s0_5) := ⟨o16⟩; have n1_ : Aside0 (KeepBut w w27 g none) := ⟨o56⟩; have n2_ : Aside0 (Below w0.heap.size w0 w27) := ⟨o33⟩; clear HI0 HK HB hq_; have HI0 := n0_; have HK := n1_; have HB := n2_; clear n0_ n1_ n2_)) | ((with_reducible refine gate_callee (f := 35) rfl ?_); refine goesL_ (some 21) rfl rfl Tryd.func35 (by kernel_rfl) rfl #[.int .i64 (4 * (ji8)), .int .i64 a1] rfl o57 ?_; (with_reducible refine (sat_Mul.calls (4 * (ji8)) a1 t220 _ A9.out).mono ?_); rintro e w28 ⟨rfl, hb⟩; refine ⟨_, rfl, ?_⟩; replace HB := aW (below_step o49 hb); replace HK := aW (KeepBut.trans o69 (KeepBut.of_below hb g none) (.inl rfl)); replace HI0 := aW (IsS91.below o19 hb); (try clear hb); (try clear hb2); (try clear hk); (try clear hi); obtain ⟨HGz29, hgz29⟩ := HI0.out; have hcz29_0 := cellS91_0 HGz29; have hcz29_1 := cellS91_1 HGz29; have hcz29_2 := cellS91_2 HGz29; have hcz29_3 := cellS91_3 HGz29; have hcz29_4 := cellS91_4 HGz29; have hcz29_5 := cellS91_5 HGz29; have hfz29_0 := blk_frozen HGz29 0; have hfz29_1 := blk_frozen HGz29 1; have hfz29_2 := blk_frozen HGz29 2; have hfz29_3 := blk_frozen HGz29 3; have hfz29_4 := blk_frozen HGz29 4; have hfz29_5 := blk_frozen HGz29 5; clear HGz29 hgz29) | ((with_reducible refine gate_callee (f := 37) rfl ?_); refine gL_ 104 Tryd.func37 #[.int .i64 t220] ?_; (with_reducible refine (sat_Abs.calls t220 t228 _ A24.out).mono ?_); rintro e w30 ⟨rfl, hb⟩; refine ⟨_, rfl, ?_⟩; replace HB := aW (below_step o49 hb); replace HK := aW (KeepBut.trans o69 (KeepBut.of_below hb g none) (.inl rfl)); replace HI0 := aW (IsS91.below (show IsS91 w0 ((w28.setCell ⟨g, 2, none⟩ (.int .i64 (wrap64 (s0_2 + t219)))).setCell ⟨g, 3, none⟩ (.int .i64 (wrap64 (s0_3 + 1)))) g s0_0 s0_1 (wrap64 (s0_2 + t219)) (wrap64 (s0_3 + 1)) s0_4 s0_5 from o18) hb); (try clear hb); (try clear hb2); (try clear hk); (try clear hi)) | ((with_reducible refine gate_callee (f := 36) rfl ?_); refine goesL_ (some 107) rfl rfl Tryd.func36 (by kernel_rfl) rfl #[.pointer (some ⟨g, 0, none⟩), .int .i64 t228, .int .i64 ji25] rfl (by (try simp only [List.map_toArray, List.map_cons, List.map_nil]); first | done | (simp only [hji25]; rfl) | rfl | (simp only [List.length_drop, List.length_take]; rfl)) ?_; (with_reducible refine (detect_Detector_moves.calls k g s0_0 s0_1 (wrap64 (s0_2 + t219)) (wrap64 (s0_3 + 1)) s0_4 s0_5 t228 ji25 t229 t230 t231 t232 t233 t234 w0 _ ?side1 ?side2 A26.out).mono ?_); (case side1 => exact o21); (case side2 => exact o54); rintro e w31 ⟨rfl, hi, hb, hk⟩; refine ⟨_, rfl, ?_⟩; replace HI0 := aW (hi); replace HB := aW (hb); replace HK := aW (KeepBut.trans o69 hk (.inl rfl)); (try clear hb); (try clear hb2); (try clear hk); (try clear hi); obtain ⟨HGz32, hgz32⟩ := HI0.out; have hcz32_0 := cellS91_0 HGz32; have hcz32_1 := cellS91_1 HGz32; have hcz32_2 := cellS91_2 HGz32; have hcz32_3 := cellS91_3 HGz32; have hcz32_4 := cellS91_4 HGz32; have hcz32_5 := cellS91_5 HGz32; have hfz32_0 := blk_frozen HGz32 0; have hfz32_1 := blk_frozen HGz32 1; have hfz32_2 := blk_frozen HGz32 2; have hfz32_3 := blk_frozen HGz32 3; have hfz32_4 := blk_frozen HGz32 4; have hfz32_5 := blk_frozen HGz32 5; clear HGz32 hgz32)))
      (try rw [Exit.fwd_ret])
      (try rw [Exit.fwd_normal])
      go_ret
      exact ⟨by first | rfl | (simp [errW_none, errW_some] <;> rfl) | (simp only [← hji7, ← hji8, ← hji25]; first | rfl | (simp [errW_none, errW_some] <;> rfl)) | (simp [*, errW_none, errW_some] <;> rfl), o20, o51, o70⟩
    ·rw [if_neg c13] at H
     have c13b0 : decide (1 < (wrap64 (s0_3 + 1))) = false := decide_eq_false c13
     clear c13
     obtain ⟨t235, A33, H⟩ := bw H
     replace H : ((detect_Detector_moves.f k s0_0 s0_1 (wrap64 (s0_2 + t219)) (wrap64 (s0_3 + 1)) s0_4 s0_5 t235 (mn t219 100000)).bind fun bt236 => (some (bt236.1, bt236.1, bt236.2.1, bt236.2.2.1, bt236.2.2.2.1, t220, bt236.2.2.2.2.2))) = some (r1, r2, r3, r4, r5, r6, r7) := H
     obtain ⟨ji34, hji34⟩ : ∃ j_ : Int, (mn t219 100000) = j_ := ⟨_, rfl⟩
     replace H : ((detect_Detector_moves.f k s0_0 s0_1 (wrap64 (s0_2 + t219)) (wrap64 (s0_3 + 1)) s0_4 s0_5 t235 (ji34)).bind fun bt236 => (some (bt236.1, bt236.1, bt236.2.1, bt236.2.2.1, bt236.2.2.2.1, t220, bt236.2.2.2.2.2))) = some (r1, r2, r3, r4, r5, r6, r7) := by first | (rw [hji34] at H; exact H) | (simp only [hji34] at H ⊢; exact H)
     (try rw [hji34] at A6)
     (try rw [hji34] at A9)
     (try rw [hji34] at A33)
     (try (have hji34h : ji34 ≤ 100000 := by (rw [← hji34]; unfold mn; (repeat' split) <;> omega)))
     (try (have hji34g : ji34 ≤ 64 := by omega))
     have hji34_ : (if 100000 < t219 then 100000 else t219) = ji34 := hji34
     replace H := Option.bind_eq_some_iff.mp H
     obtain ⟨⟨t236, t237, t238, t239, t240, t241⟩, A350, H⟩ := H
     replace H : (some (t236, t236, t237, t238, t239, t220, t241)) = some (r1, r2, r3, r4, r5, r6, r7) := H
     have A35 := aW A350
     clear A350
     simp only [Option.some.injEq, Prod.mk.injEq] at H
     obtain ⟨rfl, rfl, rfl, rfl, rfl, rfl, rfl⟩ := H
     go_enter Tryd.func21, Tryd.ntmps21
     go_wp2
     repeat ((first | refine wp_scope_fwd 2 ?_ | refine Exit.fwd_goto rfl ?_ | (refine wp_label ?_; dsimp only [Exit.then]) | refine wp_label ?_ | (go_step3; refine Exit.fwd_goto rfl ?_) | (go_step3; (try simp only [Exit.then, Exit.inBlock]); refine Exit.fwd_goto rfl ?_)); try go_wp2_with (first | ((with_reducible refine gate_callee (f := 23) rfl ?_); refine gL_ 15 Tryd.func23 #[.int .i64 a3, .int .i64 0, .int .i64 1000000] ?_; (with_reducible refine (sat_Clamp.calls a3 0 1000000 t219 _ A6.out).mono ?_); rintro e w' ⟨rfl, ⟨nd, rfl⟩⟩; refine ⟨_, rfl, ?_⟩; (generalize hq_ : World.drewN w _ = w36; have n0_ : Aside0 (IsS91 w0 w36 g s0_0 s0_1 s0_2 s0_3 s0_4 s0_5) := ⟨o16⟩; have n1_ : Aside0 (KeepBut w w36 g none) := ⟨o56⟩; have n2_ : Aside0 (Below w0.heap.size w0 w36) := ⟨o33⟩; clear HI0 HK HB hq_; have HI0 := n0_; have HK := n1_; have HB := n2_; clear n0_ n1_ n2_)) | ((with_reducible refine gate_callee (f := 35) rfl ?_); refine goesL_ (some 21) rfl rfl Tryd.func35 (by kernel_rfl) rfl #[.int .i64 (4 * (ji8)), .int .i64 a1] rfl o57 ?_; (with_reducible refine (sat_Mul.calls (4 * (ji8)) a1 t220 _ A9.out).mono ?_); rintro e w37 ⟨rfl, hb⟩; refine ⟨_, rfl, ?_⟩; replace HB := aW (below_step o49 hb); replace HK := aW (KeepBut.trans o69 (KeepBut.of_below hb g none) (.inl rfl)); replace HI0 := aW (IsS91.below o19 hb); (try clear hb); (try clear hb2); (try clear hk); (try clear hi); obtain ⟨HGz38, hgz38⟩ := HI0.out; have hcz38_0 := cellS91_0 HGz38; have hcz38_1 := cellS91_1 HGz38; have hcz38_2 := cellS91_2 HGz38; have hcz38_3 := cellS91_3 HGz38; have hcz38_4 := cellS91_4 HGz38; have hcz38_5 := cellS91_5 HGz38; have hfz38_0 := blk_frozen HGz38 0; have hfz38_1 := blk_frozen HGz38 1; have hfz38_2 := blk_frozen HGz38 2; have hfz38_3 := blk_frozen HGz38 3; have hfz38_4 := blk_frozen HGz38 4; have hfz38_5 := blk_frozen HGz38 5; clear HGz38 hgz38) | ((with_reducible refine gate_callee (f := 37) rfl ?_); refine gL_ 104 Tryd.func37 #[.int .i64 t220] ?_; (with_reducible refine (sat_Abs.calls t220 t235 _ A33.out).mono ?_); rintro e w39 ⟨rfl, hb⟩; refine ⟨_, rfl, ?_⟩; replace HB := aW (below_step o49 hb); replace HK := aW (KeepBut.trans o69 (KeepBut.of_below hb g none) (.inl rfl)); replace HI0 := aW (IsS91.below (show IsS91 w0 ((w37.setCell ⟨g, 2, none⟩ (.int .i64 (wrap64 (s0_2 + t219)))).setCell ⟨g, 3, none⟩ (.int .i64 (wrap64 (s0_3 + 1)))) g s0_0 s0_1 (wrap64 (s0_2 + t219)) (wrap64 (s0_3 + 1)) s0_4 s0_5 from o18) hb); (try clear hb); (try clear hb2); (try clear hk); (try clear hi)) | ((with_reducible refine gate_callee (f := 36) rfl ?_); refine goesL_ (some 107) rfl rfl Tryd.func36 (by kernel_rfl) rfl #[.pointer (some ⟨g, 0, none⟩), .int .i64 t235, .int .i64 ji34] rfl (by (try simp only [List.map_toArray, List.map_cons, List.map_nil]); first | done | (simp only [hji34]; rfl) | rfl | (simp only [List.length_drop, List.length_take]; rfl)) ?_; (with_reducible refine (detect_Detector_moves.calls k g s0_0 s0_1 (wrap64 (s0_2 + t219)) (wrap64 (s0_3 + 1)) s0_4 s0_5 t235 ji34 t236 t237 t238 t239 t240 t241 w0 _ ?side1 ?side2 A35.out).mono ?_); (case side1 => exact o21); (case side2 => exact o54); rintro e w40 ⟨rfl, hi, hb, hk⟩; refine ⟨_, rfl, ?_⟩; replace HI0 := aW (hi); replace HB := aW (hb); replace HK := aW (KeepBut.trans o69 hk (.inl rfl)); (try clear hb); (try clear hb2); (try clear hk); (try clear hi); obtain ⟨HGz41, hgz41⟩ := HI0.out; have hcz41_0 := cellS91_0 HGz41; have hcz41_1 := cellS91_1 HGz41; have hcz41_2 := cellS91_2 HGz41; have hcz41_3 := cellS91_3 HGz41; have hcz41_4 := cellS91_4 HGz41; have hcz41_5 := cellS91_5 HGz41; have hfz41_0 := blk_frozen HGz41 0; have hfz41_1 := blk_frozen HGz41 1; have hfz41_2 := blk_frozen HGz41 2; have hfz41_3 := blk_frozen HGz41 3; have hfz41_4 := blk_frozen HGz41 4; have hfz41_5 := blk_frozen HGz41 5; clear HGz41 hgz41)))
     (try rw [Exit.fwd_ret])
     (try rw [Exit.fwd_normal])
     go_ret
     exact ⟨by first | rfl | (simp [errW_none, errW_some] <;> rfl) | (simp only [← hji7, ← hji8, ← hji34]; first | rfl | (simp [errW_none, errW_some] <;> rfl)) | (simp [*, errW_none, errW_some] <;> rfl), o20, o51, o70⟩
   ·rw [if_neg c12] at H
    have c12b0 : decide (10000 < (wrap64 (s0_2 + t219))) = false := decide_eq_false c12
    clear c12
    obtain ⟨t242, A42, H⟩ := bw H
    replace H : ((detect_Detector_moves.f k s0_0 s0_1 (wrap64 (s0_2 + t219)) (wrap64 (s0_3 + 1)) s0_4 s0_5 t242 (mn t219 100000)).bind fun bt243 => (some (bt243.1, bt243.1, bt243.2.1, bt243.2.2.1, bt243.2.2.2.1, t220, bt243.2.2.2.2.2))) = some (r1, r2, r3, r4, r5, r6, r7) := H
    obtain ⟨ji43, hji43⟩ : ∃ j_ : Int, (mn t219 100000) = j_ := ⟨_, rfl⟩
    replace H : ((detect_Detector_moves.f k s0_0 s0_1 (wrap64 (s0_2 + t219)) (wrap64 (s0_3 + 1)) s0_4 s0_5 t242 (ji43)).bind fun bt243 => (some (bt243.1, bt243.1, bt243.2.1, bt243.2.2.1, bt243.2.2.2.1, t220, bt243.2.2.2.2.2))) = some (r1, r2, r3, r4, r5, r6, r7) := by first | (rw [hji43] at H; exact H) | (simp only [hji43] at H ⊢; exact H)
    (try rw [hji43] at A6)
    (try rw [hji43] at A9)
    (try rw [hji43] at A42)
    (try (have hji43h : ji43 ≤ 100000 := by (rw [← hji43]; unfold mn; (repeat' split) <;> omega)))
    (try (have hji43g : ji43 ≤ 64 := by omega))
    have hji43_ : (if 100000 < t219 then 100000 else t219) = ji43 := hji43
    replace H := Option.bind_eq_some_iff.mp H
    obtain ⟨⟨t243, t244, t245, t246, t247, t248⟩, A440, H⟩ := H
    replace H : (some (t243, t243, t244, t245, t246, t220, t248)) = some (r1, r2, r3, r4, r5, r6, r7) := H
    have A44 := aW A440
    clear A440
    simp only [Option.some.injEq, Prod.mk.injEq] at H
    obtain ⟨rfl, rfl, rfl, rfl, rfl, rfl, rfl⟩ := H
    go_enter Tryd.func21, Tryd.ntmps21
    go_wp2
    repeat ((first | refine wp_scope_fwd 2 ?_ | refine Exit.fwd_goto rfl ?_ | (refine wp_label ?_; dsimp only [Exit.then]) | refine wp_label ?_ | (go_step3; refine Exit.fwd_goto rfl ?_) | (go_step3; (try simp only [Exit.then, Exit.inBlock]); refine Exit.fwd_goto rfl ?_)); try go_wp2_with (first | ((with_reducible refine gate_callee (f := 23) rfl ?_); refine gL_ 15 Tryd.func23 #[.int .i64 a3, .int .i64 0, .int .i64 1000000] ?_; (with_reducible refine (sat_Clamp.calls a3 0 1000000 t219 _ A6.out).mono ?_); rintro e w' ⟨rfl, ⟨nd, rfl⟩⟩; refine ⟨_, rfl, ?_⟩; (generalize hq_ : World.drewN w _ = w45; have n0_ : Aside0 (IsS91 w0 w45 g s0_0 s0_1 s0_2 s0_3 s0_4 s0_5) := ⟨o16⟩; have n1_ : Aside0 (KeepBut w w45 g none) := ⟨o56⟩; have n2_ : Aside0 (Below w0.heap.size w0 w45) := ⟨o33⟩; clear HI0 HK HB hq_; have HI0 := n0_; have HK := n1_; have HB := n2_; clear n0_ n1_ n2_)) | ((with_reducible refine gate_callee (f := 35) rfl ?_); refine goesL_ (some 21) rfl rfl Tryd.func35 (by kernel_rfl) rfl #[.int .i64 (4 * (ji8)), .int .i64 a1] rfl o57 ?_; (with_reducible refine (sat_Mul.calls (4 * (ji8)) a1 t220 _ A9.out).mono ?_); rintro e w46 ⟨rfl, hb⟩; refine ⟨_, rfl, ?_⟩; replace HB := aW (below_step o49 hb); replace HK := aW (KeepBut.trans o69 (KeepBut.of_below hb g none) (.inl rfl)); replace HI0 := aW (IsS91.below o19 hb); (try clear hb); (try clear hb2); (try clear hk); (try clear hi); obtain ⟨HGz47, hgz47⟩ := HI0.out; have hcz47_0 := cellS91_0 HGz47; have hcz47_1 := cellS91_1 HGz47; have hcz47_2 := cellS91_2 HGz47; have hcz47_3 := cellS91_3 HGz47; have hcz47_4 := cellS91_4 HGz47; have hcz47_5 := cellS91_5 HGz47; have hfz47_0 := blk_frozen HGz47 0; have hfz47_1 := blk_frozen HGz47 1; have hfz47_2 := blk_frozen HGz47 2; have hfz47_3 := blk_frozen HGz47 3; have hfz47_4 := blk_frozen HGz47 4; have hfz47_5 := blk_frozen HGz47 5; clear HGz47 hgz47) | ((with_reducible refine gate_callee (f := 37) rfl ?_); refine gL_ 104 Tryd.func37 #[.int .i64 t220] ?_; (with_reducible refine (sat_Abs.calls t220 t242 _ A42.out).mono ?_); rintro e w48 ⟨rfl, hb⟩; refine ⟨_, rfl, ?_⟩; replace HB := aW (below_step o49 hb); replace HK := aW (KeepBut.trans o69 (KeepBut.of_below hb g none) (.inl rfl)); replace HI0 := aW (IsS91.below (show IsS91 w0 ((w46.setCell ⟨g, 2, none⟩ (.int .i64 (wrap64 (s0_2 + t219)))).setCell ⟨g, 3, none⟩ (.int .i64 (wrap64 (s0_3 + 1)))) g s0_0 s0_1 (wrap64 (s0_2 + t219)) (wrap64 (s0_3 + 1)) s0_4 s0_5 from o18) hb); (try clear hb); (try clear hb2); (try clear hk); (try clear hi)) | ((with_reducible refine gate_callee (f := 36) rfl ?_); refine goesL_ (some 107) rfl rfl Tryd.func36 (by kernel_rfl) rfl #[.pointer (some ⟨g, 0, none⟩), .int .i64 t242, .int .i64 ji43] rfl (by (try simp only [List.map_toArray, List.map_cons, List.map_nil]); first | done | (simp only [hji43]; rfl) | rfl | (simp only [List.length_drop, List.length_take]; rfl)) ?_; (with_reducible refine (detect_Detector_moves.calls k g s0_0 s0_1 (wrap64 (s0_2 + t219)) (wrap64 (s0_3 + 1)) s0_4 s0_5 t242 ji43 t243 t244 t245 t246 t247 t248 w0 _ ?side1 ?side2 A44.out).mono ?_); (case side1 => exact o21); (case side2 => exact o54); rintro e w49 ⟨rfl, hi, hb, hk⟩; refine ⟨_, rfl, ?_⟩; replace HI0 := aW (hi); replace HB := aW (hb); replace HK := aW (KeepBut.trans o69 hk (.inl rfl)); (try clear hb); (try clear hb2); (try clear hk); (try clear hi); obtain ⟨HGz50, hgz50⟩ := HI0.out; have hcz50_0 := cellS91_0 HGz50; have hcz50_1 := cellS91_1 HGz50; have hcz50_2 := cellS91_2 HGz50; have hcz50_3 := cellS91_3 HGz50; have hcz50_4 := cellS91_4 HGz50; have hcz50_5 := cellS91_5 HGz50; have hfz50_0 := blk_frozen HGz50 0; have hfz50_1 := blk_frozen HGz50 1; have hfz50_2 := blk_frozen HGz50 2; have hfz50_3 := blk_frozen HGz50 3; have hfz50_4 := blk_frozen HGz50 4; have hfz50_5 := blk_frozen HGz50 5; clear HGz50 hgz50)))
    (try rw [Exit.fwd_ret])
    (try rw [Exit.fwd_normal])
    go_ret
    exact ⟨by first | rfl | (simp [errW_none, errW_some] <;> rfl) | (simp only [← hji7, ← hji8, ← hji43]; first | rfl | (simp [errW_none, errW_some] <;> rfl)) | (simp [*, errW_none, errW_some] <;> rfl), o20, o51, o70⟩
  ·rw [if_neg c11] at H
   have c11b0 : decide (0 < s0_2) = false := decide_eq_false c11
   clear c11
   obtain ⟨ji51, hji51⟩ : ∃ j_ : Int, (mx (wrap64 (Int.tdiv t219 2)) 1) = j_ := ⟨_, rfl⟩
   replace H : (if (ji51) > 10000 then (if (wrap64 (s0_3 + 1)) > 1 then (if t220 ≥ s0_4 then ((sat_Abs.f t220).bind fun t249 => ((detect_Detector_moves.f k 1 s0_1 0 0 s0_4 s0_5 t249 (mn t219 100000)).bind fun bt250 => (some (bt250.1, bt250.1, bt250.2.1, bt250.2.2.1, bt250.2.2.2.1, t220, bt250.2.2.2.2.2)))) else ((sat_Abs.f t220).bind fun t256 => ((detect_Detector_moves.f k s0_0 s0_1 (ji51) (wrap64 (s0_3 + 1)) s0_4 s0_5 t256 (mn t219 100000)).bind fun bt257 => (some (bt257.1, bt257.1, bt257.2.1, bt257.2.2.1, bt257.2.2.2.1, t220, bt257.2.2.2.2.2))))) else ((sat_Abs.f t220).bind fun t263 => ((detect_Detector_moves.f k s0_0 s0_1 (ji51) (wrap64 (s0_3 + 1)) s0_4 s0_5 t263 (mn t219 100000)).bind fun bt264 => (some (bt264.1, bt264.1, bt264.2.1, bt264.2.2.1, bt264.2.2.2.1, t220, bt264.2.2.2.2.2))))) else ((sat_Abs.f t220).bind fun t270 => ((detect_Detector_moves.f k s0_0 s0_1 (ji51) (wrap64 (s0_3 + 1)) s0_4 s0_5 t270 (mn t219 100000)).bind fun bt271 => (some (bt271.1, bt271.1, bt271.2.1, bt271.2.2.1, bt271.2.2.2.1, t220, bt271.2.2.2.2.2))))) = some (r1, r2, r3, r4, r5, r6, r7) := by first | (rw [hji51] at H; exact H) | (simp only [hji51] at H ⊢; exact H)
   (try rw [hji51] at A6)
   (try rw [hji51] at A9)
   (try (have hji51l : 1 ≤ ji51 := by (rw [← hji51]; unfold mx; (repeat' split) <;> omega)))
   (try (have hji51m : 0 ≤ ji51 := by omega))
   have hji51_ : (if (wrap64 (Int.tdiv t219 2)) < 1 then 1 else (wrap64 (Int.tdiv t219 2))) = ji51 := hji51
   by_cases c52 : (ji51) > 10000
   ·rw [if_pos c52] at H
    have c52b0 : decide (10000 < (ji51)) = true := decide_eq_true c52
    clear c52
    by_cases c53 : (wrap64 (s0_3 + 1)) > 1
    ·rw [if_pos c53] at H
     have c53b0 : decide (1 < (wrap64 (s0_3 + 1))) = true := decide_eq_true c53
     clear c53
     by_cases c54 : t220 ≥ s0_4
     ·rw [if_pos c54] at H
      have c54b0 : decide (s0_4 ≤ t220) = true := decide_eq_true c54
      clear c54
      obtain ⟨t249, A55, H⟩ := bw H
      replace H : ((detect_Detector_moves.f k 1 s0_1 0 0 s0_4 s0_5 t249 (mn t219 100000)).bind fun bt250 => (some (bt250.1, bt250.1, bt250.2.1, bt250.2.2.1, bt250.2.2.2.1, t220, bt250.2.2.2.2.2))) = some (r1, r2, r3, r4, r5, r6, r7) := H
      obtain ⟨ji56, hji56⟩ : ∃ j_ : Int, (mn t219 100000) = j_ := ⟨_, rfl⟩
      replace H : ((detect_Detector_moves.f k 1 s0_1 0 0 s0_4 s0_5 t249 (ji56)).bind fun bt250 => (some (bt250.1, bt250.1, bt250.2.1, bt250.2.2.1, bt250.2.2.2.1, t220, bt250.2.2.2.2.2))) = some (r1, r2, r3, r4, r5, r6, r7) := by first | (rw [hji56] at H; exact H) | (simp only [hji56] at H ⊢; exact H)
      (try rw [hji56] at A6)
      (try rw [hji56] at A9)
      (try rw [hji56] at A55)
      (try (have hji56h : ji56 ≤ 100000 := by (rw [← hji56]; unfold mn; (repeat' split) <;> omega)))
      (try (have hji56g : ji56 ≤ 64 := by omega))
      have hji56_ : (if 100000 < t219 then 100000 else t219) = ji56 := hji56
      replace H := Option.bind_eq_some_iff.mp H
      obtain ⟨⟨t250, t251, t252, t253, t254, t255⟩, A570, H⟩ := H
      replace H : (some (t250, t250, t251, t252, t253, t220, t255)) = some (r1, r2, r3, r4, r5, r6, r7) := H
      have A57 := aW A570
      clear A570
      simp only [Option.some.injEq, Prod.mk.injEq] at H
      obtain ⟨rfl, rfl, rfl, rfl, rfl, rfl, rfl⟩ := H
      go_enter Tryd.func21, Tryd.ntmps21
      go_wp2
      repeat ((first | refine wp_scope_fwd 2 ?_ | refine Exit.fwd_goto rfl ?_ | (refine wp_label ?_; dsimp only [Exit.then]) | refine wp_label ?_ | (go_step3; refine Exit.fwd_goto rfl ?_) | (go_step3; (try simp only [Exit.then, Exit.inBlock]); refine Exit.fwd_goto rfl ?_)); try go_wp2_with (first | ((with_reducible refine gate_callee (f := 23) rfl ?_); refine gL_ 15 Tryd.func23 #[.int .i64 a3, .int .i64 0, .int .i64 1000000] ?_; (with_reducible refine (sat_Clamp.calls a3 0 1000000 t219 _ A6.out).mono ?_); rintro e w' ⟨rfl, ⟨nd, rfl⟩⟩; refine ⟨_, rfl, ?_⟩; (generalize hq_ : World.drewN w _ = w58; have n0_ : Aside0 (IsS91 w0 w58 g s0_0 s0_1 s0_2 s0_3 s0_4 s0_5) := ⟨o16⟩; have n1_ : Aside0 (KeepBut w w58 g none) := ⟨o56⟩; have n2_ : Aside0 (Below w0.heap.size w0 w58) := ⟨o33⟩; clear HI0 HK HB hq_; have HI0 := n0_; have HK := n1_; have HB := n2_; clear n0_ n1_ n2_)) | ((with_reducible refine gate_callee (f := 35) rfl ?_); refine goesL_ (some 21) rfl rfl Tryd.func35 (by kernel_rfl) rfl #[.int .i64 (4 * (ji8)), .int .i64 a1] rfl o57 ?_; (with_reducible refine (sat_Mul.calls (4 * (ji8)) a1 t220 _ A9.out).mono ?_); rintro e w59 ⟨rfl, hb⟩; refine ⟨_, rfl, ?_⟩; replace HB := aW (below_step o49 hb); replace HK := aW (KeepBut.trans o69 (KeepBut.of_below hb g none) (.inl rfl)); replace HI0 := aW (IsS91.below o19 hb); (try clear hb); (try clear hb2); (try clear hk); (try clear hi); obtain ⟨HGz60, hgz60⟩ := HI0.out; have hcz60_0 := cellS91_0 HGz60; have hcz60_1 := cellS91_1 HGz60; have hcz60_2 := cellS91_2 HGz60; have hcz60_3 := cellS91_3 HGz60; have hcz60_4 := cellS91_4 HGz60; have hcz60_5 := cellS91_5 HGz60; have hfz60_0 := blk_frozen HGz60 0; have hfz60_1 := blk_frozen HGz60 1; have hfz60_2 := blk_frozen HGz60 2; have hfz60_3 := blk_frozen HGz60 3; have hfz60_4 := blk_frozen HGz60 4; have hfz60_5 := blk_frozen HGz60 5; clear HGz60 hgz60) | ((with_reducible refine gate_callee (f := 37) rfl ?_); refine gL_ 104 Tryd.func37 #[.int .i64 t220] ?_; (with_reducible refine (sat_Abs.calls t220 t249 _ A55.out).mono ?_); rintro e w61 ⟨rfl, hb⟩; refine ⟨_, rfl, ?_⟩; replace HB := aW (below_step o49 hb); replace HK := aW (KeepBut.trans o69 (KeepBut.of_below hb g none) (.inl rfl)); replace HI0 := aW (IsS91.below (show IsS91 w0 (((((w59.setCell ⟨g, 2, none⟩ (.int .i64 ji51)).setCell ⟨g, 3, none⟩ (.int .i64 (wrap64 (s0_3 + 1)))).setCell ⟨g, 2, none⟩ (.int .i64 0)).setCell ⟨g, 3, none⟩ (.int .i64 0)).setCell ⟨g, 0, none⟩ (.int .i64 1)) g 1 s0_1 0 0 s0_4 s0_5 from o18) hb); (try clear hb); (try clear hb2); (try clear hk); (try clear hi)) | ((with_reducible refine gate_callee (f := 36) rfl ?_); refine goesL_ (some 107) rfl rfl Tryd.func36 (by kernel_rfl) rfl #[.pointer (some ⟨g, 0, none⟩), .int .i64 t249, .int .i64 ji56] rfl (by (try simp only [List.map_toArray, List.map_cons, List.map_nil]); first | done | (simp only [hji56]; rfl) | rfl | (simp only [List.length_drop, List.length_take]; rfl)) ?_; (with_reducible refine (detect_Detector_moves.calls k g 1 s0_1 0 0 s0_4 s0_5 t249 ji56 t250 t251 t252 t253 t254 t255 w0 _ ?side1 ?side2 A57.out).mono ?_); (case side1 => exact o21); (case side2 => exact o54); rintro e w62 ⟨rfl, hi, hb, hk⟩; refine ⟨_, rfl, ?_⟩; replace HI0 := aW (hi); replace HB := aW (hb); replace HK := aW (KeepBut.trans o69 hk (.inl rfl)); (try clear hb); (try clear hb2); (try clear hk); (try clear hi); obtain ⟨HGz63, hgz63⟩ := HI0.out; have hcz63_0 := cellS91_0 HGz63; have hcz63_1 := cellS91_1 HGz63; have hcz63_2 := cellS91_2 HGz63; have hcz63_3 := cellS91_3 HGz63; have hcz63_4 := cellS91_4 HGz63; have hcz63_5 := cellS91_5 HGz63; have hfz63_0 := blk_frozen HGz63 0; have hfz63_1 := blk_frozen HGz63 1; have hfz63_2 := blk_frozen HGz63 2; have hfz63_3 := blk_frozen HGz63 3; have hfz63_4 := blk_frozen HGz63 4; have hfz63_5 := blk_frozen HGz63 5; clear HGz63 hgz63)))
      (try rw [Exit.fwd_ret])
      (try rw [Exit.fwd_normal])
      go_ret
      exact ⟨by first | rfl | (simp [errW_none, errW_some] <;> rfl) | (simp only [← hji7, ← hji8, ← hji51, ← hji56]; first | rfl | (simp [errW_none, errW_some] <;> rfl)) | (simp [*, errW_none, errW_some] <;> rfl), o20, o51, o70⟩
     ·rw [if_neg c54] at H
      have c54b0 : decide (s0_4 ≤ t220) = false := decide_eq_false c54
      clear c54
      obtain ⟨t256, A64, H⟩ := bw H
      replace H : ((detect_Detector_moves.f k s0_0 s0_1 (ji51) (wrap64 (s0_3 + 1)) s0_4 s0_5 t256 (mn t219 100000)).bind fun bt257 => (some (bt257.1, bt257.1, bt257.2.1, bt257.2.2.1, bt257.2.2.2.1, t220, bt257.2.2.2.2.2))) = some (r1, r2, r3, r4, r5, r6, r7) := H
      obtain ⟨ji65, hji65⟩ : ∃ j_ : Int, (mn t219 100000) = j_ := ⟨_, rfl⟩
      replace H : ((detect_Detector_moves.f k s0_0 s0_1 (ji51) (wrap64 (s0_3 + 1)) s0_4 s0_5 t256 (ji65)).bind fun bt257 => (some (bt257.1, bt257.1, bt257.2.1, bt257.2.2.1, bt257.2.2.2.1, t220, bt257.2.2.2.2.2))) = some (r1, r2, r3, r4, r5, r6, r7) := by first | (rw [hji65] at H; exact H) | (simp only [hji65] at H ⊢; exact H)
      (try rw [hji65] at A6)
      (try rw [hji65] at A9)
      (try rw [hji65] at A64)
      (try (have hji65h : ji65 ≤ 100000 := by (rw [← hji65]; unfold mn; (repeat' split) <;> omega)))
      (try (have hji65g : ji65 ≤ 64 := by omega))
      have hji65_ : (if 100000 < t219 then 100000 else t219) = ji65 := hji65
      replace H := Option.bind_eq_some_iff.mp H
      obtain ⟨⟨t257, t258, t259, t260, t261, t262⟩, A660, H⟩ := H
      replace H : (some (t257, t257, t258, t259, t260, t220, t262)) = some (r1, r2, r3, r4, r5, r6, r7) := H
      have A66 := aW A660
      clear A660
      simp only [Option.some.injEq, Prod.mk.injEq] at H
      obtain ⟨rfl, rfl, rfl, rfl, rfl, rfl, rfl⟩ := H
      go_enter Tryd.func21, Tryd.ntmps21
      go_wp2
      repeat ((first | refine wp_scope_fwd 2 ?_ | refine Exit.fwd_goto rfl ?_ | (refine wp_label ?_; dsimp only [Exit.then]) | refine wp_label ?_ | (go_step3; refine Exit.fwd_goto rfl ?_) | (go_step3; (try simp only [Exit.then, Exit.inBlock]); refine Exit.fwd_goto rfl ?_)); try go_wp2_with (first | ((with_reducible refine gate_callee (f := 23) rfl ?_); refine gL_ 15 Tryd.func23 #[.int .i64 a3, .int .i64 0, .int .i64 1000000] ?_; (with_reducible refine (sat_Clamp.calls a3 0 1000000 t219 _ A6.out).mono ?_); rintro e w' ⟨rfl, ⟨nd, rfl⟩⟩; refine ⟨_, rfl, ?_⟩; (generalize hq_ : World.drewN w _ = w67; have n0_ : Aside0 (IsS91 w0 w67 g s0_0 s0_1 s0_2 s0_3 s0_4 s0_5) := ⟨o16⟩; have n1_ : Aside0 (KeepBut w w67 g none) := ⟨o56⟩; have n2_ : Aside0 (Below w0.heap.size w0 w67) := ⟨o33⟩; clear HI0 HK HB hq_; have HI0 := n0_; have HK := n1_; have HB := n2_; clear n0_ n1_ n2_)) | ((with_reducible refine gate_callee (f := 35) rfl ?_); refine goesL_ (some 21) rfl rfl Tryd.func35 (by kernel_rfl) rfl #[.int .i64 (4 * (ji8)), .int .i64 a1] rfl o57 ?_; (with_reducible refine (sat_Mul.calls (4 * (ji8)) a1 t220 _ A9.out).mono ?_); rintro e w68 ⟨rfl, hb⟩; refine ⟨_, rfl, ?_⟩; replace HB := aW (below_step o49 hb); replace HK := aW (KeepBut.trans o69 (KeepBut.of_below hb g none) (.inl rfl)); replace HI0 := aW (IsS91.below o19 hb); (try clear hb); (try clear hb2); (try clear hk); (try clear hi); obtain ⟨HGz69, hgz69⟩ := HI0.out; have hcz69_0 := cellS91_0 HGz69; have hcz69_1 := cellS91_1 HGz69; have hcz69_2 := cellS91_2 HGz69; have hcz69_3 := cellS91_3 HGz69; have hcz69_4 := cellS91_4 HGz69; have hcz69_5 := cellS91_5 HGz69; have hfz69_0 := blk_frozen HGz69 0; have hfz69_1 := blk_frozen HGz69 1; have hfz69_2 := blk_frozen HGz69 2; have hfz69_3 := blk_frozen HGz69 3; have hfz69_4 := blk_frozen HGz69 4; have hfz69_5 := blk_frozen HGz69 5; clear HGz69 hgz69) | ((with_reducible refine gate_callee (f := 37) rfl ?_); refine gL_ 104 Tryd.func37 #[.int .i64 t220] ?_; (with_reducible refine (sat_Abs.calls t220 t256 _ A64.out).mono ?_); rintro e w70 ⟨rfl, hb⟩; refine ⟨_, rfl, ?_⟩; replace HB := aW (below_step o49 hb); replace HK := aW (KeepBut.trans o69 (KeepBut.of_below hb g none) (.inl rfl)); replace HI0 := aW (IsS91.below (show IsS91 w0 ((w68.setCell ⟨g, 2, none⟩ (.int .i64 ji51)).setCell ⟨g, 3, none⟩ (.int .i64 (wrap64 (s0_3 + 1)))) g s0_0 s0_1 ji51 (wrap64 (s0_3 + 1)) s0_4 s0_5 from o18) hb); (try clear hb); (try clear hb2); (try clear hk); (try clear hi)) | ((with_reducible refine gate_callee (f := 36) rfl ?_); refine goesL_ (some 107) rfl rfl Tryd.func36 (by kernel_rfl) rfl #[.pointer (some ⟨g, 0, none⟩), .int .i64 t256, .int .i64 ji65] rfl (by (try simp only [List.map_toArray, List.map_cons, List.map_nil]); first | done | (simp only [hji65]; rfl) | rfl | (simp only [List.length_drop, List.length_take]; rfl)) ?_; (with_reducible refine (detect_Detector_moves.calls k g s0_0 s0_1 ji51 (wrap64 (s0_3 + 1)) s0_4 s0_5 t256 ji65 t257 t258 t259 t260 t261 t262 w0 _ ?side1 ?side2 A66.out).mono ?_); (case side1 => exact o21); (case side2 => exact o54); rintro e w71 ⟨rfl, hi, hb, hk⟩; refine ⟨_, rfl, ?_⟩; replace HI0 := aW (hi); replace HB := aW (hb); replace HK := aW (KeepBut.trans o69 hk (.inl rfl)); (try clear hb); (try clear hb2); (try clear hk); (try clear hi); obtain ⟨HGz72, hgz72⟩ := HI0.out; have hcz72_0 := cellS91_0 HGz72; have hcz72_1 := cellS91_1 HGz72; have hcz72_2 := cellS91_2 HGz72; have hcz72_3 := cellS91_3 HGz72; have hcz72_4 := cellS91_4 HGz72; have hcz72_5 := cellS91_5 HGz72; have hfz72_0 := blk_frozen HGz72 0; have hfz72_1 := blk_frozen HGz72 1; have hfz72_2 := blk_frozen HGz72 2; have hfz72_3 := blk_frozen HGz72 3; have hfz72_4 := blk_frozen HGz72 4; have hfz72_5 := blk_frozen HGz72 5; clear HGz72 hgz72)))
      (try rw [Exit.fwd_ret])
      (try rw [Exit.fwd_normal])
      go_ret
      exact ⟨by first | rfl | (simp [errW_none, errW_some] <;> rfl) | (simp only [← hji7, ← hji8, ← hji51, ← hji65]; first | rfl | (simp [errW_none, errW_some] <;> rfl)) | (simp [*, errW_none, errW_some] <;> rfl), o20, o51, o70⟩
    ·rw [if_neg c53] at H
     have c53b0 : decide (1 < (wrap64 (s0_3 + 1))) = false := decide_eq_false c53
     clear c53
     obtain ⟨t263, A73, H⟩ := bw H
     replace H : ((detect_Detector_moves.f k s0_0 s0_1 (ji51) (wrap64 (s0_3 + 1)) s0_4 s0_5 t263 (mn t219 100000)).bind fun bt264 => (some (bt264.1, bt264.1, bt264.2.1, bt264.2.2.1, bt264.2.2.2.1, t220, bt264.2.2.2.2.2))) = some (r1, r2, r3, r4, r5, r6, r7) := H
     obtain ⟨ji74, hji74⟩ : ∃ j_ : Int, (mn t219 100000) = j_ := ⟨_, rfl⟩
     replace H : ((detect_Detector_moves.f k s0_0 s0_1 (ji51) (wrap64 (s0_3 + 1)) s0_4 s0_5 t263 (ji74)).bind fun bt264 => (some (bt264.1, bt264.1, bt264.2.1, bt264.2.2.1, bt264.2.2.2.1, t220, bt264.2.2.2.2.2))) = some (r1, r2, r3, r4, r5, r6, r7) := by first | (rw [hji74] at H; exact H) | (simp only [hji74] at H ⊢; exact H)
     (try rw [hji74] at A6)
     (try rw [hji74] at A9)
     (try rw [hji74] at A73)
     (try (have hji74h : ji74 ≤ 100000 := by (rw [← hji74]; unfold mn; (repeat' split) <;> omega)))
     (try (have hji74g : ji74 ≤ 64 := by omega))
     have hji74_ : (if 100000 < t219 then 100000 else t219) = ji74 := hji74
     replace H := Option.bind_eq_some_iff.mp H
     obtain ⟨⟨t264, t265, t266, t267, t268, t269⟩, A750, H⟩ := H
     replace H : (some (t264, t264, t265, t266, t267, t220, t269)) = some (r1, r2, r3, r4, r5, r6, r7) := H
     have A75 := aW A750
     clear A750
     simp only [Option.some.injEq, Prod.mk.injEq] at H
     obtain ⟨rfl, rfl, rfl, rfl, rfl, rfl, rfl⟩ := H
     go_enter Tryd.func21, Tryd.ntmps21
     go_wp2
     repeat ((first | refine wp_scope_fwd 2 ?_ | refine Exit.fwd_goto rfl ?_ | (refine wp_label ?_; dsimp only [Exit.then]) | refine wp_label ?_ | (go_step3; refine Exit.fwd_goto rfl ?_) | (go_step3; (try simp only [Exit.then, Exit.inBlock]); refine Exit.fwd_goto rfl ?_)); try go_wp2_with (first | ((with_reducible refine gate_callee (f := 23) rfl ?_); refine gL_ 15 Tryd.func23 #[.int .i64 a3, .int .i64 0, .int .i64 1000000] ?_; (with_reducible refine (sat_Clamp.calls a3 0 1000000 t219 _ A6.out).mono ?_); rintro e w' ⟨rfl, ⟨nd, rfl⟩⟩; refine ⟨_, rfl, ?_⟩; (generalize hq_ : World.drewN w _ = w76; have n0_ : Aside0 (IsS91 w0 w76 g s0_0 s0_1 s0_2 s0_3 s0_4 s0_5) := ⟨o16⟩; have n1_ : Aside0 (KeepBut w w76 g none) := ⟨o56⟩; have n2_ : Aside0 (Below w0.heap.size w0 w76) := ⟨o33⟩; clear HI0 HK HB hq_; have HI0 := n0_; have HK := n1_; have HB := n2_; clear n0_ n1_ n2_)) | ((with_reducible refine gate_callee (f := 35) rfl ?_); refine goesL_ (some 21) rfl rfl Tryd.func35 (by kernel_rfl) rfl #[.int .i64 (4 * (ji8)), .int .i64 a1] rfl o57 ?_; (with_reducible refine (sat_Mul.calls (4 * (ji8)) a1 t220 _ A9.out).mono ?_); rintro e w77 ⟨rfl, hb⟩; refine ⟨_, rfl, ?_⟩; replace HB := aW (below_step o49 hb); replace HK := aW (KeepBut.trans o69 (KeepBut.of_below hb g none) (.inl rfl)); replace HI0 := aW (IsS91.below o19 hb); (try clear hb); (try clear hb2); (try clear hk); (try clear hi); obtain ⟨HGz78, hgz78⟩ := HI0.out; have hcz78_0 := cellS91_0 HGz78; have hcz78_1 := cellS91_1 HGz78; have hcz78_2 := cellS91_2 HGz78; have hcz78_3 := cellS91_3 HGz78; have hcz78_4 := cellS91_4 HGz78; have hcz78_5 := cellS91_5 HGz78; have hfz78_0 := blk_frozen HGz78 0; have hfz78_1 := blk_frozen HGz78 1; have hfz78_2 := blk_frozen HGz78 2; have hfz78_3 := blk_frozen HGz78 3; have hfz78_4 := blk_frozen HGz78 4; have hfz78_5 := blk_frozen HGz78 5; clear HGz78 hgz78) | ((with_reducible refine gate_callee (f := 37) rfl ?_); refine gL_ 104 Tryd.func37 #[.int .i64 t220] ?_; (with_reducible refine (sat_Abs.calls t220 t263 _ A73.out).mono ?_); rintro e w79 ⟨rfl, hb⟩; refine ⟨_, rfl, ?_⟩; replace HB := aW (below_step o49 hb); replace HK := aW (KeepBut.trans o69 (KeepBut.of_below hb g none) (.inl rfl)); replace HI0 := aW (IsS91.below (show IsS91 w0 ((w77.setCell ⟨g, 2, none⟩ (.int .i64 ji51)).setCell ⟨g, 3, none⟩ (.int .i64 (wrap64 (s0_3 + 1)))) g s0_0 s0_1 ji51 (wrap64 (s0_3 + 1)) s0_4 s0_5 from o18) hb); (try clear hb); (try clear hb2); (try clear hk); (try clear hi)) | ((with_reducible refine gate_callee (f := 36) rfl ?_); refine goesL_ (some 107) rfl rfl Tryd.func36 (by kernel_rfl) rfl #[.pointer (some ⟨g, 0, none⟩), .int .i64 t263, .int .i64 ji74] rfl (by (try simp only [List.map_toArray, List.map_cons, List.map_nil]); first | done | (simp only [hji74]; rfl) | rfl | (simp only [List.length_drop, List.length_take]; rfl)) ?_; (with_reducible refine (detect_Detector_moves.calls k g s0_0 s0_1 ji51 (wrap64 (s0_3 + 1)) s0_4 s0_5 t263 ji74 t264 t265 t266 t267 t268 t269 w0 _ ?side1 ?side2 A75.out).mono ?_); (case side1 => exact o21); (case side2 => exact o54); rintro e w80 ⟨rfl, hi, hb, hk⟩; refine ⟨_, rfl, ?_⟩; replace HI0 := aW (hi); replace HB := aW (hb); replace HK := aW (KeepBut.trans o69 hk (.inl rfl)); (try clear hb); (try clear hb2); (try clear hk); (try clear hi); obtain ⟨HGz81, hgz81⟩ := HI0.out; have hcz81_0 := cellS91_0 HGz81; have hcz81_1 := cellS91_1 HGz81; have hcz81_2 := cellS91_2 HGz81; have hcz81_3 := cellS91_3 HGz81; have hcz81_4 := cellS91_4 HGz81; have hcz81_5 := cellS91_5 HGz81; have hfz81_0 := blk_frozen HGz81 0; have hfz81_1 := blk_frozen HGz81 1; have hfz81_2 := blk_frozen HGz81 2; have hfz81_3 := blk_frozen HGz81 3; have hfz81_4 := blk_frozen HGz81 4; have hfz81_5 := blk_frozen HGz81 5; clear HGz81 hgz81)))
     (try rw [Exit.fwd_ret])
     (try rw [Exit.fwd_normal])
     go_ret
     exact ⟨by first | rfl | (simp [errW_none, errW_some] <;> rfl) | (simp only [← hji7, ← hji8, ← hji51, ← hji74]; first | rfl | (simp [errW_none, errW_some] <;> rfl)) | (simp [*, errW_none, errW_some] <;> rfl), o20, o51, o70⟩
   ·rw [if_neg c52] at H
    have c52b0 : decide (10000 < (ji51)) = false := decide_eq_false c52
    clear c52
    obtain ⟨t270, A82, H⟩ := bw H
    replace H : ((detect_Detector_moves.f k s0_0 s0_1 (ji51) (wrap64 (s0_3 + 1)) s0_4 s0_5 t270 (mn t219 100000)).bind fun bt271 => (some (bt271.1, bt271.1, bt271.2.1, bt271.2.2.1, bt271.2.2.2.1, t220, bt271.2.2.2.2.2))) = some (r1, r2, r3, r4, r5, r6, r7) := H
    obtain ⟨ji83, hji83⟩ : ∃ j_ : Int, (mn t219 100000) = j_ := ⟨_, rfl⟩
    replace H : ((detect_Detector_moves.f k s0_0 s0_1 (ji51) (wrap64 (s0_3 + 1)) s0_4 s0_5 t270 (ji83)).bind fun bt271 => (some (bt271.1, bt271.1, bt271.2.1, bt271.2.2.1, bt271.2.2.2.1, t220, bt271.2.2.2.2.2))) = some (r1, r2, r3, r4, r5, r6, r7) := by first | (rw [hji83] at H; exact H) | (simp only [hji83] at H ⊢; exact H)
    (try rw [hji83] at A6)
    (try rw [hji83] at A9)
    (try rw [hji83] at A82)
    (try (have hji83h : ji83 ≤ 100000 := by (rw [← hji83]; unfold mn; (repeat' split) <;> omega)))
    (try (have hji83g : ji83 ≤ 64 := by omega))
    have hji83_ : (if 100000 < t219 then 100000 else t219) = ji83 := hji83
    replace H := Option.bind_eq_some_iff.mp H
    obtain ⟨⟨t271, t272, t273, t274, t275, t276⟩, A840, H⟩ := H
    replace H : (some (t271, t271, t272, t273, t274, t220, t276)) = some (r1, r2, r3, r4, r5, r6, r7) := H
    have A84 := aW A840
    clear A840
    simp only [Option.some.injEq, Prod.mk.injEq] at H
    obtain ⟨rfl, rfl, rfl, rfl, rfl, rfl, rfl⟩ := H
    go_enter Tryd.func21, Tryd.ntmps21
    go_wp2
    repeat ((first | refine wp_scope_fwd 2 ?_ | refine Exit.fwd_goto rfl ?_ | (refine wp_label ?_; dsimp only [Exit.then]) | refine wp_label ?_ | (go_step3; refine Exit.fwd_goto rfl ?_) | (go_step3; (try simp only [Exit.then, Exit.inBlock]); refine Exit.fwd_goto rfl ?_)); try go_wp2_with (first | ((with_reducible refine gate_callee (f := 23) rfl ?_); refine gL_ 15 Tryd.func23 #[.int .i64 a3, .int .i64 0, .int .i64 1000000] ?_; (with_reducible refine (sat_Clamp.calls a3 0 1000000 t219 _ A6.out).mono ?_); rintro e w' ⟨rfl, ⟨nd, rfl⟩⟩; refine ⟨_, rfl, ?_⟩; (generalize hq_ : World.drewN w _ = w85; have n0_ : Aside0 (IsS91 w0 w85 g s0_0 s0_1 s0_2 s0_3 s0_4 s0_5) := ⟨o16⟩; have n1_ : Aside0 (KeepBut w w85 g none) := ⟨o56⟩; have n2_ : Aside0 (Below w0.heap.size w0 w85) := ⟨o33⟩; clear HI0 HK HB hq_; have HI0 := n0_; have HK := n1_; have HB := n2_; clear n0_ n1_ n2_)) | ((with_reducible refine gate_callee (f := 35) rfl ?_); refine goesL_ (some 21) rfl rfl Tryd.func35 (by kernel_rfl) rfl #[.int .i64 (4 * (ji8)), .int .i64 a1] rfl o57 ?_; (with_reducible refine (sat_Mul.calls (4 * (ji8)) a1 t220 _ A9.out).mono ?_); rintro e w86 ⟨rfl, hb⟩; refine ⟨_, rfl, ?_⟩; replace HB := aW (below_step o49 hb); replace HK := aW (KeepBut.trans o69 (KeepBut.of_below hb g none) (.inl rfl)); replace HI0 := aW (IsS91.below o19 hb); (try clear hb); (try clear hb2); (try clear hk); (try clear hi); obtain ⟨HGz87, hgz87⟩ := HI0.out; have hcz87_0 := cellS91_0 HGz87; have hcz87_1 := cellS91_1 HGz87; have hcz87_2 := cellS91_2 HGz87; have hcz87_3 := cellS91_3 HGz87; have hcz87_4 := cellS91_4 HGz87; have hcz87_5 := cellS91_5 HGz87; have hfz87_0 := blk_frozen HGz87 0; have hfz87_1 := blk_frozen HGz87 1; have hfz87_2 := blk_frozen HGz87 2; have hfz87_3 := blk_frozen HGz87 3; have hfz87_4 := blk_frozen HGz87 4; have hfz87_5 := blk_frozen HGz87 5; clear HGz87 hgz87) | ((with_reducible refine gate_callee (f := 37) rfl ?_); refine gL_ 104 Tryd.func37 #[.int .i64 t220] ?_; (with_reducible refine (sat_Abs.calls t220 t270 _ A82.out).mono ?_); rintro e w88 ⟨rfl, hb⟩; refine ⟨_, rfl, ?_⟩; replace HB := aW (below_step o49 hb); replace HK := aW (KeepBut.trans o69 (KeepBut.of_below hb g none) (.inl rfl)); replace HI0 := aW (IsS91.below (show IsS91 w0 ((w86.setCell ⟨g, 2, none⟩ (.int .i64 ji51)).setCell ⟨g, 3, none⟩ (.int .i64 (wrap64 (s0_3 + 1)))) g s0_0 s0_1 ji51 (wrap64 (s0_3 + 1)) s0_4 s0_5 from o18) hb); (try clear hb); (try clear hb2); (try clear hk); (try clear hi)) | ((with_reducible refine gate_callee (f := 36) rfl ?_); refine goesL_ (some 107) rfl rfl Tryd.func36 (by kernel_rfl) rfl #[.pointer (some ⟨g, 0, none⟩), .int .i64 t270, .int .i64 ji83] rfl (by (try simp only [List.map_toArray, List.map_cons, List.map_nil]); first | done | (simp only [hji83]; rfl) | rfl | (simp only [List.length_drop, List.length_take]; rfl)) ?_; (with_reducible refine (detect_Detector_moves.calls k g s0_0 s0_1 ji51 (wrap64 (s0_3 + 1)) s0_4 s0_5 t270 ji83 t271 t272 t273 t274 t275 t276 w0 _ ?side1 ?side2 A84.out).mono ?_); (case side1 => exact o21); (case side2 => exact o54); rintro e w89 ⟨rfl, hi, hb, hk⟩; refine ⟨_, rfl, ?_⟩; replace HI0 := aW (hi); replace HB := aW (hb); replace HK := aW (KeepBut.trans o69 hk (.inl rfl)); (try clear hb); (try clear hb2); (try clear hk); (try clear hi); obtain ⟨HGz90, hgz90⟩ := HI0.out; have hcz90_0 := cellS91_0 HGz90; have hcz90_1 := cellS91_1 HGz90; have hcz90_2 := cellS91_2 HGz90; have hcz90_3 := cellS91_3 HGz90; have hcz90_4 := cellS91_4 HGz90; have hcz90_5 := cellS91_5 HGz90; have hfz90_0 := blk_frozen HGz90 0; have hfz90_1 := blk_frozen HGz90 1; have hfz90_2 := blk_frozen HGz90 2; have hfz90_3 := blk_frozen HGz90 3; have hfz90_4 := blk_frozen HGz90 4; have hfz90_5 := blk_frozen HGz90 5; clear HGz90 hgz90)))
    (try rw [Exit.fwd_ret])
    (try rw [Exit.fwd_normal])
    go_ret
    exact ⟨by first | rfl | (simp [errW_none, errW_some] <;> rfl) | (simp only [← hji7, ← hji8, ← hji51, ← hji83]; first | rfl | (simp [errW_none, errW_some] <;> rfl)) | (simp [*, errW_none, errW_some] <;> rfl), o20, o51, o70⟩
 ·rw [if_neg c10] at H
  have c10b0 : decide (s0_1 < t220) = false := decide_eq_false c10
  clear c10
  by_cases c91 : t220 < (wrap64 (-s0_1))
  ·rw [if_pos c91] at H
   have c91b0 : decide (t220 < (wrap64 (-s0_1))) = true := decide_eq_true c91
   clear c91
   obtain ⟨t277, A92, H⟩ := bw H
   replace H : ((detect_Detector_moves.f k 2 s0_1 0 0 s0_4 s0_5 t277 (mn t219 100000)).bind fun bt278 => (some (bt278.1, bt278.1, bt278.2.1, bt278.2.2.1, bt278.2.2.2.1, t220, bt278.2.2.2.2.2))) = some (r1, r2, r3, r4, r5, r6, r7) := H
   obtain ⟨ji93, hji93⟩ : ∃ j_ : Int, (mn t219 100000) = j_ := ⟨_, rfl⟩
   replace H : ((detect_Detector_moves.f k 2 s0_1 0 0 s0_4 s0_5 t277 (ji93)).bind fun bt278 => (some (bt278.1, bt278.1, bt278.2.1, bt278.2.2.1, bt278.2.2.2.1, t220, bt278.2.2.2.2.2))) = some (r1, r2, r3, r4, r5, r6, r7) := by first | (rw [hji93] at H; exact H) | (simp only [hji93] at H ⊢; exact H)
   (try rw [hji93] at A6)
   (try rw [hji93] at A9)
   (try rw [hji93] at A92)
   (try (have hji93h : ji93 ≤ 100000 := by (rw [← hji93]; unfold mn; (repeat' split) <;> omega)))
   (try (have hji93g : ji93 ≤ 64 := by omega))
   have hji93_ : (if 100000 < t219 then 100000 else t219) = ji93 := hji93
   replace H := Option.bind_eq_some_iff.mp H
   obtain ⟨⟨t278, t279, t280, t281, t282, t283⟩, A940, H⟩ := H
   replace H : (some (t278, t278, t279, t280, t281, t220, t283)) = some (r1, r2, r3, r4, r5, r6, r7) := H
   have A94 := aW A940
   clear A940
   simp only [Option.some.injEq, Prod.mk.injEq] at H
   obtain ⟨rfl, rfl, rfl, rfl, rfl, rfl, rfl⟩ := H
   go_enter Tryd.func21, Tryd.ntmps21
   go_wp2
   repeat ((first | refine wp_scope_fwd 2 ?_ | refine Exit.fwd_goto rfl ?_ | (refine wp_label ?_; dsimp only [Exit.then]) | refine wp_label ?_ | (go_step3; refine Exit.fwd_goto rfl ?_) | (go_step3; (try simp only [Exit.then, Exit.inBlock]); refine Exit.fwd_goto rfl ?_)); try go_wp2_with (first | ((with_reducible refine gate_callee (f := 23) rfl ?_); refine gL_ 15 Tryd.func23 #[.int .i64 a3, .int .i64 0, .int .i64 1000000] ?_; (with_reducible refine (sat_Clamp.calls a3 0 1000000 t219 _ A6.out).mono ?_); rintro e w' ⟨rfl, ⟨nd, rfl⟩⟩; refine ⟨_, rfl, ?_⟩; (generalize hq_ : World.drewN w _ = w95; have n0_ : Aside0 (IsS91 w0 w95 g s0_0 s0_1 s0_2 s0_3 s0_4 s0_5) := ⟨o16⟩; have n1_ : Aside0 (KeepBut w w95 g none) := ⟨o56⟩; have n2_ : Aside0 (Below w0.heap.size w0 w95) := ⟨o33⟩; clear HI0 HK HB hq_; have HI0 := n0_; have HK := n1_; have HB := n2_; clear n0_ n1_ n2_)) | ((with_reducible refine gate_callee (f := 35) rfl ?_); refine goesL_ (some 21) rfl rfl Tryd.func35 (by kernel_rfl) rfl #[.int .i64 (4 * (ji8)), .int .i64 a1] rfl o57 ?_; (with_reducible refine (sat_Mul.calls (4 * (ji8)) a1 t220 _ A9.out).mono ?_); rintro e w96 ⟨rfl, hb⟩; refine ⟨_, rfl, ?_⟩; replace HB := aW (below_step o49 hb); replace HK := aW (KeepBut.trans o69 (KeepBut.of_below hb g none) (.inl rfl)); replace HI0 := aW (IsS91.below o19 hb); (try clear hb); (try clear hb2); (try clear hk); (try clear hi); obtain ⟨HGz97, hgz97⟩ := HI0.out; have hcz97_0 := cellS91_0 HGz97; have hcz97_1 := cellS91_1 HGz97; have hcz97_2 := cellS91_2 HGz97; have hcz97_3 := cellS91_3 HGz97; have hcz97_4 := cellS91_4 HGz97; have hcz97_5 := cellS91_5 HGz97; have hfz97_0 := blk_frozen HGz97 0; have hfz97_1 := blk_frozen HGz97 1; have hfz97_2 := blk_frozen HGz97 2; have hfz97_3 := blk_frozen HGz97 3; have hfz97_4 := blk_frozen HGz97 4; have hfz97_5 := blk_frozen HGz97 5; clear HGz97 hgz97) | ((with_reducible refine gate_callee (f := 37) rfl ?_); refine gL_ 104 Tryd.func37 #[.int .i64 t220] ?_; (with_reducible refine (sat_Abs.calls t220 t277 _ A92.out).mono ?_); rintro e w98 ⟨rfl, hb⟩; refine ⟨_, rfl, ?_⟩; replace HB := aW (below_step o49 hb); replace HK := aW (KeepBut.trans o69 (KeepBut.of_below hb g none) (.inl rfl)); replace HI0 := aW (IsS91.below (show IsS91 w0 ((((w96.setCell ⟨g, 2, none⟩ (.int .i64 0)).setCell ⟨g, 3, none⟩ (.int .i64 0)).setCell ⟨g, 0, none⟩ (.int .i64 0)).setCell ⟨g, 0, none⟩ (.int .i64 2)) g 2 s0_1 0 0 s0_4 s0_5 from o18) hb); (try clear hb); (try clear hb2); (try clear hk); (try clear hi)) | ((with_reducible refine gate_callee (f := 36) rfl ?_); refine goesL_ (some 107) rfl rfl Tryd.func36 (by kernel_rfl) rfl #[.pointer (some ⟨g, 0, none⟩), .int .i64 t277, .int .i64 ji93] rfl (by (try simp only [List.map_toArray, List.map_cons, List.map_nil]); first | done | (simp only [hji93]; rfl) | rfl | (simp only [List.length_drop, List.length_take]; rfl)) ?_; (with_reducible refine (detect_Detector_moves.calls k g 2 s0_1 0 0 s0_4 s0_5 t277 ji93 t278 t279 t280 t281 t282 t283 w0 _ ?side1 ?side2 A94.out).mono ?_); (case side1 => exact o21); (case side2 => exact o54); rintro e w99 ⟨rfl, hi, hb, hk⟩; refine ⟨_, rfl, ?_⟩; replace HI0 := aW (hi); replace HB := aW (hb); replace HK := aW (KeepBut.trans o69 hk (.inl rfl)); (try clear hb); (try clear hb2); (try clear hk); (try clear hi); obtain ⟨HGz100, hgz100⟩ := HI0.out; have hcz100_0 := cellS91_0 HGz100; have hcz100_1 := cellS91_1 HGz100; have hcz100_2 := cellS91_2 HGz100; have hcz100_3 := cellS91_3 HGz100; have hcz100_4 := cellS91_4 HGz100; have hcz100_5 := cellS91_5 HGz100; have hfz100_0 := blk_frozen HGz100 0; have hfz100_1 := blk_frozen HGz100 1; have hfz100_2 := blk_frozen HGz100 2; have hfz100_3 := blk_frozen HGz100 3; have hfz100_4 := blk_frozen HGz100 4; have hfz100_5 := blk_frozen HGz100 5; clear HGz100 hgz100)))
   (try rw [Exit.fwd_ret])
   (try rw [Exit.fwd_normal])
   go_ret
   exact ⟨by first | rfl | (simp [errW_none, errW_some] <;> rfl) | (simp only [← hji7, ← hji8, ← hji93]; first | rfl | (simp [errW_none, errW_some] <;> rfl)) | (simp [*, errW_none, errW_some] <;> rfl), o20, o51, o70⟩
  ·rw [if_neg c91] at H
   have c91b0 : decide (t220 < (wrap64 (-s0_1))) = false := decide_eq_false c91
   clear c91
   obtain ⟨t284, A101, H⟩ := bw H
   replace H : ((detect_Detector_moves.f k 0 s0_1 0 0 s0_4 s0_5 t284 (mn t219 100000)).bind fun bt285 => (some (bt285.1, bt285.1, bt285.2.1, bt285.2.2.1, bt285.2.2.2.1, t220, bt285.2.2.2.2.2))) = some (r1, r2, r3, r4, r5, r6, r7) := H
   obtain ⟨ji102, hji102⟩ : ∃ j_ : Int, (mn t219 100000) = j_ := ⟨_, rfl⟩
   replace H : ((detect_Detector_moves.f k 0 s0_1 0 0 s0_4 s0_5 t284 (ji102)).bind fun bt285 => (some (bt285.1, bt285.1, bt285.2.1, bt285.2.2.1, bt285.2.2.2.1, t220, bt285.2.2.2.2.2))) = some (r1, r2, r3, r4, r5, r6, r7) := by first | (rw [hji102] at H; exact H) | (simp only [hji102] at H ⊢; exact H)
   (try rw [hji102] at A6)
   (try rw [hji102] at A9)
   (try rw [hji102] at A101)
   (try (have hji102h : ji102 ≤ 100000 := by (rw [← hji102]; unfold mn; (repeat' split) <;> omega)))
   (try (have hji102g : ji102 ≤ 64 := by omega))
   have hji102_ : (if 100000 < t219 then 100000 else t219) = ji102 := hji102
   replace H := Option.bind_eq_some_iff.mp H
   obtain ⟨⟨t285, t286, t287, t288, t289, t290⟩, A1030, H⟩ := H
   replace H : (some (t285, t285, t286, t287, t288, t220, t290)) = some (r1, r2, r3, r4, r5, r6, r7) := H
   have A103 := aW A1030
   clear A1030
   simp only [Option.some.injEq, Prod.mk.injEq] at H
   obtain ⟨rfl, rfl, rfl, rfl, rfl, rfl, rfl⟩ := H
   go_enter Tryd.func21, Tryd.ntmps21
   go_wp2
   repeat ((first | refine wp_scope_fwd 2 ?_ | refine Exit.fwd_goto rfl ?_ | (refine wp_label ?_; dsimp only [Exit.then]) | refine wp_label ?_ | (go_step3; refine Exit.fwd_goto rfl ?_) | (go_step3; (try simp only [Exit.then, Exit.inBlock]); refine Exit.fwd_goto rfl ?_)); try go_wp2_with (first | ((with_reducible refine gate_callee (f := 23) rfl ?_); refine gL_ 15 Tryd.func23 #[.int .i64 a3, .int .i64 0, .int .i64 1000000] ?_; (with_reducible refine (sat_Clamp.calls a3 0 1000000 t219 _ A6.out).mono ?_); rintro e w' ⟨rfl, ⟨nd, rfl⟩⟩; refine ⟨_, rfl, ?_⟩; (generalize hq_ : World.drewN w _ = w104; have n0_ : Aside0 (IsS91 w0 w104 g s0_0 s0_1 s0_2 s0_3 s0_4 s0_5) := ⟨o16⟩; have n1_ : Aside0 (KeepBut w w104 g none) := ⟨o56⟩; have n2_ : Aside0 (Below w0.heap.size w0 w104) := ⟨o33⟩; clear HI0 HK HB hq_; have HI0 := n0_; have HK := n1_; have HB := n2_; clear n0_ n1_ n2_)) | ((with_reducible refine gate_callee (f := 35) rfl ?_); refine goesL_ (some 21) rfl rfl Tryd.func35 (by kernel_rfl) rfl #[.int .i64 (4 * (ji8)), .int .i64 a1] rfl o57 ?_; (with_reducible refine (sat_Mul.calls (4 * (ji8)) a1 t220 _ A9.out).mono ?_); rintro e w105 ⟨rfl, hb⟩; refine ⟨_, rfl, ?_⟩; replace HB := aW (below_step o49 hb); replace HK := aW (KeepBut.trans o69 (KeepBut.of_below hb g none) (.inl rfl)); replace HI0 := aW (IsS91.below o19 hb); (try clear hb); (try clear hb2); (try clear hk); (try clear hi); obtain ⟨HGz106, hgz106⟩ := HI0.out; have hcz106_0 := cellS91_0 HGz106; have hcz106_1 := cellS91_1 HGz106; have hcz106_2 := cellS91_2 HGz106; have hcz106_3 := cellS91_3 HGz106; have hcz106_4 := cellS91_4 HGz106; have hcz106_5 := cellS91_5 HGz106; have hfz106_0 := blk_frozen HGz106 0; have hfz106_1 := blk_frozen HGz106 1; have hfz106_2 := blk_frozen HGz106 2; have hfz106_3 := blk_frozen HGz106 3; have hfz106_4 := blk_frozen HGz106 4; have hfz106_5 := blk_frozen HGz106 5; clear HGz106 hgz106) | ((with_reducible refine gate_callee (f := 37) rfl ?_); refine gL_ 104 Tryd.func37 #[.int .i64 t220] ?_; (with_reducible refine (sat_Abs.calls t220 t284 _ A101.out).mono ?_); rintro e w107 ⟨rfl, hb⟩; refine ⟨_, rfl, ?_⟩; replace HB := aW (below_step o49 hb); replace HK := aW (KeepBut.trans o69 (KeepBut.of_below hb g none) (.inl rfl)); replace HI0 := aW (IsS91.below (show IsS91 w0 (((w105.setCell ⟨g, 2, none⟩ (.int .i64 0)).setCell ⟨g, 3, none⟩ (.int .i64 0)).setCell ⟨g, 0, none⟩ (.int .i64 0)) g 0 s0_1 0 0 s0_4 s0_5 from o18) hb); (try clear hb); (try clear hb2); (try clear hk); (try clear hi)) | ((with_reducible refine gate_callee (f := 36) rfl ?_); refine goesL_ (some 107) rfl rfl Tryd.func36 (by kernel_rfl) rfl #[.pointer (some ⟨g, 0, none⟩), .int .i64 t284, .int .i64 ji102] rfl (by (try simp only [List.map_toArray, List.map_cons, List.map_nil]); first | done | (simp only [hji102]; rfl) | rfl | (simp only [List.length_drop, List.length_take]; rfl)) ?_; (with_reducible refine (detect_Detector_moves.calls k g 0 s0_1 0 0 s0_4 s0_5 t284 ji102 t285 t286 t287 t288 t289 t290 w0 _ ?side1 ?side2 A103.out).mono ?_); (case side1 => exact o21); (case side2 => exact o54); rintro e w108 ⟨rfl, hi, hb, hk⟩; refine ⟨_, rfl, ?_⟩; replace HI0 := aW (hi); replace HB := aW (hb); replace HK := aW (KeepBut.trans o69 hk (.inl rfl)); (try clear hb); (try clear hb2); (try clear hk); (try clear hi); obtain ⟨HGz109, hgz109⟩ := HI0.out; have hcz109_0 := cellS91_0 HGz109; have hcz109_1 := cellS91_1 HGz109; have hcz109_2 := cellS91_2 HGz109; have hcz109_3 := cellS91_3 HGz109; have hcz109_4 := cellS91_4 HGz109; have hcz109_5 := cellS91_5 HGz109; have hfz109_0 := blk_frozen HGz109 0; have hfz109_1 := blk_frozen HGz109 1; have hfz109_2 := blk_frozen HGz109 2; have hfz109_3 := blk_frozen HGz109 3; have hfz109_4 := blk_frozen HGz109 4; have hfz109_5 := blk_frozen HGz109 5; clear HGz109 hgz109)))
   (try rw [Exit.fwd_ret])
   (try rw [Exit.fwd_normal])
   go_ret
   exact ⟨by first | rfl | (simp [errW_none, errW_some] <;> rfl) | (simp only [← hji7, ← hji8, ← hji102]; first | rfl | (simp [errW_none, errW_some] <;> rfl)) | (simp [*, errW_none, errW_some] <;> rfl), o20, o51, o70⟩
def aimd_Aimd_hold.f (s0_0 : Int) (s0_1 : Int) (s0_2 : Int) (s0_3 : Int) (s0_4 : Bool) (s0_5 : Int) (s0_6 : Int) (s0_7 : Bool) (s0_8 : Int) (a1_0 : Int) (a1_1 : Int) (a1_2 : Int) : Option (Int × Int × Int × Int × Bool × Int × Int × Bool × Int) := some (s0_0, s0_1, s0_2, s0_3, s0_4, s0_5, s0_6, s0_7, s0_8)
set_option maxHeartbeats 8000000 in
set_option maxRecDepth 100000 in
theorem aimd_Aimd_hold.calls (g : Nat) (s0_0 : Int) (s0_1 : Int) (s0_2 : Int) (s0_3 : Int) (s0_4 : Bool) (s0_5 : Int) (s0_6 : Int) (s0_7 : Bool) (s0_8 : Int) (a1_0 : Int) (a1_1 : Int) (a1_2 : Int) (r1 : Int) (r2 : Int) (r3 : Int) (r4 : Int) (r5 : Bool) (r6 : Int) (r7 : Int) (r8 : Bool) (r9 : Int) (w0 w : World) (hI : IsS76 w0 w g s0_0 s0_1 s0_2 s0_3 s0_4 s0_5 s0_6 s0_7 s0_8) (hB : Below w0.heap.size w0 w) (h : aimd_Aimd_hold.f s0_0 s0_1 s0_2 s0_3 s0_4 s0_5 s0_6 s0_7 s0_8 a1_0 a1_1 a1_2 = some (r1, r2, r3, r4, r5, r6, r7, r8, r9)) :
  Calls Tryd.prog 41 #[.pointer (some ⟨g, 0, none⟩), .agg #[.int .i64 a1_0, .int .i64 a1_1, .int .i64 a1_2]] w fun e w' => e = .returned (.tuple #[]) ∧ IsS76 w0 w' g r1 r2 r3 r4 r5 r6 r7 r8 r9 ∧ Below w0.heap.size w0 w' ∧ KeepBut w w' g none := by
 have hu101 := Tryd.underlying101
 have HI0 := aW hI
 have HK := aW (KeepBut.refl w g none)
 have HL := aW hB.size
 clear hI
 have HW0 := aW hB.size
 have HB := aW hB
 clear hB
 have H : (some (s0_0, s0_1, s0_2, s0_3, s0_4, s0_5, s0_6, s0_7, s0_8)) = some (r1, r2, r3, r4, r5, r6, r7, r8, r9) := h
 clear h
 simp only [Option.some.injEq, Prod.mk.injEq] at H
 obtain ⟨rfl, rfl, rfl, rfl, rfl, rfl, rfl, rfl, rfl⟩ := H
 go_enter Tryd.func41, Tryd.ntmps41
 go_wp2_with (first | ((with_reducible refine gate_dst (N := 3) rfl ?_); refine box_event ?hg (N := 3) ?hd (cs := #[.int .i64 a1_0, .int .i64 a1_1, .int .i64 a1_2]) (t := 101) ?hr ?_; (case hd => rfl); (case hg => rfl); (case hr => first | (go_simp; done) | (go_simp; rfl)); intro gb291 hg w3 hbox hb; have NB291_0 := aW ((by rw [hg]; exact Nat.ne_of_gt (IsS76.lt (show IsS76 w0 _ g s0_0 s0_1 s0_2 s0_3 s0_4 s0_5 s0_6 s0_7 s0_8 from o13)) : gb291 ≠ g)); have NB0_291 := aW ((by rw [hg]; exact Nat.ne_of_lt (IsS76.lt (show IsS76 w0 _ g s0_0 s0_1 s0_2 s0_3 s0_4 s0_5 s0_6 s0_7 s0_8 from o13)) : g ≠ gb291)); have GE291 := aW ((Nat.le_trans HW0.out (by rw [hg]; exact (keep_size (w := w) (g := g) (row := none) o69) : w.heap.size ≤ gb291) : w0.heap.size ≤ gb291)); have GW291 := aW ((by rw [hg]; exact (keep_size (w := w) (g := g) (row := none) o69) : w.heap.size ≤ gb291)); have BK291 := aW (hbox); replace HB := aW (below_step o50 hb); replace HK := aW (KeepBut.trans o69 (KeepBut.of_below hb g none) (.inl rfl)); replace HI0 := aW (IsS76.below o14 hb); clear hb hbox hg))
 first | go_end0 | ((try simp only [Exit.inBlock, Exit.then]); refine bodyPost_ret (results_none rfl _ _ _) rfl ?_)
 exact ⟨o95, by repeat (first | (with_reducible first | exact HI0.out | apply IsS76.alloc | apply IsS76.drewN | apply IsS76.drew | apply IsS76.set_0 | apply IsS76.set_1 | apply IsS76.set_2 | apply IsS76.set_3 | apply IsS76.set_4 | apply IsS76.set_5 | apply IsS76.set_6 | apply IsS76.set_7 | apply IsS76.set_8 | refine IsS76.far ?_ NB0_291.out _) | exact HI0.out), by repeat (first | (with_reducible first | exact HB.out | apply below_alloc | apply pw_below_drewN | apply below_drew1 | refine below_set ?_ (IsS76.ge HI0.out) | refine below_set ?_ GE291.out) | exact HB.out), by repeat (first | (with_reducible first | exact HK.out | apply KeepBut.set_ | apply keep_drewN | apply keep_drew | apply keep_alloc | refine keep_far ?_ GW291.out _) | exact HK.out)⟩
end Go.Proofs.YtphgeljglhjamaaDoor.P
end

-- PUT TOGETHER by a program of this session: of the claim's texts, what is used
import Derived.Test.YtkfkbebpcmmnfaaKGuardBrakes7
section
namespace Go.Proofs.Ytkfkbebpcmmnfaa.P
open Go.RowKit Go.Proofs.YtkfkbebpcmmnfaaW.PrintWords Go.Proofs.YtkfkbebpcmmnfaaW.PrintLast Go.Proofs.YtkfkbebpcmmnfaaW.PrintMore
attribute [local go_sem] max2_int min2_int max_two min_two max_three min_three max_four min_four   -- for this text's walks alone
set_option linter.unusedVariables false
set_option linter.unusedSimpArgs false
theorem mul64_ok (a b : Int) (ha : 0 ≤ a) (ha1 : a < 18446744073709551616) (hb : 0 ≤ b) (hb1 : b < 18446744073709551616) :
  bits_Mul64.f a b = some (a * b / 18446744073709551616, a * b % 18446744073709551616) := by
 obtain ⟨x, rfl⟩ := Int.eq_ofNat_of_zero_le ha
 obtain ⟨y, rfl⟩ := Int.eq_ofNat_of_zero_le hb
 have hx : x < 18446744073709551616 := by omega
 have hy : y < 18446744073709551616 := by omega
 obtain ⟨bd, bt, bw, hhi⟩ := Lib.mul64_hi x y hx hy
 have e1 : Go.bits .and .u64 (x : Int) 4294967295 = ((x % 4294967296 : Nat) : Int) := by rw [and_low32 _ ha (by omega)]; omega
 have e2 : Go.bits .and .u64 (y : Int) 4294967295 = ((y % 4294967296 : Nat) : Int) := by rw [and_low32 _ hb (by omega)]; omega
 have d1 : (x : Int) / 4294967296 = ((x / 4294967296 : Nat) : Int) := by omega
 have d2 : (y : Int) / 4294967296 = ((y / 4294967296 : Nat) : Int) := by omega
 unfold bits_Mul64.f
 rw [e1, e2, d1, d2]
 simp only [← Int.natCast_mul]
 have b3 := Lib.half_mul_le (a := x / 4294967296) (b := y % 4294967296) (by omega) (by omega)
 have b4 := Lib.half_mul_le (a := x % 4294967296) (b := y / 4294967296) (by omega) (by omega)
 have b5 := Lib.half_mul_le (a := x / 4294967296) (b := y / 4294967296) (by omega) (by omega)
 generalize (x % 4294967296) * (y % 4294967296) = w0 at *
 generalize (x / 4294967296) * (y % 4294967296) = p1 at *
 generalize (x % 4294967296) * (y / 4294967296) = p2 at *
 generalize (x / 4294967296) * (y / 4294967296) = p3 at *
 generalize x * y = N at *
 have w1 : IntKind.u64.wrap ((w0 : Nat) : Int) = (w0 : Int) := u64_id _ (by omega) (by omega)
 have w2 : IntKind.u64.wrap ((p1 : Nat) : Int) = (p1 : Int) := u64_id _ (by omega) (by omega)
 have w3 : IntKind.u64.wrap ((p2 : Nat) : Int) = (p2 : Int) := u64_id _ (by omega) (by omega)
 have w4 : IntKind.u64.wrap ((p3 : Nat) : Int) = (p3 : Int) := u64_id _ (by omega) (by omega)
 rw [w1, w2, w3, w4]
 have t : (p1 : Int) + (w0 : Int) / 4294967296 = ((p1 + w0 / 4294967296 : Nat) : Int) := by omega
 rw [t]
 generalize hT : p1 + w0 / 4294967296 = T at *
 have w5 : IntKind.u64.wrap ((T : Nat) : Int) = (T : Int) := u64_id _ (by omega) (by omega)
 have e3 : Go.bits .and .u64 (T : Int) 4294967295 = ((T % 4294967296 : Nat) : Int) := by rw [and_low32 _ (by omega) (by omega)]; omega
 rw [w5, e3]
 rw [u64_id (((T % 4294967296 : Nat) : Int) + (p2 : Int)) (by omega) (by omega), u64_id ((p3 : Int) + (T : Int) / 4294967296) (by omega) (by omega), u64_id _ (by omega) (by omega), u64_mod]
 congr 2
 ·omega
theorem msize (a : Int) (h : isI64 a) : muldiv_size.f a = some (if a < 0 then -a else a) := by
 unfold isI64 at h
 unfold muldiv_size.f
 simp only [u64_mod]
 split
 ·congr 1; omega
 ·congr 1; omega
theorem quotient_tail (below : Bool) (hi lo : Int) (h0 : 0 ≤ hi) (l0 : 0 ≤ lo) (l1 : lo < 18446744073709551616) :
  muldiv_quotient.j2 3 below hi lo = some (hold64 (if below = true then -(hi * 18446744073709551616 + lo) else hi * 18446744073709551616 + lo)) := by
 cases below with
 | true =>
  simp only [muldiv_quotient.j2, muldiv_quotient.j3, muldiv_quotient.j4, if_true]
  unfold hold64
  by_cases hz : hi > 0
  ·rw [if_pos hz, if_pos (by omega)]
  ·rw [if_neg hz]
   by_cases hl : lo > 9223372036854775808
   ·rw [decide_eq_true (by omega), if_pos rfl, if_pos (by omega)]
   ·rw [decide_eq_false (by omega), if_neg (by simp), if_neg (by omega), if_neg (by omega)]
    congr 2
    rw [u64_mod]; unfold wrap64; omega
 | false =>
  simp only [muldiv_quotient.j2, muldiv_quotient.j3, muldiv_quotient.j4, Bool.false_eq_true, if_false]
  unfold hold64
  by_cases hz : hi > 0
  ·rw [if_pos hz, if_pos trivial, if_neg (by omega), if_pos (by omega)]
  ·rw [if_neg hz]
   by_cases hl : lo > 9223372036854775807
   ·rw [decide_eq_true (by omega), if_pos rfl, if_neg (by omega), if_pos (by omega)]
   ·rw [decide_eq_false (by omega), if_neg (by simp), if_neg (by omega), if_neg (by omega)]
    congr 2
    unfold wrap64; omega
theorem up_ok (left C : Int) (below : Bool) (how : Int) (h0 : 0 ≤ left) (h1 : left < C) (hC : C < 18446744073709551616) (hh : how = 1 ∨ how = 2 ∨ how = 3) :
  muldiv_up.f left C below how = some (decide (1 = (if below = true then (if how = 1 then (if 0 < left then 1 else 0) else if how = 3 then 0 else (if C < 2 * left then 1 else 0)) else (if how = 1 then 0 else if how = 3 then (if 0 < left then 1 else 0) else (if C ≤ 2 * left then 1 else 0)) : Int))) := by
 unfold muldiv_up.f
 have w : IntKind.u64.wrap (C - left) = C - left := u64_id _ (by omega) (by omega)
 rw [w]
 rcases hh with rfl | rfl | rfl <;> cases below <;> simp
 all_goals (try (split <;> simp_all <;> omega))
 all_goals (try omega)
theorem quotient_j1 (x2 how N C : Int) (below : Bool) (hx : isI64 x2) (hC : C = if x2 < 0 then -x2 else x2) (hC0 : 0 < C) (hN : 0 ≤ N) (hN1 : N ≤ 85070591730234615865843651857942052864) (hh : how = 1 ∨ how = 2 ∨ how = 3) :
  muldiv_quotient.j1 4 x2 how below (N / 18446744073709551616) (N % 18446744073709551616) = some (hold64 (rnd (if below = true then -N else N) C how)) := by
 have ms := msize x2 hx
 rw [← hC] at ms
 have hCu : C ≤ 9223372036854775808 := by unfold isI64 at hx; rw [hC]; split <;> omega
 obtain ⟨t1, t2, t3, t4⟩ := two_halves N C hN hC0
 simp only [muldiv_quotient.j1, ms, Option.bind_some]
 unfold muldiv_divided.f
 rw [if_pos ⟨⟨by omega, by omega⟩, ⟨by omega, by omega⟩, ⟨hC0, by omega⟩⟩]
 simp only [Option.bind_some]
 rw [← t2]
 have r0 := Int.emod_nonneg N (show C ≠ 0 by omega)
 have r1 := Int.emod_lt_of_pos N hC0
 rw [up_ok _ _ _ _ r0 r1 (by omega) hh, Option.bind_some]
 have q0 : 0 ≤ N / 18446744073709551616 / C := Int.ediv_nonneg (by omega) (by omega)
 have q1 : N / 18446744073709551616 / C ≤ N / 18446744073709551616 := Int.ediv_le_self _ (by omega)
 have val : ∀ u : Int, u = 0 ∨ u = 1 → (if decide (1 = u) = true then
    muldiv_quotient.j2 3 below (IntKind.u64.wrap (N / 18446744073709551616 / C + add64c ((N / 18446744073709551616 % C * 18446744073709551616 + N % 18446744073709551616) / C) 1 0)) (add64s ((N / 18446744073709551616 % C * 18446744073709551616 + N % 18446744073709551616) / C) 1 0)
   else muldiv_quotient.j2 3 below (N / 18446744073709551616 / C) ((N / 18446744073709551616 % C * 18446744073709551616 + N % 18446744073709551616) / C)) = some (hold64 (if below = true then -(N / C + u) else N / C + u)) := by
  intro u hu
  generalize (N / 18446744073709551616 % C * 18446744073709551616 + N % 18446744073709551616) / C = lo at *
  generalize N / 18446744073709551616 / C = hi at *
  rcases hu with rfl | rfl
  ·rw [if_neg (by simp), quotient_tail below hi lo q0 t3 t4, Int.add_zero, t1]
  ·rw [if_pos (by simp)]
   have s1 : add64s lo 1 0 = (lo + 1) % 18446744073709551616 := by unfold add64s; simp only [show (1 : Int).toNat = 1 from rfl, show (0 : Int).toNat = 0 from rfl]; omega
   have s2 : add64c lo 1 0 = (lo + 1) / 18446744073709551616 := by unfold add64c; simp only [show (1 : Int).toNat = 1 from rfl, show (0 : Int).toNat = 0 from rfl]; omega
   rw [s1, s2, u64_id _ (by omega) (by omega), quotient_tail below _ _ (by omega) (by omega) (by omega)]
   congr 3
   all_goals omega
 cases below with
 | true =>
  simp only [if_true] at val ⊢
  rw [rnd_neg N C how hC0]
  apply val
  split
  ·split <;> simp
  ·split
   ·simp
   ·split <;> simp
 | false =>
  simp only [Bool.false_eq_true, if_false] at val ⊢
  rw [rnd_pos N C how hC0]
  apply val
  split
  ·simp
  ·split
   ·split <;> simp
   ·split <;> simp
theorem quotient_ok (a b c how : Int) (ha : isI64 a) (hb : isI64 b) (hc : isI64 c) : muldiv_quotient.f 5 a b c how = some (mdq a b c how) := by
 unfold muldiv_quotient.f mdq
 by_cases hz : c = 0
 ·rw [if_pos hz, if_pos (Or.inl hz)]; rfl
 rw [if_neg hz]
 by_cases hl : how < 1
 ·rw [if_pos hl, if_pos (Or.inr (Or.inl hl))]; rfl
 rw [if_neg hl]
 by_cases hg : how > 3
 ·rw [decide_eq_true hg, if_pos (Or.inr (Or.inr hg))]; rfl
 rw [decide_eq_false hg, if_neg (by omega)]
 simp only [muldiv_quotient.j0, Bool.false_eq_true, if_false]
 rw [msize a ha, msize b hb]
 simp only [Option.bind_some]
 have ha' := ha; have hb' := hb; have hc' := hc
 unfold isI64 at ha' hb' hc'
 rw [mul64_ok _ _ (by split <;> omega) (by split <;> omega) (by split <;> omega) (by split <;> omega)]
 simp only [Option.bind_some]
 have hN := abs_mul_le (a := if a < 0 then -a else a) (b := if b < 0 then -b else b) (by split <;> omega) (by split <;> omega) (by split <;> omega) (by split <;> omega)
 have hN0 := Int.mul_nonneg (a := if a < 0 then -a else a) (b := if b < 0 then -b else b) (by split <;> omega) (by split <;> omega)
 have J := fun bl => quotient_j1 c how ((if a < 0 then -a else a) * (if b < 0 then -b else b)) (if c < 0 then -c else c) bl hc rfl (by split <;> omega) hN0 hN (by omega)
 simp only [J]
 by_cases h1 : a < 0 <;> by_cases h2 : b < 0 <;> by_cases h3 : c < 0 <;> simp [h1, h2, h3, Int.neg_mul, Int.mul_neg]
def muldiv_quotient_s.f (a0 : Int) (a1 : Int) (a2 : Int) (a3 : Int) : Option (Int × Bool) := if isI64 a0 ∧ isI64 a1 ∧ isI64 a2 then some (mdq a0 a1 a2 a3) else none
theorem muldiv_quotient_s.calls (a0 : Int) (a1 : Int) (a2 : Int) (a3 : Int) (r1 : Int) (r2 : Bool) (w : World) (h : muldiv_quotient_s.f a0 a1 a2 a3 = some (r1, r2)) :
  Calls Try.prog 25 #[.int .i64 a0, .int .i64 a1, .int .i64 a2, .int .i64 a3] w fun e w' => e = .returned (.tuple #[.int .i64 r1, .bool r2]) ∧ Below w.heap.size w w' := by
 unfold muldiv_quotient_s.f at h
 split at h
 ·rename_i hb
  exact muldiv_quotient.calls 5 a0 a1 a2 a3 r1 r2 w ((quotient_ok a0 a1 a2 a3 hb.1 hb.2.1 hb.2.2).trans h)
 ·cases h
def muldiv_Do.f (a0 : Int) (a1 : Int) (a2 : Int) (a3 : Int) : Option (Int) := (muldiv_quotient_s.f a0 a1 a2 a3).bind fun bt119 => (some bt119.1)
set_option maxHeartbeats 8000000 in
set_option maxRecDepth 100000 in
theorem muldiv_Do.calls (a0 : Int) (a1 : Int) (a2 : Int) (a3 : Int) (r : Int) (w : World) (h : muldiv_Do.f a0 a1 a2 a3 = some r) :
  Calls Try.prog 21 #[.int .i64 a0, .int .i64 a1, .int .i64 a2, .int .i64 a3] w fun e w' => e = .returned (.int .i64 r) ∧ Below w.heap.size w w' := by
 have HB := Aside0.mk (Below.refl w.heap.size w)
 have H : ((muldiv_quotient_s.f a0 a1 a2 a3).bind fun bt119 => (some bt119.1)) = some r := h
 clear h
 replace H := Option.bind_eq_some_iff.mp H
 obtain ⟨⟨t119, t120⟩, A50, H⟩ := H
 replace H : (some t119) = some r := H
 have A5 := Aside0.mk A50
 clear A50
 obtain rfl := Option.some.inj H
 go_enter Try.func21, Try.ntmps21
 go_wp2_with (first | ((with_reducible refine gate_callee (f := 25) rfl ?_); refine goesL_ (some 16) rfl rfl Try.func25 (by kernel_rfl) rfl #[.int .i64 a0, .int .i64 a1, .int .i64 a2, .int .i64 a3] rfl (by (try simp only [List.map_toArray, List.map_cons, List.map_nil]); first | done | rfl | (simp only [List.length_drop, List.length_take]; rfl)) ?_; (with_reducible refine (muldiv_quotient_s.calls a0 a1 a2 a3 t119 t120 _ A5.out).mono ?_); rintro e w6 ⟨rfl, hb⟩; refine ⟨_, rfl, ?_⟩; have n0_ := Aside0.mk (below_step (by repeat (first | (with_reducible first | exact HB.out | apply below_alloc | apply pw_below_drewN | apply below_drew1) | exact HB.out)) hb); clear HB; have HB := n0_; clear n0_; (try clear hb); (try clear hb2); (try clear hk); (try clear hi)))
 go_ret
 exact ⟨by first | rfl | (simp [errW_none, errW_some] <;> rfl) | (simp [*, errW_none, errW_some] <;> rfl), by repeat (first | (with_reducible first | exact HB.out | apply below_alloc | apply pw_below_drewN | apply below_drew1) | exact HB.out)⟩
def gh1 (br : Bool) (low t gt dl : Int) : Option Int := if br = true then ((muldiv_Do.f gt 7 8 1).bind fun q => some (mn t q)) else if dl ≤ low then ((muldiv_Do.f gt 9 8 1).bind fun q => some (mx t q)) else some t
def gh2 (fl : Bool) (t gt : Int) : Int := if fl = true then mn t (wrap64 ((wrap64 (2 * gt)) + 100000)) else t
def guard_Guard_Hear.f (s0_0 : Int) (s0_1 : Int) (s0_2 : Int) (s0_3 : Int) (s0_4 : Int) (s0_5 : Int) (s0_6 : Int) (s0_7 : Int) (s0_8 : Int) (s0_9 : Int) (s0_10 : Int) (s0_11 : List (S85)) (s0_12 : Int) (s0_13 : Int) (s0_14 : Int) (s0_15 : Int) (s0_16 : Bool) (s0_17 : Bool) (a1 : Int) (a2 : Int) (a3 : Int) (a4 : Bool) (a5 : Int) : Option (Int × Int × Int × Int × Int × Int × Int × Int × Int × Int × Int × Int × Int × Int × Int × Int × Bool × Bool) := (sat_Clamp.f a5 0 1125899906842624).bind fun n => ((sat_Clamp.f a2 0 1125899906842624).bind fun d => ((sat_Clamp.f a3 0 17179869184).bind fun q => ((gh1 (decide (s0_4 < d)) s0_5 a1 q d).bind fun t1 => ((sat_Clamp.f (gh2 a4 t1 q) s0_1 s0_2).bind fun t3 => some (t3, s0_0, s0_1, s0_2, s0_3, s0_4, s0_5, s0_6, s0_7, s0_8, s0_9, s0_10, s0_12, t3, mx s0_14 n, s0_15, s0_16, decide (s0_4 < d))))))
def guard_Guard_Hear.nilrecv.f (a1 : Int) (a2 : Int) (a3 : Int) (a4 : Bool) (a5 : Int) : Option Int := some 0
structure GH (w0 w W : World) (g b : Nat) (s0_0 : Int) (s0_1 : Int) (s0_2 : Int) (s0_3 : Int) (s0_4 : Int) (s0_5 : Int) (s0_6 : Int) (s0_7 : Int) (s0_8 : Int) (s0_9 : Int) (s0_10 : Int) (s0_11 : List (S85)) (s0_12 : Int) (s0_13 : Int) (s0_14 : Int) (s0_15 : Int) (s0_16 : Bool) (s0_17 : Bool) (dl gt : Int) (fl : Bool) : Prop where
 st : IsS48 w0 W g s0_0 s0_1 s0_2 s0_3 s0_4 s0_5 s0_6 s0_7 s0_8 s0_9 s0_10 s0_11 s0_12 s0_13 s0_14 s0_15 s0_16 s0_17
 bel : Below w0.heap.size w0 W
 keep : KeepBut w W g none
 c6 : W.heap[b]? = some (.cells #[.pointer (some ⟨g, 0, none⟩)] 29 (0, 0))
 c8 : W.heap[b + 1]? = some (.cells #[.int .i64 dl] 2 (0, 0))
 c9 : W.heap[b + 1 + 1]? = some (.cells #[.int .i64 gt] 2 (0, 0))
 c10 : W.heap[b + 1 + 1 + 1]? = some (.cells #[.bool fl] 4 (0, 0))
 ge : w.heap.size ≤ b
 gb : g < b
 ge0 : w0.heap.size ≤ b
section
variable {w0 w W : World} {g b : Nat} {s0_0 : Int} {s0_1 : Int} {s0_2 : Int} {s0_3 : Int} {s0_4 : Int} {s0_5 : Int} {s0_6 : Int} {s0_7 : Int} {s0_8 : Int} {s0_9 : Int} {s0_10 : Int} {s0_11 : List (S85)} {s0_12 : Int} {s0_13 : Int} {s0_14 : Int} {s0_15 : Int} {s0_16 : Bool} {s0_17 : Bool} {dl gt : Int} {fl : Bool}
theorem GH.drewN (h : GH w0 w W g b s0_0 s0_1 s0_2 s0_3 s0_4 s0_5 s0_6 s0_7 s0_8 s0_9 s0_10 s0_11 s0_12 s0_13 s0_14 s0_15 s0_16 s0_17 dl gt fl) (n : Nat) : GH w0 w (W.drewN n) g b s0_0 s0_1 s0_2 s0_3 s0_4 s0_5 s0_6 s0_7 s0_8 s0_9 s0_10 s0_11 s0_12 s0_13 s0_14 s0_15 s0_16 s0_17 dl gt fl := ⟨IsS48.drewN h.st n, pw_below_drewN h.bel n, keep_drewN h.keep n, blk_drewN h.c6 n, blk_drewN h.c8 n, blk_drewN h.c9 n, blk_drewN h.c10 n, h.ge, h.gb, h.ge0⟩
theorem GH.drew (h : GH w0 w W g b s0_0 s0_1 s0_2 s0_3 s0_4 s0_5 s0_6 s0_7 s0_8 s0_9 s0_10 s0_11 s0_12 s0_13 s0_14 s0_15 s0_16 s0_17 dl gt fl) : GH w0 w W.drew g b s0_0 s0_1 s0_2 s0_3 s0_4 s0_5 s0_6 s0_7 s0_8 s0_9 s0_10 s0_11 s0_12 s0_13 s0_14 s0_15 s0_16 s0_17 dl gt fl := ⟨IsS48.drew h.st, below_drew1 h.bel, keep_drew h.keep, blk_drew h.c6, blk_drew h.c8, blk_drew h.c9, blk_drew h.c10, h.ge, h.gb, h.ge0⟩
theorem GH.alloc (h : GH w0 w W g b s0_0 s0_1 s0_2 s0_3 s0_4 s0_5 s0_6 s0_7 s0_8 s0_9 s0_10 s0_11 s0_12 s0_13 s0_14 s0_15 s0_16 s0_17 dl gt fl) (o : Obj) : GH w0 w (W.alloc o) g b s0_0 s0_1 s0_2 s0_3 s0_4 s0_5 s0_6 s0_7 s0_8 s0_9 s0_10 s0_11 s0_12 s0_13 s0_14 s0_15 s0_16 s0_17 dl gt fl := ⟨IsS48.alloc h.st o, below_alloc h.bel o, keep_alloc h.keep o, blk_alloc h.c6 o, blk_alloc h.c8 o, blk_alloc h.c9 o, blk_alloc h.c10 o, h.ge, h.gb, h.ge0⟩
theorem GH.set8 (h : GH w0 w W g b s0_0 s0_1 s0_2 s0_3 s0_4 s0_5 s0_6 s0_7 s0_8 s0_9 s0_10 s0_11 s0_12 s0_13 s0_14 s0_15 s0_16 s0_17 dl gt fl) (x : Int) : GH w0 w (W.setCell ⟨b + 1, 0, none⟩ (.int .i64 x)) g b s0_0 s0_1 s0_2 s0_3 s0_4 s0_5 s0_6 s0_7 s0_8 s0_9 s0_10 s0_11 s0_12 s0_13 s0_14 s0_15 s0_16 s0_17 x gt fl := by
 have gb := h.gb; have ge := h.ge; have ge0 := h.ge0
 exact ⟨IsS48.far h.st (by show _ ≠ b + 1; omega) _, below_set h.bel (by omega), keep_far h.keep (by show _ ≤ b + 1; omega) _, blk_far h.c6 (by show _ ≠ b + 1; omega) _, ((blk_set h.c8 0 _).trans rfl), blk_far h.c9 (by show _ ≠ b + 1; omega) _, blk_far h.c10 (by show _ ≠ b + 1; omega) _, h.ge, h.gb, h.ge0⟩
theorem GH.set9 (h : GH w0 w W g b s0_0 s0_1 s0_2 s0_3 s0_4 s0_5 s0_6 s0_7 s0_8 s0_9 s0_10 s0_11 s0_12 s0_13 s0_14 s0_15 s0_16 s0_17 dl gt fl) (x : Int) : GH w0 w (W.setCell ⟨b + 1 + 1, 0, none⟩ (.int .i64 x)) g b s0_0 s0_1 s0_2 s0_3 s0_4 s0_5 s0_6 s0_7 s0_8 s0_9 s0_10 s0_11 s0_12 s0_13 s0_14 s0_15 s0_16 s0_17 dl x fl := by
 have gb := h.gb; have ge := h.ge; have ge0 := h.ge0
 exact ⟨IsS48.far h.st (by show _ ≠ b + 1 + 1; omega) _, below_set h.bel (by omega), keep_far h.keep (by show _ ≤ b + 1 + 1; omega) _, blk_far h.c6 (by show _ ≠ b + 1 + 1; omega) _, blk_far h.c8 (by show _ ≠ b + 1 + 1; omega) _, ((blk_set h.c9 0 _).trans rfl), blk_far h.c10 (by show _ ≠ b + 1 + 1; omega) _, h.ge, h.gb, h.ge0⟩
theorem GH.st13 (h : GH w0 w W g b s0_0 s0_1 s0_2 s0_3 s0_4 s0_5 s0_6 s0_7 s0_8 s0_9 s0_10 s0_11 s0_12 s0_13 s0_14 s0_15 s0_16 s0_17 dl gt fl) (x : Int) : GH w0 w (W.setCell ⟨g, 13, none⟩ (.int .i64 x)) g b s0_0 s0_1 s0_2 s0_3 s0_4 s0_5 s0_6 s0_7 s0_8 s0_9 s0_10 s0_11 s0_12 x s0_14 s0_15 s0_16 s0_17 dl gt fl := by
 have gb := h.gb
 exact ⟨IsS48.set_13 h.st x, below_set h.bel (IsS48.ge h.st), KeepBut.set_ h.keep _ _, blk_far h.c6 (by show _ ≠ g; omega) _, blk_far h.c8 (by show _ ≠ g; omega) _, blk_far h.c9 (by show _ ≠ g; omega) _, blk_far h.c10 (by show _ ≠ g; omega) _, h.ge, h.gb, h.ge0⟩
theorem GH.st14 (h : GH w0 w W g b s0_0 s0_1 s0_2 s0_3 s0_4 s0_5 s0_6 s0_7 s0_8 s0_9 s0_10 s0_11 s0_12 s0_13 s0_14 s0_15 s0_16 s0_17 dl gt fl) (x : Int) : GH w0 w (W.setCell ⟨g, 14, none⟩ (.int .i64 x)) g b s0_0 s0_1 s0_2 s0_3 s0_4 s0_5 s0_6 s0_7 s0_8 s0_9 s0_10 s0_11 s0_12 s0_13 x s0_15 s0_16 s0_17 dl gt fl := by
 have gb := h.gb
 exact ⟨IsS48.set_14 h.st x, below_set h.bel (IsS48.ge h.st), KeepBut.set_ h.keep _ _, blk_far h.c6 (by show _ ≠ g; omega) _, blk_far h.c8 (by show _ ≠ g; omega) _, blk_far h.c9 (by show _ ≠ g; omega) _, blk_far h.c10 (by show _ ≠ g; omega) _, h.ge, h.gb, h.ge0⟩
theorem GH.st17 (h : GH w0 w W g b s0_0 s0_1 s0_2 s0_3 s0_4 s0_5 s0_6 s0_7 s0_8 s0_9 s0_10 s0_11 s0_12 s0_13 s0_14 s0_15 s0_16 s0_17 dl gt fl) (x : Bool) : GH w0 w (W.setCell ⟨g, 17, none⟩ (.bool x)) g b s0_0 s0_1 s0_2 s0_3 s0_4 s0_5 s0_6 s0_7 s0_8 s0_9 s0_10 s0_11 s0_12 s0_13 s0_14 s0_15 s0_16 x dl gt fl := by
 have gb := h.gb
 exact ⟨IsS48.set_17 h.st x, below_set h.bel (IsS48.ge h.st), KeepBut.set_ h.keep _ _, blk_far h.c6 (by show _ ≠ g; omega) _, blk_far h.c8 (by show _ ≠ g; omega) _, blk_far h.c9 (by show _ ≠ g; omega) _, blk_far h.c10 (by show _ ≠ g; omega) _, h.ge, h.gb, h.ge0⟩
end
section
variable {w0 w W : World} {g b : Nat} {s0_0 : Int} {s0_1 : Int} {s0_2 : Int} {s0_3 : Int} {s0_4 : Int} {s0_5 : Int} {s0_6 : Int} {s0_7 : Int} {s0_8 : Int} {s0_9 : Int} {s0_10 : Int} {s0_11 : List (S85)} {s0_12 : Int} {s0_13 : Int} {s0_14 : Int} {s0_15 : Int} {s0_16 : Bool} {s0_17 : Bool} {dl gt : Int} {fl : Bool}
theorem GH.below {W1 : World} (h : GH w0 w W g b s0_0 s0_1 s0_2 s0_3 s0_4 s0_5 s0_6 s0_7 s0_8 s0_9 s0_10 s0_11 s0_12 s0_13 s0_14 s0_15 s0_16 s0_17 dl gt fl) (hb : Below W.heap.size W W1) : GH w0 w W1 g b s0_0 s0_1 s0_2 s0_3 s0_4 s0_5 s0_6 s0_7 s0_8 s0_9 s0_10 s0_11 s0_12 s0_13 s0_14 s0_15 s0_16 s0_17 dl gt fl :=
 ⟨IsS48.below h.st hb, below_step h.bel hb, KeepBut.trans h.keep (KeepBut.of_below hb g none) (.inl rfl), blk_below h.c6 hb, blk_below h.c8 hb, blk_below h.c9 hb, blk_below h.c10 hb, h.ge, h.gb, h.ge0⟩
set_option maxHeartbeats 8000000 in
set_option maxRecDepth 100000 in
theorem Hear1.calls (h : GH w0 w W g b s0_0 s0_1 s0_2 s0_3 s0_4 s0_5 s0_6 s0_7 s0_8 s0_9 s0_10 s0_11 s0_12 s0_13 s0_14 s0_15 s0_16 s0_17 dl gt fl) (t r : Int) (hr : gh1 s0_17 s0_5 t gt dl = some r) :
  Calls Try.prog 20 #[.int .i64 t, .pointer (some ⟨b, 0, none⟩), .pointer (some ⟨b + 1 + 1, 0, none⟩), .pointer (some ⟨b + 1, 0, none⟩)] W fun e w' => e = .returned (.int .i64 r) ∧ Below W.heap.size W w' := by
 have c6 : W.cell? ⟨b, 0, none⟩ = some (.pointer (some ⟨g, 0, none⟩)) := (blk_cell h.c6 0).trans rfl
 have c8 : W.cell? ⟨b + 1, 0, none⟩ = some (.int .i64 dl) := (blk_cell h.c8 0).trans rfl
 have c9 : W.cell? ⟨b + 1 + 1, 0, none⟩ = some (.int .i64 gt) := (blk_cell h.c9 0).trans rfl
 have cS5 : W.cell? ⟨g, 5, none⟩ = some (.int .i64 s0_5) := by obtain ⟨A, c, hb, _⟩ := h.st; exact (blk_cell hb 5).trans rfl
 have cS17 : W.cell? ⟨g, 17, none⟩ = some (.bool s0_17) := by obtain ⟨A, c, hb, _⟩ := h.st; exact (blk_cell hb 17).trans rfl
 clear h
 unfold gh1 at hr
 cases hs : s0_17 with
 | true =>
  rw [hs] at hr cS17
  clear hs
  rw [if_pos rfl] at hr
  obtain ⟨q, A, H⟩ := Option.bind_eq_some_iff.mp hr
  cases H
  clear hr
  have hj_ : (if q < t then q else t) = mn t q := rfl
  generalize mn t q = j_ at hj_ ⊢
  go_enter Try.func20, Try.ntmps20
  go_wp2_with (first | ((with_reducible refine gate_callee (f := 21) rfl ?_); refine goesL_ (some 13) rfl rfl Try.func21 (by kernel_rfl) rfl #[.int .i64 gt, .int .i64 7, .int .i64 8, .int .i64 1] rfl (by (try simp only [List.map_toArray, List.map_cons, List.map_nil]); first | done | rfl) ?_; (with_reducible refine (muldiv_Do.calls gt 7 8 1 q _ A).mono ?_); rintro e w1 ⟨rfl, hb⟩; refine ⟨_, rfl, ?_⟩))
  go_ret
  exact ⟨by first | rfl | (simp <;> rfl), hb⟩
 | false =>
  rw [hs] at hr cS17
  clear hs
  rw [if_neg (by decide)] at hr
  by_cases hd : dl ≤ s0_5
  ·rw [if_pos hd] at hr
   have hd0 : decide (dl ≤ s0_5) = true := decide_eq_true hd
   obtain ⟨q, A, H⟩ := Option.bind_eq_some_iff.mp hr
   cases H
   clear hr hd
   have hj_ : (if t < q then q else t) = mx t q := rfl
   generalize mx t q = j_ at hj_ ⊢
   go_enter Try.func20, Try.ntmps20
   go_wp2
   repeat (go_quiet (fail); try go_wp2_with (first | ((with_reducible refine gate_callee (f := 21) rfl ?_); refine goesL_ (some 25) rfl rfl Try.func21 (by kernel_rfl) rfl #[.int .i64 gt, .int .i64 9, .int .i64 8, .int .i64 1] rfl (by (try simp only [List.map_toArray, List.map_cons, List.map_nil]); first | done | rfl) ?_; (with_reducible refine (muldiv_Do.calls gt 9 8 1 q _ A).mono ?_); rintro e w1 ⟨rfl, hb⟩; refine ⟨_, rfl, ?_⟩)))
   go_ret
   exact ⟨by first | rfl | (simp <;> rfl), by first | exact hb | (refine below_step (below_drew1 (Below.refl _ _)) hb) | (refine below_step (pw_below_drewN (Below.refl _ _) _) hb)⟩
  ·rw [if_neg hd] at hr
   have hd0 : decide (dl ≤ s0_5) = false := decide_eq_false hd
   cases hr
   clear hd
   go_enter Try.func20, Try.ntmps20
   go_wp2
   repeat (go_quiet (fail); try go_wp2)
   go_ret
   exact ⟨rfl, by first | exact Below.refl _ _ | exact below_drew1 (Below.refl _ _) | exact pw_below_drewN (Below.refl _ _) _⟩
set_option maxHeartbeats 8000000 in
set_option maxRecDepth 100000 in
theorem Hear2.calls (h : GH w0 w W g b s0_0 s0_1 s0_2 s0_3 s0_4 s0_5 s0_6 s0_7 s0_8 s0_9 s0_10 s0_11 s0_12 s0_13 s0_14 s0_15 s0_16 s0_17 dl gt fl) (t : Int) :
  Calls Try.prog 22 #[.int .i64 t, .pointer (some ⟨b + 1 + 1 + 1, 0, none⟩), .pointer (some ⟨b + 1 + 1, 0, none⟩)] W fun e w' => e = .returned (.int .i64 (gh2 fl t gt)) ∧ Below W.heap.size W w' := by
 have c9 : W.cell? ⟨b + 1 + 1, 0, none⟩ = some (.int .i64 gt) := (blk_cell h.c9 0).trans rfl
 have c10 : W.cell? ⟨b + 1 + 1 + 1, 0, none⟩ = some (.bool fl) := (blk_cell h.c10 0).trans rfl
 clear h
 unfold gh2
 cases fl with
 | true =>
  rw [if_pos rfl]
  have hj_ : (if wrap64 (wrap64 (2 * gt) + 100000) < t then wrap64 (wrap64 (2 * gt) + 100000) else t) = mn t (wrap64 (wrap64 (2 * gt) + 100000)) := rfl
  generalize mn t (wrap64 (wrap64 (2 * gt) + 100000)) = j_ at hj_ ⊢
  go_enter Try.func22, Try.ntmps22
  go_wp2
  try (repeat (go_quiet (fail); try go_wp2))
  go_ret
  exact ⟨by first | rfl | (simp <;> rfl), by first | exact Below.refl _ _ | exact below_drew1 (Below.refl _ _) | exact pw_below_drewN (Below.refl _ _) _⟩
 | false =>
  go_enter Try.func22, Try.ntmps22
  go_wp2
  try (repeat (go_quiet (fail); try go_wp2))
  go_ret
  exact ⟨by first | rfl | (simp <;> rfl), by first | exact Below.refl _ _ | exact below_drew1 (Below.refl _ _) | exact pw_below_drewN (Below.refl _ _) _⟩
set_option maxHeartbeats 8000000 in
set_option maxRecDepth 100000 in
theorem Hear3.calls (h : GH w0 w W g b s0_0 s0_1 s0_2 s0_3 s0_4 s0_5 s0_6 s0_7 s0_8 s0_9 s0_10 s0_11 s0_12 s0_13 s0_14 s0_15 s0_16 s0_17 dl gt fl) (t r : Int) (hr : sat_Clamp.f t s0_1 s0_2 = some r) :
  Calls Try.prog 23 #[.int .i64 t, .pointer (some ⟨b, 0, none⟩)] W fun e w' => e = .returned (.int .i64 r) ∧ Below W.heap.size W w' := by
 have c6 : W.cell? ⟨b, 0, none⟩ = some (.pointer (some ⟨g, 0, none⟩)) := (blk_cell h.c6 0).trans rfl
 have cS1 : W.cell? ⟨g, 1, none⟩ = some (.int .i64 s0_1) := by obtain ⟨A, c, hb, _⟩ := h.st; exact (blk_cell hb 1).trans rfl
 have cS2 : W.cell? ⟨g, 2, none⟩ = some (.int .i64 s0_2) := by obtain ⟨A, c, hb, _⟩ := h.st; exact (blk_cell hb 2).trans rfl
 clear h
 go_enter Try.func23, Try.ntmps23
 go_wp2
 repeat (go_quiet (first | (go_at_call 19; (with_reducible refine (sat_Clamp.calls t s0_1 s0_2 r _ hr).mono ?_); rintro e w' ⟨rfl, ⟨nd, rfl⟩⟩; (try first | exact ⟨rfl, _, World.drewN_drewN _ _ _⟩ | exact ⟨rfl, _, Eq.trans (World.drewN_drewN _ _ _) (congrArg (World.drewN _) (Nat.add_assoc _ _ _))⟩))); try go_wp2)
 go_ret
 exact ⟨rfl, by repeat (first | exact Below.refl _ _ | apply pw_below_drewN | apply below_drew1)⟩
end
theorem sizeG_ (w : World) (o : Obj) : (w.alloc o).heap.size = w.heap.size + 1 := by show (w.heap.push _).size = _; exact Array.size_push _
theorem newG_ {w : World} {o : Obj} {k : Nat} (h : k = w.heap.size) : (w.alloc o).heap[k]? = some o := by rw [h]; exact blk_new w o
theorem namedG_ {P : Program} {Q : Exit → Act → World → Prop} {a : Act} {W : World} {c : Code} (h : ∀ W_, W_ = W → c.wp P Q a W_) : c.wp P Q a W := h W rfl
set_option maxHeartbeats 8000000 in
set_option maxRecDepth 100000 in
theorem guard_Guard_Hear.calls (g : Nat) (s0_0 : Int) (s0_1 : Int) (s0_2 : Int) (s0_3 : Int) (s0_4 : Int) (s0_5 : Int) (s0_6 : Int) (s0_7 : Int) (s0_8 : Int) (s0_9 : Int) (s0_10 : Int) (s0_11 : List (S85)) (s0_12 : Int) (s0_13 : Int) (s0_14 : Int) (s0_15 : Int) (s0_16 : Bool) (s0_17 : Bool) (a1 : Int) (a2 : Int) (a3 : Int) (a4 : Bool) (a5 : Int) (r1 : Int) (r2 : Int) (r3 : Int) (r4 : Int) (r5 : Int) (r6 : Int) (r7 : Int) (r8 : Int) (r9 : Int) (r10 : Int) (r11 : Int) (r12 : Int) (r13 : Int) (r14 : Int) (r15 : Int) (r16 : Int) (r17 : Bool) (r18 : Bool) (w0 w : World) (hI : IsS48 w0 w g s0_0 s0_1 s0_2 s0_3 s0_4 s0_5 s0_6 s0_7 s0_8 s0_9 s0_10 s0_11 s0_12 s0_13 s0_14 s0_15 s0_16 s0_17) (hB : Below w0.heap.size w0 w) (h : guard_Guard_Hear.f s0_0 s0_1 s0_2 s0_3 s0_4 s0_5 s0_6 s0_7 s0_8 s0_9 s0_10 s0_11 s0_12 s0_13 s0_14 s0_15 s0_16 s0_17 a1 a2 a3 a4 a5 = some (r1, r2, r3, r4, r5, r6, r7, r8, r9, r10, r11, r12, r13, r14, r15, r16, r17, r18)) :
  Calls Try.prog 11 #[.pointer (some ⟨g, 0, none⟩), .int .i64 a1, .int .i64 a2, .int .i64 a3, .bool a4, .int .i64 a5] w fun e w' => e = .returned (.int .i64 r1) ∧ IsS48 w0 w' g r2 r3 r4 r5 r6 r7 r8 r9 r10 r11 r12 s0_11 r13 r14 r15 r16 r17 r18 ∧ Below w0.heap.size w0 w' ∧ KeepBut w w' g none := by
 have hpn_ : ∀ (a_ : Addr) (W_ : World), (Go.binOp .eql 29 (.pointer (some a_)) (.pointer none)).run Try.prog W_ = .ok (.bool false) W_ := fun _ _ => by kernel_rfl
 unfold guard_Guard_Hear.f at h
 obtain ⟨n, An, h⟩ := Option.bind_eq_some_iff.mp h
 obtain ⟨d, Ad, h⟩ := Option.bind_eq_some_iff.mp h
 obtain ⟨q, Aq, h⟩ := Option.bind_eq_some_iff.mp h
 obtain ⟨t1, A1, h⟩ := Option.bind_eq_some_iff.mp h
 obtain ⟨t3, A3, h⟩ := Option.bind_eq_some_iff.mp h
 simp only [Option.some.injEq, Prod.mk.injEq] at h
 obtain ⟨rfl, rfl, rfl, rfl, rfl, rfl, rfl, rfl, rfl, rfl, rfl, rfl, rfl, rfl, rfl, rfl, rfl, rfl⟩ := h
 have gl := IsS48.lt hI
 have h0 : GH w0 w ((((w.alloc (.cells #[.pointer (some ⟨g, 0, none⟩)] 29)).alloc (.cells #[.int .i64 a2] 2)).alloc (.cells #[.int .i64 a3] 2)).alloc (.cells #[.bool a4] 4)) g w.heap.size s0_0 s0_1 s0_2 s0_3 s0_4 s0_5 s0_6 s0_7 s0_8 s0_9 s0_10 s0_11 s0_12 s0_13 s0_14 s0_15 s0_16 s0_17 a2 a3 a4 := ⟨(((IsS48.alloc hI _).alloc _).alloc _).alloc _, below_alloc (below_alloc (below_alloc (below_alloc hB _) _) _) _, keep_alloc (keep_alloc (keep_alloc (keep_alloc (KeepBut.refl w g none) _) _) _) _, blk_alloc (blk_alloc (blk_alloc (blk_new w _) _) _) _, blk_alloc (blk_alloc (newG_ (by rw [sizeG_])) _) _, blk_alloc (newG_ (by rw [sizeG_, sizeG_])) _, newG_ (by rw [sizeG_, sizeG_, sizeG_]), Nat.le_refl _, gl, hB.size⟩
 go_enter Try.func11, Try.ntmps11
 go_wp2
 refine namedG_ ?_
 intro W3 hW3
 have h1 : GH w0 w W3 g w.heap.size s0_0 s0_1 s0_2 s0_3 s0_4 s0_5 s0_6 s0_7 s0_8 s0_9 s0_10 s0_11 s0_12 s0_13 s0_14 s0_15 s0_16 s0_17 a2 a3 a4 := by rw [hW3]; exact h0
 clear hW3 h0
 generalize w.heap.size = b at h1 ⊢
 clear hI hB gl
 refine start_ (n := 6) (S := fun w' => GH w0 w w' g b s0_0 s0_1 s0_2 s0_3 s0_4 s0_5 s0_6 s0_7 s0_8 s0_9 s0_10 s0_11 s0_12 s0_13 s0_14 s0_15 s0_16 s0_17 a2 a3 a4) (ds := [5]) #[false, false, false, false, false, false] (by kernel_rfl) rfl rfl h1.drew (fun hHeld => ?_)
 clear h1
 generalize W3.drew = W3 at hHeld ⊢
 refine pure_ (i := 0) (N := some 18) (v := ?_) (a' := ?_) #[true, false, false, false, false, false] rfl rfl (by kernel_rfl) (fun _ _ _ h => h) (Or.inl ⟨by rfl, ?_⟩) ?_ ?_
 rotate_left
 ·intro w'
  go_simp
  with_reducible rfl
 rotate_left
 ·simp only [Act.put, List.setIfInBounds_toArray, List.set_cons_zero, List.set_cons_succ, i64_w, i32_w]
  rfl
 refine take_ (i := 2) (N := some 20) (v := ?_) (a' := ?_) #[true, false, true, false, false, false] rfl rfl (by kernel_rfl) (fun _ _ _ h => h) (Or.inl ⟨by rfl, ?_⟩) hHeld ?_ ?_
 rotate_left
 ·intro w' hw'
  have cb0_ : w'.cell? ⟨b + 1, 0, none⟩ = some (.int .i64 a2) := (blk_cell hw'.c8 0).trans rfl
  go_simp
  with_reducible rfl
 rotate_left
 ·simp only [Act.put, List.setIfInBounds_toArray, List.set_cons_zero, List.set_cons_succ, i64_w, i32_w]
  rfl
 refine one_ (i := 1) (N := some 19) #[true, true, true, false, false, false] rfl rfl (by kernel_rfl) (by decide) (fun K hK => ?_)
 refine goes_ Try.func19 (by kernel_rfl) rfl #[.int .i64 a5, .int .i64 0, .int .i64 1125899906842624] (by rfl) rfl rfl (by simp only [List.map_toArray, List.map_cons, List.map_nil]; rfl) ?_
 with_reducible refine (sat_Clamp.calls a5 0 1125899906842624 n _ An).mono ?_
 rintro e w' ⟨rfl, ⟨nd, rfl⟩⟩
 refine ⟨_, rfl, ?_⟩
 have hN_ := hHeld.drewN nd
 refine hK.out _ _ hN_ (fun hHeld => ?_)
 clear hK K hN_
 generalize W3.drewN nd = W3_ at hHeld ⊢
 refine norm_ (a' := ?_) ?_ ?_
 rotate_left
 ·show Act.put _ (some 19) _ = _
  simp only [Act.put, List.setIfInBounds_toArray, List.set_cons_zero, List.set_cons_succ, i64_w, i32_w]
  rfl
 refine one_ (i := 3) (N := some 21) #[true, true, true, true, false, false] rfl rfl (by kernel_rfl) (by decide) (fun K hK => ?_)
 refine goes_ Try.func19 (by kernel_rfl) rfl #[.int .i64 a2, .int .i64 0, .int .i64 1125899906842624] (by rfl) rfl rfl (by simp only [List.map_toArray, List.map_cons, List.map_nil]; rfl) ?_
 with_reducible refine (sat_Clamp.calls a2 0 1125899906842624 d _ Ad).mono ?_
 rintro e w' ⟨rfl, ⟨nd, rfl⟩⟩
 refine ⟨_, rfl, ?_⟩
 have hN_ := hHeld.drewN nd
 refine hK.out _ _ hN_ (fun hHeld => ?_)
 clear hK K hN_
 generalize W3_.drewN nd = W3__ at hHeld ⊢
 refine norm_ (a' := ?_) ?_ ?_
 rotate_left
 ·show Act.put _ (some 21) _ = _
  simp only [Act.put, List.setIfInBounds_toArray, List.set_cons_zero, List.set_cons_succ, i64_w, i32_w]
  rfl
 refine pure_ (i := 4) (N := some 5) (v := ?_) (a' := ?_) #[true, true, true, true, true, false] rfl rfl (by kernel_rfl) (fun _ _ _ h => h) (Or.inl ⟨by rfl, ?_⟩) ?_ ?_
 rotate_left
 ·intro w'
  go_simp
  with_reducible rfl
 rotate_left
 ·simp only [Act.put, List.setIfInBounds_toArray, List.set_cons_zero, List.set_cons_succ, i64_w, i32_w]
  rfl
 refine last_ (i := 5) (N := none) #[true, true, true, true, true, true] rfl rfl (by kernel_rfl) (by decide) (fun K hK => ?_)
 have hs0_ : W3__.cell? ⟨b + 1, 0, none⟩ = some (.int .i64 a2) := (blk_cell hHeld.c8 0).trans rfl
 have hf0_ := blk_frozen hHeld.c8 0
 refine skip_ (w1 := ?_) (by rfl) rfl ?_ ?_
 rotate_left
 ·go_simp
  rfl
 refine hK.out _ _ ?_
 refine done_ (by kernel_rfl) ?_
 clear hK K
 clear hs0_
 clear hf0_
 have h2 := hHeld.set8 d
 generalize W3__.setCell ⟨b + 1, 0, none⟩ (.int .i64 d) = W4 at h2 ⊢
 clear hHeld
 have hc9_ : W4.cell? ⟨b + 1 + 1, 0, none⟩ = some (.int .i64 a3) := (blk_cell h2.c9 0).trans rfl
 go_wp2_with (first | ((with_reducible refine gate_callee (f := 19) rfl ?_); refine goesL_ (some 23) rfl rfl Try.func19 (by kernel_rfl) rfl #[.int .i64 a3, .int .i64 0, .int .i64 17179869184] rfl (by (try simp only [List.map_toArray, List.map_cons, List.map_nil]); first | done | rfl) ?_; (with_reducible refine (sat_Clamp.calls a3 0 17179869184 q _ Aq).mono ?_); rintro e w' ⟨rfl, ⟨nd, rfl⟩⟩; refine ⟨_, rfl, ?_⟩; have h3 := h2.drewN nd; clear h2 hc9_; generalize W4.drewN nd = W5 at h3 ⊢; have hs9_ : W5.cell? ⟨b + 1 + 1, 0, none⟩ = some (.int .i64 a3) := (blk_cell h3.c9 0).trans rfl; have hf9_ := blk_frozen h3.c9 0))
 have h4 := h3.set9 q
 clear hs9_ hf9_ h3
 generalize W5.setCell ⟨b + 1 + 1, 0, none⟩ (.int .i64 q) = W6 at h4 ⊢
 refine start_ (n := 11) (S := fun w' => GH w0 w w' g b s0_0 s0_1 s0_2 s0_3 s0_4 s0_5 s0_6 s0_7 s0_8 s0_9 s0_10 s0_11 s0_12 s0_13 s0_14 s0_15 s0_16 s0_17 d q a4) (ds := [10]) #[false, false, false, false, false, false, false, false, false, false, false] (by kernel_rfl) rfl rfl h4.drew (fun hHeld => ?_)
 clear h4
 generalize W6.drew = W6 at hHeld ⊢
 refine take_ (i := 0) (N := some 24) (v := ?_) (a' := ?_) #[true, false, false, false, false, false, false, false, false, false, false] rfl rfl (by kernel_rfl) (fun _ _ _ h => h) (Or.inl ⟨by rfl, ?_⟩) hHeld ?_ ?_
 rotate_left
 ·intro w' hw'
  have cb0_ : w'.cell? ⟨b, 0, none⟩ = some (.pointer (some ⟨g, 0, none⟩)) := (blk_cell hw'.c6 0).trans rfl
  go_simp
  with_reducible rfl
 rotate_left
 ·simp only [Act.put, List.setIfInBounds_toArray, List.set_cons_zero, List.set_cons_succ, i64_w, i32_w]
  rfl
 refine take_ (i := 1) (N := some 25) (v := ?_) (a' := ?_) #[true, true, false, false, false, false, false, false, false, false, false] rfl rfl (by kernel_rfl) (fun _ _ _ h => h) (Or.inl ⟨by rfl, ?_⟩) hHeld ?_ ?_
 rotate_left
 ·intro w' hw'
  have cb0_ : w'.cell? ⟨b + 1, 0, none⟩ = some (.int .i64 d) := (blk_cell hw'.c8 0).trans rfl
  go_simp
  with_reducible rfl
 rotate_left
 ·simp only [Act.put, List.setIfInBounds_toArray, List.set_cons_zero, List.set_cons_succ, i64_w, i32_w]
  rfl
 refine take_ (i := 2) (N := some 26) (v := ?_) (a' := ?_) #[true, true, true, false, false, false, false, false, false, false, false] rfl rfl (by kernel_rfl) (fun _ _ _ h => h) (Or.inl ⟨by rfl, ?_⟩) hHeld ?_ ?_
 rotate_left
 ·intro w' hw'
  have cb0_ : w'.cell? ⟨b, 0, none⟩ = some (.pointer (some ⟨g, 0, none⟩)) := (blk_cell hw'.c6 0).trans rfl
  go_simp
  with_reducible rfl
 rotate_left
 ·simp only [Act.put, List.setIfInBounds_toArray, List.set_cons_zero, List.set_cons_succ, i64_w, i32_w]
  rfl
 refine pure_ (i := 3) (N := some 27) (v := ?_) (a' := ?_) #[true, true, true, true, false, false, false, false, false, false, false] rfl rfl (by kernel_rfl) (fun _ _ _ h => h) (Or.inl ⟨by rfl, ?_⟩) ?_ ?_
 rotate_left
 ·intro w'
  go_simp
  with_reducible rfl
 rotate_left
 ·simp only [Act.put, List.setIfInBounds_toArray, List.set_cons_zero, List.set_cons_succ, i64_w, i32_w]
  rfl
 refine pure_ (i := 4) (N := some 28) (v := ?_) (a' := ?_) #[true, true, true, true, true, false, false, false, false, false, false] rfl rfl (by kernel_rfl) (fun _ _ _ h => h) (Or.inl ⟨by rfl, ?_⟩) ?_ ?_
 rotate_left
 ·intro w'
  go_simp
  with_reducible rfl
 rotate_left
 ·simp only [Act.put, List.setIfInBounds_toArray, List.set_cons_zero, List.set_cons_succ, i64_w, i32_w]
  rfl
 refine pure_ (i := 5) (N := some 29) (v := ?_) (a' := ?_) #[true, true, true, true, true, true, false, false, false, false, false] rfl rfl (by kernel_rfl) (fun _ _ _ h => h) (Or.inl ⟨by rfl, ?_⟩) ?_ ?_
 rotate_left
 ·intro w'
  go_simp
  with_reducible rfl
 rotate_left
 ·simp only [Act.put, List.setIfInBounds_toArray, List.set_cons_zero, List.set_cons_succ, i64_w, i32_w]
  rfl
 refine take_ (i := 6) (N := some 30) (v := ?_) (a' := ?_) #[true, true, true, true, true, true, true, false, false, false, false] rfl rfl (by kernel_rfl) (fun _ _ _ h => h) (Or.inl ⟨by rfl, ?_⟩) hHeld ?_ ?_
 rotate_left
 ·intro w' hw'
  have cb0_ : w'.cell? ⟨g, 4, none⟩ = some (.int .i64 s0_4) := by obtain ⟨A_, c_, hb_, _⟩ := hw'.st; exact (blk_cell hb_ 4).trans rfl
  go_simp
  with_reducible rfl
 rotate_left
 ·simp only [Act.put, List.setIfInBounds_toArray, List.set_cons_zero, List.set_cons_succ, i64_w, i32_w]
  rfl
 refine pure_ (i := 7) (N := some 31) (v := ?_) (a' := ?_) #[true, true, true, true, true, true, true, true, false, false, false] rfl rfl (by kernel_rfl) (fun _ _ _ h => h) (Or.inl ⟨by rfl, ?_⟩) ?_ ?_
 rotate_left
 ·intro w'
  go_simp
  with_reducible rfl
 rotate_left
 ·simp only [Act.put, List.setIfInBounds_toArray, List.set_cons_zero, List.set_cons_succ, i64_w, i32_w]
  rfl
 refine pure_ (i := 8) (N := some 32) (v := ?_) (a' := ?_) #[true, true, true, true, true, true, true, true, true, false, false] rfl rfl (by kernel_rfl) (fun _ _ _ h => h) (Or.inl ⟨by rfl, ?_⟩) ?_ ?_
 rotate_left
 ·intro w'
  go_simp
  with_reducible rfl
 rotate_left
 ·simp only [Act.put, List.setIfInBounds_toArray, List.set_cons_zero, List.set_cons_succ, i64_w, i32_w]
  rfl
 refine pure_ (i := 9) (N := some 33) (v := ?_) (a' := ?_) #[true, true, true, true, true, true, true, true, true, true, false] rfl rfl (by kernel_rfl) (fun _ _ _ h => h) (Or.inl ⟨by rfl, ?_⟩) ?_ ?_
 rotate_left
 ·intro w'
  go_simp
  with_reducible rfl
 rotate_left
 ·simp only [Act.put, List.setIfInBounds_toArray, List.set_cons_zero, List.set_cons_succ, i64_w, i32_w]
  rfl
 refine last_ (i := 10) (N := none) #[true, true, true, true, true, true, true, true, true, true, true] rfl rfl (by kernel_rfl) (by decide) (fun K hK => ?_)
 have hs0_ : W6.cell? ⟨g, 17, none⟩ = some (.bool s0_17) := by obtain ⟨A_, c_, hb_, _⟩ := hHeld.st; exact (blk_cell hb_ 17).trans rfl
 have hf0_ : W6.frozen? ⟨g, 17, none⟩ = false := by obtain ⟨A_, c_, hb_, _⟩ := hHeld.st; exact blk_frozen hb_ 17
 refine skip_ (w1 := ?_) (by rfl) rfl ?_ ?_
 rotate_left
 ·go_simp
  rfl
 refine hK.out _ _ ?_
 refine done_ (by kernel_rfl) ?_
 clear hK K
 clear hs0_
 clear hf0_
 have h5 := hHeld.st17 (decide (s0_4 < d))
 clear hHeld
 generalize W6.setCell ⟨g, 17, none⟩ (.bool (decide (s0_4 < d))) = W7 at h5 ⊢
 go_wp2
 refine namedG_ ?_
 intro W8 hW8
 have h6 := h5.alloc (.cells #[.func (.func 20) #[] #[.pointer (some ⟨b, 0, none⟩), .pointer (some ⟨b + 1 + 1, 0, none⟩), .pointer (some ⟨b + 1, 0, none⟩)], .func (.func 22) #[] #[.pointer (some ⟨b + 1 + 1 + 1, 0, none⟩), .pointer (some ⟨b + 1 + 1, 0, none⟩)], .func (.func 23) #[] #[.pointer (some ⟨b, 0, none⟩)]] 41)
 rw [← hW8] at h6
 have hm := blk_new W7 (.cells #[.func (.func 20) #[] #[.pointer (some ⟨b, 0, none⟩), .pointer (some ⟨b + 1 + 1, 0, none⟩), .pointer (some ⟨b + 1, 0, none⟩)], .func (.func 22) #[] #[.pointer (some ⟨b + 1 + 1 + 1, 0, none⟩), .pointer (some ⟨b + 1 + 1, 0, none⟩)], .func (.func 23) #[] #[.pointer (some ⟨b, 0, none⟩)]] 41)
 rw [← hW8] at hm
 clear hW8 h5
 generalize W7.heap.size = m at hm ⊢
 refine wp_loop_rounds 4 ?_
 rw [rounds_succ]
 have hx_ : W8.cell? ⟨m, 0, none⟩ = some (.func (.func 20) #[] #[.pointer (some ⟨b, 0, none⟩), .pointer (some ⟨b + 1 + 1, 0, none⟩), .pointer (some ⟨b + 1, 0, none⟩)]) := (blk_cell hm 0).trans rfl
 go_wp2_with (first | (go_at_call 20; refine (Hear1.calls h6 a1 t1 A1).mono ?_; rintro e W9 ⟨rfl, hb⟩; have h7 := h6.below hb; have hm2_ := blk_below hm hb; clear hm h6 hx_ hb; have hm := hm2_; clear hm2_))
 rw [rounds_succ]
 have hx_ : W9.cell? ⟨m, 1, none⟩ = some (.func (.func 22) #[] #[.pointer (some ⟨b + 1 + 1 + 1, 0, none⟩), .pointer (some ⟨b + 1 + 1, 0, none⟩)]) := (blk_cell hm 1).trans rfl
 go_wp2_with (first | (go_at_call 22; refine (Hear2.calls h7 t1).mono ?_; rintro e W10 ⟨rfl, hb⟩; have h8 := h7.below hb; have hm2_ := blk_below hm hb; clear hm h7 hx_ hb; have hm := hm2_; clear hm2_))
 rw [rounds_succ]
 have hx_ : W10.cell? ⟨m, 2, none⟩ = some (.func (.func 23) #[] #[.pointer (some ⟨b, 0, none⟩)]) := (blk_cell hm 2).trans rfl
 go_wp2_with (first | (go_at_call 23; refine (Hear3.calls h8 (gh2 a4 t1 q) t3 A3).mono ?_; rintro e W11 ⟨rfl, hb⟩; have h9 := h8.below hb; have hm2_ := blk_below hm hb; clear hm h8 hx_ hb; have hm := hm2_; clear hm2_))
 rw [rounds_succ]
 have hc6_ : W11.cell? ⟨b, 0, none⟩ = some (.pointer (some ⟨g, 0, none⟩)) := (blk_cell h9.c6 0).trans rfl
 have hs0_ : W11.cell? ⟨g, 13, none⟩ = some (.int .i64 s0_13) := by obtain ⟨A_, c_, hb_, _⟩ := h9.st; exact (blk_cell hb_ 13).trans rfl
 have hf0_ : W11.frozen? ⟨g, 13, none⟩ = false := by obtain ⟨A_, c_, hb_, _⟩ := h9.st; exact blk_frozen hb_ 13
 go_wp2
 have h10 := h9.st13 t3
 clear hc6_ hs0_ hf0_ h9 hm
 generalize W11.setCell ⟨g, 13, none⟩ (.int .i64 t3) = W12 at h10 ⊢
 obtain ⟨j_, hj0_⟩ : ∃ j : Int, mx s0_14 n = j := ⟨_, rfl⟩
 have hj_ : (if s0_14 < n then n else s0_14) = j_ := hj0_
 refine start_ (n := 10) (S := fun w' => GH w0 w w' g b s0_0 s0_1 s0_2 s0_3 s0_4 s0_5 s0_6 s0_7 s0_8 s0_9 s0_10 s0_11 s0_12 t3 s0_14 s0_15 s0_16 (decide (s0_4 < d)) d q a4) (ds := [9]) #[false, false, false, false, false, false, false, false, false, false] (by kernel_rfl) rfl rfl h10.drew (fun hHeld => ?_)
 clear h10
 generalize W12.drew = W12 at hHeld ⊢
 refine take_ (i := 0) (N := some 52) (v := ?_) (a' := ?_) #[true, false, false, false, false, false, false, false, false, false] rfl rfl (by kernel_rfl) (fun _ _ _ h => h) (Or.inl ⟨by rfl, ?_⟩) hHeld ?_ ?_
 rotate_left
 ·intro w' hw'
  have cb0_ : w'.cell? ⟨b, 0, none⟩ = some (.pointer (some ⟨g, 0, none⟩)) := (blk_cell hw'.c6 0).trans rfl
  go_simp
  with_reducible rfl
 rotate_left
 ·simp only [Act.put, List.setIfInBounds_toArray, List.set_cons_zero, List.set_cons_succ, i64_w, i32_w]
  rfl
 refine take_ (i := 1) (N := some 53) (v := ?_) (a' := ?_) #[true, true, false, false, false, false, false, false, false, false] rfl rfl (by kernel_rfl) (fun _ _ _ h => h) (Or.inl ⟨by rfl, ?_⟩) hHeld ?_ ?_
 rotate_left
 ·intro w' hw'
  have cb0_ : w'.cell? ⟨b, 0, none⟩ = some (.pointer (some ⟨g, 0, none⟩)) := (blk_cell hw'.c6 0).trans rfl
  go_simp
  with_reducible rfl
 rotate_left
 ·simp only [Act.put, List.setIfInBounds_toArray, List.set_cons_zero, List.set_cons_succ, i64_w, i32_w]
  rfl
 refine pure_ (i := 2) (N := some 54) (v := ?_) (a' := ?_) #[true, true, true, false, false, false, false, false, false, false] rfl rfl (by kernel_rfl) (fun _ _ _ h => h) (Or.inl ⟨by rfl, ?_⟩) ?_ ?_
 rotate_left
 ·intro w'
  go_simp
  with_reducible rfl
 rotate_left
 ·simp only [Act.put, List.setIfInBounds_toArray, List.set_cons_zero, List.set_cons_succ, i64_w, i32_w]
  rfl
 refine pure_ (i := 3) (N := some 55) (v := ?_) (a' := ?_) #[true, true, true, true, false, false, false, false, false, false] rfl rfl (by kernel_rfl) (fun _ _ _ h => h) (Or.inl ⟨by rfl, ?_⟩) ?_ ?_
 rotate_left
 ·intro w'
  go_simp
  with_reducible rfl
 rotate_left
 ·simp only [Act.put, List.setIfInBounds_toArray, List.set_cons_zero, List.set_cons_succ, i64_w, i32_w]
  rfl
 refine take_ (i := 4) (N := some 56) (v := ?_) (a' := ?_) #[true, true, true, true, true, false, false, false, false, false] rfl rfl (by kernel_rfl) (fun _ _ _ h => h) (Or.inl ⟨by rfl, ?_⟩) hHeld ?_ ?_
 rotate_left
 ·intro w' hw'
  have cb0_ : w'.cell? ⟨g, 14, none⟩ = some (.int .i64 s0_14) := by obtain ⟨A_, c_, hb_, _⟩ := hw'.st; exact (blk_cell hb_ 14).trans rfl
  go_simp
  with_reducible rfl
 rotate_left
 ·simp only [Act.put, List.setIfInBounds_toArray, List.set_cons_zero, List.set_cons_succ, i64_w, i32_w]
  rfl
 refine pure_ (i := 5) (N := some 57) (v := ?_) (a' := ?_) #[true, true, true, true, true, true, false, false, false, false] rfl rfl (by kernel_rfl) (fun _ _ _ h => h) (Or.inl ⟨by rfl, ?_⟩) ?_ ?_
 rotate_left
 ·intro w'
  go_simp
  with_reducible rfl
 rotate_left
 ·simp only [Act.put, List.setIfInBounds_toArray, List.set_cons_zero, List.set_cons_succ, i64_w, i32_w]
  rfl
 refine pure_ (i := 6) (N := some 58) (v := ?_) (a' := ?_) #[true, true, true, true, true, true, true, false, false, false] rfl rfl (by kernel_rfl) (fun _ _ _ h => h) (Or.inl ⟨by rfl, ?_⟩) ?_ ?_
 rotate_left
 ·intro w'
  go_simp
  with_reducible rfl
 rotate_left
 ·simp only [Act.put, List.setIfInBounds_toArray, List.set_cons_zero, List.set_cons_succ, i64_w, i32_w]
  rfl
 refine pure_ (i := 7) (N := some 59) (v := ?_) (a' := ?_) #[true, true, true, true, true, true, true, true, false, false] rfl rfl (by kernel_rfl) (fun _ _ _ h => h) (Or.inl ⟨by rfl, ?_⟩) ?_ ?_
 rotate_left
 ·intro w'
  go_simp
  with_reducible rfl
 rotate_left
 ·simp only [Act.put, List.setIfInBounds_toArray, List.set_cons_zero, List.set_cons_succ, i64_w, i32_w]
  rfl
 refine pure_ (i := 8) (N := some 60) (v := ?_) (a' := ?_) #[true, true, true, true, true, true, true, true, true, false] rfl rfl (by kernel_rfl) (fun _ _ _ h => h) (Or.inl ⟨by rfl, ?_⟩) ?_ ?_
 rotate_left
 ·intro w'
  go_simp
  with_reducible rfl
 rotate_left
 ·simp only [Act.put, List.setIfInBounds_toArray, List.set_cons_zero, List.set_cons_succ, i64_w, i32_w]
  rfl
 refine last_ (i := 9) (N := none) #[true, true, true, true, true, true, true, true, true, true] rfl rfl (by kernel_rfl) (by decide) (fun K hK => ?_)
 have hs0_ : W12.cell? ⟨g, 14, none⟩ = some (.int .i64 s0_14) := by obtain ⟨A_, c_, hb_, _⟩ := hHeld.st; exact (blk_cell hb_ 14).trans rfl
 have hf0_ : W12.frozen? ⟨g, 14, none⟩ = false := by obtain ⟨A_, c_, hb_, _⟩ := hHeld.st; exact blk_frozen hb_ 14
 refine skip_ (w1 := ?_) (by rfl) rfl ?_ ?_
 rotate_left
 ·go_simp
  rfl
 refine hK.out _ _ ?_
 refine done_ (by kernel_rfl) ?_
 clear hK K
 clear hs0_
 clear hf0_
 have h11 := hHeld.st14 j_
 clear hHeld
 generalize W12.setCell ⟨g, 14, none⟩ (.int .i64 j_) = W13 at h11 ⊢
 have hc6_ : W13.cell? ⟨b, 0, none⟩ = some (.pointer (some ⟨g, 0, none⟩)) := (blk_cell h11.c6 0).trans rfl
 have hs0_ : W13.cell? ⟨g, 13, none⟩ = some (.int .i64 t3) := by obtain ⟨A_, c_, hb_, _⟩ := h11.st; exact (blk_cell hb_ 13).trans rfl
 go_wp2
 go_ret
 subst hj0_
 exact ⟨rfl, h11.st, h11.bel, h11.keep⟩
set_option maxHeartbeats 8000000 in
set_option maxRecDepth 100000 in
theorem guard_Guard_Hear.nilrecv.calls (a1 : Int) (a2 : Int) (a3 : Int) (a4 : Bool) (a5 : Int) (r : Int) (w : World) (h : guard_Guard_Hear.nilrecv.f a1 a2 a3 a4 a5 = some r) :
  Calls Try.prog 11 #[.pointer none, .int .i64 a1, .int .i64 a2, .int .i64 a3, .bool a4, .int .i64 a5] w fun e w' => e = .returned (.int .i64 r) ∧ Below w.heap.size w w' := by
 have hnn_ : ∀ (W_ : World), (Go.binOp .eql 29 (.pointer none) (.pointer none)).run Try.prog W_ = .ok (.bool true) W_ := fun _ => by kernel_rfl
 obtain rfl := Option.some.inj h
 go_enter Try.func11, Try.ntmps11
 go_wp2
 go_ret
 exact ⟨rfl, by repeat (first | exact Below.refl _ _ | apply below_alloc)⟩
def flywheelkeep_Mod64.f (a0 : Int) (a1 : Int) : Option (Int) := if a1 < 1 then (some 0) else (if a1 = 0 then (none) else (some (Int.tmod (wrap64 ((Int.tmod a0 a1) + a1)) a1)))
set_option maxHeartbeats 8000000 in
set_option maxRecDepth 100000 in
theorem flywheelkeep_Mod64.calls (a0 : Int) (a1 : Int) (r : Int) (w : World) (h : flywheelkeep_Mod64.f a0 a1 = some r) :
  Calls Try.prog 12 #[.int .i64 a0, .int .i64 a1] w fun e w' => e = .returned (.int .i64 r) ∧ Drawn0 w w' := by
 have H : (if a1 < 1 then (some 0) else (if a1 = 0 then (none) else (some (Int.tmod (wrap64 ((Int.tmod a0 a1) + a1)) a1)))) = some r := h
 clear h
 by_cases c3 : a1 < 1
 ·rw [if_pos c3] at H
  have c3b0 : decide (a1 < 1) = true := decide_eq_true c3
  clear c3
  obtain rfl := Option.some.inj H
  go_enter Try.func12, Try.ntmps12
  go_wp2
  go_ret
  exact ⟨by first | rfl | (simp; done) | (simp [*]; done), by repeat (first | exact Drawn0.refl _ | apply Drawn0.step)⟩
 ·rw [if_neg c3] at H
  have c3b0 : decide (a1 < 1) = false := decide_eq_false c3
  clear c3
  by_cases c4 : a1 = 0
  ·rw [if_pos c4] at H
   exact absurd H (by simp)
  ·rw [if_neg c4] at H
   have c4b0 : (a1 == 0) = false := beq_eq_false_iff_ne.mpr c4
   have c4b1 : (a1 != 0) = true := bne_iff_ne.mpr c4
   obtain rfl := Option.some.inj H
   go_enter Try.func12, Try.ntmps12
   go_wp2
   go_ret
   exact ⟨by first | rfl | (simp; done) | (simp [*]; done), by repeat (first | exact Drawn0.refl _ | apply Drawn0.step)⟩
def guard_Guard_Brakes.f (s0_0 : Int) (s0_1 : Int) (s0_2 : Int) (s0_3 : Int) (s0_4 : Int) (s0_5 : Int) (s0_6 : Int) (s0_7 : Int) (s0_8 : Int) (s0_9 : Int) (s0_10 : Int) (s0_11 : List (S85)) (s0_12 : Int) (s0_13 : Int) (s0_14 : Int) (s0_15 : Int) (s0_16 : Bool) (s0_17 : Bool) : Option (Bool × Int × Int × Int × Int × Int × Int × Int × Int × Int × Int × Int × Int × Int × Int × Int × Bool × Bool) := some (s0_17, s0_0, s0_1, s0_2, s0_3, s0_4, s0_5, s0_6, s0_7, s0_8, s0_9, s0_10, s0_12, s0_13, s0_14, s0_15, s0_16, s0_17)
set_option maxHeartbeats 8000000 in
set_option maxRecDepth 100000 in
theorem guard_Guard_Brakes.calls (g : Nat) (s0_0 : Int) (s0_1 : Int) (s0_2 : Int) (s0_3 : Int) (s0_4 : Int) (s0_5 : Int) (s0_6 : Int) (s0_7 : Int) (s0_8 : Int) (s0_9 : Int) (s0_10 : Int) (s0_11 : List (S85)) (s0_12 : Int) (s0_13 : Int) (s0_14 : Int) (s0_15 : Int) (s0_16 : Bool) (s0_17 : Bool) (r1 : Bool) (r2 : Int) (r3 : Int) (r4 : Int) (r5 : Int) (r6 : Int) (r7 : Int) (r8 : Int) (r9 : Int) (r10 : Int) (r11 : Int) (r12 : Int) (r13 : Int) (r14 : Int) (r15 : Int) (r16 : Int) (r17 : Bool) (r18 : Bool) (w0 w : World) (hI : IsS48 w0 w g s0_0 s0_1 s0_2 s0_3 s0_4 s0_5 s0_6 s0_7 s0_8 s0_9 s0_10 s0_11 s0_12 s0_13 s0_14 s0_15 s0_16 s0_17) (hB : Below w0.heap.size w0 w) (h : guard_Guard_Brakes.f s0_0 s0_1 s0_2 s0_3 s0_4 s0_5 s0_6 s0_7 s0_8 s0_9 s0_10 s0_11 s0_12 s0_13 s0_14 s0_15 s0_16 s0_17 = some (r1, r2, r3, r4, r5, r6, r7, r8, r9, r10, r11, r12, r13, r14, r15, r16, r17, r18)) :
  Calls Try.prog 13 #[.pointer (some ⟨g, 0, none⟩)] w fun e w' => e = .returned (.bool r1) ∧ IsS48 w0 w' g r2 r3 r4 r5 r6 r7 r8 r9 r10 r11 r12 s0_11 r13 r14 r15 r16 r17 r18 ∧ Below w0.heap.size w0 w' ∧ KeepBut w w' g none := by
 have hpn29_neq : ∀ (a_ : Addr) (W_ : World), (Go.binOp .neq 29 (.pointer (some a_)) (.pointer none)).run Try.prog W_ = .ok (.bool true) W_ := fun _ _ => by kernel_rfl
 have hnn29_neq : ∀ (W_ : World), (Go.binOp .neq 29 (.pointer none) (.pointer none)).run Try.prog W_ = .ok (.bool false) W_ := fun _ => by kernel_rfl
 have HI0 := Aside0.mk hI
 have HK := Aside0.mk (KeepBut.refl w g none)
 have HL := Aside0.mk hB.size
 clear hI
 have HW0 := Aside0.mk hB.size
 have HB := Aside0.mk hB
 clear hB
 have H : (some (s0_17, s0_0, s0_1, s0_2, s0_3, s0_4, s0_5, s0_6, s0_7, s0_8, s0_9, s0_10, s0_12, s0_13, s0_14, s0_15, s0_16, s0_17)) = some (r1, r2, r3, r4, r5, r6, r7, r8, r9, r10, r11, r12, r13, r14, r15, r16, r17, r18) := h
 clear h
 simp only [Option.some.injEq, Prod.mk.injEq] at H
 obtain ⟨rfl, rfl, rfl, rfl, rfl, rfl, rfl, rfl, rfl, rfl, rfl, rfl, rfl, rfl, rfl, rfl, rfl, rfl⟩ := H
 obtain ⟨ASz2_11, cSz2_11, HGz2, hgz2, HSz2_11⟩ := HI0.out
 have hcz2_0 := cellS48_0 HGz2
 have hcz2_1 := cellS48_1 HGz2
 have hcz2_2 := cellS48_2 HGz2
 have hcz2_3 := cellS48_3 HGz2
 have hcz2_4 := cellS48_4 HGz2
 have hcz2_5 := cellS48_5 HGz2
 have hcz2_6 := cellS48_6 HGz2
 have hcz2_7 := cellS48_7 HGz2
 have hcz2_8 := cellS48_8 HGz2
 have hcz2_9 := cellS48_9 HGz2
 have hcz2_10 := cellS48_10 HGz2
 have hcz2_11 := cellS48_11 HGz2
 have hcz2_12 := cellS48_12 HGz2
 have hcz2_13 := cellS48_13 HGz2
 have hcz2_14 := cellS48_14 HGz2
 have hcz2_15 := cellS48_15 HGz2
 have hcz2_16 := cellS48_16 HGz2
 have hcz2_17 := cellS48_17 HGz2
 have hfz2_0 := blk_frozen HGz2 0
 have hfz2_1 := blk_frozen HGz2 1
 have hfz2_2 := blk_frozen HGz2 2
 have hfz2_3 := blk_frozen HGz2 3
 have hfz2_4 := blk_frozen HGz2 4
 have hfz2_5 := blk_frozen HGz2 5
 have hfz2_6 := blk_frozen HGz2 6
 have hfz2_7 := blk_frozen HGz2 7
 have hfz2_8 := blk_frozen HGz2 8
 have hfz2_9 := blk_frozen HGz2 9
 have hfz2_10 := blk_frozen HGz2 10
 have hfz2_12 := blk_frozen HGz2 12
 have hfz2_13 := blk_frozen HGz2 13
 have hfz2_14 := blk_frozen HGz2 14
 have hfz2_15 := blk_frozen HGz2 15
 have hfz2_16 := blk_frozen HGz2 16
 have hfz2_17 := blk_frozen HGz2 17
 clear HGz2 hgz2
 go_enter Try.func13, Try.ntmps13
 go_wp2
 go_ret
 exact ⟨by first | rfl | (simp [errW_none, errW_some] <;> rfl) | (simp [*, errW_none, errW_some] <;> rfl), by repeat (first | (with_reducible first | exact HI0.out | apply IsS48.alloc | apply IsS48.drewN | apply IsS48.drew | apply IsS48.set_0 | apply IsS48.set_1 | apply IsS48.set_2 | apply IsS48.set_3 | apply IsS48.set_4 | apply IsS48.set_5 | apply IsS48.set_6 | apply IsS48.set_7 | apply IsS48.set_8 | apply IsS48.set_9 | apply IsS48.set_10 | apply IsS48.set_12 | apply IsS48.set_13 | apply IsS48.set_14 | apply IsS48.set_15 | apply IsS48.set_16 | apply IsS48.set_17) | exact HI0.out), by repeat (first | (with_reducible first | exact HB.out | apply below_alloc | apply pw_below_drewN | apply below_drew1 | refine below_set ?_ (IsS48.ge HI0.out)) | exact HB.out), by repeat (first | (with_reducible first | exact HK.out | apply KeepBut.set_ | apply keep_drewN | apply keep_drew | apply keep_alloc) | exact HK.out)⟩
def guard_Guard_Brakes.nilrecv.f  : Option (Bool) := some false
set_option maxHeartbeats 8000000 in
set_option maxRecDepth 100000 in
theorem guard_Guard_Brakes.nilrecv.calls  (r : Bool) (w : World) (h : guard_Guard_Brakes.nilrecv.f  = some r) :
  Calls Try.prog 13 #[.pointer none] w fun e w' => e = .returned (.bool r) ∧ Drawn0 w w' := by
 have hpn29_neq : ∀ (a_ : Addr) (W_ : World), (Go.binOp .neq 29 (.pointer (some a_)) (.pointer none)).run Try.prog W_ = .ok (.bool true) W_ := fun _ _ => by kernel_rfl
 have hnn29_neq : ∀ (W_ : World), (Go.binOp .neq 29 (.pointer none) (.pointer none)).run Try.prog W_ = .ok (.bool false) W_ := fun _ => by kernel_rfl
 have H : (some false) = some r := h
 clear h
 obtain rfl := Option.some.inj H
 go_enter Try.func13, Try.ntmps13
 go_wp2
 go_ret
 exact ⟨by first | rfl | (simp; done) | (simp [*]; done), by repeat (first | exact Drawn0.refl _ | apply Drawn0.step)⟩
end Go.Proofs.Ytkfkbebpcmmnfaa.P
end

section
namespace Go.Proofs.Ytkfkbebpcmmnfaa.P
open Go.RowKit Go.Proofs.YtkfkbebpcmmnfaaW.PrintWords Go.Proofs.YtkfkbebpcmmnfaaW.PrintLast Go.Proofs.YtkfkbebpcmmnfaaW.PrintMore
attribute [local go_sem] max2_int min2_int max_two min_two max_three min_three max_four min_four   -- for this text's walks alone
set_option linter.unusedVariables false
set_option linter.unusedSimpArgs false
def guard_Guard_Tick.f (s0_0 : Int) (s0_1 : Int) (s0_2 : Int) (s0_3 : Int) (s0_4 : Int) (s0_5 : Int) (s0_6 : Int) (s0_7 : Int) (s0_8 : Int) (s0_9 : Int) (s0_10 : Int) (s0_11 : List (S85)) (s0_12 : Int) (s0_13 : Int) (s0_14 : Int) (s0_15 : Int) (s0_16 : Bool) (s0_17 : Bool) (a1 : Int) : Option (Int × Int × Int × Int × Int × Int × Int × Int × Int × Int × Int × Int × Int × Int × Int × Int × Bool × Bool) := (sat_Clamp.f a1 0 1125899906842624).bind fun t121 => (if (wrap64 (t121 - s0_14)) > s0_7 then (if s0_16 = true then (if (wrap64 (t121 - s0_15)) > s0_7 then ((muldiv_Do.f s0_13 1 2 1).bind fun t122 => (some (mx t122 s0_1, s0_0, s0_1, s0_2, s0_3, s0_4, s0_5, s0_6, s0_7, s0_8, s0_9, s0_10, s0_12, mx t122 s0_1, s0_14, t121, true, s0_17))) else (some (s0_13, s0_0, s0_1, s0_2, s0_3, s0_4, s0_5, s0_6, s0_7, s0_8, s0_9, s0_10, s0_12, s0_13, s0_14, s0_15, s0_16, s0_17))) else ((muldiv_Do.f s0_13 1 2 1).bind fun t123 => (some (mx t123 s0_1, s0_0, s0_1, s0_2, s0_3, s0_4, s0_5, s0_6, s0_7, s0_8, s0_9, s0_10, s0_12, mx t123 s0_1, s0_14, t121, true, s0_17)))) else (some (s0_13, s0_0, s0_1, s0_2, s0_3, s0_4, s0_5, s0_6, s0_7, s0_8, s0_9, s0_10, s0_12, s0_13, s0_14, s0_15, s0_16, s0_17)))
def guard_Guard_Tick.T4 : Bool × List (List Nat × List Nat) := (true, [([], []), ([], []), ([1], [1]), ([2], [2]), ([3], [3]), ([0, 4], [0, 4]), ([], []), ([6], [6]), ([7], [7]), ([8], [8]), ([9], [9]), ([5, 10], [5, 10]), ([11], [11]), ([12], [12]), ([13, 12], [12, 13]), ([14, 12], [12, 14]), ([15, 12], [12, 15]), ([16, 12], [12, 16]), ([17, 12, 12], [12, 17]), ([18], [18]), ([18], [18]), ([20, 18], [18, 20]), ([21, 18], [18, 21]), ([22, 18], [18, 22]), ([19, 23, 18], [18, 19, 23]), ([18], [18]), ([25, 18], [18, 25]), ([26, 18], [18, 26]), ([27, 18], [18, 27]), ([28, 18], [18, 28]), ([24, 29, 18], [18, 24, 29]), ([18, 30, 12], [12, 18, 30]), ([12, 31], [12, 31])])
def guard_Guard_Tick.B4 : List Nat := [0, 0, 2, 6, 14, 31, 0, 64, 192, 448, 960, 2047, 4095, 8191, 16383, 32767, 65535, 131071, 262143, 524287, 524287, 1572863, 3670015, 7864319, 16777215, 524287, 34078719, 101187583, 235405311, 503840767, 1073741823, 2147483647, 4294967295]
theorem guard_Guard_Tick.tab4 : rtab .any (opsOf Try.f17 4) = guard_Guard_Tick.T4 := by kernel_rfl
theorem guard_Guard_Tick.bits4 : waitsOk guard_Guard_Tick.T4.2 guard_Guard_Tick.B4 = true := by kernel_rfl
def guard_Guard_Tick.T5 : Bool × List (List Nat × List Nat) := (true, [([], []), ([], []), ([1], [1]), ([2], [2]), ([3], [3]), ([4], [4]), ([], []), ([6], [6]), ([7], [7]), ([8], [8]), ([9], [9]), ([5, 10], [5, 10]), ([0, 0, 1, 2, 3, 4, 5, 6, 7, 8, 9, 10, 11], [0]), ([12, 0, 1, 2, 3, 4, 5, 6, 7, 8, 9, 10, 11], [12]), ([13, 11, 5, 0, 1, 2, 3, 4, 5, 6, 7, 8, 9, 10, 11], [11, 13])])
def guard_Guard_Tick.B5 : List Nat := [0, 0, 2, 6, 14, 30, 0, 64, 192, 448, 960, 2046, 4095, 8191, 16383]
theorem guard_Guard_Tick.tab5 : rtab .any (opsOf Try.f17 5) = guard_Guard_Tick.T5 := by kernel_rfl
theorem guard_Guard_Tick.bits5 : waitsOk guard_Guard_Tick.T5.2 guard_Guard_Tick.B5 = true := by kernel_rfl
set_option maxHeartbeats 8000000 in
set_option maxRecDepth 100000 in
theorem guard_Guard_Tick.calls (g : Nat) (s0_0 : Int) (s0_1 : Int) (s0_2 : Int) (s0_3 : Int) (s0_4 : Int) (s0_5 : Int) (s0_6 : Int) (s0_7 : Int) (s0_8 : Int) (s0_9 : Int) (s0_10 : Int) (s0_11 : List (S85)) (s0_12 : Int) (s0_13 : Int) (s0_14 : Int) (s0_15 : Int) (s0_16 : Bool) (s0_17 : Bool) (a1 : Int) (r1 : Int) (r2 : Int) (r3 : Int) (r4 : Int) (r5 : Int) (r6 : Int) (r7 : Int) (r8 : Int) (r9 : Int) (r10 : Int) (r11 : Int) (r12 : Int) (r13 : Int) (r14 : Int) (r15 : Int) (r16 : Int) (r17 : Bool) (r18 : Bool) (w0 w : World) (hI : IsS48 w0 w g s0_0 s0_1 s0_2 s0_3 s0_4 s0_5 s0_6 s0_7 s0_8 s0_9 s0_10 s0_11 s0_12 s0_13 s0_14 s0_15 s0_16 s0_17) (hB : Below w0.heap.size w0 w) (h : guard_Guard_Tick.f s0_0 s0_1 s0_2 s0_3 s0_4 s0_5 s0_6 s0_7 s0_8 s0_9 s0_10 s0_11 s0_12 s0_13 s0_14 s0_15 s0_16 s0_17 a1 = some (r1, r2, r3, r4, r5, r6, r7, r8, r9, r10, r11, r12, r13, r14, r15, r16, r17, r18)) :
  Calls Try.prog 17 #[.pointer (some ⟨g, 0, none⟩), .int .i64 a1] w fun e w' => e = .returned (.int .i64 r1) ∧ IsS48 w0 w' g r2 r3 r4 r5 r6 r7 r8 r9 r10 r11 r12 s0_11 r13 r14 r15 r16 r17 r18 ∧ Below w0.heap.size w0 w' ∧ KeepBut w w' g none := by
 have hpn29_eql : ∀ (a_ : Addr) (W_ : World), (Go.binOp .eql 29 (.pointer (some a_)) (.pointer none)).run Try.prog W_ = .ok (.bool false) W_ := fun _ _ => by kernel_rfl
 have hnn29_eql : ∀ (W_ : World), (Go.binOp .eql 29 (.pointer none) (.pointer none)).run Try.prog W_ = .ok (.bool true) W_ := fun _ => by kernel_rfl
 have HI0 := Aside0.mk hI
 have HK := Aside0.mk (KeepBut.refl w g none)
 have HL := Aside0.mk hB.size
 clear hI
 have HW0 := Aside0.mk hB.size
 have HB := Aside0.mk hB
 clear hB
 have H : ((sat_Clamp.f a1 0 1125899906842624).bind fun t121 => (if (wrap64 (t121 - s0_14)) > s0_7 then (if s0_16 = true then (if (wrap64 (t121 - s0_15)) > s0_7 then ((muldiv_Do.f s0_13 1 2 1).bind fun t122 => (some (mx t122 s0_1, s0_0, s0_1, s0_2, s0_3, s0_4, s0_5, s0_6, s0_7, s0_8, s0_9, s0_10, s0_12, mx t122 s0_1, s0_14, t121, true, s0_17))) else (some (s0_13, s0_0, s0_1, s0_2, s0_3, s0_4, s0_5, s0_6, s0_7, s0_8, s0_9, s0_10, s0_12, s0_13, s0_14, s0_15, s0_16, s0_17))) else ((muldiv_Do.f s0_13 1 2 1).bind fun t123 => (some (mx t123 s0_1, s0_0, s0_1, s0_2, s0_3, s0_4, s0_5, s0_6, s0_7, s0_8, s0_9, s0_10, s0_12, mx t123 s0_1, s0_14, t121, true, s0_17)))) else (some (s0_13, s0_0, s0_1, s0_2, s0_3, s0_4, s0_5, s0_6, s0_7, s0_8, s0_9, s0_10, s0_12, s0_13, s0_14, s0_15, s0_16, s0_17)))) = some (r1, r2, r3, r4, r5, r6, r7, r8, r9, r10, r11, r12, r13, r14, r15, r16, r17, r18) := h
 clear h
 replace H := Option.bind_eq_some_iff.mp H
 obtain ⟨t121, A30, H⟩ := H
 replace H : (if (wrap64 (t121 - s0_14)) > s0_7 then (if s0_16 = true then (if (wrap64 (t121 - s0_15)) > s0_7 then ((muldiv_Do.f s0_13 1 2 1).bind fun t122 => (some (mx t122 s0_1, s0_0, s0_1, s0_2, s0_3, s0_4, s0_5, s0_6, s0_7, s0_8, s0_9, s0_10, s0_12, mx t122 s0_1, s0_14, t121, true, s0_17))) else (some (s0_13, s0_0, s0_1, s0_2, s0_3, s0_4, s0_5, s0_6, s0_7, s0_8, s0_9, s0_10, s0_12, s0_13, s0_14, s0_15, s0_16, s0_17))) else ((muldiv_Do.f s0_13 1 2 1).bind fun t123 => (some (mx t123 s0_1, s0_0, s0_1, s0_2, s0_3, s0_4, s0_5, s0_6, s0_7, s0_8, s0_9, s0_10, s0_12, mx t123 s0_1, s0_14, t121, true, s0_17)))) else (some (s0_13, s0_0, s0_1, s0_2, s0_3, s0_4, s0_5, s0_6, s0_7, s0_8, s0_9, s0_10, s0_12, s0_13, s0_14, s0_15, s0_16, s0_17))) = some (r1, r2, r3, r4, r5, r6, r7, r8, r9, r10, r11, r12, r13, r14, r15, r16, r17, r18) := H
 have A3 := Aside0.mk A30
 clear A30
 by_cases c4 : (wrap64 (t121 - s0_14)) > s0_7
 ·rw [if_pos c4] at H
  have c4b0 : decide (s0_7 < (wrap64 (t121 - s0_14))) = true := decide_eq_true c4
  clear c4
  by_cases c5 : s0_16 = true
  ·subst c5
   have H1 : (if (wrap64 (t121 - s0_15)) > s0_7 then ((muldiv_Do.f s0_13 1 2 1).bind fun t122 => (some (mx t122 s0_1, s0_0, s0_1, s0_2, s0_3, s0_4, s0_5, s0_6, s0_7, s0_8, s0_9, s0_10, s0_12, mx t122 s0_1, s0_14, t121, true, s0_17))) else (some (s0_13, s0_0, s0_1, s0_2, s0_3, s0_4, s0_5, s0_6, s0_7, s0_8, s0_9, s0_10, s0_12, s0_13, s0_14, s0_15, true, s0_17))) = some (r1, r2, r3, r4, r5, r6, r7, r8, r9, r10, r11, r12, r13, r14, r15, r16, r17, r18) := by rw [if_pos rfl] at H; exact H
   clear H
   have H := H1
   clear H1
   by_cases c6 : (wrap64 (t121 - s0_15)) > s0_7
   ·rw [if_pos c6] at H
    have c6b0 : decide (s0_7 < (wrap64 (t121 - s0_15))) = true := decide_eq_true c6
    clear c6
    replace H := Option.bind_eq_some_iff.mp H
    obtain ⟨t122, A70, H⟩ := H
    replace H : (some (mx t122 s0_1, s0_0, s0_1, s0_2, s0_3, s0_4, s0_5, s0_6, s0_7, s0_8, s0_9, s0_10, s0_12, mx t122 s0_1, s0_14, t121, true, s0_17)) = some (r1, r2, r3, r4, r5, r6, r7, r8, r9, r10, r11, r12, r13, r14, r15, r16, r17, r18) := H
    have A7 := Aside0.mk A70
    clear A70
    obtain ⟨ji8, hji8⟩ : ∃ j_ : Int, (mx t122 s0_1) = j_ := ⟨_, rfl⟩
    replace H : (some (ji8, s0_0, s0_1, s0_2, s0_3, s0_4, s0_5, s0_6, s0_7, s0_8, s0_9, s0_10, s0_12, ji8, s0_14, t121, true, s0_17)) = some (r1, r2, r3, r4, r5, r6, r7, r8, r9, r10, r11, r12, r13, r14, r15, r16, r17, r18) := by first | (rw [hji8] at H; exact H) | (simp only [hji8] at H ⊢; exact H)
    (try rw [hji8] at A3)
    (try rw [hji8] at A7)
    have hji8_ : (if t122 < s0_1 then s0_1 else t122) = ji8 := hji8
    simp only [Option.some.injEq, Prod.mk.injEq] at H
    obtain ⟨rfl, rfl, rfl, rfl, rfl, rfl, rfl, rfl, rfl, rfl, rfl, rfl, rfl, rfl, rfl, rfl, rfl, rfl⟩ := H
    go_enter Try.func17, Try.ntmps17
    try go_wp2_with (first | ((with_reducible refine gate_callee (f := 19) rfl ?_); refine goesL_ (some 8) rfl rfl Try.func19 (by kernel_rfl) rfl #[.int .i64 a1, .int .i64 0, .int .i64 1125899906842624] rfl (by (try simp only [List.map_toArray, List.map_cons, List.map_nil]); first | done | rfl | (simp only [List.length_drop, List.length_take]; rfl)) ?_; (with_reducible refine (sat_Clamp.calls a1 0 1125899906842624 t121 _ A3.out).mono ?_); rintro e w' ⟨rfl, ⟨nd, rfl⟩⟩; refine ⟨_, rfl, ?_⟩; (generalize hq_ : World.drewN w _ = w9; have n0_ : Aside0 (IsS48 w0 w9 g s0_0 s0_1 s0_2 s0_3 s0_4 s0_5 s0_6 s0_7 s0_8 s0_9 s0_10 s0_11 s0_12 s0_13 s0_14 s0_15 true s0_17) := ⟨by rw [← hq_]; exact (by repeat (first | (with_reducible first | exact HI0.out | apply IsS48.alloc | apply IsS48.drewN | apply IsS48.drew | apply IsS48.set_0 | apply IsS48.set_1 | apply IsS48.set_2 | apply IsS48.set_3 | apply IsS48.set_4 | apply IsS48.set_5 | apply IsS48.set_6 | apply IsS48.set_7 | apply IsS48.set_8 | apply IsS48.set_9 | apply IsS48.set_10 | apply IsS48.set_12 | apply IsS48.set_13 | apply IsS48.set_14 | apply IsS48.set_15 | apply IsS48.set_16 | apply IsS48.set_17) | exact HI0.out))⟩; have n1_ : Aside0 (KeepBut w w9 g none) := ⟨by rw [← hq_]; exact (by repeat (first | (with_reducible first | exact HK.out | apply KeepBut.set_ | apply keep_drewN | apply keep_drew | apply keep_alloc) | exact HK.out))⟩; have n2_ : Aside0 (Below w0.heap.size w0 w9) := ⟨by rw [← hq_]; exact (by repeat (first | (with_reducible first | exact HB.out | apply below_alloc | apply pw_below_drewN | apply below_drew1 | refine below_set ?_ (IsS48.ge HI0.out)) | exact HB.out))⟩; clear HI0 HK HB hq_; have HI0 := n0_; have HK := n1_; have HB := n2_; clear n0_ n1_ n2_)))
    have n0_ := Aside0.mk (IsS48.drew HI0.out)
    have n1_ := Aside0.mk (keep_drew HK.out)
    have n2_ := Aside0.mk (below_drew1 HB.out)
    clear HI0
    clear HK
    clear HB
    have HI0 := n0_
    have HK := n1_
    have HB := n2_
    clear n0_ n1_ n2_
    refine start_ (n := 33) (S := fun w' => w'.cell? ⟨g, 0, none⟩ = some (.int .i64 s0_0) ∧ w'.cell? ⟨g, 1, none⟩ = some (.int .i64 s0_1) ∧ w'.cell? ⟨g, 2, none⟩ = some (.int .i64 s0_2) ∧ w'.cell? ⟨g, 3, none⟩ = some (.int .i64 s0_3) ∧ w'.cell? ⟨g, 4, none⟩ = some (.int .i64 s0_4) ∧ w'.cell? ⟨g, 5, none⟩ = some (.int .i64 s0_5) ∧ w'.cell? ⟨g, 6, none⟩ = some (.int .i64 s0_6) ∧ w'.cell? ⟨g, 7, none⟩ = some (.int .i64 s0_7) ∧ w'.cell? ⟨g, 8, none⟩ = some (.int .i64 s0_8) ∧ w'.cell? ⟨g, 9, none⟩ = some (.int .i64 s0_9) ∧ w'.cell? ⟨g, 10, none⟩ = some (.int .i64 s0_10) ∧ w'.cell? ⟨g, 12, none⟩ = some (.int .i64 s0_12) ∧ w'.cell? ⟨g, 13, none⟩ = some (.int .i64 s0_13) ∧ w'.cell? ⟨g, 14, none⟩ = some (.int .i64 s0_14) ∧ w'.cell? ⟨g, 15, none⟩ = some (.int .i64 s0_15) ∧ w'.cell? ⟨g, 16, none⟩ = some (.bool true) ∧ w'.cell? ⟨g, 17, none⟩ = some (.bool s0_17)) (ds := []) #[false, false, false, false, false, false, false, false, false, false, false, false, false, false, false, false, false, false, false, false, false, false, false, false, false, false, false, false, false, false, false, false, false] (by kernel_rfl) rfl rfl ⟨(IsS48.cell_0 HI0.out), (IsS48.cell_1 HI0.out), (IsS48.cell_2 HI0.out), (IsS48.cell_3 HI0.out), (IsS48.cell_4 HI0.out), (IsS48.cell_5 HI0.out), (IsS48.cell_6 HI0.out), (IsS48.cell_7 HI0.out), (IsS48.cell_8 HI0.out), (IsS48.cell_9 HI0.out), (IsS48.cell_10 HI0.out), (IsS48.cell_12 HI0.out), (IsS48.cell_13 HI0.out), (IsS48.cell_14 HI0.out), (IsS48.cell_15 HI0.out), (IsS48.cell_16 HI0.out), (IsS48.cell_17 HI0.out)⟩ (fun hHeld => ?_); refine with_tabW guard_Guard_Tick.tab4 guard_Guard_Tick.bits4 (fun HT_ HW_ => ?_)
    generalize w9.drew = w10 at HI0 HK HB hHeld ⊢
    refine pure_ (i := 0) (N := some 9) (v := ?_) (a' := ?_) #[true, false, false, false, false, false, false, false, false, false, false, false, false, false, false, false, false, false, false, false, false, false, false, false, false, false, false, false, false, false, false, false, false] rfl rfl (any_of HT_.out (by kernel_rfl)) (fun _ _ _ h => h) (Or.inl ⟨by rfl, ?_⟩) ?_ ?_
    rotate_left
    ·intro w'
     go_simp
     with_reducible rfl
    rotate_left
    ·simp only [Act.put, List.setIfInBounds_toArray, List.set_cons_zero, List.set_cons_succ, i64_w, i32_w]
     rfl
    refine pure_ (i := 1) (N := some 10) (v := ?_) (a' := ?_) #[true, true, false, false, false, false, false, false, false, false, false, false, false, false, false, false, false, false, false, false, false, false, false, false, false, false, false, false, false, false, false, false, false] rfl rfl (any_of HT_.out (by kernel_rfl)) (fun _ _ _ h => h) (Or.inl ⟨by rfl, ?_⟩) ?_ ?_
    rotate_left
    ·intro w'
     go_simp
     with_reducible rfl
    rotate_left
    ·simp only [Act.put, List.setIfInBounds_toArray, List.set_cons_zero, List.set_cons_succ, i64_w, i32_w]
     rfl
    refine pure_ (i := 2) (N := some 11) (v := ?_) (a' := ?_) #[true, true, true, false, false, false, false, false, false, false, false, false, false, false, false, false, false, false, false, false, false, false, false, false, false, false, false, false, false, false, false, false, false] rfl rfl (any_of HT_.out (by kernel_rfl)) (fun _ _ _ h => h) (Or.inl ⟨by rfl, ?_⟩) ?_ ?_
    rotate_left
    ·intro w'
     go_simp
     with_reducible rfl
    rotate_left
    ·simp only [Act.put, List.setIfInBounds_toArray, List.set_cons_zero, List.set_cons_succ, i64_w, i32_w]
     rfl
    refine pure_ (i := 3) (N := some 12) (v := ?_) (a' := ?_) #[true, true, true, true, false, false, false, false, false, false, false, false, false, false, false, false, false, false, false, false, false, false, false, false, false, false, false, false, false, false, false, false, false] rfl rfl (any_of HT_.out (by kernel_rfl)) (fun _ _ _ h => h) (Or.inl ⟨by rfl, ?_⟩) ?_ ?_
    rotate_left
    ·intro w'
     go_simp
     with_reducible rfl
    rotate_left
    ·simp only [Act.put, List.setIfInBounds_toArray, List.set_cons_zero, List.set_cons_succ, i64_w, i32_w]
     rfl
    refine pure_ (i := 6) (N := some 15) (v := ?_) (a' := ?_) #[true, true, true, true, false, false, true, false, false, false, false, false, false, false, false, false, false, false, false, false, false, false, false, false, false, false, false, false, false, false, false, false, false] rfl rfl (any_of HT_.out (by kernel_rfl)) (fun _ _ _ h => h) (Or.inl ⟨by rfl, ?_⟩) ?_ ?_
    rotate_left
    ·intro w'
     go_simp
     with_reducible rfl
    rotate_left
    ·simp only [Act.put, List.setIfInBounds_toArray, List.set_cons_zero, List.set_cons_succ, i64_w, i32_w]
     rfl
    refine pure_ (i := 7) (N := some 16) (v := ?_) (a' := ?_) #[true, true, true, true, false, false, true, true, false, false, false, false, false, false, false, false, false, false, false, false, false, false, false, false, false, false, false, false, false, false, false, false, false] rfl rfl (any_of HT_.out (by kernel_rfl)) (fun _ _ _ h => h) (Or.inl ⟨by rfl, ?_⟩) ?_ ?_
    rotate_left
    ·intro w'
     go_simp
     with_reducible rfl
    rotate_left
    ·simp only [Act.put, List.setIfInBounds_toArray, List.set_cons_zero, List.set_cons_succ, i64_w, i32_w]
     rfl
    refine pure_ (i := 8) (N := some 17) (v := ?_) (a' := ?_) #[true, true, true, true, false, false, true, true, true, false, false, false, false, false, false, false, false, false, false, false, false, false, false, false, false, false, false, false, false, false, false, false, false] rfl rfl (any_of HT_.out (by kernel_rfl)) (fun _ _ _ h => h) (Or.inl ⟨by rfl, ?_⟩) ?_ ?_
    rotate_left
    ·intro w'
     go_simp
     with_reducible rfl
    rotate_left
    ·simp only [Act.put, List.setIfInBounds_toArray, List.set_cons_zero, List.set_cons_succ, i64_w, i32_w]
     rfl
    refine pure_ (i := 9) (N := some 18) (v := ?_) (a' := ?_) #[true, true, true, true, false, false, true, true, true, true, false, false, false, false, false, false, false, false, false, false, false, false, false, false, false, false, false, false, false, false, false, false, false] rfl rfl (any_of HT_.out (by kernel_rfl)) (fun _ _ _ h => h) (Or.inl ⟨by rfl, ?_⟩) ?_ ?_
    rotate_left
    ·intro w'
     go_simp
     with_reducible rfl
    rotate_left
    ·simp only [Act.put, List.setIfInBounds_toArray, List.set_cons_zero, List.set_cons_succ, i64_w, i32_w]
     rfl
    refine take_ (i := 4) (N := some 13) (v := ?_) (a' := ?_) #[true, true, true, true, true, false, true, true, true, true, false, false, false, false, false, false, false, false, false, false, false, false, false, false, false, false, false, false, false, false, false, false, false] rfl rfl (take_ofW HT_.out HW_.out (by kernel_rfl)) (fun _ _ _ h => h) (Or.inl ⟨by rfl, ?_⟩) hHeld ?_ ?_
    rotate_left
    ·rintro w' ⟨s0, s1, s2, s3, s4, s5, s6, s7, s8, s9, s10, s11, s12, s13, s14, s15, s16⟩
     go_simp
     with_reducible rfl
    rotate_left
    ·simp only [Act.put, List.setIfInBounds_toArray, List.set_cons_zero, List.set_cons_succ, i64_w, i32_w]
     rfl
    refine pure_ (i := 5) (N := some 14) (v := ?_) (a' := ?_) #[true, true, true, true, true, true, true, true, true, true, false, false, false, false, false, false, false, false, false, false, false, false, false, false, false, false, false, false, false, false, false, false, false] rfl rfl (any_of HT_.out (by kernel_rfl)) (fun _ _ _ h => h) (Or.inl ⟨by rfl, ?_⟩) ?_ ?_
    rotate_left
    ·intro w'
     go_simp
     with_reducible rfl
    rotate_left
    ·simp only [Act.put, List.setIfInBounds_toArray, List.set_cons_zero, List.set_cons_succ, i64_w, i32_w]
     rfl
    refine take_ (i := 10) (N := some 19) (v := ?_) (a' := ?_) #[true, true, true, true, true, true, true, true, true, true, true, false, false, false, false, false, false, false, false, false, false, false, false, false, false, false, false, false, false, false, false, false, false] rfl rfl (take_ofW HT_.out HW_.out (by kernel_rfl)) (fun _ _ _ h => h) (Or.inl ⟨by rfl, ?_⟩) hHeld ?_ ?_
    rotate_left
    ·rintro w' ⟨s0, s1, s2, s3, s4, s5, s6, s7, s8, s9, s10, s11, s12, s13, s14, s15, s16⟩
     go_simp
     with_reducible rfl
    rotate_left
    ·simp only [Act.put, List.setIfInBounds_toArray, List.set_cons_zero, List.set_cons_succ, i64_w, i32_w]
     rfl
    refine pure_ (i := 11) (N := some 20) (v := ?_) (a' := ?_) #[true, true, true, true, true, true, true, true, true, true, true, true, false, false, false, false, false, false, false, false, false, false, false, false, false, false, false, false, false, false, false, false, false] rfl rfl (any_of HT_.out (by kernel_rfl)) (fun _ _ _ h => h) (Or.inl ⟨by rfl, ?_⟩) ?_ ?_
    rotate_left
    ·intro w'
     go_simp
     with_reducible rfl
    rotate_left
    ·simp only [Act.put, List.setIfInBounds_toArray, List.set_cons_zero, List.set_cons_succ, i64_w, i32_w]
     rfl
    refine pure_ (i := 12) (N := some 21) (v := ?_) (a' := ?_) #[true, true, true, true, true, true, true, true, true, true, true, true, true, false, false, false, false, false, false, false, false, false, false, false, false, false, false, false, false, false, false, false, false] rfl rfl (any_of HT_.out (by kernel_rfl)) (fun _ _ _ h => h) (Or.inl ⟨by rfl, ?_⟩) ?_ ?_
    rotate_left
    ·intro w'
     go_simp
     with_reducible rfl
    rotate_left
    ·simp only [Act.put, List.setIfInBounds_toArray, List.set_cons_zero, List.set_cons_succ, i64_w, i32_w]
     rfl
    refine pure_ (i := 13) (N := some 22) (v := ?_) (a' := ?_) #[true, true, true, true, true, true, true, true, true, true, true, true, true, true, false, false, false, false, false, false, false, false, false, false, false, false, false, false, false, false, false, false, false] rfl rfl (any_of HT_.out (by kernel_rfl)) (fun _ _ _ h => h) (Or.inl ⟨by rfl, ?_⟩) ?_ ?_
    rotate_left
    ·intro w'
     go_simp
     with_reducible rfl
    rotate_left
    ·simp only [Act.put, List.setIfInBounds_toArray, List.set_cons_zero, List.set_cons_succ, i64_w, i32_w]
     rfl
    refine pure_ (i := 14) (N := some 23) (v := ?_) (a' := ?_) #[true, true, true, true, true, true, true, true, true, true, true, true, true, true, true, false, false, false, false, false, false, false, false, false, false, false, false, false, false, false, false, false, false] rfl rfl (any_of HT_.out (by kernel_rfl)) (fun _ _ _ h => h) (Or.inl ⟨by rfl, ?_⟩) ?_ ?_
    rotate_left
    ·intro w'
     go_simp
     with_reducible rfl
    rotate_left
    ·simp only [Act.put, List.setIfInBounds_toArray, List.set_cons_zero, List.set_cons_succ, i64_w, i32_w]
     rfl
    refine pure_ (i := 15) (N := some 24) (v := ?_) (a' := ?_) #[true, true, true, true, true, true, true, true, true, true, true, true, true, true, true, true, false, false, false, false, false, false, false, false, false, false, false, false, false, false, false, false, false] rfl rfl (any_of HT_.out (by kernel_rfl)) (fun _ _ _ h => h) (Or.inl ⟨by rfl, ?_⟩) ?_ ?_
    rotate_left
    ·intro w'
     go_simp
     with_reducible rfl
    rotate_left
    ·simp only [Act.put, List.setIfInBounds_toArray, List.set_cons_zero, List.set_cons_succ, i64_w, i32_w]
     rfl
    refine take_ (i := 16) (N := some 25) (v := ?_) (a' := ?_) #[true, true, true, true, true, true, true, true, true, true, true, true, true, true, true, true, true, false, false, false, false, false, false, false, false, false, false, false, false, false, false, false, false] rfl rfl (take_ofW HT_.out HW_.out (by kernel_rfl)) (fun _ _ _ h => h) (Or.inl ⟨by rfl, ?_⟩) hHeld ?_ ?_
    rotate_left
    ·rintro w' ⟨s0, s1, s2, s3, s4, s5, s6, s7, s8, s9, s10, s11, s12, s13, s14, s15, s16⟩
     go_simp
     with_reducible rfl
    rotate_left
    ·simp only [Act.put, List.setIfInBounds_toArray, List.set_cons_zero, List.set_cons_succ, i64_w, i32_w]
     rfl
    refine pure_ (i := 17) (N := some 26) (v := ?_) (a' := ?_) #[true, true, true, true, true, true, true, true, true, true, true, true, true, true, true, true, true, true, false, false, false, false, false, false, false, false, false, false, false, false, false, false, false] rfl rfl (any_of HT_.out (by kernel_rfl)) (fun _ _ _ h => h) (Or.inl ⟨by rfl, ?_⟩) ?_ ?_
    rotate_left
    ·intro w'
     go_simp
     with_reducible rfl
    rotate_left
    ·simp only [Act.put, List.setIfInBounds_toArray, List.set_cons_zero, List.set_cons_succ, i64_w, i32_w]
     rfl
    refine pure_ (i := 18) (N := some 27) (v := ?_) (a' := ?_) #[true, true, true, true, true, true, true, true, true, true, true, true, true, true, true, true, true, true, true, false, false, false, false, false, false, false, false, false, false, false, false, false, false] rfl rfl (any_of HT_.out (by kernel_rfl)) (fun _ _ _ h => h) (Or.inl ⟨by rfl, ?_⟩) ?_ ?_
    rotate_left
    ·intro w'
     go_simp
     with_reducible rfl
    rotate_left
    ·simp only [Act.put, List.setIfInBounds_toArray, List.set_cons_zero, List.set_cons_succ, i64_w, i32_w]
     rfl
    refine pure_ (i := 19) (N := some 28) (v := ?_) (a' := ?_) #[true, true, true, true, true, true, true, true, true, true, true, true, true, true, true, true, true, true, true, true, false, false, false, false, false, false, false, false, false, false, false, false, false] rfl rfl (any_of HT_.out (by kernel_rfl)) (fun _ _ _ h => h) (Or.inl ⟨by rfl, ?_⟩) ?_ ?_
    rotate_left
    ·intro w'
     go_simp
     with_reducible rfl
    rotate_left
    ·simp only [Act.put, List.setIfInBounds_toArray, List.set_cons_zero, List.set_cons_succ, i64_w, i32_w]
     rfl
    refine pure_ (i := 20) (N := some 29) (v := ?_) (a' := ?_) #[true, true, true, true, true, true, true, true, true, true, true, true, true, true, true, true, true, true, true, true, true, false, false, false, false, false, false, false, false, false, false, false, false] rfl rfl (any_of HT_.out (by kernel_rfl)) (fun _ _ _ h => h) (Or.inl ⟨by rfl, ?_⟩) ?_ ?_
    rotate_left
    ·intro w'
     go_simp
     with_reducible rfl
    rotate_left
    ·simp only [Act.put, List.setIfInBounds_toArray, List.set_cons_zero, List.set_cons_succ, i64_w, i32_w]
     rfl
    refine pure_ (i := 21) (N := some 30) (v := ?_) (a' := ?_) #[true, true, true, true, true, true, true, true, true, true, true, true, true, true, true, true, true, true, true, true, true, true, false, false, false, false, false, false, false, false, false, false, false] rfl rfl (any_of HT_.out (by kernel_rfl)) (fun _ _ _ h => h) (Or.inl ⟨by rfl, ?_⟩) ?_ ?_
    rotate_left
    ·intro w'
     go_simp
     with_reducible rfl
    rotate_left
    ·simp only [Act.put, List.setIfInBounds_toArray, List.set_cons_zero, List.set_cons_succ, i64_w, i32_w]
     rfl
    refine pure_ (i := 22) (N := some 31) (v := ?_) (a' := ?_) #[true, true, true, true, true, true, true, true, true, true, true, true, true, true, true, true, true, true, true, true, true, true, true, false, false, false, false, false, false, false, false, false, false] rfl rfl (any_of HT_.out (by kernel_rfl)) (fun _ _ _ h => h) (Or.inl ⟨by rfl, ?_⟩) ?_ ?_
    rotate_left
    ·intro w'
     go_simp
     with_reducible rfl
    rotate_left
    ·simp only [Act.put, List.setIfInBounds_toArray, List.set_cons_zero, List.set_cons_succ, i64_w, i32_w]
     rfl
    refine pure_ (i := 25) (N := some 34) (v := ?_) (a' := ?_) #[true, true, true, true, true, true, true, true, true, true, true, true, true, true, true, true, true, true, true, true, true, true, true, false, false, true, false, false, false, false, false, false, false] rfl rfl (any_of HT_.out (by kernel_rfl)) (fun _ _ _ h => h) (Or.inl ⟨by rfl, ?_⟩) ?_ ?_
    rotate_left
    ·intro w'
     go_simp
     with_reducible rfl
    rotate_left
    ·simp only [Act.put, List.setIfInBounds_toArray, List.set_cons_zero, List.set_cons_succ, i64_w, i32_w]
     rfl
    refine pure_ (i := 26) (N := some 35) (v := ?_) (a' := ?_) #[true, true, true, true, true, true, true, true, true, true, true, true, true, true, true, true, true, true, true, true, true, true, true, false, false, true, true, false, false, false, false, false, false] rfl rfl (any_of HT_.out (by kernel_rfl)) (fun _ _ _ h => h) (Or.inl ⟨by rfl, ?_⟩) ?_ ?_
    rotate_left
    ·intro w'
     go_simp
     with_reducible rfl
    rotate_left
    ·simp only [Act.put, List.setIfInBounds_toArray, List.set_cons_zero, List.set_cons_succ, i64_w, i32_w]
     rfl
    refine pure_ (i := 27) (N := some 36) (v := ?_) (a' := ?_) #[true, true, true, true, true, true, true, true, true, true, true, true, true, true, true, true, true, true, true, true, true, true, true, false, false, true, true, true, false, false, false, false, false] rfl rfl (any_of HT_.out (by kernel_rfl)) (fun _ _ _ h => h) (Or.inl ⟨by rfl, ?_⟩) ?_ ?_
    rotate_left
    ·intro w'
     go_simp
     with_reducible rfl
    rotate_left
    ·simp only [Act.put, List.setIfInBounds_toArray, List.set_cons_zero, List.set_cons_succ, i64_w, i32_w]
     rfl
    refine pure_ (i := 28) (N := some 37) (v := ?_) (a' := ?_) #[true, true, true, true, true, true, true, true, true, true, true, true, true, true, true, true, true, true, true, true, true, true, true, false, false, true, true, true, true, false, false, false, false] rfl rfl (any_of HT_.out (by kernel_rfl)) (fun _ _ _ h => h) (Or.inl ⟨by rfl, ?_⟩) ?_ ?_
    rotate_left
    ·intro w'
     go_simp
     with_reducible rfl
    rotate_left
    ·simp only [Act.put, List.setIfInBounds_toArray, List.set_cons_zero, List.set_cons_succ, i64_w, i32_w]
     rfl
    refine take_ (i := 23) (N := some 32) (v := ?_) (a' := ?_) #[true, true, true, true, true, true, true, true, true, true, true, true, true, true, true, true, true, true, true, true, true, true, true, true, false, true, true, true, true, false, false, false, false] rfl rfl (take_ofW HT_.out HW_.out (by kernel_rfl)) (fun _ _ _ h => h) (Or.inl ⟨by rfl, ?_⟩) hHeld ?_ ?_
    rotate_left
    ·rintro w' ⟨s0, s1, s2, s3, s4, s5, s6, s7, s8, s9, s10, s11, s12, s13, s14, s15, s16⟩
     go_simp
     with_reducible rfl
    rotate_left
    ·simp only [Act.put, List.setIfInBounds_toArray, List.set_cons_zero, List.set_cons_succ, i64_w, i32_w]
     rfl
    refine pure_ (i := 24) (N := some 33) (v := ?_) (a' := ?_) #[true, true, true, true, true, true, true, true, true, true, true, true, true, true, true, true, true, true, true, true, true, true, true, true, true, true, true, true, true, false, false, false, false] rfl rfl (any_of HT_.out (by kernel_rfl)) (fun _ _ _ h => h) (Or.inl ⟨by rfl, ?_⟩) ?_ ?_
    rotate_left
    ·intro w'
     go_simp
     with_reducible rfl
    rotate_left
    ·simp only [Act.put, List.setIfInBounds_toArray, List.set_cons_zero, List.set_cons_succ, i64_w, i32_w]
     rfl
    refine take_ (i := 29) (N := some 38) (v := ?_) (a' := ?_) #[true, true, true, true, true, true, true, true, true, true, true, true, true, true, true, true, true, true, true, true, true, true, true, true, true, true, true, true, true, true, false, false, false] rfl rfl (take_ofW HT_.out HW_.out (by kernel_rfl)) (fun _ _ _ h => h) (Or.inl ⟨by rfl, ?_⟩) hHeld ?_ ?_
    rotate_left
    ·rintro w' ⟨s0, s1, s2, s3, s4, s5, s6, s7, s8, s9, s10, s11, s12, s13, s14, s15, s16⟩
     go_simp
     with_reducible rfl
    rotate_left
    ·simp only [Act.put, List.setIfInBounds_toArray, List.set_cons_zero, List.set_cons_succ, i64_w, i32_w]
     rfl
    refine pure_ (i := 30) (N := some 39) (v := ?_) (a' := ?_) #[true, true, true, true, true, true, true, true, true, true, true, true, true, true, true, true, true, true, true, true, true, true, true, true, true, true, true, true, true, true, true, false, false] rfl rfl (any_of HT_.out (by kernel_rfl)) (fun _ _ _ h => h) (Or.inl ⟨by rfl, ?_⟩) ?_ ?_
    rotate_left
    ·intro w'
     go_simp
     with_reducible rfl
    rotate_left
    ·simp only [Act.put, List.setIfInBounds_toArray, List.set_cons_zero, List.set_cons_succ, i64_w, i32_w]
     rfl
    refine pure_ (i := 31) (N := some 40) (v := ?_) (a' := ?_) #[true, true, true, true, true, true, true, true, true, true, true, true, true, true, true, true, true, true, true, true, true, true, true, true, true, true, true, true, true, true, true, true, false] rfl rfl (any_of HT_.out (by kernel_rfl)) (fun _ _ _ h => h) (Or.inl ⟨by rfl, ?_⟩) ?_ ?_
    rotate_left
    ·intro w'
     go_simp
     with_reducible rfl
    rotate_left
    ·simp only [Act.put, List.setIfInBounds_toArray, List.set_cons_zero, List.set_cons_succ, i64_w, i32_w]
     rfl
    refine pure_ (i := 32) (N := some 41) (v := ?_) (a' := ?_) #[true, true, true, true, true, true, true, true, true, true, true, true, true, true, true, true, true, true, true, true, true, true, true, true, true, true, true, true, true, true, true, true, true] rfl rfl (any_of HT_.out (by kernel_rfl)) (fun _ _ _ h => h) (Or.inl ⟨by rfl, ?_⟩) ?_ ?_
    rotate_left
    ·intro w'
     go_simp
     with_reducible rfl
    rotate_left
    ·simp only [Act.put, List.setIfInBounds_toArray, List.set_cons_zero, List.set_cons_succ, i64_w, i32_w]
     rfl
    refine done_ (done_of HT_.out (by kernel_rfl)) ?_
    try go_wp2
    have n0_ := Aside0.mk (IsS48.drew HI0.out)
    have n1_ := Aside0.mk (keep_drew HK.out)
    have n2_ := Aside0.mk (below_drew1 HB.out)
    clear HI0
    clear HK
    clear HB
    have HI0 := n0_
    have HK := n1_
    have HB := n2_
    clear n0_ n1_ n2_
    refine start_ (n := 15) (S := fun w' => w'.cell? ⟨g, 0, none⟩ = some (.int .i64 s0_0) ∧ w'.cell? ⟨g, 1, none⟩ = some (.int .i64 s0_1) ∧ w'.cell? ⟨g, 2, none⟩ = some (.int .i64 s0_2) ∧ w'.cell? ⟨g, 3, none⟩ = some (.int .i64 s0_3) ∧ w'.cell? ⟨g, 4, none⟩ = some (.int .i64 s0_4) ∧ w'.cell? ⟨g, 5, none⟩ = some (.int .i64 s0_5) ∧ w'.cell? ⟨g, 6, none⟩ = some (.int .i64 s0_6) ∧ w'.cell? ⟨g, 7, none⟩ = some (.int .i64 s0_7) ∧ w'.cell? ⟨g, 8, none⟩ = some (.int .i64 s0_8) ∧ w'.cell? ⟨g, 9, none⟩ = some (.int .i64 s0_9) ∧ w'.cell? ⟨g, 10, none⟩ = some (.int .i64 s0_10) ∧ w'.cell? ⟨g, 12, none⟩ = some (.int .i64 s0_12) ∧ w'.cell? ⟨g, 13, none⟩ = some (.int .i64 s0_13) ∧ w'.cell? ⟨g, 14, none⟩ = some (.int .i64 s0_14) ∧ w'.cell? ⟨g, 15, none⟩ = some (.int .i64 s0_15) ∧ w'.cell? ⟨g, 16, none⟩ = some (.bool true) ∧ w'.cell? ⟨g, 17, none⟩ = some (.bool s0_17)) (ds := [14]) #[false, false, false, false, false, false, false, false, false, false, false, false, false, false, false] (by kernel_rfl) rfl rfl ⟨(IsS48.cell_0 HI0.out), (IsS48.cell_1 HI0.out), (IsS48.cell_2 HI0.out), (IsS48.cell_3 HI0.out), (IsS48.cell_4 HI0.out), (IsS48.cell_5 HI0.out), (IsS48.cell_6 HI0.out), (IsS48.cell_7 HI0.out), (IsS48.cell_8 HI0.out), (IsS48.cell_9 HI0.out), (IsS48.cell_10 HI0.out), (IsS48.cell_12 HI0.out), (IsS48.cell_13 HI0.out), (IsS48.cell_14 HI0.out), (IsS48.cell_15 HI0.out), (IsS48.cell_16 HI0.out), (IsS48.cell_17 HI0.out)⟩ (fun hHeld => ?_); refine with_tabW guard_Guard_Tick.tab5 guard_Guard_Tick.bits5 (fun HT_ HW_ => ?_)
    generalize w10.drew = w11 at HI0 HK HB hHeld ⊢
    refine pure_ (i := 0) (N := some 42) (v := ?_) (a' := ?_) #[true, false, false, false, false, false, false, false, false, false, false, false, false, false, false] rfl rfl (any_of HT_.out (by kernel_rfl)) (fun _ _ _ h => h) (Or.inl ⟨by rfl, ?_⟩) ?_ ?_
    rotate_left
    ·intro w'
     go_simp
     with_reducible rfl
    rotate_left
    ·simp only [Act.put, List.setIfInBounds_toArray, List.set_cons_zero, List.set_cons_succ, i64_w, i32_w]
     rfl
    refine pure_ (i := 1) (N := some 43) (v := ?_) (a' := ?_) #[true, true, false, false, false, false, false, false, false, false, false, false, false, false, false] rfl rfl (any_of HT_.out (by kernel_rfl)) (fun _ _ _ h => h) (Or.inl ⟨by rfl, ?_⟩) ?_ ?_
    rotate_left
    ·intro w'
     go_simp
     with_reducible rfl
    rotate_left
    ·simp only [Act.put, List.setIfInBounds_toArray, List.set_cons_zero, List.set_cons_succ, i64_w, i32_w]
     rfl
    refine pure_ (i := 2) (N := some 44) (v := ?_) (a' := ?_) #[true, true, true, false, false, false, false, false, false, false, false, false, false, false, false] rfl rfl (any_of HT_.out (by kernel_rfl)) (fun _ _ _ h => h) (Or.inl ⟨by rfl, ?_⟩) ?_ ?_
    rotate_left
    ·intro w'
     go_simp
     with_reducible rfl
    rotate_left
    ·simp only [Act.put, List.setIfInBounds_toArray, List.set_cons_zero, List.set_cons_succ, i64_w, i32_w]
     rfl
    refine pure_ (i := 3) (N := some 45) (v := ?_) (a' := ?_) #[true, true, true, true, false, false, false, false, false, false, false, false, false, false, false] rfl rfl (any_of HT_.out (by kernel_rfl)) (fun _ _ _ h => h) (Or.inl ⟨by rfl, ?_⟩) ?_ ?_
    rotate_left
    ·intro w'
     go_simp
     with_reducible rfl
    rotate_left
    ·simp only [Act.put, List.setIfInBounds_toArray, List.set_cons_zero, List.set_cons_succ, i64_w, i32_w]
     rfl
    refine pure_ (i := 6) (N := some 48) (v := ?_) (a' := ?_) #[true, true, true, true, false, false, true, false, false, false, false, false, false, false, false] rfl rfl (any_of HT_.out (by kernel_rfl)) (fun _ _ _ h => h) (Or.inl ⟨by rfl, ?_⟩) ?_ ?_
    rotate_left
    ·intro w'
     go_simp
     with_reducible rfl
    rotate_left
    ·simp only [Act.put, List.setIfInBounds_toArray, List.set_cons_zero, List.set_cons_succ, i64_w, i32_w]
     rfl
    refine pure_ (i := 7) (N := some 49) (v := ?_) (a' := ?_) #[true, true, true, true, false, false, true, true, false, false, false, false, false, false, false] rfl rfl (any_of HT_.out (by kernel_rfl)) (fun _ _ _ h => h) (Or.inl ⟨by rfl, ?_⟩) ?_ ?_
    rotate_left
    ·intro w'
     go_simp
     with_reducible rfl
    rotate_left
    ·simp only [Act.put, List.setIfInBounds_toArray, List.set_cons_zero, List.set_cons_succ, i64_w, i32_w]
     rfl
    refine pure_ (i := 8) (N := some 50) (v := ?_) (a' := ?_) #[true, true, true, true, false, false, true, true, true, false, false, false, false, false, false] rfl rfl (any_of HT_.out (by kernel_rfl)) (fun _ _ _ h => h) (Or.inl ⟨by rfl, ?_⟩) ?_ ?_
    rotate_left
    ·intro w'
     go_simp
     with_reducible rfl
    rotate_left
    ·simp only [Act.put, List.setIfInBounds_toArray, List.set_cons_zero, List.set_cons_succ, i64_w, i32_w]
     rfl
    refine pure_ (i := 9) (N := some 51) (v := ?_) (a' := ?_) #[true, true, true, true, false, false, true, true, true, true, false, false, false, false, false] rfl rfl (any_of HT_.out (by kernel_rfl)) (fun _ _ _ h => h) (Or.inl ⟨by rfl, ?_⟩) ?_ ?_
    rotate_left
    ·intro w'
     go_simp
     with_reducible rfl
    rotate_left
    ·simp only [Act.put, List.setIfInBounds_toArray, List.set_cons_zero, List.set_cons_succ, i64_w, i32_w]
     rfl
    refine take_ (i := 4) (N := some 46) (v := ?_) (a' := ?_) #[true, true, true, true, true, false, true, true, true, true, false, false, false, false, false] rfl rfl (take_ofW HT_.out HW_.out (by kernel_rfl)) (fun _ _ _ h => h) (Or.inl ⟨by rfl, ?_⟩) hHeld ?_ ?_
    rotate_left
    ·rintro w' ⟨s0, s1, s2, s3, s4, s5, s6, s7, s8, s9, s10, s11, s12, s13, s14, s15, s16⟩
     go_simp
     with_reducible rfl
    rotate_left
    ·simp only [Act.put, List.setIfInBounds_toArray, List.set_cons_zero, List.set_cons_succ, i64_w, i32_w]
     rfl
    refine take_ (i := 10) (N := some 52) (v := ?_) (a' := ?_) #[true, true, true, true, true, false, true, true, true, true, true, false, false, false, false] rfl rfl (take_ofW HT_.out HW_.out (by kernel_rfl)) (fun _ _ _ h => h) (Or.inl ⟨by rfl, ?_⟩) hHeld ?_ ?_
    rotate_left
    ·rintro w' ⟨s0, s1, s2, s3, s4, s5, s6, s7, s8, s9, s10, s11, s12, s13, s14, s15, s16⟩
     go_simp
     with_reducible rfl
    rotate_left
    ·simp only [Act.put, List.setIfInBounds_toArray, List.set_cons_zero, List.set_cons_succ, i64_w, i32_w]
     rfl
    refine one_ (i := 5) (N := some 47) #[true, true, true, true, true, true, true, true, true, true, true, false, false, false, false] rfl rfl (one_of HT_.out (by kernel_rfl)) (by decide) (fun K hK => ?_)
    refine goes_ Try.func21 (by kernel_rfl) rfl #[.int .i64 s0_13, .int .i64 1, .int .i64 2, .int .i64 1] (by rfl) rfl rfl (by (try simp only [List.map_toArray, List.map_cons, List.map_nil]); first | done | rfl | (simp only [List.length_drop, List.length_take]; rfl)) ?_
    with_reducible refine (muldiv_Do.calls s0_13 1 2 1 t122 _ A7.out).mono ?_
    rintro e w12 ⟨rfl, hb⟩
    refine ⟨_, rfl, ?_⟩
    have n0_ := Aside0.mk (IsS48.below (by repeat (first | (with_reducible first | exact HI0.out | apply IsS48.alloc | apply IsS48.drewN | apply IsS48.drew | apply IsS48.set_0 | apply IsS48.set_1 | apply IsS48.set_2 | apply IsS48.set_3 | apply IsS48.set_4 | apply IsS48.set_5 | apply IsS48.set_6 | apply IsS48.set_7 | apply IsS48.set_8 | apply IsS48.set_9 | apply IsS48.set_10 | apply IsS48.set_12 | apply IsS48.set_13 | apply IsS48.set_14 | apply IsS48.set_15 | apply IsS48.set_16 | apply IsS48.set_17) | exact HI0.out)) hb)
    have n1_ := Aside0.mk (KeepBut.trans (by repeat (first | (with_reducible first | exact HK.out | apply KeepBut.set_ | apply keep_drewN | apply keep_drew | apply keep_alloc) | exact HK.out)) (KeepBut.of_below hb g none) (.inl rfl))
    have n2_ := Aside0.mk (below_step (by repeat (first | (with_reducible first | exact HB.out | apply below_alloc | apply pw_below_drewN | apply below_drew1 | refine below_set ?_ (IsS48.ge HI0.out)) | exact HB.out)) hb)
    clear HI0
    clear HK
    clear HB
    have HI0 := n0_
    have HK := n1_
    have HB := n2_
    clear n0_ n1_ n2_
    (try clear hb)
    (try clear hb2)
    (try clear hk)
    (try clear hi)
    refine hK.out _ _ ⟨(IsS48.cell_0 HI0.out), (IsS48.cell_1 HI0.out), (IsS48.cell_2 HI0.out), (IsS48.cell_3 HI0.out), (IsS48.cell_4 HI0.out), (IsS48.cell_5 HI0.out), (IsS48.cell_6 HI0.out), (IsS48.cell_7 HI0.out), (IsS48.cell_8 HI0.out), (IsS48.cell_9 HI0.out), (IsS48.cell_10 HI0.out), (IsS48.cell_12 HI0.out), (IsS48.cell_13 HI0.out), (IsS48.cell_14 HI0.out), (IsS48.cell_15 HI0.out), (IsS48.cell_16 HI0.out), (IsS48.cell_17 HI0.out)⟩ (fun hHeld => ?_)
    clear hK K
    refine norm_ (a' := ?_) ?_ ?_
    rotate_left
    ·show Act.put _ (some 47) _ = _
     simp only [Act.put, List.setIfInBounds_toArray, List.set_cons_zero, List.set_cons_succ, i64_w, i32_w]
     rfl
    refine pure_ (i := 11) (N := some 53) (v := ?_) (a' := ?_) #[true, true, true, true, true, true, true, true, true, true, true, true, false, false, false] rfl rfl (any_of HT_.out (by kernel_rfl)) (fun _ _ _ h => h) (Or.inl ⟨by rfl, ?_⟩) ?_ ?_
    rotate_left
    ·intro w'
     go_simp
     with_reducible rfl
    rotate_left
    ·simp only [Act.put, List.setIfInBounds_toArray, List.set_cons_zero, List.set_cons_succ, i64_w, i32_w]
     rfl
    refine pure_ (i := 12) (N := some 54) (v := ?_) (a' := ?_) #[true, true, true, true, true, true, true, true, true, true, true, true, true, false, false] rfl rfl (any_of HT_.out (by kernel_rfl)) (fun _ _ _ h => h) (Or.inl ⟨by rfl, ?_⟩) ?_ ?_
    rotate_left
    ·intro w'
     go_simp
     with_reducible rfl
    rotate_left
    ·simp only [Act.put, List.setIfInBounds_toArray, List.set_cons_zero, List.set_cons_succ, i64_w, i32_w]
     rfl
    refine pure_ (i := 13) (N := some 55) (v := ?_) (a' := ?_) #[true, true, true, true, true, true, true, true, true, true, true, true, true, true, false] rfl rfl (any_of HT_.out (by kernel_rfl)) (fun _ _ _ h => h) (Or.inl ⟨by rfl, ?_⟩) ?_ ?_
    rotate_left
    ·intro w'
     go_simp
     with_reducible rfl
    rotate_left
    ·simp only [Act.put, List.setIfInBounds_toArray, List.set_cons_zero, List.set_cons_succ, i64_w, i32_w]
     rfl
    refine last_ (i := 14) (N := none) #[true, true, true, true, true, true, true, true, true, true, true, true, true, true, true] rfl rfl (one_of HT_.out (by kernel_rfl)) (by decide) (fun K hK => ?_)
    have hs13 : w12.cell? ⟨g, 13, none⟩ = some (.int .i64 s0_13) := IsS48.cell_13 HI0.out
    have hfs13 := IsS48.froz_13 HI0.out
    refine skip_ (w1 := ?_) (by rfl) rfl ?_ ?_
    rotate_left
    ·go_simp
     rfl
    refine hK.out _ _ ?_
    clear hK K
    refine done_ (done_of HT_.out (by kernel_rfl)) ?_
    obtain ⟨ASz14_11, cSz14_11, HGz14, hgz14, HSz14_11⟩ := HI0.out
    have hcz14_0 := cellS48_0 HGz14
    have hcz14_1 := cellS48_1 HGz14
    have hcz14_2 := cellS48_2 HGz14
    have hcz14_3 := cellS48_3 HGz14
    have hcz14_4 := cellS48_4 HGz14
    have hcz14_5 := cellS48_5 HGz14
    have hcz14_6 := cellS48_6 HGz14
    have hcz14_7 := cellS48_7 HGz14
    have hcz14_8 := cellS48_8 HGz14
    have hcz14_9 := cellS48_9 HGz14
    have hcz14_10 := cellS48_10 HGz14
    have hcz14_11 := cellS48_11 HGz14
    have hcz14_12 := cellS48_12 HGz14
    have hcz14_13 := cellS48_13 HGz14
    have hcz14_14 := cellS48_14 HGz14
    have hcz14_15 := cellS48_15 HGz14
    have hcz14_16 := cellS48_16 HGz14
    have hcz14_17 := cellS48_17 HGz14
    have hfz14_0 := blk_frozen HGz14 0
    have hfz14_1 := blk_frozen HGz14 1
    have hfz14_2 := blk_frozen HGz14 2
    have hfz14_3 := blk_frozen HGz14 3
    have hfz14_4 := blk_frozen HGz14 4
    have hfz14_5 := blk_frozen HGz14 5
    have hfz14_6 := blk_frozen HGz14 6
    have hfz14_7 := blk_frozen HGz14 7
    have hfz14_8 := blk_frozen HGz14 8
    have hfz14_9 := blk_frozen HGz14 9
    have hfz14_10 := blk_frozen HGz14 10
    have hfz14_12 := blk_frozen HGz14 12
    have hfz14_13 := blk_frozen HGz14 13
    have hfz14_14 := blk_frozen HGz14 14
    have hfz14_15 := blk_frozen HGz14 15
    have hfz14_16 := blk_frozen HGz14 16
    have hfz14_17 := blk_frozen HGz14 17
    clear HGz14 hgz14
    try go_wp2
    go_ret
    exact ⟨by first | rfl | (simp [errW_none, errW_some] <;> rfl) | (simp only [← hji8]; first | rfl | (simp [errW_none, errW_some] <;> rfl)) | (simp [*, errW_none, errW_some] <;> rfl), by repeat (first | (with_reducible first | exact HI0.out | apply IsS48.alloc | apply IsS48.drewN | apply IsS48.drew | apply IsS48.set_0 | apply IsS48.set_1 | apply IsS48.set_2 | apply IsS48.set_3 | apply IsS48.set_4 | apply IsS48.set_5 | apply IsS48.set_6 | apply IsS48.set_7 | apply IsS48.set_8 | apply IsS48.set_9 | apply IsS48.set_10 | apply IsS48.set_12 | apply IsS48.set_13 | apply IsS48.set_14 | apply IsS48.set_15 | apply IsS48.set_16 | apply IsS48.set_17) | exact HI0.out), by repeat (first | (with_reducible first | exact HB.out | apply below_alloc | apply pw_below_drewN | apply below_drew1 | refine below_set ?_ (IsS48.ge HI0.out)) | exact HB.out), by repeat (first | (with_reducible first | exact HK.out | apply KeepBut.set_ | apply keep_drewN | apply keep_drew | apply keep_alloc) | exact HK.out)⟩
   ·rw [if_neg c6] at H
    have c6b0 : decide (s0_7 < (wrap64 (t121 - s0_15))) = false := decide_eq_false c6
    clear c6
    simp only [Option.some.injEq, Prod.mk.injEq] at H
    obtain ⟨rfl, rfl, rfl, rfl, rfl, rfl, rfl, rfl, rfl, rfl, rfl, rfl, rfl, rfl, rfl, rfl, rfl, rfl⟩ := H
    go_enter Try.func17, Try.ntmps17
    try go_wp2_with (first | ((with_reducible refine gate_callee (f := 19) rfl ?_); refine goesL_ (some 8) rfl rfl Try.func19 (by kernel_rfl) rfl #[.int .i64 a1, .int .i64 0, .int .i64 1125899906842624] rfl (by (try simp only [List.map_toArray, List.map_cons, List.map_nil]); first | done | rfl | (simp only [List.length_drop, List.length_take]; rfl)) ?_; (with_reducible refine (sat_Clamp.calls a1 0 1125899906842624 t121 _ A3.out).mono ?_); rintro e w' ⟨rfl, ⟨nd, rfl⟩⟩; refine ⟨_, rfl, ?_⟩))
    (generalize hq_ : World.drewN w _ = w15; have n0_ : Aside0 (IsS48 w0 w15 g s0_0 s0_1 s0_2 s0_3 s0_4 s0_5 s0_6 s0_7 s0_8 s0_9 s0_10 s0_11 s0_12 s0_13 s0_14 s0_15 true s0_17) := ⟨by rw [← hq_]; exact (by repeat (first | (with_reducible first | exact HI0.out | apply IsS48.alloc | apply IsS48.drewN | apply IsS48.drew | apply IsS48.set_0 | apply IsS48.set_1 | apply IsS48.set_2 | apply IsS48.set_3 | apply IsS48.set_4 | apply IsS48.set_5 | apply IsS48.set_6 | apply IsS48.set_7 | apply IsS48.set_8 | apply IsS48.set_9 | apply IsS48.set_10 | apply IsS48.set_12 | apply IsS48.set_13 | apply IsS48.set_14 | apply IsS48.set_15 | apply IsS48.set_16 | apply IsS48.set_17) | exact HI0.out))⟩; have n1_ : Aside0 (KeepBut w w15 g none) := ⟨by rw [← hq_]; exact (by repeat (first | (with_reducible first | exact HK.out | apply KeepBut.set_ | apply keep_drewN | apply keep_drew | apply keep_alloc) | exact HK.out))⟩; have n2_ : Aside0 (Below w0.heap.size w0 w15) := ⟨by rw [← hq_]; exact (by repeat (first | (with_reducible first | exact HB.out | apply below_alloc | apply pw_below_drewN | apply below_drew1 | refine below_set ?_ (IsS48.ge HI0.out)) | exact HB.out))⟩; clear HI0 HK HB hq_; have HI0 := n0_; have HK := n1_; have HB := n2_; clear n0_ n1_ n2_)
    have n0_ := Aside0.mk (IsS48.drew HI0.out)
    have n1_ := Aside0.mk (keep_drew HK.out)
    have n2_ := Aside0.mk (below_drew1 HB.out)
    clear HI0
    clear HK
    clear HB
    have HI0 := n0_
    have HK := n1_
    have HB := n2_
    clear n0_ n1_ n2_
    refine start_ (n := 33) (S := fun w' => w'.cell? ⟨g, 0, none⟩ = some (.int .i64 s0_0) ∧ w'.cell? ⟨g, 1, none⟩ = some (.int .i64 s0_1) ∧ w'.cell? ⟨g, 2, none⟩ = some (.int .i64 s0_2) ∧ w'.cell? ⟨g, 3, none⟩ = some (.int .i64 s0_3) ∧ w'.cell? ⟨g, 4, none⟩ = some (.int .i64 s0_4) ∧ w'.cell? ⟨g, 5, none⟩ = some (.int .i64 s0_5) ∧ w'.cell? ⟨g, 6, none⟩ = some (.int .i64 s0_6) ∧ w'.cell? ⟨g, 7, none⟩ = some (.int .i64 s0_7) ∧ w'.cell? ⟨g, 8, none⟩ = some (.int .i64 s0_8) ∧ w'.cell? ⟨g, 9, none⟩ = some (.int .i64 s0_9) ∧ w'.cell? ⟨g, 10, none⟩ = some (.int .i64 s0_10) ∧ w'.cell? ⟨g, 12, none⟩ = some (.int .i64 s0_12) ∧ w'.cell? ⟨g, 13, none⟩ = some (.int .i64 s0_13) ∧ w'.cell? ⟨g, 14, none⟩ = some (.int .i64 s0_14) ∧ w'.cell? ⟨g, 15, none⟩ = some (.int .i64 s0_15) ∧ w'.cell? ⟨g, 16, none⟩ = some (.bool true) ∧ w'.cell? ⟨g, 17, none⟩ = some (.bool s0_17)) (ds := []) #[false, false, false, false, false, false, false, false, false, false, false, false, false, false, false, false, false, false, false, false, false, false, false, false, false, false, false, false, false, false, false, false, false] (by kernel_rfl) rfl rfl ⟨(IsS48.cell_0 HI0.out), (IsS48.cell_1 HI0.out), (IsS48.cell_2 HI0.out), (IsS48.cell_3 HI0.out), (IsS48.cell_4 HI0.out), (IsS48.cell_5 HI0.out), (IsS48.cell_6 HI0.out), (IsS48.cell_7 HI0.out), (IsS48.cell_8 HI0.out), (IsS48.cell_9 HI0.out), (IsS48.cell_10 HI0.out), (IsS48.cell_12 HI0.out), (IsS48.cell_13 HI0.out), (IsS48.cell_14 HI0.out), (IsS48.cell_15 HI0.out), (IsS48.cell_16 HI0.out), (IsS48.cell_17 HI0.out)⟩ (fun hHeld => ?_); refine with_tabW guard_Guard_Tick.tab4 guard_Guard_Tick.bits4 (fun HT_ HW_ => ?_)
    generalize w15.drew = w16 at HI0 HK HB hHeld ⊢
    refine pure_ (i := 0) (N := some 9) (v := ?_) (a' := ?_) #[true, false, false, false, false, false, false, false, false, false, false, false, false, false, false, false, false, false, false, false, false, false, false, false, false, false, false, false, false, false, false, false, false] rfl rfl (any_of HT_.out (by kernel_rfl)) (fun _ _ _ h => h) (Or.inl ⟨by rfl, ?_⟩) ?_ ?_
    rotate_left
    ·intro w'
     go_simp
     with_reducible rfl
    rotate_left
    ·simp only [Act.put, List.setIfInBounds_toArray, List.set_cons_zero, List.set_cons_succ, i64_w, i32_w]
     rfl
    refine pure_ (i := 1) (N := some 10) (v := ?_) (a' := ?_) #[true, true, false, false, false, false, false, false, false, false, false, false, false, false, false, false, false, false, false, false, false, false, false, false, false, false, false, false, false, false, false, false, false] rfl rfl (any_of HT_.out (by kernel_rfl)) (fun _ _ _ h => h) (Or.inl ⟨by rfl, ?_⟩) ?_ ?_
    rotate_left
    ·intro w'
     go_simp
     with_reducible rfl
    rotate_left
    ·simp only [Act.put, List.setIfInBounds_toArray, List.set_cons_zero, List.set_cons_succ, i64_w, i32_w]
     rfl
    refine pure_ (i := 2) (N := some 11) (v := ?_) (a' := ?_) #[true, true, true, false, false, false, false, false, false, false, false, false, false, false, false, false, false, false, false, false, false, false, false, false, false, false, false, false, false, false, false, false, false] rfl rfl (any_of HT_.out (by kernel_rfl)) (fun _ _ _ h => h) (Or.inl ⟨by rfl, ?_⟩) ?_ ?_
    rotate_left
    ·intro w'
     go_simp
     with_reducible rfl
    rotate_left
    ·simp only [Act.put, List.setIfInBounds_toArray, List.set_cons_zero, List.set_cons_succ, i64_w, i32_w]
     rfl
    refine pure_ (i := 3) (N := some 12) (v := ?_) (a' := ?_) #[true, true, true, true, false, false, false, false, false, false, false, false, false, false, false, false, false, false, false, false, false, false, false, false, false, false, false, false, false, false, false, false, false] rfl rfl (any_of HT_.out (by kernel_rfl)) (fun _ _ _ h => h) (Or.inl ⟨by rfl, ?_⟩) ?_ ?_
    rotate_left
    ·intro w'
     go_simp
     with_reducible rfl
    rotate_left
    ·simp only [Act.put, List.setIfInBounds_toArray, List.set_cons_zero, List.set_cons_succ, i64_w, i32_w]
     rfl
    refine pure_ (i := 6) (N := some 15) (v := ?_) (a' := ?_) #[true, true, true, true, false, false, true, false, false, false, false, false, false, false, false, false, false, false, false, false, false, false, false, false, false, false, false, false, false, false, false, false, false] rfl rfl (any_of HT_.out (by kernel_rfl)) (fun _ _ _ h => h) (Or.inl ⟨by rfl, ?_⟩) ?_ ?_
    rotate_left
    ·intro w'
     go_simp
     with_reducible rfl
    rotate_left
    ·simp only [Act.put, List.setIfInBounds_toArray, List.set_cons_zero, List.set_cons_succ, i64_w, i32_w]
     rfl
    refine pure_ (i := 7) (N := some 16) (v := ?_) (a' := ?_) #[true, true, true, true, false, false, true, true, false, false, false, false, false, false, false, false, false, false, false, false, false, false, false, false, false, false, false, false, false, false, false, false, false] rfl rfl (any_of HT_.out (by kernel_rfl)) (fun _ _ _ h => h) (Or.inl ⟨by rfl, ?_⟩) ?_ ?_
    rotate_left
    ·intro w'
     go_simp
     with_reducible rfl
    rotate_left
    ·simp only [Act.put, List.setIfInBounds_toArray, List.set_cons_zero, List.set_cons_succ, i64_w, i32_w]
     rfl
    refine pure_ (i := 8) (N := some 17) (v := ?_) (a' := ?_) #[true, true, true, true, false, false, true, true, true, false, false, false, false, false, false, false, false, false, false, false, false, false, false, false, false, false, false, false, false, false, false, false, false] rfl rfl (any_of HT_.out (by kernel_rfl)) (fun _ _ _ h => h) (Or.inl ⟨by rfl, ?_⟩) ?_ ?_
    rotate_left
    ·intro w'
     go_simp
     with_reducible rfl
    rotate_left
    ·simp only [Act.put, List.setIfInBounds_toArray, List.set_cons_zero, List.set_cons_succ, i64_w, i32_w]
     rfl
    refine pure_ (i := 9) (N := some 18) (v := ?_) (a' := ?_) #[true, true, true, true, false, false, true, true, true, true, false, false, false, false, false, false, false, false, false, false, false, false, false, false, false, false, false, false, false, false, false, false, false] rfl rfl (any_of HT_.out (by kernel_rfl)) (fun _ _ _ h => h) (Or.inl ⟨by rfl, ?_⟩) ?_ ?_
    rotate_left
    ·intro w'
     go_simp
     with_reducible rfl
    rotate_left
    ·simp only [Act.put, List.setIfInBounds_toArray, List.set_cons_zero, List.set_cons_succ, i64_w, i32_w]
     rfl
    refine take_ (i := 4) (N := some 13) (v := ?_) (a' := ?_) #[true, true, true, true, true, false, true, true, true, true, false, false, false, false, false, false, false, false, false, false, false, false, false, false, false, false, false, false, false, false, false, false, false] rfl rfl (take_ofW HT_.out HW_.out (by kernel_rfl)) (fun _ _ _ h => h) (Or.inl ⟨by rfl, ?_⟩) hHeld ?_ ?_
    rotate_left
    ·rintro w' ⟨s0, s1, s2, s3, s4, s5, s6, s7, s8, s9, s10, s11, s12, s13, s14, s15, s16⟩
     go_simp
     with_reducible rfl
    rotate_left
    ·simp only [Act.put, List.setIfInBounds_toArray, List.set_cons_zero, List.set_cons_succ, i64_w, i32_w]
     rfl
    refine pure_ (i := 5) (N := some 14) (v := ?_) (a' := ?_) #[true, true, true, true, true, true, true, true, true, true, false, false, false, false, false, false, false, false, false, false, false, false, false, false, false, false, false, false, false, false, false, false, false] rfl rfl (any_of HT_.out (by kernel_rfl)) (fun _ _ _ h => h) (Or.inl ⟨by rfl, ?_⟩) ?_ ?_
    rotate_left
    ·intro w'
     go_simp
     with_reducible rfl
    rotate_left
    ·simp only [Act.put, List.setIfInBounds_toArray, List.set_cons_zero, List.set_cons_succ, i64_w, i32_w]
     rfl
    refine take_ (i := 10) (N := some 19) (v := ?_) (a' := ?_) #[true, true, true, true, true, true, true, true, true, true, true, false, false, false, false, false, false, false, false, false, false, false, false, false, false, false, false, false, false, false, false, false, false] rfl rfl (take_ofW HT_.out HW_.out (by kernel_rfl)) (fun _ _ _ h => h) (Or.inl ⟨by rfl, ?_⟩) hHeld ?_ ?_
    rotate_left
    ·rintro w' ⟨s0, s1, s2, s3, s4, s5, s6, s7, s8, s9, s10, s11, s12, s13, s14, s15, s16⟩
     go_simp
     with_reducible rfl
    rotate_left
    ·simp only [Act.put, List.setIfInBounds_toArray, List.set_cons_zero, List.set_cons_succ, i64_w, i32_w]
     rfl
    refine pure_ (i := 11) (N := some 20) (v := ?_) (a' := ?_) #[true, true, true, true, true, true, true, true, true, true, true, true, false, false, false, false, false, false, false, false, false, false, false, false, false, false, false, false, false, false, false, false, false] rfl rfl (any_of HT_.out (by kernel_rfl)) (fun _ _ _ h => h) (Or.inl ⟨by rfl, ?_⟩) ?_ ?_
    rotate_left
    ·intro w'
     go_simp
     with_reducible rfl
    rotate_left
    ·simp only [Act.put, List.setIfInBounds_toArray, List.set_cons_zero, List.set_cons_succ, i64_w, i32_w]
     rfl
    refine pure_ (i := 12) (N := some 21) (v := ?_) (a' := ?_) #[true, true, true, true, true, true, true, true, true, true, true, true, true, false, false, false, false, false, false, false, false, false, false, false, false, false, false, false, false, false, false, false, false] rfl rfl (any_of HT_.out (by kernel_rfl)) (fun _ _ _ h => h) (Or.inl ⟨by rfl, ?_⟩) ?_ ?_
    rotate_left
    ·intro w'
     go_simp
     with_reducible rfl
    rotate_left
    ·simp only [Act.put, List.setIfInBounds_toArray, List.set_cons_zero, List.set_cons_succ, i64_w, i32_w]
     rfl
    refine pure_ (i := 13) (N := some 22) (v := ?_) (a' := ?_) #[true, true, true, true, true, true, true, true, true, true, true, true, true, true, false, false, false, false, false, false, false, false, false, false, false, false, false, false, false, false, false, false, false] rfl rfl (any_of HT_.out (by kernel_rfl)) (fun _ _ _ h => h) (Or.inl ⟨by rfl, ?_⟩) ?_ ?_
    rotate_left
    ·intro w'
     go_simp
     with_reducible rfl
    rotate_left
    ·simp only [Act.put, List.setIfInBounds_toArray, List.set_cons_zero, List.set_cons_succ, i64_w, i32_w]
     rfl
    refine pure_ (i := 14) (N := some 23) (v := ?_) (a' := ?_) #[true, true, true, true, true, true, true, true, true, true, true, true, true, true, true, false, false, false, false, false, false, false, false, false, false, false, false, false, false, false, false, false, false] rfl rfl (any_of HT_.out (by kernel_rfl)) (fun _ _ _ h => h) (Or.inl ⟨by rfl, ?_⟩) ?_ ?_
    rotate_left
    ·intro w'
     go_simp
     with_reducible rfl
    rotate_left
    ·simp only [Act.put, List.setIfInBounds_toArray, List.set_cons_zero, List.set_cons_succ, i64_w, i32_w]
     rfl
    refine pure_ (i := 15) (N := some 24) (v := ?_) (a' := ?_) #[true, true, true, true, true, true, true, true, true, true, true, true, true, true, true, true, false, false, false, false, false, false, false, false, false, false, false, false, false, false, false, false, false] rfl rfl (any_of HT_.out (by kernel_rfl)) (fun _ _ _ h => h) (Or.inl ⟨by rfl, ?_⟩) ?_ ?_
    rotate_left
    ·intro w'
     go_simp
     with_reducible rfl
    rotate_left
    ·simp only [Act.put, List.setIfInBounds_toArray, List.set_cons_zero, List.set_cons_succ, i64_w, i32_w]
     rfl
    refine take_ (i := 16) (N := some 25) (v := ?_) (a' := ?_) #[true, true, true, true, true, true, true, true, true, true, true, true, true, true, true, true, true, false, false, false, false, false, false, false, false, false, false, false, false, false, false, false, false] rfl rfl (take_ofW HT_.out HW_.out (by kernel_rfl)) (fun _ _ _ h => h) (Or.inl ⟨by rfl, ?_⟩) hHeld ?_ ?_
    rotate_left
    ·rintro w' ⟨s0, s1, s2, s3, s4, s5, s6, s7, s8, s9, s10, s11, s12, s13, s14, s15, s16⟩
     go_simp
     with_reducible rfl
    rotate_left
    ·simp only [Act.put, List.setIfInBounds_toArray, List.set_cons_zero, List.set_cons_succ, i64_w, i32_w]
     rfl
    refine pure_ (i := 17) (N := some 26) (v := ?_) (a' := ?_) #[true, true, true, true, true, true, true, true, true, true, true, true, true, true, true, true, true, true, false, false, false, false, false, false, false, false, false, false, false, false, false, false, false] rfl rfl (any_of HT_.out (by kernel_rfl)) (fun _ _ _ h => h) (Or.inl ⟨by rfl, ?_⟩) ?_ ?_
    rotate_left
    ·intro w'
     go_simp
     with_reducible rfl
    rotate_left
    ·simp only [Act.put, List.setIfInBounds_toArray, List.set_cons_zero, List.set_cons_succ, i64_w, i32_w]
     rfl
    refine pure_ (i := 18) (N := some 27) (v := ?_) (a' := ?_) #[true, true, true, true, true, true, true, true, true, true, true, true, true, true, true, true, true, true, true, false, false, false, false, false, false, false, false, false, false, false, false, false, false] rfl rfl (any_of HT_.out (by kernel_rfl)) (fun _ _ _ h => h) (Or.inl ⟨by rfl, ?_⟩) ?_ ?_
    rotate_left
    ·intro w'
     go_simp
     with_reducible rfl
    rotate_left
    ·simp only [Act.put, List.setIfInBounds_toArray, List.set_cons_zero, List.set_cons_succ, i64_w, i32_w]
     rfl
    refine pure_ (i := 19) (N := some 28) (v := ?_) (a' := ?_) #[true, true, true, true, true, true, true, true, true, true, true, true, true, true, true, true, true, true, true, true, false, false, false, false, false, false, false, false, false, false, false, false, false] rfl rfl (any_of HT_.out (by kernel_rfl)) (fun _ _ _ h => h) (Or.inl ⟨by rfl, ?_⟩) ?_ ?_
    rotate_left
    ·intro w'
     go_simp
     with_reducible rfl
    rotate_left
    ·simp only [Act.put, List.setIfInBounds_toArray, List.set_cons_zero, List.set_cons_succ, i64_w, i32_w]
     rfl
    refine pure_ (i := 20) (N := some 29) (v := ?_) (a' := ?_) #[true, true, true, true, true, true, true, true, true, true, true, true, true, true, true, true, true, true, true, true, true, false, false, false, false, false, false, false, false, false, false, false, false] rfl rfl (any_of HT_.out (by kernel_rfl)) (fun _ _ _ h => h) (Or.inl ⟨by rfl, ?_⟩) ?_ ?_
    rotate_left
    ·intro w'
     go_simp
     with_reducible rfl
    rotate_left
    ·simp only [Act.put, List.setIfInBounds_toArray, List.set_cons_zero, List.set_cons_succ, i64_w, i32_w]
     rfl
    refine pure_ (i := 21) (N := some 30) (v := ?_) (a' := ?_) #[true, true, true, true, true, true, true, true, true, true, true, true, true, true, true, true, true, true, true, true, true, true, false, false, false, false, false, false, false, false, false, false, false] rfl rfl (any_of HT_.out (by kernel_rfl)) (fun _ _ _ h => h) (Or.inl ⟨by rfl, ?_⟩) ?_ ?_
    rotate_left
    ·intro w'
     go_simp
     with_reducible rfl
    rotate_left
    ·simp only [Act.put, List.setIfInBounds_toArray, List.set_cons_zero, List.set_cons_succ, i64_w, i32_w]
     rfl
    refine pure_ (i := 22) (N := some 31) (v := ?_) (a' := ?_) #[true, true, true, true, true, true, true, true, true, true, true, true, true, true, true, true, true, true, true, true, true, true, true, false, false, false, false, false, false, false, false, false, false] rfl rfl (any_of HT_.out (by kernel_rfl)) (fun _ _ _ h => h) (Or.inl ⟨by rfl, ?_⟩) ?_ ?_
    rotate_left
    ·intro w'
     go_simp
     with_reducible rfl
    rotate_left
    ·simp only [Act.put, List.setIfInBounds_toArray, List.set_cons_zero, List.set_cons_succ, i64_w, i32_w]
     rfl
    refine pure_ (i := 25) (N := some 34) (v := ?_) (a' := ?_) #[true, true, true, true, true, true, true, true, true, true, true, true, true, true, true, true, true, true, true, true, true, true, true, false, false, true, false, false, false, false, false, false, false] rfl rfl (any_of HT_.out (by kernel_rfl)) (fun _ _ _ h => h) (Or.inl ⟨by rfl, ?_⟩) ?_ ?_
    rotate_left
    ·intro w'
     go_simp
     with_reducible rfl
    rotate_left
    ·simp only [Act.put, List.setIfInBounds_toArray, List.set_cons_zero, List.set_cons_succ, i64_w, i32_w]
     rfl
    refine pure_ (i := 26) (N := some 35) (v := ?_) (a' := ?_) #[true, true, true, true, true, true, true, true, true, true, true, true, true, true, true, true, true, true, true, true, true, true, true, false, false, true, true, false, false, false, false, false, false] rfl rfl (any_of HT_.out (by kernel_rfl)) (fun _ _ _ h => h) (Or.inl ⟨by rfl, ?_⟩) ?_ ?_
    rotate_left
    ·intro w'
     go_simp
     with_reducible rfl
    rotate_left
    ·simp only [Act.put, List.setIfInBounds_toArray, List.set_cons_zero, List.set_cons_succ, i64_w, i32_w]
     rfl
    refine pure_ (i := 27) (N := some 36) (v := ?_) (a' := ?_) #[true, true, true, true, true, true, true, true, true, true, true, true, true, true, true, true, true, true, true, true, true, true, true, false, false, true, true, true, false, false, false, false, false] rfl rfl (any_of HT_.out (by kernel_rfl)) (fun _ _ _ h => h) (Or.inl ⟨by rfl, ?_⟩) ?_ ?_
    rotate_left
    ·intro w'
     go_simp
     with_reducible rfl
    rotate_left
    ·simp only [Act.put, List.setIfInBounds_toArray, List.set_cons_zero, List.set_cons_succ, i64_w, i32_w]
     rfl
    refine pure_ (i := 28) (N := some 37) (v := ?_) (a' := ?_) #[true, true, true, true, true, true, true, true, true, true, true, true, true, true, true, true, true, true, true, true, true, true, true, false, false, true, true, true, true, false, false, false, false] rfl rfl (any_of HT_.out (by kernel_rfl)) (fun _ _ _ h => h) (Or.inl ⟨by rfl, ?_⟩) ?_ ?_
    rotate_left
    ·intro w'
     go_simp
     with_reducible rfl
    rotate_left
    ·simp only [Act.put, List.setIfInBounds_toArray, List.set_cons_zero, List.set_cons_succ, i64_w, i32_w]
     rfl
    refine take_ (i := 23) (N := some 32) (v := ?_) (a' := ?_) #[true, true, true, true, true, true, true, true, true, true, true, true, true, true, true, true, true, true, true, true, true, true, true, true, false, true, true, true, true, false, false, false, false] rfl rfl (take_ofW HT_.out HW_.out (by kernel_rfl)) (fun _ _ _ h => h) (Or.inl ⟨by rfl, ?_⟩) hHeld ?_ ?_
    rotate_left
    ·rintro w' ⟨s0, s1, s2, s3, s4, s5, s6, s7, s8, s9, s10, s11, s12, s13, s14, s15, s16⟩
     go_simp
     with_reducible rfl
    rotate_left
    ·simp only [Act.put, List.setIfInBounds_toArray, List.set_cons_zero, List.set_cons_succ, i64_w, i32_w]
     rfl
    refine pure_ (i := 24) (N := some 33) (v := ?_) (a' := ?_) #[true, true, true, true, true, true, true, true, true, true, true, true, true, true, true, true, true, true, true, true, true, true, true, true, true, true, true, true, true, false, false, false, false] rfl rfl (any_of HT_.out (by kernel_rfl)) (fun _ _ _ h => h) (Or.inl ⟨by rfl, ?_⟩) ?_ ?_
    rotate_left
    ·intro w'
     go_simp
     with_reducible rfl
    rotate_left
    ·simp only [Act.put, List.setIfInBounds_toArray, List.set_cons_zero, List.set_cons_succ, i64_w, i32_w]
     rfl
    refine take_ (i := 29) (N := some 38) (v := ?_) (a' := ?_) #[true, true, true, true, true, true, true, true, true, true, true, true, true, true, true, true, true, true, true, true, true, true, true, true, true, true, true, true, true, true, false, false, false] rfl rfl (take_ofW HT_.out HW_.out (by kernel_rfl)) (fun _ _ _ h => h) (Or.inl ⟨by rfl, ?_⟩) hHeld ?_ ?_
    rotate_left
    ·rintro w' ⟨s0, s1, s2, s3, s4, s5, s6, s7, s8, s9, s10, s11, s12, s13, s14, s15, s16⟩
     go_simp
     with_reducible rfl
    rotate_left
    ·simp only [Act.put, List.setIfInBounds_toArray, List.set_cons_zero, List.set_cons_succ, i64_w, i32_w]
     rfl
    refine pure_ (i := 30) (N := some 39) (v := ?_) (a' := ?_) #[true, true, true, true, true, true, true, true, true, true, true, true, true, true, true, true, true, true, true, true, true, true, true, true, true, true, true, true, true, true, true, false, false] rfl rfl (any_of HT_.out (by kernel_rfl)) (fun _ _ _ h => h) (Or.inl ⟨by rfl, ?_⟩) ?_ ?_
    rotate_left
    ·intro w'
     go_simp
     with_reducible rfl
    rotate_left
    ·simp only [Act.put, List.setIfInBounds_toArray, List.set_cons_zero, List.set_cons_succ, i64_w, i32_w]
     rfl
    refine pure_ (i := 31) (N := some 40) (v := ?_) (a' := ?_) #[true, true, true, true, true, true, true, true, true, true, true, true, true, true, true, true, true, true, true, true, true, true, true, true, true, true, true, true, true, true, true, true, false] rfl rfl (any_of HT_.out (by kernel_rfl)) (fun _ _ _ h => h) (Or.inl ⟨by rfl, ?_⟩) ?_ ?_
    rotate_left
    ·intro w'
     go_simp
     with_reducible rfl
    rotate_left
    ·simp only [Act.put, List.setIfInBounds_toArray, List.set_cons_zero, List.set_cons_succ, i64_w, i32_w]
     rfl
    refine pure_ (i := 32) (N := some 41) (v := ?_) (a' := ?_) #[true, true, true, true, true, true, true, true, true, true, true, true, true, true, true, true, true, true, true, true, true, true, true, true, true, true, true, true, true, true, true, true, true] rfl rfl (any_of HT_.out (by kernel_rfl)) (fun _ _ _ h => h) (Or.inl ⟨by rfl, ?_⟩) ?_ ?_
    rotate_left
    ·intro w'
     go_simp
     with_reducible rfl
    rotate_left
    ·simp only [Act.put, List.setIfInBounds_toArray, List.set_cons_zero, List.set_cons_succ, i64_w, i32_w]
     rfl
    refine done_ (done_of HT_.out (by kernel_rfl)) ?_
    obtain ⟨ASz17_11, cSz17_11, HGz17, hgz17, HSz17_11⟩ := HI0.out
    have hcz17_0 := cellS48_0 HGz17
    have hcz17_1 := cellS48_1 HGz17
    have hcz17_2 := cellS48_2 HGz17
    have hcz17_3 := cellS48_3 HGz17
    have hcz17_4 := cellS48_4 HGz17
    have hcz17_5 := cellS48_5 HGz17
    have hcz17_6 := cellS48_6 HGz17
    have hcz17_7 := cellS48_7 HGz17
    have hcz17_8 := cellS48_8 HGz17
    have hcz17_9 := cellS48_9 HGz17
    have hcz17_10 := cellS48_10 HGz17
    have hcz17_11 := cellS48_11 HGz17
    have hcz17_12 := cellS48_12 HGz17
    have hcz17_13 := cellS48_13 HGz17
    have hcz17_14 := cellS48_14 HGz17
    have hcz17_15 := cellS48_15 HGz17
    have hcz17_16 := cellS48_16 HGz17
    have hcz17_17 := cellS48_17 HGz17
    have hfz17_0 := blk_frozen HGz17 0
    have hfz17_1 := blk_frozen HGz17 1
    have hfz17_2 := blk_frozen HGz17 2
    have hfz17_3 := blk_frozen HGz17 3
    have hfz17_4 := blk_frozen HGz17 4
    have hfz17_5 := blk_frozen HGz17 5
    have hfz17_6 := blk_frozen HGz17 6
    have hfz17_7 := blk_frozen HGz17 7
    have hfz17_8 := blk_frozen HGz17 8
    have hfz17_9 := blk_frozen HGz17 9
    have hfz17_10 := blk_frozen HGz17 10
    have hfz17_12 := blk_frozen HGz17 12
    have hfz17_13 := blk_frozen HGz17 13
    have hfz17_14 := blk_frozen HGz17 14
    have hfz17_15 := blk_frozen HGz17 15
    have hfz17_16 := blk_frozen HGz17 16
    have hfz17_17 := blk_frozen HGz17 17
    clear HGz17 hgz17
    try go_wp2
    go_ret
    exact ⟨by first | rfl | (simp [errW_none, errW_some] <;> rfl) | (simp [*, errW_none, errW_some] <;> rfl), by repeat (first | (with_reducible first | exact HI0.out | apply IsS48.alloc | apply IsS48.drewN | apply IsS48.drew | apply IsS48.set_0 | apply IsS48.set_1 | apply IsS48.set_2 | apply IsS48.set_3 | apply IsS48.set_4 | apply IsS48.set_5 | apply IsS48.set_6 | apply IsS48.set_7 | apply IsS48.set_8 | apply IsS48.set_9 | apply IsS48.set_10 | apply IsS48.set_12 | apply IsS48.set_13 | apply IsS48.set_14 | apply IsS48.set_15 | apply IsS48.set_16 | apply IsS48.set_17) | exact HI0.out), by repeat (first | (with_reducible first | exact HB.out | apply below_alloc | apply pw_below_drewN | apply below_drew1 | refine below_set ?_ (IsS48.ge HI0.out)) | exact HB.out), by repeat (first | (with_reducible first | exact HK.out | apply KeepBut.set_ | apply keep_drewN | apply keep_drew | apply keep_alloc) | exact HK.out)⟩
  ·replace c5 := Bool.eq_false_iff.mpr c5
   subst c5
   have H1 : ((muldiv_Do.f s0_13 1 2 1).bind fun t123 => (some (mx t123 s0_1, s0_0, s0_1, s0_2, s0_3, s0_4, s0_5, s0_6, s0_7, s0_8, s0_9, s0_10, s0_12, mx t123 s0_1, s0_14, t121, true, s0_17))) = some (r1, r2, r3, r4, r5, r6, r7, r8, r9, r10, r11, r12, r13, r14, r15, r16, r17, r18) := by rw [if_neg (show ¬ (false = true) by decide)] at H; exact H
   clear H
   have H := H1
   clear H1
   replace H := Option.bind_eq_some_iff.mp H
   obtain ⟨t123, A180, H⟩ := H
   replace H : (some (mx t123 s0_1, s0_0, s0_1, s0_2, s0_3, s0_4, s0_5, s0_6, s0_7, s0_8, s0_9, s0_10, s0_12, mx t123 s0_1, s0_14, t121, true, s0_17)) = some (r1, r2, r3, r4, r5, r6, r7, r8, r9, r10, r11, r12, r13, r14, r15, r16, r17, r18) := H
   have A18 := Aside0.mk A180
   clear A180
   obtain ⟨ji19, hji19⟩ : ∃ j_ : Int, (mx t123 s0_1) = j_ := ⟨_, rfl⟩
   replace H : (some (ji19, s0_0, s0_1, s0_2, s0_3, s0_4, s0_5, s0_6, s0_7, s0_8, s0_9, s0_10, s0_12, ji19, s0_14, t121, true, s0_17)) = some (r1, r2, r3, r4, r5, r6, r7, r8, r9, r10, r11, r12, r13, r14, r15, r16, r17, r18) := by first | (rw [hji19] at H; exact H) | (simp only [hji19] at H ⊢; exact H)
   (try rw [hji19] at A3)
   (try rw [hji19] at A18)
   have hji19_ : (if t123 < s0_1 then s0_1 else t123) = ji19 := hji19
   simp only [Option.some.injEq, Prod.mk.injEq] at H
   obtain ⟨rfl, rfl, rfl, rfl, rfl, rfl, rfl, rfl, rfl, rfl, rfl, rfl, rfl, rfl, rfl, rfl, rfl, rfl⟩ := H
   go_enter Try.func17, Try.ntmps17
   try go_wp2_with (first | ((with_reducible refine gate_callee (f := 19) rfl ?_); refine goesL_ (some 8) rfl rfl Try.func19 (by kernel_rfl) rfl #[.int .i64 a1, .int .i64 0, .int .i64 1125899906842624] rfl (by (try simp only [List.map_toArray, List.map_cons, List.map_nil]); first | done | rfl | (simp only [List.length_drop, List.length_take]; rfl)) ?_; (with_reducible refine (sat_Clamp.calls a1 0 1125899906842624 t121 _ A3.out).mono ?_); rintro e w' ⟨rfl, ⟨nd, rfl⟩⟩; refine ⟨_, rfl, ?_⟩; (generalize hq_ : World.drewN w _ = w20; have n0_ : Aside0 (IsS48 w0 w20 g s0_0 s0_1 s0_2 s0_3 s0_4 s0_5 s0_6 s0_7 s0_8 s0_9 s0_10 s0_11 s0_12 s0_13 s0_14 s0_15 false s0_17) := ⟨by rw [← hq_]; exact (by repeat (first | (with_reducible first | exact HI0.out | apply IsS48.alloc | apply IsS48.drewN | apply IsS48.drew | apply IsS48.set_0 | apply IsS48.set_1 | apply IsS48.set_2 | apply IsS48.set_3 | apply IsS48.set_4 | apply IsS48.set_5 | apply IsS48.set_6 | apply IsS48.set_7 | apply IsS48.set_8 | apply IsS48.set_9 | apply IsS48.set_10 | apply IsS48.set_12 | apply IsS48.set_13 | apply IsS48.set_14 | apply IsS48.set_15 | apply IsS48.set_16 | apply IsS48.set_17) | exact HI0.out))⟩; have n1_ : Aside0 (KeepBut w w20 g none) := ⟨by rw [← hq_]; exact (by repeat (first | (with_reducible first | exact HK.out | apply KeepBut.set_ | apply keep_drewN | apply keep_drew | apply keep_alloc) | exact HK.out))⟩; have n2_ : Aside0 (Below w0.heap.size w0 w20) := ⟨by rw [← hq_]; exact (by repeat (first | (with_reducible first | exact HB.out | apply below_alloc | apply pw_below_drewN | apply below_drew1 | refine below_set ?_ (IsS48.ge HI0.out)) | exact HB.out))⟩; clear HI0 HK HB hq_; have HI0 := n0_; have HK := n1_; have HB := n2_; clear n0_ n1_ n2_)))
   have n0_ := Aside0.mk (IsS48.drew HI0.out)
   have n1_ := Aside0.mk (keep_drew HK.out)
   have n2_ := Aside0.mk (below_drew1 HB.out)
   clear HI0
   clear HK
   clear HB
   have HI0 := n0_
   have HK := n1_
   have HB := n2_
   clear n0_ n1_ n2_
   refine start_ (n := 33) (S := fun w' => w'.cell? ⟨g, 0, none⟩ = some (.int .i64 s0_0) ∧ w'.cell? ⟨g, 1, none⟩ = some (.int .i64 s0_1) ∧ w'.cell? ⟨g, 2, none⟩ = some (.int .i64 s0_2) ∧ w'.cell? ⟨g, 3, none⟩ = some (.int .i64 s0_3) ∧ w'.cell? ⟨g, 4, none⟩ = some (.int .i64 s0_4) ∧ w'.cell? ⟨g, 5, none⟩ = some (.int .i64 s0_5) ∧ w'.cell? ⟨g, 6, none⟩ = some (.int .i64 s0_6) ∧ w'.cell? ⟨g, 7, none⟩ = some (.int .i64 s0_7) ∧ w'.cell? ⟨g, 8, none⟩ = some (.int .i64 s0_8) ∧ w'.cell? ⟨g, 9, none⟩ = some (.int .i64 s0_9) ∧ w'.cell? ⟨g, 10, none⟩ = some (.int .i64 s0_10) ∧ w'.cell? ⟨g, 12, none⟩ = some (.int .i64 s0_12) ∧ w'.cell? ⟨g, 13, none⟩ = some (.int .i64 s0_13) ∧ w'.cell? ⟨g, 14, none⟩ = some (.int .i64 s0_14) ∧ w'.cell? ⟨g, 15, none⟩ = some (.int .i64 s0_15) ∧ w'.cell? ⟨g, 16, none⟩ = some (.bool false) ∧ w'.cell? ⟨g, 17, none⟩ = some (.bool s0_17)) (ds := []) #[false, false, false, false, false, false, false, false, false, false, false, false, false, false, false, false, false, false, false, false, false, false, false, false, false, false, false, false, false, false, false, false, false] (by kernel_rfl) rfl rfl ⟨(IsS48.cell_0 HI0.out), (IsS48.cell_1 HI0.out), (IsS48.cell_2 HI0.out), (IsS48.cell_3 HI0.out), (IsS48.cell_4 HI0.out), (IsS48.cell_5 HI0.out), (IsS48.cell_6 HI0.out), (IsS48.cell_7 HI0.out), (IsS48.cell_8 HI0.out), (IsS48.cell_9 HI0.out), (IsS48.cell_10 HI0.out), (IsS48.cell_12 HI0.out), (IsS48.cell_13 HI0.out), (IsS48.cell_14 HI0.out), (IsS48.cell_15 HI0.out), (IsS48.cell_16 HI0.out), (IsS48.cell_17 HI0.out)⟩ (fun hHeld => ?_); refine with_tabW guard_Guard_Tick.tab4 guard_Guard_Tick.bits4 (fun HT_ HW_ => ?_)
   generalize w20.drew = w21 at HI0 HK HB hHeld ⊢
   refine pure_ (i := 0) (N := some 9) (v := ?_) (a' := ?_) #[true, false, false, false, false, false, false, false, false, false, false, false, false, false, false, false, false, false, false, false, false, false, false, false, false, false, false, false, false, false, false, false, false] rfl rfl (any_of HT_.out (by kernel_rfl)) (fun _ _ _ h => h) (Or.inl ⟨by rfl, ?_⟩) ?_ ?_
   rotate_left
   ·intro w'
    go_simp
    with_reducible rfl
   rotate_left
   ·simp only [Act.put, List.setIfInBounds_toArray, List.set_cons_zero, List.set_cons_succ, i64_w, i32_w]
    rfl
   refine pure_ (i := 1) (N := some 10) (v := ?_) (a' := ?_) #[true, true, false, false, false, false, false, false, false, false, false, false, false, false, false, false, false, false, false, false, false, false, false, false, false, false, false, false, false, false, false, false, false] rfl rfl (any_of HT_.out (by kernel_rfl)) (fun _ _ _ h => h) (Or.inl ⟨by rfl, ?_⟩) ?_ ?_
   rotate_left
   ·intro w'
    go_simp
    with_reducible rfl
   rotate_left
   ·simp only [Act.put, List.setIfInBounds_toArray, List.set_cons_zero, List.set_cons_succ, i64_w, i32_w]
    rfl
   refine pure_ (i := 2) (N := some 11) (v := ?_) (a' := ?_) #[true, true, true, false, false, false, false, false, false, false, false, false, false, false, false, false, false, false, false, false, false, false, false, false, false, false, false, false, false, false, false, false, false] rfl rfl (any_of HT_.out (by kernel_rfl)) (fun _ _ _ h => h) (Or.inl ⟨by rfl, ?_⟩) ?_ ?_
   rotate_left
   ·intro w'
    go_simp
    with_reducible rfl
   rotate_left
   ·simp only [Act.put, List.setIfInBounds_toArray, List.set_cons_zero, List.set_cons_succ, i64_w, i32_w]
    rfl
   refine pure_ (i := 3) (N := some 12) (v := ?_) (a' := ?_) #[true, true, true, true, false, false, false, false, false, false, false, false, false, false, false, false, false, false, false, false, false, false, false, false, false, false, false, false, false, false, false, false, false] rfl rfl (any_of HT_.out (by kernel_rfl)) (fun _ _ _ h => h) (Or.inl ⟨by rfl, ?_⟩) ?_ ?_
   rotate_left
   ·intro w'
    go_simp
    with_reducible rfl
   rotate_left
   ·simp only [Act.put, List.setIfInBounds_toArray, List.set_cons_zero, List.set_cons_succ, i64_w, i32_w]
    rfl
   refine pure_ (i := 6) (N := some 15) (v := ?_) (a' := ?_) #[true, true, true, true, false, false, true, false, false, false, false, false, false, false, false, false, false, false, false, false, false, false, false, false, false, false, false, false, false, false, false, false, false] rfl rfl (any_of HT_.out (by kernel_rfl)) (fun _ _ _ h => h) (Or.inl ⟨by rfl, ?_⟩) ?_ ?_
   rotate_left
   ·intro w'
    go_simp
    with_reducible rfl
   rotate_left
   ·simp only [Act.put, List.setIfInBounds_toArray, List.set_cons_zero, List.set_cons_succ, i64_w, i32_w]
    rfl
   refine pure_ (i := 7) (N := some 16) (v := ?_) (a' := ?_) #[true, true, true, true, false, false, true, true, false, false, false, false, false, false, false, false, false, false, false, false, false, false, false, false, false, false, false, false, false, false, false, false, false] rfl rfl (any_of HT_.out (by kernel_rfl)) (fun _ _ _ h => h) (Or.inl ⟨by rfl, ?_⟩) ?_ ?_
   rotate_left
   ·intro w'
    go_simp
    with_reducible rfl
   rotate_left
   ·simp only [Act.put, List.setIfInBounds_toArray, List.set_cons_zero, List.set_cons_succ, i64_w, i32_w]
    rfl
   refine pure_ (i := 8) (N := some 17) (v := ?_) (a' := ?_) #[true, true, true, true, false, false, true, true, true, false, false, false, false, false, false, false, false, false, false, false, false, false, false, false, false, false, false, false, false, false, false, false, false] rfl rfl (any_of HT_.out (by kernel_rfl)) (fun _ _ _ h => h) (Or.inl ⟨by rfl, ?_⟩) ?_ ?_
   rotate_left
   ·intro w'
    go_simp
    with_reducible rfl
   rotate_left
   ·simp only [Act.put, List.setIfInBounds_toArray, List.set_cons_zero, List.set_cons_succ, i64_w, i32_w]
    rfl
   refine pure_ (i := 9) (N := some 18) (v := ?_) (a' := ?_) #[true, true, true, true, false, false, true, true, true, true, false, false, false, false, false, false, false, false, false, false, false, false, false, false, false, false, false, false, false, false, false, false, false] rfl rfl (any_of HT_.out (by kernel_rfl)) (fun _ _ _ h => h) (Or.inl ⟨by rfl, ?_⟩) ?_ ?_
   rotate_left
   ·intro w'
    go_simp
    with_reducible rfl
   rotate_left
   ·simp only [Act.put, List.setIfInBounds_toArray, List.set_cons_zero, List.set_cons_succ, i64_w, i32_w]
    rfl
   refine take_ (i := 4) (N := some 13) (v := ?_) (a' := ?_) #[true, true, true, true, true, false, true, true, true, true, false, false, false, false, false, false, false, false, false, false, false, false, false, false, false, false, false, false, false, false, false, false, false] rfl rfl (take_ofW HT_.out HW_.out (by kernel_rfl)) (fun _ _ _ h => h) (Or.inl ⟨by rfl, ?_⟩) hHeld ?_ ?_
   rotate_left
   ·rintro w' ⟨s0, s1, s2, s3, s4, s5, s6, s7, s8, s9, s10, s11, s12, s13, s14, s15, s16⟩
    go_simp
    with_reducible rfl
   rotate_left
   ·simp only [Act.put, List.setIfInBounds_toArray, List.set_cons_zero, List.set_cons_succ, i64_w, i32_w]
    rfl
   refine pure_ (i := 5) (N := some 14) (v := ?_) (a' := ?_) #[true, true, true, true, true, true, true, true, true, true, false, false, false, false, false, false, false, false, false, false, false, false, false, false, false, false, false, false, false, false, false, false, false] rfl rfl (any_of HT_.out (by kernel_rfl)) (fun _ _ _ h => h) (Or.inl ⟨by rfl, ?_⟩) ?_ ?_
   rotate_left
   ·intro w'
    go_simp
    with_reducible rfl
   rotate_left
   ·simp only [Act.put, List.setIfInBounds_toArray, List.set_cons_zero, List.set_cons_succ, i64_w, i32_w]
    rfl
   refine take_ (i := 10) (N := some 19) (v := ?_) (a' := ?_) #[true, true, true, true, true, true, true, true, true, true, true, false, false, false, false, false, false, false, false, false, false, false, false, false, false, false, false, false, false, false, false, false, false] rfl rfl (take_ofW HT_.out HW_.out (by kernel_rfl)) (fun _ _ _ h => h) (Or.inl ⟨by rfl, ?_⟩) hHeld ?_ ?_
   rotate_left
   ·rintro w' ⟨s0, s1, s2, s3, s4, s5, s6, s7, s8, s9, s10, s11, s12, s13, s14, s15, s16⟩
    go_simp
    with_reducible rfl
   rotate_left
   ·simp only [Act.put, List.setIfInBounds_toArray, List.set_cons_zero, List.set_cons_succ, i64_w, i32_w]
    rfl
   refine pure_ (i := 11) (N := some 20) (v := ?_) (a' := ?_) #[true, true, true, true, true, true, true, true, true, true, true, true, false, false, false, false, false, false, false, false, false, false, false, false, false, false, false, false, false, false, false, false, false] rfl rfl (any_of HT_.out (by kernel_rfl)) (fun _ _ _ h => h) (Or.inl ⟨by rfl, ?_⟩) ?_ ?_
   rotate_left
   ·intro w'
    go_simp
    with_reducible rfl
   rotate_left
   ·simp only [Act.put, List.setIfInBounds_toArray, List.set_cons_zero, List.set_cons_succ, i64_w, i32_w]
    rfl
   refine pure_ (i := 12) (N := some 21) (v := ?_) (a' := ?_) #[true, true, true, true, true, true, true, true, true, true, true, true, true, false, false, false, false, false, false, false, false, false, false, false, false, false, false, false, false, false, false, false, false] rfl rfl (any_of HT_.out (by kernel_rfl)) (fun _ _ _ h => h) (Or.inl ⟨by rfl, ?_⟩) ?_ ?_
   rotate_left
   ·intro w'
    go_simp
    with_reducible rfl
   rotate_left
   ·simp only [Act.put, List.setIfInBounds_toArray, List.set_cons_zero, List.set_cons_succ, i64_w, i32_w]
    rfl
   refine pure_ (i := 13) (N := some 22) (v := ?_) (a' := ?_) #[true, true, true, true, true, true, true, true, true, true, true, true, true, true, false, false, false, false, false, false, false, false, false, false, false, false, false, false, false, false, false, false, false] rfl rfl (any_of HT_.out (by kernel_rfl)) (fun _ _ _ h => h) (Or.inl ⟨by rfl, ?_⟩) ?_ ?_
   rotate_left
   ·intro w'
    go_simp
    with_reducible rfl
   rotate_left
   ·simp only [Act.put, List.setIfInBounds_toArray, List.set_cons_zero, List.set_cons_succ, i64_w, i32_w]
    rfl
   refine pure_ (i := 14) (N := some 23) (v := ?_) (a' := ?_) #[true, true, true, true, true, true, true, true, true, true, true, true, true, true, true, false, false, false, false, false, false, false, false, false, false, false, false, false, false, false, false, false, false] rfl rfl (any_of HT_.out (by kernel_rfl)) (fun _ _ _ h => h) (Or.inl ⟨by rfl, ?_⟩) ?_ ?_
   rotate_left
   ·intro w'
    go_simp
    with_reducible rfl
   rotate_left
   ·simp only [Act.put, List.setIfInBounds_toArray, List.set_cons_zero, List.set_cons_succ, i64_w, i32_w]
    rfl
   refine pure_ (i := 15) (N := some 24) (v := ?_) (a' := ?_) #[true, true, true, true, true, true, true, true, true, true, true, true, true, true, true, true, false, false, false, false, false, false, false, false, false, false, false, false, false, false, false, false, false] rfl rfl (any_of HT_.out (by kernel_rfl)) (fun _ _ _ h => h) (Or.inl ⟨by rfl, ?_⟩) ?_ ?_
   rotate_left
   ·intro w'
    go_simp
    with_reducible rfl
   rotate_left
   ·simp only [Act.put, List.setIfInBounds_toArray, List.set_cons_zero, List.set_cons_succ, i64_w, i32_w]
    rfl
   refine take_ (i := 16) (N := some 25) (v := ?_) (a' := ?_) #[true, true, true, true, true, true, true, true, true, true, true, true, true, true, true, true, true, false, false, false, false, false, false, false, false, false, false, false, false, false, false, false, false] rfl rfl (take_ofW HT_.out HW_.out (by kernel_rfl)) (fun _ _ _ h => h) (Or.inl ⟨by rfl, ?_⟩) hHeld ?_ ?_
   rotate_left
   ·rintro w' ⟨s0, s1, s2, s3, s4, s5, s6, s7, s8, s9, s10, s11, s12, s13, s14, s15, s16⟩
    go_simp
    with_reducible rfl
   rotate_left
   ·simp only [Act.put, List.setIfInBounds_toArray, List.set_cons_zero, List.set_cons_succ, i64_w, i32_w]
    rfl
   refine pure_ (i := 17) (N := some 26) (v := ?_) (a' := ?_) #[true, true, true, true, true, true, true, true, true, true, true, true, true, true, true, true, true, true, false, false, false, false, false, false, false, false, false, false, false, false, false, false, false] rfl rfl (any_of HT_.out (by kernel_rfl)) (fun _ _ _ h => h) (Or.inl ⟨by rfl, ?_⟩) ?_ ?_
   rotate_left
   ·intro w'
    go_simp
    with_reducible rfl
   rotate_left
   ·simp only [Act.put, List.setIfInBounds_toArray, List.set_cons_zero, List.set_cons_succ, i64_w, i32_w]
    rfl
   refine pure_ (i := 18) (N := some 27) (v := ?_) (a' := ?_) #[true, true, true, true, true, true, true, true, true, true, true, true, true, true, true, true, true, true, true, false, false, false, false, false, false, false, false, false, false, false, false, false, false] rfl rfl (any_of HT_.out (by kernel_rfl)) (fun _ _ _ h => h) (Or.inl ⟨by rfl, ?_⟩) ?_ ?_
   rotate_left
   ·intro w'
    go_simp
    with_reducible rfl
   rotate_left
   ·simp only [Act.put, List.setIfInBounds_toArray, List.set_cons_zero, List.set_cons_succ, i64_w, i32_w]
    rfl
   refine pure_ (i := 19) (N := some 28) (v := undef) (a' := ?_) #[true, true, true, true, true, true, true, true, true, true, true, true, true, true, true, true, true, true, true, true, false, false, false, false, false, false, false, false, false, false, false, false, false] rfl rfl (any_of HT_.out (by kernel_rfl)) (fun _ _ _ h => h) (Or.inr ⟨by rfl, rfl⟩) ?_ ?_
   rotate_left
   ·simp only [Act.put, List.setIfInBounds_toArray, List.set_cons_zero, List.set_cons_succ, i64_w, i32_w]
    rfl
   refine pure_ (i := 20) (N := some 29) (v := undef) (a' := ?_) #[true, true, true, true, true, true, true, true, true, true, true, true, true, true, true, true, true, true, true, true, true, false, false, false, false, false, false, false, false, false, false, false, false] rfl rfl (any_of HT_.out (by kernel_rfl)) (fun _ _ _ h => h) (Or.inr ⟨by rfl, rfl⟩) ?_ ?_
   rotate_left
   ·simp only [Act.put, List.setIfInBounds_toArray, List.set_cons_zero, List.set_cons_succ, i64_w, i32_w]
    rfl
   refine pure_ (i := 21) (N := some 30) (v := undef) (a' := ?_) #[true, true, true, true, true, true, true, true, true, true, true, true, true, true, true, true, true, true, true, true, true, true, false, false, false, false, false, false, false, false, false, false, false] rfl rfl (any_of HT_.out (by kernel_rfl)) (fun _ _ _ h => h) (Or.inr ⟨by rfl, rfl⟩) ?_ ?_
   rotate_left
   ·simp only [Act.put, List.setIfInBounds_toArray, List.set_cons_zero, List.set_cons_succ, i64_w, i32_w]
    rfl
   refine pure_ (i := 22) (N := some 31) (v := undef) (a' := ?_) #[true, true, true, true, true, true, true, true, true, true, true, true, true, true, true, true, true, true, true, true, true, true, true, false, false, false, false, false, false, false, false, false, false] rfl rfl (any_of HT_.out (by kernel_rfl)) (fun _ _ _ h => h) (Or.inr ⟨by rfl, rfl⟩) ?_ ?_
   rotate_left
   ·simp only [Act.put, List.setIfInBounds_toArray, List.set_cons_zero, List.set_cons_succ, i64_w, i32_w]
    rfl
   refine pure_ (i := 23) (N := some 32) (v := undef) (a' := ?_) #[true, true, true, true, true, true, true, true, true, true, true, true, true, true, true, true, true, true, true, true, true, true, true, true, false, false, false, false, false, false, false, false, false] rfl rfl (any_of HT_.out (by kernel_rfl)) (fun _ _ _ h => h) (Or.inr ⟨by rfl, rfl⟩) ?_ ?_
   rotate_left
   ·simp only [Act.put, List.setIfInBounds_toArray, List.set_cons_zero, List.set_cons_succ, i64_w, i32_w]
    rfl
   refine pure_ (i := 24) (N := some 33) (v := undef) (a' := ?_) #[true, true, true, true, true, true, true, true, true, true, true, true, true, true, true, true, true, true, true, true, true, true, true, true, true, false, false, false, false, false, false, false, false] rfl rfl (any_of HT_.out (by kernel_rfl)) (fun _ _ _ h => h) (Or.inr ⟨by rfl, rfl⟩) ?_ ?_
   rotate_left
   ·simp only [Act.put, List.setIfInBounds_toArray, List.set_cons_zero, List.set_cons_succ, i64_w, i32_w]
    rfl
   refine pure_ (i := 25) (N := some 34) (v := undef) (a' := ?_) #[true, true, true, true, true, true, true, true, true, true, true, true, true, true, true, true, true, true, true, true, true, true, true, true, true, true, false, false, false, false, false, false, false] rfl rfl (any_of HT_.out (by kernel_rfl)) (fun _ _ _ h => h) (Or.inr ⟨by rfl, rfl⟩) ?_ ?_
   rotate_left
   ·simp only [Act.put, List.setIfInBounds_toArray, List.set_cons_zero, List.set_cons_succ, i64_w, i32_w]
    rfl
   refine pure_ (i := 26) (N := some 35) (v := undef) (a' := ?_) #[true, true, true, true, true, true, true, true, true, true, true, true, true, true, true, true, true, true, true, true, true, true, true, true, true, true, true, false, false, false, false, false, false] rfl rfl (any_of HT_.out (by kernel_rfl)) (fun _ _ _ h => h) (Or.inr ⟨by rfl, rfl⟩) ?_ ?_
   rotate_left
   ·simp only [Act.put, List.setIfInBounds_toArray, List.set_cons_zero, List.set_cons_succ, i64_w, i32_w]
    rfl
   refine pure_ (i := 27) (N := some 36) (v := undef) (a' := ?_) #[true, true, true, true, true, true, true, true, true, true, true, true, true, true, true, true, true, true, true, true, true, true, true, true, true, true, true, true, false, false, false, false, false] rfl rfl (any_of HT_.out (by kernel_rfl)) (fun _ _ _ h => h) (Or.inr ⟨by rfl, rfl⟩) ?_ ?_
   rotate_left
   ·simp only [Act.put, List.setIfInBounds_toArray, List.set_cons_zero, List.set_cons_succ, i64_w, i32_w]
    rfl
   refine pure_ (i := 28) (N := some 37) (v := undef) (a' := ?_) #[true, true, true, true, true, true, true, true, true, true, true, true, true, true, true, true, true, true, true, true, true, true, true, true, true, true, true, true, true, false, false, false, false] rfl rfl (any_of HT_.out (by kernel_rfl)) (fun _ _ _ h => h) (Or.inr ⟨by rfl, rfl⟩) ?_ ?_
   rotate_left
   ·simp only [Act.put, List.setIfInBounds_toArray, List.set_cons_zero, List.set_cons_succ, i64_w, i32_w]
    rfl
   refine pure_ (i := 29) (N := some 38) (v := undef) (a' := ?_) #[true, true, true, true, true, true, true, true, true, true, true, true, true, true, true, true, true, true, true, true, true, true, true, true, true, true, true, true, true, true, false, false, false] rfl rfl (any_of HT_.out (by kernel_rfl)) (fun _ _ _ h => h) (Or.inr ⟨by rfl, rfl⟩) ?_ ?_
   rotate_left
   ·simp only [Act.put, List.setIfInBounds_toArray, List.set_cons_zero, List.set_cons_succ, i64_w, i32_w]
    rfl
   refine pure_ (i := 30) (N := some 39) (v := undef) (a' := ?_) #[true, true, true, true, true, true, true, true, true, true, true, true, true, true, true, true, true, true, true, true, true, true, true, true, true, true, true, true, true, true, true, false, false] rfl rfl (any_of HT_.out (by kernel_rfl)) (fun _ _ _ h => h) (Or.inr ⟨by rfl, rfl⟩) ?_ ?_
   rotate_left
   ·simp only [Act.put, List.setIfInBounds_toArray, List.set_cons_zero, List.set_cons_succ, i64_w, i32_w]
    rfl
   refine pure_ (i := 31) (N := some 40) (v := ?_) (a' := ?_) #[true, true, true, true, true, true, true, true, true, true, true, true, true, true, true, true, true, true, true, true, true, true, true, true, true, true, true, true, true, true, true, true, false] rfl rfl (any_of HT_.out (by kernel_rfl)) (fun _ _ _ h => h) (Or.inl ⟨by rfl, ?_⟩) ?_ ?_
   rotate_left
   ·intro w'
    go_simp
    with_reducible rfl
   rotate_left
   ·simp only [Act.put, List.setIfInBounds_toArray, List.set_cons_zero, List.set_cons_succ, i64_w, i32_w]
    rfl
   refine pure_ (i := 32) (N := some 41) (v := ?_) (a' := ?_) #[true, true, true, true, true, true, true, true, true, true, true, true, true, true, true, true, true, true, true, true, true, true, true, true, true, true, true, true, true, true, true, true, true] rfl rfl (any_of HT_.out (by kernel_rfl)) (fun _ _ _ h => h) (Or.inl ⟨by rfl, ?_⟩) ?_ ?_
   rotate_left
   ·intro w'
    go_simp
    with_reducible rfl
   rotate_left
   ·simp only [Act.put, List.setIfInBounds_toArray, List.set_cons_zero, List.set_cons_succ, i64_w, i32_w]
    rfl
   refine done_ (done_of HT_.out (by kernel_rfl)) ?_
   try go_wp2
   have n0_ := Aside0.mk (IsS48.drew HI0.out)
   have n1_ := Aside0.mk (keep_drew HK.out)
   have n2_ := Aside0.mk (below_drew1 HB.out)
   clear HI0
   clear HK
   clear HB
   have HI0 := n0_
   have HK := n1_
   have HB := n2_
   clear n0_ n1_ n2_
   refine start_ (n := 15) (S := fun w' => w'.cell? ⟨g, 0, none⟩ = some (.int .i64 s0_0) ∧ w'.cell? ⟨g, 1, none⟩ = some (.int .i64 s0_1) ∧ w'.cell? ⟨g, 2, none⟩ = some (.int .i64 s0_2) ∧ w'.cell? ⟨g, 3, none⟩ = some (.int .i64 s0_3) ∧ w'.cell? ⟨g, 4, none⟩ = some (.int .i64 s0_4) ∧ w'.cell? ⟨g, 5, none⟩ = some (.int .i64 s0_5) ∧ w'.cell? ⟨g, 6, none⟩ = some (.int .i64 s0_6) ∧ w'.cell? ⟨g, 7, none⟩ = some (.int .i64 s0_7) ∧ w'.cell? ⟨g, 8, none⟩ = some (.int .i64 s0_8) ∧ w'.cell? ⟨g, 9, none⟩ = some (.int .i64 s0_9) ∧ w'.cell? ⟨g, 10, none⟩ = some (.int .i64 s0_10) ∧ w'.cell? ⟨g, 12, none⟩ = some (.int .i64 s0_12) ∧ w'.cell? ⟨g, 13, none⟩ = some (.int .i64 s0_13) ∧ w'.cell? ⟨g, 14, none⟩ = some (.int .i64 s0_14) ∧ w'.cell? ⟨g, 15, none⟩ = some (.int .i64 s0_15) ∧ w'.cell? ⟨g, 16, none⟩ = some (.bool false) ∧ w'.cell? ⟨g, 17, none⟩ = some (.bool s0_17)) (ds := [14]) #[false, false, false, false, false, false, false, false, false, false, false, false, false, false, false] (by kernel_rfl) rfl rfl ⟨(IsS48.cell_0 HI0.out), (IsS48.cell_1 HI0.out), (IsS48.cell_2 HI0.out), (IsS48.cell_3 HI0.out), (IsS48.cell_4 HI0.out), (IsS48.cell_5 HI0.out), (IsS48.cell_6 HI0.out), (IsS48.cell_7 HI0.out), (IsS48.cell_8 HI0.out), (IsS48.cell_9 HI0.out), (IsS48.cell_10 HI0.out), (IsS48.cell_12 HI0.out), (IsS48.cell_13 HI0.out), (IsS48.cell_14 HI0.out), (IsS48.cell_15 HI0.out), (IsS48.cell_16 HI0.out), (IsS48.cell_17 HI0.out)⟩ (fun hHeld => ?_); refine with_tabW guard_Guard_Tick.tab5 guard_Guard_Tick.bits5 (fun HT_ HW_ => ?_)
   generalize w21.drew = w22 at HI0 HK HB hHeld ⊢
   refine pure_ (i := 0) (N := some 42) (v := ?_) (a' := ?_) #[true, false, false, false, false, false, false, false, false, false, false, false, false, false, false] rfl rfl (any_of HT_.out (by kernel_rfl)) (fun _ _ _ h => h) (Or.inl ⟨by rfl, ?_⟩) ?_ ?_
   rotate_left
   ·intro w'
    go_simp
    with_reducible rfl
   rotate_left
   ·simp only [Act.put, List.setIfInBounds_toArray, List.set_cons_zero, List.set_cons_succ, i64_w, i32_w]
    rfl
   refine pure_ (i := 1) (N := some 43) (v := ?_) (a' := ?_) #[true, true, false, false, false, false, false, false, false, false, false, false, false, false, false] rfl rfl (any_of HT_.out (by kernel_rfl)) (fun _ _ _ h => h) (Or.inl ⟨by rfl, ?_⟩) ?_ ?_
   rotate_left
   ·intro w'
    go_simp
    with_reducible rfl
   rotate_left
   ·simp only [Act.put, List.setIfInBounds_toArray, List.set_cons_zero, List.set_cons_succ, i64_w, i32_w]
    rfl
   refine pure_ (i := 2) (N := some 44) (v := ?_) (a' := ?_) #[true, true, true, false, false, false, false, false, false, false, false, false, false, false, false] rfl rfl (any_of HT_.out (by kernel_rfl)) (fun _ _ _ h => h) (Or.inl ⟨by rfl, ?_⟩) ?_ ?_
   rotate_left
   ·intro w'
    go_simp
    with_reducible rfl
   rotate_left
   ·simp only [Act.put, List.setIfInBounds_toArray, List.set_cons_zero, List.set_cons_succ, i64_w, i32_w]
    rfl
   refine pure_ (i := 3) (N := some 45) (v := ?_) (a' := ?_) #[true, true, true, true, false, false, false, false, false, false, false, false, false, false, false] rfl rfl (any_of HT_.out (by kernel_rfl)) (fun _ _ _ h => h) (Or.inl ⟨by rfl, ?_⟩) ?_ ?_
   rotate_left
   ·intro w'
    go_simp
    with_reducible rfl
   rotate_left
   ·simp only [Act.put, List.setIfInBounds_toArray, List.set_cons_zero, List.set_cons_succ, i64_w, i32_w]
    rfl
   refine pure_ (i := 6) (N := some 48) (v := ?_) (a' := ?_) #[true, true, true, true, false, false, true, false, false, false, false, false, false, false, false] rfl rfl (any_of HT_.out (by kernel_rfl)) (fun _ _ _ h => h) (Or.inl ⟨by rfl, ?_⟩) ?_ ?_
   rotate_left
   ·intro w'
    go_simp
    with_reducible rfl
   rotate_left
   ·simp only [Act.put, List.setIfInBounds_toArray, List.set_cons_zero, List.set_cons_succ, i64_w, i32_w]
    rfl
   refine pure_ (i := 7) (N := some 49) (v := ?_) (a' := ?_) #[true, true, true, true, false, false, true, true, false, false, false, false, false, false, false] rfl rfl (any_of HT_.out (by kernel_rfl)) (fun _ _ _ h => h) (Or.inl ⟨by rfl, ?_⟩) ?_ ?_
   rotate_left
   ·intro w'
    go_simp
    with_reducible rfl
   rotate_left
   ·simp only [Act.put, List.setIfInBounds_toArray, List.set_cons_zero, List.set_cons_succ, i64_w, i32_w]
    rfl
   refine pure_ (i := 8) (N := some 50) (v := ?_) (a' := ?_) #[true, true, true, true, false, false, true, true, true, false, false, false, false, false, false] rfl rfl (any_of HT_.out (by kernel_rfl)) (fun _ _ _ h => h) (Or.inl ⟨by rfl, ?_⟩) ?_ ?_
   rotate_left
   ·intro w'
    go_simp
    with_reducible rfl
   rotate_left
   ·simp only [Act.put, List.setIfInBounds_toArray, List.set_cons_zero, List.set_cons_succ, i64_w, i32_w]
    rfl
   refine pure_ (i := 9) (N := some 51) (v := ?_) (a' := ?_) #[true, true, true, true, false, false, true, true, true, true, false, false, false, false, false] rfl rfl (any_of HT_.out (by kernel_rfl)) (fun _ _ _ h => h) (Or.inl ⟨by rfl, ?_⟩) ?_ ?_
   rotate_left
   ·intro w'
    go_simp
    with_reducible rfl
   rotate_left
   ·simp only [Act.put, List.setIfInBounds_toArray, List.set_cons_zero, List.set_cons_succ, i64_w, i32_w]
    rfl
   refine take_ (i := 4) (N := some 46) (v := ?_) (a' := ?_) #[true, true, true, true, true, false, true, true, true, true, false, false, false, false, false] rfl rfl (take_ofW HT_.out HW_.out (by kernel_rfl)) (fun _ _ _ h => h) (Or.inl ⟨by rfl, ?_⟩) hHeld ?_ ?_
   rotate_left
   ·rintro w' ⟨s0, s1, s2, s3, s4, s5, s6, s7, s8, s9, s10, s11, s12, s13, s14, s15, s16⟩
    go_simp
    with_reducible rfl
   rotate_left
   ·simp only [Act.put, List.setIfInBounds_toArray, List.set_cons_zero, List.set_cons_succ, i64_w, i32_w]
    rfl
   refine take_ (i := 10) (N := some 52) (v := ?_) (a' := ?_) #[true, true, true, true, true, false, true, true, true, true, true, false, false, false, false] rfl rfl (take_ofW HT_.out HW_.out (by kernel_rfl)) (fun _ _ _ h => h) (Or.inl ⟨by rfl, ?_⟩) hHeld ?_ ?_
   rotate_left
   ·rintro w' ⟨s0, s1, s2, s3, s4, s5, s6, s7, s8, s9, s10, s11, s12, s13, s14, s15, s16⟩
    go_simp
    with_reducible rfl
   rotate_left
   ·simp only [Act.put, List.setIfInBounds_toArray, List.set_cons_zero, List.set_cons_succ, i64_w, i32_w]
    rfl
   refine one_ (i := 5) (N := some 47) #[true, true, true, true, true, true, true, true, true, true, true, false, false, false, false] rfl rfl (one_of HT_.out (by kernel_rfl)) (by decide) (fun K hK => ?_)
   refine goes_ Try.func21 (by kernel_rfl) rfl #[.int .i64 s0_13, .int .i64 1, .int .i64 2, .int .i64 1] (by rfl) rfl rfl (by (try simp only [List.map_toArray, List.map_cons, List.map_nil]); first | done | rfl | (simp only [List.length_drop, List.length_take]; rfl)) ?_
   with_reducible refine (muldiv_Do.calls s0_13 1 2 1 t123 _ A18.out).mono ?_
   rintro e w23 ⟨rfl, hb⟩
   refine ⟨_, rfl, ?_⟩
   have n0_ := Aside0.mk (IsS48.below (by repeat (first | (with_reducible first | exact HI0.out | apply IsS48.alloc | apply IsS48.drewN | apply IsS48.drew | apply IsS48.set_0 | apply IsS48.set_1 | apply IsS48.set_2 | apply IsS48.set_3 | apply IsS48.set_4 | apply IsS48.set_5 | apply IsS48.set_6 | apply IsS48.set_7 | apply IsS48.set_8 | apply IsS48.set_9 | apply IsS48.set_10 | apply IsS48.set_12 | apply IsS48.set_13 | apply IsS48.set_14 | apply IsS48.set_15 | apply IsS48.set_16 | apply IsS48.set_17) | exact HI0.out)) hb)
   have n1_ := Aside0.mk (KeepBut.trans (by repeat (first | (with_reducible first | exact HK.out | apply KeepBut.set_ | apply keep_drewN | apply keep_drew | apply keep_alloc) | exact HK.out)) (KeepBut.of_below hb g none) (.inl rfl))
   have n2_ := Aside0.mk (below_step (by repeat (first | (with_reducible first | exact HB.out | apply below_alloc | apply pw_below_drewN | apply below_drew1 | refine below_set ?_ (IsS48.ge HI0.out)) | exact HB.out)) hb)
   clear HI0
   clear HK
   clear HB
   have HI0 := n0_
   have HK := n1_
   have HB := n2_
   clear n0_ n1_ n2_
   (try clear hb)
   (try clear hb2)
   (try clear hk)
   (try clear hi)
   refine hK.out _ _ ⟨(IsS48.cell_0 HI0.out), (IsS48.cell_1 HI0.out), (IsS48.cell_2 HI0.out), (IsS48.cell_3 HI0.out), (IsS48.cell_4 HI0.out), (IsS48.cell_5 HI0.out), (IsS48.cell_6 HI0.out), (IsS48.cell_7 HI0.out), (IsS48.cell_8 HI0.out), (IsS48.cell_9 HI0.out), (IsS48.cell_10 HI0.out), (IsS48.cell_12 HI0.out), (IsS48.cell_13 HI0.out), (IsS48.cell_14 HI0.out), (IsS48.cell_15 HI0.out), (IsS48.cell_16 HI0.out), (IsS48.cell_17 HI0.out)⟩ (fun hHeld => ?_)
   clear hK K
   refine norm_ (a' := ?_) ?_ ?_
   rotate_left
   ·show Act.put _ (some 47) _ = _
    simp only [Act.put, List.setIfInBounds_toArray, List.set_cons_zero, List.set_cons_succ, i64_w, i32_w]
    rfl
   refine pure_ (i := 11) (N := some 53) (v := ?_) (a' := ?_) #[true, true, true, true, true, true, true, true, true, true, true, true, false, false, false] rfl rfl (any_of HT_.out (by kernel_rfl)) (fun _ _ _ h => h) (Or.inl ⟨by rfl, ?_⟩) ?_ ?_
   rotate_left
   ·intro w'
    go_simp
    with_reducible rfl
   rotate_left
   ·simp only [Act.put, List.setIfInBounds_toArray, List.set_cons_zero, List.set_cons_succ, i64_w, i32_w]
    rfl
   refine pure_ (i := 12) (N := some 54) (v := ?_) (a' := ?_) #[true, true, true, true, true, true, true, true, true, true, true, true, true, false, false] rfl rfl (any_of HT_.out (by kernel_rfl)) (fun _ _ _ h => h) (Or.inl ⟨by rfl, ?_⟩) ?_ ?_
   rotate_left
   ·intro w'
    go_simp
    with_reducible rfl
   rotate_left
   ·simp only [Act.put, List.setIfInBounds_toArray, List.set_cons_zero, List.set_cons_succ, i64_w, i32_w]
    rfl
   refine pure_ (i := 13) (N := some 55) (v := ?_) (a' := ?_) #[true, true, true, true, true, true, true, true, true, true, true, true, true, true, false] rfl rfl (any_of HT_.out (by kernel_rfl)) (fun _ _ _ h => h) (Or.inl ⟨by rfl, ?_⟩) ?_ ?_
   rotate_left
   ·intro w'
    go_simp
    with_reducible rfl
   rotate_left
   ·simp only [Act.put, List.setIfInBounds_toArray, List.set_cons_zero, List.set_cons_succ, i64_w, i32_w]
    rfl
   refine last_ (i := 14) (N := none) #[true, true, true, true, true, true, true, true, true, true, true, true, true, true, true] rfl rfl (one_of HT_.out (by kernel_rfl)) (by decide) (fun K hK => ?_)
   have hs24 : w23.cell? ⟨g, 13, none⟩ = some (.int .i64 s0_13) := IsS48.cell_13 HI0.out
   have hfs24 := IsS48.froz_13 HI0.out
   refine skip_ (w1 := ?_) (by rfl) rfl ?_ ?_
   rotate_left
   ·go_simp
    rfl
   refine hK.out _ _ ?_
   clear hK K
   refine done_ (done_of HT_.out (by kernel_rfl)) ?_
   obtain ⟨ASz25_11, cSz25_11, HGz25, hgz25, HSz25_11⟩ := HI0.out
   have hcz25_0 := cellS48_0 HGz25
   have hcz25_1 := cellS48_1 HGz25
   have hcz25_2 := cellS48_2 HGz25
   have hcz25_3 := cellS48_3 HGz25
   have hcz25_4 := cellS48_4 HGz25
   have hcz25_5 := cellS48_5 HGz25
   have hcz25_6 := cellS48_6 HGz25
   have hcz25_7 := cellS48_7 HGz25
   have hcz25_8 := cellS48_8 HGz25
   have hcz25_9 := cellS48_9 HGz25
   have hcz25_10 := cellS48_10 HGz25
   have hcz25_11 := cellS48_11 HGz25
   have hcz25_12 := cellS48_12 HGz25
   have hcz25_13 := cellS48_13 HGz25
   have hcz25_14 := cellS48_14 HGz25
   have hcz25_15 := cellS48_15 HGz25
   have hcz25_16 := cellS48_16 HGz25
   have hcz25_17 := cellS48_17 HGz25
   have hfz25_0 := blk_frozen HGz25 0
   have hfz25_1 := blk_frozen HGz25 1
   have hfz25_2 := blk_frozen HGz25 2
   have hfz25_3 := blk_frozen HGz25 3
   have hfz25_4 := blk_frozen HGz25 4
   have hfz25_5 := blk_frozen HGz25 5
   have hfz25_6 := blk_frozen HGz25 6
   have hfz25_7 := blk_frozen HGz25 7
   have hfz25_8 := blk_frozen HGz25 8
   have hfz25_9 := blk_frozen HGz25 9
   have hfz25_10 := blk_frozen HGz25 10
   have hfz25_12 := blk_frozen HGz25 12
   have hfz25_13 := blk_frozen HGz25 13
   have hfz25_14 := blk_frozen HGz25 14
   have hfz25_15 := blk_frozen HGz25 15
   have hfz25_16 := blk_frozen HGz25 16
   have hfz25_17 := blk_frozen HGz25 17
   clear HGz25 hgz25
   try go_wp2
   go_ret
   exact ⟨by first | rfl | (simp [errW_none, errW_some] <;> rfl) | (simp only [← hji19]; first | rfl | (simp [errW_none, errW_some] <;> rfl)) | (simp [*, errW_none, errW_some] <;> rfl), by repeat (first | (with_reducible first | exact HI0.out | apply IsS48.alloc | apply IsS48.drewN | apply IsS48.drew | apply IsS48.set_0 | apply IsS48.set_1 | apply IsS48.set_2 | apply IsS48.set_3 | apply IsS48.set_4 | apply IsS48.set_5 | apply IsS48.set_6 | apply IsS48.set_7 | apply IsS48.set_8 | apply IsS48.set_9 | apply IsS48.set_10 | apply IsS48.set_12 | apply IsS48.set_13 | apply IsS48.set_14 | apply IsS48.set_15 | apply IsS48.set_16 | apply IsS48.set_17) | exact HI0.out), by repeat (first | (with_reducible first | exact HB.out | apply below_alloc | apply pw_below_drewN | apply below_drew1 | refine below_set ?_ (IsS48.ge HI0.out)) | exact HB.out), by repeat (first | (with_reducible first | exact HK.out | apply KeepBut.set_ | apply keep_drewN | apply keep_drew | apply keep_alloc) | exact HK.out)⟩
 ·rw [if_neg c4] at H
  have c4b0 : decide (s0_7 < (wrap64 (t121 - s0_14))) = false := decide_eq_false c4
  clear c4
  simp only [Option.some.injEq, Prod.mk.injEq] at H
  obtain ⟨rfl, rfl, rfl, rfl, rfl, rfl, rfl, rfl, rfl, rfl, rfl, rfl, rfl, rfl, rfl, rfl, rfl, rfl⟩ := H
  go_enter Try.func17, Try.ntmps17
  try go_wp2_with (first | ((with_reducible refine gate_callee (f := 19) rfl ?_); refine goesL_ (some 8) rfl rfl Try.func19 (by kernel_rfl) rfl #[.int .i64 a1, .int .i64 0, .int .i64 1125899906842624] rfl (by (try simp only [List.map_toArray, List.map_cons, List.map_nil]); first | done | rfl | (simp only [List.length_drop, List.length_take]; rfl)) ?_; (with_reducible refine (sat_Clamp.calls a1 0 1125899906842624 t121 _ A3.out).mono ?_); rintro e w' ⟨rfl, ⟨nd, rfl⟩⟩; refine ⟨_, rfl, ?_⟩))
  (generalize hq_ : World.drewN w _ = w26; have n0_ : Aside0 (IsS48 w0 w26 g s0_0 s0_1 s0_2 s0_3 s0_4 s0_5 s0_6 s0_7 s0_8 s0_9 s0_10 s0_11 s0_12 s0_13 s0_14 s0_15 s0_16 s0_17) := ⟨by rw [← hq_]; exact (by repeat (first | (with_reducible first | exact HI0.out | apply IsS48.alloc | apply IsS48.drewN | apply IsS48.drew | apply IsS48.set_0 | apply IsS48.set_1 | apply IsS48.set_2 | apply IsS48.set_3 | apply IsS48.set_4 | apply IsS48.set_5 | apply IsS48.set_6 | apply IsS48.set_7 | apply IsS48.set_8 | apply IsS48.set_9 | apply IsS48.set_10 | apply IsS48.set_12 | apply IsS48.set_13 | apply IsS48.set_14 | apply IsS48.set_15 | apply IsS48.set_16 | apply IsS48.set_17) | exact HI0.out))⟩; have n1_ : Aside0 (KeepBut w w26 g none) := ⟨by rw [← hq_]; exact (by repeat (first | (with_reducible first | exact HK.out | apply KeepBut.set_ | apply keep_drewN | apply keep_drew | apply keep_alloc) | exact HK.out))⟩; have n2_ : Aside0 (Below w0.heap.size w0 w26) := ⟨by rw [← hq_]; exact (by repeat (first | (with_reducible first | exact HB.out | apply below_alloc | apply pw_below_drewN | apply below_drew1 | refine below_set ?_ (IsS48.ge HI0.out)) | exact HB.out))⟩; clear HI0 HK HB hq_; have HI0 := n0_; have HK := n1_; have HB := n2_; clear n0_ n1_ n2_)
  have n0_ := Aside0.mk (IsS48.drew HI0.out)
  have n1_ := Aside0.mk (keep_drew HK.out)
  have n2_ := Aside0.mk (below_drew1 HB.out)
  clear HI0
  clear HK
  clear HB
  have HI0 := n0_
  have HK := n1_
  have HB := n2_
  clear n0_ n1_ n2_
  refine start_ (n := 33) (S := fun w' => w'.cell? ⟨g, 0, none⟩ = some (.int .i64 s0_0) ∧ w'.cell? ⟨g, 1, none⟩ = some (.int .i64 s0_1) ∧ w'.cell? ⟨g, 2, none⟩ = some (.int .i64 s0_2) ∧ w'.cell? ⟨g, 3, none⟩ = some (.int .i64 s0_3) ∧ w'.cell? ⟨g, 4, none⟩ = some (.int .i64 s0_4) ∧ w'.cell? ⟨g, 5, none⟩ = some (.int .i64 s0_5) ∧ w'.cell? ⟨g, 6, none⟩ = some (.int .i64 s0_6) ∧ w'.cell? ⟨g, 7, none⟩ = some (.int .i64 s0_7) ∧ w'.cell? ⟨g, 8, none⟩ = some (.int .i64 s0_8) ∧ w'.cell? ⟨g, 9, none⟩ = some (.int .i64 s0_9) ∧ w'.cell? ⟨g, 10, none⟩ = some (.int .i64 s0_10) ∧ w'.cell? ⟨g, 12, none⟩ = some (.int .i64 s0_12) ∧ w'.cell? ⟨g, 13, none⟩ = some (.int .i64 s0_13) ∧ w'.cell? ⟨g, 14, none⟩ = some (.int .i64 s0_14) ∧ w'.cell? ⟨g, 15, none⟩ = some (.int .i64 s0_15) ∧ w'.cell? ⟨g, 16, none⟩ = some (.bool s0_16) ∧ w'.cell? ⟨g, 17, none⟩ = some (.bool s0_17)) (ds := []) #[false, false, false, false, false, false, false, false, false, false, false, false, false, false, false, false, false, false, false, false, false, false, false, false, false, false, false, false, false, false, false, false, false] (by kernel_rfl) rfl rfl ⟨(IsS48.cell_0 HI0.out), (IsS48.cell_1 HI0.out), (IsS48.cell_2 HI0.out), (IsS48.cell_3 HI0.out), (IsS48.cell_4 HI0.out), (IsS48.cell_5 HI0.out), (IsS48.cell_6 HI0.out), (IsS48.cell_7 HI0.out), (IsS48.cell_8 HI0.out), (IsS48.cell_9 HI0.out), (IsS48.cell_10 HI0.out), (IsS48.cell_12 HI0.out), (IsS48.cell_13 HI0.out), (IsS48.cell_14 HI0.out), (IsS48.cell_15 HI0.out), (IsS48.cell_16 HI0.out), (IsS48.cell_17 HI0.out)⟩ (fun hHeld => ?_); refine with_tabW guard_Guard_Tick.tab4 guard_Guard_Tick.bits4 (fun HT_ HW_ => ?_)
  generalize w26.drew = w27 at HI0 HK HB hHeld ⊢
  refine pure_ (i := 0) (N := some 9) (v := ?_) (a' := ?_) #[true, false, false, false, false, false, false, false, false, false, false, false, false, false, false, false, false, false, false, false, false, false, false, false, false, false, false, false, false, false, false, false, false] rfl rfl (any_of HT_.out (by kernel_rfl)) (fun _ _ _ h => h) (Or.inl ⟨by rfl, ?_⟩) ?_ ?_
  rotate_left
  ·intro w'
   go_simp
   with_reducible rfl
  rotate_left
  ·simp only [Act.put, List.setIfInBounds_toArray, List.set_cons_zero, List.set_cons_succ, i64_w, i32_w]
   rfl
  refine pure_ (i := 1) (N := some 10) (v := ?_) (a' := ?_) #[true, true, false, false, false, false, false, false, false, false, false, false, false, false, false, false, false, false, false, false, false, false, false, false, false, false, false, false, false, false, false, false, false] rfl rfl (any_of HT_.out (by kernel_rfl)) (fun _ _ _ h => h) (Or.inl ⟨by rfl, ?_⟩) ?_ ?_
  rotate_left
  ·intro w'
   go_simp
   with_reducible rfl
  rotate_left
  ·simp only [Act.put, List.setIfInBounds_toArray, List.set_cons_zero, List.set_cons_succ, i64_w, i32_w]
   rfl
  refine pure_ (i := 2) (N := some 11) (v := ?_) (a' := ?_) #[true, true, true, false, false, false, false, false, false, false, false, false, false, false, false, false, false, false, false, false, false, false, false, false, false, false, false, false, false, false, false, false, false] rfl rfl (any_of HT_.out (by kernel_rfl)) (fun _ _ _ h => h) (Or.inl ⟨by rfl, ?_⟩) ?_ ?_
  rotate_left
  ·intro w'
   go_simp
   with_reducible rfl
  rotate_left
  ·simp only [Act.put, List.setIfInBounds_toArray, List.set_cons_zero, List.set_cons_succ, i64_w, i32_w]
   rfl
  refine pure_ (i := 3) (N := some 12) (v := ?_) (a' := ?_) #[true, true, true, true, false, false, false, false, false, false, false, false, false, false, false, false, false, false, false, false, false, false, false, false, false, false, false, false, false, false, false, false, false] rfl rfl (any_of HT_.out (by kernel_rfl)) (fun _ _ _ h => h) (Or.inl ⟨by rfl, ?_⟩) ?_ ?_
  rotate_left
  ·intro w'
   go_simp
   with_reducible rfl
  rotate_left
  ·simp only [Act.put, List.setIfInBounds_toArray, List.set_cons_zero, List.set_cons_succ, i64_w, i32_w]
   rfl
  refine pure_ (i := 6) (N := some 15) (v := ?_) (a' := ?_) #[true, true, true, true, false, false, true, false, false, false, false, false, false, false, false, false, false, false, false, false, false, false, false, false, false, false, false, false, false, false, false, false, false] rfl rfl (any_of HT_.out (by kernel_rfl)) (fun _ _ _ h => h) (Or.inl ⟨by rfl, ?_⟩) ?_ ?_
  rotate_left
  ·intro w'
   go_simp
   with_reducible rfl
  rotate_left
  ·simp only [Act.put, List.setIfInBounds_toArray, List.set_cons_zero, List.set_cons_succ, i64_w, i32_w]
   rfl
  refine pure_ (i := 7) (N := some 16) (v := ?_) (a' := ?_) #[true, true, true, true, false, false, true, true, false, false, false, false, false, false, false, false, false, false, false, false, false, false, false, false, false, false, false, false, false, false, false, false, false] rfl rfl (any_of HT_.out (by kernel_rfl)) (fun _ _ _ h => h) (Or.inl ⟨by rfl, ?_⟩) ?_ ?_
  rotate_left
  ·intro w'
   go_simp
   with_reducible rfl
  rotate_left
  ·simp only [Act.put, List.setIfInBounds_toArray, List.set_cons_zero, List.set_cons_succ, i64_w, i32_w]
   rfl
  refine pure_ (i := 8) (N := some 17) (v := ?_) (a' := ?_) #[true, true, true, true, false, false, true, true, true, false, false, false, false, false, false, false, false, false, false, false, false, false, false, false, false, false, false, false, false, false, false, false, false] rfl rfl (any_of HT_.out (by kernel_rfl)) (fun _ _ _ h => h) (Or.inl ⟨by rfl, ?_⟩) ?_ ?_
  rotate_left
  ·intro w'
   go_simp
   with_reducible rfl
  rotate_left
  ·simp only [Act.put, List.setIfInBounds_toArray, List.set_cons_zero, List.set_cons_succ, i64_w, i32_w]
   rfl
  refine pure_ (i := 9) (N := some 18) (v := ?_) (a' := ?_) #[true, true, true, true, false, false, true, true, true, true, false, false, false, false, false, false, false, false, false, false, false, false, false, false, false, false, false, false, false, false, false, false, false] rfl rfl (any_of HT_.out (by kernel_rfl)) (fun _ _ _ h => h) (Or.inl ⟨by rfl, ?_⟩) ?_ ?_
  rotate_left
  ·intro w'
   go_simp
   with_reducible rfl
  rotate_left
  ·simp only [Act.put, List.setIfInBounds_toArray, List.set_cons_zero, List.set_cons_succ, i64_w, i32_w]
   rfl
  refine take_ (i := 4) (N := some 13) (v := ?_) (a' := ?_) #[true, true, true, true, true, false, true, true, true, true, false, false, false, false, false, false, false, false, false, false, false, false, false, false, false, false, false, false, false, false, false, false, false] rfl rfl (take_ofW HT_.out HW_.out (by kernel_rfl)) (fun _ _ _ h => h) (Or.inl ⟨by rfl, ?_⟩) hHeld ?_ ?_
  rotate_left
  ·rintro w' ⟨s0, s1, s2, s3, s4, s5, s6, s7, s8, s9, s10, s11, s12, s13, s14, s15, s16⟩
   go_simp
   with_reducible rfl
  rotate_left
  ·simp only [Act.put, List.setIfInBounds_toArray, List.set_cons_zero, List.set_cons_succ, i64_w, i32_w]
   rfl
  refine pure_ (i := 5) (N := some 14) (v := ?_) (a' := ?_) #[true, true, true, true, true, true, true, true, true, true, false, false, false, false, false, false, false, false, false, false, false, false, false, false, false, false, false, false, false, false, false, false, false] rfl rfl (any_of HT_.out (by kernel_rfl)) (fun _ _ _ h => h) (Or.inl ⟨by rfl, ?_⟩) ?_ ?_
  rotate_left
  ·intro w'
   go_simp
   with_reducible rfl
  rotate_left
  ·simp only [Act.put, List.setIfInBounds_toArray, List.set_cons_zero, List.set_cons_succ, i64_w, i32_w]
   rfl
  refine take_ (i := 10) (N := some 19) (v := ?_) (a' := ?_) #[true, true, true, true, true, true, true, true, true, true, true, false, false, false, false, false, false, false, false, false, false, false, false, false, false, false, false, false, false, false, false, false, false] rfl rfl (take_ofW HT_.out HW_.out (by kernel_rfl)) (fun _ _ _ h => h) (Or.inl ⟨by rfl, ?_⟩) hHeld ?_ ?_
  rotate_left
  ·rintro w' ⟨s0, s1, s2, s3, s4, s5, s6, s7, s8, s9, s10, s11, s12, s13, s14, s15, s16⟩
   go_simp
   with_reducible rfl
  rotate_left
  ·simp only [Act.put, List.setIfInBounds_toArray, List.set_cons_zero, List.set_cons_succ, i64_w, i32_w]
   rfl
  refine pure_ (i := 11) (N := some 20) (v := ?_) (a' := ?_) #[true, true, true, true, true, true, true, true, true, true, true, true, false, false, false, false, false, false, false, false, false, false, false, false, false, false, false, false, false, false, false, false, false] rfl rfl (any_of HT_.out (by kernel_rfl)) (fun _ _ _ h => h) (Or.inl ⟨by rfl, ?_⟩) ?_ ?_
  rotate_left
  ·intro w'
   go_simp
   with_reducible rfl
  rotate_left
  ·simp only [Act.put, List.setIfInBounds_toArray, List.set_cons_zero, List.set_cons_succ, i64_w, i32_w]
   rfl
  refine pure_ (i := 12) (N := some 21) (v := ?_) (a' := ?_) #[true, true, true, true, true, true, true, true, true, true, true, true, true, false, false, false, false, false, false, false, false, false, false, false, false, false, false, false, false, false, false, false, false] rfl rfl (any_of HT_.out (by kernel_rfl)) (fun _ _ _ h => h) (Or.inl ⟨by rfl, ?_⟩) ?_ ?_
  rotate_left
  ·intro w'
   go_simp
   with_reducible rfl
  rotate_left
  ·simp only [Act.put, List.setIfInBounds_toArray, List.set_cons_zero, List.set_cons_succ, i64_w, i32_w]
   rfl
  refine pure_ (i := 13) (N := some 22) (v := undef) (a' := ?_) #[true, true, true, true, true, true, true, true, true, true, true, true, true, true, false, false, false, false, false, false, false, false, false, false, false, false, false, false, false, false, false, false, false] rfl rfl (any_of HT_.out (by kernel_rfl)) (fun _ _ _ h => h) (Or.inr ⟨by rfl, rfl⟩) ?_ ?_
  rotate_left
  ·simp only [Act.put, List.setIfInBounds_toArray, List.set_cons_zero, List.set_cons_succ, i64_w, i32_w]
   rfl
  refine pure_ (i := 14) (N := some 23) (v := undef) (a' := ?_) #[true, true, true, true, true, true, true, true, true, true, true, true, true, true, true, false, false, false, false, false, false, false, false, false, false, false, false, false, false, false, false, false, false] rfl rfl (any_of HT_.out (by kernel_rfl)) (fun _ _ _ h => h) (Or.inr ⟨by rfl, rfl⟩) ?_ ?_
  rotate_left
  ·simp only [Act.put, List.setIfInBounds_toArray, List.set_cons_zero, List.set_cons_succ, i64_w, i32_w]
   rfl
  refine pure_ (i := 15) (N := some 24) (v := undef) (a' := ?_) #[true, true, true, true, true, true, true, true, true, true, true, true, true, true, true, true, false, false, false, false, false, false, false, false, false, false, false, false, false, false, false, false, false] rfl rfl (any_of HT_.out (by kernel_rfl)) (fun _ _ _ h => h) (Or.inr ⟨by rfl, rfl⟩) ?_ ?_
  rotate_left
  ·simp only [Act.put, List.setIfInBounds_toArray, List.set_cons_zero, List.set_cons_succ, i64_w, i32_w]
   rfl
  refine pure_ (i := 16) (N := some 25) (v := undef) (a' := ?_) #[true, true, true, true, true, true, true, true, true, true, true, true, true, true, true, true, true, false, false, false, false, false, false, false, false, false, false, false, false, false, false, false, false] rfl rfl (any_of HT_.out (by kernel_rfl)) (fun _ _ _ h => h) (Or.inr ⟨by rfl, rfl⟩) ?_ ?_
  rotate_left
  ·simp only [Act.put, List.setIfInBounds_toArray, List.set_cons_zero, List.set_cons_succ, i64_w, i32_w]
   rfl
  refine pure_ (i := 17) (N := some 26) (v := undef) (a' := ?_) #[true, true, true, true, true, true, true, true, true, true, true, true, true, true, true, true, true, true, false, false, false, false, false, false, false, false, false, false, false, false, false, false, false] rfl rfl (any_of HT_.out (by kernel_rfl)) (fun _ _ _ h => h) (Or.inr ⟨by rfl, rfl⟩) ?_ ?_
  rotate_left
  ·simp only [Act.put, List.setIfInBounds_toArray, List.set_cons_zero, List.set_cons_succ, i64_w, i32_w]
   rfl
  refine pure_ (i := 18) (N := some 27) (v := undef) (a' := ?_) #[true, true, true, true, true, true, true, true, true, true, true, true, true, true, true, true, true, true, true, false, false, false, false, false, false, false, false, false, false, false, false, false, false] rfl rfl (any_of HT_.out (by kernel_rfl)) (fun _ _ _ h => h) (Or.inr ⟨by rfl, rfl⟩) ?_ ?_
  rotate_left
  ·simp only [Act.put, List.setIfInBounds_toArray, List.set_cons_zero, List.set_cons_succ, i64_w, i32_w]
   rfl
  refine pure_ (i := 19) (N := some 28) (v := undef) (a' := ?_) #[true, true, true, true, true, true, true, true, true, true, true, true, true, true, true, true, true, true, true, true, false, false, false, false, false, false, false, false, false, false, false, false, false] rfl rfl (any_of HT_.out (by kernel_rfl)) (fun _ _ _ h => h) (Or.inr ⟨by rfl, rfl⟩) ?_ ?_
  rotate_left
  ·simp only [Act.put, List.setIfInBounds_toArray, List.set_cons_zero, List.set_cons_succ, i64_w, i32_w]
   rfl
  refine pure_ (i := 20) (N := some 29) (v := undef) (a' := ?_) #[true, true, true, true, true, true, true, true, true, true, true, true, true, true, true, true, true, true, true, true, true, false, false, false, false, false, false, false, false, false, false, false, false] rfl rfl (any_of HT_.out (by kernel_rfl)) (fun _ _ _ h => h) (Or.inr ⟨by rfl, rfl⟩) ?_ ?_
  rotate_left
  ·simp only [Act.put, List.setIfInBounds_toArray, List.set_cons_zero, List.set_cons_succ, i64_w, i32_w]
   rfl
  refine pure_ (i := 21) (N := some 30) (v := undef) (a' := ?_) #[true, true, true, true, true, true, true, true, true, true, true, true, true, true, true, true, true, true, true, true, true, true, false, false, false, false, false, false, false, false, false, false, false] rfl rfl (any_of HT_.out (by kernel_rfl)) (fun _ _ _ h => h) (Or.inr ⟨by rfl, rfl⟩) ?_ ?_
  rotate_left
  ·simp only [Act.put, List.setIfInBounds_toArray, List.set_cons_zero, List.set_cons_succ, i64_w, i32_w]
   rfl
  refine pure_ (i := 22) (N := some 31) (v := undef) (a' := ?_) #[true, true, true, true, true, true, true, true, true, true, true, true, true, true, true, true, true, true, true, true, true, true, true, false, false, false, false, false, false, false, false, false, false] rfl rfl (any_of HT_.out (by kernel_rfl)) (fun _ _ _ h => h) (Or.inr ⟨by rfl, rfl⟩) ?_ ?_
  rotate_left
  ·simp only [Act.put, List.setIfInBounds_toArray, List.set_cons_zero, List.set_cons_succ, i64_w, i32_w]
   rfl
  refine pure_ (i := 23) (N := some 32) (v := undef) (a' := ?_) #[true, true, true, true, true, true, true, true, true, true, true, true, true, true, true, true, true, true, true, true, true, true, true, true, false, false, false, false, false, false, false, false, false] rfl rfl (any_of HT_.out (by kernel_rfl)) (fun _ _ _ h => h) (Or.inr ⟨by rfl, rfl⟩) ?_ ?_
  rotate_left
  ·simp only [Act.put, List.setIfInBounds_toArray, List.set_cons_zero, List.set_cons_succ, i64_w, i32_w]
   rfl
  refine pure_ (i := 24) (N := some 33) (v := undef) (a' := ?_) #[true, true, true, true, true, true, true, true, true, true, true, true, true, true, true, true, true, true, true, true, true, true, true, true, true, false, false, false, false, false, false, false, false] rfl rfl (any_of HT_.out (by kernel_rfl)) (fun _ _ _ h => h) (Or.inr ⟨by rfl, rfl⟩) ?_ ?_
  rotate_left
  ·simp only [Act.put, List.setIfInBounds_toArray, List.set_cons_zero, List.set_cons_succ, i64_w, i32_w]
   rfl
  refine pure_ (i := 25) (N := some 34) (v := undef) (a' := ?_) #[true, true, true, true, true, true, true, true, true, true, true, true, true, true, true, true, true, true, true, true, true, true, true, true, true, true, false, false, false, false, false, false, false] rfl rfl (any_of HT_.out (by kernel_rfl)) (fun _ _ _ h => h) (Or.inr ⟨by rfl, rfl⟩) ?_ ?_
  rotate_left
  ·simp only [Act.put, List.setIfInBounds_toArray, List.set_cons_zero, List.set_cons_succ, i64_w, i32_w]
   rfl
  refine pure_ (i := 26) (N := some 35) (v := undef) (a' := ?_) #[true, true, true, true, true, true, true, true, true, true, true, true, true, true, true, true, true, true, true, true, true, true, true, true, true, true, true, false, false, false, false, false, false] rfl rfl (any_of HT_.out (by kernel_rfl)) (fun _ _ _ h => h) (Or.inr ⟨by rfl, rfl⟩) ?_ ?_
  rotate_left
  ·simp only [Act.put, List.setIfInBounds_toArray, List.set_cons_zero, List.set_cons_succ, i64_w, i32_w]
   rfl
  refine pure_ (i := 27) (N := some 36) (v := undef) (a' := ?_) #[true, true, true, true, true, true, true, true, true, true, true, true, true, true, true, true, true, true, true, true, true, true, true, true, true, true, true, true, false, false, false, false, false] rfl rfl (any_of HT_.out (by kernel_rfl)) (fun _ _ _ h => h) (Or.inr ⟨by rfl, rfl⟩) ?_ ?_
  rotate_left
  ·simp only [Act.put, List.setIfInBounds_toArray, List.set_cons_zero, List.set_cons_succ, i64_w, i32_w]
   rfl
  refine pure_ (i := 28) (N := some 37) (v := undef) (a' := ?_) #[true, true, true, true, true, true, true, true, true, true, true, true, true, true, true, true, true, true, true, true, true, true, true, true, true, true, true, true, true, false, false, false, false] rfl rfl (any_of HT_.out (by kernel_rfl)) (fun _ _ _ h => h) (Or.inr ⟨by rfl, rfl⟩) ?_ ?_
  rotate_left
  ·simp only [Act.put, List.setIfInBounds_toArray, List.set_cons_zero, List.set_cons_succ, i64_w, i32_w]
   rfl
  refine pure_ (i := 29) (N := some 38) (v := undef) (a' := ?_) #[true, true, true, true, true, true, true, true, true, true, true, true, true, true, true, true, true, true, true, true, true, true, true, true, true, true, true, true, true, true, false, false, false] rfl rfl (any_of HT_.out (by kernel_rfl)) (fun _ _ _ h => h) (Or.inr ⟨by rfl, rfl⟩) ?_ ?_
  rotate_left
  ·simp only [Act.put, List.setIfInBounds_toArray, List.set_cons_zero, List.set_cons_succ, i64_w, i32_w]
   rfl
  refine pure_ (i := 30) (N := some 39) (v := undef) (a' := ?_) #[true, true, true, true, true, true, true, true, true, true, true, true, true, true, true, true, true, true, true, true, true, true, true, true, true, true, true, true, true, true, true, false, false] rfl rfl (any_of HT_.out (by kernel_rfl)) (fun _ _ _ h => h) (Or.inr ⟨by rfl, rfl⟩) ?_ ?_
  rotate_left
  ·simp only [Act.put, List.setIfInBounds_toArray, List.set_cons_zero, List.set_cons_succ, i64_w, i32_w]
   rfl
  refine pure_ (i := 31) (N := some 40) (v := undef) (a' := ?_) #[true, true, true, true, true, true, true, true, true, true, true, true, true, true, true, true, true, true, true, true, true, true, true, true, true, true, true, true, true, true, true, true, false] rfl rfl (any_of HT_.out (by kernel_rfl)) (fun _ _ _ h => h) (Or.inr ⟨by rfl, rfl⟩) ?_ ?_
  rotate_left
  ·simp only [Act.put, List.setIfInBounds_toArray, List.set_cons_zero, List.set_cons_succ, i64_w, i32_w]
   rfl
  refine pure_ (i := 32) (N := some 41) (v := ?_) (a' := ?_) #[true, true, true, true, true, true, true, true, true, true, true, true, true, true, true, true, true, true, true, true, true, true, true, true, true, true, true, true, true, true, true, true, true] rfl rfl (any_of HT_.out (by kernel_rfl)) (fun _ _ _ h => h) (Or.inl ⟨by rfl, ?_⟩) ?_ ?_
  rotate_left
  ·intro w'
   go_simp
   with_reducible rfl
  rotate_left
  ·simp only [Act.put, List.setIfInBounds_toArray, List.set_cons_zero, List.set_cons_succ, i64_w, i32_w]
   rfl
  refine done_ (done_of HT_.out (by kernel_rfl)) ?_
  obtain ⟨ASz28_11, cSz28_11, HGz28, hgz28, HSz28_11⟩ := HI0.out
  have hcz28_0 := cellS48_0 HGz28
  have hcz28_1 := cellS48_1 HGz28
  have hcz28_2 := cellS48_2 HGz28
  have hcz28_3 := cellS48_3 HGz28
  have hcz28_4 := cellS48_4 HGz28
  have hcz28_5 := cellS48_5 HGz28
  have hcz28_6 := cellS48_6 HGz28
  have hcz28_7 := cellS48_7 HGz28
  have hcz28_8 := cellS48_8 HGz28
  have hcz28_9 := cellS48_9 HGz28
  have hcz28_10 := cellS48_10 HGz28
  have hcz28_11 := cellS48_11 HGz28
  have hcz28_12 := cellS48_12 HGz28
  have hcz28_13 := cellS48_13 HGz28
  have hcz28_14 := cellS48_14 HGz28
  have hcz28_15 := cellS48_15 HGz28
  have hcz28_16 := cellS48_16 HGz28
  have hcz28_17 := cellS48_17 HGz28
  have hfz28_0 := blk_frozen HGz28 0
  have hfz28_1 := blk_frozen HGz28 1
  have hfz28_2 := blk_frozen HGz28 2
  have hfz28_3 := blk_frozen HGz28 3
  have hfz28_4 := blk_frozen HGz28 4
  have hfz28_5 := blk_frozen HGz28 5
  have hfz28_6 := blk_frozen HGz28 6
  have hfz28_7 := blk_frozen HGz28 7
  have hfz28_8 := blk_frozen HGz28 8
  have hfz28_9 := blk_frozen HGz28 9
  have hfz28_10 := blk_frozen HGz28 10
  have hfz28_12 := blk_frozen HGz28 12
  have hfz28_13 := blk_frozen HGz28 13
  have hfz28_14 := blk_frozen HGz28 14
  have hfz28_15 := blk_frozen HGz28 15
  have hfz28_16 := blk_frozen HGz28 16
  have hfz28_17 := blk_frozen HGz28 17
  clear HGz28 hgz28
  try go_wp2
  go_ret
  exact ⟨by first | rfl | (simp [errW_none, errW_some] <;> rfl) | (simp [*, errW_none, errW_some] <;> rfl), by repeat (first | (with_reducible first | exact HI0.out | apply IsS48.alloc | apply IsS48.drewN | apply IsS48.drew | apply IsS48.set_0 | apply IsS48.set_1 | apply IsS48.set_2 | apply IsS48.set_3 | apply IsS48.set_4 | apply IsS48.set_5 | apply IsS48.set_6 | apply IsS48.set_7 | apply IsS48.set_8 | apply IsS48.set_9 | apply IsS48.set_10 | apply IsS48.set_12 | apply IsS48.set_13 | apply IsS48.set_14 | apply IsS48.set_15 | apply IsS48.set_16 | apply IsS48.set_17) | exact HI0.out), by repeat (first | (with_reducible first | exact HB.out | apply below_alloc | apply pw_below_drewN | apply below_drew1 | refine below_set ?_ (IsS48.ge HI0.out)) | exact HB.out), by repeat (first | (with_reducible first | exact HK.out | apply KeepBut.set_ | apply keep_drewN | apply keep_drew | apply keep_alloc) | exact HK.out)⟩
def guard_Guard_Tick.nilrecv.f  (a1 : Int) : Option (Int) := some 0
set_option maxHeartbeats 8000000 in
set_option maxRecDepth 100000 in
theorem guard_Guard_Tick.nilrecv.calls  (a1 : Int) (r : Int) (w : World) (h : guard_Guard_Tick.nilrecv.f a1 = some r) :
  Calls Try.prog 17 #[.pointer none, .int .i64 a1] w fun e w' => e = .returned (.int .i64 r) ∧ Below w.heap.size w w' := by
 have hpn29_eql : ∀ (a_ : Addr) (W_ : World), (Go.binOp .eql 29 (.pointer (some a_)) (.pointer none)).run Try.prog W_ = .ok (.bool false) W_ := fun _ _ => by kernel_rfl
 have hnn29_eql : ∀ (W_ : World), (Go.binOp .eql 29 (.pointer none) (.pointer none)).run Try.prog W_ = .ok (.bool true) W_ := fun _ => by kernel_rfl
 have HB := Aside0.mk (Below.refl w.heap.size w)
 have H : (some 0) = some r := h
 clear h
 obtain rfl := Option.some.inj H
 go_enter Try.func17, Try.ntmps17
 go_wp2
 go_ret
 exact ⟨by first | rfl | (simp [errW_none, errW_some] <;> rfl) | (simp [*, errW_none, errW_some] <;> rfl), by repeat (first | (with_reducible first | exact HB.out | apply below_alloc | apply pw_below_drewN | apply below_drew1) | exact HB.out)⟩
end Go.Proofs.Ytkfkbebpcmmnfaa.P
end

section
namespace Go.Proofs.Ytkfkbebpcmmnfaa.P
open Go.RowKit Go.Proofs.YtkfkbebpcmmnfaaW.PrintWords Go.Proofs.YtkfkbebpcmmnfaaW.PrintLast Go.Proofs.YtkfkbebpcmmnfaaW.PrintMore
attribute [local go_sem] max2_int min2_int max_two min_two max_three min_three max_four min_four   -- for this text's walks alone
set_option linter.unusedVariables false
set_option linter.unusedSimpArgs false
def flywheellaw28_wakes.f  : Option (Bool) := (flywheellaw28_Some.f).bind fun bt124 => (if (guard_New.made.f bt124.1 bt124.2.1 bt124.2.2.1 bt124.2.2.2.1 bt124.2.2.2.2.1 bt124.2.2.2.2.2.1 bt124.2.2.2.2.2.2.1 bt124.2.2.2.2.2.2.2.1 bt124.2.2.2.2.2.2.2.2.1 bt124.2.2.2.2.2.2.2.2.2.1 bt124.2.2.2.2.2.2.2.2.2.2.1 ([] : List (S85)) bt124.2.2.2.2.2.2.2.2.2.2.2).isSome = true then ((guard_New.made.f bt124.1 bt124.2.1 bt124.2.2.1 bt124.2.2.2.1 bt124.2.2.2.2.1 bt124.2.2.2.2.2.1 bt124.2.2.2.2.2.2.1 bt124.2.2.2.2.2.2.2.1 bt124.2.2.2.2.2.2.2.2.1 bt124.2.2.2.2.2.2.2.2.2.1 bt124.2.2.2.2.2.2.2.2.2.2.1 ([] : List (S85)) bt124.2.2.2.2.2.2.2.2.2.2.2).bind fun bt136 => (if bt136.2.2.2.2.2.2.2.2.2.2.2.2.2.2.2.2.2.2 = 0 then ((guard_Guard_Hear.f bt136.1 bt136.2.1 bt136.2.2.1 bt136.2.2.2.1 bt136.2.2.2.2.1 bt136.2.2.2.2.2.1 bt136.2.2.2.2.2.2.1 bt136.2.2.2.2.2.2.2.1 bt136.2.2.2.2.2.2.2.2.1 bt136.2.2.2.2.2.2.2.2.2.1 bt136.2.2.2.2.2.2.2.2.2.2.1 bt136.2.2.2.2.2.2.2.2.2.2.2.1 bt136.2.2.2.2.2.2.2.2.2.2.2.2.1 bt136.2.2.2.2.2.2.2.2.2.2.2.2.2.1 bt136.2.2.2.2.2.2.2.2.2.2.2.2.2.2.1 bt136.2.2.2.2.2.2.2.2.2.2.2.2.2.2.2.1 bt136.2.2.2.2.2.2.2.2.2.2.2.2.2.2.2.2.1 bt136.2.2.2.2.2.2.2.2.2.2.2.2.2.2.2.2.2.1 5000000 200000 800000 false 5).bind fun bt156 => (if bt156.1 = 700000 then ((guard_Guard_Brakes.f bt156.2.1 bt156.2.2.1 bt156.2.2.2.1 bt156.2.2.2.2.1 bt156.2.2.2.2.2.1 bt156.2.2.2.2.2.2.1 bt156.2.2.2.2.2.2.2.1 bt156.2.2.2.2.2.2.2.2.1 bt156.2.2.2.2.2.2.2.2.2.1 bt156.2.2.2.2.2.2.2.2.2.2.1 bt156.2.2.2.2.2.2.2.2.2.2.2.1 bt136.2.2.2.2.2.2.2.2.2.2.2.1 bt156.2.2.2.2.2.2.2.2.2.2.2.2.1 bt156.2.2.2.2.2.2.2.2.2.2.2.2.2.1 bt156.2.2.2.2.2.2.2.2.2.2.2.2.2.2.1 bt156.2.2.2.2.2.2.2.2.2.2.2.2.2.2.2.1 bt156.2.2.2.2.2.2.2.2.2.2.2.2.2.2.2.2.1 bt156.2.2.2.2.2.2.2.2.2.2.2.2.2.2.2.2.2).bind fun bt174 => (if bt174.1 = true then ((guard_Guard_Tick.f bt174.2.1 bt174.2.2.1 bt174.2.2.2.1 bt174.2.2.2.2.1 bt174.2.2.2.2.2.1 bt174.2.2.2.2.2.2.1 bt174.2.2.2.2.2.2.2.1 bt174.2.2.2.2.2.2.2.2.1 bt174.2.2.2.2.2.2.2.2.2.1 bt174.2.2.2.2.2.2.2.2.2.2.1 bt174.2.2.2.2.2.2.2.2.2.2.2.1 bt136.2.2.2.2.2.2.2.2.2.2.2.1 bt174.2.2.2.2.2.2.2.2.2.2.2.2.1 bt174.2.2.2.2.2.2.2.2.2.2.2.2.2.1 bt174.2.2.2.2.2.2.2.2.2.2.2.2.2.2.1 bt174.2.2.2.2.2.2.2.2.2.2.2.2.2.2.2.1 bt174.2.2.2.2.2.2.2.2.2.2.2.2.2.2.2.2.1 bt174.2.2.2.2.2.2.2.2.2.2.2.2.2.2.2.2.2 1000006).bind fun bt192 => (some (bt192.1 == 350000))) else (some false))) else (some false))) else (some false))) else ((guard_New.nil.f bt124.1 bt124.2.1 bt124.2.2.1 bt124.2.2.2.1 bt124.2.2.2.2.1 bt124.2.2.2.2.2.1 bt124.2.2.2.2.2.2.1 bt124.2.2.2.2.2.2.2.1 bt124.2.2.2.2.2.2.2.2.1 bt124.2.2.2.2.2.2.2.2.2.1 bt124.2.2.2.2.2.2.2.2.2.2.1 ([] : List (S85)) bt124.2.2.2.2.2.2.2.2.2.2.2).bind fun t210 => (if t210 = 0 then ((guard_Guard_Hear.nilrecv.f 5000000 200000 800000 false 5).bind fun t211 => (if t211 = 700000 then ((guard_Guard_Brakes.nilrecv.f).bind fun t212 => (if t212 = true then ((guard_Guard_Tick.nilrecv.f 1000006).bind fun t213 => (some (t213 == 350000))) else (some false))) else (some false))) else (some false))))
set_option maxHeartbeats 8000000 in
set_option maxRecDepth 100000 in
theorem flywheellaw28_wakes.calls  (r : Bool) (w : World) (h : flywheellaw28_wakes.f  = some r) :
  Calls Try.prog 14 #[] w fun e w' => e = .returned (.bool r) ∧ Below w.heap.size w w' := by
 have HB := Aside0.mk (Below.refl w.heap.size w)
 have H : ((flywheellaw28_Some.f).bind fun bt124 => (if (guard_New.made.f bt124.1 bt124.2.1 bt124.2.2.1 bt124.2.2.2.1 bt124.2.2.2.2.1 bt124.2.2.2.2.2.1 bt124.2.2.2.2.2.2.1 bt124.2.2.2.2.2.2.2.1 bt124.2.2.2.2.2.2.2.2.1 bt124.2.2.2.2.2.2.2.2.2.1 bt124.2.2.2.2.2.2.2.2.2.2.1 ([] : List (S85)) bt124.2.2.2.2.2.2.2.2.2.2.2).isSome = true then ((guard_New.made.f bt124.1 bt124.2.1 bt124.2.2.1 bt124.2.2.2.1 bt124.2.2.2.2.1 bt124.2.2.2.2.2.1 bt124.2.2.2.2.2.2.1 bt124.2.2.2.2.2.2.2.1 bt124.2.2.2.2.2.2.2.2.1 bt124.2.2.2.2.2.2.2.2.2.1 bt124.2.2.2.2.2.2.2.2.2.2.1 ([] : List (S85)) bt124.2.2.2.2.2.2.2.2.2.2.2).bind fun bt136 => (if bt136.2.2.2.2.2.2.2.2.2.2.2.2.2.2.2.2.2.2 = 0 then ((guard_Guard_Hear.f bt136.1 bt136.2.1 bt136.2.2.1 bt136.2.2.2.1 bt136.2.2.2.2.1 bt136.2.2.2.2.2.1 bt136.2.2.2.2.2.2.1 bt136.2.2.2.2.2.2.2.1 bt136.2.2.2.2.2.2.2.2.1 bt136.2.2.2.2.2.2.2.2.2.1 bt136.2.2.2.2.2.2.2.2.2.2.1 bt136.2.2.2.2.2.2.2.2.2.2.2.1 bt136.2.2.2.2.2.2.2.2.2.2.2.2.1 bt136.2.2.2.2.2.2.2.2.2.2.2.2.2.1 bt136.2.2.2.2.2.2.2.2.2.2.2.2.2.2.1 bt136.2.2.2.2.2.2.2.2.2.2.2.2.2.2.2.1 bt136.2.2.2.2.2.2.2.2.2.2.2.2.2.2.2.2.1 bt136.2.2.2.2.2.2.2.2.2.2.2.2.2.2.2.2.2.1 5000000 200000 800000 false 5).bind fun bt156 => (if bt156.1 = 700000 then ((guard_Guard_Brakes.f bt156.2.1 bt156.2.2.1 bt156.2.2.2.1 bt156.2.2.2.2.1 bt156.2.2.2.2.2.1 bt156.2.2.2.2.2.2.1 bt156.2.2.2.2.2.2.2.1 bt156.2.2.2.2.2.2.2.2.1 bt156.2.2.2.2.2.2.2.2.2.1 bt156.2.2.2.2.2.2.2.2.2.2.1 bt156.2.2.2.2.2.2.2.2.2.2.2.1 bt136.2.2.2.2.2.2.2.2.2.2.2.1 bt156.2.2.2.2.2.2.2.2.2.2.2.2.1 bt156.2.2.2.2.2.2.2.2.2.2.2.2.2.1 bt156.2.2.2.2.2.2.2.2.2.2.2.2.2.2.1 bt156.2.2.2.2.2.2.2.2.2.2.2.2.2.2.2.1 bt156.2.2.2.2.2.2.2.2.2.2.2.2.2.2.2.2.1 bt156.2.2.2.2.2.2.2.2.2.2.2.2.2.2.2.2.2).bind fun bt174 => (if bt174.1 = true then ((guard_Guard_Tick.f bt174.2.1 bt174.2.2.1 bt174.2.2.2.1 bt174.2.2.2.2.1 bt174.2.2.2.2.2.1 bt174.2.2.2.2.2.2.1 bt174.2.2.2.2.2.2.2.1 bt174.2.2.2.2.2.2.2.2.1 bt174.2.2.2.2.2.2.2.2.2.1 bt174.2.2.2.2.2.2.2.2.2.2.1 bt174.2.2.2.2.2.2.2.2.2.2.2.1 bt136.2.2.2.2.2.2.2.2.2.2.2.1 bt174.2.2.2.2.2.2.2.2.2.2.2.2.1 bt174.2.2.2.2.2.2.2.2.2.2.2.2.2.1 bt174.2.2.2.2.2.2.2.2.2.2.2.2.2.2.1 bt174.2.2.2.2.2.2.2.2.2.2.2.2.2.2.2.1 bt174.2.2.2.2.2.2.2.2.2.2.2.2.2.2.2.2.1 bt174.2.2.2.2.2.2.2.2.2.2.2.2.2.2.2.2.2 1000006).bind fun bt192 => (some (bt192.1 == 350000))) else (some false))) else (some false))) else (some false))) else ((guard_New.nil.f bt124.1 bt124.2.1 bt124.2.2.1 bt124.2.2.2.1 bt124.2.2.2.2.1 bt124.2.2.2.2.2.1 bt124.2.2.2.2.2.2.1 bt124.2.2.2.2.2.2.2.1 bt124.2.2.2.2.2.2.2.2.1 bt124.2.2.2.2.2.2.2.2.2.1 bt124.2.2.2.2.2.2.2.2.2.2.1 ([] : List (S85)) bt124.2.2.2.2.2.2.2.2.2.2.2).bind fun t210 => (if t210 = 0 then ((guard_Guard_Hear.nilrecv.f 5000000 200000 800000 false 5).bind fun t211 => (if t211 = 700000 then ((guard_Guard_Brakes.nilrecv.f).bind fun t212 => (if t212 = true then ((guard_Guard_Tick.nilrecv.f 1000006).bind fun t213 => (some (t213 == 350000))) else (some false))) else (some false))) else (some false))))) = some r := h
 clear h
 replace H := Option.bind_eq_some_iff.mp H
 obtain ⟨⟨t124, t125, t126, t127, t128, t129, t130, t131, t132, t133, t134, t135⟩, A10, H⟩ := H
 replace H : (if (guard_New.made.f t124 t125 t126 t127 t128 t129 t130 t131 t132 t133 t134 ([] : List (S85)) t135).isSome = true then ((guard_New.made.f t124 t125 t126 t127 t128 t129 t130 t131 t132 t133 t134 ([] : List (S85)) t135).bind fun bt136 => (if bt136.2.2.2.2.2.2.2.2.2.2.2.2.2.2.2.2.2.2 = 0 then ((guard_Guard_Hear.f bt136.1 bt136.2.1 bt136.2.2.1 bt136.2.2.2.1 bt136.2.2.2.2.1 bt136.2.2.2.2.2.1 bt136.2.2.2.2.2.2.1 bt136.2.2.2.2.2.2.2.1 bt136.2.2.2.2.2.2.2.2.1 bt136.2.2.2.2.2.2.2.2.2.1 bt136.2.2.2.2.2.2.2.2.2.2.1 bt136.2.2.2.2.2.2.2.2.2.2.2.1 bt136.2.2.2.2.2.2.2.2.2.2.2.2.1 bt136.2.2.2.2.2.2.2.2.2.2.2.2.2.1 bt136.2.2.2.2.2.2.2.2.2.2.2.2.2.2.1 bt136.2.2.2.2.2.2.2.2.2.2.2.2.2.2.2.1 bt136.2.2.2.2.2.2.2.2.2.2.2.2.2.2.2.2.1 bt136.2.2.2.2.2.2.2.2.2.2.2.2.2.2.2.2.2.1 5000000 200000 800000 false 5).bind fun bt156 => (if bt156.1 = 700000 then ((guard_Guard_Brakes.f bt156.2.1 bt156.2.2.1 bt156.2.2.2.1 bt156.2.2.2.2.1 bt156.2.2.2.2.2.1 bt156.2.2.2.2.2.2.1 bt156.2.2.2.2.2.2.2.1 bt156.2.2.2.2.2.2.2.2.1 bt156.2.2.2.2.2.2.2.2.2.1 bt156.2.2.2.2.2.2.2.2.2.2.1 bt156.2.2.2.2.2.2.2.2.2.2.2.1 bt136.2.2.2.2.2.2.2.2.2.2.2.1 bt156.2.2.2.2.2.2.2.2.2.2.2.2.1 bt156.2.2.2.2.2.2.2.2.2.2.2.2.2.1 bt156.2.2.2.2.2.2.2.2.2.2.2.2.2.2.1 bt156.2.2.2.2.2.2.2.2.2.2.2.2.2.2.2.1 bt156.2.2.2.2.2.2.2.2.2.2.2.2.2.2.2.2.1 bt156.2.2.2.2.2.2.2.2.2.2.2.2.2.2.2.2.2).bind fun bt174 => (if bt174.1 = true then ((guard_Guard_Tick.f bt174.2.1 bt174.2.2.1 bt174.2.2.2.1 bt174.2.2.2.2.1 bt174.2.2.2.2.2.1 bt174.2.2.2.2.2.2.1 bt174.2.2.2.2.2.2.2.1 bt174.2.2.2.2.2.2.2.2.1 bt174.2.2.2.2.2.2.2.2.2.1 bt174.2.2.2.2.2.2.2.2.2.2.1 bt174.2.2.2.2.2.2.2.2.2.2.2.1 bt136.2.2.2.2.2.2.2.2.2.2.2.1 bt174.2.2.2.2.2.2.2.2.2.2.2.2.1 bt174.2.2.2.2.2.2.2.2.2.2.2.2.2.1 bt174.2.2.2.2.2.2.2.2.2.2.2.2.2.2.1 bt174.2.2.2.2.2.2.2.2.2.2.2.2.2.2.2.1 bt174.2.2.2.2.2.2.2.2.2.2.2.2.2.2.2.2.1 bt174.2.2.2.2.2.2.2.2.2.2.2.2.2.2.2.2.2 1000006).bind fun bt192 => (some (bt192.1 == 350000))) else (some false))) else (some false))) else (some false))) else ((guard_New.nil.f t124 t125 t126 t127 t128 t129 t130 t131 t132 t133 t134 ([] : List (S85)) t135).bind fun t210 => (if t210 = 0 then ((guard_Guard_Hear.nilrecv.f 5000000 200000 800000 false 5).bind fun t211 => (if t211 = 700000 then ((guard_Guard_Brakes.nilrecv.f).bind fun t212 => (if t212 = true then ((guard_Guard_Tick.nilrecv.f 1000006).bind fun t213 => (some (t213 == 350000))) else (some false))) else (some false))) else (some false)))) = some r := H
 have A1 := Aside0.mk A10
 clear A10
 by_cases c2 : (guard_New.made.f t124 t125 t126 t127 t128 t129 t130 t131 t132 t133 t134 ([] : List (S85)) t135).isSome = true
 ·rw [if_pos c2] at H
  have c2b0 : (guard_New.made.f t124 t125 t126 t127 t128 t129 t130 t131 t132 t133 t134 ([] : List (S85)) t135).isSome = true := c2
  clear c2
  replace H := Option.bind_eq_some_iff.mp H
  obtain ⟨⟨t136, t137, t138, t139, t140, t141, t142, t143, t144, t145, t146, t147, t148, t149, t150, t151, t152, t153, t155⟩, A30, H⟩ := H
  replace H : (if t155 = 0 then ((guard_Guard_Hear.f t136 t137 t138 t139 t140 t141 t142 t143 t144 t145 t146 t147 t148 t149 t150 t151 t152 t153 5000000 200000 800000 false 5).bind fun bt156 => (if bt156.1 = 700000 then ((guard_Guard_Brakes.f bt156.2.1 bt156.2.2.1 bt156.2.2.2.1 bt156.2.2.2.2.1 bt156.2.2.2.2.2.1 bt156.2.2.2.2.2.2.1 bt156.2.2.2.2.2.2.2.1 bt156.2.2.2.2.2.2.2.2.1 bt156.2.2.2.2.2.2.2.2.2.1 bt156.2.2.2.2.2.2.2.2.2.2.1 bt156.2.2.2.2.2.2.2.2.2.2.2.1 t147 bt156.2.2.2.2.2.2.2.2.2.2.2.2.1 bt156.2.2.2.2.2.2.2.2.2.2.2.2.2.1 bt156.2.2.2.2.2.2.2.2.2.2.2.2.2.2.1 bt156.2.2.2.2.2.2.2.2.2.2.2.2.2.2.2.1 bt156.2.2.2.2.2.2.2.2.2.2.2.2.2.2.2.2.1 bt156.2.2.2.2.2.2.2.2.2.2.2.2.2.2.2.2.2).bind fun bt174 => (if bt174.1 = true then ((guard_Guard_Tick.f bt174.2.1 bt174.2.2.1 bt174.2.2.2.1 bt174.2.2.2.2.1 bt174.2.2.2.2.2.1 bt174.2.2.2.2.2.2.1 bt174.2.2.2.2.2.2.2.1 bt174.2.2.2.2.2.2.2.2.1 bt174.2.2.2.2.2.2.2.2.2.1 bt174.2.2.2.2.2.2.2.2.2.2.1 bt174.2.2.2.2.2.2.2.2.2.2.2.1 t147 bt174.2.2.2.2.2.2.2.2.2.2.2.2.1 bt174.2.2.2.2.2.2.2.2.2.2.2.2.2.1 bt174.2.2.2.2.2.2.2.2.2.2.2.2.2.2.1 bt174.2.2.2.2.2.2.2.2.2.2.2.2.2.2.2.1 bt174.2.2.2.2.2.2.2.2.2.2.2.2.2.2.2.2.1 bt174.2.2.2.2.2.2.2.2.2.2.2.2.2.2.2.2.2 1000006).bind fun bt192 => (some (bt192.1 == 350000))) else (some false))) else (some false))) else (some false)) = some r := H
  have A3 := Aside0.mk A30
  clear A30
  by_cases c4 : t155 = 0
  ·rw [if_pos c4] at H
   have c4b0 : (t155 == 0) = true := beq_iff_eq.mpr c4
   have c4b1 : (t155 != 0) = false := bne_eq_false_iff_eq.mpr c4
   clear c4
   replace H := Option.bind_eq_some_iff.mp H
   obtain ⟨⟨t156, t157, t158, t159, t160, t161, t162, t163, t164, t165, t166, t167, t168, t169, t170, t171, t172, t173⟩, A50, H⟩ := H
   replace H : (if t156 = 700000 then ((guard_Guard_Brakes.f t157 t158 t159 t160 t161 t162 t163 t164 t165 t166 t167 t147 t168 t169 t170 t171 t172 t173).bind fun bt174 => (if bt174.1 = true then ((guard_Guard_Tick.f bt174.2.1 bt174.2.2.1 bt174.2.2.2.1 bt174.2.2.2.2.1 bt174.2.2.2.2.2.1 bt174.2.2.2.2.2.2.1 bt174.2.2.2.2.2.2.2.1 bt174.2.2.2.2.2.2.2.2.1 bt174.2.2.2.2.2.2.2.2.2.1 bt174.2.2.2.2.2.2.2.2.2.2.1 bt174.2.2.2.2.2.2.2.2.2.2.2.1 t147 bt174.2.2.2.2.2.2.2.2.2.2.2.2.1 bt174.2.2.2.2.2.2.2.2.2.2.2.2.2.1 bt174.2.2.2.2.2.2.2.2.2.2.2.2.2.2.1 bt174.2.2.2.2.2.2.2.2.2.2.2.2.2.2.2.1 bt174.2.2.2.2.2.2.2.2.2.2.2.2.2.2.2.2.1 bt174.2.2.2.2.2.2.2.2.2.2.2.2.2.2.2.2.2 1000006).bind fun bt192 => (some (bt192.1 == 350000))) else (some false))) else (some false)) = some r := H
   have A5 := Aside0.mk A50
   clear A50
   by_cases c6 : t156 = 700000
   ·rw [if_pos c6] at H
    have c6b0 : (t156 == 700000) = true := beq_iff_eq.mpr c6
    have c6b1 : (t156 != 700000) = false := bne_eq_false_iff_eq.mpr c6
    clear c6
    replace H := Option.bind_eq_some_iff.mp H
    obtain ⟨⟨t174, t175, t176, t177, t178, t179, t180, t181, t182, t183, t184, t185, t186, t187, t188, t189, t190, t191⟩, A70, H⟩ := H
    replace H : (if t174 = true then ((guard_Guard_Tick.f t175 t176 t177 t178 t179 t180 t181 t182 t183 t184 t185 t147 t186 t187 t188 t189 t190 t191 1000006).bind fun bt192 => (some (bt192.1 == 350000))) else (some false)) = some r := H
    have A7 := Aside0.mk A70
    clear A70
    by_cases c8 : t174 = true
    ·subst c8
     have H1 : ((guard_Guard_Tick.f t175 t176 t177 t178 t179 t180 t181 t182 t183 t184 t185 t147 t186 t187 t188 t189 t190 t191 1000006).bind fun bt192 => (some (bt192.1 == 350000))) = some r := by rw [if_pos rfl] at H; exact H
     clear H
     have H := H1
     clear H1
     replace H := Option.bind_eq_some_iff.mp H
     obtain ⟨⟨t192, t193, t194, t195, t196, t197, t198, t199, t200, t201, t202, t203, t204, t205, t206, t207, t208, t209⟩, A90, H⟩ := H
     replace H : (some (t192 == 350000)) = some r := H
     have A9 := Aside0.mk A90
     clear A90
     obtain rfl := Option.some.inj H
     go_enter Try.func14, Try.ntmps14
     go_wp2_with (first | ((with_reducible refine gate_callee (f := 9) rfl ?_); refine goesL_ (some 4) rfl rfl Try.func9 (by kernel_rfl) rfl #[] rfl (by (try simp only [List.map_toArray, List.map_cons, List.map_nil]); first | done | rfl | (simp only [List.length_drop, List.length_take]; rfl)) ?_; (with_reducible refine (flywheellaw28_Some.calls  t124 t125 t126 t127 t128 t129 t130 t131 t132 t133 t134 t135 _ A1.out).mono ?_); rintro e w10 ⟨rfl, hb⟩; refine ⟨_, rfl, ?_⟩; have n0_ := Aside0.mk (below_step (by repeat (first | (with_reducible first | exact HB.out | apply below_alloc | apply pw_below_drewN | apply below_drew1) | exact HB.out)) hb); clear HB; have HB := n0_; clear n0_; (try clear hb); (try clear hb2); (try clear hk); (try clear hi)) | ((with_reducible refine gate_callee (f := 10) rfl ?_); refine goesL_ (some 5) rfl rfl Try.func10 (by kernel_rfl) rfl #[.agg #[.int .i64 t124, .int .i64 t125, .int .i64 t126, .int .i64 t127, .int .i64 t128, .int .i64 t129, .int .i64 t130, .int .i64 t131, .int .i64 t132, .int .i64 t133, .int .i64 t134, .slice none 0 0, .int .i64 t135]] rfl (by (try simp only [List.map_toArray, List.map_cons, List.map_nil]); first | done | rfl | (simp only [List.length_drop, List.length_take]; rfl)) ?_; (refine (guard_New.made.calls t124 t125 t126 t127 t128 t129 t130 t131 t132 t133 t134 _ _ ([] : List (S85)) t135 t136 t137 t138 t139 t140 t141 t142 t143 t144 t145 t146 t147 t148 t149 t150 t151 t152 t153 t155 w _ ?side1 ?side2 ?side3 A3.out).mono ?_); (case side1 => repeat (first | (with_reducible first | exact HB.out | apply below_alloc | apply pw_below_drewN | apply below_drew1) | exact HB.out)); (case side2 => exact Kd.C_nil _ _); (case side3 => exact Nat.le_refl _); rintro e w11 ⟨g154, rfl, hi, hb, hb2⟩; refine ⟨_, rfl, ?_⟩; have n0_ := Aside0.mk (hb); have n1_ := Aside0.mk (hi); clear HB; have HB := n0_; have HI154 := n1_; clear n0_ n1_; (try clear hb); (try clear hb2); (try clear hk); (try clear hi)) | (go_at_call 11; (with_reducible refine (guard_Guard_Hear.calls g154 t136 t137 t138 t139 t140 t141 t142 t143 t144 t145 t146 t147 t148 t149 t150 t151 t152 t153 5000000 200000 800000 false 5 t156 t157 t158 t159 t160 t161 t162 t163 t164 t165 t166 t167 t168 t169 t170 t171 t172 t173 w _ ?side1 ?side2 A5.out).mono ?_); (case side1 => repeat (first | (with_reducible first | exact HI154.out | apply IsS48.alloc | apply IsS48.drewN | apply IsS48.drew | apply IsS48.set_0 | apply IsS48.set_1 | apply IsS48.set_2 | apply IsS48.set_3 | apply IsS48.set_4 | apply IsS48.set_5 | apply IsS48.set_6 | apply IsS48.set_7 | apply IsS48.set_8 | apply IsS48.set_9 | apply IsS48.set_10 | apply IsS48.set_12 | apply IsS48.set_13 | apply IsS48.set_14 | apply IsS48.set_15 | apply IsS48.set_16 | apply IsS48.set_17) | exact HI154.out)); (case side2 => repeat (first | (with_reducible first | exact HB.out | apply below_alloc | apply pw_below_drewN | apply below_drew1 | refine below_set ?_ (IsS48.ge HI154.out)) | exact HB.out)); rintro e w12 ⟨rfl, hi, hb, hk⟩; have n0_ := Aside0.mk (hb); have n1_ := Aside0.mk (hi); clear HB; clear HI154; have HB := n0_; have HI154 := n1_; clear n0_ n1_; (try clear hb); (try clear hb2); (try clear hk); (try clear hi)) | (go_at_call 13; (with_reducible refine (guard_Guard_Brakes.calls g154 t157 t158 t159 t160 t161 t162 t163 t164 t165 t166 t167 t147 t168 t169 t170 t171 t172 t173 true t175 t176 t177 t178 t179 t180 t181 t182 t183 t184 t185 t186 t187 t188 t189 t190 t191 w _ ?side1 ?side2 A7.out).mono ?_); (case side1 => repeat (first | (with_reducible first | exact HI154.out | apply IsS48.alloc | apply IsS48.drewN | apply IsS48.drew | apply IsS48.set_0 | apply IsS48.set_1 | apply IsS48.set_2 | apply IsS48.set_3 | apply IsS48.set_4 | apply IsS48.set_5 | apply IsS48.set_6 | apply IsS48.set_7 | apply IsS48.set_8 | apply IsS48.set_9 | apply IsS48.set_10 | apply IsS48.set_12 | apply IsS48.set_13 | apply IsS48.set_14 | apply IsS48.set_15 | apply IsS48.set_16 | apply IsS48.set_17) | exact HI154.out)); (case side2 => repeat (first | (with_reducible first | exact HB.out | apply below_alloc | apply pw_below_drewN | apply below_drew1 | refine below_set ?_ (IsS48.ge HI154.out)) | exact HB.out)); rintro e w13 ⟨rfl, hi, hb, hk⟩; have n0_ := Aside0.mk (hb); have n1_ := Aside0.mk (hi); clear HB; clear HI154; have HB := n0_; have HI154 := n1_; clear n0_ n1_; (try clear hb); (try clear hb2); (try clear hk); (try clear hi)) | (go_at_call 17; (with_reducible refine (guard_Guard_Tick.calls g154 t175 t176 t177 t178 t179 t180 t181 t182 t183 t184 t185 t147 t186 t187 t188 t189 t190 t191 1000006 t192 t193 t194 t195 t196 t197 t198 t199 t200 t201 t202 t203 t204 t205 t206 t207 t208 t209 w _ ?side1 ?side2 A9.out).mono ?_); (case side1 => repeat (first | (with_reducible first | exact HI154.out | apply IsS48.alloc | apply IsS48.drewN | apply IsS48.drew | apply IsS48.set_0 | apply IsS48.set_1 | apply IsS48.set_2 | apply IsS48.set_3 | apply IsS48.set_4 | apply IsS48.set_5 | apply IsS48.set_6 | apply IsS48.set_7 | apply IsS48.set_8 | apply IsS48.set_9 | apply IsS48.set_10 | apply IsS48.set_12 | apply IsS48.set_13 | apply IsS48.set_14 | apply IsS48.set_15 | apply IsS48.set_16 | apply IsS48.set_17) | exact HI154.out)); (case side2 => repeat (first | (with_reducible first | exact HB.out | apply below_alloc | apply pw_below_drewN | apply below_drew1 | refine below_set ?_ (IsS48.ge HI154.out)) | exact HB.out)); rintro e w14 ⟨rfl, hi, hb, hk⟩; have n0_ := Aside0.mk (hb); have n1_ := Aside0.mk (hi); clear HB; clear HI154; have HB := n0_; have HI154 := n1_; clear n0_ n1_; (try clear hb); (try clear hb2); (try clear hk); (try clear hi)))
     go_ret
     exact ⟨by first | rfl | (simp [errW_none, errW_some] <;> rfl) | (simp [*, errW_none, errW_some] <;> rfl), by repeat (first | (with_reducible first | exact HB.out | apply below_alloc | apply pw_below_drewN | apply below_drew1 | refine below_set ?_ (IsS48.ge HI154.out)) | exact HB.out)⟩
    ·replace c8 := Bool.eq_false_iff.mpr c8
     subst c8
     have H1 : (some false) = some r := by rw [if_neg (show ¬ (false = true) by decide)] at H; exact H
     clear H
     have H := H1
     clear H1
     obtain rfl := Option.some.inj H
     go_enter Try.func14, Try.ntmps14
     go_wp2_with (first | ((with_reducible refine gate_callee (f := 9) rfl ?_); refine goesL_ (some 4) rfl rfl Try.func9 (by kernel_rfl) rfl #[] rfl (by (try simp only [List.map_toArray, List.map_cons, List.map_nil]); first | done | rfl | (simp only [List.length_drop, List.length_take]; rfl)) ?_; (with_reducible refine (flywheellaw28_Some.calls  t124 t125 t126 t127 t128 t129 t130 t131 t132 t133 t134 t135 _ A1.out).mono ?_); rintro e w15 ⟨rfl, hb⟩; refine ⟨_, rfl, ?_⟩; have n0_ := Aside0.mk (below_step (by repeat (first | (with_reducible first | exact HB.out | apply below_alloc | apply pw_below_drewN | apply below_drew1) | exact HB.out)) hb); clear HB; have HB := n0_; clear n0_; (try clear hb); (try clear hb2); (try clear hk); (try clear hi)) | ((with_reducible refine gate_callee (f := 10) rfl ?_); refine goesL_ (some 5) rfl rfl Try.func10 (by kernel_rfl) rfl #[.agg #[.int .i64 t124, .int .i64 t125, .int .i64 t126, .int .i64 t127, .int .i64 t128, .int .i64 t129, .int .i64 t130, .int .i64 t131, .int .i64 t132, .int .i64 t133, .int .i64 t134, .slice none 0 0, .int .i64 t135]] rfl (by (try simp only [List.map_toArray, List.map_cons, List.map_nil]); first | done | rfl | (simp only [List.length_drop, List.length_take]; rfl)) ?_; (refine (guard_New.made.calls t124 t125 t126 t127 t128 t129 t130 t131 t132 t133 t134 _ _ ([] : List (S85)) t135 t136 t137 t138 t139 t140 t141 t142 t143 t144 t145 t146 t147 t148 t149 t150 t151 t152 t153 t155 w _ ?side1 ?side2 ?side3 A3.out).mono ?_); (case side1 => repeat (first | (with_reducible first | exact HB.out | apply below_alloc | apply pw_below_drewN | apply below_drew1) | exact HB.out)); (case side2 => exact Kd.C_nil _ _); (case side3 => exact Nat.le_refl _); rintro e w16 ⟨g154, rfl, hi, hb, hb2⟩; refine ⟨_, rfl, ?_⟩; have n0_ := Aside0.mk (hb); have n1_ := Aside0.mk (hi); clear HB; have HB := n0_; have HI154 := n1_; clear n0_ n1_; (try clear hb); (try clear hb2); (try clear hk); (try clear hi)) | (go_at_call 11; (with_reducible refine (guard_Guard_Hear.calls g154 t136 t137 t138 t139 t140 t141 t142 t143 t144 t145 t146 t147 t148 t149 t150 t151 t152 t153 5000000 200000 800000 false 5 t156 t157 t158 t159 t160 t161 t162 t163 t164 t165 t166 t167 t168 t169 t170 t171 t172 t173 w _ ?side1 ?side2 A5.out).mono ?_); (case side1 => repeat (first | (with_reducible first | exact HI154.out | apply IsS48.alloc | apply IsS48.drewN | apply IsS48.drew | apply IsS48.set_0 | apply IsS48.set_1 | apply IsS48.set_2 | apply IsS48.set_3 | apply IsS48.set_4 | apply IsS48.set_5 | apply IsS48.set_6 | apply IsS48.set_7 | apply IsS48.set_8 | apply IsS48.set_9 | apply IsS48.set_10 | apply IsS48.set_12 | apply IsS48.set_13 | apply IsS48.set_14 | apply IsS48.set_15 | apply IsS48.set_16 | apply IsS48.set_17) | exact HI154.out)); (case side2 => repeat (first | (with_reducible first | exact HB.out | apply below_alloc | apply pw_below_drewN | apply below_drew1 | refine below_set ?_ (IsS48.ge HI154.out)) | exact HB.out)); rintro e w17 ⟨rfl, hi, hb, hk⟩; have n0_ := Aside0.mk (hb); have n1_ := Aside0.mk (hi); clear HB; clear HI154; have HB := n0_; have HI154 := n1_; clear n0_ n1_; (try clear hb); (try clear hb2); (try clear hk); (try clear hi)) | (go_at_call 13; (with_reducible refine (guard_Guard_Brakes.calls g154 t157 t158 t159 t160 t161 t162 t163 t164 t165 t166 t167 t147 t168 t169 t170 t171 t172 t173 false t175 t176 t177 t178 t179 t180 t181 t182 t183 t184 t185 t186 t187 t188 t189 t190 t191 w _ ?side1 ?side2 A7.out).mono ?_); (case side1 => repeat (first | (with_reducible first | exact HI154.out | apply IsS48.alloc | apply IsS48.drewN | apply IsS48.drew | apply IsS48.set_0 | apply IsS48.set_1 | apply IsS48.set_2 | apply IsS48.set_3 | apply IsS48.set_4 | apply IsS48.set_5 | apply IsS48.set_6 | apply IsS48.set_7 | apply IsS48.set_8 | apply IsS48.set_9 | apply IsS48.set_10 | apply IsS48.set_12 | apply IsS48.set_13 | apply IsS48.set_14 | apply IsS48.set_15 | apply IsS48.set_16 | apply IsS48.set_17) | exact HI154.out)); (case side2 => repeat (first | (with_reducible first | exact HB.out | apply below_alloc | apply pw_below_drewN | apply below_drew1 | refine below_set ?_ (IsS48.ge HI154.out)) | exact HB.out)); rintro e w18 ⟨rfl, hi, hb, hk⟩; have n0_ := Aside0.mk (hb); have n1_ := Aside0.mk (hi); clear HB; clear HI154; have HB := n0_; have HI154 := n1_; clear n0_ n1_; (try clear hb); (try clear hb2); (try clear hk); (try clear hi)))
     go_ret
     exact ⟨by first | rfl | (simp [errW_none, errW_some] <;> rfl) | (simp [*, errW_none, errW_some] <;> rfl), by repeat (first | (with_reducible first | exact HB.out | apply below_alloc | apply pw_below_drewN | apply below_drew1 | refine below_set ?_ (IsS48.ge HI154.out)) | exact HB.out)⟩
   ·rw [if_neg c6] at H
    have c6b0 : (t156 == 700000) = false := beq_eq_false_iff_ne.mpr c6
    have c6b1 : (t156 != 700000) = true := bne_iff_ne.mpr c6
    obtain rfl := Option.some.inj H
    go_enter Try.func14, Try.ntmps14
    go_wp2_with (first | ((with_reducible refine gate_callee (f := 9) rfl ?_); refine goesL_ (some 4) rfl rfl Try.func9 (by kernel_rfl) rfl #[] rfl (by (try simp only [List.map_toArray, List.map_cons, List.map_nil]); first | done | rfl | (simp only [List.length_drop, List.length_take]; rfl)) ?_; (with_reducible refine (flywheellaw28_Some.calls  t124 t125 t126 t127 t128 t129 t130 t131 t132 t133 t134 t135 _ A1.out).mono ?_); rintro e w19 ⟨rfl, hb⟩; refine ⟨_, rfl, ?_⟩; have n0_ := Aside0.mk (below_step (by repeat (first | (with_reducible first | exact HB.out | apply below_alloc | apply pw_below_drewN | apply below_drew1) | exact HB.out)) hb); clear HB; have HB := n0_; clear n0_; (try clear hb); (try clear hb2); (try clear hk); (try clear hi)) | ((with_reducible refine gate_callee (f := 10) rfl ?_); refine goesL_ (some 5) rfl rfl Try.func10 (by kernel_rfl) rfl #[.agg #[.int .i64 t124, .int .i64 t125, .int .i64 t126, .int .i64 t127, .int .i64 t128, .int .i64 t129, .int .i64 t130, .int .i64 t131, .int .i64 t132, .int .i64 t133, .int .i64 t134, .slice none 0 0, .int .i64 t135]] rfl (by (try simp only [List.map_toArray, List.map_cons, List.map_nil]); first | done | rfl | (simp only [List.length_drop, List.length_take]; rfl)) ?_; (refine (guard_New.made.calls t124 t125 t126 t127 t128 t129 t130 t131 t132 t133 t134 _ _ ([] : List (S85)) t135 t136 t137 t138 t139 t140 t141 t142 t143 t144 t145 t146 t147 t148 t149 t150 t151 t152 t153 t155 w _ ?side1 ?side2 ?side3 A3.out).mono ?_); (case side1 => repeat (first | (with_reducible first | exact HB.out | apply below_alloc | apply pw_below_drewN | apply below_drew1) | exact HB.out)); (case side2 => exact Kd.C_nil _ _); (case side3 => exact Nat.le_refl _); rintro e w20 ⟨g154, rfl, hi, hb, hb2⟩; refine ⟨_, rfl, ?_⟩; have n0_ := Aside0.mk (hb); have n1_ := Aside0.mk (hi); clear HB; have HB := n0_; have HI154 := n1_; clear n0_ n1_; (try clear hb); (try clear hb2); (try clear hk); (try clear hi)) | (go_at_call 11; (with_reducible refine (guard_Guard_Hear.calls g154 t136 t137 t138 t139 t140 t141 t142 t143 t144 t145 t146 t147 t148 t149 t150 t151 t152 t153 5000000 200000 800000 false 5 t156 t157 t158 t159 t160 t161 t162 t163 t164 t165 t166 t167 t168 t169 t170 t171 t172 t173 w _ ?side1 ?side2 A5.out).mono ?_); (case side1 => repeat (first | (with_reducible first | exact HI154.out | apply IsS48.alloc | apply IsS48.drewN | apply IsS48.drew | apply IsS48.set_0 | apply IsS48.set_1 | apply IsS48.set_2 | apply IsS48.set_3 | apply IsS48.set_4 | apply IsS48.set_5 | apply IsS48.set_6 | apply IsS48.set_7 | apply IsS48.set_8 | apply IsS48.set_9 | apply IsS48.set_10 | apply IsS48.set_12 | apply IsS48.set_13 | apply IsS48.set_14 | apply IsS48.set_15 | apply IsS48.set_16 | apply IsS48.set_17) | exact HI154.out)); (case side2 => repeat (first | (with_reducible first | exact HB.out | apply below_alloc | apply pw_below_drewN | apply below_drew1 | refine below_set ?_ (IsS48.ge HI154.out)) | exact HB.out)); rintro e w21 ⟨rfl, hi, hb, hk⟩; have n0_ := Aside0.mk (hb); have n1_ := Aside0.mk (hi); clear HB; clear HI154; have HB := n0_; have HI154 := n1_; clear n0_ n1_; (try clear hb); (try clear hb2); (try clear hk); (try clear hi)))
    go_ret
    exact ⟨by first | rfl | (simp [errW_none, errW_some] <;> rfl) | (simp [*, errW_none, errW_some] <;> rfl), by repeat (first | (with_reducible first | exact HB.out | apply below_alloc | apply pw_below_drewN | apply below_drew1 | refine below_set ?_ (IsS48.ge HI154.out)) | exact HB.out)⟩
  ·rw [if_neg c4] at H
   have c4b0 : (t155 == 0) = false := beq_eq_false_iff_ne.mpr c4
   have c4b1 : (t155 != 0) = true := bne_iff_ne.mpr c4
   obtain rfl := Option.some.inj H
   go_enter Try.func14, Try.ntmps14
   go_wp2_with (first | ((with_reducible refine gate_callee (f := 9) rfl ?_); refine goesL_ (some 4) rfl rfl Try.func9 (by kernel_rfl) rfl #[] rfl (by (try simp only [List.map_toArray, List.map_cons, List.map_nil]); first | done | rfl | (simp only [List.length_drop, List.length_take]; rfl)) ?_; (with_reducible refine (flywheellaw28_Some.calls  t124 t125 t126 t127 t128 t129 t130 t131 t132 t133 t134 t135 _ A1.out).mono ?_); rintro e w22 ⟨rfl, hb⟩; refine ⟨_, rfl, ?_⟩; have n0_ := Aside0.mk (below_step (by repeat (first | (with_reducible first | exact HB.out | apply below_alloc | apply pw_below_drewN | apply below_drew1) | exact HB.out)) hb); clear HB; have HB := n0_; clear n0_; (try clear hb); (try clear hb2); (try clear hk); (try clear hi)) | ((with_reducible refine gate_callee (f := 10) rfl ?_); refine goesL_ (some 5) rfl rfl Try.func10 (by kernel_rfl) rfl #[.agg #[.int .i64 t124, .int .i64 t125, .int .i64 t126, .int .i64 t127, .int .i64 t128, .int .i64 t129, .int .i64 t130, .int .i64 t131, .int .i64 t132, .int .i64 t133, .int .i64 t134, .slice none 0 0, .int .i64 t135]] rfl (by (try simp only [List.map_toArray, List.map_cons, List.map_nil]); first | done | rfl | (simp only [List.length_drop, List.length_take]; rfl)) ?_; (refine (guard_New.made.calls t124 t125 t126 t127 t128 t129 t130 t131 t132 t133 t134 _ _ ([] : List (S85)) t135 t136 t137 t138 t139 t140 t141 t142 t143 t144 t145 t146 t147 t148 t149 t150 t151 t152 t153 t155 w _ ?side1 ?side2 ?side3 A3.out).mono ?_); (case side1 => repeat (first | (with_reducible first | exact HB.out | apply below_alloc | apply pw_below_drewN | apply below_drew1) | exact HB.out)); (case side2 => exact Kd.C_nil _ _); (case side3 => exact Nat.le_refl _); rintro e w23 ⟨g154, rfl, hi, hb, hb2⟩; refine ⟨_, rfl, ?_⟩; have n0_ := Aside0.mk (hb); have n1_ := Aside0.mk (hi); clear HB; have HB := n0_; have HI154 := n1_; clear n0_ n1_; (try clear hb); (try clear hb2); (try clear hk); (try clear hi)))
   go_ret
   exact ⟨by first | rfl | (simp [errW_none, errW_some] <;> rfl) | (simp [*, errW_none, errW_some] <;> rfl), by repeat (first | (with_reducible first | exact HB.out | apply below_alloc | apply pw_below_drewN | apply below_drew1 | refine below_set ?_ (IsS48.ge HI154.out)) | exact HB.out)⟩
 ·rw [if_neg c2] at H
  have c2b0 : (guard_New.made.f t124 t125 t126 t127 t128 t129 t130 t131 t132 t133 t134 ([] : List (S85)) t135).isSome = false := by simpa using c2
  clear c2
  replace H := Option.bind_eq_some_iff.mp H
  obtain ⟨t210, A240, H⟩ := H
  replace H : (if t210 = 0 then ((guard_Guard_Hear.nilrecv.f 5000000 200000 800000 false 5).bind fun t211 => (if t211 = 700000 then ((guard_Guard_Brakes.nilrecv.f).bind fun t212 => (if t212 = true then ((guard_Guard_Tick.nilrecv.f 1000006).bind fun t213 => (some (t213 == 350000))) else (some false))) else (some false))) else (some false)) = some r := H
  have A24 := Aside0.mk A240
  clear A240
  by_cases c25 : t210 = 0
  ·rw [if_pos c25] at H
   have c25b0 : (t210 == 0) = true := beq_iff_eq.mpr c25
   have c25b1 : (t210 != 0) = false := bne_eq_false_iff_eq.mpr c25
   clear c25
   replace H := Option.bind_eq_some_iff.mp H
   obtain ⟨t211, A260, H⟩ := H
   replace H : (if t211 = 700000 then ((guard_Guard_Brakes.nilrecv.f).bind fun t212 => (if t212 = true then ((guard_Guard_Tick.nilrecv.f 1000006).bind fun t213 => (some (t213 == 350000))) else (some false))) else (some false)) = some r := H
   have A26 := Aside0.mk A260
   clear A260
   by_cases c27 : t211 = 700000
   ·rw [if_pos c27] at H
    have c27b0 : (t211 == 700000) = true := beq_iff_eq.mpr c27
    have c27b1 : (t211 != 700000) = false := bne_eq_false_iff_eq.mpr c27
    clear c27
    replace H := Option.bind_eq_some_iff.mp H
    obtain ⟨t212, A280, H⟩ := H
    replace H : (if t212 = true then ((guard_Guard_Tick.nilrecv.f 1000006).bind fun t213 => (some (t213 == 350000))) else (some false)) = some r := H
    have A28 := Aside0.mk A280
    clear A280
    by_cases c29 : t212 = true
    ·subst c29
     have H1 : ((guard_Guard_Tick.nilrecv.f 1000006).bind fun t213 => (some (t213 == 350000))) = some r := by rw [if_pos rfl] at H; exact H
     clear H
     have H := H1
     clear H1
     replace H := Option.bind_eq_some_iff.mp H
     obtain ⟨t213, A300, H⟩ := H
     replace H : (some (t213 == 350000)) = some r := H
     have A30 := Aside0.mk A300
     clear A300
     obtain rfl := Option.some.inj H
     go_enter Try.func14, Try.ntmps14
     go_wp2_with (first | ((with_reducible refine gate_callee (f := 9) rfl ?_); refine goesL_ (some 4) rfl rfl Try.func9 (by kernel_rfl) rfl #[] rfl (by (try simp only [List.map_toArray, List.map_cons, List.map_nil]); first | done | rfl | (simp only [List.length_drop, List.length_take]; rfl)) ?_; (with_reducible refine (flywheellaw28_Some.calls  t124 t125 t126 t127 t128 t129 t130 t131 t132 t133 t134 t135 _ A1.out).mono ?_); rintro e w31 ⟨rfl, hb⟩; refine ⟨_, rfl, ?_⟩; have n0_ := Aside0.mk (below_step (by repeat (first | (with_reducible first | exact HB.out | apply below_alloc | apply pw_below_drewN | apply below_drew1) | exact HB.out)) hb); clear HB; have HB := n0_; clear n0_; (try clear hb); (try clear hb2); (try clear hk); (try clear hi)) | ((with_reducible refine gate_callee (f := 10) rfl ?_); refine goesL_ (some 5) rfl rfl Try.func10 (by kernel_rfl) rfl #[.agg #[.int .i64 t124, .int .i64 t125, .int .i64 t126, .int .i64 t127, .int .i64 t128, .int .i64 t129, .int .i64 t130, .int .i64 t131, .int .i64 t132, .int .i64 t133, .int .i64 t134, .slice none 0 0, .int .i64 t135]] rfl (by (try simp only [List.map_toArray, List.map_cons, List.map_nil]); first | done | rfl | (simp only [List.length_drop, List.length_take]; rfl)) ?_; (refine (guard_New.nil.calls t124 t125 t126 t127 t128 t129 t130 t131 t132 t133 t134 _ _ ([] : List (S85)) t135 t210 _ ?side1 ?side2 A24.out).mono ?_); (case side1 => exact Kd.C_nil _ _); (case side2 => exact Nat.le_refl _); rintro e w32 ⟨rfl, hb⟩; refine ⟨_, rfl, ?_⟩; have n0_ := Aside0.mk (below_step (by repeat (first | (with_reducible first | exact HB.out | apply below_alloc | apply pw_below_drewN | apply below_drew1) | exact HB.out)) hb); clear HB; have HB := n0_; clear n0_; (try clear hb); (try clear hb2); (try clear hk); (try clear hi)) | (go_at_call 11; (with_reducible refine (guard_Guard_Hear.nilrecv.calls  5000000 200000 800000 false 5 t211 _ A26.out).mono ?_); rintro e w33 ⟨rfl, hb⟩; have n0_ := Aside0.mk (below_step (by repeat (first | (with_reducible first | exact HB.out | apply below_alloc | apply pw_below_drewN | apply below_drew1) | exact HB.out)) hb); clear HB; have HB := n0_; clear n0_; (try clear hb); (try clear hb2); (try clear hk); (try clear hi)) | (go_at_call 13; (with_reducible refine (guard_Guard_Brakes.nilrecv.calls  true _ A28.out).mono ?_); rintro e w' ⟨rfl, ⟨nd, rfl⟩⟩) | (go_at_call 17; (with_reducible refine (guard_Guard_Tick.nilrecv.calls  1000006 t213 _ A30.out).mono ?_); rintro e w34 ⟨rfl, hb⟩; have n0_ := Aside0.mk (below_step (by repeat (first | (with_reducible first | exact HB.out | apply below_alloc | apply pw_below_drewN | apply below_drew1) | exact HB.out)) hb); clear HB; have HB := n0_; clear n0_; (try clear hb); (try clear hb2); (try clear hk); (try clear hi)))
     go_ret
     exact ⟨by first | rfl | (simp [errW_none, errW_some] <;> rfl) | (simp [*, errW_none, errW_some] <;> rfl), by repeat (first | (with_reducible first | exact HB.out | apply below_alloc | apply pw_below_drewN | apply below_drew1) | exact HB.out)⟩
    ·replace c29 := Bool.eq_false_iff.mpr c29
     subst c29
     have H1 : (some false) = some r := by rw [if_neg (show ¬ (false = true) by decide)] at H; exact H
     clear H
     have H := H1
     clear H1
     obtain rfl := Option.some.inj H
     go_enter Try.func14, Try.ntmps14
     go_wp2_with (first | ((with_reducible refine gate_callee (f := 9) rfl ?_); refine goesL_ (some 4) rfl rfl Try.func9 (by kernel_rfl) rfl #[] rfl (by (try simp only [List.map_toArray, List.map_cons, List.map_nil]); first | done | rfl | (simp only [List.length_drop, List.length_take]; rfl)) ?_; (with_reducible refine (flywheellaw28_Some.calls  t124 t125 t126 t127 t128 t129 t130 t131 t132 t133 t134 t135 _ A1.out).mono ?_); rintro e w35 ⟨rfl, hb⟩; refine ⟨_, rfl, ?_⟩; have n0_ := Aside0.mk (below_step (by repeat (first | (with_reducible first | exact HB.out | apply below_alloc | apply pw_below_drewN | apply below_drew1) | exact HB.out)) hb); clear HB; have HB := n0_; clear n0_; (try clear hb); (try clear hb2); (try clear hk); (try clear hi)) | ((with_reducible refine gate_callee (f := 10) rfl ?_); refine goesL_ (some 5) rfl rfl Try.func10 (by kernel_rfl) rfl #[.agg #[.int .i64 t124, .int .i64 t125, .int .i64 t126, .int .i64 t127, .int .i64 t128, .int .i64 t129, .int .i64 t130, .int .i64 t131, .int .i64 t132, .int .i64 t133, .int .i64 t134, .slice none 0 0, .int .i64 t135]] rfl (by (try simp only [List.map_toArray, List.map_cons, List.map_nil]); first | done | rfl | (simp only [List.length_drop, List.length_take]; rfl)) ?_; (refine (guard_New.nil.calls t124 t125 t126 t127 t128 t129 t130 t131 t132 t133 t134 _ _ ([] : List (S85)) t135 t210 _ ?side1 ?side2 A24.out).mono ?_); (case side1 => exact Kd.C_nil _ _); (case side2 => exact Nat.le_refl _); rintro e w36 ⟨rfl, hb⟩; refine ⟨_, rfl, ?_⟩; have n0_ := Aside0.mk (below_step (by repeat (first | (with_reducible first | exact HB.out | apply below_alloc | apply pw_below_drewN | apply below_drew1) | exact HB.out)) hb); clear HB; have HB := n0_; clear n0_; (try clear hb); (try clear hb2); (try clear hk); (try clear hi)) | (go_at_call 11; (with_reducible refine (guard_Guard_Hear.nilrecv.calls  5000000 200000 800000 false 5 t211 _ A26.out).mono ?_); rintro e w37 ⟨rfl, hb⟩; have n0_ := Aside0.mk (below_step (by repeat (first | (with_reducible first | exact HB.out | apply below_alloc | apply pw_below_drewN | apply below_drew1) | exact HB.out)) hb); clear HB; have HB := n0_; clear n0_; (try clear hb); (try clear hb2); (try clear hk); (try clear hi)) | (go_at_call 13; (with_reducible refine (guard_Guard_Brakes.nilrecv.calls  false _ A28.out).mono ?_); rintro e w' ⟨rfl, ⟨nd, rfl⟩⟩))
     go_ret
     exact ⟨by first | rfl | (simp [errW_none, errW_some] <;> rfl) | (simp [*, errW_none, errW_some] <;> rfl), by repeat (first | (with_reducible first | exact HB.out | apply below_alloc | apply pw_below_drewN | apply below_drew1) | exact HB.out)⟩
   ·rw [if_neg c27] at H
    have c27b0 : (t211 == 700000) = false := beq_eq_false_iff_ne.mpr c27
    have c27b1 : (t211 != 700000) = true := bne_iff_ne.mpr c27
    obtain rfl := Option.some.inj H
    go_enter Try.func14, Try.ntmps14
    go_wp2_with (first | ((with_reducible refine gate_callee (f := 9) rfl ?_); refine goesL_ (some 4) rfl rfl Try.func9 (by kernel_rfl) rfl #[] rfl (by (try simp only [List.map_toArray, List.map_cons, List.map_nil]); first | done | rfl | (simp only [List.length_drop, List.length_take]; rfl)) ?_; (with_reducible refine (flywheellaw28_Some.calls  t124 t125 t126 t127 t128 t129 t130 t131 t132 t133 t134 t135 _ A1.out).mono ?_); rintro e w38 ⟨rfl, hb⟩; refine ⟨_, rfl, ?_⟩; have n0_ := Aside0.mk (below_step (by repeat (first | (with_reducible first | exact HB.out | apply below_alloc | apply pw_below_drewN | apply below_drew1) | exact HB.out)) hb); clear HB; have HB := n0_; clear n0_; (try clear hb); (try clear hb2); (try clear hk); (try clear hi)) | ((with_reducible refine gate_callee (f := 10) rfl ?_); refine goesL_ (some 5) rfl rfl Try.func10 (by kernel_rfl) rfl #[.agg #[.int .i64 t124, .int .i64 t125, .int .i64 t126, .int .i64 t127, .int .i64 t128, .int .i64 t129, .int .i64 t130, .int .i64 t131, .int .i64 t132, .int .i64 t133, .int .i64 t134, .slice none 0 0, .int .i64 t135]] rfl (by (try simp only [List.map_toArray, List.map_cons, List.map_nil]); first | done | rfl | (simp only [List.length_drop, List.length_take]; rfl)) ?_; (refine (guard_New.nil.calls t124 t125 t126 t127 t128 t129 t130 t131 t132 t133 t134 _ _ ([] : List (S85)) t135 t210 _ ?side1 ?side2 A24.out).mono ?_); (case side1 => exact Kd.C_nil _ _); (case side2 => exact Nat.le_refl _); rintro e w39 ⟨rfl, hb⟩; refine ⟨_, rfl, ?_⟩; have n0_ := Aside0.mk (below_step (by repeat (first | (with_reducible first | exact HB.out | apply below_alloc | apply pw_below_drewN | apply below_drew1) | exact HB.out)) hb); clear HB; have HB := n0_; clear n0_; (try clear hb); (try clear hb2); (try clear hk); (try clear hi)) | (go_at_call 11; (with_reducible refine (guard_Guard_Hear.nilrecv.calls  5000000 200000 800000 false 5 t211 _ A26.out).mono ?_); rintro e w40 ⟨rfl, hb⟩; have n0_ := Aside0.mk (below_step (by repeat (first | (with_reducible first | exact HB.out | apply below_alloc | apply pw_below_drewN | apply below_drew1) | exact HB.out)) hb); clear HB; have HB := n0_; clear n0_; (try clear hb); (try clear hb2); (try clear hk); (try clear hi)))
    go_ret
    exact ⟨by first | rfl | (simp [errW_none, errW_some] <;> rfl) | (simp [*, errW_none, errW_some] <;> rfl), by repeat (first | (with_reducible first | exact HB.out | apply below_alloc | apply pw_below_drewN | apply below_drew1) | exact HB.out)⟩
  ·rw [if_neg c25] at H
   have c25b0 : (t210 == 0) = false := beq_eq_false_iff_ne.mpr c25
   have c25b1 : (t210 != 0) = true := bne_iff_ne.mpr c25
   obtain rfl := Option.some.inj H
   go_enter Try.func14, Try.ntmps14
   go_wp2_with (first | ((with_reducible refine gate_callee (f := 9) rfl ?_); refine goesL_ (some 4) rfl rfl Try.func9 (by kernel_rfl) rfl #[] rfl (by (try simp only [List.map_toArray, List.map_cons, List.map_nil]); first | done | rfl | (simp only [List.length_drop, List.length_take]; rfl)) ?_; (with_reducible refine (flywheellaw28_Some.calls  t124 t125 t126 t127 t128 t129 t130 t131 t132 t133 t134 t135 _ A1.out).mono ?_); rintro e w41 ⟨rfl, hb⟩; refine ⟨_, rfl, ?_⟩; have n0_ := Aside0.mk (below_step (by repeat (first | (with_reducible first | exact HB.out | apply below_alloc | apply pw_below_drewN | apply below_drew1) | exact HB.out)) hb); clear HB; have HB := n0_; clear n0_; (try clear hb); (try clear hb2); (try clear hk); (try clear hi)) | ((with_reducible refine gate_callee (f := 10) rfl ?_); refine goesL_ (some 5) rfl rfl Try.func10 (by kernel_rfl) rfl #[.agg #[.int .i64 t124, .int .i64 t125, .int .i64 t126, .int .i64 t127, .int .i64 t128, .int .i64 t129, .int .i64 t130, .int .i64 t131, .int .i64 t132, .int .i64 t133, .int .i64 t134, .slice none 0 0, .int .i64 t135]] rfl (by (try simp only [List.map_toArray, List.map_cons, List.map_nil]); first | done | rfl | (simp only [List.length_drop, List.length_take]; rfl)) ?_; (refine (guard_New.nil.calls t124 t125 t126 t127 t128 t129 t130 t131 t132 t133 t134 _ _ ([] : List (S85)) t135 t210 _ ?side1 ?side2 A24.out).mono ?_); (case side1 => exact Kd.C_nil _ _); (case side2 => exact Nat.le_refl _); rintro e w42 ⟨rfl, hb⟩; refine ⟨_, rfl, ?_⟩; have n0_ := Aside0.mk (below_step (by repeat (first | (with_reducible first | exact HB.out | apply below_alloc | apply pw_below_drewN | apply below_drew1) | exact HB.out)) hb); clear HB; have HB := n0_; clear n0_; (try clear hb); (try clear hb2); (try clear hk); (try clear hi)))
   go_ret
   exact ⟨by first | rfl | (simp [errW_none, errW_some] <;> rfl) | (simp [*, errW_none, errW_some] <;> rfl), by repeat (first | (with_reducible first | exact HB.out | apply below_alloc | apply pw_below_drewN | apply below_drew1) | exact HB.out)⟩
end Go.Proofs.Ytkfkbebpcmmnfaa.P
end

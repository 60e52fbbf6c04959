-- PUT TOGETHER by a program of this session: of the claim's texts, what is used
import Derived.Test.YtphgeljglhjamaaDoorKGccNone8
import Derived.Test.YtphgeljglhjamaaDoorKGccNone9
import Derived.KernelRfl
section
namespace Go.Proofs.YtphgeljglhjamaaDoor.P
open Go.RowKit Go.Proofs.YtphgeljglhjamaaDoorW.PrintWords Go.Proofs.YtphgeljglhjamaaDoorW.PrintLast Go.Proofs.YtphgeljglhjamaaDoorW.PrintMore
attribute [local go_sem] max2_int min2_int max_two min_two max_three min_three max_four min_four   -- for this text's walks alone
set_option linter.unusedVariables false
set_option linter.unusedSimpArgs false
theorem mul64_ok (a b : Int) (ha : 0 ≤ a) (ha1 : a < 18446744073709551616) (hb : 0 ≤ b) (hb1 : b < 18446744073709551616) :
  bits_Mul64.f a b = some (a * b / 18446744073709551616, a * b % 18446744073709551616) := by
 obtain ⟨x, rfl⟩ := Int.eq_ofNat_of_zero_le ha
 obtain ⟨y, rfl⟩ := Int.eq_ofNat_of_zero_le hb
 have hx : x < 18446744073709551616 := by omega
 have hy : y < 18446744073709551616 := by omega
 obtain ⟨bd, bt, bw, hhi⟩ := Lib.mul64_hi x y hx hy
 have e1 : Go.bits .and .u64 (x : Int) 4294967295 = ((x % 4294967296 : Nat) : Int) := by rw [and_low32 _ ha (by omega)]; omega
 have e2 : Go.bits .and .u64 (y : Int) 4294967295 = ((y % 4294967296 : Nat) : Int) := by rw [and_low32 _ hb (by omega)]; omega
 have d1 : (x : Int) / 4294967296 = ((x / 4294967296 : Nat) : Int) := by omega
 have d2 : (y : Int) / 4294967296 = ((y / 4294967296 : Nat) : Int) := by omega
 unfold bits_Mul64.f
 rw [e1, e2, d1, d2]
 simp only [← Int.natCast_mul]
 have b3 := Lib.half_mul_le (a := x / 4294967296) (b := y % 4294967296) (by omega) (by omega)
 have b4 := Lib.half_mul_le (a := x % 4294967296) (b := y / 4294967296) (by omega) (by omega)
 have b5 := Lib.half_mul_le (a := x / 4294967296) (b := y / 4294967296) (by omega) (by omega)
 generalize (x % 4294967296) * (y % 4294967296) = w0 at *
 generalize (x / 4294967296) * (y % 4294967296) = p1 at *
 generalize (x % 4294967296) * (y / 4294967296) = p2 at *
 generalize (x / 4294967296) * (y / 4294967296) = p3 at *
 generalize x * y = N at *
 have w1 : IntKind.u64.wrap ((w0 : Nat) : Int) = (w0 : Int) := u64_id _ (by omega) (by omega)
 have w2 : IntKind.u64.wrap ((p1 : Nat) : Int) = (p1 : Int) := u64_id _ (by omega) (by omega)
 have w3 : IntKind.u64.wrap ((p2 : Nat) : Int) = (p2 : Int) := u64_id _ (by omega) (by omega)
 have w4 : IntKind.u64.wrap ((p3 : Nat) : Int) = (p3 : Int) := u64_id _ (by omega) (by omega)
 rw [w1, w2, w3, w4]
 have t : (p1 : Int) + (w0 : Int) / 4294967296 = ((p1 + w0 / 4294967296 : Nat) : Int) := by omega
 rw [t]
 generalize hT : p1 + w0 / 4294967296 = T at *
 have w5 : IntKind.u64.wrap ((T : Nat) : Int) = (T : Int) := u64_id _ (by omega) (by omega)
 have e3 : Go.bits .and .u64 (T : Int) 4294967295 = ((T % 4294967296 : Nat) : Int) := by rw [and_low32 _ (by omega) (by omega)]; omega
 rw [w5, e3]
 rw [u64_id (((T % 4294967296 : Nat) : Int) + (p2 : Int)) (by omega) (by omega), u64_id ((p3 : Int) + (T : Int) / 4294967296) (by omega) (by omega), u64_id _ (by omega) (by omega), u64_mod]
 congr 2
 ·omega
theorem msize (a : Int) (h : isI64 a) : muldiv_size.f a = some (if a < 0 then -a else a) := by
 unfold isI64 at h
 unfold muldiv_size.f
 simp only [u64_mod]
 split
 ·congr 1; omega
 ·congr 1; omega
theorem quotient_tail (below : Bool) (hi lo : Int) (h0 : 0 ≤ hi) (l0 : 0 ≤ lo) (l1 : lo < 18446744073709551616) :
  muldiv_quotient.j2 3 below hi lo = some (hold64 (if below = true then -(hi * 18446744073709551616 + lo) else hi * 18446744073709551616 + lo)) := by
 cases below with
 | true =>
  simp only [muldiv_quotient.j2, muldiv_quotient.j3, muldiv_quotient.j4, if_true]
  unfold hold64
  by_cases hz : hi > 0
  ·rw [if_pos hz, if_pos (by omega)]
  ·rw [if_neg hz]
   by_cases hl : lo > 9223372036854775808
   ·rw [decide_eq_true (by omega), if_pos rfl, if_pos (by omega)]
   ·rw [decide_eq_false (by omega), if_neg (by simp), if_neg (by omega), if_neg (by omega)]
    congr 2
    rw [u64_mod]; unfold wrap64; omega
 | false =>
  simp only [muldiv_quotient.j2, muldiv_quotient.j3, muldiv_quotient.j4, Bool.false_eq_true, if_false]
  unfold hold64
  by_cases hz : hi > 0
  ·rw [if_pos hz, if_pos trivial, if_neg (by omega), if_pos (by omega)]
  ·rw [if_neg hz]
   by_cases hl : lo > 9223372036854775807
   ·rw [decide_eq_true (by omega), if_pos rfl, if_neg (by omega), if_pos (by omega)]
   ·rw [decide_eq_false (by omega), if_neg (by simp), if_neg (by omega), if_neg (by omega)]
    congr 2
    unfold wrap64; omega
theorem up_ok (left C : Int) (below : Bool) (how : Int) (h0 : 0 ≤ left) (h1 : left < C) (hC : C < 18446744073709551616) (hh : how = 1 ∨ how = 2 ∨ how = 3) :
  muldiv_up.f left C below how = some (decide (1 = (if below = true then (if how = 1 then (if 0 < left then 1 else 0) else if how = 3 then 0 else (if C < 2 * left then 1 else 0)) else (if how = 1 then 0 else if how = 3 then (if 0 < left then 1 else 0) else (if C ≤ 2 * left then 1 else 0)) : Int))) := by
 unfold muldiv_up.f
 have w : IntKind.u64.wrap (C - left) = C - left := u64_id _ (by omega) (by omega)
 rw [w]
 rcases hh with rfl | rfl | rfl <;> cases below <;> simp
 all_goals (try (split <;> simp_all <;> omega))
 all_goals (try omega)
theorem quotient_j1 (x2 how N C : Int) (below : Bool) (hx : isI64 x2) (hC : C = if x2 < 0 then -x2 else x2) (hC0 : 0 < C) (hN : 0 ≤ N) (hN1 : N ≤ 85070591730234615865843651857942052864) (hh : how = 1 ∨ how = 2 ∨ how = 3) :
  muldiv_quotient.j1 4 x2 how below (N / 18446744073709551616) (N % 18446744073709551616) = some (hold64 (rnd (if below = true then -N else N) C how)) := by
 have ms := msize x2 hx
 rw [← hC] at ms
 have hCu : C ≤ 9223372036854775808 := by unfold isI64 at hx; rw [hC]; split <;> omega
 obtain ⟨t1, t2, t3, t4⟩ := two_halves N C hN hC0
 simp only [muldiv_quotient.j1, ms, Option.bind_some]
 unfold muldiv_divided.f
 rw [if_pos ⟨⟨by omega, by omega⟩, ⟨by omega, by omega⟩, ⟨hC0, by omega⟩⟩]
 simp only [Option.bind_some]
 rw [← t2]
 have r0 := Int.emod_nonneg N (show C ≠ 0 by omega)
 have r1 := Int.emod_lt_of_pos N hC0
 rw [up_ok _ _ _ _ r0 r1 (by omega) hh, Option.bind_some]
 have q0 : 0 ≤ N / 18446744073709551616 / C := Int.ediv_nonneg (by omega) (by omega)
 have q1 : N / 18446744073709551616 / C ≤ N / 18446744073709551616 := Int.ediv_le_self _ (by omega)
 have val : ∀ u : Int, u = 0 ∨ u = 1 → (if decide (1 = u) = true then
    muldiv_quotient.j2 3 below (IntKind.u64.wrap (N / 18446744073709551616 / C + add64c ((N / 18446744073709551616 % C * 18446744073709551616 + N % 18446744073709551616) / C) 1 0)) (add64s ((N / 18446744073709551616 % C * 18446744073709551616 + N % 18446744073709551616) / C) 1 0)
   else muldiv_quotient.j2 3 below (N / 18446744073709551616 / C) ((N / 18446744073709551616 % C * 18446744073709551616 + N % 18446744073709551616) / C)) = some (hold64 (if below = true then -(N / C + u) else N / C + u)) := by
  intro u hu
  generalize (N / 18446744073709551616 % C * 18446744073709551616 + N % 18446744073709551616) / C = lo at *
  generalize N / 18446744073709551616 / C = hi at *
  rcases hu with rfl | rfl
  ·rw [if_neg (by simp), quotient_tail below hi lo q0 t3 t4, Int.add_zero, t1]
  ·rw [if_pos (by simp)]
   have s1 : add64s lo 1 0 = (lo + 1) % 18446744073709551616 := by unfold add64s; simp only [show (1 : Int).toNat = 1 from rfl, show (0 : Int).toNat = 0 from rfl]; omega
   have s2 : add64c lo 1 0 = (lo + 1) / 18446744073709551616 := by unfold add64c; simp only [show (1 : Int).toNat = 1 from rfl, show (0 : Int).toNat = 0 from rfl]; omega
   rw [s1, s2, u64_id _ (by omega) (by omega), quotient_tail below _ _ (by omega) (by omega) (by omega)]
   congr 3
   all_goals omega
 cases below with
 | true =>
  simp only [if_true] at val ⊢
  rw [rnd_neg N C how hC0]
  apply val
  split
  ·split <;> simp
  ·split
   ·simp
   ·split <;> simp
 | false =>
  simp only [Bool.false_eq_true, if_false] at val ⊢
  rw [rnd_pos N C how hC0]
  apply val
  split
  ·simp
  ·split
   ·split <;> simp
   ·split <;> simp
theorem quotient_ok (a b c how : Int) (ha : isI64 a) (hb : isI64 b) (hc : isI64 c) : muldiv_quotient.f 5 a b c how = some (mdq a b c how) := by
 unfold muldiv_quotient.f mdq
 by_cases hz : c = 0
 ·rw [if_pos hz, if_pos (Or.inl hz)]; rfl
 rw [if_neg hz]
 by_cases hl : how < 1
 ·rw [if_pos hl, if_pos (Or.inr (Or.inl hl))]; rfl
 rw [if_neg hl]
 by_cases hg : how > 3
 ·rw [decide_eq_true hg, if_pos (Or.inr (Or.inr hg))]; rfl
 rw [decide_eq_false hg, if_neg (by omega)]
 simp only [muldiv_quotient.j0, Bool.false_eq_true, if_false]
 rw [msize a ha, msize b hb]
 simp only [Option.bind_some]
 have ha' := ha; have hb' := hb; have hc' := hc
 unfold isI64 at ha' hb' hc'
 rw [mul64_ok _ _ (by split <;> omega) (by split <;> omega) (by split <;> omega) (by split <;> omega)]
 simp only [Option.bind_some]
 have hN := abs_mul_le (a := if a < 0 then -a else a) (b := if b < 0 then -b else b) (by split <;> omega) (by split <;> omega) (by split <;> omega) (by split <;> omega)
 have hN0 := Int.mul_nonneg (a := if a < 0 then -a else a) (b := if b < 0 then -b else b) (by split <;> omega) (by split <;> omega)
 have J := fun bl => quotient_j1 c how ((if a < 0 then -a else a) * (if b < 0 then -b else b)) (if c < 0 then -c else c) bl hc rfl (by split <;> omega) hN0 hN (by omega)
 simp only [J]
 by_cases h1 : a < 0 <;> by_cases h2 : b < 0 <;> by_cases h3 : c < 0 <;> simp [h1, h2, h3, Int.neg_mul, Int.mul_neg]
def muldiv_quotient_s.f (a0 : Int) (a1 : Int) (a2 : Int) (a3 : Int) : Option (Int × Bool) := if isI64 a0 ∧ isI64 a1 ∧ isI64 a2 then some (mdq a0 a1 a2 a3) else none
theorem muldiv_quotient_s.calls (a0 : Int) (a1 : Int) (a2 : Int) (a3 : Int) (r1 : Int) (r2 : Bool) (w : World) (h : muldiv_quotient_s.f a0 a1 a2 a3 = some (r1, r2)) :
  Calls Tryd.prog 51 #[.int .i64 a0, .int .i64 a1, .int .i64 a2, .int .i64 a3] w fun e w' => e = .returned (.tuple #[.int .i64 r1, .bool r2]) ∧ Below w.heap.size w w' := by
 unfold muldiv_quotient_s.f at h
 split at h
 ·rename_i hb
  exact muldiv_quotient.calls 5 a0 a1 a2 a3 r1 r2 w ((quotient_ok a0 a1 a2 a3 hb.1 hb.2.1 hb.2.2).trans h)
 ·cases h
def muldiv_Do.f (a0 : Int) (a1 : Int) (a2 : Int) (a3 : Int) : Option (Int) := (muldiv_quotient_s.f a0 a1 a2 a3).bind fun bt146 => (some bt146.1)
set_option maxHeartbeats 8000000 in
set_option maxRecDepth 100000 in
theorem muldiv_Do.calls (a0 : Int) (a1 : Int) (a2 : Int) (a3 : Int) (r : Int) (w : World) (h : muldiv_Do.f a0 a1 a2 a3 = some r) :
  Calls Tryd.prog 44 #[.int .i64 a0, .int .i64 a1, .int .i64 a2, .int .i64 a3] w fun e w' => e = .returned (.int .i64 r) ∧ Below w.heap.size w w' := by
 have HB := Aside0.mk (Below.refl w.heap.size w)
 have H : ((muldiv_quotient_s.f a0 a1 a2 a3).bind fun bt146 => (some bt146.1)) = some r := h
 clear h
 replace H := Option.bind_eq_some_iff.mp H
 obtain ⟨⟨t146, t147⟩, A50, H⟩ := H
 replace H : (some t146) = some r := H
 have A5 := Aside0.mk A50
 clear A50
 obtain rfl := Option.some.inj H
 go_enter Tryd.func44, Tryd.ntmps44
 go_wp2_with (first | ((with_reducible refine gate_callee (f := 51) rfl ?_); refine goesL_ (some 16) rfl rfl Tryd.func51 (by kernel_rfl) rfl #[.int .i64 a0, .int .i64 a1, .int .i64 a2, .int .i64 a3] rfl (by (try simp only [List.map_toArray, List.map_cons, List.map_nil]); first | done | rfl | (simp only [List.length_drop, List.length_take]; rfl)) ?_; (with_reducible refine (muldiv_quotient_s.calls a0 a1 a2 a3 t146 t147 _ A5.out).mono ?_); rintro e w6 ⟨rfl, hb⟩; refine ⟨_, rfl, ?_⟩; have n0_ := Aside0.mk (below_step (by repeat (first | (with_reducible first | exact HB.out | apply below_alloc | apply pw_below_drewN | apply below_drew1) | exact HB.out)) hb); clear HB; have HB := n0_; clear n0_; (try clear hb); (try clear hb2); (try clear hk); (try clear hi)))
 go_ret
 exact ⟨by first | rfl | (simp [errW_none, errW_some] <;> rfl) | (simp [*, errW_none, errW_some] <;> rfl), by repeat (first | (with_reducible first | exact HB.out | apply below_alloc | apply pw_below_drewN | apply below_drew1) | exact HB.out)⟩
end Go.Proofs.YtphgeljglhjamaaDoor.P
end

section
namespace Go.Proofs.YtphgeljglhjamaaDoor.P
open Go.RowKit Go.Proofs.YtphgeljglhjamaaDoorW.PrintWords Go.Proofs.YtphgeljglhjamaaDoorW.PrintLast Go.Proofs.YtphgeljglhjamaaDoorW.PrintMore
attribute [local go_sem] max2_int min2_int max_two min_two max_three min_three max_four min_four   -- for this text's walks alone
set_option linter.unusedVariables false
set_option linter.unusedSimpArgs false
def lrow (r n : Int) : Option Int := if n ≤ 5 then (muldiv_Do.f r (wrap64 (105 - wrap64 0)) 100 3).bind fun q => some (wrap64 (q + 1000)) else if n ≤ 26 then (muldiv_Do.f r (wrap64 (1 - wrap64 0)) 1 1).bind fun q => some (wrap64 q) else (muldiv_Do.f r (wrap64 (512 - wrap64 n)) 512 1).bind fun q => some (wrap64 q)
def lossy_Lossy_Update.f (s0_0 : Int) (s0_1 : Int) (s0_2 : Int) (s0_3 : Bool) (s0_4 : Int) (a1 : Int) (a2 : Int) : Option (Int × Int × Int × Int × Bool × Int) := (sat_Clamp.f a2 0 1125899906842624).bind fun t => (if s0_3 = true ∧ wrap64 (t - s0_4) < 200000 then some (s0_0, s0_0, s0_1, s0_2, s0_3, s0_4) else ((sat_Clamp.f a1 0 256).bind fun n => ((lrow s0_0 n).bind fun q => ((sat_Clamp.f q s0_1 s0_2).bind fun t3 => some (t3, t3, s0_1, s0_2, true, t)))))
def GL (w : World) : Prop := w.cell? ⟨0, 0, none⟩ = some (.int .i64 5) ∧ w.cell? ⟨0, 1, none⟩ = some (.int .i64 105) ∧ w.cell? ⟨0, 2, none⟩ = some (.int .i64 100) ∧ w.cell? ⟨0, 3, none⟩ = some (.int .i64 1000) ∧ w.cell? ⟨0, 4, none⟩ = some (.int .i64 0) ∧ w.cell? ⟨0, 5, none⟩ = some (.int .i64 26) ∧ w.cell? ⟨0, 6, none⟩ = some (.int .i64 1) ∧ w.cell? ⟨0, 7, none⟩ = some (.int .i64 1) ∧ w.cell? ⟨0, 8, none⟩ = some (.int .i64 0) ∧ w.cell? ⟨0, 9, none⟩ = some (.int .i64 0) ∧ w.cell? ⟨0, 10, none⟩ = some (.int .i64 256) ∧ w.cell? ⟨0, 11, none⟩ = some (.int .i64 512) ∧ w.cell? ⟨0, 12, none⟩ = some (.int .i64 512) ∧ w.cell? ⟨0, 13, none⟩ = some (.int .i64 0) ∧ w.cell? ⟨0, 14, none⟩ = some (.int .i64 1)
theorem GL.below {w w1 : World} (h : GL w) (hb : Below w.heap.size w w1) : GL w1 := by
 unfold GL at h ⊢
 obtain ⟨h0, h1, h2, h3, h4, h5, h6, h7, h8, h9, h10, h11, h12, h13, h14⟩ := h
 exact ⟨pw_cell_below hb h0, pw_cell_below hb h1, pw_cell_below hb h2, pw_cell_below hb h3, pw_cell_below hb h4, pw_cell_below hb h5, pw_cell_below hb h6, pw_cell_below hb h7, pw_cell_below hb h8, pw_cell_below hb h9, pw_cell_below hb h10, pw_cell_below hb h11, pw_cell_below hb h12, pw_cell_below hb h13, pw_cell_below hb h14⟩
theorem namedG_ {P : Program} {Q : Exit → Act → World → Prop} {a : Act} {W : World} {c : Code} (h : ∀ W_, W_ = W → c.wp P Q a W_) : c.wp P Q a W := h W rfl
theorem sizeG_ (w : World) (o : Obj) : (w.alloc o).heap.size = w.heap.size + 1 := by show (w.heap.push _).size = _; exact Array.size_push _
structure LK (w0 w W : World) (g : Nat) (f0 f1 f2 : Int) (f3 : Bool) (f4 : Int) : Prop where
 st : IsS78 w0 W g f0 f1 f2 f3 f4
 bel : Below w0.heap.size w0 W
 keep : KeepBut w W g none
theorem LK.drew {w0 w W : World} {g : Nat} {f0 f1 f2 : Int} {f3 : Bool} {f4 : Int} (h : LK w0 w W g f0 f1 f2 f3 f4) : LK w0 w W.drew g f0 f1 f2 f3 f4 :=
 ⟨IsS78.drew h.st, below_drew1 h.bel, keep_drew h.keep⟩
theorem LK.drewN {w0 w W : World} {g : Nat} {f0 f1 f2 : Int} {f3 : Bool} {f4 : Int} (h : LK w0 w W g f0 f1 f2 f3 f4) (n : Nat) : LK w0 w (W.drewN n) g f0 f1 f2 f3 f4 :=
 ⟨IsS78.drewN h.st n, pw_below_drewN h.bel n, keep_drewN h.keep n⟩
structure LH (w0 w W : World) (g b : Nat) (f0 f1 f2 : Int) (f3 : Bool) (f4 r0 r1 r2 r3 r4 : Int) : Prop where
 st : IsS78 w0 W g f0 f1 f2 f3 f4
 bel : Below w0.heap.size w0 W
 keep : KeepBut w W g none
 row : W.heap[b]? = some (.cells #[.int .i64 r0, .int .i64 r1, .int .i64 r2, .int .i64 r3, .int .i64 r4] 106 (0, 0))
theorem LH.below {w0 w W W1 : World} {g b : Nat} {f0 f1 f2 : Int} {f3 : Bool} {f4 r0 r1 r2 r3 r4 : Int} (h : LH w0 w W g b f0 f1 f2 f3 f4 r0 r1 r2 r3 r4) (hb : Below W.heap.size W W1) : LH w0 w W1 g b f0 f1 f2 f3 f4 r0 r1 r2 r3 r4 :=
 ⟨IsS78.below h.st hb, below_step h.bel hb, KeepBut.trans h.keep (KeepBut.of_below hb g none) (.inl rfl), blk_below h.row hb⟩
theorem LH.drew {w0 w W : World} {g b : Nat} {f0 f1 f2 : Int} {f3 : Bool} {f4 r0 r1 r2 r3 r4 : Int} (h : LH w0 w W g b f0 f1 f2 f3 f4 r0 r1 r2 r3 r4) : LH w0 w W.drew g b f0 f1 f2 f3 f4 r0 r1 r2 r3 r4 :=
 ⟨IsS78.drew h.st, below_drew1 h.bel, keep_drew h.keep, blk_drew h.row⟩
set_option maxHeartbeats 8000000 in
set_option maxRecDepth 100000 in
theorem lossy_upd0 (g : Nat) (s0_0 s0_1 s0_2 : Int) (s0_3 : Bool) (s0_4 a1 a2 n t : Int) (w0 w : World) (hI : IsS78 w0 w g s0_0 s0_1 s0_2 s0_3 s0_4) (hB : Below w0.heap.size w0 w) (hG : GL w0) (q : Int) (Aq : muldiv_Do.f s0_0 (wrap64 (105 - wrap64 0)) 100 3 = some q) (t3 : Int) (A3 : sat_Clamp.f (wrap64 (q + 1000)) s0_1 s0_2 = some t3) (At : sat_Clamp.f a2 0 1125899906842624 = some t) (An : sat_Clamp.f a1 0 256 = some n) (cn : n ≤ 5) (hn : n ≤ 256) (c : s0_3 = false ∨ s0_3 = true ∧ decide (wrap64 (t - s0_4) < 200000) = false) :
  Calls Tryd.prog 26 #[.pointer (some ⟨g, 0, none⟩), .int .i64 a1, .int .i64 a2] w fun e w' => e = .returned (.int .i64 t3) ∧ IsS78 w0 w' g t3 s0_1 s0_2 true t ∧ Below w0.heap.size w0 w' ∧ KeepBut w w' g none := by
 have hpn : ∀ (a_ : Addr) (W_ : World), (Go.binOp .eql 51 (.pointer (some a_)) (.pointer none)).run Tryd.prog W_ = .ok (.bool false) W_ := fun _ _ => by kernel_rfl
 have hix0 : ∀ W_ : World, (Instr.index 107 (.agg #[.int .i64 5, .int .i64 105, .int .i64 100, .int .i64 1000, .int .i64 0, .int .i64 26, .int .i64 1, .int .i64 1, .int .i64 0, .int .i64 0, .int .i64 256, .int .i64 512, .int .i64 512, .int .i64 0, .int .i64 1]) (.int .i64 0)).run Tryd.prog W_ = .ok (.agg #[.int .i64 5, .int .i64 105, .int .i64 100, .int .i64 1000, .int .i64 0]) W_ := fun _ => by kernel_rfl
 have hix1 : ∀ W_ : World, (Instr.index 107 (.agg #[.int .i64 5, .int .i64 105, .int .i64 100, .int .i64 1000, .int .i64 0, .int .i64 26, .int .i64 1, .int .i64 1, .int .i64 0, .int .i64 0, .int .i64 256, .int .i64 512, .int .i64 512, .int .i64 0, .int .i64 1]) (.int .i64 1)).run Tryd.prog W_ = .ok (.agg #[.int .i64 26, .int .i64 1, .int .i64 1, .int .i64 0, .int .i64 0]) W_ := fun _ => by kernel_rfl
 have hix2 : ∀ W_ : World, (Instr.index 107 (.agg #[.int .i64 5, .int .i64 105, .int .i64 100, .int .i64 1000, .int .i64 0, .int .i64 26, .int .i64 1, .int .i64 1, .int .i64 0, .int .i64 0, .int .i64 256, .int .i64 512, .int .i64 512, .int .i64 0, .int .i64 1]) (.int .i64 2)).run Tryd.prog W_ = .ok (.agg #[.int .i64 256, .int .i64 512, .int .i64 512, .int .i64 0, .int .i64 1]) W_ := fun _ => by kernel_rfl
 have cn0_ : decide (5 < n) = false := decide_eq_false (by omega)
 rcases c with c | ⟨c, hc⟩
 ·subst c
  go_enter Tryd.func26, Tryd.ntmps26
  go_wp2_with (first | ((with_reducible refine gate_dst (N := 14) rfl ?_); refine goesL_ (some 14) rfl rfl Tryd.func23 (by kernel_rfl) rfl #[.int .i64 a2, .int .i64 0, .int .i64 1125899906842624] rfl (by (try simp only [List.map_toArray, List.map_cons, List.map_nil]); first | done | rfl) ?_; (with_reducible refine (sat_Clamp.calls a2 0 1125899906842624 t _ At).mono ?_); rintro e w' ⟨rfl, ⟨nd, rfl⟩⟩; refine ⟨_, rfl, ?_⟩; have hI1 := IsS78.drewN hI nd; have hB1 := pw_below_drewN hB nd; have hK1 := keep_drewN (KeepBut.refl w g none) nd; generalize World.drewN w nd = W1 at hI1 hB1 hK1 ⊢; have hc0_ : W1.cell? ⟨g, 0, none⟩ = some (.int .i64 s0_0) := IsS78.cell_0 hI1; have hf0_ := IsS78.froz_0 hI1; have hc1_ : W1.cell? ⟨g, 1, none⟩ = some (.int .i64 s0_1) := IsS78.cell_1 hI1; have hf1_ := IsS78.froz_1 hI1; have hc2_ : W1.cell? ⟨g, 2, none⟩ = some (.int .i64 s0_2) := IsS78.cell_2 hI1; have hf2_ := IsS78.froz_2 hI1; have hc3_ : W1.cell? ⟨g, 3, none⟩ = some (.bool false) := IsS78.cell_3 hI1; have hf3_ := IsS78.froz_3 hI1; have hc4_ : W1.cell? ⟨g, 4, none⟩ = some (.int .i64 s0_4) := IsS78.cell_4 hI1; have hf4_ := IsS78.froz_4 hI1) | ((with_reducible refine gate_dst (N := 40) rfl ?_); refine goesL_ (some 40) rfl rfl Tryd.func23 (by kernel_rfl) rfl #[.int .i64 a1, .int .i64 0, .int .i64 256] rfl (by (try simp only [List.map_toArray, List.map_cons, List.map_nil]); first | done | rfl) ?_; (with_reducible refine (sat_Clamp.calls a1 0 256 n _ An).mono ?_); rintro e w' ⟨rfl, ⟨nd, rfl⟩⟩; refine ⟨_, rfl, ?_⟩; have hI2 := IsS78.drewN (IsS78.set_4 (IsS78.set_3 hI1 true) t) nd; have hB2 := pw_below_drewN (below_set (below_set hB1 (IsS78.ge hI1) (j := 3) (v := .bool true)) (IsS78.ge hI1) (j := 4) (v := .int .i64 t)) nd; have hK2 := keep_drewN (KeepBut.set_ (KeepBut.set_ hK1 3 (.bool true)) 4 (.int .i64 t)) nd; clear hI1 hB1 hK1; clear hc0_ hf0_ hc1_ hf1_ hc2_ hf2_ hc3_ hf3_ hc4_ hf4_; generalize World.drewN ((W1.setCell ⟨g, 3, none⟩ (.bool true)).setCell ⟨g, 4, none⟩ (.int .i64 t)) nd = W2 at hI2 hB2 hK2 ⊢; have hc0_ : W2.cell? ⟨g, 0, none⟩ = some (.int .i64 s0_0) := IsS78.cell_0 hI2; have hf0_ := IsS78.froz_0 hI2; have hc1_ : W2.cell? ⟨g, 1, none⟩ = some (.int .i64 s0_1) := IsS78.cell_1 hI2; have hf1_ := IsS78.froz_1 hI2; have hc2_ : W2.cell? ⟨g, 2, none⟩ = some (.int .i64 s0_2) := IsS78.cell_2 hI2; have hf2_ := IsS78.froz_2 hI2; have hc3_ : W2.cell? ⟨g, 3, none⟩ = some (.bool true) := IsS78.cell_3 hI2; have hf3_ := IsS78.froz_3 hI2; have hc4_ : W2.cell? ⟨g, 4, none⟩ = some (.int .i64 t) := IsS78.cell_4 hI2; have hf4_ := IsS78.froz_4 hI2; have hG2 := hG.below hB2; obtain ⟨q0, q1, q2, q3, q4, q5, q6, q7, q8, q9, q10, q11, q12, q13, q14⟩ := hG2))
  refine wp_loop_rounds 4 ?_
  rw [rounds_succ]
  go_wp2
  refine namedG_ ?_
  intro W3 hW3
  have h1 : LH w0 w W3 g W2.heap.size s0_0 s0_1 s0_2 true t 5 105 100 1000 0 := by rw [hW3]; exact ⟨IsS78.alloc (hI2) _, below_alloc (hB2) _, keep_alloc (hK2) _, blk_new _ _⟩
  clear hW3 hI2 hB2 hK2
  generalize W2.heap.size = b at h1 ⊢
  refine start_ (n := 22) (S := fun w' => LH w0 w w' g b s0_0 s0_1 s0_2 true t 5 105 100 1000 0) (ds := [21]) #[false, false, false, false, false, false, false, false, false, false, false, false, false, false, false, false, false, false, false, false, false, false] (by kernel_rfl) rfl rfl h1.drew (fun hHeld => ?_)
  clear h1
  generalize W3.drew = W3 at hHeld ⊢
  refine pure_ (i := 0) (N := some 52) (v := ?_) (a' := ?_) #[true, false, false, false, false, false, false, false, false, false, false, false, false, false, false, false, false, false, false, false, false, false] rfl rfl (by kernel_rfl) (fun _ _ _ h => h) (Or.inl ⟨by rfl, ?_⟩) ?_ ?_
  rotate_left
  ·intro w'
   go_simp
   with_reducible rfl
  rotate_left
  ·simp only [Act.put, List.setIfInBounds_toArray, List.set_cons_zero, List.set_cons_succ, i64_w, i32_w]
   rfl
  refine pure_ (i := 1) (N := some 53) (v := ?_) (a' := ?_) #[true, true, false, false, false, false, false, false, false, false, false, false, false, false, false, false, false, false, false, false, false, false] rfl rfl (by kernel_rfl) (fun _ _ _ h => h) (Or.inl ⟨by rfl, ?_⟩) ?_ ?_
  rotate_left
  ·intro w'
   go_simp
   with_reducible rfl
  rotate_left
  ·simp only [Act.put, List.setIfInBounds_toArray, List.set_cons_zero, List.set_cons_succ, i64_w, i32_w]
   rfl
  refine pure_ (i := 2) (N := some 54) (v := ?_) (a' := ?_) #[true, true, true, false, false, false, false, false, false, false, false, false, false, false, false, false, false, false, false, false, false, false] rfl rfl (by kernel_rfl) (fun _ _ _ h => h) (Or.inl ⟨by rfl, ?_⟩) ?_ ?_
  rotate_left
  ·intro w'
   go_simp
   with_reducible rfl
  rotate_left
  ·simp only [Act.put, List.setIfInBounds_toArray, List.set_cons_zero, List.set_cons_succ, i64_w, i32_w]
   rfl
  refine pure_ (i := 3) (N := some 55) (v := ?_) (a' := ?_) #[true, true, true, true, false, false, false, false, false, false, false, false, false, false, false, false, false, false, false, false, false, false] rfl rfl (by kernel_rfl) (fun _ _ _ h => h) (Or.inl ⟨by rfl, ?_⟩) ?_ ?_
  rotate_left
  ·intro w'
   go_simp
   with_reducible rfl
  rotate_left
  ·simp only [Act.put, List.setIfInBounds_toArray, List.set_cons_zero, List.set_cons_succ, i64_w, i32_w]
   rfl
  refine take_ (i := 4) (N := some 56) (v := ?_) (a' := ?_) #[true, true, true, true, true, false, false, false, false, false, false, false, false, false, false, false, false, false, false, false, false, false] rfl rfl (by kernel_rfl) (fun _ _ _ h => h) (Or.inl ⟨by rfl, ?_⟩) hHeld ?_ ?_
  rotate_left
  ·intro w' hw'
   have cb0_ : w'.cell? ⟨g, 0, none⟩ = some (.int .i64 s0_0) := IsS78.cell_0 hw'.st
   go_simp
   with_reducible rfl
  rotate_left
  ·simp only [Act.put, List.setIfInBounds_toArray, List.set_cons_zero, List.set_cons_succ, i64_w, i32_w]
   rfl
  refine pure_ (i := 5) (N := some 57) (v := ?_) (a' := ?_) #[true, true, true, true, true, true, false, false, false, false, false, false, false, false, false, false, false, false, false, false, false, false] rfl rfl (by kernel_rfl) (fun _ _ _ h => h) (Or.inl ⟨by rfl, ?_⟩) ?_ ?_
  rotate_left
  ·intro w'
   go_simp
   with_reducible rfl
  rotate_left
  ·simp only [Act.put, List.setIfInBounds_toArray, List.set_cons_zero, List.set_cons_succ, i64_w, i32_w]
   rfl
  refine take_ (i := 6) (N := some 58) (v := ?_) (a' := ?_) #[true, true, true, true, true, true, true, false, false, false, false, false, false, false, false, false, false, false, false, false, false, false] rfl rfl (by kernel_rfl) (fun _ _ _ h => h) (Or.inl ⟨by rfl, ?_⟩) hHeld ?_ ?_
  rotate_left
  ·intro w' hw'
   have cb0_ : w'.cell? ⟨b, 1, none⟩ = some (.int .i64 105) := (blk_cell hw'.row 1).trans rfl
   go_simp
   with_reducible rfl
  rotate_left
  ·simp only [Act.put, List.setIfInBounds_toArray, List.set_cons_zero, List.set_cons_succ, i64_w, i32_w]
   rfl
  refine pure_ (i := 7) (N := some 59) (v := ?_) (a' := ?_) #[true, true, true, true, true, true, true, true, false, false, false, false, false, false, false, false, false, false, false, false, false, false] rfl rfl (by kernel_rfl) (fun _ _ _ h => h) (Or.inl ⟨by rfl, ?_⟩) ?_ ?_
  rotate_left
  ·intro w'
   go_simp
   with_reducible rfl
  rotate_left
  ·simp only [Act.put, List.setIfInBounds_toArray, List.set_cons_zero, List.set_cons_succ, i64_w, i32_w]
   rfl
  refine take_ (i := 8) (N := some 60) (v := ?_) (a' := ?_) #[true, true, true, true, true, true, true, true, true, false, false, false, false, false, false, false, false, false, false, false, false, false] rfl rfl (by kernel_rfl) (fun _ _ _ h => h) (Or.inl ⟨by rfl, ?_⟩) hHeld ?_ ?_
  rotate_left
  ·intro w' hw'
   have cb0_ : w'.cell? ⟨b, 4, none⟩ = some (.int .i64 0) := (blk_cell hw'.row 4).trans rfl
   go_simp
   with_reducible rfl
  rotate_left
  ·simp only [Act.put, List.setIfInBounds_toArray, List.set_cons_zero, List.set_cons_succ, i64_w, i32_w]
   rfl
  refine pure_ (i := 9) (N := some 61) (v := ?_) (a' := ?_) #[true, true, true, true, true, true, true, true, true, true, false, false, false, false, false, false, false, false, false, false, false, false] rfl rfl (by kernel_rfl) (fun _ _ _ h => h) (Or.inl ⟨by rfl, ?_⟩) ?_ ?_
  rotate_left
  ·intro w'
   go_simp
   with_reducible rfl
  rotate_left
  ·simp only [Act.put, List.setIfInBounds_toArray, List.set_cons_zero, List.set_cons_succ, i64_w, i32_w]
   rfl
  refine pure_ (i := 10) (N := some 62) (v := ?_) (a' := ?_) #[true, true, true, true, true, true, true, true, true, true, true, false, false, false, false, false, false, false, false, false, false, false] rfl rfl (by kernel_rfl) (fun _ _ _ h => h) (Or.inl ⟨by rfl, ?_⟩) ?_ ?_
  rotate_left
  ·intro w'
   go_simp
   with_reducible rfl
  rotate_left
  ·simp only [Act.put, List.setIfInBounds_toArray, List.set_cons_zero, List.set_cons_succ, i64_w, i32_w]
   rfl
  refine pure_ (i := 11) (N := some 63) (v := ?_) (a' := ?_) #[true, true, true, true, true, true, true, true, true, true, true, true, false, false, false, false, false, false, false, false, false, false] rfl rfl (by kernel_rfl) (fun _ _ _ h => h) (Or.inl ⟨by rfl, ?_⟩) ?_ ?_
  rotate_left
  ·intro w'
   go_simp
   with_reducible rfl
  rotate_left
  ·simp only [Act.put, List.setIfInBounds_toArray, List.set_cons_zero, List.set_cons_succ, i64_w, i32_w]
   rfl
  refine pure_ (i := 12) (N := some 64) (v := ?_) (a' := ?_) #[true, true, true, true, true, true, true, true, true, true, true, true, true, false, false, false, false, false, false, false, false, false] rfl rfl (by kernel_rfl) (fun _ _ _ h => h) (Or.inl ⟨by rfl, ?_⟩) ?_ ?_
  rotate_left
  ·intro w'
   go_simp
   with_reducible rfl
  rotate_left
  ·simp only [Act.put, List.setIfInBounds_toArray, List.set_cons_zero, List.set_cons_succ, i64_w, i32_w]
   rfl
  refine take_ (i := 13) (N := some 65) (v := ?_) (a' := ?_) #[true, true, true, true, true, true, true, true, true, true, true, true, true, true, false, false, false, false, false, false, false, false] rfl rfl (by kernel_rfl) (fun _ _ _ h => h) (Or.inl ⟨by rfl, ?_⟩) hHeld ?_ ?_
  rotate_left
  ·intro w' hw'
   have cb0_ : w'.cell? ⟨b, 2, none⟩ = some (.int .i64 100) := (blk_cell hw'.row 2).trans rfl
   go_simp
   with_reducible rfl
  rotate_left
  ·simp only [Act.put, List.setIfInBounds_toArray, List.set_cons_zero, List.set_cons_succ, i64_w, i32_w]
   rfl
  refine pure_ (i := 14) (N := some 66) (v := ?_) (a' := ?_) #[true, true, true, true, true, true, true, true, true, true, true, true, true, true, true, false, false, false, false, false, false, false] rfl rfl (by kernel_rfl) (fun _ _ _ h => h) (Or.inl ⟨by rfl, ?_⟩) ?_ ?_
  rotate_left
  ·intro w'
   go_simp
   with_reducible rfl
  rotate_left
  ·simp only [Act.put, List.setIfInBounds_toArray, List.set_cons_zero, List.set_cons_succ, i64_w, i32_w]
   rfl
  refine pure_ (i := 16) (N := some 68) (v := ?_) (a' := ?_) #[true, true, true, true, true, true, true, true, true, true, true, true, true, true, true, false, true, false, false, false, false, false] rfl rfl (by kernel_rfl) (fun _ _ _ h => h) (Or.inl ⟨by rfl, ?_⟩) ?_ ?_
  rotate_left
  ·intro w'
   go_simp
   with_reducible rfl
  rotate_left
  ·simp only [Act.put, List.setIfInBounds_toArray, List.set_cons_zero, List.set_cons_succ, i64_w, i32_w]
   rfl
  refine take_ (i := 17) (N := some 69) (v := ?_) (a' := ?_) #[true, true, true, true, true, true, true, true, true, true, true, true, true, true, true, false, true, true, false, false, false, false] rfl rfl (by kernel_rfl) (fun _ _ _ h => h) (Or.inl ⟨by rfl, ?_⟩) hHeld ?_ ?_
  rotate_left
  ·intro w' hw'
   have cb0_ : w'.cell? ⟨b, 3, none⟩ = some (.int .i64 1000) := (blk_cell hw'.row 3).trans rfl
   go_simp
   with_reducible rfl
  rotate_left
  ·simp only [Act.put, List.setIfInBounds_toArray, List.set_cons_zero, List.set_cons_succ, i64_w, i32_w]
   rfl
  refine one_ (i := 15) (N := some 67) #[true, true, true, true, true, true, true, true, true, true, true, true, true, true, true, true, true, true, false, false, false, false] rfl rfl (by kernel_rfl) (by decide) (fun K hK => ?_)
  refine goes_ Tryd.func44 (by kernel_rfl) rfl #[.int .i64 s0_0, .int .i64 (wrap64 (105 - wrap64 0)), .int .i64 100, .int .i64 3] (by rfl) rfl rfl (by simp only [List.map_toArray, List.map_cons, List.map_nil]; rfl) ?_
  refine (muldiv_Do.calls s0_0 _ 100 3 q _ Aq).mono ?_
  rintro e w' ⟨rfl, hb⟩
  refine ⟨_, rfl, ?_⟩
  have hN_ := hHeld.below hb
  refine hK.out _ _ hN_ (fun hHeld => ?_)
  clear hK K hN_ hb
  refine norm_ (a' := ?_) ?_ ?_
  rotate_left
  ·show Act.put _ (some 67) _ = _
   simp only [Act.put, List.setIfInBounds_toArray, List.set_cons_zero, List.set_cons_succ, i64_w, i32_w]
   rfl
  refine pure_ (i := 18) (N := some 70) (v := ?_) (a' := ?_) #[true, true, true, true, true, true, true, true, true, true, true, true, true, true, true, true, true, true, true, false, false, false] rfl rfl (by kernel_rfl) (fun _ _ _ h => h) (Or.inl ⟨by rfl, ?_⟩) ?_ ?_
  rotate_left
  ·intro w'
   go_simp
   with_reducible rfl
  rotate_left
  ·simp only [Act.put, List.setIfInBounds_toArray, List.set_cons_zero, List.set_cons_succ, i64_w, i32_w]
   rfl
  refine pure_ (i := 19) (N := some 71) (v := ?_) (a' := ?_) #[true, true, true, true, true, true, true, true, true, true, true, true, true, true, true, true, true, true, true, true, false, false] rfl rfl (by kernel_rfl) (fun _ _ _ h => h) (Or.inl ⟨by rfl, ?_⟩) ?_ ?_
  rotate_left
  ·intro w'
   go_simp
   with_reducible rfl
  rotate_left
  ·simp only [Act.put, List.setIfInBounds_toArray, List.set_cons_zero, List.set_cons_succ, i64_w, i32_w]
   rfl
  refine pure_ (i := 20) (N := some 72) (v := ?_) (a' := ?_) #[true, true, true, true, true, true, true, true, true, true, true, true, true, true, true, true, true, true, true, true, true, false] rfl rfl (by kernel_rfl) (fun _ _ _ h => h) (Or.inl ⟨by rfl, ?_⟩) ?_ ?_
  rotate_left
  ·intro w'
   go_simp
   with_reducible rfl
  rotate_left
  ·simp only [Act.put, List.setIfInBounds_toArray, List.set_cons_zero, List.set_cons_succ, i64_w, i32_w]
   rfl
  refine last_ (i := 21) (N := none) #[true, true, true, true, true, true, true, true, true, true, true, true, true, true, true, true, true, true, true, true, true, true] rfl rfl (by kernel_rfl) (by decide) (fun K hK => ?_)
  have hs0_ : w'.cell? ⟨g, 0, none⟩ = some (.int .i64 s0_0) := IsS78.cell_0 hHeld.st
  have hf0_ := IsS78.froz_0 hHeld.st
  refine skip_ (w1 := ?_) (by rfl) rfl ?_ ?_
  rotate_left
  ·go_simp
   rfl
  refine hK.out _ _ ?_
  refine done_ (by kernel_rfl) ?_
  clear hK K
  clear hs0_
  clear hf0_
  have h2 : IsS78 w0 (w'.setCell ⟨g, 0, none⟩ (.int .i64 (wrap64 (q + 1000)))) g (wrap64 (q + 1000)) s0_1 s0_2 true t := IsS78.set_0 hHeld.st _
  have hb2 := below_set hHeld.bel (IsS78.ge hHeld.st) (j := 0) (v := .int .i64 (wrap64 (q + 1000)))
  have hk2 := KeepBut.set_ hHeld.keep 0 (.int .i64 (wrap64 (q + 1000)))
  clear hHeld
  generalize w'.setCell ⟨g, 0, none⟩ (.int .i64 (wrap64 (q + 1000))) = W5 at h2 hb2 hk2 ⊢
  try go_wp2
  have h3 : LK w0 w W5 g (wrap64 (q + 1000)) s0_1 s0_2 true t := ⟨h2, hb2, hk2⟩
  clear h2 hb2 hk2
  refine start_ (n := 17) (S := fun w' => LK w0 w w' g (wrap64 (q + 1000)) s0_1 s0_2 true t) (ds := [16]) #[false, false, false, false, false, false, false, false, false, false, false, false, false, false, false, false, false] (by kernel_rfl) rfl rfl h3.drew (fun hHeld => ?_)
  clear h3
  generalize W5.drew = W5 at hHeld ⊢
  refine pure_ (i := 0) (N := some 74) (v := ?_) (a' := ?_) #[true, false, false, false, false, false, false, false, false, false, false, false, false, false, false, false, false] rfl rfl (by kernel_rfl) (fun _ _ _ h => h) (Or.inl ⟨by rfl, ?_⟩) ?_ ?_
  rotate_left
  ·intro w'
   go_simp
   with_reducible rfl
  rotate_left
  ·simp only [Act.put, List.setIfInBounds_toArray, List.set_cons_zero, List.set_cons_succ, i64_w, i32_w]
   rfl
  refine pure_ (i := 1) (N := some 75) (v := ?_) (a' := ?_) #[true, true, false, false, false, false, false, false, false, false, false, false, false, false, false, false, false] rfl rfl (by kernel_rfl) (fun _ _ _ h => h) (Or.inl ⟨by rfl, ?_⟩) ?_ ?_
  rotate_left
  ·intro w'
   go_simp
   with_reducible rfl
  rotate_left
  ·simp only [Act.put, List.setIfInBounds_toArray, List.set_cons_zero, List.set_cons_succ, i64_w, i32_w]
   rfl
  refine pure_ (i := 2) (N := some 76) (v := ?_) (a' := ?_) #[true, true, true, false, false, false, false, false, false, false, false, false, false, false, false, false, false] rfl rfl (by kernel_rfl) (fun _ _ _ h => h) (Or.inl ⟨by rfl, ?_⟩) ?_ ?_
  rotate_left
  ·intro w'
   go_simp
   with_reducible rfl
  rotate_left
  ·simp only [Act.put, List.setIfInBounds_toArray, List.set_cons_zero, List.set_cons_succ, i64_w, i32_w]
   rfl
  refine pure_ (i := 3) (N := some 77) (v := ?_) (a' := ?_) #[true, true, true, true, false, false, false, false, false, false, false, false, false, false, false, false, false] rfl rfl (by kernel_rfl) (fun _ _ _ h => h) (Or.inl ⟨by rfl, ?_⟩) ?_ ?_
  rotate_left
  ·intro w'
   go_simp
   with_reducible rfl
  rotate_left
  ·simp only [Act.put, List.setIfInBounds_toArray, List.set_cons_zero, List.set_cons_succ, i64_w, i32_w]
   rfl
  refine take_ (i := 4) (N := some 78) (v := ?_) (a' := ?_) #[true, true, true, true, true, false, false, false, false, false, false, false, false, false, false, false, false] rfl rfl (by kernel_rfl) (fun _ _ _ h => h) (Or.inl ⟨by rfl, ?_⟩) hHeld ?_ ?_
  rotate_left
  ·intro w' hw'
   have cb0_ : w'.cell? ⟨g, 0, none⟩ = some (.int .i64 (wrap64 (q + 1000))) := IsS78.cell_0 hw'.st
   go_simp
   with_reducible rfl
  rotate_left
  ·simp only [Act.put, List.setIfInBounds_toArray, List.set_cons_zero, List.set_cons_succ, i64_w, i32_w]
   rfl
  refine pure_ (i := 5) (N := some 79) (v := ?_) (a' := ?_) #[true, true, true, true, true, true, false, false, false, false, false, false, false, false, false, false, false] rfl rfl (by kernel_rfl) (fun _ _ _ h => h) (Or.inl ⟨by rfl, ?_⟩) ?_ ?_
  rotate_left
  ·intro w'
   go_simp
   with_reducible rfl
  rotate_left
  ·simp only [Act.put, List.setIfInBounds_toArray, List.set_cons_zero, List.set_cons_succ, i64_w, i32_w]
   rfl
  refine pure_ (i := 6) (N := some 80) (v := ?_) (a' := ?_) #[true, true, true, true, true, true, true, false, false, false, false, false, false, false, false, false, false] rfl rfl (by kernel_rfl) (fun _ _ _ h => h) (Or.inl ⟨by rfl, ?_⟩) ?_ ?_
  rotate_left
  ·intro w'
   go_simp
   with_reducible rfl
  rotate_left
  ·simp only [Act.put, List.setIfInBounds_toArray, List.set_cons_zero, List.set_cons_succ, i64_w, i32_w]
   rfl
  refine pure_ (i := 7) (N := some 81) (v := ?_) (a' := ?_) #[true, true, true, true, true, true, true, true, false, false, false, false, false, false, false, false, false] rfl rfl (by kernel_rfl) (fun _ _ _ h => h) (Or.inl ⟨by rfl, ?_⟩) ?_ ?_
  rotate_left
  ·intro w'
   go_simp
   with_reducible rfl
  rotate_left
  ·simp only [Act.put, List.setIfInBounds_toArray, List.set_cons_zero, List.set_cons_succ, i64_w, i32_w]
   rfl
  refine take_ (i := 8) (N := some 82) (v := ?_) (a' := ?_) #[true, true, true, true, true, true, true, true, true, false, false, false, false, false, false, false, false] rfl rfl (by kernel_rfl) (fun _ _ _ h => h) (Or.inl ⟨by rfl, ?_⟩) hHeld ?_ ?_
  rotate_left
  ·intro w' hw'
   have cb0_ : w'.cell? ⟨g, 1, none⟩ = some (.int .i64 s0_1) := IsS78.cell_1 hw'.st
   go_simp
   with_reducible rfl
  rotate_left
  ·simp only [Act.put, List.setIfInBounds_toArray, List.set_cons_zero, List.set_cons_succ, i64_w, i32_w]
   rfl
  refine pure_ (i := 9) (N := some 83) (v := ?_) (a' := ?_) #[true, true, true, true, true, true, true, true, true, true, false, false, false, false, false, false, false] rfl rfl (by kernel_rfl) (fun _ _ _ h => h) (Or.inl ⟨by rfl, ?_⟩) ?_ ?_
  rotate_left
  ·intro w'
   go_simp
   with_reducible rfl
  rotate_left
  ·simp only [Act.put, List.setIfInBounds_toArray, List.set_cons_zero, List.set_cons_succ, i64_w, i32_w]
   rfl
  refine pure_ (i := 10) (N := some 84) (v := ?_) (a' := ?_) #[true, true, true, true, true, true, true, true, true, true, true, false, false, false, false, false, false] rfl rfl (by kernel_rfl) (fun _ _ _ h => h) (Or.inl ⟨by rfl, ?_⟩) ?_ ?_
  rotate_left
  ·intro w'
   go_simp
   with_reducible rfl
  rotate_left
  ·simp only [Act.put, List.setIfInBounds_toArray, List.set_cons_zero, List.set_cons_succ, i64_w, i32_w]
   rfl
  refine pure_ (i := 11) (N := some 85) (v := ?_) (a' := ?_) #[true, true, true, true, true, true, true, true, true, true, true, true, false, false, false, false, false] rfl rfl (by kernel_rfl) (fun _ _ _ h => h) (Or.inl ⟨by rfl, ?_⟩) ?_ ?_
  rotate_left
  ·intro w'
   go_simp
   with_reducible rfl
  rotate_left
  ·simp only [Act.put, List.setIfInBounds_toArray, List.set_cons_zero, List.set_cons_succ, i64_w, i32_w]
   rfl
  refine take_ (i := 12) (N := some 86) (v := ?_) (a' := ?_) #[true, true, true, true, true, true, true, true, true, true, true, true, true, false, false, false, false] rfl rfl (by kernel_rfl) (fun _ _ _ h => h) (Or.inl ⟨by rfl, ?_⟩) hHeld ?_ ?_
  rotate_left
  ·intro w' hw'
   have cb0_ : w'.cell? ⟨g, 2, none⟩ = some (.int .i64 s0_2) := IsS78.cell_2 hw'.st
   go_simp
   with_reducible rfl
  rotate_left
  ·simp only [Act.put, List.setIfInBounds_toArray, List.set_cons_zero, List.set_cons_succ, i64_w, i32_w]
   rfl
  refine one_ (i := 13) (N := some 87) #[true, true, true, true, true, true, true, true, true, true, true, true, true, true, false, false, false] rfl rfl (by kernel_rfl) (by decide) (fun K hK => ?_)
  refine goes_ Tryd.func23 (by kernel_rfl) rfl #[.int .i64 (wrap64 (q + 1000)), .int .i64 s0_1, .int .i64 s0_2] (by rfl) rfl rfl (by simp only [List.map_toArray, List.map_cons, List.map_nil]; rfl) ?_
  with_reducible refine (sat_Clamp.calls (wrap64 (q + 1000)) s0_1 s0_2 t3 _ A3).mono ?_
  rintro e w' ⟨rfl, ⟨nd, rfl⟩⟩
  refine ⟨_, rfl, ?_⟩
  have hN_ := hHeld.drewN nd
  refine hK.out _ _ hN_ (fun hHeld => ?_)
  clear hK K hN_
  generalize W5.drewN nd = W5_ at hHeld ⊢
  refine norm_ (a' := ?_) ?_ ?_
  rotate_left
  ·show Act.put _ (some 87) _ = _
   simp only [Act.put, List.setIfInBounds_toArray, List.set_cons_zero, List.set_cons_succ, i64_w, i32_w]
   rfl
  refine pure_ (i := 14) (N := some 88) (v := ?_) (a' := ?_) #[true, true, true, true, true, true, true, true, true, true, true, true, true, true, true, false, false] rfl rfl (by kernel_rfl) (fun _ _ _ h => h) (Or.inl ⟨by rfl, ?_⟩) ?_ ?_
  rotate_left
  ·intro w'
   go_simp
   with_reducible rfl
  rotate_left
  ·simp only [Act.put, List.setIfInBounds_toArray, List.set_cons_zero, List.set_cons_succ, i64_w, i32_w]
   rfl
  refine pure_ (i := 15) (N := some 89) (v := ?_) (a' := ?_) #[true, true, true, true, true, true, true, true, true, true, true, true, true, true, true, true, false] rfl rfl (by kernel_rfl) (fun _ _ _ h => h) (Or.inl ⟨by rfl, ?_⟩) ?_ ?_
  rotate_left
  ·intro w'
   go_simp
   with_reducible rfl
  rotate_left
  ·simp only [Act.put, List.setIfInBounds_toArray, List.set_cons_zero, List.set_cons_succ, i64_w, i32_w]
   rfl
  refine last_ (i := 16) (N := none) #[true, true, true, true, true, true, true, true, true, true, true, true, true, true, true, true, true] rfl rfl (by kernel_rfl) (by decide) (fun K hK => ?_)
  have hs0_ : W5_.cell? ⟨g, 0, none⟩ = some (.int .i64 (wrap64 (q + 1000))) := IsS78.cell_0 hHeld.st
  have hf0_ := IsS78.froz_0 hHeld.st
  refine skip_ (w1 := ?_) (by rfl) rfl ?_ ?_
  rotate_left
  ·go_simp
   rfl
  refine hK.out _ _ ?_
  refine done_ (by kernel_rfl) ?_
  clear hK K
  clear hs0_
  clear hf0_
  have h4 := IsS78.set_0 hHeld.st t3
  have hb4 := below_set hHeld.bel (IsS78.ge hHeld.st) (j := 0) (v := .int .i64 t3)
  have hk4 := KeepBut.set_ hHeld.keep 0 (.int .i64 t3)
  clear hHeld
  generalize W5_.setCell ⟨g, 0, none⟩ (.int .i64 t3) = W6 at h4 hb4 hk4 ⊢
  have hc0_ := IsS78.cell_0 h4
  go_wp2
  go_ret
  exact ⟨rfl, h4, hb4, hk4⟩
 ·subst c
  go_enter Tryd.func26, Tryd.ntmps26
  go_wp2_with (first | ((with_reducible refine gate_dst (N := 14) rfl ?_); refine goesL_ (some 14) rfl rfl Tryd.func23 (by kernel_rfl) rfl #[.int .i64 a2, .int .i64 0, .int .i64 1125899906842624] rfl (by (try simp only [List.map_toArray, List.map_cons, List.map_nil]); first | done | rfl) ?_; (with_reducible refine (sat_Clamp.calls a2 0 1125899906842624 t _ At).mono ?_); rintro e w' ⟨rfl, ⟨nd, rfl⟩⟩; refine ⟨_, rfl, ?_⟩; have hI1 := IsS78.drewN hI nd; have hB1 := pw_below_drewN hB nd; have hK1 := keep_drewN (KeepBut.refl w g none) nd; generalize World.drewN w nd = W1 at hI1 hB1 hK1 ⊢; have hc0_ : W1.cell? ⟨g, 0, none⟩ = some (.int .i64 s0_0) := IsS78.cell_0 hI1; have hf0_ := IsS78.froz_0 hI1; have hc1_ : W1.cell? ⟨g, 1, none⟩ = some (.int .i64 s0_1) := IsS78.cell_1 hI1; have hf1_ := IsS78.froz_1 hI1; have hc2_ : W1.cell? ⟨g, 2, none⟩ = some (.int .i64 s0_2) := IsS78.cell_2 hI1; have hf2_ := IsS78.froz_2 hI1; have hc3_ : W1.cell? ⟨g, 3, none⟩ = some (.bool true) := IsS78.cell_3 hI1; have hf3_ := IsS78.froz_3 hI1; have hc4_ : W1.cell? ⟨g, 4, none⟩ = some (.int .i64 s0_4) := IsS78.cell_4 hI1; have hf4_ := IsS78.froz_4 hI1) | ((with_reducible refine gate_dst (N := 40) rfl ?_); refine goesL_ (some 40) rfl rfl Tryd.func23 (by kernel_rfl) rfl #[.int .i64 a1, .int .i64 0, .int .i64 256] rfl (by (try simp only [List.map_toArray, List.map_cons, List.map_nil]); first | done | rfl) ?_; (with_reducible refine (sat_Clamp.calls a1 0 256 n _ An).mono ?_); rintro e w' ⟨rfl, ⟨nd, rfl⟩⟩; refine ⟨_, rfl, ?_⟩; have hI2 := IsS78.drewN (IsS78.set_4 (IsS78.set_3 hI1 true) t) nd; have hB2 := pw_below_drewN (below_set (below_set hB1 (IsS78.ge hI1) (j := 3) (v := .bool true)) (IsS78.ge hI1) (j := 4) (v := .int .i64 t)) nd; have hK2 := keep_drewN (KeepBut.set_ (KeepBut.set_ hK1 3 (.bool true)) 4 (.int .i64 t)) nd; clear hI1 hB1 hK1; clear hc0_ hf0_ hc1_ hf1_ hc2_ hf2_ hc3_ hf3_ hc4_ hf4_; generalize World.drewN ((W1.setCell ⟨g, 3, none⟩ (.bool true)).setCell ⟨g, 4, none⟩ (.int .i64 t)) nd = W2 at hI2 hB2 hK2 ⊢; have hc0_ : W2.cell? ⟨g, 0, none⟩ = some (.int .i64 s0_0) := IsS78.cell_0 hI2; have hf0_ := IsS78.froz_0 hI2; have hc1_ : W2.cell? ⟨g, 1, none⟩ = some (.int .i64 s0_1) := IsS78.cell_1 hI2; have hf1_ := IsS78.froz_1 hI2; have hc2_ : W2.cell? ⟨g, 2, none⟩ = some (.int .i64 s0_2) := IsS78.cell_2 hI2; have hf2_ := IsS78.froz_2 hI2; have hc3_ : W2.cell? ⟨g, 3, none⟩ = some (.bool true) := IsS78.cell_3 hI2; have hf3_ := IsS78.froz_3 hI2; have hc4_ : W2.cell? ⟨g, 4, none⟩ = some (.int .i64 t) := IsS78.cell_4 hI2; have hf4_ := IsS78.froz_4 hI2; have hG2 := hG.below hB2; obtain ⟨q0, q1, q2, q3, q4, q5, q6, q7, q8, q9, q10, q11, q12, q13, q14⟩ := hG2))
  refine wp_loop_rounds 4 ?_
  rw [rounds_succ]
  go_wp2
  refine namedG_ ?_
  intro W3 hW3
  have h1 : LH w0 w W3 g W2.heap.size s0_0 s0_1 s0_2 true t 5 105 100 1000 0 := by rw [hW3]; exact ⟨IsS78.alloc (hI2) _, below_alloc (hB2) _, keep_alloc (hK2) _, blk_new _ _⟩
  clear hW3 hI2 hB2 hK2
  generalize W2.heap.size = b at h1 ⊢
  refine start_ (n := 22) (S := fun w' => LH w0 w w' g b s0_0 s0_1 s0_2 true t 5 105 100 1000 0) (ds := [21]) #[false, false, false, false, false, false, false, false, false, false, false, false, false, false, false, false, false, false, false, false, false, false] (by kernel_rfl) rfl rfl h1.drew (fun hHeld => ?_)
  clear h1
  generalize W3.drew = W3 at hHeld ⊢
  refine pure_ (i := 0) (N := some 52) (v := ?_) (a' := ?_) #[true, false, false, false, false, false, false, false, false, false, false, false, false, false, false, false, false, false, false, false, false, false] rfl rfl (by kernel_rfl) (fun _ _ _ h => h) (Or.inl ⟨by rfl, ?_⟩) ?_ ?_
  rotate_left
  ·intro w'
   go_simp
   with_reducible rfl
  rotate_left
  ·simp only [Act.put, List.setIfInBounds_toArray, List.set_cons_zero, List.set_cons_succ, i64_w, i32_w]
   rfl
  refine pure_ (i := 1) (N := some 53) (v := ?_) (a' := ?_) #[true, true, false, false, false, false, false, false, false, false, false, false, false, false, false, false, false, false, false, false, false, false] rfl rfl (by kernel_rfl) (fun _ _ _ h => h) (Or.inl ⟨by rfl, ?_⟩) ?_ ?_
  rotate_left
  ·intro w'
   go_simp
   with_reducible rfl
  rotate_left
  ·simp only [Act.put, List.setIfInBounds_toArray, List.set_cons_zero, List.set_cons_succ, i64_w, i32_w]
   rfl
  refine pure_ (i := 2) (N := some 54) (v := ?_) (a' := ?_) #[true, true, true, false, false, false, false, false, false, false, false, false, false, false, false, false, false, false, false, false, false, false] rfl rfl (by kernel_rfl) (fun _ _ _ h => h) (Or.inl ⟨by rfl, ?_⟩) ?_ ?_
  rotate_left
  ·intro w'
   go_simp
   with_reducible rfl
  rotate_left
  ·simp only [Act.put, List.setIfInBounds_toArray, List.set_cons_zero, List.set_cons_succ, i64_w, i32_w]
   rfl
  refine pure_ (i := 3) (N := some 55) (v := ?_) (a' := ?_) #[true, true, true, true, false, false, false, false, false, false, false, false, false, false, false, false, false, false, false, false, false, false] rfl rfl (by kernel_rfl) (fun _ _ _ h => h) (Or.inl ⟨by rfl, ?_⟩) ?_ ?_
  rotate_left
  ·intro w'
   go_simp
   with_reducible rfl
  rotate_left
  ·simp only [Act.put, List.setIfInBounds_toArray, List.set_cons_zero, List.set_cons_succ, i64_w, i32_w]
   rfl
  refine take_ (i := 4) (N := some 56) (v := ?_) (a' := ?_) #[true, true, true, true, true, false, false, false, false, false, false, false, false, false, false, false, false, false, false, false, false, false] rfl rfl (by kernel_rfl) (fun _ _ _ h => h) (Or.inl ⟨by rfl, ?_⟩) hHeld ?_ ?_
  rotate_left
  ·intro w' hw'
   have cb0_ : w'.cell? ⟨g, 0, none⟩ = some (.int .i64 s0_0) := IsS78.cell_0 hw'.st
   go_simp
   with_reducible rfl
  rotate_left
  ·simp only [Act.put, List.setIfInBounds_toArray, List.set_cons_zero, List.set_cons_succ, i64_w, i32_w]
   rfl
  refine pure_ (i := 5) (N := some 57) (v := ?_) (a' := ?_) #[true, true, true, true, true, true, false, false, false, false, false, false, false, false, false, false, false, false, false, false, false, false] rfl rfl (by kernel_rfl) (fun _ _ _ h => h) (Or.inl ⟨by rfl, ?_⟩) ?_ ?_
  rotate_left
  ·intro w'
   go_simp
   with_reducible rfl
  rotate_left
  ·simp only [Act.put, List.setIfInBounds_toArray, List.set_cons_zero, List.set_cons_succ, i64_w, i32_w]
   rfl
  refine take_ (i := 6) (N := some 58) (v := ?_) (a' := ?_) #[true, true, true, true, true, true, true, false, false, false, false, false, false, false, false, false, false, false, false, false, false, false] rfl rfl (by kernel_rfl) (fun _ _ _ h => h) (Or.inl ⟨by rfl, ?_⟩) hHeld ?_ ?_
  rotate_left
  ·intro w' hw'
   have cb0_ : w'.cell? ⟨b, 1, none⟩ = some (.int .i64 105) := (blk_cell hw'.row 1).trans rfl
   go_simp
   with_reducible rfl
  rotate_left
  ·simp only [Act.put, List.setIfInBounds_toArray, List.set_cons_zero, List.set_cons_succ, i64_w, i32_w]
   rfl
  refine pure_ (i := 7) (N := some 59) (v := ?_) (a' := ?_) #[true, true, true, true, true, true, true, true, false, false, false, false, false, false, false, false, false, false, false, false, false, false] rfl rfl (by kernel_rfl) (fun _ _ _ h => h) (Or.inl ⟨by rfl, ?_⟩) ?_ ?_
  rotate_left
  ·intro w'
   go_simp
   with_reducible rfl
  rotate_left
  ·simp only [Act.put, List.setIfInBounds_toArray, List.set_cons_zero, List.set_cons_succ, i64_w, i32_w]
   rfl
  refine take_ (i := 8) (N := some 60) (v := ?_) (a' := ?_) #[true, true, true, true, true, true, true, true, true, false, false, false, false, false, false, false, false, false, false, false, false, false] rfl rfl (by kernel_rfl) (fun _ _ _ h => h) (Or.inl ⟨by rfl, ?_⟩) hHeld ?_ ?_
  rotate_left
  ·intro w' hw'
   have cb0_ : w'.cell? ⟨b, 4, none⟩ = some (.int .i64 0) := (blk_cell hw'.row 4).trans rfl
   go_simp
   with_reducible rfl
  rotate_left
  ·simp only [Act.put, List.setIfInBounds_toArray, List.set_cons_zero, List.set_cons_succ, i64_w, i32_w]
   rfl
  refine pure_ (i := 9) (N := some 61) (v := ?_) (a' := ?_) #[true, true, true, true, true, true, true, true, true, true, false, false, false, false, false, false, false, false, false, false, false, false] rfl rfl (by kernel_rfl) (fun _ _ _ h => h) (Or.inl ⟨by rfl, ?_⟩) ?_ ?_
  rotate_left
  ·intro w'
   go_simp
   with_reducible rfl
  rotate_left
  ·simp only [Act.put, List.setIfInBounds_toArray, List.set_cons_zero, List.set_cons_succ, i64_w, i32_w]
   rfl
  refine pure_ (i := 10) (N := some 62) (v := ?_) (a' := ?_) #[true, true, true, true, true, true, true, true, true, true, true, false, false, false, false, false, false, false, false, false, false, false] rfl rfl (by kernel_rfl) (fun _ _ _ h => h) (Or.inl ⟨by rfl, ?_⟩) ?_ ?_
  rotate_left
  ·intro w'
   go_simp
   with_reducible rfl
  rotate_left
  ·simp only [Act.put, List.setIfInBounds_toArray, List.set_cons_zero, List.set_cons_succ, i64_w, i32_w]
   rfl
  refine pure_ (i := 11) (N := some 63) (v := ?_) (a' := ?_) #[true, true, true, true, true, true, true, true, true, true, true, true, false, false, false, false, false, false, false, false, false, false] rfl rfl (by kernel_rfl) (fun _ _ _ h => h) (Or.inl ⟨by rfl, ?_⟩) ?_ ?_
  rotate_left
  ·intro w'
   go_simp
   with_reducible rfl
  rotate_left
  ·simp only [Act.put, List.setIfInBounds_toArray, List.set_cons_zero, List.set_cons_succ, i64_w, i32_w]
   rfl
  refine pure_ (i := 12) (N := some 64) (v := ?_) (a' := ?_) #[true, true, true, true, true, true, true, true, true, true, true, true, true, false, false, false, false, false, false, false, false, false] rfl rfl (by kernel_rfl) (fun _ _ _ h => h) (Or.inl ⟨by rfl, ?_⟩) ?_ ?_
  rotate_left
  ·intro w'
   go_simp
   with_reducible rfl
  rotate_left
  ·simp only [Act.put, List.setIfInBounds_toArray, List.set_cons_zero, List.set_cons_succ, i64_w, i32_w]
   rfl
  refine take_ (i := 13) (N := some 65) (v := ?_) (a' := ?_) #[true, true, true, true, true, true, true, true, true, true, true, true, true, true, false, false, false, false, false, false, false, false] rfl rfl (by kernel_rfl) (fun _ _ _ h => h) (Or.inl ⟨by rfl, ?_⟩) hHeld ?_ ?_
  rotate_left
  ·intro w' hw'
   have cb0_ : w'.cell? ⟨b, 2, none⟩ = some (.int .i64 100) := (blk_cell hw'.row 2).trans rfl
   go_simp
   with_reducible rfl
  rotate_left
  ·simp only [Act.put, List.setIfInBounds_toArray, List.set_cons_zero, List.set_cons_succ, i64_w, i32_w]
   rfl
  refine pure_ (i := 14) (N := some 66) (v := ?_) (a' := ?_) #[true, true, true, true, true, true, true, true, true, true, true, true, true, true, true, false, false, false, false, false, false, false] rfl rfl (by kernel_rfl) (fun _ _ _ h => h) (Or.inl ⟨by rfl, ?_⟩) ?_ ?_
  rotate_left
  ·intro w'
   go_simp
   with_reducible rfl
  rotate_left
  ·simp only [Act.put, List.setIfInBounds_toArray, List.set_cons_zero, List.set_cons_succ, i64_w, i32_w]
   rfl
  refine pure_ (i := 16) (N := some 68) (v := ?_) (a' := ?_) #[true, true, true, true, true, true, true, true, true, true, true, true, true, true, true, false, true, false, false, false, false, false] rfl rfl (by kernel_rfl) (fun _ _ _ h => h) (Or.inl ⟨by rfl, ?_⟩) ?_ ?_
  rotate_left
  ·intro w'
   go_simp
   with_reducible rfl
  rotate_left
  ·simp only [Act.put, List.setIfInBounds_toArray, List.set_cons_zero, List.set_cons_succ, i64_w, i32_w]
   rfl
  refine take_ (i := 17) (N := some 69) (v := ?_) (a' := ?_) #[true, true, true, true, true, true, true, true, true, true, true, true, true, true, true, false, true, true, false, false, false, false] rfl rfl (by kernel_rfl) (fun _ _ _ h => h) (Or.inl ⟨by rfl, ?_⟩) hHeld ?_ ?_
  rotate_left
  ·intro w' hw'
   have cb0_ : w'.cell? ⟨b, 3, none⟩ = some (.int .i64 1000) := (blk_cell hw'.row 3).trans rfl
   go_simp
   with_reducible rfl
  rotate_left
  ·simp only [Act.put, List.setIfInBounds_toArray, List.set_cons_zero, List.set_cons_succ, i64_w, i32_w]
   rfl
  refine one_ (i := 15) (N := some 67) #[true, true, true, true, true, true, true, true, true, true, true, true, true, true, true, true, true, true, false, false, false, false] rfl rfl (by kernel_rfl) (by decide) (fun K hK => ?_)
  refine goes_ Tryd.func44 (by kernel_rfl) rfl #[.int .i64 s0_0, .int .i64 (wrap64 (105 - wrap64 0)), .int .i64 100, .int .i64 3] (by rfl) rfl rfl (by simp only [List.map_toArray, List.map_cons, List.map_nil]; rfl) ?_
  refine (muldiv_Do.calls s0_0 _ 100 3 q _ Aq).mono ?_
  rintro e w' ⟨rfl, hb⟩
  refine ⟨_, rfl, ?_⟩
  have hN_ := hHeld.below hb
  refine hK.out _ _ hN_ (fun hHeld => ?_)
  clear hK K hN_ hb
  refine norm_ (a' := ?_) ?_ ?_
  rotate_left
  ·show Act.put _ (some 67) _ = _
   simp only [Act.put, List.setIfInBounds_toArray, List.set_cons_zero, List.set_cons_succ, i64_w, i32_w]
   rfl
  refine pure_ (i := 18) (N := some 70) (v := ?_) (a' := ?_) #[true, true, true, true, true, true, true, true, true, true, true, true, true, true, true, true, true, true, true, false, false, false] rfl rfl (by kernel_rfl) (fun _ _ _ h => h) (Or.inl ⟨by rfl, ?_⟩) ?_ ?_
  rotate_left
  ·intro w'
   go_simp
   with_reducible rfl
  rotate_left
  ·simp only [Act.put, List.setIfInBounds_toArray, List.set_cons_zero, List.set_cons_succ, i64_w, i32_w]
   rfl
  refine pure_ (i := 19) (N := some 71) (v := ?_) (a' := ?_) #[true, true, true, true, true, true, true, true, true, true, true, true, true, true, true, true, true, true, true, true, false, false] rfl rfl (by kernel_rfl) (fun _ _ _ h => h) (Or.inl ⟨by rfl, ?_⟩) ?_ ?_
  rotate_left
  ·intro w'
   go_simp
   with_reducible rfl
  rotate_left
  ·simp only [Act.put, List.setIfInBounds_toArray, List.set_cons_zero, List.set_cons_succ, i64_w, i32_w]
   rfl
  refine pure_ (i := 20) (N := some 72) (v := ?_) (a' := ?_) #[true, true, true, true, true, true, true, true, true, true, true, true, true, true, true, true, true, true, true, true, true, false] rfl rfl (by kernel_rfl) (fun _ _ _ h => h) (Or.inl ⟨by rfl, ?_⟩) ?_ ?_
  rotate_left
  ·intro w'
   go_simp
   with_reducible rfl
  rotate_left
  ·simp only [Act.put, List.setIfInBounds_toArray, List.set_cons_zero, List.set_cons_succ, i64_w, i32_w]
   rfl
  refine last_ (i := 21) (N := none) #[true, true, true, true, true, true, true, true, true, true, true, true, true, true, true, true, true, true, true, true, true, true] rfl rfl (by kernel_rfl) (by decide) (fun K hK => ?_)
  have hs0_ : w'.cell? ⟨g, 0, none⟩ = some (.int .i64 s0_0) := IsS78.cell_0 hHeld.st
  have hf0_ := IsS78.froz_0 hHeld.st
  refine skip_ (w1 := ?_) (by rfl) rfl ?_ ?_
  rotate_left
  ·go_simp
   rfl
  refine hK.out _ _ ?_
  refine done_ (by kernel_rfl) ?_
  clear hK K
  clear hs0_
  clear hf0_
  have h2 : IsS78 w0 (w'.setCell ⟨g, 0, none⟩ (.int .i64 (wrap64 (q + 1000)))) g (wrap64 (q + 1000)) s0_1 s0_2 true t := IsS78.set_0 hHeld.st _
  have hb2 := below_set hHeld.bel (IsS78.ge hHeld.st) (j := 0) (v := .int .i64 (wrap64 (q + 1000)))
  have hk2 := KeepBut.set_ hHeld.keep 0 (.int .i64 (wrap64 (q + 1000)))
  clear hHeld
  generalize w'.setCell ⟨g, 0, none⟩ (.int .i64 (wrap64 (q + 1000))) = W5 at h2 hb2 hk2 ⊢
  try go_wp2
  have h3 : LK w0 w W5 g (wrap64 (q + 1000)) s0_1 s0_2 true t := ⟨h2, hb2, hk2⟩
  clear h2 hb2 hk2
  refine start_ (n := 17) (S := fun w' => LK w0 w w' g (wrap64 (q + 1000)) s0_1 s0_2 true t) (ds := [16]) #[false, false, false, false, false, false, false, false, false, false, false, false, false, false, false, false, false] (by kernel_rfl) rfl rfl h3.drew (fun hHeld => ?_)
  clear h3
  generalize W5.drew = W5 at hHeld ⊢
  refine pure_ (i := 0) (N := some 74) (v := ?_) (a' := ?_) #[true, false, false, false, false, false, false, false, false, false, false, false, false, false, false, false, false] rfl rfl (by kernel_rfl) (fun _ _ _ h => h) (Or.inl ⟨by rfl, ?_⟩) ?_ ?_
  rotate_left
  ·intro w'
   go_simp
   with_reducible rfl
  rotate_left
  ·simp only [Act.put, List.setIfInBounds_toArray, List.set_cons_zero, List.set_cons_succ, i64_w, i32_w]
   rfl
  refine pure_ (i := 1) (N := some 75) (v := ?_) (a' := ?_) #[true, true, false, false, false, false, false, false, false, false, false, false, false, false, false, false, false] rfl rfl (by kernel_rfl) (fun _ _ _ h => h) (Or.inl ⟨by rfl, ?_⟩) ?_ ?_
  rotate_left
  ·intro w'
   go_simp
   with_reducible rfl
  rotate_left
  ·simp only [Act.put, List.setIfInBounds_toArray, List.set_cons_zero, List.set_cons_succ, i64_w, i32_w]
   rfl
  refine pure_ (i := 2) (N := some 76) (v := ?_) (a' := ?_) #[true, true, true, false, false, false, false, false, false, false, false, false, false, false, false, false, false] rfl rfl (by kernel_rfl) (fun _ _ _ h => h) (Or.inl ⟨by rfl, ?_⟩) ?_ ?_
  rotate_left
  ·intro w'
   go_simp
   with_reducible rfl
  rotate_left
  ·simp only [Act.put, List.setIfInBounds_toArray, List.set_cons_zero, List.set_cons_succ, i64_w, i32_w]
   rfl
  refine pure_ (i := 3) (N := some 77) (v := ?_) (a' := ?_) #[true, true, true, true, false, false, false, false, false, false, false, false, false, false, false, false, false] rfl rfl (by kernel_rfl) (fun _ _ _ h => h) (Or.inl ⟨by rfl, ?_⟩) ?_ ?_
  rotate_left
  ·intro w'
   go_simp
   with_reducible rfl
  rotate_left
  ·simp only [Act.put, List.setIfInBounds_toArray, List.set_cons_zero, List.set_cons_succ, i64_w, i32_w]
   rfl
  refine take_ (i := 4) (N := some 78) (v := ?_) (a' := ?_) #[true, true, true, true, true, false, false, false, false, false, false, false, false, false, false, false, false] rfl rfl (by kernel_rfl) (fun _ _ _ h => h) (Or.inl ⟨by rfl, ?_⟩) hHeld ?_ ?_
  rotate_left
  ·intro w' hw'
   have cb0_ : w'.cell? ⟨g, 0, none⟩ = some (.int .i64 (wrap64 (q + 1000))) := IsS78.cell_0 hw'.st
   go_simp
   with_reducible rfl
  rotate_left
  ·simp only [Act.put, List.setIfInBounds_toArray, List.set_cons_zero, List.set_cons_succ, i64_w, i32_w]
   rfl
  refine pure_ (i := 5) (N := some 79) (v := ?_) (a' := ?_) #[true, true, true, true, true, true, false, false, false, false, false, false, false, false, false, false, false] rfl rfl (by kernel_rfl) (fun _ _ _ h => h) (Or.inl ⟨by rfl, ?_⟩) ?_ ?_
  rotate_left
  ·intro w'
   go_simp
   with_reducible rfl
  rotate_left
  ·simp only [Act.put, List.setIfInBounds_toArray, List.set_cons_zero, List.set_cons_succ, i64_w, i32_w]
   rfl
  refine pure_ (i := 6) (N := some 80) (v := ?_) (a' := ?_) #[true, true, true, true, true, true, true, false, false, false, false, false, false, false, false, false, false] rfl rfl (by kernel_rfl) (fun _ _ _ h => h) (Or.inl ⟨by rfl, ?_⟩) ?_ ?_
  rotate_left
  ·intro w'
   go_simp
   with_reducible rfl
  rotate_left
  ·simp only [Act.put, List.setIfInBounds_toArray, List.set_cons_zero, List.set_cons_succ, i64_w, i32_w]
   rfl
  refine pure_ (i := 7) (N := some 81) (v := ?_) (a' := ?_) #[true, true, true, true, true, true, true, true, false, false, false, false, false, false, false, false, false] rfl rfl (by kernel_rfl) (fun _ _ _ h => h) (Or.inl ⟨by rfl, ?_⟩) ?_ ?_
  rotate_left
  ·intro w'
   go_simp
   with_reducible rfl
  rotate_left
  ·simp only [Act.put, List.setIfInBounds_toArray, List.set_cons_zero, List.set_cons_succ, i64_w, i32_w]
   rfl
  refine take_ (i := 8) (N := some 82) (v := ?_) (a' := ?_) #[true, true, true, true, true, true, true, true, true, false, false, false, false, false, false, false, false] rfl rfl (by kernel_rfl) (fun _ _ _ h => h) (Or.inl ⟨by rfl, ?_⟩) hHeld ?_ ?_
  rotate_left
  ·intro w' hw'
   have cb0_ : w'.cell? ⟨g, 1, none⟩ = some (.int .i64 s0_1) := IsS78.cell_1 hw'.st
   go_simp
   with_reducible rfl
  rotate_left
  ·simp only [Act.put, List.setIfInBounds_toArray, List.set_cons_zero, List.set_cons_succ, i64_w, i32_w]
   rfl
  refine pure_ (i := 9) (N := some 83) (v := ?_) (a' := ?_) #[true, true, true, true, true, true, true, true, true, true, false, false, false, false, false, false, false] rfl rfl (by kernel_rfl) (fun _ _ _ h => h) (Or.inl ⟨by rfl, ?_⟩) ?_ ?_
  rotate_left
  ·intro w'
   go_simp
   with_reducible rfl
  rotate_left
  ·simp only [Act.put, List.setIfInBounds_toArray, List.set_cons_zero, List.set_cons_succ, i64_w, i32_w]
   rfl
  refine pure_ (i := 10) (N := some 84) (v := ?_) (a' := ?_) #[true, true, true, true, true, true, true, true, true, true, true, false, false, false, false, false, false] rfl rfl (by kernel_rfl) (fun _ _ _ h => h) (Or.inl ⟨by rfl, ?_⟩) ?_ ?_
  rotate_left
  ·intro w'
   go_simp
   with_reducible rfl
  rotate_left
  ·simp only [Act.put, List.setIfInBounds_toArray, List.set_cons_zero, List.set_cons_succ, i64_w, i32_w]
   rfl
  refine pure_ (i := 11) (N := some 85) (v := ?_) (a' := ?_) #[true, true, true, true, true, true, true, true, true, true, true, true, false, false, false, false, false] rfl rfl (by kernel_rfl) (fun _ _ _ h => h) (Or.inl ⟨by rfl, ?_⟩) ?_ ?_
  rotate_left
  ·intro w'
   go_simp
   with_reducible rfl
  rotate_left
  ·simp only [Act.put, List.setIfInBounds_toArray, List.set_cons_zero, List.set_cons_succ, i64_w, i32_w]
   rfl
  refine take_ (i := 12) (N := some 86) (v := ?_) (a' := ?_) #[true, true, true, true, true, true, true, true, true, true, true, true, true, false, false, false, false] rfl rfl (by kernel_rfl) (fun _ _ _ h => h) (Or.inl ⟨by rfl, ?_⟩) hHeld ?_ ?_
  rotate_left
  ·intro w' hw'
   have cb0_ : w'.cell? ⟨g, 2, none⟩ = some (.int .i64 s0_2) := IsS78.cell_2 hw'.st
   go_simp
   with_reducible rfl
  rotate_left
  ·simp only [Act.put, List.setIfInBounds_toArray, List.set_cons_zero, List.set_cons_succ, i64_w, i32_w]
   rfl
  refine one_ (i := 13) (N := some 87) #[true, true, true, true, true, true, true, true, true, true, true, true, true, true, false, false, false] rfl rfl (by kernel_rfl) (by decide) (fun K hK => ?_)
  refine goes_ Tryd.func23 (by kernel_rfl) rfl #[.int .i64 (wrap64 (q + 1000)), .int .i64 s0_1, .int .i64 s0_2] (by rfl) rfl rfl (by simp only [List.map_toArray, List.map_cons, List.map_nil]; rfl) ?_
  with_reducible refine (sat_Clamp.calls (wrap64 (q + 1000)) s0_1 s0_2 t3 _ A3).mono ?_
  rintro e w' ⟨rfl, ⟨nd, rfl⟩⟩
  refine ⟨_, rfl, ?_⟩
  have hN_ := hHeld.drewN nd
  refine hK.out _ _ hN_ (fun hHeld => ?_)
  clear hK K hN_
  generalize W5.drewN nd = W5_ at hHeld ⊢
  refine norm_ (a' := ?_) ?_ ?_
  rotate_left
  ·show Act.put _ (some 87) _ = _
   simp only [Act.put, List.setIfInBounds_toArray, List.set_cons_zero, List.set_cons_succ, i64_w, i32_w]
   rfl
  refine pure_ (i := 14) (N := some 88) (v := ?_) (a' := ?_) #[true, true, true, true, true, true, true, true, true, true, true, true, true, true, true, false, false] rfl rfl (by kernel_rfl) (fun _ _ _ h => h) (Or.inl ⟨by rfl, ?_⟩) ?_ ?_
  rotate_left
  ·intro w'
   go_simp
   with_reducible rfl
  rotate_left
  ·simp only [Act.put, List.setIfInBounds_toArray, List.set_cons_zero, List.set_cons_succ, i64_w, i32_w]
   rfl
  refine pure_ (i := 15) (N := some 89) (v := ?_) (a' := ?_) #[true, true, true, true, true, true, true, true, true, true, true, true, true, true, true, true, false] rfl rfl (by kernel_rfl) (fun _ _ _ h => h) (Or.inl ⟨by rfl, ?_⟩) ?_ ?_
  rotate_left
  ·intro w'
   go_simp
   with_reducible rfl
  rotate_left
  ·simp only [Act.put, List.setIfInBounds_toArray, List.set_cons_zero, List.set_cons_succ, i64_w, i32_w]
   rfl
  refine last_ (i := 16) (N := none) #[true, true, true, true, true, true, true, true, true, true, true, true, true, true, true, true, true] rfl rfl (by kernel_rfl) (by decide) (fun K hK => ?_)
  have hs0_ : W5_.cell? ⟨g, 0, none⟩ = some (.int .i64 (wrap64 (q + 1000))) := IsS78.cell_0 hHeld.st
  have hf0_ := IsS78.froz_0 hHeld.st
  refine skip_ (w1 := ?_) (by rfl) rfl ?_ ?_
  rotate_left
  ·go_simp
   rfl
  refine hK.out _ _ ?_
  refine done_ (by kernel_rfl) ?_
  clear hK K
  clear hs0_
  clear hf0_
  have h4 := IsS78.set_0 hHeld.st t3
  have hb4 := below_set hHeld.bel (IsS78.ge hHeld.st) (j := 0) (v := .int .i64 t3)
  have hk4 := KeepBut.set_ hHeld.keep 0 (.int .i64 t3)
  clear hHeld
  generalize W5_.setCell ⟨g, 0, none⟩ (.int .i64 t3) = W6 at h4 hb4 hk4 ⊢
  have hc0_ := IsS78.cell_0 h4
  go_wp2
  go_ret
  exact ⟨rfl, h4, hb4, hk4⟩
set_option maxHeartbeats 8000000 in
set_option maxRecDepth 100000 in
theorem lossy_upd1 (g : Nat) (s0_0 s0_1 s0_2 : Int) (s0_3 : Bool) (s0_4 a1 a2 n t : Int) (w0 w : World) (hI : IsS78 w0 w g s0_0 s0_1 s0_2 s0_3 s0_4) (hB : Below w0.heap.size w0 w) (hG : GL w0) (q : Int) (Aq : muldiv_Do.f s0_0 (wrap64 (1 - wrap64 0)) 1 1 = some q) (t3 : Int) (A3 : sat_Clamp.f (wrap64 q) s0_1 s0_2 = some t3) (At : sat_Clamp.f a2 0 1125899906842624 = some t) (An : sat_Clamp.f a1 0 256 = some n) (cn : ¬ n ≤ 5) (cn2 : n ≤ 26) (hn : n ≤ 256) (c : s0_3 = false ∨ s0_3 = true ∧ decide (wrap64 (t - s0_4) < 200000) = false) :
  Calls Tryd.prog 26 #[.pointer (some ⟨g, 0, none⟩), .int .i64 a1, .int .i64 a2] w fun e w' => e = .returned (.int .i64 t3) ∧ IsS78 w0 w' g t3 s0_1 s0_2 true t ∧ Below w0.heap.size w0 w' ∧ KeepBut w w' g none := by
 have hpn : ∀ (a_ : Addr) (W_ : World), (Go.binOp .eql 51 (.pointer (some a_)) (.pointer none)).run Tryd.prog W_ = .ok (.bool false) W_ := fun _ _ => by kernel_rfl
 have hix0 : ∀ W_ : World, (Instr.index 107 (.agg #[.int .i64 5, .int .i64 105, .int .i64 100, .int .i64 1000, .int .i64 0, .int .i64 26, .int .i64 1, .int .i64 1, .int .i64 0, .int .i64 0, .int .i64 256, .int .i64 512, .int .i64 512, .int .i64 0, .int .i64 1]) (.int .i64 0)).run Tryd.prog W_ = .ok (.agg #[.int .i64 5, .int .i64 105, .int .i64 100, .int .i64 1000, .int .i64 0]) W_ := fun _ => by kernel_rfl
 have hix1 : ∀ W_ : World, (Instr.index 107 (.agg #[.int .i64 5, .int .i64 105, .int .i64 100, .int .i64 1000, .int .i64 0, .int .i64 26, .int .i64 1, .int .i64 1, .int .i64 0, .int .i64 0, .int .i64 256, .int .i64 512, .int .i64 512, .int .i64 0, .int .i64 1]) (.int .i64 1)).run Tryd.prog W_ = .ok (.agg #[.int .i64 26, .int .i64 1, .int .i64 1, .int .i64 0, .int .i64 0]) W_ := fun _ => by kernel_rfl
 have hix2 : ∀ W_ : World, (Instr.index 107 (.agg #[.int .i64 5, .int .i64 105, .int .i64 100, .int .i64 1000, .int .i64 0, .int .i64 26, .int .i64 1, .int .i64 1, .int .i64 0, .int .i64 0, .int .i64 256, .int .i64 512, .int .i64 512, .int .i64 0, .int .i64 1]) (.int .i64 2)).run Tryd.prog W_ = .ok (.agg #[.int .i64 256, .int .i64 512, .int .i64 512, .int .i64 0, .int .i64 1]) W_ := fun _ => by kernel_rfl
 have cn0_ : decide (5 < n) = true := decide_eq_true (by omega)
 have cn1_ : decide (26 < n) = false := decide_eq_false (by omega)
 rcases c with c | ⟨c, hc⟩
 ·subst c
  go_enter Tryd.func26, Tryd.ntmps26
  go_wp2_with (first | ((with_reducible refine gate_dst (N := 14) rfl ?_); refine goesL_ (some 14) rfl rfl Tryd.func23 (by kernel_rfl) rfl #[.int .i64 a2, .int .i64 0, .int .i64 1125899906842624] rfl (by (try simp only [List.map_toArray, List.map_cons, List.map_nil]); first | done | rfl) ?_; (with_reducible refine (sat_Clamp.calls a2 0 1125899906842624 t _ At).mono ?_); rintro e w' ⟨rfl, ⟨nd, rfl⟩⟩; refine ⟨_, rfl, ?_⟩; have hI1 := IsS78.drewN hI nd; have hB1 := pw_below_drewN hB nd; have hK1 := keep_drewN (KeepBut.refl w g none) nd; generalize World.drewN w nd = W1 at hI1 hB1 hK1 ⊢; have hc0_ : W1.cell? ⟨g, 0, none⟩ = some (.int .i64 s0_0) := IsS78.cell_0 hI1; have hf0_ := IsS78.froz_0 hI1; have hc1_ : W1.cell? ⟨g, 1, none⟩ = some (.int .i64 s0_1) := IsS78.cell_1 hI1; have hf1_ := IsS78.froz_1 hI1; have hc2_ : W1.cell? ⟨g, 2, none⟩ = some (.int .i64 s0_2) := IsS78.cell_2 hI1; have hf2_ := IsS78.froz_2 hI1; have hc3_ : W1.cell? ⟨g, 3, none⟩ = some (.bool false) := IsS78.cell_3 hI1; have hf3_ := IsS78.froz_3 hI1; have hc4_ : W1.cell? ⟨g, 4, none⟩ = some (.int .i64 s0_4) := IsS78.cell_4 hI1; have hf4_ := IsS78.froz_4 hI1) | ((with_reducible refine gate_dst (N := 40) rfl ?_); refine goesL_ (some 40) rfl rfl Tryd.func23 (by kernel_rfl) rfl #[.int .i64 a1, .int .i64 0, .int .i64 256] rfl (by (try simp only [List.map_toArray, List.map_cons, List.map_nil]); first | done | rfl) ?_; (with_reducible refine (sat_Clamp.calls a1 0 256 n _ An).mono ?_); rintro e w' ⟨rfl, ⟨nd, rfl⟩⟩; refine ⟨_, rfl, ?_⟩; have hI2 := IsS78.drewN (IsS78.set_4 (IsS78.set_3 hI1 true) t) nd; have hB2 := pw_below_drewN (below_set (below_set hB1 (IsS78.ge hI1) (j := 3) (v := .bool true)) (IsS78.ge hI1) (j := 4) (v := .int .i64 t)) nd; have hK2 := keep_drewN (KeepBut.set_ (KeepBut.set_ hK1 3 (.bool true)) 4 (.int .i64 t)) nd; clear hI1 hB1 hK1; clear hc0_ hf0_ hc1_ hf1_ hc2_ hf2_ hc3_ hf3_ hc4_ hf4_; generalize World.drewN ((W1.setCell ⟨g, 3, none⟩ (.bool true)).setCell ⟨g, 4, none⟩ (.int .i64 t)) nd = W2 at hI2 hB2 hK2 ⊢; have hc0_ : W2.cell? ⟨g, 0, none⟩ = some (.int .i64 s0_0) := IsS78.cell_0 hI2; have hf0_ := IsS78.froz_0 hI2; have hc1_ : W2.cell? ⟨g, 1, none⟩ = some (.int .i64 s0_1) := IsS78.cell_1 hI2; have hf1_ := IsS78.froz_1 hI2; have hc2_ : W2.cell? ⟨g, 2, none⟩ = some (.int .i64 s0_2) := IsS78.cell_2 hI2; have hf2_ := IsS78.froz_2 hI2; have hc3_ : W2.cell? ⟨g, 3, none⟩ = some (.bool true) := IsS78.cell_3 hI2; have hf3_ := IsS78.froz_3 hI2; have hc4_ : W2.cell? ⟨g, 4, none⟩ = some (.int .i64 t) := IsS78.cell_4 hI2; have hf4_ := IsS78.froz_4 hI2; have hG2 := hG.below hB2; obtain ⟨q0, q1, q2, q3, q4, q5, q6, q7, q8, q9, q10, q11, q12, q13, q14⟩ := hG2))
  refine wp_loop_rounds 4 ?_
  rw [rounds_succ]
  go_wp2
  rw [rounds_succ]
  go_wp2
  refine namedG_ ?_
  intro W3 hW3
  have h1 : LH w0 w W3 g (W2.alloc (.cells #[.int .i64 5, .int .i64 105, .int .i64 100, .int .i64 1000, .int .i64 0] 106)).heap.size s0_0 s0_1 s0_2 true t 26 1 1 0 0 := by rw [hW3]; exact ⟨IsS78.alloc (IsS78.alloc (hI2) _) _, below_alloc (below_alloc (hB2) _) _, keep_alloc (keep_alloc (hK2) _) _, blk_new _ _⟩
  (try simp only [sizeG_] at h1 ⊢)
  clear hW3 hI2 hB2 hK2
  generalize W2.heap.size + 1 = b at h1 ⊢
  refine start_ (n := 22) (S := fun w' => LH w0 w w' g b s0_0 s0_1 s0_2 true t 26 1 1 0 0) (ds := [21]) #[false, false, false, false, false, false, false, false, false, false, false, false, false, false, false, false, false, false, false, false, false, false] (by kernel_rfl) rfl rfl h1.drew (fun hHeld => ?_)
  clear h1
  generalize W3.drew = W3 at hHeld ⊢
  refine pure_ (i := 0) (N := some 52) (v := ?_) (a' := ?_) #[true, false, false, false, false, false, false, false, false, false, false, false, false, false, false, false, false, false, false, false, false, false] rfl rfl (by kernel_rfl) (fun _ _ _ h => h) (Or.inl ⟨by rfl, ?_⟩) ?_ ?_
  rotate_left
  ·intro w'
   go_simp
   with_reducible rfl
  rotate_left
  ·simp only [Act.put, List.setIfInBounds_toArray, List.set_cons_zero, List.set_cons_succ, i64_w, i32_w]
   rfl
  refine pure_ (i := 1) (N := some 53) (v := ?_) (a' := ?_) #[true, true, false, false, false, false, false, false, false, false, false, false, false, false, false, false, false, false, false, false, false, false] rfl rfl (by kernel_rfl) (fun _ _ _ h => h) (Or.inl ⟨by rfl, ?_⟩) ?_ ?_
  rotate_left
  ·intro w'
   go_simp
   with_reducible rfl
  rotate_left
  ·simp only [Act.put, List.setIfInBounds_toArray, List.set_cons_zero, List.set_cons_succ, i64_w, i32_w]
   rfl
  refine pure_ (i := 2) (N := some 54) (v := ?_) (a' := ?_) #[true, true, true, false, false, false, false, false, false, false, false, false, false, false, false, false, false, false, false, false, false, false] rfl rfl (by kernel_rfl) (fun _ _ _ h => h) (Or.inl ⟨by rfl, ?_⟩) ?_ ?_
  rotate_left
  ·intro w'
   go_simp
   with_reducible rfl
  rotate_left
  ·simp only [Act.put, List.setIfInBounds_toArray, List.set_cons_zero, List.set_cons_succ, i64_w, i32_w]
   rfl
  refine pure_ (i := 3) (N := some 55) (v := ?_) (a' := ?_) #[true, true, true, true, false, false, false, false, false, false, false, false, false, false, false, false, false, false, false, false, false, false] rfl rfl (by kernel_rfl) (fun _ _ _ h => h) (Or.inl ⟨by rfl, ?_⟩) ?_ ?_
  rotate_left
  ·intro w'
   go_simp
   with_reducible rfl
  rotate_left
  ·simp only [Act.put, List.setIfInBounds_toArray, List.set_cons_zero, List.set_cons_succ, i64_w, i32_w]
   rfl
  refine take_ (i := 4) (N := some 56) (v := ?_) (a' := ?_) #[true, true, true, true, true, false, false, false, false, false, false, false, false, false, false, false, false, false, false, false, false, false] rfl rfl (by kernel_rfl) (fun _ _ _ h => h) (Or.inl ⟨by rfl, ?_⟩) hHeld ?_ ?_
  rotate_left
  ·intro w' hw'
   have cb0_ : w'.cell? ⟨g, 0, none⟩ = some (.int .i64 s0_0) := IsS78.cell_0 hw'.st
   go_simp
   with_reducible rfl
  rotate_left
  ·simp only [Act.put, List.setIfInBounds_toArray, List.set_cons_zero, List.set_cons_succ, i64_w, i32_w]
   rfl
  refine pure_ (i := 5) (N := some 57) (v := ?_) (a' := ?_) #[true, true, true, true, true, true, false, false, false, false, false, false, false, false, false, false, false, false, false, false, false, false] rfl rfl (by kernel_rfl) (fun _ _ _ h => h) (Or.inl ⟨by rfl, ?_⟩) ?_ ?_
  rotate_left
  ·intro w'
   go_simp
   with_reducible rfl
  rotate_left
  ·simp only [Act.put, List.setIfInBounds_toArray, List.set_cons_zero, List.set_cons_succ, i64_w, i32_w]
   rfl
  refine take_ (i := 6) (N := some 58) (v := ?_) (a' := ?_) #[true, true, true, true, true, true, true, false, false, false, false, false, false, false, false, false, false, false, false, false, false, false] rfl rfl (by kernel_rfl) (fun _ _ _ h => h) (Or.inl ⟨by rfl, ?_⟩) hHeld ?_ ?_
  rotate_left
  ·intro w' hw'
   have cb0_ : w'.cell? ⟨b, 1, none⟩ = some (.int .i64 1) := (blk_cell hw'.row 1).trans rfl
   go_simp
   with_reducible rfl
  rotate_left
  ·simp only [Act.put, List.setIfInBounds_toArray, List.set_cons_zero, List.set_cons_succ, i64_w, i32_w]
   rfl
  refine pure_ (i := 7) (N := some 59) (v := ?_) (a' := ?_) #[true, true, true, true, true, true, true, true, false, false, false, false, false, false, false, false, false, false, false, false, false, false] rfl rfl (by kernel_rfl) (fun _ _ _ h => h) (Or.inl ⟨by rfl, ?_⟩) ?_ ?_
  rotate_left
  ·intro w'
   go_simp
   with_reducible rfl
  rotate_left
  ·simp only [Act.put, List.setIfInBounds_toArray, List.set_cons_zero, List.set_cons_succ, i64_w, i32_w]
   rfl
  refine take_ (i := 8) (N := some 60) (v := ?_) (a' := ?_) #[true, true, true, true, true, true, true, true, true, false, false, false, false, false, false, false, false, false, false, false, false, false] rfl rfl (by kernel_rfl) (fun _ _ _ h => h) (Or.inl ⟨by rfl, ?_⟩) hHeld ?_ ?_
  rotate_left
  ·intro w' hw'
   have cb0_ : w'.cell? ⟨b, 4, none⟩ = some (.int .i64 0) := (blk_cell hw'.row 4).trans rfl
   go_simp
   with_reducible rfl
  rotate_left
  ·simp only [Act.put, List.setIfInBounds_toArray, List.set_cons_zero, List.set_cons_succ, i64_w, i32_w]
   rfl
  refine pure_ (i := 9) (N := some 61) (v := ?_) (a' := ?_) #[true, true, true, true, true, true, true, true, true, true, false, false, false, false, false, false, false, false, false, false, false, false] rfl rfl (by kernel_rfl) (fun _ _ _ h => h) (Or.inl ⟨by rfl, ?_⟩) ?_ ?_
  rotate_left
  ·intro w'
   go_simp
   with_reducible rfl
  rotate_left
  ·simp only [Act.put, List.setIfInBounds_toArray, List.set_cons_zero, List.set_cons_succ, i64_w, i32_w]
   rfl
  refine pure_ (i := 10) (N := some 62) (v := ?_) (a' := ?_) #[true, true, true, true, true, true, true, true, true, true, true, false, false, false, false, false, false, false, false, false, false, false] rfl rfl (by kernel_rfl) (fun _ _ _ h => h) (Or.inl ⟨by rfl, ?_⟩) ?_ ?_
  rotate_left
  ·intro w'
   go_simp
   with_reducible rfl
  rotate_left
  ·simp only [Act.put, List.setIfInBounds_toArray, List.set_cons_zero, List.set_cons_succ, i64_w, i32_w]
   rfl
  refine pure_ (i := 11) (N := some 63) (v := ?_) (a' := ?_) #[true, true, true, true, true, true, true, true, true, true, true, true, false, false, false, false, false, false, false, false, false, false] rfl rfl (by kernel_rfl) (fun _ _ _ h => h) (Or.inl ⟨by rfl, ?_⟩) ?_ ?_
  rotate_left
  ·intro w'
   go_simp
   with_reducible rfl
  rotate_left
  ·simp only [Act.put, List.setIfInBounds_toArray, List.set_cons_zero, List.set_cons_succ, i64_w, i32_w]
   rfl
  refine pure_ (i := 12) (N := some 64) (v := ?_) (a' := ?_) #[true, true, true, true, true, true, true, true, true, true, true, true, true, false, false, false, false, false, false, false, false, false] rfl rfl (by kernel_rfl) (fun _ _ _ h => h) (Or.inl ⟨by rfl, ?_⟩) ?_ ?_
  rotate_left
  ·intro w'
   go_simp
   with_reducible rfl
  rotate_left
  ·simp only [Act.put, List.setIfInBounds_toArray, List.set_cons_zero, List.set_cons_succ, i64_w, i32_w]
   rfl
  refine take_ (i := 13) (N := some 65) (v := ?_) (a' := ?_) #[true, true, true, true, true, true, true, true, true, true, true, true, true, true, false, false, false, false, false, false, false, false] rfl rfl (by kernel_rfl) (fun _ _ _ h => h) (Or.inl ⟨by rfl, ?_⟩) hHeld ?_ ?_
  rotate_left
  ·intro w' hw'
   have cb0_ : w'.cell? ⟨b, 2, none⟩ = some (.int .i64 1) := (blk_cell hw'.row 2).trans rfl
   go_simp
   with_reducible rfl
  rotate_left
  ·simp only [Act.put, List.setIfInBounds_toArray, List.set_cons_zero, List.set_cons_succ, i64_w, i32_w]
   rfl
  refine pure_ (i := 14) (N := some 66) (v := ?_) (a' := ?_) #[true, true, true, true, true, true, true, true, true, true, true, true, true, true, true, false, false, false, false, false, false, false] rfl rfl (by kernel_rfl) (fun _ _ _ h => h) (Or.inl ⟨by rfl, ?_⟩) ?_ ?_
  rotate_left
  ·intro w'
   go_simp
   with_reducible rfl
  rotate_left
  ·simp only [Act.put, List.setIfInBounds_toArray, List.set_cons_zero, List.set_cons_succ, i64_w, i32_w]
   rfl
  refine pure_ (i := 16) (N := some 68) (v := ?_) (a' := ?_) #[true, true, true, true, true, true, true, true, true, true, true, true, true, true, true, false, true, false, false, false, false, false] rfl rfl (by kernel_rfl) (fun _ _ _ h => h) (Or.inl ⟨by rfl, ?_⟩) ?_ ?_
  rotate_left
  ·intro w'
   go_simp
   with_reducible rfl
  rotate_left
  ·simp only [Act.put, List.setIfInBounds_toArray, List.set_cons_zero, List.set_cons_succ, i64_w, i32_w]
   rfl
  refine take_ (i := 17) (N := some 69) (v := ?_) (a' := ?_) #[true, true, true, true, true, true, true, true, true, true, true, true, true, true, true, false, true, true, false, false, false, false] rfl rfl (by kernel_rfl) (fun _ _ _ h => h) (Or.inl ⟨by rfl, ?_⟩) hHeld ?_ ?_
  rotate_left
  ·intro w' hw'
   have cb0_ : w'.cell? ⟨b, 3, none⟩ = some (.int .i64 0) := (blk_cell hw'.row 3).trans rfl
   go_simp
   with_reducible rfl
  rotate_left
  ·simp only [Act.put, List.setIfInBounds_toArray, List.set_cons_zero, List.set_cons_succ, i64_w, i32_w]
   rfl
  refine one_ (i := 15) (N := some 67) #[true, true, true, true, true, true, true, true, true, true, true, true, true, true, true, true, true, true, false, false, false, false] rfl rfl (by kernel_rfl) (by decide) (fun K hK => ?_)
  refine goes_ Tryd.func44 (by kernel_rfl) rfl #[.int .i64 s0_0, .int .i64 (wrap64 (1 - wrap64 0)), .int .i64 1, .int .i64 1] (by rfl) rfl rfl (by simp only [List.map_toArray, List.map_cons, List.map_nil]; rfl) ?_
  refine (muldiv_Do.calls s0_0 _ 1 1 q _ Aq).mono ?_
  rintro e w' ⟨rfl, hb⟩
  refine ⟨_, rfl, ?_⟩
  have hN_ := hHeld.below hb
  refine hK.out _ _ hN_ (fun hHeld => ?_)
  clear hK K hN_ hb
  refine norm_ (a' := ?_) ?_ ?_
  rotate_left
  ·show Act.put _ (some 67) _ = _
   simp only [Act.put, List.setIfInBounds_toArray, List.set_cons_zero, List.set_cons_succ, i64_w, i32_w]
   rfl
  refine pure_ (i := 18) (N := some 70) (v := ?_) (a' := ?_) #[true, true, true, true, true, true, true, true, true, true, true, true, true, true, true, true, true, true, true, false, false, false] rfl rfl (by kernel_rfl) (fun _ _ _ h => h) (Or.inl ⟨by rfl, ?_⟩) ?_ ?_
  rotate_left
  ·intro w'
   go_simp
   with_reducible rfl
  rotate_left
  ·simp only [Act.put, List.setIfInBounds_toArray, List.set_cons_zero, List.set_cons_succ, i64_w, i32_w]
   rfl
  refine pure_ (i := 19) (N := some 71) (v := ?_) (a' := ?_) #[true, true, true, true, true, true, true, true, true, true, true, true, true, true, true, true, true, true, true, true, false, false] rfl rfl (by kernel_rfl) (fun _ _ _ h => h) (Or.inl ⟨by rfl, ?_⟩) ?_ ?_
  rotate_left
  ·intro w'
   go_simp
   with_reducible rfl
  rotate_left
  ·simp only [Act.put, List.setIfInBounds_toArray, List.set_cons_zero, List.set_cons_succ, i64_w, i32_w]
   rfl
  refine pure_ (i := 20) (N := some 72) (v := ?_) (a' := ?_) #[true, true, true, true, true, true, true, true, true, true, true, true, true, true, true, true, true, true, true, true, true, false] rfl rfl (by kernel_rfl) (fun _ _ _ h => h) (Or.inl ⟨by rfl, ?_⟩) ?_ ?_
  rotate_left
  ·intro w'
   go_simp
   with_reducible rfl
  rotate_left
  ·simp only [Act.put, List.setIfInBounds_toArray, List.set_cons_zero, List.set_cons_succ, i64_w, i32_w]
   rfl
  refine last_ (i := 21) (N := none) #[true, true, true, true, true, true, true, true, true, true, true, true, true, true, true, true, true, true, true, true, true, true] rfl rfl (by kernel_rfl) (by decide) (fun K hK => ?_)
  have hs0_ : w'.cell? ⟨g, 0, none⟩ = some (.int .i64 s0_0) := IsS78.cell_0 hHeld.st
  have hf0_ := IsS78.froz_0 hHeld.st
  refine skip_ (w1 := ?_) (by rfl) rfl ?_ ?_
  rotate_left
  ·go_simp
   rfl
  refine hK.out _ _ ?_
  refine done_ (by kernel_rfl) ?_
  clear hK K
  clear hs0_
  clear hf0_
  have h2 : IsS78 w0 (w'.setCell ⟨g, 0, none⟩ (.int .i64 (wrap64 q))) g (wrap64 q) s0_1 s0_2 true t := IsS78.set_0 hHeld.st _
  have hb2 := below_set hHeld.bel (IsS78.ge hHeld.st) (j := 0) (v := .int .i64 (wrap64 q))
  have hk2 := KeepBut.set_ hHeld.keep 0 (.int .i64 (wrap64 q))
  clear hHeld
  generalize w'.setCell ⟨g, 0, none⟩ (.int .i64 (wrap64 q)) = W5 at h2 hb2 hk2 ⊢
  try go_wp2
  have h3 : LK w0 w W5 g (wrap64 q) s0_1 s0_2 true t := ⟨h2, hb2, hk2⟩
  clear h2 hb2 hk2
  refine start_ (n := 17) (S := fun w' => LK w0 w w' g (wrap64 q) s0_1 s0_2 true t) (ds := [16]) #[false, false, false, false, false, false, false, false, false, false, false, false, false, false, false, false, false] (by kernel_rfl) rfl rfl h3.drew (fun hHeld => ?_)
  clear h3
  generalize W5.drew = W5 at hHeld ⊢
  refine pure_ (i := 0) (N := some 74) (v := ?_) (a' := ?_) #[true, false, false, false, false, false, false, false, false, false, false, false, false, false, false, false, false] rfl rfl (by kernel_rfl) (fun _ _ _ h => h) (Or.inl ⟨by rfl, ?_⟩) ?_ ?_
  rotate_left
  ·intro w'
   go_simp
   with_reducible rfl
  rotate_left
  ·simp only [Act.put, List.setIfInBounds_toArray, List.set_cons_zero, List.set_cons_succ, i64_w, i32_w]
   rfl
  refine pure_ (i := 1) (N := some 75) (v := ?_) (a' := ?_) #[true, true, false, false, false, false, false, false, false, false, false, false, false, false, false, false, false] rfl rfl (by kernel_rfl) (fun _ _ _ h => h) (Or.inl ⟨by rfl, ?_⟩) ?_ ?_
  rotate_left
  ·intro w'
   go_simp
   with_reducible rfl
  rotate_left
  ·simp only [Act.put, List.setIfInBounds_toArray, List.set_cons_zero, List.set_cons_succ, i64_w, i32_w]
   rfl
  refine pure_ (i := 2) (N := some 76) (v := ?_) (a' := ?_) #[true, true, true, false, false, false, false, false, false, false, false, false, false, false, false, false, false] rfl rfl (by kernel_rfl) (fun _ _ _ h => h) (Or.inl ⟨by rfl, ?_⟩) ?_ ?_
  rotate_left
  ·intro w'
   go_simp
   with_reducible rfl
  rotate_left
  ·simp only [Act.put, List.setIfInBounds_toArray, List.set_cons_zero, List.set_cons_succ, i64_w, i32_w]
   rfl
  refine pure_ (i := 3) (N := some 77) (v := ?_) (a' := ?_) #[true, true, true, true, false, false, false, false, false, false, false, false, false, false, false, false, false] rfl rfl (by kernel_rfl) (fun _ _ _ h => h) (Or.inl ⟨by rfl, ?_⟩) ?_ ?_
  rotate_left
  ·intro w'
   go_simp
   with_reducible rfl
  rotate_left
  ·simp only [Act.put, List.setIfInBounds_toArray, List.set_cons_zero, List.set_cons_succ, i64_w, i32_w]
   rfl
  refine take_ (i := 4) (N := some 78) (v := ?_) (a' := ?_) #[true, true, true, true, true, false, false, false, false, false, false, false, false, false, false, false, false] rfl rfl (by kernel_rfl) (fun _ _ _ h => h) (Or.inl ⟨by rfl, ?_⟩) hHeld ?_ ?_
  rotate_left
  ·intro w' hw'
   have cb0_ : w'.cell? ⟨g, 0, none⟩ = some (.int .i64 (wrap64 q)) := IsS78.cell_0 hw'.st
   go_simp
   with_reducible rfl
  rotate_left
  ·simp only [Act.put, List.setIfInBounds_toArray, List.set_cons_zero, List.set_cons_succ, i64_w, i32_w]
   rfl
  refine pure_ (i := 5) (N := some 79) (v := ?_) (a' := ?_) #[true, true, true, true, true, true, false, false, false, false, false, false, false, false, false, false, false] rfl rfl (by kernel_rfl) (fun _ _ _ h => h) (Or.inl ⟨by rfl, ?_⟩) ?_ ?_
  rotate_left
  ·intro w'
   go_simp
   with_reducible rfl
  rotate_left
  ·simp only [Act.put, List.setIfInBounds_toArray, List.set_cons_zero, List.set_cons_succ, i64_w, i32_w]
   rfl
  refine pure_ (i := 6) (N := some 80) (v := ?_) (a' := ?_) #[true, true, true, true, true, true, true, false, false, false, false, false, false, false, false, false, false] rfl rfl (by kernel_rfl) (fun _ _ _ h => h) (Or.inl ⟨by rfl, ?_⟩) ?_ ?_
  rotate_left
  ·intro w'
   go_simp
   with_reducible rfl
  rotate_left
  ·simp only [Act.put, List.setIfInBounds_toArray, List.set_cons_zero, List.set_cons_succ, i64_w, i32_w]
   rfl
  refine pure_ (i := 7) (N := some 81) (v := ?_) (a' := ?_) #[true, true, true, true, true, true, true, true, false, false, false, false, false, false, false, false, false] rfl rfl (by kernel_rfl) (fun _ _ _ h => h) (Or.inl ⟨by rfl, ?_⟩) ?_ ?_
  rotate_left
  ·intro w'
   go_simp
   with_reducible rfl
  rotate_left
  ·simp only [Act.put, List.setIfInBounds_toArray, List.set_cons_zero, List.set_cons_succ, i64_w, i32_w]
   rfl
  refine take_ (i := 8) (N := some 82) (v := ?_) (a' := ?_) #[true, true, true, true, true, true, true, true, true, false, false, false, false, false, false, false, false] rfl rfl (by kernel_rfl) (fun _ _ _ h => h) (Or.inl ⟨by rfl, ?_⟩) hHeld ?_ ?_
  rotate_left
  ·intro w' hw'
   have cb0_ : w'.cell? ⟨g, 1, none⟩ = some (.int .i64 s0_1) := IsS78.cell_1 hw'.st
   go_simp
   with_reducible rfl
  rotate_left
  ·simp only [Act.put, List.setIfInBounds_toArray, List.set_cons_zero, List.set_cons_succ, i64_w, i32_w]
   rfl
  refine pure_ (i := 9) (N := some 83) (v := ?_) (a' := ?_) #[true, true, true, true, true, true, true, true, true, true, false, false, false, false, false, false, false] rfl rfl (by kernel_rfl) (fun _ _ _ h => h) (Or.inl ⟨by rfl, ?_⟩) ?_ ?_
  rotate_left
  ·intro w'
   go_simp
   with_reducible rfl
  rotate_left
  ·simp only [Act.put, List.setIfInBounds_toArray, List.set_cons_zero, List.set_cons_succ, i64_w, i32_w]
   rfl
  refine pure_ (i := 10) (N := some 84) (v := ?_) (a' := ?_) #[true, true, true, true, true, true, true, true, true, true, true, false, false, false, false, false, false] rfl rfl (by kernel_rfl) (fun _ _ _ h => h) (Or.inl ⟨by rfl, ?_⟩) ?_ ?_
  rotate_left
  ·intro w'
   go_simp
   with_reducible rfl
  rotate_left
  ·simp only [Act.put, List.setIfInBounds_toArray, List.set_cons_zero, List.set_cons_succ, i64_w, i32_w]
   rfl
  refine pure_ (i := 11) (N := some 85) (v := ?_) (a' := ?_) #[true, true, true, true, true, true, true, true, true, true, true, true, false, false, false, false, false] rfl rfl (by kernel_rfl) (fun _ _ _ h => h) (Or.inl ⟨by rfl, ?_⟩) ?_ ?_
  rotate_left
  ·intro w'
   go_simp
   with_reducible rfl
  rotate_left
  ·simp only [Act.put, List.setIfInBounds_toArray, List.set_cons_zero, List.set_cons_succ, i64_w, i32_w]
   rfl
  refine take_ (i := 12) (N := some 86) (v := ?_) (a' := ?_) #[true, true, true, true, true, true, true, true, true, true, true, true, true, false, false, false, false] rfl rfl (by kernel_rfl) (fun _ _ _ h => h) (Or.inl ⟨by rfl, ?_⟩) hHeld ?_ ?_
  rotate_left
  ·intro w' hw'
   have cb0_ : w'.cell? ⟨g, 2, none⟩ = some (.int .i64 s0_2) := IsS78.cell_2 hw'.st
   go_simp
   with_reducible rfl
  rotate_left
  ·simp only [Act.put, List.setIfInBounds_toArray, List.set_cons_zero, List.set_cons_succ, i64_w, i32_w]
   rfl
  refine one_ (i := 13) (N := some 87) #[true, true, true, true, true, true, true, true, true, true, true, true, true, true, false, false, false] rfl rfl (by kernel_rfl) (by decide) (fun K hK => ?_)
  refine goes_ Tryd.func23 (by kernel_rfl) rfl #[.int .i64 (wrap64 q), .int .i64 s0_1, .int .i64 s0_2] (by rfl) rfl rfl (by simp only [List.map_toArray, List.map_cons, List.map_nil]; rfl) ?_
  with_reducible refine (sat_Clamp.calls (wrap64 q) s0_1 s0_2 t3 _ A3).mono ?_
  rintro e w' ⟨rfl, ⟨nd, rfl⟩⟩
  refine ⟨_, rfl, ?_⟩
  have hN_ := hHeld.drewN nd
  refine hK.out _ _ hN_ (fun hHeld => ?_)
  clear hK K hN_
  generalize W5.drewN nd = W5_ at hHeld ⊢
  refine norm_ (a' := ?_) ?_ ?_
  rotate_left
  ·show Act.put _ (some 87) _ = _
   simp only [Act.put, List.setIfInBounds_toArray, List.set_cons_zero, List.set_cons_succ, i64_w, i32_w]
   rfl
  refine pure_ (i := 14) (N := some 88) (v := ?_) (a' := ?_) #[true, true, true, true, true, true, true, true, true, true, true, true, true, true, true, false, false] rfl rfl (by kernel_rfl) (fun _ _ _ h => h) (Or.inl ⟨by rfl, ?_⟩) ?_ ?_
  rotate_left
  ·intro w'
   go_simp
   with_reducible rfl
  rotate_left
  ·simp only [Act.put, List.setIfInBounds_toArray, List.set_cons_zero, List.set_cons_succ, i64_w, i32_w]
   rfl
  refine pure_ (i := 15) (N := some 89) (v := ?_) (a' := ?_) #[true, true, true, true, true, true, true, true, true, true, true, true, true, true, true, true, false] rfl rfl (by kernel_rfl) (fun _ _ _ h => h) (Or.inl ⟨by rfl, ?_⟩) ?_ ?_
  rotate_left
  ·intro w'
   go_simp
   with_reducible rfl
  rotate_left
  ·simp only [Act.put, List.setIfInBounds_toArray, List.set_cons_zero, List.set_cons_succ, i64_w, i32_w]
   rfl
  refine last_ (i := 16) (N := none) #[true, true, true, true, true, true, true, true, true, true, true, true, true, true, true, true, true] rfl rfl (by kernel_rfl) (by decide) (fun K hK => ?_)
  have hs0_ : W5_.cell? ⟨g, 0, none⟩ = some (.int .i64 (wrap64 q)) := IsS78.cell_0 hHeld.st
  have hf0_ := IsS78.froz_0 hHeld.st
  refine skip_ (w1 := ?_) (by rfl) rfl ?_ ?_
  rotate_left
  ·go_simp
   rfl
  refine hK.out _ _ ?_
  refine done_ (by kernel_rfl) ?_
  clear hK K
  clear hs0_
  clear hf0_
  have h4 := IsS78.set_0 hHeld.st t3
  have hb4 := below_set hHeld.bel (IsS78.ge hHeld.st) (j := 0) (v := .int .i64 t3)
  have hk4 := KeepBut.set_ hHeld.keep 0 (.int .i64 t3)
  clear hHeld
  generalize W5_.setCell ⟨g, 0, none⟩ (.int .i64 t3) = W6 at h4 hb4 hk4 ⊢
  have hc0_ := IsS78.cell_0 h4
  go_wp2
  go_ret
  exact ⟨rfl, h4, hb4, hk4⟩
 ·subst c
  go_enter Tryd.func26, Tryd.ntmps26
  go_wp2_with (first | ((with_reducible refine gate_dst (N := 14) rfl ?_); refine goesL_ (some 14) rfl rfl Tryd.func23 (by kernel_rfl) rfl #[.int .i64 a2, .int .i64 0, .int .i64 1125899906842624] rfl (by (try simp only [List.map_toArray, List.map_cons, List.map_nil]); first | done | rfl) ?_; (with_reducible refine (sat_Clamp.calls a2 0 1125899906842624 t _ At).mono ?_); rintro e w' ⟨rfl, ⟨nd, rfl⟩⟩; refine ⟨_, rfl, ?_⟩; have hI1 := IsS78.drewN hI nd; have hB1 := pw_below_drewN hB nd; have hK1 := keep_drewN (KeepBut.refl w g none) nd; generalize World.drewN w nd = W1 at hI1 hB1 hK1 ⊢; have hc0_ : W1.cell? ⟨g, 0, none⟩ = some (.int .i64 s0_0) := IsS78.cell_0 hI1; have hf0_ := IsS78.froz_0 hI1; have hc1_ : W1.cell? ⟨g, 1, none⟩ = some (.int .i64 s0_1) := IsS78.cell_1 hI1; have hf1_ := IsS78.froz_1 hI1; have hc2_ : W1.cell? ⟨g, 2, none⟩ = some (.int .i64 s0_2) := IsS78.cell_2 hI1; have hf2_ := IsS78.froz_2 hI1; have hc3_ : W1.cell? ⟨g, 3, none⟩ = some (.bool true) := IsS78.cell_3 hI1; have hf3_ := IsS78.froz_3 hI1; have hc4_ : W1.cell? ⟨g, 4, none⟩ = some (.int .i64 s0_4) := IsS78.cell_4 hI1; have hf4_ := IsS78.froz_4 hI1) | ((with_reducible refine gate_dst (N := 40) rfl ?_); refine goesL_ (some 40) rfl rfl Tryd.func23 (by kernel_rfl) rfl #[.int .i64 a1, .int .i64 0, .int .i64 256] rfl (by (try simp only [List.map_toArray, List.map_cons, List.map_nil]); first | done | rfl) ?_; (with_reducible refine (sat_Clamp.calls a1 0 256 n _ An).mono ?_); rintro e w' ⟨rfl, ⟨nd, rfl⟩⟩; refine ⟨_, rfl, ?_⟩; have hI2 := IsS78.drewN (IsS78.set_4 (IsS78.set_3 hI1 true) t) nd; have hB2 := pw_below_drewN (below_set (below_set hB1 (IsS78.ge hI1) (j := 3) (v := .bool true)) (IsS78.ge hI1) (j := 4) (v := .int .i64 t)) nd; have hK2 := keep_drewN (KeepBut.set_ (KeepBut.set_ hK1 3 (.bool true)) 4 (.int .i64 t)) nd; clear hI1 hB1 hK1; clear hc0_ hf0_ hc1_ hf1_ hc2_ hf2_ hc3_ hf3_ hc4_ hf4_; generalize World.drewN ((W1.setCell ⟨g, 3, none⟩ (.bool true)).setCell ⟨g, 4, none⟩ (.int .i64 t)) nd = W2 at hI2 hB2 hK2 ⊢; have hc0_ : W2.cell? ⟨g, 0, none⟩ = some (.int .i64 s0_0) := IsS78.cell_0 hI2; have hf0_ := IsS78.froz_0 hI2; have hc1_ : W2.cell? ⟨g, 1, none⟩ = some (.int .i64 s0_1) := IsS78.cell_1 hI2; have hf1_ := IsS78.froz_1 hI2; have hc2_ : W2.cell? ⟨g, 2, none⟩ = some (.int .i64 s0_2) := IsS78.cell_2 hI2; have hf2_ := IsS78.froz_2 hI2; have hc3_ : W2.cell? ⟨g, 3, none⟩ = some (.bool true) := IsS78.cell_3 hI2; have hf3_ := IsS78.froz_3 hI2; have hc4_ : W2.cell? ⟨g, 4, none⟩ = some (.int .i64 t) := IsS78.cell_4 hI2; have hf4_ := IsS78.froz_4 hI2; have hG2 := hG.below hB2; obtain ⟨q0, q1, q2, q3, q4, q5, q6, q7, q8, q9, q10, q11, q12, q13, q14⟩ := hG2))
  refine wp_loop_rounds 4 ?_
  rw [rounds_succ]
  go_wp2
  rw [rounds_succ]
  go_wp2
  refine namedG_ ?_
  intro W3 hW3
  have h1 : LH w0 w W3 g (W2.alloc (.cells #[.int .i64 5, .int .i64 105, .int .i64 100, .int .i64 1000, .int .i64 0] 106)).heap.size s0_0 s0_1 s0_2 true t 26 1 1 0 0 := by rw [hW3]; exact ⟨IsS78.alloc (IsS78.alloc (hI2) _) _, below_alloc (below_alloc (hB2) _) _, keep_alloc (keep_alloc (hK2) _) _, blk_new _ _⟩
  (try simp only [sizeG_] at h1 ⊢)
  clear hW3 hI2 hB2 hK2
  generalize W2.heap.size + 1 = b at h1 ⊢
  refine start_ (n := 22) (S := fun w' => LH w0 w w' g b s0_0 s0_1 s0_2 true t 26 1 1 0 0) (ds := [21]) #[false, false, false, false, false, false, false, false, false, false, false, false, false, false, false, false, false, false, false, false, false, false] (by kernel_rfl) rfl rfl h1.drew (fun hHeld => ?_)
  clear h1
  generalize W3.drew = W3 at hHeld ⊢
  refine pure_ (i := 0) (N := some 52) (v := ?_) (a' := ?_) #[true, false, false, false, false, false, false, false, false, false, false, false, false, false, false, false, false, false, false, false, false, false] rfl rfl (by kernel_rfl) (fun _ _ _ h => h) (Or.inl ⟨by rfl, ?_⟩) ?_ ?_
  rotate_left
  ·intro w'
   go_simp
   with_reducible rfl
  rotate_left
  ·simp only [Act.put, List.setIfInBounds_toArray, List.set_cons_zero, List.set_cons_succ, i64_w, i32_w]
   rfl
  refine pure_ (i := 1) (N := some 53) (v := ?_) (a' := ?_) #[true, true, false, false, false, false, false, false, false, false, false, false, false, false, false, false, false, false, false, false, false, false] rfl rfl (by kernel_rfl) (fun _ _ _ h => h) (Or.inl ⟨by rfl, ?_⟩) ?_ ?_
  rotate_left
  ·intro w'
   go_simp
   with_reducible rfl
  rotate_left
  ·simp only [Act.put, List.setIfInBounds_toArray, List.set_cons_zero, List.set_cons_succ, i64_w, i32_w]
   rfl
  refine pure_ (i := 2) (N := some 54) (v := ?_) (a' := ?_) #[true, true, true, false, false, false, false, false, false, false, false, false, false, false, false, false, false, false, false, false, false, false] rfl rfl (by kernel_rfl) (fun _ _ _ h => h) (Or.inl ⟨by rfl, ?_⟩) ?_ ?_
  rotate_left
  ·intro w'
   go_simp
   with_reducible rfl
  rotate_left
  ·simp only [Act.put, List.setIfInBounds_toArray, List.set_cons_zero, List.set_cons_succ, i64_w, i32_w]
   rfl
  refine pure_ (i := 3) (N := some 55) (v := ?_) (a' := ?_) #[true, true, true, true, false, false, false, false, false, false, false, false, false, false, false, false, false, false, false, false, false, false] rfl rfl (by kernel_rfl) (fun _ _ _ h => h) (Or.inl ⟨by rfl, ?_⟩) ?_ ?_
  rotate_left
  ·intro w'
   go_simp
   with_reducible rfl
  rotate_left
  ·simp only [Act.put, List.setIfInBounds_toArray, List.set_cons_zero, List.set_cons_succ, i64_w, i32_w]
   rfl
  refine take_ (i := 4) (N := some 56) (v := ?_) (a' := ?_) #[true, true, true, true, true, false, false, false, false, false, false, false, false, false, false, false, false, false, false, false, false, false] rfl rfl (by kernel_rfl) (fun _ _ _ h => h) (Or.inl ⟨by rfl, ?_⟩) hHeld ?_ ?_
  rotate_left
  ·intro w' hw'
   have cb0_ : w'.cell? ⟨g, 0, none⟩ = some (.int .i64 s0_0) := IsS78.cell_0 hw'.st
   go_simp
   with_reducible rfl
  rotate_left
  ·simp only [Act.put, List.setIfInBounds_toArray, List.set_cons_zero, List.set_cons_succ, i64_w, i32_w]
   rfl
  refine pure_ (i := 5) (N := some 57) (v := ?_) (a' := ?_) #[true, true, true, true, true, true, false, false, false, false, false, false, false, false, false, false, false, false, false, false, false, false] rfl rfl (by kernel_rfl) (fun _ _ _ h => h) (Or.inl ⟨by rfl, ?_⟩) ?_ ?_
  rotate_left
  ·intro w'
   go_simp
   with_reducible rfl
  rotate_left
  ·simp only [Act.put, List.setIfInBounds_toArray, List.set_cons_zero, List.set_cons_succ, i64_w, i32_w]
   rfl
  refine take_ (i := 6) (N := some 58) (v := ?_) (a' := ?_) #[true, true, true, true, true, true, true, false, false, false, false, false, false, false, false, false, false, false, false, false, false, false] rfl rfl (by kernel_rfl) (fun _ _ _ h => h) (Or.inl ⟨by rfl, ?_⟩) hHeld ?_ ?_
  rotate_left
  ·intro w' hw'
   have cb0_ : w'.cell? ⟨b, 1, none⟩ = some (.int .i64 1) := (blk_cell hw'.row 1).trans rfl
   go_simp
   with_reducible rfl
  rotate_left
  ·simp only [Act.put, List.setIfInBounds_toArray, List.set_cons_zero, List.set_cons_succ, i64_w, i32_w]
   rfl
  refine pure_ (i := 7) (N := some 59) (v := ?_) (a' := ?_) #[true, true, true, true, true, true, true, true, false, false, false, false, false, false, false, false, false, false, false, false, false, false] rfl rfl (by kernel_rfl) (fun _ _ _ h => h) (Or.inl ⟨by rfl, ?_⟩) ?_ ?_
  rotate_left
  ·intro w'
   go_simp
   with_reducible rfl
  rotate_left
  ·simp only [Act.put, List.setIfInBounds_toArray, List.set_cons_zero, List.set_cons_succ, i64_w, i32_w]
   rfl
  refine take_ (i := 8) (N := some 60) (v := ?_) (a' := ?_) #[true, true, true, true, true, true, true, true, true, false, false, false, false, false, false, false, false, false, false, false, false, false] rfl rfl (by kernel_rfl) (fun _ _ _ h => h) (Or.inl ⟨by rfl, ?_⟩) hHeld ?_ ?_
  rotate_left
  ·intro w' hw'
   have cb0_ : w'.cell? ⟨b, 4, none⟩ = some (.int .i64 0) := (blk_cell hw'.row 4).trans rfl
   go_simp
   with_reducible rfl
  rotate_left
  ·simp only [Act.put, List.setIfInBounds_toArray, List.set_cons_zero, List.set_cons_succ, i64_w, i32_w]
   rfl
  refine pure_ (i := 9) (N := some 61) (v := ?_) (a' := ?_) #[true, true, true, true, true, true, true, true, true, true, false, false, false, false, false, false, false, false, false, false, false, false] rfl rfl (by kernel_rfl) (fun _ _ _ h => h) (Or.inl ⟨by rfl, ?_⟩) ?_ ?_
  rotate_left
  ·intro w'
   go_simp
   with_reducible rfl
  rotate_left
  ·simp only [Act.put, List.setIfInBounds_toArray, List.set_cons_zero, List.set_cons_succ, i64_w, i32_w]
   rfl
  refine pure_ (i := 10) (N := some 62) (v := ?_) (a' := ?_) #[true, true, true, true, true, true, true, true, true, true, true, false, false, false, false, false, false, false, false, false, false, false] rfl rfl (by kernel_rfl) (fun _ _ _ h => h) (Or.inl ⟨by rfl, ?_⟩) ?_ ?_
  rotate_left
  ·intro w'
   go_simp
   with_reducible rfl
  rotate_left
  ·simp only [Act.put, List.setIfInBounds_toArray, List.set_cons_zero, List.set_cons_succ, i64_w, i32_w]
   rfl
  refine pure_ (i := 11) (N := some 63) (v := ?_) (a' := ?_) #[true, true, true, true, true, true, true, true, true, true, true, true, false, false, false, false, false, false, false, false, false, false] rfl rfl (by kernel_rfl) (fun _ _ _ h => h) (Or.inl ⟨by rfl, ?_⟩) ?_ ?_
  rotate_left
  ·intro w'
   go_simp
   with_reducible rfl
  rotate_left
  ·simp only [Act.put, List.setIfInBounds_toArray, List.set_cons_zero, List.set_cons_succ, i64_w, i32_w]
   rfl
  refine pure_ (i := 12) (N := some 64) (v := ?_) (a' := ?_) #[true, true, true, true, true, true, true, true, true, true, true, true, true, false, false, false, false, false, false, false, false, false] rfl rfl (by kernel_rfl) (fun _ _ _ h => h) (Or.inl ⟨by rfl, ?_⟩) ?_ ?_
  rotate_left
  ·intro w'
   go_simp
   with_reducible rfl
  rotate_left
  ·simp only [Act.put, List.setIfInBounds_toArray, List.set_cons_zero, List.set_cons_succ, i64_w, i32_w]
   rfl
  refine take_ (i := 13) (N := some 65) (v := ?_) (a' := ?_) #[true, true, true, true, true, true, true, true, true, true, true, true, true, true, false, false, false, false, false, false, false, false] rfl rfl (by kernel_rfl) (fun _ _ _ h => h) (Or.inl ⟨by rfl, ?_⟩) hHeld ?_ ?_
  rotate_left
  ·intro w' hw'
   have cb0_ : w'.cell? ⟨b, 2, none⟩ = some (.int .i64 1) := (blk_cell hw'.row 2).trans rfl
   go_simp
   with_reducible rfl
  rotate_left
  ·simp only [Act.put, List.setIfInBounds_toArray, List.set_cons_zero, List.set_cons_succ, i64_w, i32_w]
   rfl
  refine pure_ (i := 14) (N := some 66) (v := ?_) (a' := ?_) #[true, true, true, true, true, true, true, true, true, true, true, true, true, true, true, false, false, false, false, false, false, false] rfl rfl (by kernel_rfl) (fun _ _ _ h => h) (Or.inl ⟨by rfl, ?_⟩) ?_ ?_
  rotate_left
  ·intro w'
   go_simp
   with_reducible rfl
  rotate_left
  ·simp only [Act.put, List.setIfInBounds_toArray, List.set_cons_zero, List.set_cons_succ, i64_w, i32_w]
   rfl
  refine pure_ (i := 16) (N := some 68) (v := ?_) (a' := ?_) #[true, true, true, true, true, true, true, true, true, true, true, true, true, true, true, false, true, false, false, false, false, false] rfl rfl (by kernel_rfl) (fun _ _ _ h => h) (Or.inl ⟨by rfl, ?_⟩) ?_ ?_
  rotate_left
  ·intro w'
   go_simp
   with_reducible rfl
  rotate_left
  ·simp only [Act.put, List.setIfInBounds_toArray, List.set_cons_zero, List.set_cons_succ, i64_w, i32_w]
   rfl
  refine take_ (i := 17) (N := some 69) (v := ?_) (a' := ?_) #[true, true, true, true, true, true, true, true, true, true, true, true, true, true, true, false, true, true, false, false, false, false] rfl rfl (by kernel_rfl) (fun _ _ _ h => h) (Or.inl ⟨by rfl, ?_⟩) hHeld ?_ ?_
  rotate_left
  ·intro w' hw'
   have cb0_ : w'.cell? ⟨b, 3, none⟩ = some (.int .i64 0) := (blk_cell hw'.row 3).trans rfl
   go_simp
   with_reducible rfl
  rotate_left
  ·simp only [Act.put, List.setIfInBounds_toArray, List.set_cons_zero, List.set_cons_succ, i64_w, i32_w]
   rfl
  refine one_ (i := 15) (N := some 67) #[true, true, true, true, true, true, true, true, true, true, true, true, true, true, true, true, true, true, false, false, false, false] rfl rfl (by kernel_rfl) (by decide) (fun K hK => ?_)
  refine goes_ Tryd.func44 (by kernel_rfl) rfl #[.int .i64 s0_0, .int .i64 (wrap64 (1 - wrap64 0)), .int .i64 1, .int .i64 1] (by rfl) rfl rfl (by simp only [List.map_toArray, List.map_cons, List.map_nil]; rfl) ?_
  refine (muldiv_Do.calls s0_0 _ 1 1 q _ Aq).mono ?_
  rintro e w' ⟨rfl, hb⟩
  refine ⟨_, rfl, ?_⟩
  have hN_ := hHeld.below hb
  refine hK.out _ _ hN_ (fun hHeld => ?_)
  clear hK K hN_ hb
  refine norm_ (a' := ?_) ?_ ?_
  rotate_left
  ·show Act.put _ (some 67) _ = _
   simp only [Act.put, List.setIfInBounds_toArray, List.set_cons_zero, List.set_cons_succ, i64_w, i32_w]
   rfl
  refine pure_ (i := 18) (N := some 70) (v := ?_) (a' := ?_) #[true, true, true, true, true, true, true, true, true, true, true, true, true, true, true, true, true, true, true, false, false, false] rfl rfl (by kernel_rfl) (fun _ _ _ h => h) (Or.inl ⟨by rfl, ?_⟩) ?_ ?_
  rotate_left
  ·intro w'
   go_simp
   with_reducible rfl
  rotate_left
  ·simp only [Act.put, List.setIfInBounds_toArray, List.set_cons_zero, List.set_cons_succ, i64_w, i32_w]
   rfl
  refine pure_ (i := 19) (N := some 71) (v := ?_) (a' := ?_) #[true, true, true, true, true, true, true, true, true, true, true, true, true, true, true, true, true, true, true, true, false, false] rfl rfl (by kernel_rfl) (fun _ _ _ h => h) (Or.inl ⟨by rfl, ?_⟩) ?_ ?_
  rotate_left
  ·intro w'
   go_simp
   with_reducible rfl
  rotate_left
  ·simp only [Act.put, List.setIfInBounds_toArray, List.set_cons_zero, List.set_cons_succ, i64_w, i32_w]
   rfl
  refine pure_ (i := 20) (N := some 72) (v := ?_) (a' := ?_) #[true, true, true, true, true, true, true, true, true, true, true, true, true, true, true, true, true, true, true, true, true, false] rfl rfl (by kernel_rfl) (fun _ _ _ h => h) (Or.inl ⟨by rfl, ?_⟩) ?_ ?_
  rotate_left
  ·intro w'
   go_simp
   with_reducible rfl
  rotate_left
  ·simp only [Act.put, List.setIfInBounds_toArray, List.set_cons_zero, List.set_cons_succ, i64_w, i32_w]
   rfl
  refine last_ (i := 21) (N := none) #[true, true, true, true, true, true, true, true, true, true, true, true, true, true, true, true, true, true, true, true, true, true] rfl rfl (by kernel_rfl) (by decide) (fun K hK => ?_)
  have hs0_ : w'.cell? ⟨g, 0, none⟩ = some (.int .i64 s0_0) := IsS78.cell_0 hHeld.st
  have hf0_ := IsS78.froz_0 hHeld.st
  refine skip_ (w1 := ?_) (by rfl) rfl ?_ ?_
  rotate_left
  ·go_simp
   rfl
  refine hK.out _ _ ?_
  refine done_ (by kernel_rfl) ?_
  clear hK K
  clear hs0_
  clear hf0_
  have h2 : IsS78 w0 (w'.setCell ⟨g, 0, none⟩ (.int .i64 (wrap64 q))) g (wrap64 q) s0_1 s0_2 true t := IsS78.set_0 hHeld.st _
  have hb2 := below_set hHeld.bel (IsS78.ge hHeld.st) (j := 0) (v := .int .i64 (wrap64 q))
  have hk2 := KeepBut.set_ hHeld.keep 0 (.int .i64 (wrap64 q))
  clear hHeld
  generalize w'.setCell ⟨g, 0, none⟩ (.int .i64 (wrap64 q)) = W5 at h2 hb2 hk2 ⊢
  try go_wp2
  have h3 : LK w0 w W5 g (wrap64 q) s0_1 s0_2 true t := ⟨h2, hb2, hk2⟩
  clear h2 hb2 hk2
  refine start_ (n := 17) (S := fun w' => LK w0 w w' g (wrap64 q) s0_1 s0_2 true t) (ds := [16]) #[false, false, false, false, false, false, false, false, false, false, false, false, false, false, false, false, false] (by kernel_rfl) rfl rfl h3.drew (fun hHeld => ?_)
  clear h3
  generalize W5.drew = W5 at hHeld ⊢
  refine pure_ (i := 0) (N := some 74) (v := ?_) (a' := ?_) #[true, false, false, false, false, false, false, false, false, false, false, false, false, false, false, false, false] rfl rfl (by kernel_rfl) (fun _ _ _ h => h) (Or.inl ⟨by rfl, ?_⟩) ?_ ?_
  rotate_left
  ·intro w'
   go_simp
   with_reducible rfl
  rotate_left
  ·simp only [Act.put, List.setIfInBounds_toArray, List.set_cons_zero, List.set_cons_succ, i64_w, i32_w]
   rfl
  refine pure_ (i := 1) (N := some 75) (v := ?_) (a' := ?_) #[true, true, false, false, false, false, false, false, false, false, false, false, false, false, false, false, false] rfl rfl (by kernel_rfl) (fun _ _ _ h => h) (Or.inl ⟨by rfl, ?_⟩) ?_ ?_
  rotate_left
  ·intro w'
   go_simp
   with_reducible rfl
  rotate_left
  ·simp only [Act.put, List.setIfInBounds_toArray, List.set_cons_zero, List.set_cons_succ, i64_w, i32_w]
   rfl
  refine pure_ (i := 2) (N := some 76) (v := ?_) (a' := ?_) #[true, true, true, false, false, false, false, false, false, false, false, false, false, false, false, false, false] rfl rfl (by kernel_rfl) (fun _ _ _ h => h) (Or.inl ⟨by rfl, ?_⟩) ?_ ?_
  rotate_left
  ·intro w'
   go_simp
   with_reducible rfl
  rotate_left
  ·simp only [Act.put, List.setIfInBounds_toArray, List.set_cons_zero, List.set_cons_succ, i64_w, i32_w]
   rfl
  refine pure_ (i := 3) (N := some 77) (v := ?_) (a' := ?_) #[true, true, true, true, false, false, false, false, false, false, false, false, false, false, false, false, false] rfl rfl (by kernel_rfl) (fun _ _ _ h => h) (Or.inl ⟨by rfl, ?_⟩) ?_ ?_
  rotate_left
  ·intro w'
   go_simp
   with_reducible rfl
  rotate_left
  ·simp only [Act.put, List.setIfInBounds_toArray, List.set_cons_zero, List.set_cons_succ, i64_w, i32_w]
   rfl
  refine take_ (i := 4) (N := some 78) (v := ?_) (a' := ?_) #[true, true, true, true, true, false, false, false, false, false, false, false, false, false, false, false, false] rfl rfl (by kernel_rfl) (fun _ _ _ h => h) (Or.inl ⟨by rfl, ?_⟩) hHeld ?_ ?_
  rotate_left
  ·intro w' hw'
   have cb0_ : w'.cell? ⟨g, 0, none⟩ = some (.int .i64 (wrap64 q)) := IsS78.cell_0 hw'.st
   go_simp
   with_reducible rfl
  rotate_left
  ·simp only [Act.put, List.setIfInBounds_toArray, List.set_cons_zero, List.set_cons_succ, i64_w, i32_w]
   rfl
  refine pure_ (i := 5) (N := some 79) (v := ?_) (a' := ?_) #[true, true, true, true, true, true, false, false, false, false, false, false, false, false, false, false, false] rfl rfl (by kernel_rfl) (fun _ _ _ h => h) (Or.inl ⟨by rfl, ?_⟩) ?_ ?_
  rotate_left
  ·intro w'
   go_simp
   with_reducible rfl
  rotate_left
  ·simp only [Act.put, List.setIfInBounds_toArray, List.set_cons_zero, List.set_cons_succ, i64_w, i32_w]
   rfl
  refine pure_ (i := 6) (N := some 80) (v := ?_) (a' := ?_) #[true, true, true, true, true, true, true, false, false, false, false, false, false, false, false, false, false] rfl rfl (by kernel_rfl) (fun _ _ _ h => h) (Or.inl ⟨by rfl, ?_⟩) ?_ ?_
  rotate_left
  ·intro w'
   go_simp
   with_reducible rfl
  rotate_left
  ·simp only [Act.put, List.setIfInBounds_toArray, List.set_cons_zero, List.set_cons_succ, i64_w, i32_w]
   rfl
  refine pure_ (i := 7) (N := some 81) (v := ?_) (a' := ?_) #[true, true, true, true, true, true, true, true, false, false, false, false, false, false, false, false, false] rfl rfl (by kernel_rfl) (fun _ _ _ h => h) (Or.inl ⟨by rfl, ?_⟩) ?_ ?_
  rotate_left
  ·intro w'
   go_simp
   with_reducible rfl
  rotate_left
  ·simp only [Act.put, List.setIfInBounds_toArray, List.set_cons_zero, List.set_cons_succ, i64_w, i32_w]
   rfl
  refine take_ (i := 8) (N := some 82) (v := ?_) (a' := ?_) #[true, true, true, true, true, true, true, true, true, false, false, false, false, false, false, false, false] rfl rfl (by kernel_rfl) (fun _ _ _ h => h) (Or.inl ⟨by rfl, ?_⟩) hHeld ?_ ?_
  rotate_left
  ·intro w' hw'
   have cb0_ : w'.cell? ⟨g, 1, none⟩ = some (.int .i64 s0_1) := IsS78.cell_1 hw'.st
   go_simp
   with_reducible rfl
  rotate_left
  ·simp only [Act.put, List.setIfInBounds_toArray, List.set_cons_zero, List.set_cons_succ, i64_w, i32_w]
   rfl
  refine pure_ (i := 9) (N := some 83) (v := ?_) (a' := ?_) #[true, true, true, true, true, true, true, true, true, true, false, false, false, false, false, false, false] rfl rfl (by kernel_rfl) (fun _ _ _ h => h) (Or.inl ⟨by rfl, ?_⟩) ?_ ?_
  rotate_left
  ·intro w'
   go_simp
   with_reducible rfl
  rotate_left
  ·simp only [Act.put, List.setIfInBounds_toArray, List.set_cons_zero, List.set_cons_succ, i64_w, i32_w]
   rfl
  refine pure_ (i := 10) (N := some 84) (v := ?_) (a' := ?_) #[true, true, true, true, true, true, true, true, true, true, true, false, false, false, false, false, false] rfl rfl (by kernel_rfl) (fun _ _ _ h => h) (Or.inl ⟨by rfl, ?_⟩) ?_ ?_
  rotate_left
  ·intro w'
   go_simp
   with_reducible rfl
  rotate_left
  ·simp only [Act.put, List.setIfInBounds_toArray, List.set_cons_zero, List.set_cons_succ, i64_w, i32_w]
   rfl
  refine pure_ (i := 11) (N := some 85) (v := ?_) (a' := ?_) #[true, true, true, true, true, true, true, true, true, true, true, true, false, false, false, false, false] rfl rfl (by kernel_rfl) (fun _ _ _ h => h) (Or.inl ⟨by rfl, ?_⟩) ?_ ?_
  rotate_left
  ·intro w'
   go_simp
   with_reducible rfl
  rotate_left
  ·simp only [Act.put, List.setIfInBounds_toArray, List.set_cons_zero, List.set_cons_succ, i64_w, i32_w]
   rfl
  refine take_ (i := 12) (N := some 86) (v := ?_) (a' := ?_) #[true, true, true, true, true, true, true, true, true, true, true, true, true, false, false, false, false] rfl rfl (by kernel_rfl) (fun _ _ _ h => h) (Or.inl ⟨by rfl, ?_⟩) hHeld ?_ ?_
  rotate_left
  ·intro w' hw'
   have cb0_ : w'.cell? ⟨g, 2, none⟩ = some (.int .i64 s0_2) := IsS78.cell_2 hw'.st
   go_simp
   with_reducible rfl
  rotate_left
  ·simp only [Act.put, List.setIfInBounds_toArray, List.set_cons_zero, List.set_cons_succ, i64_w, i32_w]
   rfl
  refine one_ (i := 13) (N := some 87) #[true, true, true, true, true, true, true, true, true, true, true, true, true, true, false, false, false] rfl rfl (by kernel_rfl) (by decide) (fun K hK => ?_)
  refine goes_ Tryd.func23 (by kernel_rfl) rfl #[.int .i64 (wrap64 q), .int .i64 s0_1, .int .i64 s0_2] (by rfl) rfl rfl (by simp only [List.map_toArray, List.map_cons, List.map_nil]; rfl) ?_
  with_reducible refine (sat_Clamp.calls (wrap64 q) s0_1 s0_2 t3 _ A3).mono ?_
  rintro e w' ⟨rfl, ⟨nd, rfl⟩⟩
  refine ⟨_, rfl, ?_⟩
  have hN_ := hHeld.drewN nd
  refine hK.out _ _ hN_ (fun hHeld => ?_)
  clear hK K hN_
  generalize W5.drewN nd = W5_ at hHeld ⊢
  refine norm_ (a' := ?_) ?_ ?_
  rotate_left
  ·show Act.put _ (some 87) _ = _
   simp only [Act.put, List.setIfInBounds_toArray, List.set_cons_zero, List.set_cons_succ, i64_w, i32_w]
   rfl
  refine pure_ (i := 14) (N := some 88) (v := ?_) (a' := ?_) #[true, true, true, true, true, true, true, true, true, true, true, true, true, true, true, false, false] rfl rfl (by kernel_rfl) (fun _ _ _ h => h) (Or.inl ⟨by rfl, ?_⟩) ?_ ?_
  rotate_left
  ·intro w'
   go_simp
   with_reducible rfl
  rotate_left
  ·simp only [Act.put, List.setIfInBounds_toArray, List.set_cons_zero, List.set_cons_succ, i64_w, i32_w]
   rfl
  refine pure_ (i := 15) (N := some 89) (v := ?_) (a' := ?_) #[true, true, true, true, true, true, true, true, true, true, true, true, true, true, true, true, false] rfl rfl (by kernel_rfl) (fun _ _ _ h => h) (Or.inl ⟨by rfl, ?_⟩) ?_ ?_
  rotate_left
  ·intro w'
   go_simp
   with_reducible rfl
  rotate_left
  ·simp only [Act.put, List.setIfInBounds_toArray, List.set_cons_zero, List.set_cons_succ, i64_w, i32_w]
   rfl
  refine last_ (i := 16) (N := none) #[true, true, true, true, true, true, true, true, true, true, true, true, true, true, true, true, true] rfl rfl (by kernel_rfl) (by decide) (fun K hK => ?_)
  have hs0_ : W5_.cell? ⟨g, 0, none⟩ = some (.int .i64 (wrap64 q)) := IsS78.cell_0 hHeld.st
  have hf0_ := IsS78.froz_0 hHeld.st
  refine skip_ (w1 := ?_) (by rfl) rfl ?_ ?_
  rotate_left
  ·go_simp
   rfl
  refine hK.out _ _ ?_
  refine done_ (by kernel_rfl) ?_
  clear hK K
  clear hs0_
  clear hf0_
  have h4 := IsS78.set_0 hHeld.st t3
  have hb4 := below_set hHeld.bel (IsS78.ge hHeld.st) (j := 0) (v := .int .i64 t3)
  have hk4 := KeepBut.set_ hHeld.keep 0 (.int .i64 t3)
  clear hHeld
  generalize W5_.setCell ⟨g, 0, none⟩ (.int .i64 t3) = W6 at h4 hb4 hk4 ⊢
  have hc0_ := IsS78.cell_0 h4
  go_wp2
  go_ret
  exact ⟨rfl, h4, hb4, hk4⟩
set_option maxHeartbeats 8000000 in
set_option maxRecDepth 100000 in
theorem lossy_upd2 (g : Nat) (s0_0 s0_1 s0_2 : Int) (s0_3 : Bool) (s0_4 a1 a2 n t : Int) (w0 w : World) (hI : IsS78 w0 w g s0_0 s0_1 s0_2 s0_3 s0_4) (hB : Below w0.heap.size w0 w) (hG : GL w0) (q : Int) (Aq : muldiv_Do.f s0_0 (wrap64 (512 - wrap64 n)) 512 1 = some q) (t3 : Int) (A3 : sat_Clamp.f (wrap64 q) s0_1 s0_2 = some t3) (At : sat_Clamp.f a2 0 1125899906842624 = some t) (An : sat_Clamp.f a1 0 256 = some n) (cn : ¬ n ≤ 5) (cn2 : ¬ n ≤ 26) (hn : n ≤ 256) (c : s0_3 = false ∨ s0_3 = true ∧ decide (wrap64 (t - s0_4) < 200000) = false) :
  Calls Tryd.prog 26 #[.pointer (some ⟨g, 0, none⟩), .int .i64 a1, .int .i64 a2] w fun e w' => e = .returned (.int .i64 t3) ∧ IsS78 w0 w' g t3 s0_1 s0_2 true t ∧ Below w0.heap.size w0 w' ∧ KeepBut w w' g none := by
 have hpn : ∀ (a_ : Addr) (W_ : World), (Go.binOp .eql 51 (.pointer (some a_)) (.pointer none)).run Tryd.prog W_ = .ok (.bool false) W_ := fun _ _ => by kernel_rfl
 have hix0 : ∀ W_ : World, (Instr.index 107 (.agg #[.int .i64 5, .int .i64 105, .int .i64 100, .int .i64 1000, .int .i64 0, .int .i64 26, .int .i64 1, .int .i64 1, .int .i64 0, .int .i64 0, .int .i64 256, .int .i64 512, .int .i64 512, .int .i64 0, .int .i64 1]) (.int .i64 0)).run Tryd.prog W_ = .ok (.agg #[.int .i64 5, .int .i64 105, .int .i64 100, .int .i64 1000, .int .i64 0]) W_ := fun _ => by kernel_rfl
 have hix1 : ∀ W_ : World, (Instr.index 107 (.agg #[.int .i64 5, .int .i64 105, .int .i64 100, .int .i64 1000, .int .i64 0, .int .i64 26, .int .i64 1, .int .i64 1, .int .i64 0, .int .i64 0, .int .i64 256, .int .i64 512, .int .i64 512, .int .i64 0, .int .i64 1]) (.int .i64 1)).run Tryd.prog W_ = .ok (.agg #[.int .i64 26, .int .i64 1, .int .i64 1, .int .i64 0, .int .i64 0]) W_ := fun _ => by kernel_rfl
 have hix2 : ∀ W_ : World, (Instr.index 107 (.agg #[.int .i64 5, .int .i64 105, .int .i64 100, .int .i64 1000, .int .i64 0, .int .i64 26, .int .i64 1, .int .i64 1, .int .i64 0, .int .i64 0, .int .i64 256, .int .i64 512, .int .i64 512, .int .i64 0, .int .i64 1]) (.int .i64 2)).run Tryd.prog W_ = .ok (.agg #[.int .i64 256, .int .i64 512, .int .i64 512, .int .i64 0, .int .i64 1]) W_ := fun _ => by kernel_rfl
 have cn0_ : decide (5 < n) = true := decide_eq_true (by omega)
 have cn1_ : decide (26 < n) = true := decide_eq_true (by omega)
 have cn2_ : decide (256 < n) = false := decide_eq_false (by omega)
 rcases c with c | ⟨c, hc⟩
 ·subst c
  go_enter Tryd.func26, Tryd.ntmps26
  go_wp2_with (first | ((with_reducible refine gate_dst (N := 14) rfl ?_); refine goesL_ (some 14) rfl rfl Tryd.func23 (by kernel_rfl) rfl #[.int .i64 a2, .int .i64 0, .int .i64 1125899906842624] rfl (by (try simp only [List.map_toArray, List.map_cons, List.map_nil]); first | done | rfl) ?_; (with_reducible refine (sat_Clamp.calls a2 0 1125899906842624 t _ At).mono ?_); rintro e w' ⟨rfl, ⟨nd, rfl⟩⟩; refine ⟨_, rfl, ?_⟩; have hI1 := IsS78.drewN hI nd; have hB1 := pw_below_drewN hB nd; have hK1 := keep_drewN (KeepBut.refl w g none) nd; generalize World.drewN w nd = W1 at hI1 hB1 hK1 ⊢; have hc0_ : W1.cell? ⟨g, 0, none⟩ = some (.int .i64 s0_0) := IsS78.cell_0 hI1; have hf0_ := IsS78.froz_0 hI1; have hc1_ : W1.cell? ⟨g, 1, none⟩ = some (.int .i64 s0_1) := IsS78.cell_1 hI1; have hf1_ := IsS78.froz_1 hI1; have hc2_ : W1.cell? ⟨g, 2, none⟩ = some (.int .i64 s0_2) := IsS78.cell_2 hI1; have hf2_ := IsS78.froz_2 hI1; have hc3_ : W1.cell? ⟨g, 3, none⟩ = some (.bool false) := IsS78.cell_3 hI1; have hf3_ := IsS78.froz_3 hI1; have hc4_ : W1.cell? ⟨g, 4, none⟩ = some (.int .i64 s0_4) := IsS78.cell_4 hI1; have hf4_ := IsS78.froz_4 hI1) | ((with_reducible refine gate_dst (N := 40) rfl ?_); refine goesL_ (some 40) rfl rfl Tryd.func23 (by kernel_rfl) rfl #[.int .i64 a1, .int .i64 0, .int .i64 256] rfl (by (try simp only [List.map_toArray, List.map_cons, List.map_nil]); first | done | rfl) ?_; (with_reducible refine (sat_Clamp.calls a1 0 256 n _ An).mono ?_); rintro e w' ⟨rfl, ⟨nd, rfl⟩⟩; refine ⟨_, rfl, ?_⟩; have hI2 := IsS78.drewN (IsS78.set_4 (IsS78.set_3 hI1 true) t) nd; have hB2 := pw_below_drewN (below_set (below_set hB1 (IsS78.ge hI1) (j := 3) (v := .bool true)) (IsS78.ge hI1) (j := 4) (v := .int .i64 t)) nd; have hK2 := keep_drewN (KeepBut.set_ (KeepBut.set_ hK1 3 (.bool true)) 4 (.int .i64 t)) nd; clear hI1 hB1 hK1; clear hc0_ hf0_ hc1_ hf1_ hc2_ hf2_ hc3_ hf3_ hc4_ hf4_; generalize World.drewN ((W1.setCell ⟨g, 3, none⟩ (.bool true)).setCell ⟨g, 4, none⟩ (.int .i64 t)) nd = W2 at hI2 hB2 hK2 ⊢; have hc0_ : W2.cell? ⟨g, 0, none⟩ = some (.int .i64 s0_0) := IsS78.cell_0 hI2; have hf0_ := IsS78.froz_0 hI2; have hc1_ : W2.cell? ⟨g, 1, none⟩ = some (.int .i64 s0_1) := IsS78.cell_1 hI2; have hf1_ := IsS78.froz_1 hI2; have hc2_ : W2.cell? ⟨g, 2, none⟩ = some (.int .i64 s0_2) := IsS78.cell_2 hI2; have hf2_ := IsS78.froz_2 hI2; have hc3_ : W2.cell? ⟨g, 3, none⟩ = some (.bool true) := IsS78.cell_3 hI2; have hf3_ := IsS78.froz_3 hI2; have hc4_ : W2.cell? ⟨g, 4, none⟩ = some (.int .i64 t) := IsS78.cell_4 hI2; have hf4_ := IsS78.froz_4 hI2; have hG2 := hG.below hB2; obtain ⟨q0, q1, q2, q3, q4, q5, q6, q7, q8, q9, q10, q11, q12, q13, q14⟩ := hG2))
  refine wp_loop_rounds 4 ?_
  rw [rounds_succ]
  go_wp2
  rw [rounds_succ]
  go_wp2
  rw [rounds_succ]
  go_wp2
  refine namedG_ ?_
  intro W3 hW3
  have h1 : LH w0 w W3 g ((W2.alloc (.cells #[.int .i64 5, .int .i64 105, .int .i64 100, .int .i64 1000, .int .i64 0] 106)).alloc (.cells #[.int .i64 26, .int .i64 1, .int .i64 1, .int .i64 0, .int .i64 0] 106)).heap.size s0_0 s0_1 s0_2 true t 256 512 512 0 1 := by rw [hW3]; exact ⟨IsS78.alloc (IsS78.alloc (IsS78.alloc (hI2) _) _) _, below_alloc (below_alloc (below_alloc (hB2) _) _) _, keep_alloc (keep_alloc (keep_alloc (hK2) _) _) _, blk_new _ _⟩
  (try simp only [sizeG_] at h1 ⊢)
  clear hW3 hI2 hB2 hK2
  generalize W2.heap.size + 1 + 1 = b at h1 ⊢
  refine start_ (n := 22) (S := fun w' => LH w0 w w' g b s0_0 s0_1 s0_2 true t 256 512 512 0 1) (ds := [21]) #[false, false, false, false, false, false, false, false, false, false, false, false, false, false, false, false, false, false, false, false, false, false] (by kernel_rfl) rfl rfl h1.drew (fun hHeld => ?_)
  clear h1
  generalize W3.drew = W3 at hHeld ⊢
  refine pure_ (i := 0) (N := some 52) (v := ?_) (a' := ?_) #[true, false, false, false, false, false, false, false, false, false, false, false, false, false, false, false, false, false, false, false, false, false] rfl rfl (by kernel_rfl) (fun _ _ _ h => h) (Or.inl ⟨by rfl, ?_⟩) ?_ ?_
  rotate_left
  ·intro w'
   go_simp
   with_reducible rfl
  rotate_left
  ·simp only [Act.put, List.setIfInBounds_toArray, List.set_cons_zero, List.set_cons_succ, i64_w, i32_w]
   rfl
  refine pure_ (i := 1) (N := some 53) (v := ?_) (a' := ?_) #[true, true, false, false, false, false, false, false, false, false, false, false, false, false, false, false, false, false, false, false, false, false] rfl rfl (by kernel_rfl) (fun _ _ _ h => h) (Or.inl ⟨by rfl, ?_⟩) ?_ ?_
  rotate_left
  ·intro w'
   go_simp
   with_reducible rfl
  rotate_left
  ·simp only [Act.put, List.setIfInBounds_toArray, List.set_cons_zero, List.set_cons_succ, i64_w, i32_w]
   rfl
  refine pure_ (i := 2) (N := some 54) (v := ?_) (a' := ?_) #[true, true, true, false, false, false, false, false, false, false, false, false, false, false, false, false, false, false, false, false, false, false] rfl rfl (by kernel_rfl) (fun _ _ _ h => h) (Or.inl ⟨by rfl, ?_⟩) ?_ ?_
  rotate_left
  ·intro w'
   go_simp
   with_reducible rfl
  rotate_left
  ·simp only [Act.put, List.setIfInBounds_toArray, List.set_cons_zero, List.set_cons_succ, i64_w, i32_w]
   rfl
  refine pure_ (i := 3) (N := some 55) (v := ?_) (a' := ?_) #[true, true, true, true, false, false, false, false, false, false, false, false, false, false, false, false, false, false, false, false, false, false] rfl rfl (by kernel_rfl) (fun _ _ _ h => h) (Or.inl ⟨by rfl, ?_⟩) ?_ ?_
  rotate_left
  ·intro w'
   go_simp
   with_reducible rfl
  rotate_left
  ·simp only [Act.put, List.setIfInBounds_toArray, List.set_cons_zero, List.set_cons_succ, i64_w, i32_w]
   rfl
  refine take_ (i := 4) (N := some 56) (v := ?_) (a' := ?_) #[true, true, true, true, true, false, false, false, false, false, false, false, false, false, false, false, false, false, false, false, false, false] rfl rfl (by kernel_rfl) (fun _ _ _ h => h) (Or.inl ⟨by rfl, ?_⟩) hHeld ?_ ?_
  rotate_left
  ·intro w' hw'
   have cb0_ : w'.cell? ⟨g, 0, none⟩ = some (.int .i64 s0_0) := IsS78.cell_0 hw'.st
   go_simp
   with_reducible rfl
  rotate_left
  ·simp only [Act.put, List.setIfInBounds_toArray, List.set_cons_zero, List.set_cons_succ, i64_w, i32_w]
   rfl
  refine pure_ (i := 5) (N := some 57) (v := ?_) (a' := ?_) #[true, true, true, true, true, true, false, false, false, false, false, false, false, false, false, false, false, false, false, false, false, false] rfl rfl (by kernel_rfl) (fun _ _ _ h => h) (Or.inl ⟨by rfl, ?_⟩) ?_ ?_
  rotate_left
  ·intro w'
   go_simp
   with_reducible rfl
  rotate_left
  ·simp only [Act.put, List.setIfInBounds_toArray, List.set_cons_zero, List.set_cons_succ, i64_w, i32_w]
   rfl
  refine take_ (i := 6) (N := some 58) (v := ?_) (a' := ?_) #[true, true, true, true, true, true, true, false, false, false, false, false, false, false, false, false, false, false, false, false, false, false] rfl rfl (by kernel_rfl) (fun _ _ _ h => h) (Or.inl ⟨by rfl, ?_⟩) hHeld ?_ ?_
  rotate_left
  ·intro w' hw'
   have cb0_ : w'.cell? ⟨b, 1, none⟩ = some (.int .i64 512) := (blk_cell hw'.row 1).trans rfl
   go_simp
   with_reducible rfl
  rotate_left
  ·simp only [Act.put, List.setIfInBounds_toArray, List.set_cons_zero, List.set_cons_succ, i64_w, i32_w]
   rfl
  refine pure_ (i := 7) (N := some 59) (v := ?_) (a' := ?_) #[true, true, true, true, true, true, true, true, false, false, false, false, false, false, false, false, false, false, false, false, false, false] rfl rfl (by kernel_rfl) (fun _ _ _ h => h) (Or.inl ⟨by rfl, ?_⟩) ?_ ?_
  rotate_left
  ·intro w'
   go_simp
   with_reducible rfl
  rotate_left
  ·simp only [Act.put, List.setIfInBounds_toArray, List.set_cons_zero, List.set_cons_succ, i64_w, i32_w]
   rfl
  refine take_ (i := 8) (N := some 60) (v := ?_) (a' := ?_) #[true, true, true, true, true, true, true, true, true, false, false, false, false, false, false, false, false, false, false, false, false, false] rfl rfl (by kernel_rfl) (fun _ _ _ h => h) (Or.inl ⟨by rfl, ?_⟩) hHeld ?_ ?_
  rotate_left
  ·intro w' hw'
   have cb0_ : w'.cell? ⟨b, 4, none⟩ = some (.int .i64 1) := (blk_cell hw'.row 4).trans rfl
   go_simp
   with_reducible rfl
  rotate_left
  ·simp only [Act.put, List.setIfInBounds_toArray, List.set_cons_zero, List.set_cons_succ, i64_w, i32_w]
   rfl
  refine pure_ (i := 9) (N := some 61) (v := ?_) (a' := ?_) #[true, true, true, true, true, true, true, true, true, true, false, false, false, false, false, false, false, false, false, false, false, false] rfl rfl (by kernel_rfl) (fun _ _ _ h => h) (Or.inl ⟨by rfl, ?_⟩) ?_ ?_
  rotate_left
  ·intro w'
   go_simp
   with_reducible rfl
  rotate_left
  ·simp only [Act.put, List.setIfInBounds_toArray, List.set_cons_zero, List.set_cons_succ, i64_w, i32_w]
   rfl
  refine pure_ (i := 10) (N := some 62) (v := ?_) (a' := ?_) #[true, true, true, true, true, true, true, true, true, true, true, false, false, false, false, false, false, false, false, false, false, false] rfl rfl (by kernel_rfl) (fun _ _ _ h => h) (Or.inl ⟨by rfl, ?_⟩) ?_ ?_
  rotate_left
  ·intro w'
   go_simp
   with_reducible rfl
  rotate_left
  ·simp only [Act.put, List.setIfInBounds_toArray, List.set_cons_zero, List.set_cons_succ, i64_w, i32_w]
   rfl
  refine pure_ (i := 11) (N := some 63) (v := ?_) (a' := ?_) #[true, true, true, true, true, true, true, true, true, true, true, true, false, false, false, false, false, false, false, false, false, false] rfl rfl (by kernel_rfl) (fun _ _ _ h => h) (Or.inl ⟨by rfl, ?_⟩) ?_ ?_
  rotate_left
  ·intro w'
   go_simp
   with_reducible rfl
  rotate_left
  ·simp only [Act.put, List.setIfInBounds_toArray, List.set_cons_zero, List.set_cons_succ, i64_w, i32_w]
   rfl
  refine pure_ (i := 12) (N := some 64) (v := ?_) (a' := ?_) #[true, true, true, true, true, true, true, true, true, true, true, true, true, false, false, false, false, false, false, false, false, false] rfl rfl (by kernel_rfl) (fun _ _ _ h => h) (Or.inl ⟨by rfl, ?_⟩) ?_ ?_
  rotate_left
  ·intro w'
   go_simp
   with_reducible rfl
  rotate_left
  ·simp only [Act.put, List.setIfInBounds_toArray, List.set_cons_zero, List.set_cons_succ, i64_w, i32_w]
   rfl
  refine take_ (i := 13) (N := some 65) (v := ?_) (a' := ?_) #[true, true, true, true, true, true, true, true, true, true, true, true, true, true, false, false, false, false, false, false, false, false] rfl rfl (by kernel_rfl) (fun _ _ _ h => h) (Or.inl ⟨by rfl, ?_⟩) hHeld ?_ ?_
  rotate_left
  ·intro w' hw'
   have cb0_ : w'.cell? ⟨b, 2, none⟩ = some (.int .i64 512) := (blk_cell hw'.row 2).trans rfl
   go_simp
   with_reducible rfl
  rotate_left
  ·simp only [Act.put, List.setIfInBounds_toArray, List.set_cons_zero, List.set_cons_succ, i64_w, i32_w]
   rfl
  refine pure_ (i := 14) (N := some 66) (v := ?_) (a' := ?_) #[true, true, true, true, true, true, true, true, true, true, true, true, true, true, true, false, false, false, false, false, false, false] rfl rfl (by kernel_rfl) (fun _ _ _ h => h) (Or.inl ⟨by rfl, ?_⟩) ?_ ?_
  rotate_left
  ·intro w'
   go_simp
   with_reducible rfl
  rotate_left
  ·simp only [Act.put, List.setIfInBounds_toArray, List.set_cons_zero, List.set_cons_succ, i64_w, i32_w]
   rfl
  refine pure_ (i := 16) (N := some 68) (v := ?_) (a' := ?_) #[true, true, true, true, true, true, true, true, true, true, true, true, true, true, true, false, true, false, false, false, false, false] rfl rfl (by kernel_rfl) (fun _ _ _ h => h) (Or.inl ⟨by rfl, ?_⟩) ?_ ?_
  rotate_left
  ·intro w'
   go_simp
   with_reducible rfl
  rotate_left
  ·simp only [Act.put, List.setIfInBounds_toArray, List.set_cons_zero, List.set_cons_succ, i64_w, i32_w]
   rfl
  refine take_ (i := 17) (N := some 69) (v := ?_) (a' := ?_) #[true, true, true, true, true, true, true, true, true, true, true, true, true, true, true, false, true, true, false, false, false, false] rfl rfl (by kernel_rfl) (fun _ _ _ h => h) (Or.inl ⟨by rfl, ?_⟩) hHeld ?_ ?_
  rotate_left
  ·intro w' hw'
   have cb0_ : w'.cell? ⟨b, 3, none⟩ = some (.int .i64 0) := (blk_cell hw'.row 3).trans rfl
   go_simp
   with_reducible rfl
  rotate_left
  ·simp only [Act.put, List.setIfInBounds_toArray, List.set_cons_zero, List.set_cons_succ, i64_w, i32_w]
   rfl
  refine one_ (i := 15) (N := some 67) #[true, true, true, true, true, true, true, true, true, true, true, true, true, true, true, true, true, true, false, false, false, false] rfl rfl (by kernel_rfl) (by decide) (fun K hK => ?_)
  refine goes_ Tryd.func44 (by kernel_rfl) rfl #[.int .i64 s0_0, .int .i64 (wrap64 (512 - wrap64 n)), .int .i64 512, .int .i64 1] (by rfl) rfl rfl (by simp only [List.map_toArray, List.map_cons, List.map_nil]; rfl) ?_
  refine (muldiv_Do.calls s0_0 _ 512 1 q _ Aq).mono ?_
  rintro e w' ⟨rfl, hb⟩
  refine ⟨_, rfl, ?_⟩
  have hN_ := hHeld.below hb
  refine hK.out _ _ hN_ (fun hHeld => ?_)
  clear hK K hN_ hb
  refine norm_ (a' := ?_) ?_ ?_
  rotate_left
  ·show Act.put _ (some 67) _ = _
   simp only [Act.put, List.setIfInBounds_toArray, List.set_cons_zero, List.set_cons_succ, i64_w, i32_w]
   rfl
  refine pure_ (i := 18) (N := some 70) (v := ?_) (a' := ?_) #[true, true, true, true, true, true, true, true, true, true, true, true, true, true, true, true, true, true, true, false, false, false] rfl rfl (by kernel_rfl) (fun _ _ _ h => h) (Or.inl ⟨by rfl, ?_⟩) ?_ ?_
  rotate_left
  ·intro w'
   go_simp
   with_reducible rfl
  rotate_left
  ·simp only [Act.put, List.setIfInBounds_toArray, List.set_cons_zero, List.set_cons_succ, i64_w, i32_w]
   rfl
  refine pure_ (i := 19) (N := some 71) (v := ?_) (a' := ?_) #[true, true, true, true, true, true, true, true, true, true, true, true, true, true, true, true, true, true, true, true, false, false] rfl rfl (by kernel_rfl) (fun _ _ _ h => h) (Or.inl ⟨by rfl, ?_⟩) ?_ ?_
  rotate_left
  ·intro w'
   go_simp
   with_reducible rfl
  rotate_left
  ·simp only [Act.put, List.setIfInBounds_toArray, List.set_cons_zero, List.set_cons_succ, i64_w, i32_w]
   rfl
  refine pure_ (i := 20) (N := some 72) (v := ?_) (a' := ?_) #[true, true, true, true, true, true, true, true, true, true, true, true, true, true, true, true, true, true, true, true, true, false] rfl rfl (by kernel_rfl) (fun _ _ _ h => h) (Or.inl ⟨by rfl, ?_⟩) ?_ ?_
  rotate_left
  ·intro w'
   go_simp
   with_reducible rfl
  rotate_left
  ·simp only [Act.put, List.setIfInBounds_toArray, List.set_cons_zero, List.set_cons_succ, i64_w, i32_w]
   rfl
  refine last_ (i := 21) (N := none) #[true, true, true, true, true, true, true, true, true, true, true, true, true, true, true, true, true, true, true, true, true, true] rfl rfl (by kernel_rfl) (by decide) (fun K hK => ?_)
  have hs0_ : w'.cell? ⟨g, 0, none⟩ = some (.int .i64 s0_0) := IsS78.cell_0 hHeld.st
  have hf0_ := IsS78.froz_0 hHeld.st
  refine skip_ (w1 := ?_) (by rfl) rfl ?_ ?_
  rotate_left
  ·go_simp
   rfl
  refine hK.out _ _ ?_
  refine done_ (by kernel_rfl) ?_
  clear hK K
  clear hs0_
  clear hf0_
  have h2 : IsS78 w0 (w'.setCell ⟨g, 0, none⟩ (.int .i64 (wrap64 q))) g (wrap64 q) s0_1 s0_2 true t := IsS78.set_0 hHeld.st _
  have hb2 := below_set hHeld.bel (IsS78.ge hHeld.st) (j := 0) (v := .int .i64 (wrap64 q))
  have hk2 := KeepBut.set_ hHeld.keep 0 (.int .i64 (wrap64 q))
  clear hHeld
  generalize w'.setCell ⟨g, 0, none⟩ (.int .i64 (wrap64 q)) = W5 at h2 hb2 hk2 ⊢
  try go_wp2
  have h3 : LK w0 w W5 g (wrap64 q) s0_1 s0_2 true t := ⟨h2, hb2, hk2⟩
  clear h2 hb2 hk2
  refine start_ (n := 17) (S := fun w' => LK w0 w w' g (wrap64 q) s0_1 s0_2 true t) (ds := [16]) #[false, false, false, false, false, false, false, false, false, false, false, false, false, false, false, false, false] (by kernel_rfl) rfl rfl h3.drew (fun hHeld => ?_)
  clear h3
  generalize W5.drew = W5 at hHeld ⊢
  refine pure_ (i := 0) (N := some 74) (v := ?_) (a' := ?_) #[true, false, false, false, false, false, false, false, false, false, false, false, false, false, false, false, false] rfl rfl (by kernel_rfl) (fun _ _ _ h => h) (Or.inl ⟨by rfl, ?_⟩) ?_ ?_
  rotate_left
  ·intro w'
   go_simp
   with_reducible rfl
  rotate_left
  ·simp only [Act.put, List.setIfInBounds_toArray, List.set_cons_zero, List.set_cons_succ, i64_w, i32_w]
   rfl
  refine pure_ (i := 1) (N := some 75) (v := ?_) (a' := ?_) #[true, true, false, false, false, false, false, false, false, false, false, false, false, false, false, false, false] rfl rfl (by kernel_rfl) (fun _ _ _ h => h) (Or.inl ⟨by rfl, ?_⟩) ?_ ?_
  rotate_left
  ·intro w'
   go_simp
   with_reducible rfl
  rotate_left
  ·simp only [Act.put, List.setIfInBounds_toArray, List.set_cons_zero, List.set_cons_succ, i64_w, i32_w]
   rfl
  refine pure_ (i := 2) (N := some 76) (v := ?_) (a' := ?_) #[true, true, true, false, false, false, false, false, false, false, false, false, false, false, false, false, false] rfl rfl (by kernel_rfl) (fun _ _ _ h => h) (Or.inl ⟨by rfl, ?_⟩) ?_ ?_
  rotate_left
  ·intro w'
   go_simp
   with_reducible rfl
  rotate_left
  ·simp only [Act.put, List.setIfInBounds_toArray, List.set_cons_zero, List.set_cons_succ, i64_w, i32_w]
   rfl
  refine pure_ (i := 3) (N := some 77) (v := ?_) (a' := ?_) #[true, true, true, true, false, false, false, false, false, false, false, false, false, false, false, false, false] rfl rfl (by kernel_rfl) (fun _ _ _ h => h) (Or.inl ⟨by rfl, ?_⟩) ?_ ?_
  rotate_left
  ·intro w'
   go_simp
   with_reducible rfl
  rotate_left
  ·simp only [Act.put, List.setIfInBounds_toArray, List.set_cons_zero, List.set_cons_succ, i64_w, i32_w]
   rfl
  refine take_ (i := 4) (N := some 78) (v := ?_) (a' := ?_) #[true, true, true, true, true, false, false, false, false, false, false, false, false, false, false, false, false] rfl rfl (by kernel_rfl) (fun _ _ _ h => h) (Or.inl ⟨by rfl, ?_⟩) hHeld ?_ ?_
  rotate_left
  ·intro w' hw'
   have cb0_ : w'.cell? ⟨g, 0, none⟩ = some (.int .i64 (wrap64 q)) := IsS78.cell_0 hw'.st
   go_simp
   with_reducible rfl
  rotate_left
  ·simp only [Act.put, List.setIfInBounds_toArray, List.set_cons_zero, List.set_cons_succ, i64_w, i32_w]
   rfl
  refine pure_ (i := 5) (N := some 79) (v := ?_) (a' := ?_) #[true, true, true, true, true, true, false, false, false, false, false, false, false, false, false, false, false] rfl rfl (by kernel_rfl) (fun _ _ _ h => h) (Or.inl ⟨by rfl, ?_⟩) ?_ ?_
  rotate_left
  ·intro w'
   go_simp
   with_reducible rfl
  rotate_left
  ·simp only [Act.put, List.setIfInBounds_toArray, List.set_cons_zero, List.set_cons_succ, i64_w, i32_w]
   rfl
  refine pure_ (i := 6) (N := some 80) (v := ?_) (a' := ?_) #[true, true, true, true, true, true, true, false, false, false, false, false, false, false, false, false, false] rfl rfl (by kernel_rfl) (fun _ _ _ h => h) (Or.inl ⟨by rfl, ?_⟩) ?_ ?_
  rotate_left
  ·intro w'
   go_simp
   with_reducible rfl
  rotate_left
  ·simp only [Act.put, List.setIfInBounds_toArray, List.set_cons_zero, List.set_cons_succ, i64_w, i32_w]
   rfl
  refine pure_ (i := 7) (N := some 81) (v := ?_) (a' := ?_) #[true, true, true, true, true, true, true, true, false, false, false, false, false, false, false, false, false] rfl rfl (by kernel_rfl) (fun _ _ _ h => h) (Or.inl ⟨by rfl, ?_⟩) ?_ ?_
  rotate_left
  ·intro w'
   go_simp
   with_reducible rfl
  rotate_left
  ·simp only [Act.put, List.setIfInBounds_toArray, List.set_cons_zero, List.set_cons_succ, i64_w, i32_w]
   rfl
  refine take_ (i := 8) (N := some 82) (v := ?_) (a' := ?_) #[true, true, true, true, true, true, true, true, true, false, false, false, false, false, false, false, false] rfl rfl (by kernel_rfl) (fun _ _ _ h => h) (Or.inl ⟨by rfl, ?_⟩) hHeld ?_ ?_
  rotate_left
  ·intro w' hw'
   have cb0_ : w'.cell? ⟨g, 1, none⟩ = some (.int .i64 s0_1) := IsS78.cell_1 hw'.st
   go_simp
   with_reducible rfl
  rotate_left
  ·simp only [Act.put, List.setIfInBounds_toArray, List.set_cons_zero, List.set_cons_succ, i64_w, i32_w]
   rfl
  refine pure_ (i := 9) (N := some 83) (v := ?_) (a' := ?_) #[true, true, true, true, true, true, true, true, true, true, false, false, false, false, false, false, false] rfl rfl (by kernel_rfl) (fun _ _ _ h => h) (Or.inl ⟨by rfl, ?_⟩) ?_ ?_
  rotate_left
  ·intro w'
   go_simp
   with_reducible rfl
  rotate_left
  ·simp only [Act.put, List.setIfInBounds_toArray, List.set_cons_zero, List.set_cons_succ, i64_w, i32_w]
   rfl
  refine pure_ (i := 10) (N := some 84) (v := ?_) (a' := ?_) #[true, true, true, true, true, true, true, true, true, true, true, false, false, false, false, false, false] rfl rfl (by kernel_rfl) (fun _ _ _ h => h) (Or.inl ⟨by rfl, ?_⟩) ?_ ?_
  rotate_left
  ·intro w'
   go_simp
   with_reducible rfl
  rotate_left
  ·simp only [Act.put, List.setIfInBounds_toArray, List.set_cons_zero, List.set_cons_succ, i64_w, i32_w]
   rfl
  refine pure_ (i := 11) (N := some 85) (v := ?_) (a' := ?_) #[true, true, true, true, true, true, true, true, true, true, true, true, false, false, false, false, false] rfl rfl (by kernel_rfl) (fun _ _ _ h => h) (Or.inl ⟨by rfl, ?_⟩) ?_ ?_
  rotate_left
  ·intro w'
   go_simp
   with_reducible rfl
  rotate_left
  ·simp only [Act.put, List.setIfInBounds_toArray, List.set_cons_zero, List.set_cons_succ, i64_w, i32_w]
   rfl
  refine take_ (i := 12) (N := some 86) (v := ?_) (a' := ?_) #[true, true, true, true, true, true, true, true, true, true, true, true, true, false, false, false, false] rfl rfl (by kernel_rfl) (fun _ _ _ h => h) (Or.inl ⟨by rfl, ?_⟩) hHeld ?_ ?_
  rotate_left
  ·intro w' hw'
   have cb0_ : w'.cell? ⟨g, 2, none⟩ = some (.int .i64 s0_2) := IsS78.cell_2 hw'.st
   go_simp
   with_reducible rfl
  rotate_left
  ·simp only [Act.put, List.setIfInBounds_toArray, List.set_cons_zero, List.set_cons_succ, i64_w, i32_w]
   rfl
  refine one_ (i := 13) (N := some 87) #[true, true, true, true, true, true, true, true, true, true, true, true, true, true, false, false, false] rfl rfl (by kernel_rfl) (by decide) (fun K hK => ?_)
  refine goes_ Tryd.func23 (by kernel_rfl) rfl #[.int .i64 (wrap64 q), .int .i64 s0_1, .int .i64 s0_2] (by rfl) rfl rfl (by simp only [List.map_toArray, List.map_cons, List.map_nil]; rfl) ?_
  with_reducible refine (sat_Clamp.calls (wrap64 q) s0_1 s0_2 t3 _ A3).mono ?_
  rintro e w' ⟨rfl, ⟨nd, rfl⟩⟩
  refine ⟨_, rfl, ?_⟩
  have hN_ := hHeld.drewN nd
  refine hK.out _ _ hN_ (fun hHeld => ?_)
  clear hK K hN_
  generalize W5.drewN nd = W5_ at hHeld ⊢
  refine norm_ (a' := ?_) ?_ ?_
  rotate_left
  ·show Act.put _ (some 87) _ = _
   simp only [Act.put, List.setIfInBounds_toArray, List.set_cons_zero, List.set_cons_succ, i64_w, i32_w]
   rfl
  refine pure_ (i := 14) (N := some 88) (v := ?_) (a' := ?_) #[true, true, true, true, true, true, true, true, true, true, true, true, true, true, true, false, false] rfl rfl (by kernel_rfl) (fun _ _ _ h => h) (Or.inl ⟨by rfl, ?_⟩) ?_ ?_
  rotate_left
  ·intro w'
   go_simp
   with_reducible rfl
  rotate_left
  ·simp only [Act.put, List.setIfInBounds_toArray, List.set_cons_zero, List.set_cons_succ, i64_w, i32_w]
   rfl
  refine pure_ (i := 15) (N := some 89) (v := ?_) (a' := ?_) #[true, true, true, true, true, true, true, true, true, true, true, true, true, true, true, true, false] rfl rfl (by kernel_rfl) (fun _ _ _ h => h) (Or.inl ⟨by rfl, ?_⟩) ?_ ?_
  rotate_left
  ·intro w'
   go_simp
   with_reducible rfl
  rotate_left
  ·simp only [Act.put, List.setIfInBounds_toArray, List.set_cons_zero, List.set_cons_succ, i64_w, i32_w]
   rfl
  refine last_ (i := 16) (N := none) #[true, true, true, true, true, true, true, true, true, true, true, true, true, true, true, true, true] rfl rfl (by kernel_rfl) (by decide) (fun K hK => ?_)
  have hs0_ : W5_.cell? ⟨g, 0, none⟩ = some (.int .i64 (wrap64 q)) := IsS78.cell_0 hHeld.st
  have hf0_ := IsS78.froz_0 hHeld.st
  refine skip_ (w1 := ?_) (by rfl) rfl ?_ ?_
  rotate_left
  ·go_simp
   rfl
  refine hK.out _ _ ?_
  refine done_ (by kernel_rfl) ?_
  clear hK K
  clear hs0_
  clear hf0_
  have h4 := IsS78.set_0 hHeld.st t3
  have hb4 := below_set hHeld.bel (IsS78.ge hHeld.st) (j := 0) (v := .int .i64 t3)
  have hk4 := KeepBut.set_ hHeld.keep 0 (.int .i64 t3)
  clear hHeld
  generalize W5_.setCell ⟨g, 0, none⟩ (.int .i64 t3) = W6 at h4 hb4 hk4 ⊢
  have hc0_ := IsS78.cell_0 h4
  go_wp2
  go_ret
  exact ⟨rfl, h4, hb4, hk4⟩
 ·subst c
  go_enter Tryd.func26, Tryd.ntmps26
  go_wp2_with (first | ((with_reducible refine gate_dst (N := 14) rfl ?_); refine goesL_ (some 14) rfl rfl Tryd.func23 (by kernel_rfl) rfl #[.int .i64 a2, .int .i64 0, .int .i64 1125899906842624] rfl (by (try simp only [List.map_toArray, List.map_cons, List.map_nil]); first | done | rfl) ?_; (with_reducible refine (sat_Clamp.calls a2 0 1125899906842624 t _ At).mono ?_); rintro e w' ⟨rfl, ⟨nd, rfl⟩⟩; refine ⟨_, rfl, ?_⟩; have hI1 := IsS78.drewN hI nd; have hB1 := pw_below_drewN hB nd; have hK1 := keep_drewN (KeepBut.refl w g none) nd; generalize World.drewN w nd = W1 at hI1 hB1 hK1 ⊢; have hc0_ : W1.cell? ⟨g, 0, none⟩ = some (.int .i64 s0_0) := IsS78.cell_0 hI1; have hf0_ := IsS78.froz_0 hI1; have hc1_ : W1.cell? ⟨g, 1, none⟩ = some (.int .i64 s0_1) := IsS78.cell_1 hI1; have hf1_ := IsS78.froz_1 hI1; have hc2_ : W1.cell? ⟨g, 2, none⟩ = some (.int .i64 s0_2) := IsS78.cell_2 hI1; have hf2_ := IsS78.froz_2 hI1; have hc3_ : W1.cell? ⟨g, 3, none⟩ = some (.bool true) := IsS78.cell_3 hI1; have hf3_ := IsS78.froz_3 hI1; have hc4_ : W1.cell? ⟨g, 4, none⟩ = some (.int .i64 s0_4) := IsS78.cell_4 hI1; have hf4_ := IsS78.froz_4 hI1) | ((with_reducible refine gate_dst (N := 40) rfl ?_); refine goesL_ (some 40) rfl rfl Tryd.func23 (by kernel_rfl) rfl #[.int .i64 a1, .int .i64 0, .int .i64 256] rfl (by (try simp only [List.map_toArray, List.map_cons, List.map_nil]); first | done | rfl) ?_; (with_reducible refine (sat_Clamp.calls a1 0 256 n _ An).mono ?_); rintro e w' ⟨rfl, ⟨nd, rfl⟩⟩; refine ⟨_, rfl, ?_⟩; have hI2 := IsS78.drewN (IsS78.set_4 (IsS78.set_3 hI1 true) t) nd; have hB2 := pw_below_drewN (below_set (below_set hB1 (IsS78.ge hI1) (j := 3) (v := .bool true)) (IsS78.ge hI1) (j := 4) (v := .int .i64 t)) nd; have hK2 := keep_drewN (KeepBut.set_ (KeepBut.set_ hK1 3 (.bool true)) 4 (.int .i64 t)) nd; clear hI1 hB1 hK1; clear hc0_ hf0_ hc1_ hf1_ hc2_ hf2_ hc3_ hf3_ hc4_ hf4_; generalize World.drewN ((W1.setCell ⟨g, 3, none⟩ (.bool true)).setCell ⟨g, 4, none⟩ (.int .i64 t)) nd = W2 at hI2 hB2 hK2 ⊢; have hc0_ : W2.cell? ⟨g, 0, none⟩ = some (.int .i64 s0_0) := IsS78.cell_0 hI2; have hf0_ := IsS78.froz_0 hI2; have hc1_ : W2.cell? ⟨g, 1, none⟩ = some (.int .i64 s0_1) := IsS78.cell_1 hI2; have hf1_ := IsS78.froz_1 hI2; have hc2_ : W2.cell? ⟨g, 2, none⟩ = some (.int .i64 s0_2) := IsS78.cell_2 hI2; have hf2_ := IsS78.froz_2 hI2; have hc3_ : W2.cell? ⟨g, 3, none⟩ = some (.bool true) := IsS78.cell_3 hI2; have hf3_ := IsS78.froz_3 hI2; have hc4_ : W2.cell? ⟨g, 4, none⟩ = some (.int .i64 t) := IsS78.cell_4 hI2; have hf4_ := IsS78.froz_4 hI2; have hG2 := hG.below hB2; obtain ⟨q0, q1, q2, q3, q4, q5, q6, q7, q8, q9, q10, q11, q12, q13, q14⟩ := hG2))
  refine wp_loop_rounds 4 ?_
  rw [rounds_succ]
  go_wp2
  rw [rounds_succ]
  go_wp2
  rw [rounds_succ]
  go_wp2
  refine namedG_ ?_
  intro W3 hW3
  have h1 : LH w0 w W3 g ((W2.alloc (.cells #[.int .i64 5, .int .i64 105, .int .i64 100, .int .i64 1000, .int .i64 0] 106)).alloc (.cells #[.int .i64 26, .int .i64 1, .int .i64 1, .int .i64 0, .int .i64 0] 106)).heap.size s0_0 s0_1 s0_2 true t 256 512 512 0 1 := by rw [hW3]; exact ⟨IsS78.alloc (IsS78.alloc (IsS78.alloc (hI2) _) _) _, below_alloc (below_alloc (below_alloc (hB2) _) _) _, keep_alloc (keep_alloc (keep_alloc (hK2) _) _) _, blk_new _ _⟩
  (try simp only [sizeG_] at h1 ⊢)
  clear hW3 hI2 hB2 hK2
  generalize W2.heap.size + 1 + 1 = b at h1 ⊢
  refine start_ (n := 22) (S := fun w' => LH w0 w w' g b s0_0 s0_1 s0_2 true t 256 512 512 0 1) (ds := [21]) #[false, false, false, false, false, false, false, false, false, false, false, false, false, false, false, false, false, false, false, false, false, false] (by kernel_rfl) rfl rfl h1.drew (fun hHeld => ?_)
  clear h1
  generalize W3.drew = W3 at hHeld ⊢
  refine pure_ (i := 0) (N := some 52) (v := ?_) (a' := ?_) #[true, false, false, false, false, false, false, false, false, false, false, false, false, false, false, false, false, false, false, false, false, false] rfl rfl (by kernel_rfl) (fun _ _ _ h => h) (Or.inl ⟨by rfl, ?_⟩) ?_ ?_
  rotate_left
  ·intro w'
   go_simp
   with_reducible rfl
  rotate_left
  ·simp only [Act.put, List.setIfInBounds_toArray, List.set_cons_zero, List.set_cons_succ, i64_w, i32_w]
   rfl
  refine pure_ (i := 1) (N := some 53) (v := ?_) (a' := ?_) #[true, true, false, false, false, false, false, false, false, false, false, false, false, false, false, false, false, false, false, false, false, false] rfl rfl (by kernel_rfl) (fun _ _ _ h => h) (Or.inl ⟨by rfl, ?_⟩) ?_ ?_
  rotate_left
  ·intro w'
   go_simp
   with_reducible rfl
  rotate_left
  ·simp only [Act.put, List.setIfInBounds_toArray, List.set_cons_zero, List.set_cons_succ, i64_w, i32_w]
   rfl
  refine pure_ (i := 2) (N := some 54) (v := ?_) (a' := ?_) #[true, true, true, false, false, false, false, false, false, false, false, false, false, false, false, false, false, false, false, false, false, false] rfl rfl (by kernel_rfl) (fun _ _ _ h => h) (Or.inl ⟨by rfl, ?_⟩) ?_ ?_
  rotate_left
  ·intro w'
   go_simp
   with_reducible rfl
  rotate_left
  ·simp only [Act.put, List.setIfInBounds_toArray, List.set_cons_zero, List.set_cons_succ, i64_w, i32_w]
   rfl
  refine pure_ (i := 3) (N := some 55) (v := ?_) (a' := ?_) #[true, true, true, true, false, false, false, false, false, false, false, false, false, false, false, false, false, false, false, false, false, false] rfl rfl (by kernel_rfl) (fun _ _ _ h => h) (Or.inl ⟨by rfl, ?_⟩) ?_ ?_
  rotate_left
  ·intro w'
   go_simp
   with_reducible rfl
  rotate_left
  ·simp only [Act.put, List.setIfInBounds_toArray, List.set_cons_zero, List.set_cons_succ, i64_w, i32_w]
   rfl
  refine take_ (i := 4) (N := some 56) (v := ?_) (a' := ?_) #[true, true, true, true, true, false, false, false, false, false, false, false, false, false, false, false, false, false, false, false, false, false] rfl rfl (by kernel_rfl) (fun _ _ _ h => h) (Or.inl ⟨by rfl, ?_⟩) hHeld ?_ ?_
  rotate_left
  ·intro w' hw'
   have cb0_ : w'.cell? ⟨g, 0, none⟩ = some (.int .i64 s0_0) := IsS78.cell_0 hw'.st
   go_simp
   with_reducible rfl
  rotate_left
  ·simp only [Act.put, List.setIfInBounds_toArray, List.set_cons_zero, List.set_cons_succ, i64_w, i32_w]
   rfl
  refine pure_ (i := 5) (N := some 57) (v := ?_) (a' := ?_) #[true, true, true, true, true, true, false, false, false, false, false, false, false, false, false, false, false, false, false, false, false, false] rfl rfl (by kernel_rfl) (fun _ _ _ h => h) (Or.inl ⟨by rfl, ?_⟩) ?_ ?_
  rotate_left
  ·intro w'
   go_simp
   with_reducible rfl
  rotate_left
  ·simp only [Act.put, List.setIfInBounds_toArray, List.set_cons_zero, List.set_cons_succ, i64_w, i32_w]
   rfl
  refine take_ (i := 6) (N := some 58) (v := ?_) (a' := ?_) #[true, true, true, true, true, true, true, false, false, false, false, false, false, false, false, false, false, false, false, false, false, false] rfl rfl (by kernel_rfl) (fun _ _ _ h => h) (Or.inl ⟨by rfl, ?_⟩) hHeld ?_ ?_
  rotate_left
  ·intro w' hw'
   have cb0_ : w'.cell? ⟨b, 1, none⟩ = some (.int .i64 512) := (blk_cell hw'.row 1).trans rfl
   go_simp
   with_reducible rfl
  rotate_left
  ·simp only [Act.put, List.setIfInBounds_toArray, List.set_cons_zero, List.set_cons_succ, i64_w, i32_w]
   rfl
  refine pure_ (i := 7) (N := some 59) (v := ?_) (a' := ?_) #[true, true, true, true, true, true, true, true, false, false, false, false, false, false, false, false, false, false, false, false, false, false] rfl rfl (by kernel_rfl) (fun _ _ _ h => h) (Or.inl ⟨by rfl, ?_⟩) ?_ ?_
  rotate_left
  ·intro w'
   go_simp
   with_reducible rfl
  rotate_left
  ·simp only [Act.put, List.setIfInBounds_toArray, List.set_cons_zero, List.set_cons_succ, i64_w, i32_w]
   rfl
  refine take_ (i := 8) (N := some 60) (v := ?_) (a' := ?_) #[true, true, true, true, true, true, true, true, true, false, false, false, false, false, false, false, false, false, false, false, false, false] rfl rfl (by kernel_rfl) (fun _ _ _ h => h) (Or.inl ⟨by rfl, ?_⟩) hHeld ?_ ?_
  rotate_left
  ·intro w' hw'
   have cb0_ : w'.cell? ⟨b, 4, none⟩ = some (.int .i64 1) := (blk_cell hw'.row 4).trans rfl
   go_simp
   with_reducible rfl
  rotate_left
  ·simp only [Act.put, List.setIfInBounds_toArray, List.set_cons_zero, List.set_cons_succ, i64_w, i32_w]
   rfl
  refine pure_ (i := 9) (N := some 61) (v := ?_) (a' := ?_) #[true, true, true, true, true, true, true, true, true, true, false, false, false, false, false, false, false, false, false, false, false, false] rfl rfl (by kernel_rfl) (fun _ _ _ h => h) (Or.inl ⟨by rfl, ?_⟩) ?_ ?_
  rotate_left
  ·intro w'
   go_simp
   with_reducible rfl
  rotate_left
  ·simp only [Act.put, List.setIfInBounds_toArray, List.set_cons_zero, List.set_cons_succ, i64_w, i32_w]
   rfl
  refine pure_ (i := 10) (N := some 62) (v := ?_) (a' := ?_) #[true, true, true, true, true, true, true, true, true, true, true, false, false, false, false, false, false, false, false, false, false, false] rfl rfl (by kernel_rfl) (fun _ _ _ h => h) (Or.inl ⟨by rfl, ?_⟩) ?_ ?_
  rotate_left
  ·intro w'
   go_simp
   with_reducible rfl
  rotate_left
  ·simp only [Act.put, List.setIfInBounds_toArray, List.set_cons_zero, List.set_cons_succ, i64_w, i32_w]
   rfl
  refine pure_ (i := 11) (N := some 63) (v := ?_) (a' := ?_) #[true, true, true, true, true, true, true, true, true, true, true, true, false, false, false, false, false, false, false, false, false, false] rfl rfl (by kernel_rfl) (fun _ _ _ h => h) (Or.inl ⟨by rfl, ?_⟩) ?_ ?_
  rotate_left
  ·intro w'
   go_simp
   with_reducible rfl
  rotate_left
  ·simp only [Act.put, List.setIfInBounds_toArray, List.set_cons_zero, List.set_cons_succ, i64_w, i32_w]
   rfl
  refine pure_ (i := 12) (N := some 64) (v := ?_) (a' := ?_) #[true, true, true, true, true, true, true, true, true, true, true, true, true, false, false, false, false, false, false, false, false, false] rfl rfl (by kernel_rfl) (fun _ _ _ h => h) (Or.inl ⟨by rfl, ?_⟩) ?_ ?_
  rotate_left
  ·intro w'
   go_simp
   with_reducible rfl
  rotate_left
  ·simp only [Act.put, List.setIfInBounds_toArray, List.set_cons_zero, List.set_cons_succ, i64_w, i32_w]
   rfl
  refine take_ (i := 13) (N := some 65) (v := ?_) (a' := ?_) #[true, true, true, true, true, true, true, true, true, true, true, true, true, true, false, false, false, false, false, false, false, false] rfl rfl (by kernel_rfl) (fun _ _ _ h => h) (Or.inl ⟨by rfl, ?_⟩) hHeld ?_ ?_
  rotate_left
  ·intro w' hw'
   have cb0_ : w'.cell? ⟨b, 2, none⟩ = some (.int .i64 512) := (blk_cell hw'.row 2).trans rfl
   go_simp
   with_reducible rfl
  rotate_left
  ·simp only [Act.put, List.setIfInBounds_toArray, List.set_cons_zero, List.set_cons_succ, i64_w, i32_w]
   rfl
  refine pure_ (i := 14) (N := some 66) (v := ?_) (a' := ?_) #[true, true, true, true, true, true, true, true, true, true, true, true, true, true, true, false, false, false, false, false, false, false] rfl rfl (by kernel_rfl) (fun _ _ _ h => h) (Or.inl ⟨by rfl, ?_⟩) ?_ ?_
  rotate_left
  ·intro w'
   go_simp
   with_reducible rfl
  rotate_left
  ·simp only [Act.put, List.setIfInBounds_toArray, List.set_cons_zero, List.set_cons_succ, i64_w, i32_w]
   rfl
  refine pure_ (i := 16) (N := some 68) (v := ?_) (a' := ?_) #[true, true, true, true, true, true, true, true, true, true, true, true, true, true, true, false, true, false, false, false, false, false] rfl rfl (by kernel_rfl) (fun _ _ _ h => h) (Or.inl ⟨by rfl, ?_⟩) ?_ ?_
  rotate_left
  ·intro w'
   go_simp
   with_reducible rfl
  rotate_left
  ·simp only [Act.put, List.setIfInBounds_toArray, List.set_cons_zero, List.set_cons_succ, i64_w, i32_w]
   rfl
  refine take_ (i := 17) (N := some 69) (v := ?_) (a' := ?_) #[true, true, true, true, true, true, true, true, true, true, true, true, true, true, true, false, true, true, false, false, false, false] rfl rfl (by kernel_rfl) (fun _ _ _ h => h) (Or.inl ⟨by rfl, ?_⟩) hHeld ?_ ?_
  rotate_left
  ·intro w' hw'
   have cb0_ : w'.cell? ⟨b, 3, none⟩ = some (.int .i64 0) := (blk_cell hw'.row 3).trans rfl
   go_simp
   with_reducible rfl
  rotate_left
  ·simp only [Act.put, List.setIfInBounds_toArray, List.set_cons_zero, List.set_cons_succ, i64_w, i32_w]
   rfl
  refine one_ (i := 15) (N := some 67) #[true, true, true, true, true, true, true, true, true, true, true, true, true, true, true, true, true, true, false, false, false, false] rfl rfl (by kernel_rfl) (by decide) (fun K hK => ?_)
  refine goes_ Tryd.func44 (by kernel_rfl) rfl #[.int .i64 s0_0, .int .i64 (wrap64 (512 - wrap64 n)), .int .i64 512, .int .i64 1] (by rfl) rfl rfl (by simp only [List.map_toArray, List.map_cons, List.map_nil]; rfl) ?_
  refine (muldiv_Do.calls s0_0 _ 512 1 q _ Aq).mono ?_
  rintro e w' ⟨rfl, hb⟩
  refine ⟨_, rfl, ?_⟩
  have hN_ := hHeld.below hb
  refine hK.out _ _ hN_ (fun hHeld => ?_)
  clear hK K hN_ hb
  refine norm_ (a' := ?_) ?_ ?_
  rotate_left
  ·show Act.put _ (some 67) _ = _
   simp only [Act.put, List.setIfInBounds_toArray, List.set_cons_zero, List.set_cons_succ, i64_w, i32_w]
   rfl
  refine pure_ (i := 18) (N := some 70) (v := ?_) (a' := ?_) #[true, true, true, true, true, true, true, true, true, true, true, true, true, true, true, true, true, true, true, false, false, false] rfl rfl (by kernel_rfl) (fun _ _ _ h => h) (Or.inl ⟨by rfl, ?_⟩) ?_ ?_
  rotate_left
  ·intro w'
   go_simp
   with_reducible rfl
  rotate_left
  ·simp only [Act.put, List.setIfInBounds_toArray, List.set_cons_zero, List.set_cons_succ, i64_w, i32_w]
   rfl
  refine pure_ (i := 19) (N := some 71) (v := ?_) (a' := ?_) #[true, true, true, true, true, true, true, true, true, true, true, true, true, true, true, true, true, true, true, true, false, false] rfl rfl (by kernel_rfl) (fun _ _ _ h => h) (Or.inl ⟨by rfl, ?_⟩) ?_ ?_
  rotate_left
  ·intro w'
   go_simp
   with_reducible rfl
  rotate_left
  ·simp only [Act.put, List.setIfInBounds_toArray, List.set_cons_zero, List.set_cons_succ, i64_w, i32_w]
   rfl
  refine pure_ (i := 20) (N := some 72) (v := ?_) (a' := ?_) #[true, true, true, true, true, true, true, true, true, true, true, true, true, true, true, true, true, true, true, true, true, false] rfl rfl (by kernel_rfl) (fun _ _ _ h => h) (Or.inl ⟨by rfl, ?_⟩) ?_ ?_
  rotate_left
  ·intro w'
   go_simp
   with_reducible rfl
  rotate_left
  ·simp only [Act.put, List.setIfInBounds_toArray, List.set_cons_zero, List.set_cons_succ, i64_w, i32_w]
   rfl
  refine last_ (i := 21) (N := none) #[true, true, true, true, true, true, true, true, true, true, true, true, true, true, true, true, true, true, true, true, true, true] rfl rfl (by kernel_rfl) (by decide) (fun K hK => ?_)
  have hs0_ : w'.cell? ⟨g, 0, none⟩ = some (.int .i64 s0_0) := IsS78.cell_0 hHeld.st
  have hf0_ := IsS78.froz_0 hHeld.st
  refine skip_ (w1 := ?_) (by rfl) rfl ?_ ?_
  rotate_left
  ·go_simp
   rfl
  refine hK.out _ _ ?_
  refine done_ (by kernel_rfl) ?_
  clear hK K
  clear hs0_
  clear hf0_
  have h2 : IsS78 w0 (w'.setCell ⟨g, 0, none⟩ (.int .i64 (wrap64 q))) g (wrap64 q) s0_1 s0_2 true t := IsS78.set_0 hHeld.st _
  have hb2 := below_set hHeld.bel (IsS78.ge hHeld.st) (j := 0) (v := .int .i64 (wrap64 q))
  have hk2 := KeepBut.set_ hHeld.keep 0 (.int .i64 (wrap64 q))
  clear hHeld
  generalize w'.setCell ⟨g, 0, none⟩ (.int .i64 (wrap64 q)) = W5 at h2 hb2 hk2 ⊢
  try go_wp2
  have h3 : LK w0 w W5 g (wrap64 q) s0_1 s0_2 true t := ⟨h2, hb2, hk2⟩
  clear h2 hb2 hk2
  refine start_ (n := 17) (S := fun w' => LK w0 w w' g (wrap64 q) s0_1 s0_2 true t) (ds := [16]) #[false, false, false, false, false, false, false, false, false, false, false, false, false, false, false, false, false] (by kernel_rfl) rfl rfl h3.drew (fun hHeld => ?_)
  clear h3
  generalize W5.drew = W5 at hHeld ⊢
  refine pure_ (i := 0) (N := some 74) (v := ?_) (a' := ?_) #[true, false, false, false, false, false, false, false, false, false, false, false, false, false, false, false, false] rfl rfl (by kernel_rfl) (fun _ _ _ h => h) (Or.inl ⟨by rfl, ?_⟩) ?_ ?_
  rotate_left
  ·intro w'
   go_simp
   with_reducible rfl
  rotate_left
  ·simp only [Act.put, List.setIfInBounds_toArray, List.set_cons_zero, List.set_cons_succ, i64_w, i32_w]
   rfl
  refine pure_ (i := 1) (N := some 75) (v := ?_) (a' := ?_) #[true, true, false, false, false, false, false, false, false, false, false, false, false, false, false, false, false] rfl rfl (by kernel_rfl) (fun _ _ _ h => h) (Or.inl ⟨by rfl, ?_⟩) ?_ ?_
  rotate_left
  ·intro w'
   go_simp
   with_reducible rfl
  rotate_left
  ·simp only [Act.put, List.setIfInBounds_toArray, List.set_cons_zero, List.set_cons_succ, i64_w, i32_w]
   rfl
  refine pure_ (i := 2) (N := some 76) (v := ?_) (a' := ?_) #[true, true, true, false, false, false, false, false, false, false, false, false, false, false, false, false, false] rfl rfl (by kernel_rfl) (fun _ _ _ h => h) (Or.inl ⟨by rfl, ?_⟩) ?_ ?_
  rotate_left
  ·intro w'
   go_simp
   with_reducible rfl
  rotate_left
  ·simp only [Act.put, List.setIfInBounds_toArray, List.set_cons_zero, List.set_cons_succ, i64_w, i32_w]
   rfl
  refine pure_ (i := 3) (N := some 77) (v := ?_) (a' := ?_) #[true, true, true, true, false, false, false, false, false, false, false, false, false, false, false, false, false] rfl rfl (by kernel_rfl) (fun _ _ _ h => h) (Or.inl ⟨by rfl, ?_⟩) ?_ ?_
  rotate_left
  ·intro w'
   go_simp
   with_reducible rfl
  rotate_left
  ·simp only [Act.put, List.setIfInBounds_toArray, List.set_cons_zero, List.set_cons_succ, i64_w, i32_w]
   rfl
  refine take_ (i := 4) (N := some 78) (v := ?_) (a' := ?_) #[true, true, true, true, true, false, false, false, false, false, false, false, false, false, false, false, false] rfl rfl (by kernel_rfl) (fun _ _ _ h => h) (Or.inl ⟨by rfl, ?_⟩) hHeld ?_ ?_
  rotate_left
  ·intro w' hw'
   have cb0_ : w'.cell? ⟨g, 0, none⟩ = some (.int .i64 (wrap64 q)) := IsS78.cell_0 hw'.st
   go_simp
   with_reducible rfl
  rotate_left
  ·simp only [Act.put, List.setIfInBounds_toArray, List.set_cons_zero, List.set_cons_succ, i64_w, i32_w]
   rfl
  refine pure_ (i := 5) (N := some 79) (v := ?_) (a' := ?_) #[true, true, true, true, true, true, false, false, false, false, false, false, false, false, false, false, false] rfl rfl (by kernel_rfl) (fun _ _ _ h => h) (Or.inl ⟨by rfl, ?_⟩) ?_ ?_
  rotate_left
  ·intro w'
   go_simp
   with_reducible rfl
  rotate_left
  ·simp only [Act.put, List.setIfInBounds_toArray, List.set_cons_zero, List.set_cons_succ, i64_w, i32_w]
   rfl
  refine pure_ (i := 6) (N := some 80) (v := ?_) (a' := ?_) #[true, true, true, true, true, true, true, false, false, false, false, false, false, false, false, false, false] rfl rfl (by kernel_rfl) (fun _ _ _ h => h) (Or.inl ⟨by rfl, ?_⟩) ?_ ?_
  rotate_left
  ·intro w'
   go_simp
   with_reducible rfl
  rotate_left
  ·simp only [Act.put, List.setIfInBounds_toArray, List.set_cons_zero, List.set_cons_succ, i64_w, i32_w]
   rfl
  refine pure_ (i := 7) (N := some 81) (v := ?_) (a' := ?_) #[true, true, true, true, true, true, true, true, false, false, false, false, false, false, false, false, false] rfl rfl (by kernel_rfl) (fun _ _ _ h => h) (Or.inl ⟨by rfl, ?_⟩) ?_ ?_
  rotate_left
  ·intro w'
   go_simp
   with_reducible rfl
  rotate_left
  ·simp only [Act.put, List.setIfInBounds_toArray, List.set_cons_zero, List.set_cons_succ, i64_w, i32_w]
   rfl
  refine take_ (i := 8) (N := some 82) (v := ?_) (a' := ?_) #[true, true, true, true, true, true, true, true, true, false, false, false, false, false, false, false, false] rfl rfl (by kernel_rfl) (fun _ _ _ h => h) (Or.inl ⟨by rfl, ?_⟩) hHeld ?_ ?_
  rotate_left
  ·intro w' hw'
   have cb0_ : w'.cell? ⟨g, 1, none⟩ = some (.int .i64 s0_1) := IsS78.cell_1 hw'.st
   go_simp
   with_reducible rfl
  rotate_left
  ·simp only [Act.put, List.setIfInBounds_toArray, List.set_cons_zero, List.set_cons_succ, i64_w, i32_w]
   rfl
  refine pure_ (i := 9) (N := some 83) (v := ?_) (a' := ?_) #[true, true, true, true, true, true, true, true, true, true, false, false, false, false, false, false, false] rfl rfl (by kernel_rfl) (fun _ _ _ h => h) (Or.inl ⟨by rfl, ?_⟩) ?_ ?_
  rotate_left
  ·intro w'
   go_simp
   with_reducible rfl
  rotate_left
  ·simp only [Act.put, List.setIfInBounds_toArray, List.set_cons_zero, List.set_cons_succ, i64_w, i32_w]
   rfl
  refine pure_ (i := 10) (N := some 84) (v := ?_) (a' := ?_) #[true, true, true, true, true, true, true, true, true, true, true, false, false, false, false, false, false] rfl rfl (by kernel_rfl) (fun _ _ _ h => h) (Or.inl ⟨by rfl, ?_⟩) ?_ ?_
  rotate_left
  ·intro w'
   go_simp
   with_reducible rfl
  rotate_left
  ·simp only [Act.put, List.setIfInBounds_toArray, List.set_cons_zero, List.set_cons_succ, i64_w, i32_w]
   rfl
  refine pure_ (i := 11) (N := some 85) (v := ?_) (a' := ?_) #[true, true, true, true, true, true, true, true, true, true, true, true, false, false, false, false, false] rfl rfl (by kernel_rfl) (fun _ _ _ h => h) (Or.inl ⟨by rfl, ?_⟩) ?_ ?_
  rotate_left
  ·intro w'
   go_simp
   with_reducible rfl
  rotate_left
  ·simp only [Act.put, List.setIfInBounds_toArray, List.set_cons_zero, List.set_cons_succ, i64_w, i32_w]
   rfl
  refine take_ (i := 12) (N := some 86) (v := ?_) (a' := ?_) #[true, true, true, true, true, true, true, true, true, true, true, true, true, false, false, false, false] rfl rfl (by kernel_rfl) (fun _ _ _ h => h) (Or.inl ⟨by rfl, ?_⟩) hHeld ?_ ?_
  rotate_left
  ·intro w' hw'
   have cb0_ : w'.cell? ⟨g, 2, none⟩ = some (.int .i64 s0_2) := IsS78.cell_2 hw'.st
   go_simp
   with_reducible rfl
  rotate_left
  ·simp only [Act.put, List.setIfInBounds_toArray, List.set_cons_zero, List.set_cons_succ, i64_w, i32_w]
   rfl
  refine one_ (i := 13) (N := some 87) #[true, true, true, true, true, true, true, true, true, true, true, true, true, true, false, false, false] rfl rfl (by kernel_rfl) (by decide) (fun K hK => ?_)
  refine goes_ Tryd.func23 (by kernel_rfl) rfl #[.int .i64 (wrap64 q), .int .i64 s0_1, .int .i64 s0_2] (by rfl) rfl rfl (by simp only [List.map_toArray, List.map_cons, List.map_nil]; rfl) ?_
  with_reducible refine (sat_Clamp.calls (wrap64 q) s0_1 s0_2 t3 _ A3).mono ?_
  rintro e w' ⟨rfl, ⟨nd, rfl⟩⟩
  refine ⟨_, rfl, ?_⟩
  have hN_ := hHeld.drewN nd
  refine hK.out _ _ hN_ (fun hHeld => ?_)
  clear hK K hN_
  generalize W5.drewN nd = W5_ at hHeld ⊢
  refine norm_ (a' := ?_) ?_ ?_
  rotate_left
  ·show Act.put _ (some 87) _ = _
   simp only [Act.put, List.setIfInBounds_toArray, List.set_cons_zero, List.set_cons_succ, i64_w, i32_w]
   rfl
  refine pure_ (i := 14) (N := some 88) (v := ?_) (a' := ?_) #[true, true, true, true, true, true, true, true, true, true, true, true, true, true, true, false, false] rfl rfl (by kernel_rfl) (fun _ _ _ h => h) (Or.inl ⟨by rfl, ?_⟩) ?_ ?_
  rotate_left
  ·intro w'
   go_simp
   with_reducible rfl
  rotate_left
  ·simp only [Act.put, List.setIfInBounds_toArray, List.set_cons_zero, List.set_cons_succ, i64_w, i32_w]
   rfl
  refine pure_ (i := 15) (N := some 89) (v := ?_) (a' := ?_) #[true, true, true, true, true, true, true, true, true, true, true, true, true, true, true, true, false] rfl rfl (by kernel_rfl) (fun _ _ _ h => h) (Or.inl ⟨by rfl, ?_⟩) ?_ ?_
  rotate_left
  ·intro w'
   go_simp
   with_reducible rfl
  rotate_left
  ·simp only [Act.put, List.setIfInBounds_toArray, List.set_cons_zero, List.set_cons_succ, i64_w, i32_w]
   rfl
  refine last_ (i := 16) (N := none) #[true, true, true, true, true, true, true, true, true, true, true, true, true, true, true, true, true] rfl rfl (by kernel_rfl) (by decide) (fun K hK => ?_)
  have hs0_ : W5_.cell? ⟨g, 0, none⟩ = some (.int .i64 (wrap64 q)) := IsS78.cell_0 hHeld.st
  have hf0_ := IsS78.froz_0 hHeld.st
  refine skip_ (w1 := ?_) (by rfl) rfl ?_ ?_
  rotate_left
  ·go_simp
   rfl
  refine hK.out _ _ ?_
  refine done_ (by kernel_rfl) ?_
  clear hK K
  clear hs0_
  clear hf0_
  have h4 := IsS78.set_0 hHeld.st t3
  have hb4 := below_set hHeld.bel (IsS78.ge hHeld.st) (j := 0) (v := .int .i64 t3)
  have hk4 := KeepBut.set_ hHeld.keep 0 (.int .i64 t3)
  clear hHeld
  generalize W5_.setCell ⟨g, 0, none⟩ (.int .i64 t3) = W6 at h4 hb4 hk4 ⊢
  have hc0_ := IsS78.cell_0 h4
  go_wp2
  go_ret
  exact ⟨rfl, h4, hb4, hk4⟩
set_option maxHeartbeats 8000000 in
set_option maxRecDepth 100000 in
theorem lossy_upds (g : Nat) (s0_0 s0_1 s0_2 : Int) (s0_3 : Bool) (s0_4 a1 a2 t : Int) (w0 w : World) (hI : IsS78 w0 w g s0_0 s0_1 s0_2 s0_3 s0_4) (hB : Below w0.heap.size w0 w) (hG : GL w0) (At : sat_Clamp.f a2 0 1125899906842624 = some t) (c : s0_3 = true) (hc : decide (wrap64 (t - s0_4) < 200000) = true) :
  Calls Tryd.prog 26 #[.pointer (some ⟨g, 0, none⟩), .int .i64 a1, .int .i64 a2] w fun e w' => e = .returned (.int .i64 s0_0) ∧ IsS78 w0 w' g s0_0 s0_1 s0_2 true s0_4 ∧ Below w0.heap.size w0 w' ∧ KeepBut w w' g none := by
 have hpn : ∀ (a_ : Addr) (W_ : World), (Go.binOp .eql 51 (.pointer (some a_)) (.pointer none)).run Tryd.prog W_ = .ok (.bool false) W_ := fun _ _ => by kernel_rfl
 subst c
 go_enter Tryd.func26, Tryd.ntmps26
 go_wp2_with (first | ((with_reducible refine gate_dst (N := 14) rfl ?_); refine goesL_ (some 14) rfl rfl Tryd.func23 (by kernel_rfl) rfl #[.int .i64 a2, .int .i64 0, .int .i64 1125899906842624] rfl (by (try simp only [List.map_toArray, List.map_cons, List.map_nil]); first | done | rfl) ?_; (with_reducible refine (sat_Clamp.calls a2 0 1125899906842624 t _ At).mono ?_); rintro e w' ⟨rfl, ⟨nd, rfl⟩⟩; refine ⟨_, rfl, ?_⟩; have hI1 := IsS78.drewN hI nd; have hB1 := pw_below_drewN hB nd; have hK1 := keep_drewN (KeepBut.refl w g none) nd; generalize World.drewN w nd = W1 at hI1 hB1 hK1 ⊢; have hc0_ : W1.cell? ⟨g, 0, none⟩ = some (.int .i64 s0_0) := IsS78.cell_0 hI1; have hf0_ := IsS78.froz_0 hI1; have hc1_ : W1.cell? ⟨g, 1, none⟩ = some (.int .i64 s0_1) := IsS78.cell_1 hI1; have hf1_ := IsS78.froz_1 hI1; have hc2_ : W1.cell? ⟨g, 2, none⟩ = some (.int .i64 s0_2) := IsS78.cell_2 hI1; have hf2_ := IsS78.froz_2 hI1; have hc3_ : W1.cell? ⟨g, 3, none⟩ = some (.bool true) := IsS78.cell_3 hI1; have hf3_ := IsS78.froz_3 hI1; have hc4_ : W1.cell? ⟨g, 4, none⟩ = some (.int .i64 s0_4) := IsS78.cell_4 hI1; have hf4_ := IsS78.froz_4 hI1))
 go_ret
 exact ⟨rfl, hI1, hB1, hK1⟩
theorem clamp_le {a n : Int} (h : sat_Clamp.f a 0 256 = some n) : n ≤ 256 := by
 unfold sat_Clamp.f at h
 repeat' split at h
 all_goals (obtain rfl := Option.some.inj h; omega)
theorem lossy_Lossy_Update.calls (g : Nat) (s0_0 : Int) (s0_1 : Int) (s0_2 : Int) (s0_3 : Bool) (s0_4 : Int) (a1 : Int) (a2 : Int) (r1 : Int) (r2 : Int) (r3 : Int) (r4 : Int) (r5 : Bool) (r6 : Int) (w0 w : World) (hI : IsS78 w0 w g s0_0 s0_1 s0_2 s0_3 s0_4) (hB : Below w0.heap.size w0 w) (hG : GL w0) (h : lossy_Lossy_Update.f s0_0 s0_1 s0_2 s0_3 s0_4 a1 a2 = some (r1, r2, r3, r4, r5, r6)) :
  Calls Tryd.prog 26 #[.pointer (some ⟨g, 0, none⟩), .int .i64 a1, .int .i64 a2] w fun e w' => e = .returned (.int .i64 r1) ∧ IsS78 w0 w' g r2 r3 r4 r5 r6 ∧ Below w0.heap.size w0 w' ∧ KeepBut w w' g none := by
 unfold lossy_Lossy_Update.f at h
 obtain ⟨t, At, h⟩ := Option.bind_eq_some_iff.mp h
 by_cases e : s0_3 = true ∧ wrap64 (t - s0_4) < 200000
 ·rw [if_pos e] at h
  simp only [Option.some.injEq, Prod.mk.injEq] at h
  obtain ⟨rfl, rfl, rfl, rfl, rfl, rfl⟩ := h
  obtain ⟨e1, e2⟩ := e
  subst e1
  exact lossy_upds g _ _ _ true _ a1 a2 t w0 w hI hB hG At rfl (decide_eq_true e2)
 rw [if_neg e] at h
 have c : s0_3 = false ∨ s0_3 = true ∧ decide (wrap64 (t - s0_4) < 200000) = false := by
  cases s0_3
  ·exact .inl rfl
  ·exact .inr ⟨rfl, decide_eq_false fun h_ => e ⟨rfl, h_⟩⟩
 obtain ⟨n, An, h⟩ := Option.bind_eq_some_iff.mp h
 obtain ⟨q, Aq, h⟩ := Option.bind_eq_some_iff.mp h
 obtain ⟨t3, A3, h⟩ := Option.bind_eq_some_iff.mp h
 simp only [Option.some.injEq, Prod.mk.injEq] at h
 obtain ⟨rfl, rfl, rfl, rfl, rfl, rfl⟩ := h
 have hn := clamp_le An
 unfold lrow at Aq
 by_cases n1 : n ≤ 5
 ·rw [if_pos n1] at Aq
  obtain ⟨u, Au, Aq⟩ := Option.bind_eq_some_iff.mp Aq
  obtain rfl := Option.some.inj Aq
  exact lossy_upd0 g _ _ _ s0_3 s0_4 a1 a2 n t w0 w hI hB hG u Au t3 A3 At An n1 hn c
 rw [if_neg n1] at Aq
 by_cases n2 : n ≤ 26
 ·rw [if_pos n2] at Aq
  obtain ⟨u, Au, Aq⟩ := Option.bind_eq_some_iff.mp Aq
  obtain rfl := Option.some.inj Aq
  exact lossy_upd1 g _ _ _ s0_3 s0_4 a1 a2 n t w0 w hI hB hG u Au t3 A3 At An n1 n2 hn c
 rw [if_neg n2] at Aq
 obtain ⟨u, Au, Aq⟩ := Option.bind_eq_some_iff.mp Aq
 obtain rfl := Option.some.inj Aq
 exact lossy_upd2 g _ _ _ s0_3 s0_4 a1 a2 n t w0 w hI hB hG u Au t3 A3 At An n1 n2 hn c
end Go.Proofs.YtphgeljglhjamaaDoor.P
end

section
namespace Go.Proofs.YtphgeljglhjamaaDoor.P
open Go.RowKit Go.Proofs.YtphgeljglhjamaaDoorW.PrintWords Go.Proofs.YtphgeljglhjamaaDoorW.PrintLast Go.Proofs.YtphgeljglhjamaaDoorW.PrintMore
attribute [local go_sem] max2_int min2_int max_two min_two max_three min_three max_four min_four   -- for this text's walks alone
set_option linter.unusedVariables false
set_option linter.unusedSimpArgs false
def gcc_Gcc_Hear.f (s0_0 : GccS) (l1 : List S41) (a2 : Int) (a3 : Int) (a4 : Int) : Option (Int × GccS) := if l1.length = 0 then ((lossy_Lossy_Update.f s0_0.l0 s0_0.l1 s0_0.l2 s0_0.l3 s0_0.l4 a2 a4).bind fun (x1, x2, x3, x4, x5, x6) => some (mn s0_0.a0 x2, { s0_0 with l0 := x2, l1 := x3, l2 := x4, l3 := x5, l4 := x6 })) else none
set_option maxHeartbeats 8000000 in
set_option maxRecDepth 100000 in
theorem gcc_Gcc_Hear.calls (g : Nat) (s0_0 : GccS) (A1 : Option Addr) (c1 : Nat) (l1 : List S41) (a2 : Int) (a3 : Int) (a4 : Int) (r1 : Int) (r2 : GccS) (w0 w : World) (hI : IsS65 w0 w g s0_0) (hB : Below w0.heap.size w0 w) (hr1 : ∀ W_, KeepBut w W_ g none → Kd.C k41 W_ A1 l1.length l1) (hc1 : l1.length ≤ c1) (hG : GL w0) (h : gcc_Gcc_Hear.f s0_0 l1 a2 a3 a4 = some (r1, r2)) :
  Calls Tryd.prog 10 #[.pointer (some ⟨g, 0, none⟩), .slice A1 l1.length c1, .int .i64 a2, .int .i64 a3, .int .i64 a4] w fun e w' => e = .returned (.int .i64 r1) ∧ IsS65 w0 w' g r2 ∧ Below w0.heap.size w0 w' ∧ True := by
 have HTB := Aside0.mk hG
 clear hG
 have hu65 := Tryd.underlying65
 have hu63 := Tryd.underlying63
 have hpn25_eql : ∀ (a_ : Addr) (W_ : World), (Go.binOp .eql 25 (.pointer (some a_)) (.pointer none)).run Tryd.prog W_ = .ok (.bool false) W_ := fun _ _ => by kernel_rfl
 have hnn25_eql : ∀ (W_ : World), (Go.binOp .eql 25 (.pointer none) (.pointer none)).run Tryd.prog W_ = .ok (.bool true) W_ := fun _ => by kernel_rfl
 simp only [gcc_Gcc_Hear.f] at h
 by_cases c : l1.length = 0
 rotate_left
 ·rw [if_neg c] at h; exact absurd h (by simp)
 rw [if_pos c] at h
 obtain rfl := List.eq_nil_of_length_eq_zero c
 clear c hr1 hc1
 obtain ⟨⟨x1, x2, x3, x4, x5, x6⟩, A1_, h⟩ := Option.bind_eq_some_iff.mp h
 have A1_ := Aside0.mk A1_
 simp only [Option.some.injEq, Prod.mk.injEq] at h
 obtain ⟨rfl, rfl⟩ := h
 obtain ⟨gr, tr, de, ai, lo, h0⟩ := hI
 have HG := Aside0.mk h0
 have HB := Aside0.mk hB
 clear hB
 have hc4_ : w.cell? ⟨g, 4, none⟩ = some (.pointer (some ⟨lo, 0, none⟩)) := (blk_cell h0.blk 4).trans rfl
 have hf4_ := blk_frozen h0.blk 4
 clear h0
 go_enter Tryd.func10, Tryd.ntmps10
 go_wp2
 refine wp_loop_rounds 1 ?_
 rw [rounds_succ]
 go_wp2_with (first | (go_at_call 26; (with_reducible refine (lossy_Lossy_Update.calls lo s0_0.l0 s0_0.l1 s0_0.l2 s0_0.l3 s0_0.l4 a2 a4 x1 x2 x3 x4 x5 x6 w0 _ ?side1 ?side2 ?sideG A1_.out).mono ?_); (case sideG => first | exact HTB.out | exact GL.below HTB.out (by repeat (first | (with_reducible first | exact HB.out | apply below_alloc | apply pw_below_drewN | apply below_drew1) | exact HB.out))); (case side1 => repeat (first | exact HG.out.lo | apply IsS78.alloc | apply IsS78.drewN | apply IsS78.drew)); (case side2 => repeat (first | (with_reducible first | exact HB.out | apply below_alloc | apply pw_below_drewN | apply below_drew1) | exact HB.out)); rintro e w9 ⟨rfl, hi, hb, hk⟩; have n0_ := Aside0.mk (G65.lossy (show G65 w0 _ g gr tr de ai lo s0_0 from by repeat (first | exact HG.out | refine G65.below ?_ (below_alloc (Below.refl _ _) _) | refine G65.below ?_ (pw_below_drewN (Below.refl _ _) _) | refine G65.below ?_ (below_drew (Below.refl _ _)))) hk hi); have n1_ := Aside0.mk hb; clear HG HB; have HG := n0_; have HB := n1_; clear n0_ n1_ hi hb hk) | (go_at_call 13; (with_reducible refine (gcc_Gcc_Rate.calls g { s0_0 with l0 := x2, l1 := x3, l2 := x4, l3 := x5, l4 := x6 } (mn s0_0.a0 x2) { s0_0 with l0 := x2, l1 := x3, l2 := x4, l3 := x5, l4 := x6 } w0 _ ?side1 ?side2 rfl).mono ?_); (case side1 => exact ⟨gr, tr, de, ai, lo, by repeat (first | exact HG.out | refine G65.below ?_ (below_alloc (Below.refl _ _) _) | refine G65.below ?_ (pw_below_drewN (Below.refl _ _) _) | refine G65.below ?_ (below_drew (Below.refl _ _)))⟩); (case side2 => repeat (first | (with_reducible first | exact HB.out | apply below_alloc | apply pw_below_drewN | apply below_drew1) | exact HB.out)); rintro e w10 ⟨rfl, hi, hb, hk⟩; have HS := Aside0.mk hi; have n1_ := Aside0.mk hb; clear HG HB; have HB := n1_; clear n1_ hi hb hk))
 go_ret
 exact ⟨rfl, by repeat (first | exact HS.out | apply IsS65.alloc | apply IsS65.drewN | apply IsS65.drew), by repeat (first | (with_reducible first | exact HB.out | apply below_alloc | apply pw_below_drewN | apply below_drew1) | exact HB.out), trivial⟩
def gcc_Gcc_Hear.nilrecv.f (l1 : List S41) (a2 : Int) (a3 : Int) (a4 : Int) : Option Int := some 0
set_option maxHeartbeats 8000000 in
set_option maxRecDepth 100000 in
theorem gcc_Gcc_Hear.nilrecv.calls (A1 : Option Addr) (c1 : Nat) (l1 : List S41) (a2 : Int) (a3 : Int) (a4 : Int) (r : Int) (w : World) (hr1 : Kd.C k41 w A1 l1.length l1) (hc1 : l1.length ≤ c1) (h : gcc_Gcc_Hear.nilrecv.f l1 a2 a3 a4 = some r) :
  Calls Tryd.prog 10 #[.pointer none, .slice A1 l1.length c1, .int .i64 a2, .int .i64 a3, .int .i64 a4] w fun e w' => e = .returned (.int .i64 r) ∧ Below w.heap.size w w' := by
 have hpn25_eql : ∀ (a_ : Addr) (W_ : World), (Go.binOp .eql 25 (.pointer (some a_)) (.pointer none)).run Tryd.prog W_ = .ok (.bool false) W_ := fun _ _ => by kernel_rfl
 have hnn25_eql : ∀ (W_ : World), (Go.binOp .eql 25 (.pointer none) (.pointer none)).run Tryd.prog W_ = .ok (.bool true) W_ := fun _ => by kernel_rfl
 have H : (some 0 : Option Int) = some r := h
 clear h
 obtain rfl := Option.some.inj H
 clear H
 go_enter Tryd.func10, Tryd.ntmps10
 go_wp2
 go_ret
 exact ⟨by first | rfl | (simp; done) | (simp [*]; done), by repeat (first | exact Below.refl _ _ | apply below_alloc | apply pw_below_drewN | apply below_drew)⟩
def gcc_Gcc_Rtt.f (s0_0 : GccS) : Option (Int × GccS) := some (s0_0.rtt, s0_0)
set_option maxHeartbeats 8000000 in
set_option maxRecDepth 100000 in
theorem gcc_Gcc_Rtt.calls (g : Nat) (s0_0 : GccS) (r1 : Int) (r2 : GccS) (w0 w : World) (hI : IsS65 w0 w g s0_0) (hB : Below w0.heap.size w0 w) (h : gcc_Gcc_Rtt.f s0_0 = some (r1, r2)) :
  Calls Tryd.prog 11 #[.pointer (some ⟨g, 0, none⟩)] w fun e w' => e = .returned (.int .i64 r1) ∧ IsS65 w0 w' g r2 ∧ Below w0.heap.size w0 w' ∧ True := by
 have hu65 := Tryd.underlying65
 have hu63 := Tryd.underlying63
 have hpn25_eql : ∀ (a_ : Addr) (W_ : World), (Go.binOp .eql 25 (.pointer (some a_)) (.pointer none)).run Tryd.prog W_ = .ok (.bool false) W_ := fun _ _ => by kernel_rfl
 have hnn25_eql : ∀ (W_ : World), (Go.binOp .eql 25 (.pointer none) (.pointer none)).run Tryd.prog W_ = .ok (.bool true) W_ := fun _ => by kernel_rfl
 simp only [gcc_Gcc_Rtt.f, Option.some.injEq, Prod.mk.injEq] at h
 obtain ⟨rfl, rfl⟩ := h
 obtain ⟨gr, tr, de, ai, lo, h0⟩ := hI
 have HS : Aside0 (IsS65 w0 w g s0_0) := ⟨⟨gr, tr, de, ai, lo, h0⟩⟩
 have hc5_ : w.cell? ⟨g, 5, none⟩ = some (.int .i64 s0_0.rtt) := (blk_cell h0.blk 5).trans rfl
 have hf5_ := blk_frozen h0.blk 5
 clear h0
 go_enter Tryd.func11, Tryd.ntmps11
 go_wp2
 go_ret
 exact ⟨rfl, by repeat (first | exact HS.out | apply IsS65.alloc | apply IsS65.drewN | apply IsS65.drew), by repeat (first | exact hB | apply below_alloc | apply pw_below_drewN | apply below_drew1), trivial⟩
def gcc_Gcc_Rtt.nilrecv.f : Option Int := some 0
set_option maxHeartbeats 8000000 in
set_option maxRecDepth 100000 in
theorem gcc_Gcc_Rtt.nilrecv.calls (r : Int) (w : World) (h : gcc_Gcc_Rtt.nilrecv.f = some r) :
  Calls Tryd.prog 11 #[.pointer none] w fun e w' => e = .returned (.int .i64 r) ∧ Below w.heap.size w w' := by
 have hpn25_eql : ∀ (a_ : Addr) (W_ : World), (Go.binOp .eql 25 (.pointer (some a_)) (.pointer none)).run Tryd.prog W_ = .ok (.bool false) W_ := fun _ _ => by kernel_rfl
 have hnn25_eql : ∀ (W_ : World), (Go.binOp .eql 25 (.pointer none) (.pointer none)).run Tryd.prog W_ = .ok (.bool true) W_ := fun _ => by kernel_rfl
 have H : (some 0 : Option Int) = some r := h
 clear h
 obtain rfl := Option.some.inj H
 clear H
 go_enter Tryd.func11, Tryd.ntmps11
 go_wp2
 go_ret
 exact ⟨by first | rfl | (simp; done) | (simp [*]; done), by repeat (first | exact Below.refl _ _ | apply below_alloc | apply pw_below_drewN | apply below_drew)⟩
def flywheellaw22_wakes.f  : Option (Bool) := if (gcc_New.made.f 1000000 1000 5000000).isSome = true then ((gcc_New.made.f 1000000 1000 5000000).bind fun bt355 => (if bt355.2 = 0 then ((gcc_Gcc_Hear.f bt355.1 ([] : List (S41)) 128 0 0).bind fun bt358 => (if bt358.1 = 750000 then ((gcc_Gcc_Usage.f bt358.2).bind fun bt360 => (if bt360.1 = 0 then ((gcc_Gcc_Rtt.f bt360.2).bind fun bt362 => (some (bt362.1 == 100000))) else (some false))) else (some false))) else (some false))) else ((gcc_New.nil.f 1000000 1000 5000000).bind fun t364 => (if t364 = 0 then ((gcc_Gcc_Hear.nilrecv.f ([] : List (S41)) 128 0 0).bind fun t365 => (if t365 = 750000 then ((gcc_Gcc_Usage.nilrecv.f).bind fun t366 => (if t366 = 0 then ((gcc_Gcc_Rtt.nilrecv.f).bind fun t367 => (some (t367 == 100000))) else (some false))) else (some false))) else (some false)))
set_option maxHeartbeats 8000000 in
set_option maxRecDepth 100000 in
theorem flywheellaw22_wakes.calls  (r : Bool) (w : World) (hG : GL w) (h : flywheellaw22_wakes.f  = some r) :
  Calls Tryd.prog 9 #[] w fun e w' => e = .returned (.bool r) ∧ Below w.heap.size w w' := by
 have HTB := Aside0.mk hG
 clear hG
 have HB := Aside0.mk (Below.refl w.heap.size w)
 have H : (if (gcc_New.made.f 1000000 1000 5000000).isSome = true then ((gcc_New.made.f 1000000 1000 5000000).bind fun bt355 => (if bt355.2 = 0 then ((gcc_Gcc_Hear.f bt355.1 ([] : List (S41)) 128 0 0).bind fun bt358 => (if bt358.1 = 750000 then ((gcc_Gcc_Usage.f bt358.2).bind fun bt360 => (if bt360.1 = 0 then ((gcc_Gcc_Rtt.f bt360.2).bind fun bt362 => (some (bt362.1 == 100000))) else (some false))) else (some false))) else (some false))) else ((gcc_New.nil.f 1000000 1000 5000000).bind fun t364 => (if t364 = 0 then ((gcc_Gcc_Hear.nilrecv.f ([] : List (S41)) 128 0 0).bind fun t365 => (if t365 = 750000 then ((gcc_Gcc_Usage.nilrecv.f).bind fun t366 => (if t366 = 0 then ((gcc_Gcc_Rtt.nilrecv.f).bind fun t367 => (some (t367 == 100000))) else (some false))) else (some false))) else (some false)))) = some r := h
 clear h
 by_cases c1 : (gcc_New.made.f 1000000 1000 5000000).isSome = true
 ·rw [if_pos c1] at H
  have c1b0 : (gcc_New.made.f 1000000 1000 5000000).isSome = true := c1
  clear c1
  replace H := Option.bind_eq_some_iff.mp H
  obtain ⟨⟨t355, t357⟩, A20, H⟩ := H
  replace H : (if t357 = 0 then ((gcc_Gcc_Hear.f t355 ([] : List (S41)) 128 0 0).bind fun bt358 => (if bt358.1 = 750000 then ((gcc_Gcc_Usage.f bt358.2).bind fun bt360 => (if bt360.1 = 0 then ((gcc_Gcc_Rtt.f bt360.2).bind fun bt362 => (some (bt362.1 == 100000))) else (some false))) else (some false))) else (some false)) = some r := H
  have A2 := Aside0.mk A20
  clear A20
  by_cases c3 : t357 = 0
  ·rw [if_pos c3] at H
   have c3b0 : (t357 == 0) = true := beq_iff_eq.mpr c3
   have c3b1 : (t357 != 0) = false := bne_eq_false_iff_eq.mpr c3
   clear c3
   replace H := Option.bind_eq_some_iff.mp H
   obtain ⟨⟨t358, t359⟩, A40, H⟩ := H
   replace H : (if t358 = 750000 then ((gcc_Gcc_Usage.f t359).bind fun bt360 => (if bt360.1 = 0 then ((gcc_Gcc_Rtt.f bt360.2).bind fun bt362 => (some (bt362.1 == 100000))) else (some false))) else (some false)) = some r := H
   have A4 := Aside0.mk A40
   clear A40
   by_cases c5 : t358 = 750000
   ·rw [if_pos c5] at H
    have c5b0 : (t358 == 750000) = true := beq_iff_eq.mpr c5
    have c5b1 : (t358 != 750000) = false := bne_eq_false_iff_eq.mpr c5
    clear c5
    replace H := Option.bind_eq_some_iff.mp H
    obtain ⟨⟨t360, t361⟩, A60, H⟩ := H
    replace H : (if t360 = 0 then ((gcc_Gcc_Rtt.f t361).bind fun bt362 => (some (bt362.1 == 100000))) else (some false)) = some r := H
    have A6 := Aside0.mk A60
    clear A60
    by_cases c7 : t360 = 0
    ·rw [if_pos c7] at H
     have c7b0 : (t360 == 0) = true := beq_iff_eq.mpr c7
     have c7b1 : (t360 != 0) = false := bne_eq_false_iff_eq.mpr c7
     clear c7
     replace H := Option.bind_eq_some_iff.mp H
     obtain ⟨⟨t362, t363⟩, A80, H⟩ := H
     replace H : (some (t362 == 100000)) = some r := H
     have A8 := Aside0.mk A80
     clear A80
     obtain rfl := Option.some.inj H
     go_enter Tryd.func9, Tryd.ntmps9
     go_wp2_with (first | ((with_reducible refine gate_callee (f := 7) rfl ?_); refine goesL_ (some 4) rfl rfl Tryd.func7 (by kernel_rfl) rfl #[.int .i64 1000000, .int .i64 1000, .int .i64 5000000] rfl (by (try simp only [List.map_toArray, List.map_cons, List.map_nil]); first | done | rfl | (simp only [List.length_drop, List.length_take]; rfl)) ?_; (with_reducible refine (gcc_New.made.calls 1000000 1000 5000000 t355 t357 _ _ (Below.refl _ _) A2.out).mono ?_); rintro e w9 ⟨g356, rfl, hi, hb, hb2⟩; refine ⟨_, rfl, ?_⟩; have n0_ := Aside0.mk (below_step (by repeat (first | (with_reducible first | exact HB.out | apply below_alloc | apply pw_below_drewN | apply below_drew1) | exact HB.out)) hb2); have n1_ := Aside0.mk ((IsS65.rebase hi (below_size (by repeat (first | (with_reducible first | exact HB.out | apply below_alloc | apply pw_below_drewN | apply below_drew1) | exact HB.out))))); clear HB; have HB := n0_; have HI356 := n1_; clear n0_ n1_; (try clear hb); (try clear hb2); (try clear hk); (try clear hi)) | (go_at_call 10; (refine (gcc_Gcc_Hear.calls g356 t355 _ _ ([] : List (S41)) 128 0 0 t358 t359 w _ ?side1 ?side2 ?side3 ?side4 ?sideG A4.out).mono ?_); (case sideG => first | exact HTB.out | exact GL.below HTB.out (by repeat (first | (with_reducible first | exact HB.out | apply below_alloc | apply pw_below_drewN | apply below_drew1) | exact HB.out))); (case side1 => repeat (first | (with_reducible first | exact HI356.out | apply IsS65.alloc | apply IsS65.drewN | apply IsS65.drew | apply IsS65.set_0) | exact HI356.out)); (case side2 => repeat (first | (with_reducible first | exact HB.out | apply below_alloc | apply pw_below_drewN | apply below_drew1 | refine below_set ?_ (IsS65.ge HI356.out)) | exact HB.out)); (case side3 => exact Kd.C_foot_nil); (case side4 => exact Nat.le_refl _); rintro e w10 ⟨rfl, hi, hb, hk⟩; have n0_ := Aside0.mk (hb); have n1_ := Aside0.mk (hi); clear HB; clear HI356; have HB := n0_; have HI356 := n1_; clear n0_ n1_; (try clear hb); (try clear hb2); (try clear hk); (try clear hi)) | (go_at_call 12; (with_reducible refine (gcc_Gcc_Usage.calls g356 t359 t360 t361 w _ ?side1 ?side2 A6.out).mono ?_); (case side1 => repeat (first | (with_reducible first | exact HI356.out | apply IsS65.alloc | apply IsS65.drewN | apply IsS65.drew | apply IsS65.set_0) | exact HI356.out)); (case side2 => repeat (first | (with_reducible first | exact HB.out | apply below_alloc | apply pw_below_drewN | apply below_drew1 | refine below_set ?_ (IsS65.ge HI356.out)) | exact HB.out)); rintro e w11 ⟨rfl, hi, hb, hk⟩; have n0_ := Aside0.mk (hb); have n1_ := Aside0.mk (hi); clear HB; clear HI356; have HB := n0_; have HI356 := n1_; clear n0_ n1_; (try clear hb); (try clear hb2); (try clear hk); (try clear hi)) | (go_at_call 11; (with_reducible refine (gcc_Gcc_Rtt.calls g356 t361 t362 t363 w _ ?side1 ?side2 A8.out).mono ?_); (case side1 => repeat (first | (with_reducible first | exact HI356.out | apply IsS65.alloc | apply IsS65.drewN | apply IsS65.drew | apply IsS65.set_0) | exact HI356.out)); (case side2 => repeat (first | (with_reducible first | exact HB.out | apply below_alloc | apply pw_below_drewN | apply below_drew1 | refine below_set ?_ (IsS65.ge HI356.out)) | exact HB.out)); rintro e w12 ⟨rfl, hi, hb, hk⟩; have n0_ := Aside0.mk (hb); have n1_ := Aside0.mk (hi); clear HB; clear HI356; have HB := n0_; have HI356 := n1_; clear n0_ n1_; (try clear hb); (try clear hb2); (try clear hk); (try clear hi)))
     go_ret
     exact ⟨by first | rfl | (simp [errW_none, errW_some] <;> rfl) | (simp [*, errW_none, errW_some] <;> rfl), by repeat (first | (with_reducible first | exact HB.out | apply below_alloc | apply pw_below_drewN | apply below_drew1 | refine below_set ?_ (IsS65.ge HI356.out)) | exact HB.out)⟩
    ·rw [if_neg c7] at H
     have c7b0 : (t360 == 0) = false := beq_eq_false_iff_ne.mpr c7
     have c7b1 : (t360 != 0) = true := bne_iff_ne.mpr c7
     obtain rfl := Option.some.inj H
     go_enter Tryd.func9, Tryd.ntmps9
     go_wp2_with (first | ((with_reducible refine gate_callee (f := 7) rfl ?_); refine goesL_ (some 4) rfl rfl Tryd.func7 (by kernel_rfl) rfl #[.int .i64 1000000, .int .i64 1000, .int .i64 5000000] rfl (by (try simp only [List.map_toArray, List.map_cons, List.map_nil]); first | done | rfl | (simp only [List.length_drop, List.length_take]; rfl)) ?_; (with_reducible refine (gcc_New.made.calls 1000000 1000 5000000 t355 t357 _ _ (Below.refl _ _) A2.out).mono ?_); rintro e w13 ⟨g356, rfl, hi, hb, hb2⟩; refine ⟨_, rfl, ?_⟩; have n0_ := Aside0.mk (below_step (by repeat (first | (with_reducible first | exact HB.out | apply below_alloc | apply pw_below_drewN | apply below_drew1) | exact HB.out)) hb2); have n1_ := Aside0.mk ((IsS65.rebase hi (below_size (by repeat (first | (with_reducible first | exact HB.out | apply below_alloc | apply pw_below_drewN | apply below_drew1) | exact HB.out))))); clear HB; have HB := n0_; have HI356 := n1_; clear n0_ n1_; (try clear hb); (try clear hb2); (try clear hk); (try clear hi)) | (go_at_call 10; (refine (gcc_Gcc_Hear.calls g356 t355 _ _ ([] : List (S41)) 128 0 0 t358 t359 w _ ?side1 ?side2 ?side3 ?side4 ?sideG A4.out).mono ?_); (case sideG => first | exact HTB.out | exact GL.below HTB.out (by repeat (first | (with_reducible first | exact HB.out | apply below_alloc | apply pw_below_drewN | apply below_drew1) | exact HB.out))); (case side1 => repeat (first | (with_reducible first | exact HI356.out | apply IsS65.alloc | apply IsS65.drewN | apply IsS65.drew | apply IsS65.set_0) | exact HI356.out)); (case side2 => repeat (first | (with_reducible first | exact HB.out | apply below_alloc | apply pw_below_drewN | apply below_drew1 | refine below_set ?_ (IsS65.ge HI356.out)) | exact HB.out)); (case side3 => exact Kd.C_foot_nil); (case side4 => exact Nat.le_refl _); rintro e w14 ⟨rfl, hi, hb, hk⟩; have n0_ := Aside0.mk (hb); have n1_ := Aside0.mk (hi); clear HB; clear HI356; have HB := n0_; have HI356 := n1_; clear n0_ n1_; (try clear hb); (try clear hb2); (try clear hk); (try clear hi)) | (go_at_call 12; (with_reducible refine (gcc_Gcc_Usage.calls g356 t359 t360 t361 w _ ?side1 ?side2 A6.out).mono ?_); (case side1 => repeat (first | (with_reducible first | exact HI356.out | apply IsS65.alloc | apply IsS65.drewN | apply IsS65.drew | apply IsS65.set_0) | exact HI356.out)); (case side2 => repeat (first | (with_reducible first | exact HB.out | apply below_alloc | apply pw_below_drewN | apply below_drew1 | refine below_set ?_ (IsS65.ge HI356.out)) | exact HB.out)); rintro e w15 ⟨rfl, hi, hb, hk⟩; have n0_ := Aside0.mk (hb); have n1_ := Aside0.mk (hi); clear HB; clear HI356; have HB := n0_; have HI356 := n1_; clear n0_ n1_; (try clear hb); (try clear hb2); (try clear hk); (try clear hi)))
     go_ret
     exact ⟨by first | rfl | (simp [errW_none, errW_some] <;> rfl) | (simp [*, errW_none, errW_some] <;> rfl), by repeat (first | (with_reducible first | exact HB.out | apply below_alloc | apply pw_below_drewN | apply below_drew1 | refine below_set ?_ (IsS65.ge HI356.out)) | exact HB.out)⟩
   ·rw [if_neg c5] at H
    have c5b0 : (t358 == 750000) = false := beq_eq_false_iff_ne.mpr c5
    have c5b1 : (t358 != 750000) = true := bne_iff_ne.mpr c5
    obtain rfl := Option.some.inj H
    go_enter Tryd.func9, Tryd.ntmps9
    go_wp2_with (first | ((with_reducible refine gate_callee (f := 7) rfl ?_); refine goesL_ (some 4) rfl rfl Tryd.func7 (by kernel_rfl) rfl #[.int .i64 1000000, .int .i64 1000, .int .i64 5000000] rfl (by (try simp only [List.map_toArray, List.map_cons, List.map_nil]); first | done | rfl | (simp only [List.length_drop, List.length_take]; rfl)) ?_; (with_reducible refine (gcc_New.made.calls 1000000 1000 5000000 t355 t357 _ _ (Below.refl _ _) A2.out).mono ?_); rintro e w16 ⟨g356, rfl, hi, hb, hb2⟩; refine ⟨_, rfl, ?_⟩; have n0_ := Aside0.mk (below_step (by repeat (first | (with_reducible first | exact HB.out | apply below_alloc | apply pw_below_drewN | apply below_drew1) | exact HB.out)) hb2); have n1_ := Aside0.mk ((IsS65.rebase hi (below_size (by repeat (first | (with_reducible first | exact HB.out | apply below_alloc | apply pw_below_drewN | apply below_drew1) | exact HB.out))))); clear HB; have HB := n0_; have HI356 := n1_; clear n0_ n1_; (try clear hb); (try clear hb2); (try clear hk); (try clear hi)) | (go_at_call 10; (refine (gcc_Gcc_Hear.calls g356 t355 _ _ ([] : List (S41)) 128 0 0 t358 t359 w _ ?side1 ?side2 ?side3 ?side4 ?sideG A4.out).mono ?_); (case sideG => first | exact HTB.out | exact GL.below HTB.out (by repeat (first | (with_reducible first | exact HB.out | apply below_alloc | apply pw_below_drewN | apply below_drew1) | exact HB.out))); (case side1 => repeat (first | (with_reducible first | exact HI356.out | apply IsS65.alloc | apply IsS65.drewN | apply IsS65.drew | apply IsS65.set_0) | exact HI356.out)); (case side2 => repeat (first | (with_reducible first | exact HB.out | apply below_alloc | apply pw_below_drewN | apply below_drew1 | refine below_set ?_ (IsS65.ge HI356.out)) | exact HB.out)); (case side3 => exact Kd.C_foot_nil); (case side4 => exact Nat.le_refl _); rintro e w17 ⟨rfl, hi, hb, hk⟩; have n0_ := Aside0.mk (hb); have n1_ := Aside0.mk (hi); clear HB; clear HI356; have HB := n0_; have HI356 := n1_; clear n0_ n1_; (try clear hb); (try clear hb2); (try clear hk); (try clear hi)))
    go_ret
    exact ⟨by first | rfl | (simp [errW_none, errW_some] <;> rfl) | (simp [*, errW_none, errW_some] <;> rfl), by repeat (first | (with_reducible first | exact HB.out | apply below_alloc | apply pw_below_drewN | apply below_drew1 | refine below_set ?_ (IsS65.ge HI356.out)) | exact HB.out)⟩
  ·rw [if_neg c3] at H
   have c3b0 : (t357 == 0) = false := beq_eq_false_iff_ne.mpr c3
   have c3b1 : (t357 != 0) = true := bne_iff_ne.mpr c3
   obtain rfl := Option.some.inj H
   go_enter Tryd.func9, Tryd.ntmps9
   go_wp2_with (first | ((with_reducible refine gate_callee (f := 7) rfl ?_); refine goesL_ (some 4) rfl rfl Tryd.func7 (by kernel_rfl) rfl #[.int .i64 1000000, .int .i64 1000, .int .i64 5000000] rfl (by (try simp only [List.map_toArray, List.map_cons, List.map_nil]); first | done | rfl | (simp only [List.length_drop, List.length_take]; rfl)) ?_; (with_reducible refine (gcc_New.made.calls 1000000 1000 5000000 t355 t357 _ _ (Below.refl _ _) A2.out).mono ?_); rintro e w18 ⟨g356, rfl, hi, hb, hb2⟩; refine ⟨_, rfl, ?_⟩; have n0_ := Aside0.mk (below_step (by repeat (first | (with_reducible first | exact HB.out | apply below_alloc | apply pw_below_drewN | apply below_drew1) | exact HB.out)) hb2); have n1_ := Aside0.mk ((IsS65.rebase hi (below_size (by repeat (first | (with_reducible first | exact HB.out | apply below_alloc | apply pw_below_drewN | apply below_drew1) | exact HB.out))))); clear HB; have HB := n0_; have HI356 := n1_; clear n0_ n1_; (try clear hb); (try clear hb2); (try clear hk); (try clear hi)))
   go_ret
   exact ⟨by first | rfl | (simp [errW_none, errW_some] <;> rfl) | (simp [*, errW_none, errW_some] <;> rfl), by repeat (first | (with_reducible first | exact HB.out | apply below_alloc | apply pw_below_drewN | apply below_drew1 | refine below_set ?_ (IsS65.ge HI356.out)) | exact HB.out)⟩
 ·rw [if_neg c1] at H
  have c1b0 : (gcc_New.made.f 1000000 1000 5000000).isSome = false := by simpa using c1
  clear c1
  replace H := Option.bind_eq_some_iff.mp H
  obtain ⟨t364, A190, H⟩ := H
  replace H : (if t364 = 0 then ((gcc_Gcc_Hear.nilrecv.f ([] : List (S41)) 128 0 0).bind fun t365 => (if t365 = 750000 then ((gcc_Gcc_Usage.nilrecv.f).bind fun t366 => (if t366 = 0 then ((gcc_Gcc_Rtt.nilrecv.f).bind fun t367 => (some (t367 == 100000))) else (some false))) else (some false))) else (some false)) = some r := H
  have A19 := Aside0.mk A190
  clear A190
  by_cases c20 : t364 = 0
  ·rw [if_pos c20] at H
   have c20b0 : (t364 == 0) = true := beq_iff_eq.mpr c20
   have c20b1 : (t364 != 0) = false := bne_eq_false_iff_eq.mpr c20
   clear c20
   replace H := Option.bind_eq_some_iff.mp H
   obtain ⟨t365, A210, H⟩ := H
   replace H : (if t365 = 750000 then ((gcc_Gcc_Usage.nilrecv.f).bind fun t366 => (if t366 = 0 then ((gcc_Gcc_Rtt.nilrecv.f).bind fun t367 => (some (t367 == 100000))) else (some false))) else (some false)) = some r := H
   have A21 := Aside0.mk A210
   clear A210
   by_cases c22 : t365 = 750000
   ·rw [if_pos c22] at H
    have c22b0 : (t365 == 750000) = true := beq_iff_eq.mpr c22
    have c22b1 : (t365 != 750000) = false := bne_eq_false_iff_eq.mpr c22
    clear c22
    replace H := Option.bind_eq_some_iff.mp H
    obtain ⟨t366, A230, H⟩ := H
    replace H : (if t366 = 0 then ((gcc_Gcc_Rtt.nilrecv.f).bind fun t367 => (some (t367 == 100000))) else (some false)) = some r := H
    have A23 := Aside0.mk A230
    clear A230
    by_cases c24 : t366 = 0
    ·rw [if_pos c24] at H
     have c24b0 : (t366 == 0) = true := beq_iff_eq.mpr c24
     have c24b1 : (t366 != 0) = false := bne_eq_false_iff_eq.mpr c24
     clear c24
     replace H := Option.bind_eq_some_iff.mp H
     obtain ⟨t367, A250, H⟩ := H
     replace H : (some (t367 == 100000)) = some r := H
     have A25 := Aside0.mk A250
     clear A250
     obtain rfl := Option.some.inj H
     go_enter Tryd.func9, Tryd.ntmps9
     go_wp2_with (first | ((with_reducible refine gate_callee (f := 7) rfl ?_); refine goesL_ (some 4) rfl rfl Tryd.func7 (by kernel_rfl) rfl #[.int .i64 1000000, .int .i64 1000, .int .i64 5000000] rfl (by (try simp only [List.map_toArray, List.map_cons, List.map_nil]); first | done | rfl | (simp only [List.length_drop, List.length_take]; rfl)) ?_; (with_reducible refine (gcc_New.nil.calls 1000000 1000 5000000 t364 _ A19.out).mono ?_); rintro e w26 ⟨rfl, hb⟩; refine ⟨_, rfl, ?_⟩; have n0_ := Aside0.mk (below_step (by repeat (first | (with_reducible first | exact HB.out | apply below_alloc | apply pw_below_drewN | apply below_drew1) | exact HB.out)) hb); clear HB; have HB := n0_; clear n0_; (try clear hb); (try clear hb2); (try clear hk); (try clear hi)) | (go_at_call 10; (refine (gcc_Gcc_Hear.nilrecv.calls  _ _ ([] : List (S41)) 128 0 0 t365 _ ?side1 ?side2 A21.out).mono ?_); (case side1 => exact Kd.C_nil _ _); (case side2 => exact Nat.le_refl _); rintro e w27 ⟨rfl, hb⟩; have n0_ := Aside0.mk (below_step (by repeat (first | (with_reducible first | exact HB.out | apply below_alloc | apply pw_below_drewN | apply below_drew1) | exact HB.out)) hb); clear HB; have HB := n0_; clear n0_; (try clear hb); (try clear hb2); (try clear hk); (try clear hi)) | (go_at_call 12; (with_reducible refine (gcc_Gcc_Usage.nilrecv.calls  t366 _ A23.out).mono ?_); rintro e w28 ⟨rfl, hb⟩; have n0_ := Aside0.mk (below_step (by repeat (first | (with_reducible first | exact HB.out | apply below_alloc | apply pw_below_drewN | apply below_drew1) | exact HB.out)) hb); clear HB; have HB := n0_; clear n0_; (try clear hb); (try clear hb2); (try clear hk); (try clear hi)) | (go_at_call 11; (with_reducible refine (gcc_Gcc_Rtt.nilrecv.calls  t367 _ A25.out).mono ?_); rintro e w29 ⟨rfl, hb⟩; have n0_ := Aside0.mk (below_step (by repeat (first | (with_reducible first | exact HB.out | apply below_alloc | apply pw_below_drewN | apply below_drew1) | exact HB.out)) hb); clear HB; have HB := n0_; clear n0_; (try clear hb); (try clear hb2); (try clear hk); (try clear hi)))
     go_ret
     exact ⟨by first | rfl | (simp [errW_none, errW_some] <;> rfl) | (simp [*, errW_none, errW_some] <;> rfl), by repeat (first | (with_reducible first | exact HB.out | apply below_alloc | apply pw_below_drewN | apply below_drew1) | exact HB.out)⟩
    ·rw [if_neg c24] at H
     have c24b0 : (t366 == 0) = false := beq_eq_false_iff_ne.mpr c24
     have c24b1 : (t366 != 0) = true := bne_iff_ne.mpr c24
     obtain rfl := Option.some.inj H
     go_enter Tryd.func9, Tryd.ntmps9
     go_wp2_with (first | ((with_reducible refine gate_callee (f := 7) rfl ?_); refine goesL_ (some 4) rfl rfl Tryd.func7 (by kernel_rfl) rfl #[.int .i64 1000000, .int .i64 1000, .int .i64 5000000] rfl (by (try simp only [List.map_toArray, List.map_cons, List.map_nil]); first | done | rfl | (simp only [List.length_drop, List.length_take]; rfl)) ?_; (with_reducible refine (gcc_New.nil.calls 1000000 1000 5000000 t364 _ A19.out).mono ?_); rintro e w30 ⟨rfl, hb⟩; refine ⟨_, rfl, ?_⟩; have n0_ := Aside0.mk (below_step (by repeat (first | (with_reducible first | exact HB.out | apply below_alloc | apply pw_below_drewN | apply below_drew1) | exact HB.out)) hb); clear HB; have HB := n0_; clear n0_; (try clear hb); (try clear hb2); (try clear hk); (try clear hi)) | (go_at_call 10; (refine (gcc_Gcc_Hear.nilrecv.calls  _ _ ([] : List (S41)) 128 0 0 t365 _ ?side1 ?side2 A21.out).mono ?_); (case side1 => exact Kd.C_nil _ _); (case side2 => exact Nat.le_refl _); rintro e w31 ⟨rfl, hb⟩; have n0_ := Aside0.mk (below_step (by repeat (first | (with_reducible first | exact HB.out | apply below_alloc | apply pw_below_drewN | apply below_drew1) | exact HB.out)) hb); clear HB; have HB := n0_; clear n0_; (try clear hb); (try clear hb2); (try clear hk); (try clear hi)) | (go_at_call 12; (with_reducible refine (gcc_Gcc_Usage.nilrecv.calls  t366 _ A23.out).mono ?_); rintro e w32 ⟨rfl, hb⟩; have n0_ := Aside0.mk (below_step (by repeat (first | (with_reducible first | exact HB.out | apply below_alloc | apply pw_below_drewN | apply below_drew1) | exact HB.out)) hb); clear HB; have HB := n0_; clear n0_; (try clear hb); (try clear hb2); (try clear hk); (try clear hi)))
     go_ret
     exact ⟨by first | rfl | (simp [errW_none, errW_some] <;> rfl) | (simp [*, errW_none, errW_some] <;> rfl), by repeat (first | (with_reducible first | exact HB.out | apply below_alloc | apply pw_below_drewN | apply below_drew1) | exact HB.out)⟩
   ·rw [if_neg c22] at H
    have c22b0 : (t365 == 750000) = false := beq_eq_false_iff_ne.mpr c22
    have c22b1 : (t365 != 750000) = true := bne_iff_ne.mpr c22
    obtain rfl := Option.some.inj H
    go_enter Tryd.func9, Tryd.ntmps9
    go_wp2_with (first | ((with_reducible refine gate_callee (f := 7) rfl ?_); refine goesL_ (some 4) rfl rfl Tryd.func7 (by kernel_rfl) rfl #[.int .i64 1000000, .int .i64 1000, .int .i64 5000000] rfl (by (try simp only [List.map_toArray, List.map_cons, List.map_nil]); first | done | rfl | (simp only [List.length_drop, List.length_take]; rfl)) ?_; (with_reducible refine (gcc_New.nil.calls 1000000 1000 5000000 t364 _ A19.out).mono ?_); rintro e w33 ⟨rfl, hb⟩; refine ⟨_, rfl, ?_⟩; have n0_ := Aside0.mk (below_step (by repeat (first | (with_reducible first | exact HB.out | apply below_alloc | apply pw_below_drewN | apply below_drew1) | exact HB.out)) hb); clear HB; have HB := n0_; clear n0_; (try clear hb); (try clear hb2); (try clear hk); (try clear hi)) | (go_at_call 10; (refine (gcc_Gcc_Hear.nilrecv.calls  _ _ ([] : List (S41)) 128 0 0 t365 _ ?side1 ?side2 A21.out).mono ?_); (case side1 => exact Kd.C_nil _ _); (case side2 => exact Nat.le_refl _); rintro e w34 ⟨rfl, hb⟩; have n0_ := Aside0.mk (below_step (by repeat (first | (with_reducible first | exact HB.out | apply below_alloc | apply pw_below_drewN | apply below_drew1) | exact HB.out)) hb); clear HB; have HB := n0_; clear n0_; (try clear hb); (try clear hb2); (try clear hk); (try clear hi)))
    go_ret
    exact ⟨by first | rfl | (simp [errW_none, errW_some] <;> rfl) | (simp [*, errW_none, errW_some] <;> rfl), by repeat (first | (with_reducible first | exact HB.out | apply below_alloc | apply pw_below_drewN | apply below_drew1) | exact HB.out)⟩
  ·rw [if_neg c20] at H
   have c20b0 : (t364 == 0) = false := beq_eq_false_iff_ne.mpr c20
   have c20b1 : (t364 != 0) = true := bne_iff_ne.mpr c20
   obtain rfl := Option.some.inj H
   go_enter Tryd.func9, Tryd.ntmps9
   go_wp2_with (first | ((with_reducible refine gate_callee (f := 7) rfl ?_); refine goesL_ (some 4) rfl rfl Tryd.func7 (by kernel_rfl) rfl #[.int .i64 1000000, .int .i64 1000, .int .i64 5000000] rfl (by (try simp only [List.map_toArray, List.map_cons, List.map_nil]); first | done | rfl | (simp only [List.length_drop, List.length_take]; rfl)) ?_; (with_reducible refine (gcc_New.nil.calls 1000000 1000 5000000 t364 _ A19.out).mono ?_); rintro e w35 ⟨rfl, hb⟩; refine ⟨_, rfl, ?_⟩; have n0_ := Aside0.mk (below_step (by repeat (first | (with_reducible first | exact HB.out | apply below_alloc | apply pw_below_drewN | apply below_drew1) | exact HB.out)) hb); clear HB; have HB := n0_; clear n0_; (try clear hb); (try clear hb2); (try clear hk); (try clear hi)))
   go_ret
   exact ⟨by first | rfl | (simp [errW_none, errW_some] <;> rfl) | (simp [*, errW_none, errW_some] <;> rfl), by repeat (first | (with_reducible first | exact HB.out | apply below_alloc | apply pw_below_drewN | apply below_drew1) | exact HB.out)⟩
def flywheellaw22_GccNone.f (a0 : Int) (a1 : Int) : Option (Bool) := (gcc_Gcc_Hear.nilrecv.f ([] : List (S41)) a0 a1 a1).bind fun t368 => (if t368 = 0 then ((gcc_Gcc_Rate.nilrecv.f).bind fun t369 => (if t369 = 0 then ((gcc_Gcc_Usage.nilrecv.f).bind fun t370 => (if t370 = 0 then ((flywheellaw22_wakes.f).bind fun t371 => (some t371)) else (some false))) else (some false))) else (some false))
set_option maxHeartbeats 8000000 in
set_option maxRecDepth 100000 in
theorem flywheellaw22_GccNone.calls (a0 : Int) (a1 : Int) (r : Bool) (w : World) (hG : GL w) (h : flywheellaw22_GccNone.f a0 a1 = some r) :
  Calls Tryd.prog 5 #[.int .i64 a0, .int .i64 a1] w fun e w' => e = .returned (.bool r) ∧ Below w.heap.size w w' := by
 have HTB := Aside0.mk hG
 clear hG
 have HB := Aside0.mk (Below.refl w.heap.size w)
 have H : ((gcc_Gcc_Hear.nilrecv.f ([] : List (S41)) a0 a1 a1).bind fun t368 => (if t368 = 0 then ((gcc_Gcc_Rate.nilrecv.f).bind fun t369 => (if t369 = 0 then ((gcc_Gcc_Usage.nilrecv.f).bind fun t370 => (if t370 = 0 then ((flywheellaw22_wakes.f).bind fun t371 => (some t371)) else (some false))) else (some false))) else (some false))) = some r := h
 clear h
 replace H := Option.bind_eq_some_iff.mp H
 obtain ⟨t368, A30, H⟩ := H
 replace H : (if t368 = 0 then ((gcc_Gcc_Rate.nilrecv.f).bind fun t369 => (if t369 = 0 then ((gcc_Gcc_Usage.nilrecv.f).bind fun t370 => (if t370 = 0 then ((flywheellaw22_wakes.f).bind fun t371 => (some t371)) else (some false))) else (some false))) else (some false)) = some r := H
 have A3 := Aside0.mk A30
 clear A30
 by_cases c4 : t368 = 0
 ·rw [if_pos c4] at H
  have c4b0 : (t368 == 0) = true := beq_iff_eq.mpr c4
  have c4b1 : (t368 != 0) = false := bne_eq_false_iff_eq.mpr c4
  clear c4
  replace H := Option.bind_eq_some_iff.mp H
  obtain ⟨t369, A50, H⟩ := H
  replace H : (if t369 = 0 then ((gcc_Gcc_Usage.nilrecv.f).bind fun t370 => (if t370 = 0 then ((flywheellaw22_wakes.f).bind fun t371 => (some t371)) else (some false))) else (some false)) = some r := H
  have A5 := Aside0.mk A50
  clear A50
  by_cases c6 : t369 = 0
  ·rw [if_pos c6] at H
   have c6b0 : (t369 == 0) = true := beq_iff_eq.mpr c6
   have c6b1 : (t369 != 0) = false := bne_eq_false_iff_eq.mpr c6
   clear c6
   replace H := Option.bind_eq_some_iff.mp H
   obtain ⟨t370, A70, H⟩ := H
   replace H : (if t370 = 0 then ((flywheellaw22_wakes.f).bind fun t371 => (some t371)) else (some false)) = some r := H
   have A7 := Aside0.mk A70
   clear A70
   by_cases c8 : t370 = 0
   ·rw [if_pos c8] at H
    have c8b0 : (t370 == 0) = true := beq_iff_eq.mpr c8
    have c8b1 : (t370 != 0) = false := bne_eq_false_iff_eq.mpr c8
    clear c8
    replace H := Option.bind_eq_some_iff.mp H
    obtain ⟨t371, A90, H⟩ := H
    replace H : (some t371) = some r := H
    have A9 := Aside0.mk A90
    clear A90
    obtain rfl := Option.some.inj H
    go_enter Tryd.func5, Tryd.ntmps5
    go_wp2_with (first | ((with_reducible refine gate_callee (f := 10) rfl ?_); refine goesL_ (some 10) rfl rfl Tryd.func10 (by kernel_rfl) rfl #[.pointer none, .slice none 0 0, .int .i64 a0, .int .i64 a1, .int .i64 a1] rfl (by (try simp only [List.map_toArray, List.map_cons, List.map_nil]); first | done | rfl | (simp only [List.length_drop, List.length_take]; rfl)) ?_; (refine (gcc_Gcc_Hear.nilrecv.calls  _ _ ([] : List (S41)) a0 a1 a1 t368 _ ?side1 ?side2 A3.out).mono ?_); (case side1 => exact Kd.C_nil _ _); (case side2 => exact Nat.le_refl _); rintro e w10 ⟨rfl, hb⟩; refine ⟨_, rfl, ?_⟩; have n0_ := Aside0.mk (below_step (by repeat (first | (with_reducible first | exact HB.out | apply below_alloc | apply pw_below_drewN | apply below_drew1) | exact HB.out)) hb); clear HB; have HB := n0_; clear n0_; (try clear hb); (try clear hb2); (try clear hk); (try clear hi)) | (go_at_call 13; (with_reducible refine (gcc_Gcc_Rate.nilrecv.calls  t369 _ A5.out).mono ?_); rintro e w11 ⟨rfl, hb⟩; have n0_ := Aside0.mk (below_step (by repeat (first | (with_reducible first | exact HB.out | apply below_alloc | apply pw_below_drewN | apply below_drew1) | exact HB.out)) hb); clear HB; have HB := n0_; clear n0_; (try clear hb); (try clear hb2); (try clear hk); (try clear hi)) | (go_at_call 12; (with_reducible refine (gcc_Gcc_Usage.nilrecv.calls  t370 _ A7.out).mono ?_); rintro e w12 ⟨rfl, hb⟩; have n0_ := Aside0.mk (below_step (by repeat (first | (with_reducible first | exact HB.out | apply below_alloc | apply pw_below_drewN | apply below_drew1) | exact HB.out)) hb); clear HB; have HB := n0_; clear n0_; (try clear hb); (try clear hb2); (try clear hk); (try clear hi)) | (go_at_call 9; (with_reducible refine (flywheellaw22_wakes.calls  t371 _ ?sideG A9.out).mono ?_); (case sideG => first | exact HTB.out | exact GL.below HTB.out (by repeat (first | (with_reducible first | exact HB.out | apply below_alloc | apply pw_below_drewN | apply below_drew1) | exact HB.out))); rintro e w13 ⟨rfl, hb⟩; have n0_ := Aside0.mk (below_step (by repeat (first | (with_reducible first | exact HB.out | apply below_alloc | apply pw_below_drewN | apply below_drew1) | exact HB.out)) hb); clear HB; have HB := n0_; clear n0_; (try clear hb); (try clear hb2); (try clear hk); (try clear hi)))
    go_ret
    exact ⟨by first | rfl | (simp [errW_none, errW_some] <;> rfl) | (simp [*, errW_none, errW_some] <;> rfl), by repeat (first | (with_reducible first | exact HB.out | apply below_alloc | apply pw_below_drewN | apply below_drew1) | exact HB.out)⟩
   ·rw [if_neg c8] at H
    have c8b0 : (t370 == 0) = false := beq_eq_false_iff_ne.mpr c8
    have c8b1 : (t370 != 0) = true := bne_iff_ne.mpr c8
    obtain rfl := Option.some.inj H
    go_enter Tryd.func5, Tryd.ntmps5
    go_wp2_with (first | ((with_reducible refine gate_callee (f := 10) rfl ?_); refine goesL_ (some 10) rfl rfl Tryd.func10 (by kernel_rfl) rfl #[.pointer none, .slice none 0 0, .int .i64 a0, .int .i64 a1, .int .i64 a1] rfl (by (try simp only [List.map_toArray, List.map_cons, List.map_nil]); first | done | rfl | (simp only [List.length_drop, List.length_take]; rfl)) ?_; (refine (gcc_Gcc_Hear.nilrecv.calls  _ _ ([] : List (S41)) a0 a1 a1 t368 _ ?side1 ?side2 A3.out).mono ?_); (case side1 => exact Kd.C_nil _ _); (case side2 => exact Nat.le_refl _); rintro e w14 ⟨rfl, hb⟩; refine ⟨_, rfl, ?_⟩; have n0_ := Aside0.mk (below_step (by repeat (first | (with_reducible first | exact HB.out | apply below_alloc | apply pw_below_drewN | apply below_drew1) | exact HB.out)) hb); clear HB; have HB := n0_; clear n0_; (try clear hb); (try clear hb2); (try clear hk); (try clear hi)) | (go_at_call 13; (with_reducible refine (gcc_Gcc_Rate.nilrecv.calls  t369 _ A5.out).mono ?_); rintro e w15 ⟨rfl, hb⟩; have n0_ := Aside0.mk (below_step (by repeat (first | (with_reducible first | exact HB.out | apply below_alloc | apply pw_below_drewN | apply below_drew1) | exact HB.out)) hb); clear HB; have HB := n0_; clear n0_; (try clear hb); (try clear hb2); (try clear hk); (try clear hi)) | (go_at_call 12; (with_reducible refine (gcc_Gcc_Usage.nilrecv.calls  t370 _ A7.out).mono ?_); rintro e w16 ⟨rfl, hb⟩; have n0_ := Aside0.mk (below_step (by repeat (first | (with_reducible first | exact HB.out | apply below_alloc | apply pw_below_drewN | apply below_drew1) | exact HB.out)) hb); clear HB; have HB := n0_; clear n0_; (try clear hb); (try clear hb2); (try clear hk); (try clear hi)))
    go_ret
    exact ⟨by first | rfl | (simp [errW_none, errW_some] <;> rfl) | (simp [*, errW_none, errW_some] <;> rfl), by repeat (first | (with_reducible first | exact HB.out | apply below_alloc | apply pw_below_drewN | apply below_drew1) | exact HB.out)⟩
  ·rw [if_neg c6] at H
   have c6b0 : (t369 == 0) = false := beq_eq_false_iff_ne.mpr c6
   have c6b1 : (t369 != 0) = true := bne_iff_ne.mpr c6
   obtain rfl := Option.some.inj H
   go_enter Tryd.func5, Tryd.ntmps5
   go_wp2_with (first | ((with_reducible refine gate_callee (f := 10) rfl ?_); refine goesL_ (some 10) rfl rfl Tryd.func10 (by kernel_rfl) rfl #[.pointer none, .slice none 0 0, .int .i64 a0, .int .i64 a1, .int .i64 a1] rfl (by (try simp only [List.map_toArray, List.map_cons, List.map_nil]); first | done | rfl | (simp only [List.length_drop, List.length_take]; rfl)) ?_; (refine (gcc_Gcc_Hear.nilrecv.calls  _ _ ([] : List (S41)) a0 a1 a1 t368 _ ?side1 ?side2 A3.out).mono ?_); (case side1 => exact Kd.C_nil _ _); (case side2 => exact Nat.le_refl _); rintro e w17 ⟨rfl, hb⟩; refine ⟨_, rfl, ?_⟩; have n0_ := Aside0.mk (below_step (by repeat (first | (with_reducible first | exact HB.out | apply below_alloc | apply pw_below_drewN | apply below_drew1) | exact HB.out)) hb); clear HB; have HB := n0_; clear n0_; (try clear hb); (try clear hb2); (try clear hk); (try clear hi)) | (go_at_call 13; (with_reducible refine (gcc_Gcc_Rate.nilrecv.calls  t369 _ A5.out).mono ?_); rintro e w18 ⟨rfl, hb⟩; have n0_ := Aside0.mk (below_step (by repeat (first | (with_reducible first | exact HB.out | apply below_alloc | apply pw_below_drewN | apply below_drew1) | exact HB.out)) hb); clear HB; have HB := n0_; clear n0_; (try clear hb); (try clear hb2); (try clear hk); (try clear hi)))
   go_ret
   exact ⟨by first | rfl | (simp [errW_none, errW_some] <;> rfl) | (simp [*, errW_none, errW_some] <;> rfl), by repeat (first | (with_reducible first | exact HB.out | apply below_alloc | apply pw_below_drewN | apply below_drew1) | exact HB.out)⟩
 ·rw [if_neg c4] at H
  have c4b0 : (t368 == 0) = false := beq_eq_false_iff_ne.mpr c4
  have c4b1 : (t368 != 0) = true := bne_iff_ne.mpr c4
  obtain rfl := Option.some.inj H
  go_enter Tryd.func5, Tryd.ntmps5
  go_wp2_with (first | ((with_reducible refine gate_callee (f := 10) rfl ?_); refine goesL_ (some 10) rfl rfl Tryd.func10 (by kernel_rfl) rfl #[.pointer none, .slice none 0 0, .int .i64 a0, .int .i64 a1, .int .i64 a1] rfl (by (try simp only [List.map_toArray, List.map_cons, List.map_nil]); first | done | rfl | (simp only [List.length_drop, List.length_take]; rfl)) ?_; (refine (gcc_Gcc_Hear.nilrecv.calls  _ _ ([] : List (S41)) a0 a1 a1 t368 _ ?side1 ?side2 A3.out).mono ?_); (case side1 => exact Kd.C_nil _ _); (case side2 => exact Nat.le_refl _); rintro e w19 ⟨rfl, hb⟩; refine ⟨_, rfl, ?_⟩; have n0_ := Aside0.mk (below_step (by repeat (first | (with_reducible first | exact HB.out | apply below_alloc | apply pw_below_drewN | apply below_drew1) | exact HB.out)) hb); clear HB; have HB := n0_; clear n0_; (try clear hb); (try clear hb2); (try clear hk); (try clear hi)))
  go_ret
  exact ⟨by first | rfl | (simp [errW_none, errW_some] <;> rfl) | (simp [*, errW_none, errW_some] <;> rfl), by repeat (first | (with_reducible first | exact HB.out | apply below_alloc | apply pw_below_drewN | apply below_drew1) | exact HB.out)⟩
def flywheellaw22_GccNone.Pure : Prop := ∀ (a0 : Int) (a1 : Int), (Lit.int .i64 a0).wf = true → (Lit.int .i64 a1).wf = true → flywheellaw22_GccNone.f a0 a1 = some true
theorem flywheellaw22_GccNone.walk (P : flywheellaw22_GccNone.Pure) (a0 : Int) (a1 : Int) (w : World) (w0 : (Lit.int .i64 a0).wf = true) (w1 : (Lit.int .i64 a1).wf = true) (hG : GL w) :
  Calls Tryd.prog 5 #[.int .i64 a0, .int .i64 a1] w fun e w' => e = .returned (.bool true) ∧ Below w.heap.size w w' := by
 have h := P a0 a1 w0 w1
 refine (flywheellaw22_GccNone.calls a0 a1 true w hG h).mono ?_
 rintro e w' ⟨rfl, hd⟩
 exact ⟨rfl, hd⟩
end Go.Proofs.YtphgeljglhjamaaDoor.P
end

section
namespace Go.Proofs.YtphgeljglhjamaaDoor.Pure
open Go.RowKit Go.Proofs.YtphgeljglhjamaaDoor.P Go.Proofs.YtphgeljglhjamaaDoorW.PrintWords Go.Proofs.YtphgeljglhjamaaDoorW.PrintLast Go.Proofs.YtphgeljglhjamaaDoorW.PrintMore
set_option linter.unusedVariables false
set_option linter.unusedSimpArgs false
set_option maxRecDepth 100000 in
theorem wakes22 : flywheellaw22_wakes.f = some true := by kernel_rfl
theorem wk22 : ((flywheellaw22_wakes.f).bind fun t => some t) = some true := by rw [wakes22]; rfl
theorem GccNone : flywheellaw22_GccNone.Pure := by
  intro a b _ _
  unfold flywheellaw22_GccNone.f gcc_Gcc_Hear.nilrecv.f gcc_Gcc_Rate.nilrecv.f gcc_Gcc_Usage.nilrecv.f
  simp only [Option.bind_some, if_true]
  exact wk22
end Go.Proofs.YtphgeljglhjamaaDoor.Pure
end

section

end

-- PUT TOGETHER by a program of this session: of the claim's texts, what is used
import Derived.Test.YtaelmmbodigheaaKDetectPlays7
section
namespace Go.Proofs.Ytaelmmbodigheaa.P
open Go.RowKit Go.Proofs.YtaelmmbodigheaaW.PrintWords Go.Proofs.YtaelmmbodigheaaW.PrintLast Go.Proofs.YtaelmmbodigheaaW.PrintMore
attribute [local go_sem] max2_int min2_int max_two min_two max_three min_three max_four min_four   -- for this text's walks alone
set_option linter.unusedVariables false
set_option linter.unusedSimpArgs false
theorem mul64_ok (a b : Int) (ha : 0 ≤ a) (ha1 : a < 18446744073709551616) (hb : 0 ≤ b) (hb1 : b < 18446744073709551616) :
    bits_Mul64.f a b = some (a * b / 18446744073709551616, a * b % 18446744073709551616) := by
  obtain ⟨x, rfl⟩ := Int.eq_ofNat_of_zero_le ha
  obtain ⟨y, rfl⟩ := Int.eq_ofNat_of_zero_le hb
  have hx : x < 18446744073709551616 := by omega
  have hy : y < 18446744073709551616 := by omega
  obtain ⟨bd, bt, bw, hhi⟩ := Lib.mul64_hi x y hx hy
  have e1 : Go.bits .and .u64 (x : Int) 4294967295 = ((x % 4294967296 : Nat) : Int) := by rw [and_low32 _ ha (by omega)]; omega
  have e2 : Go.bits .and .u64 (y : Int) 4294967295 = ((y % 4294967296 : Nat) : Int) := by rw [and_low32 _ hb (by omega)]; omega
  have d1 : (x : Int) / 4294967296 = ((x / 4294967296 : Nat) : Int) := by omega
  have d2 : (y : Int) / 4294967296 = ((y / 4294967296 : Nat) : Int) := by omega
  unfold bits_Mul64.f
  rw [e1, e2, d1, d2]
  simp only [← Int.natCast_mul]
  have b3 := Lib.half_mul_le (a := x / 4294967296) (b := y % 4294967296) (by omega) (by omega)
  have b4 := Lib.half_mul_le (a := x % 4294967296) (b := y / 4294967296) (by omega) (by omega)
  have b5 := Lib.half_mul_le (a := x / 4294967296) (b := y / 4294967296) (by omega) (by omega)
  generalize (x % 4294967296) * (y % 4294967296) = w0 at *
  generalize (x / 4294967296) * (y % 4294967296) = p1 at *
  generalize (x % 4294967296) * (y / 4294967296) = p2 at *
  generalize (x / 4294967296) * (y / 4294967296) = p3 at *
  generalize x * y = N at *
  have w1 : IntKind.u64.wrap ((w0 : Nat) : Int) = (w0 : Int) := u64_id _ (by omega) (by omega)
  have w2 : IntKind.u64.wrap ((p1 : Nat) : Int) = (p1 : Int) := u64_id _ (by omega) (by omega)
  have w3 : IntKind.u64.wrap ((p2 : Nat) : Int) = (p2 : Int) := u64_id _ (by omega) (by omega)
  have w4 : IntKind.u64.wrap ((p3 : Nat) : Int) = (p3 : Int) := u64_id _ (by omega) (by omega)
  rw [w1, w2, w3, w4]
  have t : (p1 : Int) + (w0 : Int) / 4294967296 = ((p1 + w0 / 4294967296 : Nat) : Int) := by omega
  rw [t]
  generalize hT : p1 + w0 / 4294967296 = T at *
  have w5 : IntKind.u64.wrap ((T : Nat) : Int) = (T : Int) := u64_id _ (by omega) (by omega)
  have e3 : Go.bits .and .u64 (T : Int) 4294967295 = ((T % 4294967296 : Nat) : Int) := by rw [and_low32 _ (by omega) (by omega)]; omega
  rw [w5, e3]
  rw [u64_id (((T % 4294967296 : Nat) : Int) + (p2 : Int)) (by omega) (by omega), u64_id ((p3 : Int) + (T : Int) / 4294967296) (by omega) (by omega), u64_id _ (by omega) (by omega), u64_mod]
  congr 2
  · omega
theorem msize (a : Int) (h : isI64 a) : muldiv_size.f a = some (if a < 0 then -a else a) := by
  unfold isI64 at h
  unfold muldiv_size.f
  simp only [u64_mod]
  split
  · congr 1; omega
  · congr 1; omega
theorem quotient_tail (below : Bool) (hi lo : Int) (h0 : 0 ≤ hi) (l0 : 0 ≤ lo) (l1 : lo < 18446744073709551616) :
    muldiv_quotient.j2 3 below hi lo = some (hold64 (if below = true then -(hi * 18446744073709551616 + lo) else hi * 18446744073709551616 + lo)) := by
  cases below with
  | true =>
    simp only [muldiv_quotient.j2, muldiv_quotient.j3, muldiv_quotient.j4, if_true]
    unfold hold64
    by_cases hz : hi > 0
    · rw [if_pos hz, if_pos (by omega)]
    · rw [if_neg hz]
      by_cases hl : lo > 9223372036854775808
      · rw [decide_eq_true (by omega), if_pos rfl, if_pos (by omega)]
      · rw [decide_eq_false (by omega), if_neg (by simp), if_neg (by omega), if_neg (by omega)]
        congr 2
        rw [u64_mod]; unfold wrap64; omega
  | false =>
    simp only [muldiv_quotient.j2, muldiv_quotient.j3, muldiv_quotient.j4, Bool.false_eq_true, if_false]
    unfold hold64
    by_cases hz : hi > 0
    · rw [if_pos hz, if_pos trivial, if_neg (by omega), if_pos (by omega)]
    · rw [if_neg hz]
      by_cases hl : lo > 9223372036854775807
      · rw [decide_eq_true (by omega), if_pos rfl, if_neg (by omega), if_pos (by omega)]
      · rw [decide_eq_false (by omega), if_neg (by simp), if_neg (by omega), if_neg (by omega)]
        congr 2
        unfold wrap64; omega
theorem up_ok (left C : Int) (below : Bool) (how : Int) (h0 : 0 ≤ left) (h1 : left < C) (hC : C < 18446744073709551616) (hh : how = 1 ∨ how = 2 ∨ how = 3) :
    muldiv_up.f left C below how = some (decide (1 = (if below = true then (if how = 1 then (if 0 < left then 1 else 0) else if how = 3 then 0 else (if C < 2 * left then 1 else 0)) else (if how = 1 then 0 else if how = 3 then (if 0 < left then 1 else 0) else (if C ≤ 2 * left then 1 else 0)) : Int))) := by
  unfold muldiv_up.f
  have w : IntKind.u64.wrap (C - left) = C - left := u64_id _ (by omega) (by omega)
  rw [w]
  rcases hh with rfl | rfl | rfl <;> cases below <;> simp
  all_goals (try (split <;> simp_all <;> omega))
  all_goals (try omega)
theorem quotient_j1 (x2 how N C : Int) (below : Bool) (hx : isI64 x2) (hC : C = if x2 < 0 then -x2 else x2) (hC0 : 0 < C) (hN : 0 ≤ N) (hN1 : N ≤ 85070591730234615865843651857942052864) (hh : how = 1 ∨ how = 2 ∨ how = 3) :
    muldiv_quotient.j1 4 x2 how below (N / 18446744073709551616) (N % 18446744073709551616) = some (hold64 (rnd (if below = true then -N else N) C how)) := by
  have ms := msize x2 hx
  rw [← hC] at ms
  have hCu : C ≤ 9223372036854775808 := by unfold isI64 at hx; rw [hC]; split <;> omega
  obtain ⟨t1, t2, t3, t4⟩ := two_halves N C hN hC0
  simp only [muldiv_quotient.j1, ms, Option.bind_some]
  unfold muldiv_divided.f
  rw [if_pos ⟨⟨by omega, by omega⟩, ⟨by omega, by omega⟩, ⟨hC0, by omega⟩⟩]
  simp only [Option.bind_some]
  rw [← t2]
  have r0 := Int.emod_nonneg N (show C ≠ 0 by omega)
  have r1 := Int.emod_lt_of_pos N hC0
  rw [up_ok _ _ _ _ r0 r1 (by omega) hh, Option.bind_some]
  have q0 : 0 ≤ N / 18446744073709551616 / C := Int.ediv_nonneg (by omega) (by omega)
  have q1 : N / 18446744073709551616 / C ≤ N / 18446744073709551616 := Int.ediv_le_self _ (by omega)
  have val : ∀ u : Int, u = 0 ∨ u = 1 → (if decide (1 = u) = true then
        muldiv_quotient.j2 3 below (IntKind.u64.wrap (N / 18446744073709551616 / C + add64c ((N / 18446744073709551616 % C * 18446744073709551616 + N % 18446744073709551616) / C) 1 0)) (add64s ((N / 18446744073709551616 % C * 18446744073709551616 + N % 18446744073709551616) / C) 1 0)
      else muldiv_quotient.j2 3 below (N / 18446744073709551616 / C) ((N / 18446744073709551616 % C * 18446744073709551616 + N % 18446744073709551616) / C)) = some (hold64 (if below = true then -(N / C + u) else N / C + u)) := by
    intro u hu
    generalize (N / 18446744073709551616 % C * 18446744073709551616 + N % 18446744073709551616) / C = lo at *
    generalize N / 18446744073709551616 / C = hi at *
    rcases hu with rfl | rfl
    · rw [if_neg (by simp), quotient_tail below hi lo q0 t3 t4, Int.add_zero, t1]
    · rw [if_pos (by simp)]
      have s1 : add64s lo 1 0 = (lo + 1) % 18446744073709551616 := by unfold add64s; simp only [show (1 : Int).toNat = 1 from rfl, show (0 : Int).toNat = 0 from rfl]; omega
      have s2 : add64c lo 1 0 = (lo + 1) / 18446744073709551616 := by unfold add64c; simp only [show (1 : Int).toNat = 1 from rfl, show (0 : Int).toNat = 0 from rfl]; omega
      rw [s1, s2, u64_id _ (by omega) (by omega), quotient_tail below _ _ (by omega) (by omega) (by omega)]
      congr 3
      all_goals omega
  cases below with
  | true =>
    simp only [if_true] at val ⊢
    rw [rnd_neg N C how hC0]
    apply val
    split
    · split <;> simp
    · split
      · simp
      · split <;> simp
  | false =>
    simp only [Bool.false_eq_true, if_false] at val ⊢
    rw [rnd_pos N C how hC0]
    apply val
    split
    · simp
    · split
      · split <;> simp
      · split <;> simp
theorem quotient_ok (a b c how : Int) (ha : isI64 a) (hb : isI64 b) (hc : isI64 c) : muldiv_quotient.f 5 a b c how = some (mdq a b c how) := by
  unfold muldiv_quotient.f mdq
  by_cases hz : c = 0
  · rw [if_pos hz, if_pos (Or.inl hz)]; rfl
  rw [if_neg hz]
  by_cases hl : how < 1
  · rw [if_pos hl, if_pos (Or.inr (Or.inl hl))]; rfl
  rw [if_neg hl]
  by_cases hg : how > 3
  · rw [decide_eq_true hg, if_pos (Or.inr (Or.inr hg))]; rfl
  rw [decide_eq_false hg, if_neg (by omega)]
  simp only [muldiv_quotient.j0, Bool.false_eq_true, if_false]
  rw [msize a ha, msize b hb]
  simp only [Option.bind_some]
  have ha' := ha; have hb' := hb; have hc' := hc
  unfold isI64 at ha' hb' hc'
  rw [mul64_ok _ _ (by split <;> omega) (by split <;> omega) (by split <;> omega) (by split <;> omega)]
  simp only [Option.bind_some]
  have hN := abs_mul_le (a := if a < 0 then -a else a) (b := if b < 0 then -b else b) (by split <;> omega) (by split <;> omega) (by split <;> omega) (by split <;> omega)
  have hN0 := Int.mul_nonneg (a := if a < 0 then -a else a) (b := if b < 0 then -b else b) (by split <;> omega) (by split <;> omega)
  have J := fun bl => quotient_j1 c how ((if a < 0 then -a else a) * (if b < 0 then -b else b)) (if c < 0 then -c else c) bl hc rfl (by split <;> omega) hN0 hN (by omega)
  simp only [J]
  by_cases h1 : a < 0 <;> by_cases h2 : b < 0 <;> by_cases h3 : c < 0 <;> simp [h1, h2, h3, Int.neg_mul, Int.mul_neg]
def muldiv_quotient_s.f (a0 : Int) (a1 : Int) (a2 : Int) (a3 : Int) : Option (Int × Bool) := if isI64 a0 ∧ isI64 a1 ∧ isI64 a2 then some (mdq a0 a1 a2 a3) else none
theorem muldiv_quotient_s.calls (a0 : Int) (a1 : Int) (a2 : Int) (a3 : Int) (r1 : Int) (r2 : Bool) (w : World) (h : muldiv_quotient_s.f a0 a1 a2 a3 = some (r1, r2)) :
    Calls Try.prog 57 #[.int .i64 a0, .int .i64 a1, .int .i64 a2, .int .i64 a3] w fun e w' => e = .returned (.tuple #[.int .i64 r1, .bool r2]) ∧ Below w.heap.size w w' := by
  unfold muldiv_quotient_s.f at h
  split at h
  · rename_i hb
    exact muldiv_quotient.calls 5 a0 a1 a2 a3 r1 r2 w ((quotient_ok a0 a1 a2 a3 hb.1 hb.2.1 hb.2.2).trans h)
  · cases h
def muldiv_Do.f (a0 : Int) (a1 : Int) (a2 : Int) (a3 : Int) : Option (Int) := (muldiv_quotient_s.f a0 a1 a2 a3).bind fun bt118 => (some bt118.1)
set_option maxHeartbeats 8000000 in
set_option maxRecDepth 100000 in
theorem muldiv_Do.calls (a0 : Int) (a1 : Int) (a2 : Int) (a3 : Int) (r : Int) (w : World) (h : muldiv_Do.f a0 a1 a2 a3 = some r) :
    Calls Try.prog 50 #[.int .i64 a0, .int .i64 a1, .int .i64 a2, .int .i64 a3] w fun e w' => e = .returned (.int .i64 r) ∧ Below w.heap.size w w' := by
  have HB := Aside0.mk (Below.refl w.heap.size w)
  have H : ((muldiv_quotient_s.f a0 a1 a2 a3).bind fun bt118 => (some bt118.1)) = some r := h
  clear h
  replace H := Option.bind_eq_some_iff.mp H
  obtain ⟨⟨t118, t119⟩, A50, H⟩ := H
  replace H : (some t118) = some r := H
  have A5 := Aside0.mk A50
  clear A50
  obtain rfl := Option.some.inj H
  go_enter Try.func50, Try.ntmps50
  go_wp2_with (first | ((with_reducible refine gate_callee (f := 57) rfl ?_); refine goesL_ (some 16) rfl rfl Try.func57 (by kernel_rfl) rfl #[.int .i64 a0, .int .i64 a1, .int .i64 a2, .int .i64 a3] rfl (by (try simp only [List.map_toArray, List.map_cons, List.map_nil]); first | done | rfl | (simp only [List.length_drop, List.length_take]; rfl)) ?_; (with_reducible refine (muldiv_quotient_s.calls a0 a1 a2 a3 t118 t119 _ A5.out).mono ?_); rintro e w6 ⟨rfl, hb⟩; refine ⟨_, rfl, ?_⟩; have n0_ := Aside0.mk (below_step (by repeat (first | (with_reducible first | exact HB.out | apply below_alloc | apply pw_below_drewN | apply below_drew1) | exact HB.out)) hb); clear HB; have HB := n0_; clear n0_; (try clear hb); (try clear hb2); (try clear hk); (try clear hi)))
  go_ret
  exact ⟨by first | rfl | (simp [errW_none, errW_some] <;> rfl) | (simp [*, errW_none, errW_some] <;> rfl), by repeat (first | (with_reducible first | exact HB.out | apply below_alloc | apply pw_below_drewN | apply below_drew1) | exact HB.out)⟩
end Go.Proofs.Ytaelmmbodigheaa.P
end

section
namespace Go.Proofs.Ytaelmmbodigheaa.P
open Go.RowKit Go.Proofs.YtaelmmbodigheaaW.PrintWords Go.Proofs.YtaelmmbodigheaaW.PrintLast Go.Proofs.YtaelmmbodigheaaW.PrintMore
attribute [local go_sem] max2_int min2_int max_two min_two max_three min_three max_four min_four   -- for this text's walks alone
set_option linter.unusedVariables false
set_option linter.unusedSimpArgs false
def IsS77 (w0 W : World) (g : Nat) (f0 : Int) (f1 : Int) (f2 : Int) (f3 : Int) (f4 : Int) : Prop := W.heap[g]? = some (.cells #[.int .i64 f0, .int .i64 f1, .int .i64 f2, .int .i64 f3, .int .i64 f4] 77 (0, 0)) ∧ w0.heap.size ≤ g
theorem IsS77.grown {w0 W : World} {g : Nat} {f0 : Int} {f1 : Int} {f2 : Int} {f3 : Int} {f4 : Int} {W1 : World} {row : Option Nat} (h : IsS77 w0 W g f0 f1 f2 f3 f4) (hw : W.grownBy W1 row) (hne : some g ≠ row) : IsS77 w0 W1 g f0 f1 f2 f3 f4 := by
  obtain ⟨hb, hg⟩ := h
  exact ⟨blk_grown hb hw hne, hg⟩
theorem IsS77.keepS {w0 W : World} {g : Nat} {f0 : Int} {f1 : Int} {f2 : Int} {f3 : Int} {f4 : Int} {W1 : World} {g' : Nat} (h : IsS77 w0 W g f0 f1 f2 f3 f4) (hk : KeepBut W W1 g' none) (hne : g ≠ g') : IsS77 w0 W1 g f0 f1 f2 f3 f4 := by
  obtain ⟨hb, hg⟩ := h
  exact ⟨KeepBut.blk hk hb hne (by simp), hg⟩
theorem IsS77.blk {w0 W : World} {g : Nat} {f0 : Int} {f1 : Int} {f2 : Int} {f3 : Int} {f4 : Int} (h : IsS77 w0 W g f0 f1 f2 f3 f4) : ∃ cs, W.heap[g]? = some (.cells cs 77 (0, 0)) := by
  obtain ⟨hb, hg⟩ := h
  exact ⟨_, hb⟩
theorem IsS77.below {w0 W : World} {g : Nat} {f0 : Int} {f1 : Int} {f2 : Int} {f3 : Int} {f4 : Int} {W1 : World} (h : IsS77 w0 W g f0 f1 f2 f3 f4) (hw : Below W.heap.size W W1) : IsS77 w0 W1 g f0 f1 f2 f3 f4 := h.grown (grown_of_below hw none) (by simp)
theorem IsS77.alloc {w0 W : World} {g : Nat} {f0 : Int} {f1 : Int} {f2 : Int} {f3 : Int} {f4 : Int} (h : IsS77 w0 W g f0 f1 f2 f3 f4) (o : Obj) : IsS77 w0 (W.alloc o) g f0 f1 f2 f3 f4 := h.below (below_alloc (Below.refl _ _) o)
theorem IsS77.drewN {w0 W : World} {g : Nat} {f0 : Int} {f1 : Int} {f2 : Int} {f3 : Int} {f4 : Int} (h : IsS77 w0 W g f0 f1 f2 f3 f4) (m : Nat) : IsS77 w0 (W.drewN m) g f0 f1 f2 f3 f4 := h
theorem IsS77.drew {w0 W : World} {g : Nat} {f0 : Int} {f1 : Int} {f2 : Int} {f3 : Int} {f4 : Int} (h : IsS77 w0 W g f0 f1 f2 f3 f4) : IsS77 w0 W.drew g f0 f1 f2 f3 f4 := h
theorem IsS77.lt {w0 W : World} {g : Nat} {f0 : Int} {f1 : Int} {f2 : Int} {f3 : Int} {f4 : Int} (h : IsS77 w0 W g f0 f1 f2 f3 f4) : g < W.heap.size := by
  obtain ⟨hb, hg⟩ := h
  exact blk_lt hb
theorem IsS77.ge {w0 W : World} {g : Nat} {f0 : Int} {f1 : Int} {f2 : Int} {f3 : Int} {f4 : Int} (h : IsS77 w0 W g f0 f1 f2 f3 f4) : w0.heap.size ≤ g := by
  obtain ⟨hb, hg⟩ := h
  exact hg
theorem IsS77.far {w0 W : World} {g : Nat} {f0 : Int} {f1 : Int} {f2 : Int} {f3 : Int} {f4 : Int} {p : Addr} (h : IsS77 w0 W g f0 f1 f2 f3 f4) (hne : g ≠ p.block) (u : Value) : IsS77 w0 (W.setCell p u) g f0 f1 f2 f3 f4 := by
  obtain ⟨hb, hg⟩ := h
  exact ⟨blk_far hb hne u, hg⟩
theorem IsS77.cell_0 {w0 W : World} {g : Nat} {f0 : Int} {f1 : Int} {f2 : Int} {f3 : Int} {f4 : Int} (h : IsS77 w0 W g f0 f1 f2 f3 f4) : W.cell? ⟨g, 0, none⟩ = some (.int .i64 f0) := by
  obtain ⟨hb, hg⟩ := h
  exact (blk_cell hb 0).trans rfl
theorem IsS77.froz_0 {w0 W : World} {g : Nat} {f0 : Int} {f1 : Int} {f2 : Int} {f3 : Int} {f4 : Int} (h : IsS77 w0 W g f0 f1 f2 f3 f4) : W.frozen? ⟨g, 0, none⟩ = false := by
  obtain ⟨hb, hg⟩ := h
  exact blk_frozen hb 0
theorem IsS77.cell_1 {w0 W : World} {g : Nat} {f0 : Int} {f1 : Int} {f2 : Int} {f3 : Int} {f4 : Int} (h : IsS77 w0 W g f0 f1 f2 f3 f4) : W.cell? ⟨g, 1, none⟩ = some (.int .i64 f1) := by
  obtain ⟨hb, hg⟩ := h
  exact (blk_cell hb 1).trans rfl
theorem IsS77.cell_2 {w0 W : World} {g : Nat} {f0 : Int} {f1 : Int} {f2 : Int} {f3 : Int} {f4 : Int} (h : IsS77 w0 W g f0 f1 f2 f3 f4) : W.cell? ⟨g, 2, none⟩ = some (.int .i64 f2) := by
  obtain ⟨hb, hg⟩ := h
  exact (blk_cell hb 2).trans rfl
theorem IsS77.cell_3 {w0 W : World} {g : Nat} {f0 : Int} {f1 : Int} {f2 : Int} {f3 : Int} {f4 : Int} (h : IsS77 w0 W g f0 f1 f2 f3 f4) : W.cell? ⟨g, 3, none⟩ = some (.int .i64 f3) := by
  obtain ⟨hb, hg⟩ := h
  exact (blk_cell hb 3).trans rfl
theorem IsS77.cell_4 {w0 W : World} {g : Nat} {f0 : Int} {f1 : Int} {f2 : Int} {f3 : Int} {f4 : Int} (h : IsS77 w0 W g f0 f1 f2 f3 f4) : W.cell? ⟨g, 4, none⟩ = some (.int .i64 f4) := by
  obtain ⟨hb, hg⟩ := h
  exact (blk_cell hb 4).trans rfl
theorem IsS77.rebase {w0 W : World} {g : Nat} {f0 : Int} {f1 : Int} {f2 : Int} {f3 : Int} {f4 : Int} {w1 : World} (h : IsS77 w1 W g f0 f1 f2 f3 f4) (hl : w0.heap.size ≤ w1.heap.size) : IsS77 w0 W g f0 f1 f2 f3 f4 := by
  obtain ⟨hb, hg⟩ := h
  exact ⟨hb, Nat.le_trans hl hg⟩
theorem cellS77_0 {W : World} {g : Nat} {f0 : Int} {f1 : Int} {f2 : Int} {f3 : Int} {f4 : Int} (h : W.heap[g]? = some (.cells #[.int .i64 f0, .int .i64 f1, .int .i64 f2, .int .i64 f3, .int .i64 f4] 77 (0, 0))) : W.cell? ⟨g, 0, none⟩ = some (.int .i64 f0) := (blk_cell h 0).trans rfl
theorem IsS77.set_0 {w0 W : World} {g : Nat} {f0 : Int} {f1 : Int} {f2 : Int} {f3 : Int} {f4 : Int} (h : IsS77 w0 W g f0 f1 f2 f3 f4) (x : Int) : IsS77 w0 (W.setCell ⟨g, 0, none⟩ (.int .i64 x)) g x f1 f2 f3 f4 := by
  obtain ⟨hb, hg⟩ := h
  exact ⟨by simpa using blk_set hb 0 (.int .i64 x), hg⟩
theorem cellS77_1 {W : World} {g : Nat} {f0 : Int} {f1 : Int} {f2 : Int} {f3 : Int} {f4 : Int} (h : W.heap[g]? = some (.cells #[.int .i64 f0, .int .i64 f1, .int .i64 f2, .int .i64 f3, .int .i64 f4] 77 (0, 0))) : W.cell? ⟨g, 1, none⟩ = some (.int .i64 f1) := (blk_cell h 1).trans rfl
theorem IsS77.set_1 {w0 W : World} {g : Nat} {f0 : Int} {f1 : Int} {f2 : Int} {f3 : Int} {f4 : Int} (h : IsS77 w0 W g f0 f1 f2 f3 f4) (x : Int) : IsS77 w0 (W.setCell ⟨g, 1, none⟩ (.int .i64 x)) g f0 x f2 f3 f4 := by
  obtain ⟨hb, hg⟩ := h
  exact ⟨by simpa using blk_set hb 1 (.int .i64 x), hg⟩
theorem cellS77_2 {W : World} {g : Nat} {f0 : Int} {f1 : Int} {f2 : Int} {f3 : Int} {f4 : Int} (h : W.heap[g]? = some (.cells #[.int .i64 f0, .int .i64 f1, .int .i64 f2, .int .i64 f3, .int .i64 f4] 77 (0, 0))) : W.cell? ⟨g, 2, none⟩ = some (.int .i64 f2) := (blk_cell h 2).trans rfl
theorem IsS77.set_2 {w0 W : World} {g : Nat} {f0 : Int} {f1 : Int} {f2 : Int} {f3 : Int} {f4 : Int} (h : IsS77 w0 W g f0 f1 f2 f3 f4) (x : Int) : IsS77 w0 (W.setCell ⟨g, 2, none⟩ (.int .i64 x)) g f0 f1 x f3 f4 := by
  obtain ⟨hb, hg⟩ := h
  exact ⟨by simpa using blk_set hb 2 (.int .i64 x), hg⟩
theorem cellS77_3 {W : World} {g : Nat} {f0 : Int} {f1 : Int} {f2 : Int} {f3 : Int} {f4 : Int} (h : W.heap[g]? = some (.cells #[.int .i64 f0, .int .i64 f1, .int .i64 f2, .int .i64 f3, .int .i64 f4] 77 (0, 0))) : W.cell? ⟨g, 3, none⟩ = some (.int .i64 f3) := (blk_cell h 3).trans rfl
theorem IsS77.set_3 {w0 W : World} {g : Nat} {f0 : Int} {f1 : Int} {f2 : Int} {f3 : Int} {f4 : Int} (h : IsS77 w0 W g f0 f1 f2 f3 f4) (x : Int) : IsS77 w0 (W.setCell ⟨g, 3, none⟩ (.int .i64 x)) g f0 f1 f2 x f4 := by
  obtain ⟨hb, hg⟩ := h
  exact ⟨by simpa using blk_set hb 3 (.int .i64 x), hg⟩
theorem cellS77_4 {W : World} {g : Nat} {f0 : Int} {f1 : Int} {f2 : Int} {f3 : Int} {f4 : Int} (h : W.heap[g]? = some (.cells #[.int .i64 f0, .int .i64 f1, .int .i64 f2, .int .i64 f3, .int .i64 f4] 77 (0, 0))) : W.cell? ⟨g, 4, none⟩ = some (.int .i64 f4) := (blk_cell h 4).trans rfl
theorem IsS77.set_4 {w0 W : World} {g : Nat} {f0 : Int} {f1 : Int} {f2 : Int} {f3 : Int} {f4 : Int} (h : IsS77 w0 W g f0 f1 f2 f3 f4) (x : Int) : IsS77 w0 (W.setCell ⟨g, 4, none⟩ (.int .i64 x)) g f0 f1 f2 f3 x := by
  obtain ⟨hb, hg⟩ := h
  exact ⟨by simpa using blk_set hb 4 (.int .i64 x), hg⟩
def flywheelref18_New.f (k : Nat)  : Option (Int × Int × Int × Int × Int) := (flywheelref03_Of.f k 25).bind fun t281 => (some (wrap64 (Int.tdiv t281 2), 0, 0, 0, 0))
set_option maxHeartbeats 8000000 in
set_option maxRecDepth 100000 in
theorem flywheelref18_New.calls (k : Nat)  (r1 : Int) (r2 : Int) (r3 : Int) (r4 : Int) (r5 : Int) (w0 w : World) (hB : Below w0.heap.size w0 w) (h : flywheelref18_New.f k  = some (r1, r2, r3, r4, r5)) :
    Calls Try.prog 27 #[] w fun e w' => ∃ g_ : Nat, e = .returned (.pointer (some ⟨g_, 0, none⟩)) ∧ IsS77 w0 w' g_ r1 r2 r3 r4 r5 ∧ Below w0.heap.size w0 w' ∧ Below w.heap.size w w' := by
  have hu77 := Try.underlying77
  have HBW := Aside0.mk (Below.refl w.heap.size w)
  have HW0 := Aside0.mk hB.size
  have HB := Aside0.mk hB
  clear hB
  have H : ((flywheelref03_Of.f k 25).bind fun t281 => (some (wrap64 (Int.tdiv t281 2), 0, 0, 0, 0))) = some (r1, r2, r3, r4, r5) := h
  clear h
  replace H := Option.bind_eq_some_iff.mp H
  obtain ⟨t281, A10, H⟩ := H
  replace H : (some (wrap64 (Int.tdiv t281 2), 0, 0, 0, 0)) = some (r1, r2, r3, r4, r5) := H
  have A1 := Aside0.mk A10
  clear A10
  simp only [Option.some.injEq, Prod.mk.injEq] at H
  obtain ⟨rfl, rfl, rfl, rfl, rfl⟩ := H
  go_enter Try.func27, Try.ntmps27
  go_wp2_with (first | ((with_reducible refine gate_callee (f := 43) rfl ?_); refine goesL_ (some 1) rfl rfl Try.func43 (by kernel_rfl) rfl #[.int .i64 25] rfl (by (try simp only [List.map_toArray, List.map_cons, List.map_nil]); first | done | rfl | (simp only [List.length_drop, List.length_take]; rfl)) ?_; (with_reducible refine (flywheelref03_Of.calls k 25 t281 _ A1.out).mono ?_); rintro e w' ⟨rfl, ⟨nd, rfl⟩⟩; refine ⟨_, rfl, ?_⟩) | ((with_reducible refine gate_dst (N := 4) rfl ?_); refine box_event ?hg (N := 4) ?hd (cs := #[.int .i64 (wrap64 (Int.tdiv t281 2)), .int .i64 0, .int .i64 0, .int .i64 0, .int .i64 0]) (t := 77) ?hr ?_; (case hd => rfl); (case hg => rfl); (case hr => first | (go_simp; done) | (go_simp; rfl)); intro gb282 hg w2 hbox hb; have n0_ := Aside0.mk (below_step (by repeat (first | (with_reducible first | exact HBW.out | apply below_alloc | apply pw_below_drewN | apply below_drew1) | exact HBW.out)) hb); have n1_ := Aside0.mk (below_step (by repeat (first | (with_reducible first | exact HB.out | apply below_alloc | apply pw_below_drewN | apply below_drew1) | exact HB.out)) hb); have n2_ := Aside0.mk (hbox); have n3_ := Aside0.mk ((by rw [hg]; exact (below_size (by repeat (first | (with_reducible first | exact HBW.out | apply below_alloc | apply pw_below_drewN | apply below_drew1) | exact HBW.out))) : w.heap.size ≤ gb282)); have n4_ := Aside0.mk ((Nat.le_trans HW0.out (by rw [hg]; exact (below_size (by repeat (first | (with_reducible first | exact HBW.out | apply below_alloc | apply pw_below_drewN | apply below_drew1) | exact HBW.out))) : w.heap.size ≤ gb282) : w0.heap.size ≤ gb282)); clear HBW; clear HB; have HBW := n0_; have HB := n1_; have BK282 := n2_; have GW282 := n3_; have GE282 := n4_; clear n0_ n1_ n2_ n3_ n4_; clear hb hbox hg))
  go_ret
  exact ⟨_, rfl, (show IsS77 w0 _ gb282 (wrap64 (Int.tdiv t281 2)) 0 0 0 0 from ⟨by (with_reducible repeat (first | refine blk_drewN ?_ _ | refine blk_drew ?_ | refine blk_alloc ?_ _)); exact BK282.out, GE282.out⟩), by repeat (first | (with_reducible first | exact HB.out | apply below_alloc | apply pw_below_drewN | apply below_drew1 | refine below_set ?_ GE282.out) | exact HB.out), by repeat (first | (with_reducible first | exact HBW.out | apply below_alloc | apply pw_below_drewN | apply below_drew1 | refine below_set ?_ GW282.out) | exact HBW.out)⟩
def sat_plus.l0 : Nat → List Int → Int → Int → Int → Int → Option (Int × Int)
  | 0, _, _, _, _, _ => none
  | k + 1, x11, x12, x13, x284000, x284001 => if x13 < x12 then (if 0 ≤ x13 then (if x13 < (x11.length : Int) then (if (add64c x284001 (IntKind.u64.wrap (rd x11 x13)) 0) ≤ 1 then (sat_plus.l0 k x11 x12 (wrap64 (x13 + 1)) (add64s x284000 (IntKind.u64.wrap ((rd x11 x13) / 9223372036854775808)) (add64c x284001 (IntKind.u64.wrap (rd x11 x13)) 0)) (add64s x284001 (IntKind.u64.wrap (rd x11 x13)) 0)) else (none)) else (none)) else (none)) else (some (x284000, x284001))
def sat_plus.f (k : Nat) (a0_0 : Int) (a0_1 : Int) (l1 : List Int) : Option (Int × Int) := sat_plus.l0 k l1 (l1.length : Int) 0 a0_0 a0_1
theorem sat_plus.mono_l : ∀ k, (∀ y0 y1 y2 y3 y4, LeO (sat_plus.l0 k y0 y1 y2 y3 y4) (sat_plus.l0 (k + 1) y0 y1 y2 y3 y4))
  | 0 => fun _ _ _ _ _ r h => by simp [sat_plus.l0] at h
  | k + 1 => by
    have ih0 := sat_plus.mono_l k
    · intro y0 y1 y2 y3 y4
      unfold sat_plus.l0
      repeat' first
      | (with_reducible exact ih0 _ _ _ _ _)
      | (with_reducible exact LeO.refl _)
      | (with_reducible exact LeO.none _)
      | (with_reducible refine LeO.ite ?_ ?_)
      | (with_reducible refine LeO.bind ?_ (fun _ => ?_))
      | exact ih0 _ _ _ _ _
      | exact LeO.none _
      | refine LeO.ite ?_ ?_
      | refine LeO.bind ?_ (fun _ => ?_)
theorem sat_plus.mono : ∀ a0 a1 a2 k, LeO (sat_plus.f k a0 a1 a2) (sat_plus.f (k + 1) a0 a1 a2) := by
  intro a0 a1 a2 k
  have ih0 := sat_plus.mono_l k
  unfold sat_plus.f
  repeat' first
      | (with_reducible exact ih0 _ _ _ _ _)
      | (with_reducible exact LeO.refl _)
      | (with_reducible exact LeO.none _)
      | (with_reducible refine LeO.ite ?_ ?_)
      | (with_reducible refine LeO.bind ?_ (fun _ => ?_))
      | exact ih0 _ _ _ _ _
      | exact LeO.none _
      | refine LeO.ite ?_ ?_
      | refine LeO.bind ?_ (fun _ => ?_)
set_option maxHeartbeats 8000000 in
set_option maxRecDepth 100000 in
theorem sat_plus.calls (k : Nat) (a0_0 : Int) (a0_1 : Int) (A1 : Option Addr) (c1 : Nat) (l1 : List Int) (r1 : Int) (r2 : Int) (w : World) (hr1 : Kd.C (Kd.int .i64) w A1 l1.length l1) (hc1 : l1.length ≤ c1) (h : sat_plus.f k a0_0 a0_1 l1 = some (r1, r2)) :
    Calls Try.prog 58 #[.agg #[.int .u64 a0_0, .int .u64 a0_1], .slice A1 l1.length c1] w fun e w' => e = .returned (.agg #[.int .u64 r1, .int .u64 r2]) ∧ Below w.heap.size w w' := by
  have hu85 := Try.underlying85
  have hext_add64_0 := @run_add64_0
  have hext_add64_c := @run_add64_c
  have HR1 := Aside0.mk hr1
  have HC1 := Aside0.mk hc1
  clear hr1 hc1
  have HB := Aside0.mk (Below.refl w.heap.size w)
  have H : (sat_plus.l0 k l1 (l1.length : Int) 0 a0_0 a0_1) = some (r1, r2) := h
  clear h
  have H' := Aside0.mk H
  clear H
  go_enter Try.func58, Try.ntmps58
  go_wp2_with (first | ((with_reducible refine gate_dst (N := 2) rfl ?_); refine box_event ?hg (N := 2) ?hd (cs := #[.int .u64 a0_0, .int .u64 a0_1]) (t := 85) ?hr ?_; (case hd => rfl); (case hg => rfl); (case hr => first | (go_simp; done) | (go_simp; rfl)); intro gb283 hg w3 hbox hb; have n0_ := Aside0.mk (below_step (by repeat (first | (with_reducible first | exact HB.out | apply below_alloc | apply pw_below_drewN | apply below_drew1) | exact HB.out)) hb); have n1_ := Aside0.mk (hbox); have n2_ := Aside0.mk ((by rw [hg]; exact (below_size (by repeat (first | (with_reducible first | exact HB.out | apply below_alloc | apply pw_below_drewN | apply below_drew1) | exact HB.out))) : w.heap.size ≤ gb283)); have n3_ := Aside0.mk ((by rw [hg]; exact (below_size (by repeat (first | (with_reducible first | exact HB.out | apply below_alloc | apply pw_below_drewN | apply below_drew1) | exact HB.out))) : w.heap.size ≤ gb283)); clear HB; have HB := n0_; have BK283 := n1_; have GW283 := n2_; have GE283 := n3_; clear n0_ n1_ n2_ n3_; clear hb hbox hg) | ((with_reducible refine gate_dst (N := 4) rfl ?_); refine box_event ?hg (N := 4) ?hd (cs := #[.int .u64 0, .int .u64 0]) (t := 85) ?hr ?_; (case hd => rfl); (case hg => rfl); (case hr => first | (go_simp; done) | (go_simp; rfl)); intro gb284 hg w4 hbox hb; have n0_ := Aside0.mk (blk_below (g := gb283) (o := .cells #[.int .u64 a0_0, .int .u64 a0_1] 85 (0, 0)) (by (with_reducible repeat (first | refine blk_drewN ?_ _ | refine blk_drew ?_ | refine blk_alloc ?_ _)); exact BK283.out) hb); have n1_ := Aside0.mk (below_step (by repeat (first | (with_reducible first | exact HB.out | apply below_alloc | apply pw_below_drewN | apply below_drew1 | refine below_set ?_ GE283.out) | exact HB.out)) hb); have n2_ := Aside0.mk (hbox); have n3_ := Aside0.mk ((by rw [hg]; exact (below_size (by repeat (first | (with_reducible first | exact HB.out | apply below_alloc | apply pw_below_drewN | apply below_drew1 | refine below_set ?_ GE283.out) | exact HB.out))) : w.heap.size ≤ gb284)); have n4_ := Aside0.mk ((by rw [hg]; exact (below_size (by repeat (first | (with_reducible first | exact HB.out | apply below_alloc | apply pw_below_drewN | apply below_drew1 | refine below_set ?_ GE283.out) | exact HB.out))) : w.heap.size ≤ gb284)); have n5_ := Aside0.mk ((by rw [hg]; exact Nat.ne_of_lt (blk_lt (g := gb283) (o := .cells #[.int .u64 a0_0, .int .u64 a0_1] 85 (0, 0)) (by (with_reducible repeat (first | refine blk_drewN ?_ _ | refine blk_drew ?_ | refine blk_alloc ?_ _)); exact BK283.out)) : gb283 ≠ gb284)); have n6_ := Aside0.mk ((by rw [hg]; exact Nat.ne_of_gt (blk_lt (g := gb283) (o := .cells #[.int .u64 a0_0, .int .u64 a0_1] 85 (0, 0)) (by (with_reducible repeat (first | refine blk_drewN ?_ _ | refine blk_drew ?_ | refine blk_alloc ?_ _)); exact BK283.out)) : gb284 ≠ gb283)); clear BK283; clear HB; have BK283 := n0_; have HB := n1_; have BK284 := n2_; have GW284 := n3_; have GE284 := n4_; have NB283_284 := n5_; have NB284_283 := n6_; clear n0_ n1_ n2_ n3_ n4_ n5_ n6_; clear hb hbox hg))
  go_loopg [13] k (fun kq v13 w' => ∃ (x13_1 : Int) (x284000_1 : Int) (x284001_1 : Int), v13 = .int .i64 x13_1 ∧ Aside0 (sat_plus.l0 kq l1 (l1.length : Int) x13_1 x284000_1 x284001_1 = some (r1, r2)) ∧ Aside0 (kq ≤ k) ∧ Aside0 (w'.heap[gb283]? = some (.cells #[.int .u64 x284000_1, .int .u64 x284001_1] 85 (0, 0))) ∧ Aside0 (w'.heap[gb284]? = some (.cells #[.int .u64 0, .int .u64 0] 85 (0, 0))) ∧ Aside0 (Below w.heap.size w w'))
  case atStart => exact ⟨(0), (a0_0), (a0_1), (by first | rfl | (simp; done) | (simp [*]; done)), H', ⟨Nat.le_refl _⟩, ⟨by (with_reducible repeat (first | refine blk_drewN ?_ _ | refine blk_drew ?_ | refine blk_alloc ?_ _)); exact BK283.out⟩, ⟨by (with_reducible repeat (first | refine blk_drewN ?_ _ | refine blk_drew ?_ | refine blk_alloc ?_ _)); exact BK284.out⟩, ⟨by repeat (first | (with_reducible first | exact HB.out | apply below_alloc | apply pw_below_drewN | apply below_drew1 | refine below_set ?_ GE283.out | refine below_set ?_ GE284.out) | exact HB.out)⟩⟩
  case round =>
    clear H'
    try clear c1
    try clear p2
    obtain ⟨x13_1, x284000_1, x284001_1, rfl, HA, HK1, BK283, BK284, HB⟩ := hrel
    cases gk with
    | zero => exact absurd HA.out (by simp [sat_plus.l0])
    | succ k1 =>
      have H := HA.out
      clear HA
      simp only [sat_plus.l0] at H
      by_cases c5 : x13_1 < (l1.length : Int)
      · rw [if_pos c5] at H
        have c5b0 : decide (x13_1 < (l1.length : Int)) = true := decide_eq_true c5
        clear c5
        by_cases c6 : 0 ≤ x13_1
        · rw [if_pos c6] at H
          have c6b0 : decide (0 ≤ x13_1) = true := decide_eq_true c6
          clear c6
          by_cases c7 : x13_1 < (l1.length : Int)
          · rw [if_pos c7] at H
            have c7b0 : decide (x13_1 < (l1.length : Int)) = true := decide_eq_true c7
            clear c7
            by_cases c8 : (add64c x284001_1 (IntKind.u64.wrap (rd l1 x13_1)) 0) ≤ 1
            · rw [if_pos c8] at H
              have c8b0 := eq_true c8
              have c8b1 : decide ((add64c x284001_1 (IntKind.u64.wrap (rd l1 x13_1)) 0) ≤ 1) = true := decide_eq_true c8
              clear c8
              have H' := Aside0.mk H
              clear H
              have p285 : 0 ≤ (x13_1 : Int) := of_decide_eq_true (by first | (with_reducible assumption) | assumption)
              have q285 : x13_1 < (l1.length : Int) := of_decide_eq_true (by first | (with_reducible assumption) | assumption)
              obtain ⟨ad285, e285, hx285_0⟩ := Kd.at_int HR1.out x13_1 p285 q285
              cases e285
              replace hx285_0 := (HB.out.cell (World.block_lt_of_cell? w _ hx285_0)).trans hx285_0
              replace p285 := eq_true p285
              replace q285 := eq_true q285
              have hnb9 := NB283_284.out
              have hnc9 := NB284_283.out
              have hcz10_0 : wr.cell? ⟨gb283, 0, none⟩ = some (.int .u64 x284000_1) := (blk_cell BK283.out 0).trans rfl
              have hcz10_1 : wr.cell? ⟨gb283, 1, none⟩ = some (.int .u64 x284001_1) := (blk_cell BK283.out 1).trans rfl
              have hfz10_0 := blk_frozen BK283.out 0
              have hfz10_1 := blk_frozen BK283.out 1
              go_wp2
              go_roundg k1
              case measure => have := HK1.out; omega
              case rel => exact ⟨(wrap64 (x13_1 + 1)), (add64s x284000_1 (IntKind.u64.wrap ((rd l1 x13_1) / 9223372036854775808)) (add64c x284001_1 (IntKind.u64.wrap (rd l1 x13_1)) 0)), (add64s x284001_1 (IntKind.u64.wrap (rd l1 x13_1)) 0), (by first | rfl | (simp; done) | (simp [*]; done)), H', ⟨by have := HK1.out; omega⟩, ⟨by (with_reducible repeat (first | refine blk_drewN ?_ _ | refine blk_drew ?_ | refine blk_alloc ?_ _)); refine blk_put (cs := #[.int .u64 (add64s x284000_1 (IntKind.u64.wrap ((rd l1 x13_1) / 9223372036854775808)) (add64c x284001_1 (IntKind.u64.wrap (rd l1 x13_1)) 0)), .int .u64 x284001_1]) ?_ 1 _ rfl; (with_reducible repeat (first | refine blk_drewN ?_ _ | refine blk_drew ?_ | refine blk_alloc ?_ _)); refine blk_put (cs := #[.int .u64 x284000_1, .int .u64 x284001_1]) ?_ 0 _ rfl; (with_reducible repeat (first | refine blk_drewN ?_ _ | refine blk_drew ?_ | refine blk_alloc ?_ _)); exact BK283.out⟩, ⟨by (with_reducible repeat (first | refine blk_drewN ?_ _ | refine blk_drew ?_ | refine blk_alloc ?_ _)); refine blk_far ?_ NB284_283.out _; (with_reducible repeat (first | refine blk_drewN ?_ _ | refine blk_drew ?_ | refine blk_alloc ?_ _)); refine blk_far ?_ NB284_283.out _; (with_reducible repeat (first | refine blk_drewN ?_ _ | refine blk_drew ?_ | refine blk_alloc ?_ _)); exact BK284.out⟩, ⟨by repeat (first | (with_reducible first | exact HB.out | apply below_alloc | apply pw_below_drewN | apply below_drew1 | refine below_set ?_ GE283.out | refine below_set ?_ GE284.out) | exact HB.out)⟩⟩
            · rw [if_neg c8] at H
              exact absurd H (by simp)
          · rw [if_neg c7] at H
            exact absurd H (by simp)
        · rw [if_neg c6] at H
          exact absurd H (by simp)
      · rw [if_neg c5] at H
        have c5b0 : decide (x13_1 < (l1.length : Int)) = false := decide_eq_false c5
        clear c5
        simp only [Option.some.injEq, Prod.mk.injEq] at H
        obtain ⟨rfl, rfl⟩ := H
        have hnb11 := NB283_284.out
        have hnc11 := NB284_283.out
        have hcz12_0 : wr.cell? ⟨gb283, 0, none⟩ = some (.int .u64 x284000_1) := (blk_cell BK283.out 0).trans rfl
        have hcz12_1 : wr.cell? ⟨gb283, 1, none⟩ = some (.int .u64 x284001_1) := (blk_cell BK283.out 1).trans rfl
        have hfz12_0 := blk_frozen BK283.out 0
        have hfz12_1 := blk_frozen BK283.out 1
        have hcz13_0 : wr.cell? ⟨gb284, 0, none⟩ = some (.int .u64 0) := (blk_cell BK284.out 0).trans rfl
        have hcz13_1 : wr.cell? ⟨gb284, 1, none⟩ = some (.int .u64 0) := (blk_cell BK284.out 1).trans rfl
        have hfz13_0 := blk_frozen BK284.out 0
        have hfz13_1 := blk_frozen BK284.out 1
        go_wp2
        refine bodyPost_ret (results_cell_row rfl _ _ gb284 85 #[.int .u64 x284000_1, .int .u64 x284001_1] (0, 0) _ rfl (by (with_reducible repeat (first | refine blk_drewN ?_ _ | refine blk_drew ?_ | refine blk_alloc ?_ _)); refine blk_put (cs := #[.int .u64 x284000_1, .int .u64 0]) ?_ 1 _ rfl; (with_reducible repeat (first | refine blk_drewN ?_ _ | refine blk_drew ?_ | refine blk_alloc ?_ _)); refine blk_put (cs := #[.int .u64 0, .int .u64 0]) ?_ 0 _ rfl; (with_reducible repeat (first | refine blk_drewN ?_ _ | refine blk_drew ?_ | refine blk_alloc ?_ _)); exact BK284.out) Try.underlying85 rfl (by kernel_rfl)) rfl ?_
        exact ⟨by first | rfl | (simp [errW_none, errW_some] <;> rfl) | (simp [*, errW_none, errW_some] <;> rfl), by repeat (first | (with_reducible first | exact HB.out | apply below_alloc | apply pw_below_drewN | apply below_drew1 | refine below_set ?_ GE283.out | refine below_set ?_ GE284.out) | exact HB.out)⟩
def sat_Add.f (k : Nat) (a0 : Int) (a1 : Int) : Option (Int) := (sat_plus.f k 0 0 (([a0, a1] : List Int))).bind fun bt289 => ((sat_held.f bt289.1 bt289.2).bind fun t291 => (some t291))
theorem sat_Add.mono : ∀ a0 a1 k, LeO (sat_Add.f k a0 a1) (sat_Add.f (k + 1) a0 a1) := by
  intro a0 a1 k
  unfold sat_Add.f
  repeat' first
      | (with_reducible exact sat_plus.mono _ _ _ _)
      | (with_reducible exact LeO.refl _)
      | (with_reducible exact LeO.none _)
      | (with_reducible refine LeO.ite ?_ ?_)
      | (with_reducible refine LeO.bind ?_ (fun _ => ?_))
      | exact sat_plus.mono _ _ _ _
      | exact LeO.none _
      | refine LeO.ite ?_ ?_
      | refine LeO.bind ?_ (fun _ => ?_)
set_option maxHeartbeats 8000000 in
set_option maxRecDepth 100000 in
theorem sat_Add.calls (k : Nat) (a0 : Int) (a1 : Int) (r : Int) (w : World) (h : sat_Add.f k a0 a1 = some r) :
    Calls Try.prog 53 #[.int .i64 a0, .int .i64 a1] w fun e w' => e = .returned (.int .i64 r) ∧ Below w.heap.size w w' := by
  have hu85 := Try.underlying85
  have HB := Aside0.mk (Below.refl w.heap.size w)
  have H : ((sat_plus.f k 0 0 (([a0, a1] : List Int))).bind fun bt289 => ((sat_held.f bt289.1 bt289.2).bind fun t291 => (some t291))) = some r := h
  clear h
  obtain ⟨y286, hy286⟩ : ∃ y_ : List Int, y_ = (([a0, a1] : List Int)) := ⟨_, rfl⟩
  replace H : ((sat_plus.f k 0 0 y286).bind fun bt289 => ((sat_held.f bt289.1 bt289.2).bind fun t291 => (some t291))) = some r := by first | (rw [hy286]; with_reducible exact H) | (have H2_ := (Option.bind_some _ _).symm.trans H; rw [hy286]; with_reducible exact H2_) | (have H2_ := (Option.bind_some _ _).symm.trans H; with_reducible exact H2_) | with_reducible exact H | (rw [hy286]; exact H) | exact H
  have Ny286 := Aside0.mk hy286
  clear hy286
  replace H := Option.bind_eq_some_iff.mp H
  obtain ⟨⟨t289, t290⟩, A30, H⟩ := H
  replace H : ((sat_held.f t289 t290).bind fun t291 => (some t291)) = some r := H
  have A3 := Aside0.mk A30
  clear A30
  replace H := Option.bind_eq_some_iff.mp H
  obtain ⟨t291, A40, H⟩ := H
  replace H : (some t291) = some r := H
  have A4 := Aside0.mk A40
  clear A40
  obtain rfl := Option.some.inj H
  go_enter Try.func53, Try.ntmps53
  go_wp2_with (first | ((with_reducible refine gate_dst (N := 8) rfl ?_); refine Kd.R_lit (Kd.int .i64) _ 2 ?hg (N := 8) ?hd (xs := ([a0, a1] : List Int)) (inner := [.int .i64 a0, .int .i64 a1]) (ok := fun _ => True) (okp := fun _ => True) ?hr ?hp (fun _ hk => hk) trivial (Below.refl _ _) (Nat.le_refl _) (by simp) ?_; (case hd => rfl); (case hg => rfl); (case hr => first | (go_simp; done) | (go_simp; rfl)); (case hp => exact (Reps.one (show Kd.M (Kd.int .i64) _ _ _ a0 [.int .i64 a0] from rfl) (Reps.one (show Kd.M (Kd.int .i64) _ _ _ a1 [.int .i64 a1] from rfl) (Reps.none _ _)))); intro v287 w5 ho6 hb hg_ hnew_; clear hg_ hnew_; (first | rw [← Ny286.out] at ho6 | (simp only [Int.reduceToNat] at ho6; rw [← Ny286.out] at ho6)); have n0_ := Aside0.mk (Kd.R_lower ho6 (below_size (by repeat (first | (with_reducible first | exact HB.out | apply below_alloc | apply pw_below_drewN | apply below_drew1) | exact HB.out)))); have n1_ := Aside0.mk (below_step (by repeat (first | (with_reducible first | exact HB.out | apply below_alloc | apply pw_below_drewN | apply below_drew1) | exact HB.out)) hb); clear HB; have HO288 := n0_; have HB := n1_; clear n0_ n1_; clear hb ho6; obtain ⟨Ao7, co7, eo7⟩ := Kd.R_slice HO288.out; subst eo7) | ((with_reducible refine gate_callee (f := 58) rfl ?_); refine goesL_ (some 9) rfl rfl Try.func58 (by kernel_rfl) rfl #[.agg #[.int .u64 0, .int .u64 0], .slice Ao7 y286.length co7] rfl (by (try simp only [List.map_toArray, List.map_cons, List.map_nil]); first | done | rfl | (simp only [List.length_drop, List.length_take]; rfl)) ?_; (with_reducible refine (sat_plus.calls k 0 0 _ _ y286 t289 t290 _ ?side1 ?side2 A3.out).mono ?_); (case side1 => repeat (first | exact (Kd.R_reads' HO288.out).2.2 | (with_reducible refine Kd.C_alloc ?_ _) | (with_reducible refine Kd.C_drewN ?_ _) | (with_reducible refine Kd.C_drew ?_))); (case side2 => exact (Kd.R_reads' HO288.out).2.1); rintro e w8 ⟨rfl, hb⟩; refine ⟨_, rfl, ?_⟩; have n0_ := Aside0.mk (Kd.R_below (by (with_reducible repeat (first | apply Kd.R_alloc | apply Kd.R_drewN | apply Kd.R_drew)); exact HO288.out) hb); have n1_ := Aside0.mk (below_step (by repeat (first | (with_reducible first | exact HB.out | apply below_alloc | apply pw_below_drewN | apply below_drew1) | exact HB.out)) hb); clear HO288; clear HB; have HO288 := n0_; have HB := n1_; clear n0_ n1_; (try clear hb); (try clear hb2); (try clear hk); (try clear hi)) | ((with_reducible refine gate_callee (f := 52) rfl ?_); refine goesL_ (some 10) rfl rfl Try.func52 (by kernel_rfl) rfl #[.agg #[.int .u64 t289, .int .u64 t290]] rfl (by (try simp only [List.map_toArray, List.map_cons, List.map_nil]); first | done | rfl | (simp only [List.length_drop, List.length_take]; rfl)) ?_; (with_reducible refine (sat_held.calls t289 t290 t291 _ A4.out).mono ?_); rintro e w9 ⟨rfl, hb⟩; refine ⟨_, rfl, ?_⟩; have n0_ := Aside0.mk (Kd.R_below (by (with_reducible repeat (first | apply Kd.R_alloc | apply Kd.R_drewN | apply Kd.R_drew)); exact HO288.out) hb); have n1_ := Aside0.mk (below_step (by repeat (first | (with_reducible first | exact HB.out | apply below_alloc | apply pw_below_drewN | apply below_drew1) | exact HB.out)) hb); clear HO288; clear HB; have HO288 := n0_; have HB := n1_; clear n0_ n1_; (try clear hb); (try clear hb2); (try clear hk); (try clear hi)))
  go_ret
  exact ⟨by first | rfl | (simp [errW_none, errW_some] <;> rfl) | (simp [*, errW_none, errW_some] <;> rfl), by repeat (first | (with_reducible first | exact HB.out | apply below_alloc | apply pw_below_drewN | apply below_drew1) | exact HB.out)⟩
def detect_Detector_moves.j0 : Nat → Int → Int → Int → Int → Int → Int → Int → Int → Int → Option (Int × Int × Int × Int × Int × Int)
  | 0, _, _, _, _, _, _, _, _, _ => none
  | k + 1, x1, x2, x6, x1000, x1001, x1002, x1003, x1004, x1005 => (muldiv_Do.f (wrap64 (x1 - x1001)) (wrap64 (x6 * x2)) 4294967296 1).bind fun t294 => ((sat_Add.f k x1001 t294).bind fun t295 => ((fixed_Of.f 6).bind fun t296 => ((fixed_Of.f 600).bind fun t297 => ((sat_Clamp.f t295 t296 t297).bind fun t298 => (some (x1000, t298, x1002, x1003, x1004, x1005))))))
def detect_Detector_moves.f (k : Nat) (s0_0 : Int) (s0_1 : Int) (s0_2 : Int) (s0_3 : Int) (s0_4 : Int) (s0_5 : Int) (a1 : Int) (a2 : Int) : Option (Int × Int × Int × Int × Int × Int) := (fixed_Of.f 15).bind fun t292 => ((sat_Add.f k s0_1 t292).bind fun t293 => (if a1 > t293 then (some (s0_0, s0_1, s0_2, s0_3, s0_4, s0_5)) else (if a1 < s0_1 then (detect_Detector_moves.j0 k a1 a2 168 s0_0 s0_1 s0_2 s0_3 s0_4 s0_5) else (detect_Detector_moves.j0 k a1 a2 43 s0_0 s0_1 s0_2 s0_3 s0_4 s0_5))))
theorem detect_Detector_moves.mono_l : ∀ k, (∀ y0 y1 y2 y3 y4 y5 y6 y7 y8, LeO (detect_Detector_moves.j0 k y0 y1 y2 y3 y4 y5 y6 y7 y8) (detect_Detector_moves.j0 (k + 1) y0 y1 y2 y3 y4 y5 y6 y7 y8))
  | 0 => fun _ _ _ _ _ _ _ _ _ r h => by simp [detect_Detector_moves.j0] at h
  | k + 1 => by
    have ih0 := detect_Detector_moves.mono_l k
    · intro y0 y1 y2 y3 y4 y5 y6 y7 y8
      unfold detect_Detector_moves.j0
      repeat' first
      | (with_reducible exact ih0 _ _ _ _ _ _ _ _ _)
      | (with_reducible exact sat_Add.mono _ _ _)
      | (with_reducible exact LeO.refl _)
      | (with_reducible exact LeO.none _)
      | (with_reducible refine LeO.ite ?_ ?_)
      | (with_reducible refine LeO.bind ?_ (fun _ => ?_))
      | exact ih0 _ _ _ _ _ _ _ _ _
      | exact sat_Add.mono _ _ _
      | exact LeO.none _
      | refine LeO.ite ?_ ?_
      | refine LeO.bind ?_ (fun _ => ?_)
theorem detect_Detector_moves.mono : ∀ a0 a1 a2 a3 a4 a5 a6 a7 k, LeO (detect_Detector_moves.f k a0 a1 a2 a3 a4 a5 a6 a7) (detect_Detector_moves.f (k + 1) a0 a1 a2 a3 a4 a5 a6 a7) := by
  intro a0 a1 a2 a3 a4 a5 a6 a7 k
  have ih0 := detect_Detector_moves.mono_l k
  unfold detect_Detector_moves.f
  repeat' first
      | (with_reducible exact ih0 _ _ _ _ _ _ _ _ _)
      | (with_reducible exact sat_Add.mono _ _ _)
      | (with_reducible exact LeO.refl _)
      | (with_reducible exact LeO.none _)
      | (with_reducible refine LeO.ite ?_ ?_)
      | (with_reducible refine LeO.bind ?_ (fun _ => ?_))
      | exact ih0 _ _ _ _ _ _ _ _ _
      | exact sat_Add.mono _ _ _
      | exact LeO.none _
      | refine LeO.ite ?_ ?_
      | refine LeO.bind ?_ (fun _ => ?_)
def detect_Detector_moves.T0 : Bool × List (List Nat × List Nat) := (true, [([], []), ([], []), ([1], [1]), ([2], [2]), ([3], [3]), ([], []), ([4, 5, 5], [4, 5]), ([0, 6], [0, 6])])
def detect_Detector_moves.B0 : List Nat := [0, 0, 2, 6, 14, 0, 62, 127]
theorem detect_Detector_moves.tab0 : rtab .any (opsOf Try.f45 0) = detect_Detector_moves.T0 := by kernel_rfl
theorem detect_Detector_moves.bits0 : waitsOk detect_Detector_moves.T0.2 detect_Detector_moves.B0 = true := by kernel_rfl
set_option maxHeartbeats 8000000 in
set_option maxRecDepth 100000 in
theorem detect_Detector_moves.calls (k : Nat) (g : Nat) (s0_0 : Int) (s0_1 : Int) (s0_2 : Int) (s0_3 : Int) (s0_4 : Int) (s0_5 : Int) (a1 : Int) (a2 : Int) (r1 : Int) (r2 : Int) (r3 : Int) (r4 : Int) (r5 : Int) (r6 : Int) (w0 w : World) (hI : IsS75 w0 w g s0_0 s0_1 s0_2 s0_3 s0_4 s0_5) (hB : Below w0.heap.size w0 w) (h : detect_Detector_moves.f k s0_0 s0_1 s0_2 s0_3 s0_4 s0_5 a1 a2 = some (r1, r2, r3, r4, r5, r6)) :
    Calls Try.prog 45 #[.pointer (some ⟨g, 0, none⟩), .int .i64 a1, .int .i64 a2] w fun e w' => e = .returned (.tuple #[]) ∧ IsS75 w0 w' g r1 r2 r3 r4 r5 r6 ∧ Below w0.heap.size w0 w' ∧ KeepBut w w' g none := by
  have HI0 := Aside0.mk hI
  have HK := Aside0.mk (KeepBut.refl w g none)
  have HL := Aside0.mk hB.size
  clear hI
  have HW0 := Aside0.mk hB.size
  have HB := Aside0.mk hB
  clear hB
  have H : ((fixed_Of.f 15).bind fun t292 => ((sat_Add.f k s0_1 t292).bind fun t293 => (if a1 > t293 then (some (s0_0, s0_1, s0_2, s0_3, s0_4, s0_5)) else (if a1 < s0_1 then (detect_Detector_moves.j0 k a1 a2 168 s0_0 s0_1 s0_2 s0_3 s0_4 s0_5) else (detect_Detector_moves.j0 k a1 a2 43 s0_0 s0_1 s0_2 s0_3 s0_4 s0_5))))) = some (r1, r2, r3, r4, r5, r6) := h
  clear h
  replace H := Option.bind_eq_some_iff.mp H
  obtain ⟨t292, A40, H⟩ := H
  replace H : ((sat_Add.f k s0_1 t292).bind fun t293 => (if a1 > t293 then (some (s0_0, s0_1, s0_2, s0_3, s0_4, s0_5)) else (if a1 < s0_1 then (detect_Detector_moves.j0 k a1 a2 168 s0_0 s0_1 s0_2 s0_3 s0_4 s0_5) else (detect_Detector_moves.j0 k a1 a2 43 s0_0 s0_1 s0_2 s0_3 s0_4 s0_5)))) = some (r1, r2, r3, r4, r5, r6) := H
  have A4 := Aside0.mk A40
  clear A40
  replace H := Option.bind_eq_some_iff.mp H
  obtain ⟨t293, A50, H⟩ := H
  replace H : (if a1 > t293 then (some (s0_0, s0_1, s0_2, s0_3, s0_4, s0_5)) else (if a1 < s0_1 then (detect_Detector_moves.j0 k a1 a2 168 s0_0 s0_1 s0_2 s0_3 s0_4 s0_5) else (detect_Detector_moves.j0 k a1 a2 43 s0_0 s0_1 s0_2 s0_3 s0_4 s0_5))) = some (r1, r2, r3, r4, r5, r6) := H
  have A5 := Aside0.mk A50
  clear A50
  by_cases c6 : a1 > t293
  · rw [if_pos c6] at H
    have c6b0 : decide (t293 < a1) = true := decide_eq_true c6
    clear c6
    simp only [Option.some.injEq, Prod.mk.injEq] at H
    obtain ⟨rfl, rfl, rfl, rfl, rfl, rfl⟩ := H
    go_enter Try.func45, Try.ntmps45
    try go_wp2
    have n0_ := Aside0.mk (IsS75.drew HI0.out)
    have n1_ := Aside0.mk (keep_drew HK.out)
    have n2_ := Aside0.mk (below_drew1 HB.out)
    clear HI0
    clear HK
    clear HB
    have HI0 := n0_
    have HK := n1_
    have HB := n2_
    clear n0_ n1_ n2_
    refine start_ (n := 8) (S := fun w' => w'.cell? ⟨g, 0, none⟩ = some (.int .i64 s0_0) ∧ w'.cell? ⟨g, 1, none⟩ = some (.int .i64 s0_1) ∧ w'.cell? ⟨g, 2, none⟩ = some (.int .i64 s0_2) ∧ w'.cell? ⟨g, 3, none⟩ = some (.int .i64 s0_3) ∧ w'.cell? ⟨g, 4, none⟩ = some (.int .i64 s0_4) ∧ w'.cell? ⟨g, 5, none⟩ = some (.int .i64 s0_5)) (ds := []) #[false, false, false, false, false, false, false, false] (by kernel_rfl) rfl rfl ⟨(IsS75.cell_0 HI0.out), (IsS75.cell_1 HI0.out), (IsS75.cell_2 HI0.out), (IsS75.cell_3 HI0.out), (IsS75.cell_4 HI0.out), (IsS75.cell_5 HI0.out)⟩ (fun hHeld => ?_); refine with_tabW detect_Detector_moves.tab0 detect_Detector_moves.bits0 (fun HT_ HW_ => ?_)
    generalize w.drew = w7 at HI0 HK HB hHeld ⊢
    refine pure_ (i := 0) (N := some 8) (v := ?_) (a' := ?_) #[true, false, false, false, false, false, false, false] rfl rfl (any_of HT_.out (by kernel_rfl)) (fun _ _ _ h => h) (Or.inl ⟨by rfl, ?_⟩) ?_ ?_
    rotate_left
    · intro w'
      go_simp
      with_reducible rfl
    rotate_left
    · simp only [Act.put, List.setIfInBounds_toArray, List.set_cons_zero, List.set_cons_succ, i64_w, i32_w]
      rfl
    refine pure_ (i := 1) (N := some 9) (v := ?_) (a' := ?_) #[true, true, false, false, false, false, false, false] rfl rfl (any_of HT_.out (by kernel_rfl)) (fun _ _ _ h => h) (Or.inl ⟨by rfl, ?_⟩) ?_ ?_
    rotate_left
    · intro w'
      go_simp
      with_reducible rfl
    rotate_left
    · simp only [Act.put, List.setIfInBounds_toArray, List.set_cons_zero, List.set_cons_succ, i64_w, i32_w]
      rfl
    refine pure_ (i := 2) (N := some 10) (v := ?_) (a' := ?_) #[true, true, true, false, false, false, false, false] rfl rfl (any_of HT_.out (by kernel_rfl)) (fun _ _ _ h => h) (Or.inl ⟨by rfl, ?_⟩) ?_ ?_
    rotate_left
    · intro w'
      go_simp
      with_reducible rfl
    rotate_left
    · simp only [Act.put, List.setIfInBounds_toArray, List.set_cons_zero, List.set_cons_succ, i64_w, i32_w]
      rfl
    refine pure_ (i := 3) (N := some 11) (v := ?_) (a' := ?_) #[true, true, true, true, false, false, false, false] rfl rfl (any_of HT_.out (by kernel_rfl)) (fun _ _ _ h => h) (Or.inl ⟨by rfl, ?_⟩) ?_ ?_
    rotate_left
    · intro w'
      go_simp
      with_reducible rfl
    rotate_left
    · simp only [Act.put, List.setIfInBounds_toArray, List.set_cons_zero, List.set_cons_succ, i64_w, i32_w]
      rfl
    refine take_ (i := 4) (N := some 12) (v := ?_) (a' := ?_) #[true, true, true, true, true, false, false, false] rfl rfl (take_ofW HT_.out HW_.out (by kernel_rfl)) (fun _ _ _ h => h) (Or.inl ⟨by rfl, ?_⟩) hHeld ?_ ?_
    rotate_left
    · rintro w' ⟨s0, s1, s2, s3, s4, s5⟩
      go_simp
      with_reducible rfl
    rotate_left
    · simp only [Act.put, List.setIfInBounds_toArray, List.set_cons_zero, List.set_cons_succ, i64_w, i32_w]
      rfl
    refine one_ (i := 5) (N := some 13) #[true, true, true, true, true, true, false, false] rfl rfl (one_of HT_.out (by kernel_rfl)) (by decide) (fun K hK => ?_)
    refine goes_ Try.func35 (by kernel_rfl) rfl #[.int .i64 15] (by rfl) rfl rfl (by (try simp only [List.map_toArray, List.map_cons, List.map_nil]); first | done | rfl | (simp only [List.length_drop, List.length_take]; rfl)) ?_
    with_reducible refine (fixed_Of.calls 15 t292 _ A4.out).mono ?_
    rintro e w8 ⟨rfl, hb⟩
    refine ⟨_, rfl, ?_⟩
    have n0_ := Aside0.mk (IsS75.below (by repeat (first | (with_reducible first | exact HI0.out | apply IsS75.alloc | apply IsS75.drewN | apply IsS75.drew | apply IsS75.set_0 | apply IsS75.set_1 | apply IsS75.set_2 | apply IsS75.set_3 | apply IsS75.set_4 | apply IsS75.set_5) | exact HI0.out)) hb)
    have n1_ := Aside0.mk (KeepBut.trans (by repeat (first | (with_reducible first | exact HK.out | apply KeepBut.set_ | apply keep_drewN | apply keep_drew | apply keep_alloc) | exact HK.out)) (KeepBut.of_below hb g none) (.inl rfl))
    have n2_ := Aside0.mk (below_step (by repeat (first | (with_reducible first | exact HB.out | apply below_alloc | apply pw_below_drewN | apply below_drew1 | refine below_set ?_ (IsS75.ge HI0.out)) | exact HB.out)) hb)
    clear HI0
    clear HK
    clear HB
    have HI0 := n0_
    have HK := n1_
    have HB := n2_
    clear n0_ n1_ n2_
    (try clear hb)
    (try clear hb2)
    (try clear hk)
    (try clear hi)
    refine hK.out _ _ ⟨(IsS75.cell_0 HI0.out), (IsS75.cell_1 HI0.out), (IsS75.cell_2 HI0.out), (IsS75.cell_3 HI0.out), (IsS75.cell_4 HI0.out), (IsS75.cell_5 HI0.out)⟩ (fun hHeld => ?_)
    clear hK K
    refine norm_ (a' := ?_) ?_ ?_
    rotate_left
    · show Act.put _ (some 13) _ = _
      simp only [Act.put, List.setIfInBounds_toArray, List.set_cons_zero, List.set_cons_succ, i64_w, i32_w]
      rfl
    refine one_ (i := 6) (N := some 14) #[true, true, true, true, true, true, true, false] rfl rfl (one_of HT_.out (by kernel_rfl)) (by decide) (fun K hK => ?_)
    refine goes_ Try.func53 (by kernel_rfl) rfl #[.int .i64 s0_1, .int .i64 t292] (by rfl) rfl rfl (by (try simp only [List.map_toArray, List.map_cons, List.map_nil]); first | done | rfl | (simp only [List.length_drop, List.length_take]; rfl)) ?_
    with_reducible refine (sat_Add.calls k s0_1 t292 t293 _ A5.out).mono ?_
    rintro e w9 ⟨rfl, hb⟩
    refine ⟨_, rfl, ?_⟩
    have n0_ := Aside0.mk (IsS75.below (by repeat (first | (with_reducible first | exact HI0.out | apply IsS75.alloc | apply IsS75.drewN | apply IsS75.drew | apply IsS75.set_0 | apply IsS75.set_1 | apply IsS75.set_2 | apply IsS75.set_3 | apply IsS75.set_4 | apply IsS75.set_5) | exact HI0.out)) hb)
    have n1_ := Aside0.mk (KeepBut.trans (by repeat (first | (with_reducible first | exact HK.out | apply KeepBut.set_ | apply keep_drewN | apply keep_drew | apply keep_alloc) | exact HK.out)) (KeepBut.of_below hb g none) (.inl rfl))
    have n2_ := Aside0.mk (below_step (by repeat (first | (with_reducible first | exact HB.out | apply below_alloc | apply pw_below_drewN | apply below_drew1 | refine below_set ?_ (IsS75.ge HI0.out)) | exact HB.out)) hb)
    clear HI0
    clear HK
    clear HB
    have HI0 := n0_
    have HK := n1_
    have HB := n2_
    clear n0_ n1_ n2_
    (try clear hb)
    (try clear hb2)
    (try clear hk)
    (try clear hi)
    refine hK.out _ _ ⟨(IsS75.cell_0 HI0.out), (IsS75.cell_1 HI0.out), (IsS75.cell_2 HI0.out), (IsS75.cell_3 HI0.out), (IsS75.cell_4 HI0.out), (IsS75.cell_5 HI0.out)⟩ (fun hHeld => ?_)
    clear hK K
    refine norm_ (a' := ?_) ?_ ?_
    rotate_left
    · show Act.put _ (some 14) _ = _
      simp only [Act.put, List.setIfInBounds_toArray, List.set_cons_zero, List.set_cons_succ, i64_w, i32_w]
      rfl
    refine pure_ (i := 7) (N := some 15) (v := ?_) (a' := ?_) #[true, true, true, true, true, true, true, true] rfl rfl (any_of HT_.out (by kernel_rfl)) (fun _ _ _ h => h) (Or.inl ⟨by rfl, ?_⟩) ?_ ?_
    rotate_left
    · intro w'
      go_simp
      with_reducible rfl
    rotate_left
    · simp only [Act.put, List.setIfInBounds_toArray, List.set_cons_zero, List.set_cons_succ, i64_w, i32_w]
      rfl
    refine done_ (done_of HT_.out (by kernel_rfl)) ?_
    try go_wp2
    first | go_end0 | ((try simp only [Exit.inBlock, Exit.then]); refine bodyPost_ret (results_none rfl _ _ _) rfl ?_)
    exact ⟨by first | rfl | (simp [errW_none, errW_some] <;> rfl) | (simp [*, errW_none, errW_some] <;> rfl), by repeat (first | (with_reducible first | exact HI0.out | apply IsS75.alloc | apply IsS75.drewN | apply IsS75.drew | apply IsS75.set_0 | apply IsS75.set_1 | apply IsS75.set_2 | apply IsS75.set_3 | apply IsS75.set_4 | apply IsS75.set_5) | exact HI0.out), by repeat (first | (with_reducible first | exact HB.out | apply below_alloc | apply pw_below_drewN | apply below_drew1 | refine below_set ?_ (IsS75.ge HI0.out)) | exact HB.out), by repeat (first | (with_reducible first | exact HK.out | apply KeepBut.set_ | apply keep_drewN | apply keep_drew | apply keep_alloc) | exact HK.out)⟩
  · rw [if_neg c6] at H
    have c6b0 : decide (t293 < a1) = false := decide_eq_false c6
    clear c6
    have HC10 := Aside0.mk H
    clear H
    go_enter Try.func45, Try.ntmps45
    try go_wp2
    have n0_ := Aside0.mk (IsS75.drew HI0.out)
    have n1_ := Aside0.mk (keep_drew HK.out)
    have n2_ := Aside0.mk (below_drew1 HB.out)
    clear HI0
    clear HK
    clear HB
    have HI0 := n0_
    have HK := n1_
    have HB := n2_
    clear n0_ n1_ n2_
    refine start_ (n := 8) (S := fun w' => w'.cell? ⟨g, 0, none⟩ = some (.int .i64 s0_0) ∧ w'.cell? ⟨g, 1, none⟩ = some (.int .i64 s0_1) ∧ w'.cell? ⟨g, 2, none⟩ = some (.int .i64 s0_2) ∧ w'.cell? ⟨g, 3, none⟩ = some (.int .i64 s0_3) ∧ w'.cell? ⟨g, 4, none⟩ = some (.int .i64 s0_4) ∧ w'.cell? ⟨g, 5, none⟩ = some (.int .i64 s0_5)) (ds := []) #[false, false, false, false, false, false, false, false] (by kernel_rfl) rfl rfl ⟨(IsS75.cell_0 HI0.out), (IsS75.cell_1 HI0.out), (IsS75.cell_2 HI0.out), (IsS75.cell_3 HI0.out), (IsS75.cell_4 HI0.out), (IsS75.cell_5 HI0.out)⟩ (fun hHeld => ?_); refine with_tabW detect_Detector_moves.tab0 detect_Detector_moves.bits0 (fun HT_ HW_ => ?_)
    generalize w.drew = w11 at HI0 HK HB hHeld ⊢
    refine pure_ (i := 0) (N := some 8) (v := ?_) (a' := ?_) #[true, false, false, false, false, false, false, false] rfl rfl (any_of HT_.out (by kernel_rfl)) (fun _ _ _ h => h) (Or.inl ⟨by rfl, ?_⟩) ?_ ?_
    rotate_left
    · intro w'
      go_simp
      with_reducible rfl
    rotate_left
    · simp only [Act.put, List.setIfInBounds_toArray, List.set_cons_zero, List.set_cons_succ, i64_w, i32_w]
      rfl
    refine pure_ (i := 1) (N := some 9) (v := ?_) (a' := ?_) #[true, true, false, false, false, false, false, false] rfl rfl (any_of HT_.out (by kernel_rfl)) (fun _ _ _ h => h) (Or.inl ⟨by rfl, ?_⟩) ?_ ?_
    rotate_left
    · intro w'
      go_simp
      with_reducible rfl
    rotate_left
    · simp only [Act.put, List.setIfInBounds_toArray, List.set_cons_zero, List.set_cons_succ, i64_w, i32_w]
      rfl
    refine pure_ (i := 2) (N := some 10) (v := ?_) (a' := ?_) #[true, true, true, false, false, false, false, false] rfl rfl (any_of HT_.out (by kernel_rfl)) (fun _ _ _ h => h) (Or.inl ⟨by rfl, ?_⟩) ?_ ?_
    rotate_left
    · intro w'
      go_simp
      with_reducible rfl
    rotate_left
    · simp only [Act.put, List.setIfInBounds_toArray, List.set_cons_zero, List.set_cons_succ, i64_w, i32_w]
      rfl
    refine pure_ (i := 3) (N := some 11) (v := ?_) (a' := ?_) #[true, true, true, true, false, false, false, false] rfl rfl (any_of HT_.out (by kernel_rfl)) (fun _ _ _ h => h) (Or.inl ⟨by rfl, ?_⟩) ?_ ?_
    rotate_left
    · intro w'
      go_simp
      with_reducible rfl
    rotate_left
    · simp only [Act.put, List.setIfInBounds_toArray, List.set_cons_zero, List.set_cons_succ, i64_w, i32_w]
      rfl
    refine take_ (i := 4) (N := some 12) (v := ?_) (a' := ?_) #[true, true, true, true, true, false, false, false] rfl rfl (take_ofW HT_.out HW_.out (by kernel_rfl)) (fun _ _ _ h => h) (Or.inl ⟨by rfl, ?_⟩) hHeld ?_ ?_
    rotate_left
    · rintro w' ⟨s0, s1, s2, s3, s4, s5⟩
      go_simp
      with_reducible rfl
    rotate_left
    · simp only [Act.put, List.setIfInBounds_toArray, List.set_cons_zero, List.set_cons_succ, i64_w, i32_w]
      rfl
    refine one_ (i := 5) (N := some 13) #[true, true, true, true, true, true, false, false] rfl rfl (one_of HT_.out (by kernel_rfl)) (by decide) (fun K hK => ?_)
    refine goes_ Try.func35 (by kernel_rfl) rfl #[.int .i64 15] (by rfl) rfl rfl (by (try simp only [List.map_toArray, List.map_cons, List.map_nil]); first | done | rfl | (simp only [List.length_drop, List.length_take]; rfl)) ?_
    with_reducible refine (fixed_Of.calls 15 t292 _ A4.out).mono ?_
    rintro e w12 ⟨rfl, hb⟩
    refine ⟨_, rfl, ?_⟩
    have n0_ := Aside0.mk (IsS75.below (by repeat (first | (with_reducible first | exact HI0.out | apply IsS75.alloc | apply IsS75.drewN | apply IsS75.drew | apply IsS75.set_0 | apply IsS75.set_1 | apply IsS75.set_2 | apply IsS75.set_3 | apply IsS75.set_4 | apply IsS75.set_5) | exact HI0.out)) hb)
    have n1_ := Aside0.mk (KeepBut.trans (by repeat (first | (with_reducible first | exact HK.out | apply KeepBut.set_ | apply keep_drewN | apply keep_drew | apply keep_alloc) | exact HK.out)) (KeepBut.of_below hb g none) (.inl rfl))
    have n2_ := Aside0.mk (below_step (by repeat (first | (with_reducible first | exact HB.out | apply below_alloc | apply pw_below_drewN | apply below_drew1 | refine below_set ?_ (IsS75.ge HI0.out)) | exact HB.out)) hb)
    clear HI0
    clear HK
    clear HB
    have HI0 := n0_
    have HK := n1_
    have HB := n2_
    clear n0_ n1_ n2_
    (try clear hb)
    (try clear hb2)
    (try clear hk)
    (try clear hi)
    refine hK.out _ _ ⟨(IsS75.cell_0 HI0.out), (IsS75.cell_1 HI0.out), (IsS75.cell_2 HI0.out), (IsS75.cell_3 HI0.out), (IsS75.cell_4 HI0.out), (IsS75.cell_5 HI0.out)⟩ (fun hHeld => ?_)
    clear hK K
    refine norm_ (a' := ?_) ?_ ?_
    rotate_left
    · show Act.put _ (some 13) _ = _
      simp only [Act.put, List.setIfInBounds_toArray, List.set_cons_zero, List.set_cons_succ, i64_w, i32_w]
      rfl
    refine one_ (i := 6) (N := some 14) #[true, true, true, true, true, true, true, false] rfl rfl (one_of HT_.out (by kernel_rfl)) (by decide) (fun K hK => ?_)
    refine goes_ Try.func53 (by kernel_rfl) rfl #[.int .i64 s0_1, .int .i64 t292] (by rfl) rfl rfl (by (try simp only [List.map_toArray, List.map_cons, List.map_nil]); first | done | rfl | (simp only [List.length_drop, List.length_take]; rfl)) ?_
    with_reducible refine (sat_Add.calls k s0_1 t292 t293 _ A5.out).mono ?_
    rintro e w13 ⟨rfl, hb⟩
    refine ⟨_, rfl, ?_⟩
    have n0_ := Aside0.mk (IsS75.below (by repeat (first | (with_reducible first | exact HI0.out | apply IsS75.alloc | apply IsS75.drewN | apply IsS75.drew | apply IsS75.set_0 | apply IsS75.set_1 | apply IsS75.set_2 | apply IsS75.set_3 | apply IsS75.set_4 | apply IsS75.set_5) | exact HI0.out)) hb)
    have n1_ := Aside0.mk (KeepBut.trans (by repeat (first | (with_reducible first | exact HK.out | apply KeepBut.set_ | apply keep_drewN | apply keep_drew | apply keep_alloc) | exact HK.out)) (KeepBut.of_below hb g none) (.inl rfl))
    have n2_ := Aside0.mk (below_step (by repeat (first | (with_reducible first | exact HB.out | apply below_alloc | apply pw_below_drewN | apply below_drew1 | refine below_set ?_ (IsS75.ge HI0.out)) | exact HB.out)) hb)
    clear HI0
    clear HK
    clear HB
    have HI0 := n0_
    have HK := n1_
    have HB := n2_
    clear n0_ n1_ n2_
    (try clear hb)
    (try clear hb2)
    (try clear hk)
    (try clear hi)
    refine hK.out _ _ ⟨(IsS75.cell_0 HI0.out), (IsS75.cell_1 HI0.out), (IsS75.cell_2 HI0.out), (IsS75.cell_3 HI0.out), (IsS75.cell_4 HI0.out), (IsS75.cell_5 HI0.out)⟩ (fun hHeld => ?_)
    clear hK K
    refine norm_ (a' := ?_) ?_ ?_
    rotate_left
    · show Act.put _ (some 14) _ = _
      simp only [Act.put, List.setIfInBounds_toArray, List.set_cons_zero, List.set_cons_succ, i64_w, i32_w]
      rfl
    refine pure_ (i := 7) (N := some 15) (v := ?_) (a' := ?_) #[true, true, true, true, true, true, true, true] rfl rfl (any_of HT_.out (by kernel_rfl)) (fun _ _ _ h => h) (Or.inl ⟨by rfl, ?_⟩) ?_ ?_
    rotate_left
    · intro w'
      go_simp
      with_reducible rfl
    rotate_left
    · simp only [Act.put, List.setIfInBounds_toArray, List.set_cons_zero, List.set_cons_succ, i64_w, i32_w]
      rfl
    refine done_ (done_of HT_.out (by kernel_rfl)) ?_
    obtain ⟨HGz14, hgz14⟩ := HI0.out
    have hcz14_0 := cellS75_0 HGz14
    have hcz14_1 := cellS75_1 HGz14
    have hcz14_2 := cellS75_2 HGz14
    have hcz14_3 := cellS75_3 HGz14
    have hcz14_4 := cellS75_4 HGz14
    have hcz14_5 := cellS75_5 HGz14
    have hfz14_0 := blk_frozen HGz14 0
    have hfz14_1 := blk_frozen HGz14 1
    have hfz14_2 := blk_frozen HGz14 2
    have hfz14_3 := blk_frozen HGz14 3
    have hfz14_4 := blk_frozen HGz14 4
    have hfz14_5 := blk_frozen HGz14 5
    clear HGz14 hgz14
    go_upto_if 21 with (fail)
    go_cut [6] (fun v6 wc => ∃ (kq : Nat) (x6_9 : Int), v6 = .int .i64 x6_9 ∧ Aside0 (detect_Detector_moves.j0 kq a1 a2 x6_9 s0_0 s0_1 s0_2 s0_3 s0_4 s0_5 = some (r1, r2, r3, r4, r5, r6)) ∧ Aside0 (kq ≤ k) ∧ Aside0 (IsS75 w0 wc g s0_0 s0_1 s0_2 s0_3 s0_4 s0_5) ∧ Aside0 (KeepBut w wc g none) ∧ Aside0 (Below w0.heap.size w0 wc))
    case first =>
      have H := HC10.out
      clear HC10
      by_cases c15 : a1 < s0_1
      · rw [if_pos c15] at H
        have c15b0 : decide (a1 < s0_1) = true := decide_eq_true c15
        clear c15
        (first | rw [c15b0] | (simp only [i64_w, i32_w]; rw [c15b0]) | skip)
        have H' := Aside0.mk H
        clear H
        go_wp2
        go_meet
        case rel => exact ⟨_, (168), (by first | rfl | (simp; done) | (simp [*]; done)), H', ⟨by first | omega | exact Nat.le_refl _⟩, ⟨by repeat (first | (with_reducible first | exact HI0.out | apply IsS75.alloc | apply IsS75.drewN | apply IsS75.drew | apply IsS75.set_0 | apply IsS75.set_1 | apply IsS75.set_2 | apply IsS75.set_3 | apply IsS75.set_4 | apply IsS75.set_5) | exact HI0.out)⟩, ⟨by repeat (first | (with_reducible first | exact HK.out | apply KeepBut.set_ | apply keep_drewN | apply keep_drew | apply keep_alloc) | exact HK.out)⟩, ⟨by repeat (first | (with_reducible first | exact HB.out | apply below_alloc | apply pw_below_drewN | apply below_drew1 | refine below_set ?_ (IsS75.ge HI0.out)) | exact HB.out)⟩⟩
      · rw [if_neg c15] at H
        have c15b0 : decide (a1 < s0_1) = false := decide_eq_false c15
        clear c15
        (first | rw [c15b0] | (simp only [i64_w, i32_w]; rw [c15b0]) | skip)
        have H' := Aside0.mk H
        clear H
        go_wp2
        go_meet
        case rel => exact ⟨_, (43), (by first | rfl | (simp; done) | (simp [*]; done)), H', ⟨by first | omega | exact Nat.le_refl _⟩, ⟨by repeat (first | (with_reducible first | exact HI0.out | apply IsS75.alloc | apply IsS75.drewN | apply IsS75.drew | apply IsS75.set_0 | apply IsS75.set_1 | apply IsS75.set_2 | apply IsS75.set_3 | apply IsS75.set_4 | apply IsS75.set_5) | exact HI0.out)⟩, ⟨by repeat (first | (with_reducible first | exact HK.out | apply KeepBut.set_ | apply keep_drewN | apply keep_drew | apply keep_alloc) | exact HK.out)⟩, ⟨by repeat (first | (with_reducible first | exact HB.out | apply below_alloc | apply pw_below_drewN | apply below_drew1 | refine below_set ?_ (IsS75.ge HI0.out)) | exact HB.out)⟩⟩
    case rest =>
      clear HC10
      try clear c1
      try clear p2
      try clear c3
      try clear c4
      try clear c5
      try clear c6
      try clear c6b0
      try clear c15
      try clear c15b0
      try clear hcz14_0
      try clear hcz14_1
      try clear hcz14_2
      try clear hcz14_3
      try clear hcz14_4
      try clear hcz14_5
      try clear hfz14_0
      try clear hfz14_1
      try clear hfz14_2
      try clear hfz14_3
      try clear hfz14_4
      try clear hfz14_5
      obtain ⟨kq, x6_9, rfl, HA, HJ9, HI0, HK, HB⟩ := hcut
      cases kq with
      | zero => exact absurd HA.out (by simp [detect_Detector_moves.j0])
      | succ kj9 =>
        have H := HA.out
        clear HA
        simp only [detect_Detector_moves.j0] at H
        replace H := Option.bind_eq_some_iff.mp H
        obtain ⟨t294, A160, H⟩ := H
        replace H : ((sat_Add.f kj9 s0_1 t294).bind fun t295 => ((fixed_Of.f 6).bind fun t296 => ((fixed_Of.f 600).bind fun t297 => ((sat_Clamp.f t295 t296 t297).bind fun t298 => (some (s0_0, t298, s0_2, s0_3, s0_4, s0_5)))))) = some (r1, r2, r3, r4, r5, r6) := H
        have A16 := Aside0.mk A160
        clear A160
        replace H := Option.bind_eq_some_iff.mp H
        obtain ⟨t295, A170, H⟩ := H
        replace H : ((fixed_Of.f 6).bind fun t296 => ((fixed_Of.f 600).bind fun t297 => ((sat_Clamp.f t295 t296 t297).bind fun t298 => (some (s0_0, t298, s0_2, s0_3, s0_4, s0_5))))) = some (r1, r2, r3, r4, r5, r6) := H
        have A17 := Aside0.mk A170
        clear A170
        replace H := Option.bind_eq_some_iff.mp H
        obtain ⟨t296, A180, H⟩ := H
        replace H : ((fixed_Of.f 600).bind fun t297 => ((sat_Clamp.f t295 t296 t297).bind fun t298 => (some (s0_0, t298, s0_2, s0_3, s0_4, s0_5)))) = some (r1, r2, r3, r4, r5, r6) := H
        have A18 := Aside0.mk A180
        clear A180
        replace H := Option.bind_eq_some_iff.mp H
        obtain ⟨t297, A190, H⟩ := H
        replace H : ((sat_Clamp.f t295 t296 t297).bind fun t298 => (some (s0_0, t298, s0_2, s0_3, s0_4, s0_5))) = some (r1, r2, r3, r4, r5, r6) := H
        have A19 := Aside0.mk A190
        clear A190
        replace H := Option.bind_eq_some_iff.mp H
        obtain ⟨t298, A200, H⟩ := H
        replace H : (some (s0_0, t298, s0_2, s0_3, s0_4, s0_5)) = some (r1, r2, r3, r4, r5, r6) := H
        have A20 := Aside0.mk A200
        clear A200
        simp only [Option.some.injEq, Prod.mk.injEq] at H
        obtain ⟨rfl, rfl, rfl, rfl, rfl, rfl⟩ := H
        obtain ⟨HGz21, hgz21⟩ := HI0.out
        have hcz21_0 := cellS75_0 HGz21
        have hcz21_1 := cellS75_1 HGz21
        have hcz21_2 := cellS75_2 HGz21
        have hcz21_3 := cellS75_3 HGz21
        have hcz21_4 := cellS75_4 HGz21
        have hcz21_5 := cellS75_5 HGz21
        have hfz21_0 := blk_frozen HGz21 0
        have hfz21_1 := blk_frozen HGz21 1
        have hfz21_2 := blk_frozen HGz21 2
        have hfz21_3 := blk_frozen HGz21 3
        have hfz21_4 := blk_frozen HGz21 4
        have hfz21_5 := blk_frozen HGz21 5
        clear HGz21 hgz21
        go_wp2_with (first | ((with_reducible refine gate_callee (f := 50) rfl ?_); refine goesL_ (some 31) rfl rfl Try.func50 (by kernel_rfl) rfl #[.int .i64 (wrap64 (a1 - s0_1)), .int .i64 (wrap64 (x6_9 * a2)), .int .i64 4294967296, .int .i64 1] rfl (by (try simp only [List.map_toArray, List.map_cons, List.map_nil]); first | done | rfl | (simp only [List.length_drop, List.length_take]; rfl)) ?_; (with_reducible refine (muldiv_Do.calls (wrap64 (a1 - s0_1)) (wrap64 (x6_9 * a2)) 4294967296 1 t294 _ A16.out).mono ?_); rintro e w22 ⟨rfl, hb⟩; refine ⟨_, rfl, ?_⟩; have n0_ := Aside0.mk (IsS75.below (by repeat (first | (with_reducible first | exact HI0.out | apply IsS75.alloc | apply IsS75.drewN | apply IsS75.drew | apply IsS75.set_0 | apply IsS75.set_1 | apply IsS75.set_2 | apply IsS75.set_3 | apply IsS75.set_4 | apply IsS75.set_5) | exact HI0.out)) hb); have n1_ := Aside0.mk (KeepBut.trans (by repeat (first | (with_reducible first | exact HK.out | apply KeepBut.set_ | apply keep_drewN | apply keep_drew | apply keep_alloc) | exact HK.out)) (KeepBut.of_below hb g none) (.inl rfl)); have n2_ := Aside0.mk (below_step (by repeat (first | (with_reducible first | exact HB.out | apply below_alloc | apply pw_below_drewN | apply below_drew1 | refine below_set ?_ (IsS75.ge HI0.out)) | exact HB.out)) hb); clear HI0; clear HK; clear HB; have HI0 := n0_; have HK := n1_; have HB := n2_; clear n0_ n1_ n2_; (try clear hb); (try clear hb2); (try clear hk); (try clear hi); obtain ⟨HGz23, hgz23⟩ := HI0.out; have hcz23_0 := cellS75_0 HGz23; have hcz23_1 := cellS75_1 HGz23; have hcz23_2 := cellS75_2 HGz23; have hcz23_3 := cellS75_3 HGz23; have hcz23_4 := cellS75_4 HGz23; have hcz23_5 := cellS75_5 HGz23; have hfz23_0 := blk_frozen HGz23 0; have hfz23_1 := blk_frozen HGz23 1; have hfz23_2 := blk_frozen HGz23 2; have hfz23_3 := blk_frozen HGz23 3; have hfz23_4 := blk_frozen HGz23 4; have hfz23_5 := blk_frozen HGz23 5; clear HGz23 hgz23) | ((with_reducible refine gate_callee (f := 53) rfl ?_); refine goesL_ (some 38) rfl rfl Try.func53 (by kernel_rfl) rfl #[.int .i64 s0_1, .int .i64 t294] rfl (by (try simp only [List.map_toArray, List.map_cons, List.map_nil]); first | done | rfl | (simp only [List.length_drop, List.length_take]; rfl)) ?_; (with_reducible refine (sat_Add.calls kj9 s0_1 t294 t295 _ A17.out).mono ?_); rintro e w24 ⟨rfl, hb⟩; refine ⟨_, rfl, ?_⟩; have n0_ := Aside0.mk (IsS75.below (by repeat (first | (with_reducible first | exact HI0.out | apply IsS75.alloc | apply IsS75.drewN | apply IsS75.drew | apply IsS75.set_0 | apply IsS75.set_1 | apply IsS75.set_2 | apply IsS75.set_3 | apply IsS75.set_4 | apply IsS75.set_5) | exact HI0.out)) hb); have n1_ := Aside0.mk (KeepBut.trans (by repeat (first | (with_reducible first | exact HK.out | apply KeepBut.set_ | apply keep_drewN | apply keep_drew | apply keep_alloc) | exact HK.out)) (KeepBut.of_below hb g none) (.inl rfl)); have n2_ := Aside0.mk (below_step (by repeat (first | (with_reducible first | exact HB.out | apply below_alloc | apply pw_below_drewN | apply below_drew1 | refine below_set ?_ (IsS75.ge HI0.out)) | exact HB.out)) hb); clear HI0; clear HK; clear HB; have HI0 := n0_; have HK := n1_; have HB := n2_; clear n0_ n1_ n2_; (try clear hb); (try clear hb2); (try clear hk); (try clear hi)) | ((with_reducible refine gate_callee (f := 35) rfl ?_); refine goesL_ (some 39) rfl rfl Try.func35 (by kernel_rfl) rfl #[.int .i64 6] rfl (by (try simp only [List.map_toArray, List.map_cons, List.map_nil]); first | done | rfl | (simp only [List.length_drop, List.length_take]; rfl)) ?_; (with_reducible refine (fixed_Of.calls 6 t296 _ A18.out).mono ?_); rintro e w25 ⟨rfl, hb⟩; refine ⟨_, rfl, ?_⟩; have n0_ := Aside0.mk (IsS75.below (by repeat (first | (with_reducible first | exact HI0.out | apply IsS75.alloc | apply IsS75.drewN | apply IsS75.drew | apply IsS75.set_0 | apply IsS75.set_1 | apply IsS75.set_2 | apply IsS75.set_3 | apply IsS75.set_4 | apply IsS75.set_5) | exact HI0.out)) hb); have n1_ := Aside0.mk (KeepBut.trans (by repeat (first | (with_reducible first | exact HK.out | apply KeepBut.set_ | apply keep_drewN | apply keep_drew | apply keep_alloc) | exact HK.out)) (KeepBut.of_below hb g none) (.inl rfl)); have n2_ := Aside0.mk (below_step (by repeat (first | (with_reducible first | exact HB.out | apply below_alloc | apply pw_below_drewN | apply below_drew1 | refine below_set ?_ (IsS75.ge HI0.out)) | exact HB.out)) hb); clear HI0; clear HK; clear HB; have HI0 := n0_; have HK := n1_; have HB := n2_; clear n0_ n1_ n2_; (try clear hb); (try clear hb2); (try clear hk); (try clear hi)) | ((with_reducible refine gate_callee (f := 35) rfl ?_); refine goesL_ (some 40) rfl rfl Try.func35 (by kernel_rfl) rfl #[.int .i64 600] rfl (by (try simp only [List.map_toArray, List.map_cons, List.map_nil]); first | done | rfl | (simp only [List.length_drop, List.length_take]; rfl)) ?_; (with_reducible refine (fixed_Of.calls 600 t297 _ A19.out).mono ?_); rintro e w26 ⟨rfl, hb⟩; refine ⟨_, rfl, ?_⟩; have n0_ := Aside0.mk (IsS75.below (by repeat (first | (with_reducible first | exact HI0.out | apply IsS75.alloc | apply IsS75.drewN | apply IsS75.drew | apply IsS75.set_0 | apply IsS75.set_1 | apply IsS75.set_2 | apply IsS75.set_3 | apply IsS75.set_4 | apply IsS75.set_5) | exact HI0.out)) hb); have n1_ := Aside0.mk (KeepBut.trans (by repeat (first | (with_reducible first | exact HK.out | apply KeepBut.set_ | apply keep_drewN | apply keep_drew | apply keep_alloc) | exact HK.out)) (KeepBut.of_below hb g none) (.inl rfl)); have n2_ := Aside0.mk (below_step (by repeat (first | (with_reducible first | exact HB.out | apply below_alloc | apply pw_below_drewN | apply below_drew1 | refine below_set ?_ (IsS75.ge HI0.out)) | exact HB.out)) hb); clear HI0; clear HK; clear HB; have HI0 := n0_; have HK := n1_; have HB := n2_; clear n0_ n1_ n2_; (try clear hb); (try clear hb2); (try clear hk); (try clear hi)) | ((with_reducible refine gate_callee (f := 36) rfl ?_); refine goesL_ (some 41) rfl rfl Try.func36 (by kernel_rfl) rfl #[.int .i64 t295, .int .i64 t296, .int .i64 t297] rfl (by (try simp only [List.map_toArray, List.map_cons, List.map_nil]); first | done | rfl | (simp only [List.length_drop, List.length_take]; rfl)) ?_; (with_reducible refine (sat_Clamp.calls t295 t296 t297 t298 _ A20.out).mono ?_); rintro e w' ⟨rfl, ⟨nd, rfl⟩⟩; refine ⟨_, rfl, ?_⟩; (try (rw [drewN_self w26]; generalize hq_ : World.drewN w26 _ = w26; have n0_ : Aside0 (IsS75 w0 w26 g s0_0 s0_1 s0_2 s0_3 s0_4 s0_5) := ⟨by rw [← hq_]; exact (by repeat (first | (with_reducible first | exact HI0.out | apply IsS75.alloc | apply IsS75.drewN | apply IsS75.drew | apply IsS75.set_0 | apply IsS75.set_1 | apply IsS75.set_2 | apply IsS75.set_3 | apply IsS75.set_4 | apply IsS75.set_5) | exact HI0.out))⟩; have n1_ : Aside0 (KeepBut w w26 g none) := ⟨by rw [← hq_]; exact (by repeat (first | (with_reducible first | exact HK.out | apply KeepBut.set_ | apply keep_drewN | apply keep_drew | apply keep_alloc) | exact HK.out))⟩; have n2_ : Aside0 (Below w0.heap.size w0 w26) := ⟨by rw [← hq_]; exact (by repeat (first | (with_reducible first | exact HB.out | apply below_alloc | apply pw_below_drewN | apply below_drew1 | refine below_set ?_ (IsS75.ge HI0.out)) | exact HB.out))⟩; clear HI0 HK HB hq_; have HI0 := n0_; have HK := n1_; have HB := n2_; clear n0_ n1_ n2_)); obtain ⟨HGz27, hgz27⟩ := HI0.out; have hcz27_0 := cellS75_0 HGz27; have hcz27_1 := cellS75_1 HGz27; have hcz27_2 := cellS75_2 HGz27; have hcz27_3 := cellS75_3 HGz27; have hcz27_4 := cellS75_4 HGz27; have hcz27_5 := cellS75_5 HGz27; have hfz27_0 := blk_frozen HGz27 0; have hfz27_1 := blk_frozen HGz27 1; have hfz27_2 := blk_frozen HGz27 2; have hfz27_3 := blk_frozen HGz27 3; have hfz27_4 := blk_frozen HGz27 4; have hfz27_5 := blk_frozen HGz27 5; clear HGz27 hgz27))
        first | go_end0 | ((try simp only [Exit.inBlock, Exit.then]); refine bodyPost_ret (results_none rfl _ _ _) rfl ?_)
        exact ⟨by first | rfl | (simp [errW_none, errW_some] <;> rfl) | (simp [*, errW_none, errW_some] <;> rfl), by repeat (first | (with_reducible first | exact HI0.out | apply IsS75.alloc | apply IsS75.drewN | apply IsS75.drew | apply IsS75.set_0 | apply IsS75.set_1 | apply IsS75.set_2 | apply IsS75.set_3 | apply IsS75.set_4 | apply IsS75.set_5) | exact HI0.out), by repeat (first | (with_reducible first | exact HB.out | apply below_alloc | apply pw_below_drewN | apply below_drew1 | refine below_set ?_ (IsS75.ge HI0.out)) | exact HB.out), by repeat (first | (with_reducible first | exact HK.out | apply KeepBut.set_ | apply keep_drewN | apply keep_drew | apply keep_alloc) | exact HK.out)⟩
end Go.Proofs.Ytaelmmbodigheaa.P
end

section
namespace Go.Proofs.Ytaelmmbodigheaa.P
open Go.RowKit Go.Proofs.YtaelmmbodigheaaW.PrintWords Go.Proofs.YtaelmmbodigheaaW.PrintLast Go.Proofs.YtaelmmbodigheaaW.PrintMore
attribute [local go_sem] max2_int min2_int max_two min_two max_three min_three max_four min_four   -- for this text's walks alone
set_option linter.unusedVariables false
set_option linter.unusedSimpArgs false
def detect_Detector_Add.f (k : Nat) (s0_0 : Int) (s0_1 : Int) (s0_2 : Int) (s0_3 : Int) (s0_4 : Int) (s0_5 : Int) (a1 : Int) (a2 : Int) (a3 : Int) (a4 : Int) : Option (Int × Int × Int × Int × Int × Int × Int) := (sat_Clamp.f a3 0 1000000).bind fun t299 => ((sat_Mul.f (4 * (mn (mx a2 0) 60)) a1).bind fun t300 => (if t300 > s0_1 then (if s0_2 > 0 then (if (wrap64 (s0_2 + t299)) > 10000 then (if (wrap64 (s0_3 + 1)) > 1 then (if t300 ≥ s0_4 then ((sat_Abs.f t300).bind fun t301 => ((detect_Detector_moves.f k 1 s0_1 0 0 s0_4 s0_5 t301 (mn t299 100000)).bind fun bt302 => (some (bt302.1, bt302.1, bt302.2.1, bt302.2.2.1, bt302.2.2.2.1, t300, bt302.2.2.2.2.2)))) else ((sat_Abs.f t300).bind fun t308 => ((detect_Detector_moves.f k s0_0 s0_1 (wrap64 (s0_2 + t299)) (wrap64 (s0_3 + 1)) s0_4 s0_5 t308 (mn t299 100000)).bind fun bt309 => (some (bt309.1, bt309.1, bt309.2.1, bt309.2.2.1, bt309.2.2.2.1, t300, bt309.2.2.2.2.2))))) else ((sat_Abs.f t300).bind fun t315 => ((detect_Detector_moves.f k s0_0 s0_1 (wrap64 (s0_2 + t299)) (wrap64 (s0_3 + 1)) s0_4 s0_5 t315 (mn t299 100000)).bind fun bt316 => (some (bt316.1, bt316.1, bt316.2.1, bt316.2.2.1, bt316.2.2.2.1, t300, bt316.2.2.2.2.2))))) else ((sat_Abs.f t300).bind fun t322 => ((detect_Detector_moves.f k s0_0 s0_1 (wrap64 (s0_2 + t299)) (wrap64 (s0_3 + 1)) s0_4 s0_5 t322 (mn t299 100000)).bind fun bt323 => (some (bt323.1, bt323.1, bt323.2.1, bt323.2.2.1, bt323.2.2.2.1, t300, bt323.2.2.2.2.2))))) else (if (mx (wrap64 (Int.tdiv t299 2)) 1) > 10000 then (if (wrap64 (s0_3 + 1)) > 1 then (if t300 ≥ s0_4 then ((sat_Abs.f t300).bind fun t329 => ((detect_Detector_moves.f k 1 s0_1 0 0 s0_4 s0_5 t329 (mn t299 100000)).bind fun bt330 => (some (bt330.1, bt330.1, bt330.2.1, bt330.2.2.1, bt330.2.2.2.1, t300, bt330.2.2.2.2.2)))) else ((sat_Abs.f t300).bind fun t336 => ((detect_Detector_moves.f k s0_0 s0_1 (mx (wrap64 (Int.tdiv t299 2)) 1) (wrap64 (s0_3 + 1)) s0_4 s0_5 t336 (mn t299 100000)).bind fun bt337 => (some (bt337.1, bt337.1, bt337.2.1, bt337.2.2.1, bt337.2.2.2.1, t300, bt337.2.2.2.2.2))))) else ((sat_Abs.f t300).bind fun t343 => ((detect_Detector_moves.f k s0_0 s0_1 (mx (wrap64 (Int.tdiv t299 2)) 1) (wrap64 (s0_3 + 1)) s0_4 s0_5 t343 (mn t299 100000)).bind fun bt344 => (some (bt344.1, bt344.1, bt344.2.1, bt344.2.2.1, bt344.2.2.2.1, t300, bt344.2.2.2.2.2))))) else ((sat_Abs.f t300).bind fun t350 => ((detect_Detector_moves.f k s0_0 s0_1 (mx (wrap64 (Int.tdiv t299 2)) 1) (wrap64 (s0_3 + 1)) s0_4 s0_5 t350 (mn t299 100000)).bind fun bt351 => (some (bt351.1, bt351.1, bt351.2.1, bt351.2.2.1, bt351.2.2.2.1, t300, bt351.2.2.2.2.2)))))) else (if t300 < (wrap64 (-s0_1)) then ((sat_Abs.f t300).bind fun t357 => ((detect_Detector_moves.f k 2 s0_1 0 0 s0_4 s0_5 t357 (mn t299 100000)).bind fun bt358 => (some (bt358.1, bt358.1, bt358.2.1, bt358.2.2.1, bt358.2.2.2.1, t300, bt358.2.2.2.2.2)))) else ((sat_Abs.f t300).bind fun t364 => ((detect_Detector_moves.f k 0 s0_1 0 0 s0_4 s0_5 t364 (mn t299 100000)).bind fun bt365 => (some (bt365.1, bt365.1, bt365.2.1, bt365.2.2.1, bt365.2.2.2.1, t300, bt365.2.2.2.2.2)))))))
theorem detect_Detector_Add.mono : ∀ a0 a1 a2 a3 a4 a5 a6 a7 a8 a9 k, LeO (detect_Detector_Add.f k a0 a1 a2 a3 a4 a5 a6 a7 a8 a9) (detect_Detector_Add.f (k + 1) a0 a1 a2 a3 a4 a5 a6 a7 a8 a9) := by
  intro a0 a1 a2 a3 a4 a5 a6 a7 a8 a9 k
  unfold detect_Detector_Add.f
  repeat' first
      | (with_reducible exact detect_Detector_moves.mono _ _ _ _ _ _ _ _ _)
      | (with_reducible exact LeO.refl _)
      | (with_reducible exact LeO.none _)
      | (with_reducible refine LeO.ite ?_ ?_)
      | (with_reducible refine LeO.bind ?_ (fun _ => ?_))
      | exact detect_Detector_moves.mono _ _ _ _ _ _ _ _ _
      | exact LeO.none _
      | refine LeO.ite ?_ ?_
      | refine LeO.bind ?_ (fun _ => ?_)
set_option maxHeartbeats 8000000 in
set_option maxRecDepth 100000 in
theorem detect_Detector_Add.calls (k : Nat) (g : Nat) (s0_0 : Int) (s0_1 : Int) (s0_2 : Int) (s0_3 : Int) (s0_4 : Int) (s0_5 : Int) (a1 : Int) (a2 : Int) (a3 : Int) (a4 : Int) (r1 : Int) (r2 : Int) (r3 : Int) (r4 : Int) (r5 : Int) (r6 : Int) (r7 : Int) (w0 w : World) (hI : IsS75 w0 w g s0_0 s0_1 s0_2 s0_3 s0_4 s0_5) (hB : Below w0.heap.size w0 w) (h : detect_Detector_Add.f k s0_0 s0_1 s0_2 s0_3 s0_4 s0_5 a1 a2 a3 a4 = some (r1, r2, r3, r4, r5, r6, r7)) :
    Calls Try.prog 28 #[.pointer (some ⟨g, 0, none⟩), .int .i64 a1, .int .i64 a2, .int .i64 a3, .int .i64 a4] w fun e w' => e = .returned (.int .i64 r1) ∧ IsS75 w0 w' g r2 r3 r4 r5 r6 r7 ∧ Below w0.heap.size w0 w' ∧ KeepBut w w' g none := by
  have hpn46_eql : ∀ (a_ : Addr) (W_ : World), (Go.binOp .eql 46 (.pointer (some a_)) (.pointer none)).run Try.prog W_ = .ok (.bool false) W_ := fun _ _ => by kernel_rfl
  have hnn46_eql : ∀ (W_ : World), (Go.binOp .eql 46 (.pointer none) (.pointer none)).run Try.prog W_ = .ok (.bool true) W_ := fun _ => by kernel_rfl
  have HI0 := Aside0.mk hI
  have HK := Aside0.mk (KeepBut.refl w g none)
  have HL := Aside0.mk hB.size
  clear hI
  have HW0 := Aside0.mk hB.size
  have HB := Aside0.mk hB
  clear hB
  have H : ((sat_Clamp.f a3 0 1000000).bind fun t299 => ((sat_Mul.f (4 * (mn (mx a2 0) 60)) a1).bind fun t300 => (if t300 > s0_1 then (if s0_2 > 0 then (if (wrap64 (s0_2 + t299)) > 10000 then (if (wrap64 (s0_3 + 1)) > 1 then (if t300 ≥ s0_4 then ((sat_Abs.f t300).bind fun t301 => ((detect_Detector_moves.f k 1 s0_1 0 0 s0_4 s0_5 t301 (mn t299 100000)).bind fun bt302 => (some (bt302.1, bt302.1, bt302.2.1, bt302.2.2.1, bt302.2.2.2.1, t300, bt302.2.2.2.2.2)))) else ((sat_Abs.f t300).bind fun t308 => ((detect_Detector_moves.f k s0_0 s0_1 (wrap64 (s0_2 + t299)) (wrap64 (s0_3 + 1)) s0_4 s0_5 t308 (mn t299 100000)).bind fun bt309 => (some (bt309.1, bt309.1, bt309.2.1, bt309.2.2.1, bt309.2.2.2.1, t300, bt309.2.2.2.2.2))))) else ((sat_Abs.f t300).bind fun t315 => ((detect_Detector_moves.f k s0_0 s0_1 (wrap64 (s0_2 + t299)) (wrap64 (s0_3 + 1)) s0_4 s0_5 t315 (mn t299 100000)).bind fun bt316 => (some (bt316.1, bt316.1, bt316.2.1, bt316.2.2.1, bt316.2.2.2.1, t300, bt316.2.2.2.2.2))))) else ((sat_Abs.f t300).bind fun t322 => ((detect_Detector_moves.f k s0_0 s0_1 (wrap64 (s0_2 + t299)) (wrap64 (s0_3 + 1)) s0_4 s0_5 t322 (mn t299 100000)).bind fun bt323 => (some (bt323.1, bt323.1, bt323.2.1, bt323.2.2.1, bt323.2.2.2.1, t300, bt323.2.2.2.2.2))))) else (if (mx (wrap64 (Int.tdiv t299 2)) 1) > 10000 then (if (wrap64 (s0_3 + 1)) > 1 then (if t300 ≥ s0_4 then ((sat_Abs.f t300).bind fun t329 => ((detect_Detector_moves.f k 1 s0_1 0 0 s0_4 s0_5 t329 (mn t299 100000)).bind fun bt330 => (some (bt330.1, bt330.1, bt330.2.1, bt330.2.2.1, bt330.2.2.2.1, t300, bt330.2.2.2.2.2)))) else ((sat_Abs.f t300).bind fun t336 => ((detect_Detector_moves.f k s0_0 s0_1 (mx (wrap64 (Int.tdiv t299 2)) 1) (wrap64 (s0_3 + 1)) s0_4 s0_5 t336 (mn t299 100000)).bind fun bt337 => (some (bt337.1, bt337.1, bt337.2.1, bt337.2.2.1, bt337.2.2.2.1, t300, bt337.2.2.2.2.2))))) else ((sat_Abs.f t300).bind fun t343 => ((detect_Detector_moves.f k s0_0 s0_1 (mx (wrap64 (Int.tdiv t299 2)) 1) (wrap64 (s0_3 + 1)) s0_4 s0_5 t343 (mn t299 100000)).bind fun bt344 => (some (bt344.1, bt344.1, bt344.2.1, bt344.2.2.1, bt344.2.2.2.1, t300, bt344.2.2.2.2.2))))) else ((sat_Abs.f t300).bind fun t350 => ((detect_Detector_moves.f k s0_0 s0_1 (mx (wrap64 (Int.tdiv t299 2)) 1) (wrap64 (s0_3 + 1)) s0_4 s0_5 t350 (mn t299 100000)).bind fun bt351 => (some (bt351.1, bt351.1, bt351.2.1, bt351.2.2.1, bt351.2.2.2.1, t300, bt351.2.2.2.2.2)))))) else (if t300 < (wrap64 (-s0_1)) then ((sat_Abs.f t300).bind fun t357 => ((detect_Detector_moves.f k 2 s0_1 0 0 s0_4 s0_5 t357 (mn t299 100000)).bind fun bt358 => (some (bt358.1, bt358.1, bt358.2.1, bt358.2.2.1, bt358.2.2.2.1, t300, bt358.2.2.2.2.2)))) else ((sat_Abs.f t300).bind fun t364 => ((detect_Detector_moves.f k 0 s0_1 0 0 s0_4 s0_5 t364 (mn t299 100000)).bind fun bt365 => (some (bt365.1, bt365.1, bt365.2.1, bt365.2.2.1, bt365.2.2.2.1, t300, bt365.2.2.2.2.2)))))))) = some (r1, r2, r3, r4, r5, r6, r7) := h
  clear h
  replace H := Option.bind_eq_some_iff.mp H
  obtain ⟨t299, A60, H⟩ := H
  replace H : ((sat_Mul.f (4 * (mn (mx a2 0) 60)) a1).bind fun t300 => (if t300 > s0_1 then (if s0_2 > 0 then (if (wrap64 (s0_2 + t299)) > 10000 then (if (wrap64 (s0_3 + 1)) > 1 then (if t300 ≥ s0_4 then ((sat_Abs.f t300).bind fun t301 => ((detect_Detector_moves.f k 1 s0_1 0 0 s0_4 s0_5 t301 (mn t299 100000)).bind fun bt302 => (some (bt302.1, bt302.1, bt302.2.1, bt302.2.2.1, bt302.2.2.2.1, t300, bt302.2.2.2.2.2)))) else ((sat_Abs.f t300).bind fun t308 => ((detect_Detector_moves.f k s0_0 s0_1 (wrap64 (s0_2 + t299)) (wrap64 (s0_3 + 1)) s0_4 s0_5 t308 (mn t299 100000)).bind fun bt309 => (some (bt309.1, bt309.1, bt309.2.1, bt309.2.2.1, bt309.2.2.2.1, t300, bt309.2.2.2.2.2))))) else ((sat_Abs.f t300).bind fun t315 => ((detect_Detector_moves.f k s0_0 s0_1 (wrap64 (s0_2 + t299)) (wrap64 (s0_3 + 1)) s0_4 s0_5 t315 (mn t299 100000)).bind fun bt316 => (some (bt316.1, bt316.1, bt316.2.1, bt316.2.2.1, bt316.2.2.2.1, t300, bt316.2.2.2.2.2))))) else ((sat_Abs.f t300).bind fun t322 => ((detect_Detector_moves.f k s0_0 s0_1 (wrap64 (s0_2 + t299)) (wrap64 (s0_3 + 1)) s0_4 s0_5 t322 (mn t299 100000)).bind fun bt323 => (some (bt323.1, bt323.1, bt323.2.1, bt323.2.2.1, bt323.2.2.2.1, t300, bt323.2.2.2.2.2))))) else (if (mx (wrap64 (Int.tdiv t299 2)) 1) > 10000 then (if (wrap64 (s0_3 + 1)) > 1 then (if t300 ≥ s0_4 then ((sat_Abs.f t300).bind fun t329 => ((detect_Detector_moves.f k 1 s0_1 0 0 s0_4 s0_5 t329 (mn t299 100000)).bind fun bt330 => (some (bt330.1, bt330.1, bt330.2.1, bt330.2.2.1, bt330.2.2.2.1, t300, bt330.2.2.2.2.2)))) else ((sat_Abs.f t300).bind fun t336 => ((detect_Detector_moves.f k s0_0 s0_1 (mx (wrap64 (Int.tdiv t299 2)) 1) (wrap64 (s0_3 + 1)) s0_4 s0_5 t336 (mn t299 100000)).bind fun bt337 => (some (bt337.1, bt337.1, bt337.2.1, bt337.2.2.1, bt337.2.2.2.1, t300, bt337.2.2.2.2.2))))) else ((sat_Abs.f t300).bind fun t343 => ((detect_Detector_moves.f k s0_0 s0_1 (mx (wrap64 (Int.tdiv t299 2)) 1) (wrap64 (s0_3 + 1)) s0_4 s0_5 t343 (mn t299 100000)).bind fun bt344 => (some (bt344.1, bt344.1, bt344.2.1, bt344.2.2.1, bt344.2.2.2.1, t300, bt344.2.2.2.2.2))))) else ((sat_Abs.f t300).bind fun t350 => ((detect_Detector_moves.f k s0_0 s0_1 (mx (wrap64 (Int.tdiv t299 2)) 1) (wrap64 (s0_3 + 1)) s0_4 s0_5 t350 (mn t299 100000)).bind fun bt351 => (some (bt351.1, bt351.1, bt351.2.1, bt351.2.2.1, bt351.2.2.2.1, t300, bt351.2.2.2.2.2)))))) else (if t300 < (wrap64 (-s0_1)) then ((sat_Abs.f t300).bind fun t357 => ((detect_Detector_moves.f k 2 s0_1 0 0 s0_4 s0_5 t357 (mn t299 100000)).bind fun bt358 => (some (bt358.1, bt358.1, bt358.2.1, bt358.2.2.1, bt358.2.2.2.1, t300, bt358.2.2.2.2.2)))) else ((sat_Abs.f t300).bind fun t364 => ((detect_Detector_moves.f k 0 s0_1 0 0 s0_4 s0_5 t364 (mn t299 100000)).bind fun bt365 => (some (bt365.1, bt365.1, bt365.2.1, bt365.2.2.1, bt365.2.2.2.1, t300, bt365.2.2.2.2.2))))))) = some (r1, r2, r3, r4, r5, r6, r7) := H
  have A6 := Aside0.mk A60
  clear A60
  obtain ⟨ji7, hji7⟩ : ∃ j_ : Int, (mx a2 0) = j_ := ⟨_, rfl⟩
  replace H : ((sat_Mul.f (4 * (mn (ji7) 60)) a1).bind fun t300 => (if t300 > s0_1 then (if s0_2 > 0 then (if (wrap64 (s0_2 + t299)) > 10000 then (if (wrap64 (s0_3 + 1)) > 1 then (if t300 ≥ s0_4 then ((sat_Abs.f t300).bind fun t301 => ((detect_Detector_moves.f k 1 s0_1 0 0 s0_4 s0_5 t301 (mn t299 100000)).bind fun bt302 => (some (bt302.1, bt302.1, bt302.2.1, bt302.2.2.1, bt302.2.2.2.1, t300, bt302.2.2.2.2.2)))) else ((sat_Abs.f t300).bind fun t308 => ((detect_Detector_moves.f k s0_0 s0_1 (wrap64 (s0_2 + t299)) (wrap64 (s0_3 + 1)) s0_4 s0_5 t308 (mn t299 100000)).bind fun bt309 => (some (bt309.1, bt309.1, bt309.2.1, bt309.2.2.1, bt309.2.2.2.1, t300, bt309.2.2.2.2.2))))) else ((sat_Abs.f t300).bind fun t315 => ((detect_Detector_moves.f k s0_0 s0_1 (wrap64 (s0_2 + t299)) (wrap64 (s0_3 + 1)) s0_4 s0_5 t315 (mn t299 100000)).bind fun bt316 => (some (bt316.1, bt316.1, bt316.2.1, bt316.2.2.1, bt316.2.2.2.1, t300, bt316.2.2.2.2.2))))) else ((sat_Abs.f t300).bind fun t322 => ((detect_Detector_moves.f k s0_0 s0_1 (wrap64 (s0_2 + t299)) (wrap64 (s0_3 + 1)) s0_4 s0_5 t322 (mn t299 100000)).bind fun bt323 => (some (bt323.1, bt323.1, bt323.2.1, bt323.2.2.1, bt323.2.2.2.1, t300, bt323.2.2.2.2.2))))) else (if (mx (wrap64 (Int.tdiv t299 2)) 1) > 10000 then (if (wrap64 (s0_3 + 1)) > 1 then (if t300 ≥ s0_4 then ((sat_Abs.f t300).bind fun t329 => ((detect_Detector_moves.f k 1 s0_1 0 0 s0_4 s0_5 t329 (mn t299 100000)).bind fun bt330 => (some (bt330.1, bt330.1, bt330.2.1, bt330.2.2.1, bt330.2.2.2.1, t300, bt330.2.2.2.2.2)))) else ((sat_Abs.f t300).bind fun t336 => ((detect_Detector_moves.f k s0_0 s0_1 (mx (wrap64 (Int.tdiv t299 2)) 1) (wrap64 (s0_3 + 1)) s0_4 s0_5 t336 (mn t299 100000)).bind fun bt337 => (some (bt337.1, bt337.1, bt337.2.1, bt337.2.2.1, bt337.2.2.2.1, t300, bt337.2.2.2.2.2))))) else ((sat_Abs.f t300).bind fun t343 => ((detect_Detector_moves.f k s0_0 s0_1 (mx (wrap64 (Int.tdiv t299 2)) 1) (wrap64 (s0_3 + 1)) s0_4 s0_5 t343 (mn t299 100000)).bind fun bt344 => (some (bt344.1, bt344.1, bt344.2.1, bt344.2.2.1, bt344.2.2.2.1, t300, bt344.2.2.2.2.2))))) else ((sat_Abs.f t300).bind fun t350 => ((detect_Detector_moves.f k s0_0 s0_1 (mx (wrap64 (Int.tdiv t299 2)) 1) (wrap64 (s0_3 + 1)) s0_4 s0_5 t350 (mn t299 100000)).bind fun bt351 => (some (bt351.1, bt351.1, bt351.2.1, bt351.2.2.1, bt351.2.2.2.1, t300, bt351.2.2.2.2.2)))))) else (if t300 < (wrap64 (-s0_1)) then ((sat_Abs.f t300).bind fun t357 => ((detect_Detector_moves.f k 2 s0_1 0 0 s0_4 s0_5 t357 (mn t299 100000)).bind fun bt358 => (some (bt358.1, bt358.1, bt358.2.1, bt358.2.2.1, bt358.2.2.2.1, t300, bt358.2.2.2.2.2)))) else ((sat_Abs.f t300).bind fun t364 => ((detect_Detector_moves.f k 0 s0_1 0 0 s0_4 s0_5 t364 (mn t299 100000)).bind fun bt365 => (some (bt365.1, bt365.1, bt365.2.1, bt365.2.2.1, bt365.2.2.2.1, t300, bt365.2.2.2.2.2))))))) = some (r1, r2, r3, r4, r5, r6, r7) := by first | (rw [hji7] at H; exact H) | (simp only [hji7] at H ⊢; exact H)
  (try rw [hji7] at A6)
  (try (have hji7l : 0 ≤ ji7 := by (rw [← hji7]; unfold mx; (repeat' split) <;> omega)))
  (try (have hji7m : 0 ≤ ji7 := by omega))
  have hji7_ : (if a2 < 0 then 0 else a2) = ji7 := hji7
  obtain ⟨ji8, hji8⟩ : ∃ j_ : Int, (mn (ji7) 60) = j_ := ⟨_, rfl⟩
  replace H : ((sat_Mul.f (4 * (ji8)) a1).bind fun t300 => (if t300 > s0_1 then (if s0_2 > 0 then (if (wrap64 (s0_2 + t299)) > 10000 then (if (wrap64 (s0_3 + 1)) > 1 then (if t300 ≥ s0_4 then ((sat_Abs.f t300).bind fun t301 => ((detect_Detector_moves.f k 1 s0_1 0 0 s0_4 s0_5 t301 (mn t299 100000)).bind fun bt302 => (some (bt302.1, bt302.1, bt302.2.1, bt302.2.2.1, bt302.2.2.2.1, t300, bt302.2.2.2.2.2)))) else ((sat_Abs.f t300).bind fun t308 => ((detect_Detector_moves.f k s0_0 s0_1 (wrap64 (s0_2 + t299)) (wrap64 (s0_3 + 1)) s0_4 s0_5 t308 (mn t299 100000)).bind fun bt309 => (some (bt309.1, bt309.1, bt309.2.1, bt309.2.2.1, bt309.2.2.2.1, t300, bt309.2.2.2.2.2))))) else ((sat_Abs.f t300).bind fun t315 => ((detect_Detector_moves.f k s0_0 s0_1 (wrap64 (s0_2 + t299)) (wrap64 (s0_3 + 1)) s0_4 s0_5 t315 (mn t299 100000)).bind fun bt316 => (some (bt316.1, bt316.1, bt316.2.1, bt316.2.2.1, bt316.2.2.2.1, t300, bt316.2.2.2.2.2))))) else ((sat_Abs.f t300).bind fun t322 => ((detect_Detector_moves.f k s0_0 s0_1 (wrap64 (s0_2 + t299)) (wrap64 (s0_3 + 1)) s0_4 s0_5 t322 (mn t299 100000)).bind fun bt323 => (some (bt323.1, bt323.1, bt323.2.1, bt323.2.2.1, bt323.2.2.2.1, t300, bt323.2.2.2.2.2))))) else (if (mx (wrap64 (Int.tdiv t299 2)) 1) > 10000 then (if (wrap64 (s0_3 + 1)) > 1 then (if t300 ≥ s0_4 then ((sat_Abs.f t300).bind fun t329 => ((detect_Detector_moves.f k 1 s0_1 0 0 s0_4 s0_5 t329 (mn t299 100000)).bind fun bt330 => (some (bt330.1, bt330.1, bt330.2.1, bt330.2.2.1, bt330.2.2.2.1, t300, bt330.2.2.2.2.2)))) else ((sat_Abs.f t300).bind fun t336 => ((detect_Detector_moves.f k s0_0 s0_1 (mx (wrap64 (Int.tdiv t299 2)) 1) (wrap64 (s0_3 + 1)) s0_4 s0_5 t336 (mn t299 100000)).bind fun bt337 => (some (bt337.1, bt337.1, bt337.2.1, bt337.2.2.1, bt337.2.2.2.1, t300, bt337.2.2.2.2.2))))) else ((sat_Abs.f t300).bind fun t343 => ((detect_Detector_moves.f k s0_0 s0_1 (mx (wrap64 (Int.tdiv t299 2)) 1) (wrap64 (s0_3 + 1)) s0_4 s0_5 t343 (mn t299 100000)).bind fun bt344 => (some (bt344.1, bt344.1, bt344.2.1, bt344.2.2.1, bt344.2.2.2.1, t300, bt344.2.2.2.2.2))))) else ((sat_Abs.f t300).bind fun t350 => ((detect_Detector_moves.f k s0_0 s0_1 (mx (wrap64 (Int.tdiv t299 2)) 1) (wrap64 (s0_3 + 1)) s0_4 s0_5 t350 (mn t299 100000)).bind fun bt351 => (some (bt351.1, bt351.1, bt351.2.1, bt351.2.2.1, bt351.2.2.2.1, t300, bt351.2.2.2.2.2)))))) else (if t300 < (wrap64 (-s0_1)) then ((sat_Abs.f t300).bind fun t357 => ((detect_Detector_moves.f k 2 s0_1 0 0 s0_4 s0_5 t357 (mn t299 100000)).bind fun bt358 => (some (bt358.1, bt358.1, bt358.2.1, bt358.2.2.1, bt358.2.2.2.1, t300, bt358.2.2.2.2.2)))) else ((sat_Abs.f t300).bind fun t364 => ((detect_Detector_moves.f k 0 s0_1 0 0 s0_4 s0_5 t364 (mn t299 100000)).bind fun bt365 => (some (bt365.1, bt365.1, bt365.2.1, bt365.2.2.1, bt365.2.2.2.1, t300, bt365.2.2.2.2.2))))))) = some (r1, r2, r3, r4, r5, r6, r7) := by first | (rw [hji8] at H; exact H) | (simp only [hji8] at H ⊢; exact H)
  (try rw [hji8] at A6)
  have hji8_ : (if 60 < (ji7) then 60 else (ji7)) = ji8 := hji8
  replace H := Option.bind_eq_some_iff.mp H
  obtain ⟨t300, A90, H⟩ := H
  replace H : (if t300 > s0_1 then (if s0_2 > 0 then (if (wrap64 (s0_2 + t299)) > 10000 then (if (wrap64 (s0_3 + 1)) > 1 then (if t300 ≥ s0_4 then ((sat_Abs.f t300).bind fun t301 => ((detect_Detector_moves.f k 1 s0_1 0 0 s0_4 s0_5 t301 (mn t299 100000)).bind fun bt302 => (some (bt302.1, bt302.1, bt302.2.1, bt302.2.2.1, bt302.2.2.2.1, t300, bt302.2.2.2.2.2)))) else ((sat_Abs.f t300).bind fun t308 => ((detect_Detector_moves.f k s0_0 s0_1 (wrap64 (s0_2 + t299)) (wrap64 (s0_3 + 1)) s0_4 s0_5 t308 (mn t299 100000)).bind fun bt309 => (some (bt309.1, bt309.1, bt309.2.1, bt309.2.2.1, bt309.2.2.2.1, t300, bt309.2.2.2.2.2))))) else ((sat_Abs.f t300).bind fun t315 => ((detect_Detector_moves.f k s0_0 s0_1 (wrap64 (s0_2 + t299)) (wrap64 (s0_3 + 1)) s0_4 s0_5 t315 (mn t299 100000)).bind fun bt316 => (some (bt316.1, bt316.1, bt316.2.1, bt316.2.2.1, bt316.2.2.2.1, t300, bt316.2.2.2.2.2))))) else ((sat_Abs.f t300).bind fun t322 => ((detect_Detector_moves.f k s0_0 s0_1 (wrap64 (s0_2 + t299)) (wrap64 (s0_3 + 1)) s0_4 s0_5 t322 (mn t299 100000)).bind fun bt323 => (some (bt323.1, bt323.1, bt323.2.1, bt323.2.2.1, bt323.2.2.2.1, t300, bt323.2.2.2.2.2))))) else (if (mx (wrap64 (Int.tdiv t299 2)) 1) > 10000 then (if (wrap64 (s0_3 + 1)) > 1 then (if t300 ≥ s0_4 then ((sat_Abs.f t300).bind fun t329 => ((detect_Detector_moves.f k 1 s0_1 0 0 s0_4 s0_5 t329 (mn t299 100000)).bind fun bt330 => (some (bt330.1, bt330.1, bt330.2.1, bt330.2.2.1, bt330.2.2.2.1, t300, bt330.2.2.2.2.2)))) else ((sat_Abs.f t300).bind fun t336 => ((detect_Detector_moves.f k s0_0 s0_1 (mx (wrap64 (Int.tdiv t299 2)) 1) (wrap64 (s0_3 + 1)) s0_4 s0_5 t336 (mn t299 100000)).bind fun bt337 => (some (bt337.1, bt337.1, bt337.2.1, bt337.2.2.1, bt337.2.2.2.1, t300, bt337.2.2.2.2.2))))) else ((sat_Abs.f t300).bind fun t343 => ((detect_Detector_moves.f k s0_0 s0_1 (mx (wrap64 (Int.tdiv t299 2)) 1) (wrap64 (s0_3 + 1)) s0_4 s0_5 t343 (mn t299 100000)).bind fun bt344 => (some (bt344.1, bt344.1, bt344.2.1, bt344.2.2.1, bt344.2.2.2.1, t300, bt344.2.2.2.2.2))))) else ((sat_Abs.f t300).bind fun t350 => ((detect_Detector_moves.f k s0_0 s0_1 (mx (wrap64 (Int.tdiv t299 2)) 1) (wrap64 (s0_3 + 1)) s0_4 s0_5 t350 (mn t299 100000)).bind fun bt351 => (some (bt351.1, bt351.1, bt351.2.1, bt351.2.2.1, bt351.2.2.2.1, t300, bt351.2.2.2.2.2)))))) else (if t300 < (wrap64 (-s0_1)) then ((sat_Abs.f t300).bind fun t357 => ((detect_Detector_moves.f k 2 s0_1 0 0 s0_4 s0_5 t357 (mn t299 100000)).bind fun bt358 => (some (bt358.1, bt358.1, bt358.2.1, bt358.2.2.1, bt358.2.2.2.1, t300, bt358.2.2.2.2.2)))) else ((sat_Abs.f t300).bind fun t364 => ((detect_Detector_moves.f k 0 s0_1 0 0 s0_4 s0_5 t364 (mn t299 100000)).bind fun bt365 => (some (bt365.1, bt365.1, bt365.2.1, bt365.2.2.1, bt365.2.2.2.1, t300, bt365.2.2.2.2.2)))))) = some (r1, r2, r3, r4, r5, r6, r7) := H
  have A9 := Aside0.mk A90
  clear A90
  by_cases c10 : t300 > s0_1
  · rw [if_pos c10] at H
    have c10b0 : decide (s0_1 < t300) = true := decide_eq_true c10
    clear c10
    by_cases c11 : s0_2 > 0
    · rw [if_pos c11] at H
      have c11b0 : decide (0 < s0_2) = true := decide_eq_true c11
      clear c11
      by_cases c12 : (wrap64 (s0_2 + t299)) > 10000
      · rw [if_pos c12] at H
        have c12b0 : decide (10000 < (wrap64 (s0_2 + t299))) = true := decide_eq_true c12
        clear c12
        by_cases c13 : (wrap64 (s0_3 + 1)) > 1
        · rw [if_pos c13] at H
          have c13b0 : decide (1 < (wrap64 (s0_3 + 1))) = true := decide_eq_true c13
          clear c13
          by_cases c14 : t300 ≥ s0_4
          · rw [if_pos c14] at H
            have c14b0 : decide (s0_4 ≤ t300) = true := decide_eq_true c14
            clear c14
            replace H := Option.bind_eq_some_iff.mp H
            obtain ⟨t301, A150, H⟩ := H
            replace H : ((detect_Detector_moves.f k 1 s0_1 0 0 s0_4 s0_5 t301 (mn t299 100000)).bind fun bt302 => (some (bt302.1, bt302.1, bt302.2.1, bt302.2.2.1, bt302.2.2.2.1, t300, bt302.2.2.2.2.2))) = some (r1, r2, r3, r4, r5, r6, r7) := H
            have A15 := Aside0.mk A150
            clear A150
            obtain ⟨ji16, hji16⟩ : ∃ j_ : Int, (mn t299 100000) = j_ := ⟨_, rfl⟩
            replace H : ((detect_Detector_moves.f k 1 s0_1 0 0 s0_4 s0_5 t301 (ji16)).bind fun bt302 => (some (bt302.1, bt302.1, bt302.2.1, bt302.2.2.1, bt302.2.2.2.1, t300, bt302.2.2.2.2.2))) = some (r1, r2, r3, r4, r5, r6, r7) := by first | (rw [hji16] at H; exact H) | (simp only [hji16] at H ⊢; exact H)
            (try rw [hji16] at A6)
            (try rw [hji16] at A9)
            (try rw [hji16] at A15)
            (try (have hji16h : ji16 ≤ 100000 := by (rw [← hji16]; unfold mn; (repeat' split) <;> omega)))
            (try (have hji16g : ji16 ≤ 64 := by omega))
            have hji16_ : (if 100000 < t299 then 100000 else t299) = ji16 := hji16
            replace H := Option.bind_eq_some_iff.mp H
            obtain ⟨⟨t302, t303, t304, t305, t306, t307⟩, A170, H⟩ := H
            replace H : (some (t302, t302, t303, t304, t305, t300, t307)) = some (r1, r2, r3, r4, r5, r6, r7) := H
            have A17 := Aside0.mk A170
            clear A170
            simp only [Option.some.injEq, Prod.mk.injEq] at H
            obtain ⟨rfl, rfl, rfl, rfl, rfl, rfl, rfl⟩ := H
            go_enter Try.func28, Try.ntmps28
            go_wp2
            repeat ((first | refine wp_scope_fwd 2 ?_ | refine Exit.fwd_goto rfl ?_ | (refine wp_label ?_; dsimp only [Exit.then]) | refine wp_label ?_ | (go_step3; refine Exit.fwd_goto rfl ?_) | (go_step3; (try simp only [Exit.then, Exit.inBlock]); refine Exit.fwd_goto rfl ?_)); try go_wp2_with (first | ((with_reducible refine gate_callee (f := 36) rfl ?_); refine goesL_ (some 15) rfl rfl Try.func36 (by kernel_rfl) rfl #[.int .i64 a3, .int .i64 0, .int .i64 1000000] rfl (by (try simp only [List.map_toArray, List.map_cons, List.map_nil]); first | done | rfl | (simp only [List.length_drop, List.length_take]; rfl)) ?_; (with_reducible refine (sat_Clamp.calls a3 0 1000000 t299 _ A6.out).mono ?_); rintro e w' ⟨rfl, ⟨nd, rfl⟩⟩; refine ⟨_, rfl, ?_⟩; (generalize hq_ : World.drewN w _ = w18; have n0_ : Aside0 (IsS75 w0 w18 g s0_0 s0_1 s0_2 s0_3 s0_4 s0_5) := ⟨by rw [← hq_]; exact (by repeat (first | (with_reducible first | exact HI0.out | apply IsS75.alloc | apply IsS75.drewN | apply IsS75.drew | apply IsS75.set_0 | apply IsS75.set_1 | apply IsS75.set_2 | apply IsS75.set_3 | apply IsS75.set_4 | apply IsS75.set_5) | exact HI0.out))⟩; have n1_ : Aside0 (KeepBut w w18 g none) := ⟨by rw [← hq_]; exact (by repeat (first | (with_reducible first | exact HK.out | apply KeepBut.set_ | apply keep_drewN | apply keep_drew | apply keep_alloc) | exact HK.out))⟩; have n2_ : Aside0 (Below w0.heap.size w0 w18) := ⟨by rw [← hq_]; exact (by repeat (first | (with_reducible first | exact HB.out | apply below_alloc | apply pw_below_drewN | apply below_drew1 | refine below_set ?_ (IsS75.ge HI0.out)) | exact HB.out))⟩; clear HI0 HK HB hq_; have HI0 := n0_; have HK := n1_; have HB := n2_; clear n0_ n1_ n2_)) | ((with_reducible refine gate_callee (f := 44) rfl ?_); refine goesL_ (some 21) rfl rfl Try.func44 (by kernel_rfl) rfl #[.int .i64 (4 * (ji8)), .int .i64 a1] rfl (by (try simp only [List.map_toArray, List.map_cons, List.map_nil]); first | done | (simp only [hji8]; rfl) | rfl | (simp only [List.length_drop, List.length_take]; rfl)) ?_; (with_reducible refine (sat_Mul.calls (4 * (ji8)) a1 t300 _ A9.out).mono ?_); rintro e w19 ⟨rfl, hb⟩; refine ⟨_, rfl, ?_⟩; have n0_ := Aside0.mk (IsS75.below (by repeat (first | (with_reducible first | exact HI0.out | apply IsS75.alloc | apply IsS75.drewN | apply IsS75.drew | apply IsS75.set_0 | apply IsS75.set_1 | apply IsS75.set_2 | apply IsS75.set_3 | apply IsS75.set_4 | apply IsS75.set_5) | exact HI0.out)) hb); have n1_ := Aside0.mk (KeepBut.trans (by repeat (first | (with_reducible first | exact HK.out | apply KeepBut.set_ | apply keep_drewN | apply keep_drew | apply keep_alloc) | exact HK.out)) (KeepBut.of_below hb g none) (.inl rfl)); have n2_ := Aside0.mk (below_step (by repeat (first | (with_reducible first | exact HB.out | apply below_alloc | apply pw_below_drewN | apply below_drew1 | refine below_set ?_ (IsS75.ge HI0.out)) | exact HB.out)) hb); clear HI0; clear HK; clear HB; have HI0 := n0_; have HK := n1_; have HB := n2_; clear n0_ n1_ n2_; (try clear hb); (try clear hb2); (try clear hk); (try clear hi); obtain ⟨HGz20, hgz20⟩ := HI0.out; have hcz20_0 := cellS75_0 HGz20; have hcz20_1 := cellS75_1 HGz20; have hcz20_2 := cellS75_2 HGz20; have hcz20_3 := cellS75_3 HGz20; have hcz20_4 := cellS75_4 HGz20; have hcz20_5 := cellS75_5 HGz20; have hfz20_0 := blk_frozen HGz20 0; have hfz20_1 := blk_frozen HGz20 1; have hfz20_2 := blk_frozen HGz20 2; have hfz20_3 := blk_frozen HGz20 3; have hfz20_4 := blk_frozen HGz20 4; have hfz20_5 := blk_frozen HGz20 5; clear HGz20 hgz20) | ((with_reducible refine gate_callee (f := 46) rfl ?_); refine goesL_ (some 104) rfl rfl Try.func46 (by kernel_rfl) rfl #[.int .i64 t300] rfl (by (try simp only [List.map_toArray, List.map_cons, List.map_nil]); first | done | rfl | (simp only [List.length_drop, List.length_take]; rfl)) ?_; (with_reducible refine (sat_Abs.calls t300 t301 _ A15.out).mono ?_); rintro e w21 ⟨rfl, hb⟩; refine ⟨_, rfl, ?_⟩; have n0_ := Aside0.mk (IsS75.below (show IsS75 w0 (((((w19.setCell ⟨g, 2, none⟩ (.int .i64 (wrap64 (s0_2 + t299)))).setCell ⟨g, 3, none⟩ (.int .i64 (wrap64 (s0_3 + 1)))).setCell ⟨g, 2, none⟩ (.int .i64 0)).setCell ⟨g, 3, none⟩ (.int .i64 0)).setCell ⟨g, 0, none⟩ (.int .i64 1)) g 1 s0_1 0 0 s0_4 s0_5 from by repeat (first | (with_reducible first | exact HI0.out | apply IsS75.alloc | apply IsS75.drewN | apply IsS75.drew | apply IsS75.set_0 | apply IsS75.set_1 | apply IsS75.set_2 | apply IsS75.set_3 | apply IsS75.set_4 | apply IsS75.set_5) | exact HI0.out)) hb); have n1_ := Aside0.mk (KeepBut.trans (by repeat (first | (with_reducible first | exact HK.out | apply KeepBut.set_ | apply keep_drewN | apply keep_drew | apply keep_alloc) | exact HK.out)) (KeepBut.of_below hb g none) (.inl rfl)); have n2_ := Aside0.mk (below_step (by repeat (first | (with_reducible first | exact HB.out | apply below_alloc | apply pw_below_drewN | apply below_drew1 | refine below_set ?_ (IsS75.ge HI0.out)) | exact HB.out)) hb); clear HI0; clear HK; clear HB; have HI0 := n0_; have HK := n1_; have HB := n2_; clear n0_ n1_ n2_; (try clear hb); (try clear hb2); (try clear hk); (try clear hi)) | ((with_reducible refine gate_callee (f := 45) rfl ?_); refine goesL_ (some 107) rfl rfl Try.func45 (by kernel_rfl) rfl #[.pointer (some ⟨g, 0, none⟩), .int .i64 t301, .int .i64 ji16] rfl (by (try simp only [List.map_toArray, List.map_cons, List.map_nil]); first | done | (simp only [hji16]; rfl) | rfl | (simp only [List.length_drop, List.length_take]; rfl)) ?_; (with_reducible refine (detect_Detector_moves.calls k g 1 s0_1 0 0 s0_4 s0_5 t301 ji16 t302 t303 t304 t305 t306 t307 w0 _ ?side1 ?side2 A17.out).mono ?_); (case side1 => repeat (first | (with_reducible first | exact HI0.out | apply IsS75.alloc | apply IsS75.drewN | apply IsS75.drew | apply IsS75.set_0 | apply IsS75.set_1 | apply IsS75.set_2 | apply IsS75.set_3 | apply IsS75.set_4 | apply IsS75.set_5) | exact HI0.out)); (case side2 => repeat (first | (with_reducible first | exact HB.out | apply below_alloc | apply pw_below_drewN | apply below_drew1 | refine below_set ?_ (IsS75.ge HI0.out)) | exact HB.out)); rintro e w22 ⟨rfl, hi, hb, hk⟩; refine ⟨_, rfl, ?_⟩; have n0_ := Aside0.mk (KeepBut.trans (by repeat (first | (with_reducible first | exact HK.out | apply KeepBut.set_ | apply keep_drewN | apply keep_drew | apply keep_alloc) | exact HK.out)) hk (.inl rfl)); have n1_ := Aside0.mk (hb); have n2_ := Aside0.mk (hi); clear HK; clear HB; clear HI0; have HK := n0_; have HB := n1_; have HI0 := n2_; clear n0_ n1_ n2_; (try clear hb); (try clear hb2); (try clear hk); (try clear hi); obtain ⟨HGz23, hgz23⟩ := HI0.out; have hcz23_0 := cellS75_0 HGz23; have hcz23_1 := cellS75_1 HGz23; have hcz23_2 := cellS75_2 HGz23; have hcz23_3 := cellS75_3 HGz23; have hcz23_4 := cellS75_4 HGz23; have hcz23_5 := cellS75_5 HGz23; have hfz23_0 := blk_frozen HGz23 0; have hfz23_1 := blk_frozen HGz23 1; have hfz23_2 := blk_frozen HGz23 2; have hfz23_3 := blk_frozen HGz23 3; have hfz23_4 := blk_frozen HGz23 4; have hfz23_5 := blk_frozen HGz23 5; clear HGz23 hgz23)))
            (try rw [Exit.fwd_ret])
            (try rw [Exit.fwd_normal])
            go_ret
            exact ⟨by first | rfl | (simp [errW_none, errW_some] <;> rfl) | (simp only [← hji7, ← hji8, ← hji16]; first | rfl | (simp [errW_none, errW_some] <;> rfl)) | (simp [*, errW_none, errW_some] <;> rfl), by repeat (first | (with_reducible first | exact HI0.out | apply IsS75.alloc | apply IsS75.drewN | apply IsS75.drew | apply IsS75.set_0 | apply IsS75.set_1 | apply IsS75.set_2 | apply IsS75.set_3 | apply IsS75.set_4 | apply IsS75.set_5) | exact HI0.out), by repeat (first | (with_reducible first | exact HB.out | apply below_alloc | apply pw_below_drewN | apply below_drew1 | refine below_set ?_ (IsS75.ge HI0.out)) | exact HB.out), by repeat (first | (with_reducible first | exact HK.out | apply KeepBut.set_ | apply keep_drewN | apply keep_drew | apply keep_alloc) | exact HK.out)⟩
          · rw [if_neg c14] at H
            have c14b0 : decide (s0_4 ≤ t300) = false := decide_eq_false c14
            clear c14
            replace H := Option.bind_eq_some_iff.mp H
            obtain ⟨t308, A240, H⟩ := H
            replace H : ((detect_Detector_moves.f k s0_0 s0_1 (wrap64 (s0_2 + t299)) (wrap64 (s0_3 + 1)) s0_4 s0_5 t308 (mn t299 100000)).bind fun bt309 => (some (bt309.1, bt309.1, bt309.2.1, bt309.2.2.1, bt309.2.2.2.1, t300, bt309.2.2.2.2.2))) = some (r1, r2, r3, r4, r5, r6, r7) := H
            have A24 := Aside0.mk A240
            clear A240
            obtain ⟨ji25, hji25⟩ : ∃ j_ : Int, (mn t299 100000) = j_ := ⟨_, rfl⟩
            replace H : ((detect_Detector_moves.f k s0_0 s0_1 (wrap64 (s0_2 + t299)) (wrap64 (s0_3 + 1)) s0_4 s0_5 t308 (ji25)).bind fun bt309 => (some (bt309.1, bt309.1, bt309.2.1, bt309.2.2.1, bt309.2.2.2.1, t300, bt309.2.2.2.2.2))) = some (r1, r2, r3, r4, r5, r6, r7) := by first | (rw [hji25] at H; exact H) | (simp only [hji25] at H ⊢; exact H)
            (try rw [hji25] at A6)
            (try rw [hji25] at A9)
            (try rw [hji25] at A24)
            (try (have hji25h : ji25 ≤ 100000 := by (rw [← hji25]; unfold mn; (repeat' split) <;> omega)))
            (try (have hji25g : ji25 ≤ 64 := by omega))
            have hji25_ : (if 100000 < t299 then 100000 else t299) = ji25 := hji25
            replace H := Option.bind_eq_some_iff.mp H
            obtain ⟨⟨t309, t310, t311, t312, t313, t314⟩, A260, H⟩ := H
            replace H : (some (t309, t309, t310, t311, t312, t300, t314)) = some (r1, r2, r3, r4, r5, r6, r7) := H
            have A26 := Aside0.mk A260
            clear A260
            simp only [Option.some.injEq, Prod.mk.injEq] at H
            obtain ⟨rfl, rfl, rfl, rfl, rfl, rfl, rfl⟩ := H
            go_enter Try.func28, Try.ntmps28
            go_wp2
            repeat ((first | refine wp_scope_fwd 2 ?_ | refine Exit.fwd_goto rfl ?_ | (refine wp_label ?_; dsimp only [Exit.then]) | refine wp_label ?_ | (go_step3; refine Exit.fwd_goto rfl ?_) | (go_step3; (try simp only [Exit.then, Exit.inBlock]); refine Exit.fwd_goto rfl ?_)); try go_wp2_with (first | ((with_reducible refine gate_callee (f := 36) rfl ?_); refine goesL_ (some 15) rfl rfl Try.func36 (by kernel_rfl) rfl #[.int .i64 a3, .int .i64 0, .int .i64 1000000] rfl (by (try simp only [List.map_toArray, List.map_cons, List.map_nil]); first | done | rfl | (simp only [List.length_drop, List.length_take]; rfl)) ?_; (with_reducible refine (sat_Clamp.calls a3 0 1000000 t299 _ A6.out).mono ?_); rintro e w' ⟨rfl, ⟨nd, rfl⟩⟩; refine ⟨_, rfl, ?_⟩; (generalize hq_ : World.drewN w _ = w27; have n0_ : Aside0 (IsS75 w0 w27 g s0_0 s0_1 s0_2 s0_3 s0_4 s0_5) := ⟨by rw [← hq_]; exact (by repeat (first | (with_reducible first | exact HI0.out | apply IsS75.alloc | apply IsS75.drewN | apply IsS75.drew | apply IsS75.set_0 | apply IsS75.set_1 | apply IsS75.set_2 | apply IsS75.set_3 | apply IsS75.set_4 | apply IsS75.set_5) | exact HI0.out))⟩; have n1_ : Aside0 (KeepBut w w27 g none) := ⟨by rw [← hq_]; exact (by repeat (first | (with_reducible first | exact HK.out | apply KeepBut.set_ | apply keep_drewN | apply keep_drew | apply keep_alloc) | exact HK.out))⟩; have n2_ : Aside0 (Below w0.heap.size w0 w27) := ⟨by rw [← hq_]; exact (by repeat (first | (with_reducible first | exact HB.out | apply below_alloc | apply pw_below_drewN | apply below_drew1 | refine below_set ?_ (IsS75.ge HI0.out)) | exact HB.out))⟩; clear HI0 HK HB hq_; have HI0 := n0_; have HK := n1_; have HB := n2_; clear n0_ n1_ n2_)) | ((with_reducible refine gate_callee (f := 44) rfl ?_); refine goesL_ (some 21) rfl rfl Try.func44 (by kernel_rfl) rfl #[.int .i64 (4 * (ji8)), .int .i64 a1] rfl (by (try simp only [List.map_toArray, List.map_cons, List.map_nil]); first | done | (simp only [hji8]; rfl) | rfl | (simp only [List.length_drop, List.length_take]; rfl)) ?_; (with_reducible refine (sat_Mul.calls (4 * (ji8)) a1 t300 _ A9.out).mono ?_); rintro e w28 ⟨rfl, hb⟩; refine ⟨_, rfl, ?_⟩; have n0_ := Aside0.mk (IsS75.below (by repeat (first | (with_reducible first | exact HI0.out | apply IsS75.alloc | apply IsS75.drewN | apply IsS75.drew | apply IsS75.set_0 | apply IsS75.set_1 | apply IsS75.set_2 | apply IsS75.set_3 | apply IsS75.set_4 | apply IsS75.set_5) | exact HI0.out)) hb); have n1_ := Aside0.mk (KeepBut.trans (by repeat (first | (with_reducible first | exact HK.out | apply KeepBut.set_ | apply keep_drewN | apply keep_drew | apply keep_alloc) | exact HK.out)) (KeepBut.of_below hb g none) (.inl rfl)); have n2_ := Aside0.mk (below_step (by repeat (first | (with_reducible first | exact HB.out | apply below_alloc | apply pw_below_drewN | apply below_drew1 | refine below_set ?_ (IsS75.ge HI0.out)) | exact HB.out)) hb); clear HI0; clear HK; clear HB; have HI0 := n0_; have HK := n1_; have HB := n2_; clear n0_ n1_ n2_; (try clear hb); (try clear hb2); (try clear hk); (try clear hi); obtain ⟨HGz29, hgz29⟩ := HI0.out; have hcz29_0 := cellS75_0 HGz29; have hcz29_1 := cellS75_1 HGz29; have hcz29_2 := cellS75_2 HGz29; have hcz29_3 := cellS75_3 HGz29; have hcz29_4 := cellS75_4 HGz29; have hcz29_5 := cellS75_5 HGz29; have hfz29_0 := blk_frozen HGz29 0; have hfz29_1 := blk_frozen HGz29 1; have hfz29_2 := blk_frozen HGz29 2; have hfz29_3 := blk_frozen HGz29 3; have hfz29_4 := blk_frozen HGz29 4; have hfz29_5 := blk_frozen HGz29 5; clear HGz29 hgz29) | ((with_reducible refine gate_callee (f := 46) rfl ?_); refine goesL_ (some 104) rfl rfl Try.func46 (by kernel_rfl) rfl #[.int .i64 t300] rfl (by (try simp only [List.map_toArray, List.map_cons, List.map_nil]); first | done | rfl | (simp only [List.length_drop, List.length_take]; rfl)) ?_; (with_reducible refine (sat_Abs.calls t300 t308 _ A24.out).mono ?_); rintro e w30 ⟨rfl, hb⟩; refine ⟨_, rfl, ?_⟩; have n0_ := Aside0.mk (IsS75.below (show IsS75 w0 ((w28.setCell ⟨g, 2, none⟩ (.int .i64 (wrap64 (s0_2 + t299)))).setCell ⟨g, 3, none⟩ (.int .i64 (wrap64 (s0_3 + 1)))) g s0_0 s0_1 (wrap64 (s0_2 + t299)) (wrap64 (s0_3 + 1)) s0_4 s0_5 from by repeat (first | (with_reducible first | exact HI0.out | apply IsS75.alloc | apply IsS75.drewN | apply IsS75.drew | apply IsS75.set_0 | apply IsS75.set_1 | apply IsS75.set_2 | apply IsS75.set_3 | apply IsS75.set_4 | apply IsS75.set_5) | exact HI0.out)) hb); have n1_ := Aside0.mk (KeepBut.trans (by repeat (first | (with_reducible first | exact HK.out | apply KeepBut.set_ | apply keep_drewN | apply keep_drew | apply keep_alloc) | exact HK.out)) (KeepBut.of_below hb g none) (.inl rfl)); have n2_ := Aside0.mk (below_step (by repeat (first | (with_reducible first | exact HB.out | apply below_alloc | apply pw_below_drewN | apply below_drew1 | refine below_set ?_ (IsS75.ge HI0.out)) | exact HB.out)) hb); clear HI0; clear HK; clear HB; have HI0 := n0_; have HK := n1_; have HB := n2_; clear n0_ n1_ n2_; (try clear hb); (try clear hb2); (try clear hk); (try clear hi)) | ((with_reducible refine gate_callee (f := 45) rfl ?_); refine goesL_ (some 107) rfl rfl Try.func45 (by kernel_rfl) rfl #[.pointer (some ⟨g, 0, none⟩), .int .i64 t308, .int .i64 ji25] rfl (by (try simp only [List.map_toArray, List.map_cons, List.map_nil]); first | done | (simp only [hji25]; rfl) | rfl | (simp only [List.length_drop, List.length_take]; rfl)) ?_; (with_reducible refine (detect_Detector_moves.calls k g s0_0 s0_1 (wrap64 (s0_2 + t299)) (wrap64 (s0_3 + 1)) s0_4 s0_5 t308 ji25 t309 t310 t311 t312 t313 t314 w0 _ ?side1 ?side2 A26.out).mono ?_); (case side1 => repeat (first | (with_reducible first | exact HI0.out | apply IsS75.alloc | apply IsS75.drewN | apply IsS75.drew | apply IsS75.set_0 | apply IsS75.set_1 | apply IsS75.set_2 | apply IsS75.set_3 | apply IsS75.set_4 | apply IsS75.set_5) | exact HI0.out)); (case side2 => repeat (first | (with_reducible first | exact HB.out | apply below_alloc | apply pw_below_drewN | apply below_drew1 | refine below_set ?_ (IsS75.ge HI0.out)) | exact HB.out)); rintro e w31 ⟨rfl, hi, hb, hk⟩; refine ⟨_, rfl, ?_⟩; have n0_ := Aside0.mk (KeepBut.trans (by repeat (first | (with_reducible first | exact HK.out | apply KeepBut.set_ | apply keep_drewN | apply keep_drew | apply keep_alloc) | exact HK.out)) hk (.inl rfl)); have n1_ := Aside0.mk (hb); have n2_ := Aside0.mk (hi); clear HK; clear HB; clear HI0; have HK := n0_; have HB := n1_; have HI0 := n2_; clear n0_ n1_ n2_; (try clear hb); (try clear hb2); (try clear hk); (try clear hi); obtain ⟨HGz32, hgz32⟩ := HI0.out; have hcz32_0 := cellS75_0 HGz32; have hcz32_1 := cellS75_1 HGz32; have hcz32_2 := cellS75_2 HGz32; have hcz32_3 := cellS75_3 HGz32; have hcz32_4 := cellS75_4 HGz32; have hcz32_5 := cellS75_5 HGz32; have hfz32_0 := blk_frozen HGz32 0; have hfz32_1 := blk_frozen HGz32 1; have hfz32_2 := blk_frozen HGz32 2; have hfz32_3 := blk_frozen HGz32 3; have hfz32_4 := blk_frozen HGz32 4; have hfz32_5 := blk_frozen HGz32 5; clear HGz32 hgz32)))
            (try rw [Exit.fwd_ret])
            (try rw [Exit.fwd_normal])
            go_ret
            exact ⟨by first | rfl | (simp [errW_none, errW_some] <;> rfl) | (simp only [← hji7, ← hji8, ← hji25]; first | rfl | (simp [errW_none, errW_some] <;> rfl)) | (simp [*, errW_none, errW_some] <;> rfl), by repeat (first | (with_reducible first | exact HI0.out | apply IsS75.alloc | apply IsS75.drewN | apply IsS75.drew | apply IsS75.set_0 | apply IsS75.set_1 | apply IsS75.set_2 | apply IsS75.set_3 | apply IsS75.set_4 | apply IsS75.set_5) | exact HI0.out), by repeat (first | (with_reducible first | exact HB.out | apply below_alloc | apply pw_below_drewN | apply below_drew1 | refine below_set ?_ (IsS75.ge HI0.out)) | exact HB.out), by repeat (first | (with_reducible first | exact HK.out | apply KeepBut.set_ | apply keep_drewN | apply keep_drew | apply keep_alloc) | exact HK.out)⟩
        · rw [if_neg c13] at H
          have c13b0 : decide (1 < (wrap64 (s0_3 + 1))) = false := decide_eq_false c13
          clear c13
          replace H := Option.bind_eq_some_iff.mp H
          obtain ⟨t315, A330, H⟩ := H
          replace H : ((detect_Detector_moves.f k s0_0 s0_1 (wrap64 (s0_2 + t299)) (wrap64 (s0_3 + 1)) s0_4 s0_5 t315 (mn t299 100000)).bind fun bt316 => (some (bt316.1, bt316.1, bt316.2.1, bt316.2.2.1, bt316.2.2.2.1, t300, bt316.2.2.2.2.2))) = some (r1, r2, r3, r4, r5, r6, r7) := H
          have A33 := Aside0.mk A330
          clear A330
          obtain ⟨ji34, hji34⟩ : ∃ j_ : Int, (mn t299 100000) = j_ := ⟨_, rfl⟩
          replace H : ((detect_Detector_moves.f k s0_0 s0_1 (wrap64 (s0_2 + t299)) (wrap64 (s0_3 + 1)) s0_4 s0_5 t315 (ji34)).bind fun bt316 => (some (bt316.1, bt316.1, bt316.2.1, bt316.2.2.1, bt316.2.2.2.1, t300, bt316.2.2.2.2.2))) = some (r1, r2, r3, r4, r5, r6, r7) := by first | (rw [hji34] at H; exact H) | (simp only [hji34] at H ⊢; exact H)
          (try rw [hji34] at A6)
          (try rw [hji34] at A9)
          (try rw [hji34] at A33)
          (try (have hji34h : ji34 ≤ 100000 := by (rw [← hji34]; unfold mn; (repeat' split) <;> omega)))
          (try (have hji34g : ji34 ≤ 64 := by omega))
          have hji34_ : (if 100000 < t299 then 100000 else t299) = ji34 := hji34
          replace H := Option.bind_eq_some_iff.mp H
          obtain ⟨⟨t316, t317, t318, t319, t320, t321⟩, A350, H⟩ := H
          replace H : (some (t316, t316, t317, t318, t319, t300, t321)) = some (r1, r2, r3, r4, r5, r6, r7) := H
          have A35 := Aside0.mk A350
          clear A350
          simp only [Option.some.injEq, Prod.mk.injEq] at H
          obtain ⟨rfl, rfl, rfl, rfl, rfl, rfl, rfl⟩ := H
          go_enter Try.func28, Try.ntmps28
          go_wp2
          repeat ((first | refine wp_scope_fwd 2 ?_ | refine Exit.fwd_goto rfl ?_ | (refine wp_label ?_; dsimp only [Exit.then]) | refine wp_label ?_ | (go_step3; refine Exit.fwd_goto rfl ?_) | (go_step3; (try simp only [Exit.then, Exit.inBlock]); refine Exit.fwd_goto rfl ?_)); try go_wp2_with (first | ((with_reducible refine gate_callee (f := 36) rfl ?_); refine goesL_ (some 15) rfl rfl Try.func36 (by kernel_rfl) rfl #[.int .i64 a3, .int .i64 0, .int .i64 1000000] rfl (by (try simp only [List.map_toArray, List.map_cons, List.map_nil]); first | done | rfl | (simp only [List.length_drop, List.length_take]; rfl)) ?_; (with_reducible refine (sat_Clamp.calls a3 0 1000000 t299 _ A6.out).mono ?_); rintro e w' ⟨rfl, ⟨nd, rfl⟩⟩; refine ⟨_, rfl, ?_⟩; (generalize hq_ : World.drewN w _ = w36; have n0_ : Aside0 (IsS75 w0 w36 g s0_0 s0_1 s0_2 s0_3 s0_4 s0_5) := ⟨by rw [← hq_]; exact (by repeat (first | (with_reducible first | exact HI0.out | apply IsS75.alloc | apply IsS75.drewN | apply IsS75.drew | apply IsS75.set_0 | apply IsS75.set_1 | apply IsS75.set_2 | apply IsS75.set_3 | apply IsS75.set_4 | apply IsS75.set_5) | exact HI0.out))⟩; have n1_ : Aside0 (KeepBut w w36 g none) := ⟨by rw [← hq_]; exact (by repeat (first | (with_reducible first | exact HK.out | apply KeepBut.set_ | apply keep_drewN | apply keep_drew | apply keep_alloc) | exact HK.out))⟩; have n2_ : Aside0 (Below w0.heap.size w0 w36) := ⟨by rw [← hq_]; exact (by repeat (first | (with_reducible first | exact HB.out | apply below_alloc | apply pw_below_drewN | apply below_drew1 | refine below_set ?_ (IsS75.ge HI0.out)) | exact HB.out))⟩; clear HI0 HK HB hq_; have HI0 := n0_; have HK := n1_; have HB := n2_; clear n0_ n1_ n2_)) | ((with_reducible refine gate_callee (f := 44) rfl ?_); refine goesL_ (some 21) rfl rfl Try.func44 (by kernel_rfl) rfl #[.int .i64 (4 * (ji8)), .int .i64 a1] rfl (by (try simp only [List.map_toArray, List.map_cons, List.map_nil]); first | done | (simp only [hji8]; rfl) | rfl | (simp only [List.length_drop, List.length_take]; rfl)) ?_; (with_reducible refine (sat_Mul.calls (4 * (ji8)) a1 t300 _ A9.out).mono ?_); rintro e w37 ⟨rfl, hb⟩; refine ⟨_, rfl, ?_⟩; have n0_ := Aside0.mk (IsS75.below (by repeat (first | (with_reducible first | exact HI0.out | apply IsS75.alloc | apply IsS75.drewN | apply IsS75.drew | apply IsS75.set_0 | apply IsS75.set_1 | apply IsS75.set_2 | apply IsS75.set_3 | apply IsS75.set_4 | apply IsS75.set_5) | exact HI0.out)) hb); have n1_ := Aside0.mk (KeepBut.trans (by repeat (first | (with_reducible first | exact HK.out | apply KeepBut.set_ | apply keep_drewN | apply keep_drew | apply keep_alloc) | exact HK.out)) (KeepBut.of_below hb g none) (.inl rfl)); have n2_ := Aside0.mk (below_step (by repeat (first | (with_reducible first | exact HB.out | apply below_alloc | apply pw_below_drewN | apply below_drew1 | refine below_set ?_ (IsS75.ge HI0.out)) | exact HB.out)) hb); clear HI0; clear HK; clear HB; have HI0 := n0_; have HK := n1_; have HB := n2_; clear n0_ n1_ n2_; (try clear hb); (try clear hb2); (try clear hk); (try clear hi); obtain ⟨HGz38, hgz38⟩ := HI0.out; have hcz38_0 := cellS75_0 HGz38; have hcz38_1 := cellS75_1 HGz38; have hcz38_2 := cellS75_2 HGz38; have hcz38_3 := cellS75_3 HGz38; have hcz38_4 := cellS75_4 HGz38; have hcz38_5 := cellS75_5 HGz38; have hfz38_0 := blk_frozen HGz38 0; have hfz38_1 := blk_frozen HGz38 1; have hfz38_2 := blk_frozen HGz38 2; have hfz38_3 := blk_frozen HGz38 3; have hfz38_4 := blk_frozen HGz38 4; have hfz38_5 := blk_frozen HGz38 5; clear HGz38 hgz38) | ((with_reducible refine gate_callee (f := 46) rfl ?_); refine goesL_ (some 104) rfl rfl Try.func46 (by kernel_rfl) rfl #[.int .i64 t300] rfl (by (try simp only [List.map_toArray, List.map_cons, List.map_nil]); first | done | rfl | (simp only [List.length_drop, List.length_take]; rfl)) ?_; (with_reducible refine (sat_Abs.calls t300 t315 _ A33.out).mono ?_); rintro e w39 ⟨rfl, hb⟩; refine ⟨_, rfl, ?_⟩; have n0_ := Aside0.mk (IsS75.below (show IsS75 w0 ((w37.setCell ⟨g, 2, none⟩ (.int .i64 (wrap64 (s0_2 + t299)))).setCell ⟨g, 3, none⟩ (.int .i64 (wrap64 (s0_3 + 1)))) g s0_0 s0_1 (wrap64 (s0_2 + t299)) (wrap64 (s0_3 + 1)) s0_4 s0_5 from by repeat (first | (with_reducible first | exact HI0.out | apply IsS75.alloc | apply IsS75.drewN | apply IsS75.drew | apply IsS75.set_0 | apply IsS75.set_1 | apply IsS75.set_2 | apply IsS75.set_3 | apply IsS75.set_4 | apply IsS75.set_5) | exact HI0.out)) hb); have n1_ := Aside0.mk (KeepBut.trans (by repeat (first | (with_reducible first | exact HK.out | apply KeepBut.set_ | apply keep_drewN | apply keep_drew | apply keep_alloc) | exact HK.out)) (KeepBut.of_below hb g none) (.inl rfl)); have n2_ := Aside0.mk (below_step (by repeat (first | (with_reducible first | exact HB.out | apply below_alloc | apply pw_below_drewN | apply below_drew1 | refine below_set ?_ (IsS75.ge HI0.out)) | exact HB.out)) hb); clear HI0; clear HK; clear HB; have HI0 := n0_; have HK := n1_; have HB := n2_; clear n0_ n1_ n2_; (try clear hb); (try clear hb2); (try clear hk); (try clear hi)) | ((with_reducible refine gate_callee (f := 45) rfl ?_); refine goesL_ (some 107) rfl rfl Try.func45 (by kernel_rfl) rfl #[.pointer (some ⟨g, 0, none⟩), .int .i64 t315, .int .i64 ji34] rfl (by (try simp only [List.map_toArray, List.map_cons, List.map_nil]); first | done | (simp only [hji34]; rfl) | rfl | (simp only [List.length_drop, List.length_take]; rfl)) ?_; (with_reducible refine (detect_Detector_moves.calls k g s0_0 s0_1 (wrap64 (s0_2 + t299)) (wrap64 (s0_3 + 1)) s0_4 s0_5 t315 ji34 t316 t317 t318 t319 t320 t321 w0 _ ?side1 ?side2 A35.out).mono ?_); (case side1 => repeat (first | (with_reducible first | exact HI0.out | apply IsS75.alloc | apply IsS75.drewN | apply IsS75.drew | apply IsS75.set_0 | apply IsS75.set_1 | apply IsS75.set_2 | apply IsS75.set_3 | apply IsS75.set_4 | apply IsS75.set_5) | exact HI0.out)); (case side2 => repeat (first | (with_reducible first | exact HB.out | apply below_alloc | apply pw_below_drewN | apply below_drew1 | refine below_set ?_ (IsS75.ge HI0.out)) | exact HB.out)); rintro e w40 ⟨rfl, hi, hb, hk⟩; refine ⟨_, rfl, ?_⟩; have n0_ := Aside0.mk (KeepBut.trans (by repeat (first | (with_reducible first | exact HK.out | apply KeepBut.set_ | apply keep_drewN | apply keep_drew | apply keep_alloc) | exact HK.out)) hk (.inl rfl)); have n1_ := Aside0.mk (hb); have n2_ := Aside0.mk (hi); clear HK; clear HB; clear HI0; have HK := n0_; have HB := n1_; have HI0 := n2_; clear n0_ n1_ n2_; (try clear hb); (try clear hb2); (try clear hk); (try clear hi); obtain ⟨HGz41, hgz41⟩ := HI0.out; have hcz41_0 := cellS75_0 HGz41; have hcz41_1 := cellS75_1 HGz41; have hcz41_2 := cellS75_2 HGz41; have hcz41_3 := cellS75_3 HGz41; have hcz41_4 := cellS75_4 HGz41; have hcz41_5 := cellS75_5 HGz41; have hfz41_0 := blk_frozen HGz41 0; have hfz41_1 := blk_frozen HGz41 1; have hfz41_2 := blk_frozen HGz41 2; have hfz41_3 := blk_frozen HGz41 3; have hfz41_4 := blk_frozen HGz41 4; have hfz41_5 := blk_frozen HGz41 5; clear HGz41 hgz41)))
          (try rw [Exit.fwd_ret])
          (try rw [Exit.fwd_normal])
          go_ret
          exact ⟨by first | rfl | (simp [errW_none, errW_some] <;> rfl) | (simp only [← hji7, ← hji8, ← hji34]; first | rfl | (simp [errW_none, errW_some] <;> rfl)) | (simp [*, errW_none, errW_some] <;> rfl), by repeat (first | (with_reducible first | exact HI0.out | apply IsS75.alloc | apply IsS75.drewN | apply IsS75.drew | apply IsS75.set_0 | apply IsS75.set_1 | apply IsS75.set_2 | apply IsS75.set_3 | apply IsS75.set_4 | apply IsS75.set_5) | exact HI0.out), by repeat (first | (with_reducible first | exact HB.out | apply below_alloc | apply pw_below_drewN | apply below_drew1 | refine below_set ?_ (IsS75.ge HI0.out)) | exact HB.out), by repeat (first | (with_reducible first | exact HK.out | apply KeepBut.set_ | apply keep_drewN | apply keep_drew | apply keep_alloc) | exact HK.out)⟩
      · rw [if_neg c12] at H
        have c12b0 : decide (10000 < (wrap64 (s0_2 + t299))) = false := decide_eq_false c12
        clear c12
        replace H := Option.bind_eq_some_iff.mp H
        obtain ⟨t322, A420, H⟩ := H
        replace H : ((detect_Detector_moves.f k s0_0 s0_1 (wrap64 (s0_2 + t299)) (wrap64 (s0_3 + 1)) s0_4 s0_5 t322 (mn t299 100000)).bind fun bt323 => (some (bt323.1, bt323.1, bt323.2.1, bt323.2.2.1, bt323.2.2.2.1, t300, bt323.2.2.2.2.2))) = some (r1, r2, r3, r4, r5, r6, r7) := H
        have A42 := Aside0.mk A420
        clear A420
        obtain ⟨ji43, hji43⟩ : ∃ j_ : Int, (mn t299 100000) = j_ := ⟨_, rfl⟩
        replace H : ((detect_Detector_moves.f k s0_0 s0_1 (wrap64 (s0_2 + t299)) (wrap64 (s0_3 + 1)) s0_4 s0_5 t322 (ji43)).bind fun bt323 => (some (bt323.1, bt323.1, bt323.2.1, bt323.2.2.1, bt323.2.2.2.1, t300, bt323.2.2.2.2.2))) = some (r1, r2, r3, r4, r5, r6, r7) := by first | (rw [hji43] at H; exact H) | (simp only [hji43] at H ⊢; exact H)
        (try rw [hji43] at A6)
        (try rw [hji43] at A9)
        (try rw [hji43] at A42)
        (try (have hji43h : ji43 ≤ 100000 := by (rw [← hji43]; unfold mn; (repeat' split) <;> omega)))
        (try (have hji43g : ji43 ≤ 64 := by omega))
        have hji43_ : (if 100000 < t299 then 100000 else t299) = ji43 := hji43
        replace H := Option.bind_eq_some_iff.mp H
        obtain ⟨⟨t323, t324, t325, t326, t327, t328⟩, A440, H⟩ := H
        replace H : (some (t323, t323, t324, t325, t326, t300, t328)) = some (r1, r2, r3, r4, r5, r6, r7) := H
        have A44 := Aside0.mk A440
        clear A440
        simp only [Option.some.injEq, Prod.mk.injEq] at H
        obtain ⟨rfl, rfl, rfl, rfl, rfl, rfl, rfl⟩ := H
        go_enter Try.func28, Try.ntmps28
        go_wp2
        repeat ((first | refine wp_scope_fwd 2 ?_ | refine Exit.fwd_goto rfl ?_ | (refine wp_label ?_; dsimp only [Exit.then]) | refine wp_label ?_ | (go_step3; refine Exit.fwd_goto rfl ?_) | (go_step3; (try simp only [Exit.then, Exit.inBlock]); refine Exit.fwd_goto rfl ?_)); try go_wp2_with (first | ((with_reducible refine gate_callee (f := 36) rfl ?_); refine goesL_ (some 15) rfl rfl Try.func36 (by kernel_rfl) rfl #[.int .i64 a3, .int .i64 0, .int .i64 1000000] rfl (by (try simp only [List.map_toArray, List.map_cons, List.map_nil]); first | done | rfl | (simp only [List.length_drop, List.length_take]; rfl)) ?_; (with_reducible refine (sat_Clamp.calls a3 0 1000000 t299 _ A6.out).mono ?_); rintro e w' ⟨rfl, ⟨nd, rfl⟩⟩; refine ⟨_, rfl, ?_⟩; (generalize hq_ : World.drewN w _ = w45; have n0_ : Aside0 (IsS75 w0 w45 g s0_0 s0_1 s0_2 s0_3 s0_4 s0_5) := ⟨by rw [← hq_]; exact (by repeat (first | (with_reducible first | exact HI0.out | apply IsS75.alloc | apply IsS75.drewN | apply IsS75.drew | apply IsS75.set_0 | apply IsS75.set_1 | apply IsS75.set_2 | apply IsS75.set_3 | apply IsS75.set_4 | apply IsS75.set_5) | exact HI0.out))⟩; have n1_ : Aside0 (KeepBut w w45 g none) := ⟨by rw [← hq_]; exact (by repeat (first | (with_reducible first | exact HK.out | apply KeepBut.set_ | apply keep_drewN | apply keep_drew | apply keep_alloc) | exact HK.out))⟩; have n2_ : Aside0 (Below w0.heap.size w0 w45) := ⟨by rw [← hq_]; exact (by repeat (first | (with_reducible first | exact HB.out | apply below_alloc | apply pw_below_drewN | apply below_drew1 | refine below_set ?_ (IsS75.ge HI0.out)) | exact HB.out))⟩; clear HI0 HK HB hq_; have HI0 := n0_; have HK := n1_; have HB := n2_; clear n0_ n1_ n2_)) | ((with_reducible refine gate_callee (f := 44) rfl ?_); refine goesL_ (some 21) rfl rfl Try.func44 (by kernel_rfl) rfl #[.int .i64 (4 * (ji8)), .int .i64 a1] rfl (by (try simp only [List.map_toArray, List.map_cons, List.map_nil]); first | done | (simp only [hji8]; rfl) | rfl | (simp only [List.length_drop, List.length_take]; rfl)) ?_; (with_reducible refine (sat_Mul.calls (4 * (ji8)) a1 t300 _ A9.out).mono ?_); rintro e w46 ⟨rfl, hb⟩; refine ⟨_, rfl, ?_⟩; have n0_ := Aside0.mk (IsS75.below (by repeat (first | (with_reducible first | exact HI0.out | apply IsS75.alloc | apply IsS75.drewN | apply IsS75.drew | apply IsS75.set_0 | apply IsS75.set_1 | apply IsS75.set_2 | apply IsS75.set_3 | apply IsS75.set_4 | apply IsS75.set_5) | exact HI0.out)) hb); have n1_ := Aside0.mk (KeepBut.trans (by repeat (first | (with_reducible first | exact HK.out | apply KeepBut.set_ | apply keep_drewN | apply keep_drew | apply keep_alloc) | exact HK.out)) (KeepBut.of_below hb g none) (.inl rfl)); have n2_ := Aside0.mk (below_step (by repeat (first | (with_reducible first | exact HB.out | apply below_alloc | apply pw_below_drewN | apply below_drew1 | refine below_set ?_ (IsS75.ge HI0.out)) | exact HB.out)) hb); clear HI0; clear HK; clear HB; have HI0 := n0_; have HK := n1_; have HB := n2_; clear n0_ n1_ n2_; (try clear hb); (try clear hb2); (try clear hk); (try clear hi); obtain ⟨HGz47, hgz47⟩ := HI0.out; have hcz47_0 := cellS75_0 HGz47; have hcz47_1 := cellS75_1 HGz47; have hcz47_2 := cellS75_2 HGz47; have hcz47_3 := cellS75_3 HGz47; have hcz47_4 := cellS75_4 HGz47; have hcz47_5 := cellS75_5 HGz47; have hfz47_0 := blk_frozen HGz47 0; have hfz47_1 := blk_frozen HGz47 1; have hfz47_2 := blk_frozen HGz47 2; have hfz47_3 := blk_frozen HGz47 3; have hfz47_4 := blk_frozen HGz47 4; have hfz47_5 := blk_frozen HGz47 5; clear HGz47 hgz47) | ((with_reducible refine gate_callee (f := 46) rfl ?_); refine goesL_ (some 104) rfl rfl Try.func46 (by kernel_rfl) rfl #[.int .i64 t300] rfl (by (try simp only [List.map_toArray, List.map_cons, List.map_nil]); first | done | rfl | (simp only [List.length_drop, List.length_take]; rfl)) ?_; (with_reducible refine (sat_Abs.calls t300 t322 _ A42.out).mono ?_); rintro e w48 ⟨rfl, hb⟩; refine ⟨_, rfl, ?_⟩; have n0_ := Aside0.mk (IsS75.below (show IsS75 w0 ((w46.setCell ⟨g, 2, none⟩ (.int .i64 (wrap64 (s0_2 + t299)))).setCell ⟨g, 3, none⟩ (.int .i64 (wrap64 (s0_3 + 1)))) g s0_0 s0_1 (wrap64 (s0_2 + t299)) (wrap64 (s0_3 + 1)) s0_4 s0_5 from by repeat (first | (with_reducible first | exact HI0.out | apply IsS75.alloc | apply IsS75.drewN | apply IsS75.drew | apply IsS75.set_0 | apply IsS75.set_1 | apply IsS75.set_2 | apply IsS75.set_3 | apply IsS75.set_4 | apply IsS75.set_5) | exact HI0.out)) hb); have n1_ := Aside0.mk (KeepBut.trans (by repeat (first | (with_reducible first | exact HK.out | apply KeepBut.set_ | apply keep_drewN | apply keep_drew | apply keep_alloc) | exact HK.out)) (KeepBut.of_below hb g none) (.inl rfl)); have n2_ := Aside0.mk (below_step (by repeat (first | (with_reducible first | exact HB.out | apply below_alloc | apply pw_below_drewN | apply below_drew1 | refine below_set ?_ (IsS75.ge HI0.out)) | exact HB.out)) hb); clear HI0; clear HK; clear HB; have HI0 := n0_; have HK := n1_; have HB := n2_; clear n0_ n1_ n2_; (try clear hb); (try clear hb2); (try clear hk); (try clear hi)) | ((with_reducible refine gate_callee (f := 45) rfl ?_); refine goesL_ (some 107) rfl rfl Try.func45 (by kernel_rfl) rfl #[.pointer (some ⟨g, 0, none⟩), .int .i64 t322, .int .i64 ji43] rfl (by (try simp only [List.map_toArray, List.map_cons, List.map_nil]); first | done | (simp only [hji43]; rfl) | rfl | (simp only [List.length_drop, List.length_take]; rfl)) ?_; (with_reducible refine (detect_Detector_moves.calls k g s0_0 s0_1 (wrap64 (s0_2 + t299)) (wrap64 (s0_3 + 1)) s0_4 s0_5 t322 ji43 t323 t324 t325 t326 t327 t328 w0 _ ?side1 ?side2 A44.out).mono ?_); (case side1 => repeat (first | (with_reducible first | exact HI0.out | apply IsS75.alloc | apply IsS75.drewN | apply IsS75.drew | apply IsS75.set_0 | apply IsS75.set_1 | apply IsS75.set_2 | apply IsS75.set_3 | apply IsS75.set_4 | apply IsS75.set_5) | exact HI0.out)); (case side2 => repeat (first | (with_reducible first | exact HB.out | apply below_alloc | apply pw_below_drewN | apply below_drew1 | refine below_set ?_ (IsS75.ge HI0.out)) | exact HB.out)); rintro e w49 ⟨rfl, hi, hb, hk⟩; refine ⟨_, rfl, ?_⟩; have n0_ := Aside0.mk (KeepBut.trans (by repeat (first | (with_reducible first | exact HK.out | apply KeepBut.set_ | apply keep_drewN | apply keep_drew | apply keep_alloc) | exact HK.out)) hk (.inl rfl)); have n1_ := Aside0.mk (hb); have n2_ := Aside0.mk (hi); clear HK; clear HB; clear HI0; have HK := n0_; have HB := n1_; have HI0 := n2_; clear n0_ n1_ n2_; (try clear hb); (try clear hb2); (try clear hk); (try clear hi); obtain ⟨HGz50, hgz50⟩ := HI0.out; have hcz50_0 := cellS75_0 HGz50; have hcz50_1 := cellS75_1 HGz50; have hcz50_2 := cellS75_2 HGz50; have hcz50_3 := cellS75_3 HGz50; have hcz50_4 := cellS75_4 HGz50; have hcz50_5 := cellS75_5 HGz50; have hfz50_0 := blk_frozen HGz50 0; have hfz50_1 := blk_frozen HGz50 1; have hfz50_2 := blk_frozen HGz50 2; have hfz50_3 := blk_frozen HGz50 3; have hfz50_4 := blk_frozen HGz50 4; have hfz50_5 := blk_frozen HGz50 5; clear HGz50 hgz50)))
        (try rw [Exit.fwd_ret])
        (try rw [Exit.fwd_normal])
        go_ret
        exact ⟨by first | rfl | (simp [errW_none, errW_some] <;> rfl) | (simp only [← hji7, ← hji8, ← hji43]; first | rfl | (simp [errW_none, errW_some] <;> rfl)) | (simp [*, errW_none, errW_some] <;> rfl), by repeat (first | (with_reducible first | exact HI0.out | apply IsS75.alloc | apply IsS75.drewN | apply IsS75.drew | apply IsS75.set_0 | apply IsS75.set_1 | apply IsS75.set_2 | apply IsS75.set_3 | apply IsS75.set_4 | apply IsS75.set_5) | exact HI0.out), by repeat (first | (with_reducible first | exact HB.out | apply below_alloc | apply pw_below_drewN | apply below_drew1 | refine below_set ?_ (IsS75.ge HI0.out)) | exact HB.out), by repeat (first | (with_reducible first | exact HK.out | apply KeepBut.set_ | apply keep_drewN | apply keep_drew | apply keep_alloc) | exact HK.out)⟩
    · rw [if_neg c11] at H
      have c11b0 : decide (0 < s0_2) = false := decide_eq_false c11
      clear c11
      obtain ⟨ji51, hji51⟩ : ∃ j_ : Int, (mx (wrap64 (Int.tdiv t299 2)) 1) = j_ := ⟨_, rfl⟩
      replace H : (if (ji51) > 10000 then (if (wrap64 (s0_3 + 1)) > 1 then (if t300 ≥ s0_4 then ((sat_Abs.f t300).bind fun t329 => ((detect_Detector_moves.f k 1 s0_1 0 0 s0_4 s0_5 t329 (mn t299 100000)).bind fun bt330 => (some (bt330.1, bt330.1, bt330.2.1, bt330.2.2.1, bt330.2.2.2.1, t300, bt330.2.2.2.2.2)))) else ((sat_Abs.f t300).bind fun t336 => ((detect_Detector_moves.f k s0_0 s0_1 (ji51) (wrap64 (s0_3 + 1)) s0_4 s0_5 t336 (mn t299 100000)).bind fun bt337 => (some (bt337.1, bt337.1, bt337.2.1, bt337.2.2.1, bt337.2.2.2.1, t300, bt337.2.2.2.2.2))))) else ((sat_Abs.f t300).bind fun t343 => ((detect_Detector_moves.f k s0_0 s0_1 (ji51) (wrap64 (s0_3 + 1)) s0_4 s0_5 t343 (mn t299 100000)).bind fun bt344 => (some (bt344.1, bt344.1, bt344.2.1, bt344.2.2.1, bt344.2.2.2.1, t300, bt344.2.2.2.2.2))))) else ((sat_Abs.f t300).bind fun t350 => ((detect_Detector_moves.f k s0_0 s0_1 (ji51) (wrap64 (s0_3 + 1)) s0_4 s0_5 t350 (mn t299 100000)).bind fun bt351 => (some (bt351.1, bt351.1, bt351.2.1, bt351.2.2.1, bt351.2.2.2.1, t300, bt351.2.2.2.2.2))))) = some (r1, r2, r3, r4, r5, r6, r7) := by first | (rw [hji51] at H; exact H) | (simp only [hji51] at H ⊢; exact H)
      (try rw [hji51] at A6)
      (try rw [hji51] at A9)
      (try (have hji51l : 1 ≤ ji51 := by (rw [← hji51]; unfold mx; (repeat' split) <;> omega)))
      (try (have hji51m : 0 ≤ ji51 := by omega))
      have hji51_ : (if (wrap64 (Int.tdiv t299 2)) < 1 then 1 else (wrap64 (Int.tdiv t299 2))) = ji51 := hji51
      by_cases c52 : (ji51) > 10000
      · rw [if_pos c52] at H
        have c52b0 : decide (10000 < (ji51)) = true := decide_eq_true c52
        clear c52
        by_cases c53 : (wrap64 (s0_3 + 1)) > 1
        · rw [if_pos c53] at H
          have c53b0 : decide (1 < (wrap64 (s0_3 + 1))) = true := decide_eq_true c53
          clear c53
          by_cases c54 : t300 ≥ s0_4
          · rw [if_pos c54] at H
            have c54b0 : decide (s0_4 ≤ t300) = true := decide_eq_true c54
            clear c54
            replace H := Option.bind_eq_some_iff.mp H
            obtain ⟨t329, A550, H⟩ := H
            replace H : ((detect_Detector_moves.f k 1 s0_1 0 0 s0_4 s0_5 t329 (mn t299 100000)).bind fun bt330 => (some (bt330.1, bt330.1, bt330.2.1, bt330.2.2.1, bt330.2.2.2.1, t300, bt330.2.2.2.2.2))) = some (r1, r2, r3, r4, r5, r6, r7) := H
            have A55 := Aside0.mk A550
            clear A550
            obtain ⟨ji56, hji56⟩ : ∃ j_ : Int, (mn t299 100000) = j_ := ⟨_, rfl⟩
            replace H : ((detect_Detector_moves.f k 1 s0_1 0 0 s0_4 s0_5 t329 (ji56)).bind fun bt330 => (some (bt330.1, bt330.1, bt330.2.1, bt330.2.2.1, bt330.2.2.2.1, t300, bt330.2.2.2.2.2))) = some (r1, r2, r3, r4, r5, r6, r7) := by first | (rw [hji56] at H; exact H) | (simp only [hji56] at H ⊢; exact H)
            (try rw [hji56] at A6)
            (try rw [hji56] at A9)
            (try rw [hji56] at A55)
            (try (have hji56h : ji56 ≤ 100000 := by (rw [← hji56]; unfold mn; (repeat' split) <;> omega)))
            (try (have hji56g : ji56 ≤ 64 := by omega))
            have hji56_ : (if 100000 < t299 then 100000 else t299) = ji56 := hji56
            replace H := Option.bind_eq_some_iff.mp H
            obtain ⟨⟨t330, t331, t332, t333, t334, t335⟩, A570, H⟩ := H
            replace H : (some (t330, t330, t331, t332, t333, t300, t335)) = some (r1, r2, r3, r4, r5, r6, r7) := H
            have A57 := Aside0.mk A570
            clear A570
            simp only [Option.some.injEq, Prod.mk.injEq] at H
            obtain ⟨rfl, rfl, rfl, rfl, rfl, rfl, rfl⟩ := H
            go_enter Try.func28, Try.ntmps28
            go_wp2
            repeat ((first | refine wp_scope_fwd 2 ?_ | refine Exit.fwd_goto rfl ?_ | (refine wp_label ?_; dsimp only [Exit.then]) | refine wp_label ?_ | (go_step3; refine Exit.fwd_goto rfl ?_) | (go_step3; (try simp only [Exit.then, Exit.inBlock]); refine Exit.fwd_goto rfl ?_)); try go_wp2_with (first | ((with_reducible refine gate_callee (f := 36) rfl ?_); refine goesL_ (some 15) rfl rfl Try.func36 (by kernel_rfl) rfl #[.int .i64 a3, .int .i64 0, .int .i64 1000000] rfl (by (try simp only [List.map_toArray, List.map_cons, List.map_nil]); first | done | rfl | (simp only [List.length_drop, List.length_take]; rfl)) ?_; (with_reducible refine (sat_Clamp.calls a3 0 1000000 t299 _ A6.out).mono ?_); rintro e w' ⟨rfl, ⟨nd, rfl⟩⟩; refine ⟨_, rfl, ?_⟩; (generalize hq_ : World.drewN w _ = w58; have n0_ : Aside0 (IsS75 w0 w58 g s0_0 s0_1 s0_2 s0_3 s0_4 s0_5) := ⟨by rw [← hq_]; exact (by repeat (first | (with_reducible first | exact HI0.out | apply IsS75.alloc | apply IsS75.drewN | apply IsS75.drew | apply IsS75.set_0 | apply IsS75.set_1 | apply IsS75.set_2 | apply IsS75.set_3 | apply IsS75.set_4 | apply IsS75.set_5) | exact HI0.out))⟩; have n1_ : Aside0 (KeepBut w w58 g none) := ⟨by rw [← hq_]; exact (by repeat (first | (with_reducible first | exact HK.out | apply KeepBut.set_ | apply keep_drewN | apply keep_drew | apply keep_alloc) | exact HK.out))⟩; have n2_ : Aside0 (Below w0.heap.size w0 w58) := ⟨by rw [← hq_]; exact (by repeat (first | (with_reducible first | exact HB.out | apply below_alloc | apply pw_below_drewN | apply below_drew1 | refine below_set ?_ (IsS75.ge HI0.out)) | exact HB.out))⟩; clear HI0 HK HB hq_; have HI0 := n0_; have HK := n1_; have HB := n2_; clear n0_ n1_ n2_)) | ((with_reducible refine gate_callee (f := 44) rfl ?_); refine goesL_ (some 21) rfl rfl Try.func44 (by kernel_rfl) rfl #[.int .i64 (4 * (ji8)), .int .i64 a1] rfl (by (try simp only [List.map_toArray, List.map_cons, List.map_nil]); first | done | (simp only [hji8]; rfl) | rfl | (simp only [List.length_drop, List.length_take]; rfl)) ?_; (with_reducible refine (sat_Mul.calls (4 * (ji8)) a1 t300 _ A9.out).mono ?_); rintro e w59 ⟨rfl, hb⟩; refine ⟨_, rfl, ?_⟩; have n0_ := Aside0.mk (IsS75.below (by repeat (first | (with_reducible first | exact HI0.out | apply IsS75.alloc | apply IsS75.drewN | apply IsS75.drew | apply IsS75.set_0 | apply IsS75.set_1 | apply IsS75.set_2 | apply IsS75.set_3 | apply IsS75.set_4 | apply IsS75.set_5) | exact HI0.out)) hb); have n1_ := Aside0.mk (KeepBut.trans (by repeat (first | (with_reducible first | exact HK.out | apply KeepBut.set_ | apply keep_drewN | apply keep_drew | apply keep_alloc) | exact HK.out)) (KeepBut.of_below hb g none) (.inl rfl)); have n2_ := Aside0.mk (below_step (by repeat (first | (with_reducible first | exact HB.out | apply below_alloc | apply pw_below_drewN | apply below_drew1 | refine below_set ?_ (IsS75.ge HI0.out)) | exact HB.out)) hb); clear HI0; clear HK; clear HB; have HI0 := n0_; have HK := n1_; have HB := n2_; clear n0_ n1_ n2_; (try clear hb); (try clear hb2); (try clear hk); (try clear hi); obtain ⟨HGz60, hgz60⟩ := HI0.out; have hcz60_0 := cellS75_0 HGz60; have hcz60_1 := cellS75_1 HGz60; have hcz60_2 := cellS75_2 HGz60; have hcz60_3 := cellS75_3 HGz60; have hcz60_4 := cellS75_4 HGz60; have hcz60_5 := cellS75_5 HGz60; have hfz60_0 := blk_frozen HGz60 0; have hfz60_1 := blk_frozen HGz60 1; have hfz60_2 := blk_frozen HGz60 2; have hfz60_3 := blk_frozen HGz60 3; have hfz60_4 := blk_frozen HGz60 4; have hfz60_5 := blk_frozen HGz60 5; clear HGz60 hgz60) | ((with_reducible refine gate_callee (f := 46) rfl ?_); refine goesL_ (some 104) rfl rfl Try.func46 (by kernel_rfl) rfl #[.int .i64 t300] rfl (by (try simp only [List.map_toArray, List.map_cons, List.map_nil]); first | done | rfl | (simp only [List.length_drop, List.length_take]; rfl)) ?_; (with_reducible refine (sat_Abs.calls t300 t329 _ A55.out).mono ?_); rintro e w61 ⟨rfl, hb⟩; refine ⟨_, rfl, ?_⟩; have n0_ := Aside0.mk (IsS75.below (show IsS75 w0 (((((w59.setCell ⟨g, 2, none⟩ (.int .i64 ji51)).setCell ⟨g, 3, none⟩ (.int .i64 (wrap64 (s0_3 + 1)))).setCell ⟨g, 2, none⟩ (.int .i64 0)).setCell ⟨g, 3, none⟩ (.int .i64 0)).setCell ⟨g, 0, none⟩ (.int .i64 1)) g 1 s0_1 0 0 s0_4 s0_5 from by repeat (first | (with_reducible first | exact HI0.out | apply IsS75.alloc | apply IsS75.drewN | apply IsS75.drew | apply IsS75.set_0 | apply IsS75.set_1 | apply IsS75.set_2 | apply IsS75.set_3 | apply IsS75.set_4 | apply IsS75.set_5) | exact HI0.out)) hb); have n1_ := Aside0.mk (KeepBut.trans (by repeat (first | (with_reducible first | exact HK.out | apply KeepBut.set_ | apply keep_drewN | apply keep_drew | apply keep_alloc) | exact HK.out)) (KeepBut.of_below hb g none) (.inl rfl)); have n2_ := Aside0.mk (below_step (by repeat (first | (with_reducible first | exact HB.out | apply below_alloc | apply pw_below_drewN | apply below_drew1 | refine below_set ?_ (IsS75.ge HI0.out)) | exact HB.out)) hb); clear HI0; clear HK; clear HB; have HI0 := n0_; have HK := n1_; have HB := n2_; clear n0_ n1_ n2_; (try clear hb); (try clear hb2); (try clear hk); (try clear hi)) | ((with_reducible refine gate_callee (f := 45) rfl ?_); refine goesL_ (some 107) rfl rfl Try.func45 (by kernel_rfl) rfl #[.pointer (some ⟨g, 0, none⟩), .int .i64 t329, .int .i64 ji56] rfl (by (try simp only [List.map_toArray, List.map_cons, List.map_nil]); first | done | (simp only [hji56]; rfl) | rfl | (simp only [List.length_drop, List.length_take]; rfl)) ?_; (with_reducible refine (detect_Detector_moves.calls k g 1 s0_1 0 0 s0_4 s0_5 t329 ji56 t330 t331 t332 t333 t334 t335 w0 _ ?side1 ?side2 A57.out).mono ?_); (case side1 => repeat (first | (with_reducible first | exact HI0.out | apply IsS75.alloc | apply IsS75.drewN | apply IsS75.drew | apply IsS75.set_0 | apply IsS75.set_1 | apply IsS75.set_2 | apply IsS75.set_3 | apply IsS75.set_4 | apply IsS75.set_5) | exact HI0.out)); (case side2 => repeat (first | (with_reducible first | exact HB.out | apply below_alloc | apply pw_below_drewN | apply below_drew1 | refine below_set ?_ (IsS75.ge HI0.out)) | exact HB.out)); rintro e w62 ⟨rfl, hi, hb, hk⟩; refine ⟨_, rfl, ?_⟩; have n0_ := Aside0.mk (KeepBut.trans (by repeat (first | (with_reducible first | exact HK.out | apply KeepBut.set_ | apply keep_drewN | apply keep_drew | apply keep_alloc) | exact HK.out)) hk (.inl rfl)); have n1_ := Aside0.mk (hb); have n2_ := Aside0.mk (hi); clear HK; clear HB; clear HI0; have HK := n0_; have HB := n1_; have HI0 := n2_; clear n0_ n1_ n2_; (try clear hb); (try clear hb2); (try clear hk); (try clear hi); obtain ⟨HGz63, hgz63⟩ := HI0.out; have hcz63_0 := cellS75_0 HGz63; have hcz63_1 := cellS75_1 HGz63; have hcz63_2 := cellS75_2 HGz63; have hcz63_3 := cellS75_3 HGz63; have hcz63_4 := cellS75_4 HGz63; have hcz63_5 := cellS75_5 HGz63; have hfz63_0 := blk_frozen HGz63 0; have hfz63_1 := blk_frozen HGz63 1; have hfz63_2 := blk_frozen HGz63 2; have hfz63_3 := blk_frozen HGz63 3; have hfz63_4 := blk_frozen HGz63 4; have hfz63_5 := blk_frozen HGz63 5; clear HGz63 hgz63)))
            (try rw [Exit.fwd_ret])
            (try rw [Exit.fwd_normal])
            go_ret
            exact ⟨by first | rfl | (simp [errW_none, errW_some] <;> rfl) | (simp only [← hji7, ← hji8, ← hji51, ← hji56]; first | rfl | (simp [errW_none, errW_some] <;> rfl)) | (simp [*, errW_none, errW_some] <;> rfl), by repeat (first | (with_reducible first | exact HI0.out | apply IsS75.alloc | apply IsS75.drewN | apply IsS75.drew | apply IsS75.set_0 | apply IsS75.set_1 | apply IsS75.set_2 | apply IsS75.set_3 | apply IsS75.set_4 | apply IsS75.set_5) | exact HI0.out), by repeat (first | (with_reducible first | exact HB.out | apply below_alloc | apply pw_below_drewN | apply below_drew1 | refine below_set ?_ (IsS75.ge HI0.out)) | exact HB.out), by repeat (first | (with_reducible first | exact HK.out | apply KeepBut.set_ | apply keep_drewN | apply keep_drew | apply keep_alloc) | exact HK.out)⟩
          · rw [if_neg c54] at H
            have c54b0 : decide (s0_4 ≤ t300) = false := decide_eq_false c54
            clear c54
            replace H := Option.bind_eq_some_iff.mp H
            obtain ⟨t336, A640, H⟩ := H
            replace H : ((detect_Detector_moves.f k s0_0 s0_1 (ji51) (wrap64 (s0_3 + 1)) s0_4 s0_5 t336 (mn t299 100000)).bind fun bt337 => (some (bt337.1, bt337.1, bt337.2.1, bt337.2.2.1, bt337.2.2.2.1, t300, bt337.2.2.2.2.2))) = some (r1, r2, r3, r4, r5, r6, r7) := H
            have A64 := Aside0.mk A640
            clear A640
            obtain ⟨ji65, hji65⟩ : ∃ j_ : Int, (mn t299 100000) = j_ := ⟨_, rfl⟩
            replace H : ((detect_Detector_moves.f k s0_0 s0_1 (ji51) (wrap64 (s0_3 + 1)) s0_4 s0_5 t336 (ji65)).bind fun bt337 => (some (bt337.1, bt337.1, bt337.2.1, bt337.2.2.1, bt337.2.2.2.1, t300, bt337.2.2.2.2.2))) = some (r1, r2, r3, r4, r5, r6, r7) := by first | (rw [hji65] at H; exact H) | (simp only [hji65] at H ⊢; exact H)
            (try rw [hji65] at A6)
            (try rw [hji65] at A9)
            (try rw [hji65] at A64)
            (try (have hji65h : ji65 ≤ 100000 := by (rw [← hji65]; unfold mn; (repeat' split) <;> omega)))
            (try (have hji65g : ji65 ≤ 64 := by omega))
            have hji65_ : (if 100000 < t299 then 100000 else t299) = ji65 := hji65
            replace H := Option.bind_eq_some_iff.mp H
            obtain ⟨⟨t337, t338, t339, t340, t341, t342⟩, A660, H⟩ := H
            replace H : (some (t337, t337, t338, t339, t340, t300, t342)) = some (r1, r2, r3, r4, r5, r6, r7) := H
            have A66 := Aside0.mk A660
            clear A660
            simp only [Option.some.injEq, Prod.mk.injEq] at H
            obtain ⟨rfl, rfl, rfl, rfl, rfl, rfl, rfl⟩ := H
            go_enter Try.func28, Try.ntmps28
            go_wp2
            repeat ((first | refine wp_scope_fwd 2 ?_ | refine Exit.fwd_goto rfl ?_ | (refine wp_label ?_; dsimp only [Exit.then]) | refine wp_label ?_ | (go_step3; refine Exit.fwd_goto rfl ?_) | (go_step3; (try simp only [Exit.then, Exit.inBlock]); refine Exit.fwd_goto rfl ?_)); try go_wp2_with (first | ((with_reducible refine gate_callee (f := 36) rfl ?_); refine goesL_ (some 15) rfl rfl Try.func36 (by kernel_rfl) rfl #[.int .i64 a3, .int .i64 0, .int .i64 1000000] rfl (by (try simp only [List.map_toArray, List.map_cons, List.map_nil]); first | done | rfl | (simp only [List.length_drop, List.length_take]; rfl)) ?_; (with_reducible refine (sat_Clamp.calls a3 0 1000000 t299 _ A6.out).mono ?_); rintro e w' ⟨rfl, ⟨nd, rfl⟩⟩; refine ⟨_, rfl, ?_⟩; (generalize hq_ : World.drewN w _ = w67; have n0_ : Aside0 (IsS75 w0 w67 g s0_0 s0_1 s0_2 s0_3 s0_4 s0_5) := ⟨by rw [← hq_]; exact (by repeat (first | (with_reducible first | exact HI0.out | apply IsS75.alloc | apply IsS75.drewN | apply IsS75.drew | apply IsS75.set_0 | apply IsS75.set_1 | apply IsS75.set_2 | apply IsS75.set_3 | apply IsS75.set_4 | apply IsS75.set_5) | exact HI0.out))⟩; have n1_ : Aside0 (KeepBut w w67 g none) := ⟨by rw [← hq_]; exact (by repeat (first | (with_reducible first | exact HK.out | apply KeepBut.set_ | apply keep_drewN | apply keep_drew | apply keep_alloc) | exact HK.out))⟩; have n2_ : Aside0 (Below w0.heap.size w0 w67) := ⟨by rw [← hq_]; exact (by repeat (first | (with_reducible first | exact HB.out | apply below_alloc | apply pw_below_drewN | apply below_drew1 | refine below_set ?_ (IsS75.ge HI0.out)) | exact HB.out))⟩; clear HI0 HK HB hq_; have HI0 := n0_; have HK := n1_; have HB := n2_; clear n0_ n1_ n2_)) | ((with_reducible refine gate_callee (f := 44) rfl ?_); refine goesL_ (some 21) rfl rfl Try.func44 (by kernel_rfl) rfl #[.int .i64 (4 * (ji8)), .int .i64 a1] rfl (by (try simp only [List.map_toArray, List.map_cons, List.map_nil]); first | done | (simp only [hji8]; rfl) | rfl | (simp only [List.length_drop, List.length_take]; rfl)) ?_; (with_reducible refine (sat_Mul.calls (4 * (ji8)) a1 t300 _ A9.out).mono ?_); rintro e w68 ⟨rfl, hb⟩; refine ⟨_, rfl, ?_⟩; have n0_ := Aside0.mk (IsS75.below (by repeat (first | (with_reducible first | exact HI0.out | apply IsS75.alloc | apply IsS75.drewN | apply IsS75.drew | apply IsS75.set_0 | apply IsS75.set_1 | apply IsS75.set_2 | apply IsS75.set_3 | apply IsS75.set_4 | apply IsS75.set_5) | exact HI0.out)) hb); have n1_ := Aside0.mk (KeepBut.trans (by repeat (first | (with_reducible first | exact HK.out | apply KeepBut.set_ | apply keep_drewN | apply keep_drew | apply keep_alloc) | exact HK.out)) (KeepBut.of_below hb g none) (.inl rfl)); have n2_ := Aside0.mk (below_step (by repeat (first | (with_reducible first | exact HB.out | apply below_alloc | apply pw_below_drewN | apply below_drew1 | refine below_set ?_ (IsS75.ge HI0.out)) | exact HB.out)) hb); clear HI0; clear HK; clear HB; have HI0 := n0_; have HK := n1_; have HB := n2_; clear n0_ n1_ n2_; (try clear hb); (try clear hb2); (try clear hk); (try clear hi); obtain ⟨HGz69, hgz69⟩ := HI0.out; have hcz69_0 := cellS75_0 HGz69; have hcz69_1 := cellS75_1 HGz69; have hcz69_2 := cellS75_2 HGz69; have hcz69_3 := cellS75_3 HGz69; have hcz69_4 := cellS75_4 HGz69; have hcz69_5 := cellS75_5 HGz69; have hfz69_0 := blk_frozen HGz69 0; have hfz69_1 := blk_frozen HGz69 1; have hfz69_2 := blk_frozen HGz69 2; have hfz69_3 := blk_frozen HGz69 3; have hfz69_4 := blk_frozen HGz69 4; have hfz69_5 := blk_frozen HGz69 5; clear HGz69 hgz69) | ((with_reducible refine gate_callee (f := 46) rfl ?_); refine goesL_ (some 104) rfl rfl Try.func46 (by kernel_rfl) rfl #[.int .i64 t300] rfl (by (try simp only [List.map_toArray, List.map_cons, List.map_nil]); first | done | rfl | (simp only [List.length_drop, List.length_take]; rfl)) ?_; (with_reducible refine (sat_Abs.calls t300 t336 _ A64.out).mono ?_); rintro e w70 ⟨rfl, hb⟩; refine ⟨_, rfl, ?_⟩; have n0_ := Aside0.mk (IsS75.below (show IsS75 w0 ((w68.setCell ⟨g, 2, none⟩ (.int .i64 ji51)).setCell ⟨g, 3, none⟩ (.int .i64 (wrap64 (s0_3 + 1)))) g s0_0 s0_1 ji51 (wrap64 (s0_3 + 1)) s0_4 s0_5 from by repeat (first | (with_reducible first | exact HI0.out | apply IsS75.alloc | apply IsS75.drewN | apply IsS75.drew | apply IsS75.set_0 | apply IsS75.set_1 | apply IsS75.set_2 | apply IsS75.set_3 | apply IsS75.set_4 | apply IsS75.set_5) | exact HI0.out)) hb); have n1_ := Aside0.mk (KeepBut.trans (by repeat (first | (with_reducible first | exact HK.out | apply KeepBut.set_ | apply keep_drewN | apply keep_drew | apply keep_alloc) | exact HK.out)) (KeepBut.of_below hb g none) (.inl rfl)); have n2_ := Aside0.mk (below_step (by repeat (first | (with_reducible first | exact HB.out | apply below_alloc | apply pw_below_drewN | apply below_drew1 | refine below_set ?_ (IsS75.ge HI0.out)) | exact HB.out)) hb); clear HI0; clear HK; clear HB; have HI0 := n0_; have HK := n1_; have HB := n2_; clear n0_ n1_ n2_; (try clear hb); (try clear hb2); (try clear hk); (try clear hi)) | ((with_reducible refine gate_callee (f := 45) rfl ?_); refine goesL_ (some 107) rfl rfl Try.func45 (by kernel_rfl) rfl #[.pointer (some ⟨g, 0, none⟩), .int .i64 t336, .int .i64 ji65] rfl (by (try simp only [List.map_toArray, List.map_cons, List.map_nil]); first | done | (simp only [hji65]; rfl) | rfl | (simp only [List.length_drop, List.length_take]; rfl)) ?_; (with_reducible refine (detect_Detector_moves.calls k g s0_0 s0_1 ji51 (wrap64 (s0_3 + 1)) s0_4 s0_5 t336 ji65 t337 t338 t339 t340 t341 t342 w0 _ ?side1 ?side2 A66.out).mono ?_); (case side1 => repeat (first | (with_reducible first | exact HI0.out | apply IsS75.alloc | apply IsS75.drewN | apply IsS75.drew | apply IsS75.set_0 | apply IsS75.set_1 | apply IsS75.set_2 | apply IsS75.set_3 | apply IsS75.set_4 | apply IsS75.set_5) | exact HI0.out)); (case side2 => repeat (first | (with_reducible first | exact HB.out | apply below_alloc | apply pw_below_drewN | apply below_drew1 | refine below_set ?_ (IsS75.ge HI0.out)) | exact HB.out)); rintro e w71 ⟨rfl, hi, hb, hk⟩; refine ⟨_, rfl, ?_⟩; have n0_ := Aside0.mk (KeepBut.trans (by repeat (first | (with_reducible first | exact HK.out | apply KeepBut.set_ | apply keep_drewN | apply keep_drew | apply keep_alloc) | exact HK.out)) hk (.inl rfl)); have n1_ := Aside0.mk (hb); have n2_ := Aside0.mk (hi); clear HK; clear HB; clear HI0; have HK := n0_; have HB := n1_; have HI0 := n2_; clear n0_ n1_ n2_; (try clear hb); (try clear hb2); (try clear hk); (try clear hi); obtain ⟨HGz72, hgz72⟩ := HI0.out; have hcz72_0 := cellS75_0 HGz72; have hcz72_1 := cellS75_1 HGz72; have hcz72_2 := cellS75_2 HGz72; have hcz72_3 := cellS75_3 HGz72; have hcz72_4 := cellS75_4 HGz72; have hcz72_5 := cellS75_5 HGz72; have hfz72_0 := blk_frozen HGz72 0; have hfz72_1 := blk_frozen HGz72 1; have hfz72_2 := blk_frozen HGz72 2; have hfz72_3 := blk_frozen HGz72 3; have hfz72_4 := blk_frozen HGz72 4; have hfz72_5 := blk_frozen HGz72 5; clear HGz72 hgz72)))
            (try rw [Exit.fwd_ret])
            (try rw [Exit.fwd_normal])
            go_ret
            exact ⟨by first | rfl | (simp [errW_none, errW_some] <;> rfl) | (simp only [← hji7, ← hji8, ← hji51, ← hji65]; first | rfl | (simp [errW_none, errW_some] <;> rfl)) | (simp [*, errW_none, errW_some] <;> rfl), by repeat (first | (with_reducible first | exact HI0.out | apply IsS75.alloc | apply IsS75.drewN | apply IsS75.drew | apply IsS75.set_0 | apply IsS75.set_1 | apply IsS75.set_2 | apply IsS75.set_3 | apply IsS75.set_4 | apply IsS75.set_5) | exact HI0.out), by repeat (first | (with_reducible first | exact HB.out | apply below_alloc | apply pw_below_drewN | apply below_drew1 | refine below_set ?_ (IsS75.ge HI0.out)) | exact HB.out), by repeat (first | (with_reducible first | exact HK.out | apply KeepBut.set_ | apply keep_drewN | apply keep_drew | apply keep_alloc) | exact HK.out)⟩
        · rw [if_neg c53] at H
          have c53b0 : decide (1 < (wrap64 (s0_3 + 1))) = false := decide_eq_false c53
          clear c53
          replace H := Option.bind_eq_some_iff.mp H
          obtain ⟨t343, A730, H⟩ := H
          replace H : ((detect_Detector_moves.f k s0_0 s0_1 (ji51) (wrap64 (s0_3 + 1)) s0_4 s0_5 t343 (mn t299 100000)).bind fun bt344 => (some (bt344.1, bt344.1, bt344.2.1, bt344.2.2.1, bt344.2.2.2.1, t300, bt344.2.2.2.2.2))) = some (r1, r2, r3, r4, r5, r6, r7) := H
          have A73 := Aside0.mk A730
          clear A730
          obtain ⟨ji74, hji74⟩ : ∃ j_ : Int, (mn t299 100000) = j_ := ⟨_, rfl⟩
          replace H : ((detect_Detector_moves.f k s0_0 s0_1 (ji51) (wrap64 (s0_3 + 1)) s0_4 s0_5 t343 (ji74)).bind fun bt344 => (some (bt344.1, bt344.1, bt344.2.1, bt344.2.2.1, bt344.2.2.2.1, t300, bt344.2.2.2.2.2))) = some (r1, r2, r3, r4, r5, r6, r7) := by first | (rw [hji74] at H; exact H) | (simp only [hji74] at H ⊢; exact H)
          (try rw [hji74] at A6)
          (try rw [hji74] at A9)
          (try rw [hji74] at A73)
          (try (have hji74h : ji74 ≤ 100000 := by (rw [← hji74]; unfold mn; (repeat' split) <;> omega)))
          (try (have hji74g : ji74 ≤ 64 := by omega))
          have hji74_ : (if 100000 < t299 then 100000 else t299) = ji74 := hji74
          replace H := Option.bind_eq_some_iff.mp H
          obtain ⟨⟨t344, t345, t346, t347, t348, t349⟩, A750, H⟩ := H
          replace H : (some (t344, t344, t345, t346, t347, t300, t349)) = some (r1, r2, r3, r4, r5, r6, r7) := H
          have A75 := Aside0.mk A750
          clear A750
          simp only [Option.some.injEq, Prod.mk.injEq] at H
          obtain ⟨rfl, rfl, rfl, rfl, rfl, rfl, rfl⟩ := H
          go_enter Try.func28, Try.ntmps28
          go_wp2
          repeat ((first | refine wp_scope_fwd 2 ?_ | refine Exit.fwd_goto rfl ?_ | (refine wp_label ?_; dsimp only [Exit.then]) | refine wp_label ?_ | (go_step3; refine Exit.fwd_goto rfl ?_) | (go_step3; (try simp only [Exit.then, Exit.inBlock]); refine Exit.fwd_goto rfl ?_)); try go_wp2_with (first | ((with_reducible refine gate_callee (f := 36) rfl ?_); refine goesL_ (some 15) rfl rfl Try.func36 (by kernel_rfl) rfl #[.int .i64 a3, .int .i64 0, .int .i64 1000000] rfl (by (try simp only [List.map_toArray, List.map_cons, List.map_nil]); first | done | rfl | (simp only [List.length_drop, List.length_take]; rfl)) ?_; (with_reducible refine (sat_Clamp.calls a3 0 1000000 t299 _ A6.out).mono ?_); rintro e w' ⟨rfl, ⟨nd, rfl⟩⟩; refine ⟨_, rfl, ?_⟩; (generalize hq_ : World.drewN w _ = w76; have n0_ : Aside0 (IsS75 w0 w76 g s0_0 s0_1 s0_2 s0_3 s0_4 s0_5) := ⟨by rw [← hq_]; exact (by repeat (first | (with_reducible first | exact HI0.out | apply IsS75.alloc | apply IsS75.drewN | apply IsS75.drew | apply IsS75.set_0 | apply IsS75.set_1 | apply IsS75.set_2 | apply IsS75.set_3 | apply IsS75.set_4 | apply IsS75.set_5) | exact HI0.out))⟩; have n1_ : Aside0 (KeepBut w w76 g none) := ⟨by rw [← hq_]; exact (by repeat (first | (with_reducible first | exact HK.out | apply KeepBut.set_ | apply keep_drewN | apply keep_drew | apply keep_alloc) | exact HK.out))⟩; have n2_ : Aside0 (Below w0.heap.size w0 w76) := ⟨by rw [← hq_]; exact (by repeat (first | (with_reducible first | exact HB.out | apply below_alloc | apply pw_below_drewN | apply below_drew1 | refine below_set ?_ (IsS75.ge HI0.out)) | exact HB.out))⟩; clear HI0 HK HB hq_; have HI0 := n0_; have HK := n1_; have HB := n2_; clear n0_ n1_ n2_)) | ((with_reducible refine gate_callee (f := 44) rfl ?_); refine goesL_ (some 21) rfl rfl Try.func44 (by kernel_rfl) rfl #[.int .i64 (4 * (ji8)), .int .i64 a1] rfl (by (try simp only [List.map_toArray, List.map_cons, List.map_nil]); first | done | (simp only [hji8]; rfl) | rfl | (simp only [List.length_drop, List.length_take]; rfl)) ?_; (with_reducible refine (sat_Mul.calls (4 * (ji8)) a1 t300 _ A9.out).mono ?_); rintro e w77 ⟨rfl, hb⟩; refine ⟨_, rfl, ?_⟩; have n0_ := Aside0.mk (IsS75.below (by repeat (first | (with_reducible first | exact HI0.out | apply IsS75.alloc | apply IsS75.drewN | apply IsS75.drew | apply IsS75.set_0 | apply IsS75.set_1 | apply IsS75.set_2 | apply IsS75.set_3 | apply IsS75.set_4 | apply IsS75.set_5) | exact HI0.out)) hb); have n1_ := Aside0.mk (KeepBut.trans (by repeat (first | (with_reducible first | exact HK.out | apply KeepBut.set_ | apply keep_drewN | apply keep_drew | apply keep_alloc) | exact HK.out)) (KeepBut.of_below hb g none) (.inl rfl)); have n2_ := Aside0.mk (below_step (by repeat (first | (with_reducible first | exact HB.out | apply below_alloc | apply pw_below_drewN | apply below_drew1 | refine below_set ?_ (IsS75.ge HI0.out)) | exact HB.out)) hb); clear HI0; clear HK; clear HB; have HI0 := n0_; have HK := n1_; have HB := n2_; clear n0_ n1_ n2_; (try clear hb); (try clear hb2); (try clear hk); (try clear hi); obtain ⟨HGz78, hgz78⟩ := HI0.out; have hcz78_0 := cellS75_0 HGz78; have hcz78_1 := cellS75_1 HGz78; have hcz78_2 := cellS75_2 HGz78; have hcz78_3 := cellS75_3 HGz78; have hcz78_4 := cellS75_4 HGz78; have hcz78_5 := cellS75_5 HGz78; have hfz78_0 := blk_frozen HGz78 0; have hfz78_1 := blk_frozen HGz78 1; have hfz78_2 := blk_frozen HGz78 2; have hfz78_3 := blk_frozen HGz78 3; have hfz78_4 := blk_frozen HGz78 4; have hfz78_5 := blk_frozen HGz78 5; clear HGz78 hgz78) | ((with_reducible refine gate_callee (f := 46) rfl ?_); refine goesL_ (some 104) rfl rfl Try.func46 (by kernel_rfl) rfl #[.int .i64 t300] rfl (by (try simp only [List.map_toArray, List.map_cons, List.map_nil]); first | done | rfl | (simp only [List.length_drop, List.length_take]; rfl)) ?_; (with_reducible refine (sat_Abs.calls t300 t343 _ A73.out).mono ?_); rintro e w79 ⟨rfl, hb⟩; refine ⟨_, rfl, ?_⟩; have n0_ := Aside0.mk (IsS75.below (show IsS75 w0 ((w77.setCell ⟨g, 2, none⟩ (.int .i64 ji51)).setCell ⟨g, 3, none⟩ (.int .i64 (wrap64 (s0_3 + 1)))) g s0_0 s0_1 ji51 (wrap64 (s0_3 + 1)) s0_4 s0_5 from by repeat (first | (with_reducible first | exact HI0.out | apply IsS75.alloc | apply IsS75.drewN | apply IsS75.drew | apply IsS75.set_0 | apply IsS75.set_1 | apply IsS75.set_2 | apply IsS75.set_3 | apply IsS75.set_4 | apply IsS75.set_5) | exact HI0.out)) hb); have n1_ := Aside0.mk (KeepBut.trans (by repeat (first | (with_reducible first | exact HK.out | apply KeepBut.set_ | apply keep_drewN | apply keep_drew | apply keep_alloc) | exact HK.out)) (KeepBut.of_below hb g none) (.inl rfl)); have n2_ := Aside0.mk (below_step (by repeat (first | (with_reducible first | exact HB.out | apply below_alloc | apply pw_below_drewN | apply below_drew1 | refine below_set ?_ (IsS75.ge HI0.out)) | exact HB.out)) hb); clear HI0; clear HK; clear HB; have HI0 := n0_; have HK := n1_; have HB := n2_; clear n0_ n1_ n2_; (try clear hb); (try clear hb2); (try clear hk); (try clear hi)) | ((with_reducible refine gate_callee (f := 45) rfl ?_); refine goesL_ (some 107) rfl rfl Try.func45 (by kernel_rfl) rfl #[.pointer (some ⟨g, 0, none⟩), .int .i64 t343, .int .i64 ji74] rfl (by (try simp only [List.map_toArray, List.map_cons, List.map_nil]); first | done | (simp only [hji74]; rfl) | rfl | (simp only [List.length_drop, List.length_take]; rfl)) ?_; (with_reducible refine (detect_Detector_moves.calls k g s0_0 s0_1 ji51 (wrap64 (s0_3 + 1)) s0_4 s0_5 t343 ji74 t344 t345 t346 t347 t348 t349 w0 _ ?side1 ?side2 A75.out).mono ?_); (case side1 => repeat (first | (with_reducible first | exact HI0.out | apply IsS75.alloc | apply IsS75.drewN | apply IsS75.drew | apply IsS75.set_0 | apply IsS75.set_1 | apply IsS75.set_2 | apply IsS75.set_3 | apply IsS75.set_4 | apply IsS75.set_5) | exact HI0.out)); (case side2 => repeat (first | (with_reducible first | exact HB.out | apply below_alloc | apply pw_below_drewN | apply below_drew1 | refine below_set ?_ (IsS75.ge HI0.out)) | exact HB.out)); rintro e w80 ⟨rfl, hi, hb, hk⟩; refine ⟨_, rfl, ?_⟩; have n0_ := Aside0.mk (KeepBut.trans (by repeat (first | (with_reducible first | exact HK.out | apply KeepBut.set_ | apply keep_drewN | apply keep_drew | apply keep_alloc) | exact HK.out)) hk (.inl rfl)); have n1_ := Aside0.mk (hb); have n2_ := Aside0.mk (hi); clear HK; clear HB; clear HI0; have HK := n0_; have HB := n1_; have HI0 := n2_; clear n0_ n1_ n2_; (try clear hb); (try clear hb2); (try clear hk); (try clear hi); obtain ⟨HGz81, hgz81⟩ := HI0.out; have hcz81_0 := cellS75_0 HGz81; have hcz81_1 := cellS75_1 HGz81; have hcz81_2 := cellS75_2 HGz81; have hcz81_3 := cellS75_3 HGz81; have hcz81_4 := cellS75_4 HGz81; have hcz81_5 := cellS75_5 HGz81; have hfz81_0 := blk_frozen HGz81 0; have hfz81_1 := blk_frozen HGz81 1; have hfz81_2 := blk_frozen HGz81 2; have hfz81_3 := blk_frozen HGz81 3; have hfz81_4 := blk_frozen HGz81 4; have hfz81_5 := blk_frozen HGz81 5; clear HGz81 hgz81)))
          (try rw [Exit.fwd_ret])
          (try rw [Exit.fwd_normal])
          go_ret
          exact ⟨by first | rfl | (simp [errW_none, errW_some] <;> rfl) | (simp only [← hji7, ← hji8, ← hji51, ← hji74]; first | rfl | (simp [errW_none, errW_some] <;> rfl)) | (simp [*, errW_none, errW_some] <;> rfl), by repeat (first | (with_reducible first | exact HI0.out | apply IsS75.alloc | apply IsS75.drewN | apply IsS75.drew | apply IsS75.set_0 | apply IsS75.set_1 | apply IsS75.set_2 | apply IsS75.set_3 | apply IsS75.set_4 | apply IsS75.set_5) | exact HI0.out), by repeat (first | (with_reducible first | exact HB.out | apply below_alloc | apply pw_below_drewN | apply below_drew1 | refine below_set ?_ (IsS75.ge HI0.out)) | exact HB.out), by repeat (first | (with_reducible first | exact HK.out | apply KeepBut.set_ | apply keep_drewN | apply keep_drew | apply keep_alloc) | exact HK.out)⟩
      · rw [if_neg c52] at H
        have c52b0 : decide (10000 < (ji51)) = false := decide_eq_false c52
        clear c52
        replace H := Option.bind_eq_some_iff.mp H
        obtain ⟨t350, A820, H⟩ := H
        replace H : ((detect_Detector_moves.f k s0_0 s0_1 (ji51) (wrap64 (s0_3 + 1)) s0_4 s0_5 t350 (mn t299 100000)).bind fun bt351 => (some (bt351.1, bt351.1, bt351.2.1, bt351.2.2.1, bt351.2.2.2.1, t300, bt351.2.2.2.2.2))) = some (r1, r2, r3, r4, r5, r6, r7) := H
        have A82 := Aside0.mk A820
        clear A820
        obtain ⟨ji83, hji83⟩ : ∃ j_ : Int, (mn t299 100000) = j_ := ⟨_, rfl⟩
        replace H : ((detect_Detector_moves.f k s0_0 s0_1 (ji51) (wrap64 (s0_3 + 1)) s0_4 s0_5 t350 (ji83)).bind fun bt351 => (some (bt351.1, bt351.1, bt351.2.1, bt351.2.2.1, bt351.2.2.2.1, t300, bt351.2.2.2.2.2))) = some (r1, r2, r3, r4, r5, r6, r7) := by first | (rw [hji83] at H; exact H) | (simp only [hji83] at H ⊢; exact H)
        (try rw [hji83] at A6)
        (try rw [hji83] at A9)
        (try rw [hji83] at A82)
        (try (have hji83h : ji83 ≤ 100000 := by (rw [← hji83]; unfold mn; (repeat' split) <;> omega)))
        (try (have hji83g : ji83 ≤ 64 := by omega))
        have hji83_ : (if 100000 < t299 then 100000 else t299) = ji83 := hji83
        replace H := Option.bind_eq_some_iff.mp H
        obtain ⟨⟨t351, t352, t353, t354, t355, t356⟩, A840, H⟩ := H
        replace H : (some (t351, t351, t352, t353, t354, t300, t356)) = some (r1, r2, r3, r4, r5, r6, r7) := H
        have A84 := Aside0.mk A840
        clear A840
        simp only [Option.some.injEq, Prod.mk.injEq] at H
        obtain ⟨rfl, rfl, rfl, rfl, rfl, rfl, rfl⟩ := H
        go_enter Try.func28, Try.ntmps28
        go_wp2
        repeat ((first | refine wp_scope_fwd 2 ?_ | refine Exit.fwd_goto rfl ?_ | (refine wp_label ?_; dsimp only [Exit.then]) | refine wp_label ?_ | (go_step3; refine Exit.fwd_goto rfl ?_) | (go_step3; (try simp only [Exit.then, Exit.inBlock]); refine Exit.fwd_goto rfl ?_)); try go_wp2_with (first | ((with_reducible refine gate_callee (f := 36) rfl ?_); refine goesL_ (some 15) rfl rfl Try.func36 (by kernel_rfl) rfl #[.int .i64 a3, .int .i64 0, .int .i64 1000000] rfl (by (try simp only [List.map_toArray, List.map_cons, List.map_nil]); first | done | rfl | (simp only [List.length_drop, List.length_take]; rfl)) ?_; (with_reducible refine (sat_Clamp.calls a3 0 1000000 t299 _ A6.out).mono ?_); rintro e w' ⟨rfl, ⟨nd, rfl⟩⟩; refine ⟨_, rfl, ?_⟩; (generalize hq_ : World.drewN w _ = w85; have n0_ : Aside0 (IsS75 w0 w85 g s0_0 s0_1 s0_2 s0_3 s0_4 s0_5) := ⟨by rw [← hq_]; exact (by repeat (first | (with_reducible first | exact HI0.out | apply IsS75.alloc | apply IsS75.drewN | apply IsS75.drew | apply IsS75.set_0 | apply IsS75.set_1 | apply IsS75.set_2 | apply IsS75.set_3 | apply IsS75.set_4 | apply IsS75.set_5) | exact HI0.out))⟩; have n1_ : Aside0 (KeepBut w w85 g none) := ⟨by rw [← hq_]; exact (by repeat (first | (with_reducible first | exact HK.out | apply KeepBut.set_ | apply keep_drewN | apply keep_drew | apply keep_alloc) | exact HK.out))⟩; have n2_ : Aside0 (Below w0.heap.size w0 w85) := ⟨by rw [← hq_]; exact (by repeat (first | (with_reducible first | exact HB.out | apply below_alloc | apply pw_below_drewN | apply below_drew1 | refine below_set ?_ (IsS75.ge HI0.out)) | exact HB.out))⟩; clear HI0 HK HB hq_; have HI0 := n0_; have HK := n1_; have HB := n2_; clear n0_ n1_ n2_)) | ((with_reducible refine gate_callee (f := 44) rfl ?_); refine goesL_ (some 21) rfl rfl Try.func44 (by kernel_rfl) rfl #[.int .i64 (4 * (ji8)), .int .i64 a1] rfl (by (try simp only [List.map_toArray, List.map_cons, List.map_nil]); first | done | (simp only [hji8]; rfl) | rfl | (simp only [List.length_drop, List.length_take]; rfl)) ?_; (with_reducible refine (sat_Mul.calls (4 * (ji8)) a1 t300 _ A9.out).mono ?_); rintro e w86 ⟨rfl, hb⟩; refine ⟨_, rfl, ?_⟩; have n0_ := Aside0.mk (IsS75.below (by repeat (first | (with_reducible first | exact HI0.out | apply IsS75.alloc | apply IsS75.drewN | apply IsS75.drew | apply IsS75.set_0 | apply IsS75.set_1 | apply IsS75.set_2 | apply IsS75.set_3 | apply IsS75.set_4 | apply IsS75.set_5) | exact HI0.out)) hb); have n1_ := Aside0.mk (KeepBut.trans (by repeat (first | (with_reducible first | exact HK.out | apply KeepBut.set_ | apply keep_drewN | apply keep_drew | apply keep_alloc) | exact HK.out)) (KeepBut.of_below hb g none) (.inl rfl)); have n2_ := Aside0.mk (below_step (by repeat (first | (with_reducible first | exact HB.out | apply below_alloc | apply pw_below_drewN | apply below_drew1 | refine below_set ?_ (IsS75.ge HI0.out)) | exact HB.out)) hb); clear HI0; clear HK; clear HB; have HI0 := n0_; have HK := n1_; have HB := n2_; clear n0_ n1_ n2_; (try clear hb); (try clear hb2); (try clear hk); (try clear hi); obtain ⟨HGz87, hgz87⟩ := HI0.out; have hcz87_0 := cellS75_0 HGz87; have hcz87_1 := cellS75_1 HGz87; have hcz87_2 := cellS75_2 HGz87; have hcz87_3 := cellS75_3 HGz87; have hcz87_4 := cellS75_4 HGz87; have hcz87_5 := cellS75_5 HGz87; have hfz87_0 := blk_frozen HGz87 0; have hfz87_1 := blk_frozen HGz87 1; have hfz87_2 := blk_frozen HGz87 2; have hfz87_3 := blk_frozen HGz87 3; have hfz87_4 := blk_frozen HGz87 4; have hfz87_5 := blk_frozen HGz87 5; clear HGz87 hgz87) | ((with_reducible refine gate_callee (f := 46) rfl ?_); refine goesL_ (some 104) rfl rfl Try.func46 (by kernel_rfl) rfl #[.int .i64 t300] rfl (by (try simp only [List.map_toArray, List.map_cons, List.map_nil]); first | done | rfl | (simp only [List.length_drop, List.length_take]; rfl)) ?_; (with_reducible refine (sat_Abs.calls t300 t350 _ A82.out).mono ?_); rintro e w88 ⟨rfl, hb⟩; refine ⟨_, rfl, ?_⟩; have n0_ := Aside0.mk (IsS75.below (show IsS75 w0 ((w86.setCell ⟨g, 2, none⟩ (.int .i64 ji51)).setCell ⟨g, 3, none⟩ (.int .i64 (wrap64 (s0_3 + 1)))) g s0_0 s0_1 ji51 (wrap64 (s0_3 + 1)) s0_4 s0_5 from by repeat (first | (with_reducible first | exact HI0.out | apply IsS75.alloc | apply IsS75.drewN | apply IsS75.drew | apply IsS75.set_0 | apply IsS75.set_1 | apply IsS75.set_2 | apply IsS75.set_3 | apply IsS75.set_4 | apply IsS75.set_5) | exact HI0.out)) hb); have n1_ := Aside0.mk (KeepBut.trans (by repeat (first | (with_reducible first | exact HK.out | apply KeepBut.set_ | apply keep_drewN | apply keep_drew | apply keep_alloc) | exact HK.out)) (KeepBut.of_below hb g none) (.inl rfl)); have n2_ := Aside0.mk (below_step (by repeat (first | (with_reducible first | exact HB.out | apply below_alloc | apply pw_below_drewN | apply below_drew1 | refine below_set ?_ (IsS75.ge HI0.out)) | exact HB.out)) hb); clear HI0; clear HK; clear HB; have HI0 := n0_; have HK := n1_; have HB := n2_; clear n0_ n1_ n2_; (try clear hb); (try clear hb2); (try clear hk); (try clear hi)) | ((with_reducible refine gate_callee (f := 45) rfl ?_); refine goesL_ (some 107) rfl rfl Try.func45 (by kernel_rfl) rfl #[.pointer (some ⟨g, 0, none⟩), .int .i64 t350, .int .i64 ji83] rfl (by (try simp only [List.map_toArray, List.map_cons, List.map_nil]); first | done | (simp only [hji83]; rfl) | rfl | (simp only [List.length_drop, List.length_take]; rfl)) ?_; (with_reducible refine (detect_Detector_moves.calls k g s0_0 s0_1 ji51 (wrap64 (s0_3 + 1)) s0_4 s0_5 t350 ji83 t351 t352 t353 t354 t355 t356 w0 _ ?side1 ?side2 A84.out).mono ?_); (case side1 => repeat (first | (with_reducible first | exact HI0.out | apply IsS75.alloc | apply IsS75.drewN | apply IsS75.drew | apply IsS75.set_0 | apply IsS75.set_1 | apply IsS75.set_2 | apply IsS75.set_3 | apply IsS75.set_4 | apply IsS75.set_5) | exact HI0.out)); (case side2 => repeat (first | (with_reducible first | exact HB.out | apply below_alloc | apply pw_below_drewN | apply below_drew1 | refine below_set ?_ (IsS75.ge HI0.out)) | exact HB.out)); rintro e w89 ⟨rfl, hi, hb, hk⟩; refine ⟨_, rfl, ?_⟩; have n0_ := Aside0.mk (KeepBut.trans (by repeat (first | (with_reducible first | exact HK.out | apply KeepBut.set_ | apply keep_drewN | apply keep_drew | apply keep_alloc) | exact HK.out)) hk (.inl rfl)); have n1_ := Aside0.mk (hb); have n2_ := Aside0.mk (hi); clear HK; clear HB; clear HI0; have HK := n0_; have HB := n1_; have HI0 := n2_; clear n0_ n1_ n2_; (try clear hb); (try clear hb2); (try clear hk); (try clear hi); obtain ⟨HGz90, hgz90⟩ := HI0.out; have hcz90_0 := cellS75_0 HGz90; have hcz90_1 := cellS75_1 HGz90; have hcz90_2 := cellS75_2 HGz90; have hcz90_3 := cellS75_3 HGz90; have hcz90_4 := cellS75_4 HGz90; have hcz90_5 := cellS75_5 HGz90; have hfz90_0 := blk_frozen HGz90 0; have hfz90_1 := blk_frozen HGz90 1; have hfz90_2 := blk_frozen HGz90 2; have hfz90_3 := blk_frozen HGz90 3; have hfz90_4 := blk_frozen HGz90 4; have hfz90_5 := blk_frozen HGz90 5; clear HGz90 hgz90)))
        (try rw [Exit.fwd_ret])
        (try rw [Exit.fwd_normal])
        go_ret
        exact ⟨by first | rfl | (simp [errW_none, errW_some] <;> rfl) | (simp only [← hji7, ← hji8, ← hji51, ← hji83]; first | rfl | (simp [errW_none, errW_some] <;> rfl)) | (simp [*, errW_none, errW_some] <;> rfl), by repeat (first | (with_reducible first | exact HI0.out | apply IsS75.alloc | apply IsS75.drewN | apply IsS75.drew | apply IsS75.set_0 | apply IsS75.set_1 | apply IsS75.set_2 | apply IsS75.set_3 | apply IsS75.set_4 | apply IsS75.set_5) | exact HI0.out), by repeat (first | (with_reducible first | exact HB.out | apply below_alloc | apply pw_below_drewN | apply below_drew1 | refine below_set ?_ (IsS75.ge HI0.out)) | exact HB.out), by repeat (first | (with_reducible first | exact HK.out | apply KeepBut.set_ | apply keep_drewN | apply keep_drew | apply keep_alloc) | exact HK.out)⟩
  · rw [if_neg c10] at H
    have c10b0 : decide (s0_1 < t300) = false := decide_eq_false c10
    clear c10
    by_cases c91 : t300 < (wrap64 (-s0_1))
    · rw [if_pos c91] at H
      have c91b0 : decide (t300 < (wrap64 (-s0_1))) = true := decide_eq_true c91
      clear c91
      replace H := Option.bind_eq_some_iff.mp H
      obtain ⟨t357, A920, H⟩ := H
      replace H : ((detect_Detector_moves.f k 2 s0_1 0 0 s0_4 s0_5 t357 (mn t299 100000)).bind fun bt358 => (some (bt358.1, bt358.1, bt358.2.1, bt358.2.2.1, bt358.2.2.2.1, t300, bt358.2.2.2.2.2))) = some (r1, r2, r3, r4, r5, r6, r7) := H
      have A92 := Aside0.mk A920
      clear A920
      obtain ⟨ji93, hji93⟩ : ∃ j_ : Int, (mn t299 100000) = j_ := ⟨_, rfl⟩
      replace H : ((detect_Detector_moves.f k 2 s0_1 0 0 s0_4 s0_5 t357 (ji93)).bind fun bt358 => (some (bt358.1, bt358.1, bt358.2.1, bt358.2.2.1, bt358.2.2.2.1, t300, bt358.2.2.2.2.2))) = some (r1, r2, r3, r4, r5, r6, r7) := by first | (rw [hji93] at H; exact H) | (simp only [hji93] at H ⊢; exact H)
      (try rw [hji93] at A6)
      (try rw [hji93] at A9)
      (try rw [hji93] at A92)
      (try (have hji93h : ji93 ≤ 100000 := by (rw [← hji93]; unfold mn; (repeat' split) <;> omega)))
      (try (have hji93g : ji93 ≤ 64 := by omega))
      have hji93_ : (if 100000 < t299 then 100000 else t299) = ji93 := hji93
      replace H := Option.bind_eq_some_iff.mp H
      obtain ⟨⟨t358, t359, t360, t361, t362, t363⟩, A940, H⟩ := H
      replace H : (some (t358, t358, t359, t360, t361, t300, t363)) = some (r1, r2, r3, r4, r5, r6, r7) := H
      have A94 := Aside0.mk A940
      clear A940
      simp only [Option.some.injEq, Prod.mk.injEq] at H
      obtain ⟨rfl, rfl, rfl, rfl, rfl, rfl, rfl⟩ := H
      go_enter Try.func28, Try.ntmps28
      go_wp2
      repeat ((first | refine wp_scope_fwd 2 ?_ | refine Exit.fwd_goto rfl ?_ | (refine wp_label ?_; dsimp only [Exit.then]) | refine wp_label ?_ | (go_step3; refine Exit.fwd_goto rfl ?_) | (go_step3; (try simp only [Exit.then, Exit.inBlock]); refine Exit.fwd_goto rfl ?_)); try go_wp2_with (first | ((with_reducible refine gate_callee (f := 36) rfl ?_); refine goesL_ (some 15) rfl rfl Try.func36 (by kernel_rfl) rfl #[.int .i64 a3, .int .i64 0, .int .i64 1000000] rfl (by (try simp only [List.map_toArray, List.map_cons, List.map_nil]); first | done | rfl | (simp only [List.length_drop, List.length_take]; rfl)) ?_; (with_reducible refine (sat_Clamp.calls a3 0 1000000 t299 _ A6.out).mono ?_); rintro e w' ⟨rfl, ⟨nd, rfl⟩⟩; refine ⟨_, rfl, ?_⟩; (generalize hq_ : World.drewN w _ = w95; have n0_ : Aside0 (IsS75 w0 w95 g s0_0 s0_1 s0_2 s0_3 s0_4 s0_5) := ⟨by rw [← hq_]; exact (by repeat (first | (with_reducible first | exact HI0.out | apply IsS75.alloc | apply IsS75.drewN | apply IsS75.drew | apply IsS75.set_0 | apply IsS75.set_1 | apply IsS75.set_2 | apply IsS75.set_3 | apply IsS75.set_4 | apply IsS75.set_5) | exact HI0.out))⟩; have n1_ : Aside0 (KeepBut w w95 g none) := ⟨by rw [← hq_]; exact (by repeat (first | (with_reducible first | exact HK.out | apply KeepBut.set_ | apply keep_drewN | apply keep_drew | apply keep_alloc) | exact HK.out))⟩; have n2_ : Aside0 (Below w0.heap.size w0 w95) := ⟨by rw [← hq_]; exact (by repeat (first | (with_reducible first | exact HB.out | apply below_alloc | apply pw_below_drewN | apply below_drew1 | refine below_set ?_ (IsS75.ge HI0.out)) | exact HB.out))⟩; clear HI0 HK HB hq_; have HI0 := n0_; have HK := n1_; have HB := n2_; clear n0_ n1_ n2_)) | ((with_reducible refine gate_callee (f := 44) rfl ?_); refine goesL_ (some 21) rfl rfl Try.func44 (by kernel_rfl) rfl #[.int .i64 (4 * (ji8)), .int .i64 a1] rfl (by (try simp only [List.map_toArray, List.map_cons, List.map_nil]); first | done | (simp only [hji8]; rfl) | rfl | (simp only [List.length_drop, List.length_take]; rfl)) ?_; (with_reducible refine (sat_Mul.calls (4 * (ji8)) a1 t300 _ A9.out).mono ?_); rintro e w96 ⟨rfl, hb⟩; refine ⟨_, rfl, ?_⟩; have n0_ := Aside0.mk (IsS75.below (by repeat (first | (with_reducible first | exact HI0.out | apply IsS75.alloc | apply IsS75.drewN | apply IsS75.drew | apply IsS75.set_0 | apply IsS75.set_1 | apply IsS75.set_2 | apply IsS75.set_3 | apply IsS75.set_4 | apply IsS75.set_5) | exact HI0.out)) hb); have n1_ := Aside0.mk (KeepBut.trans (by repeat (first | (with_reducible first | exact HK.out | apply KeepBut.set_ | apply keep_drewN | apply keep_drew | apply keep_alloc) | exact HK.out)) (KeepBut.of_below hb g none) (.inl rfl)); have n2_ := Aside0.mk (below_step (by repeat (first | (with_reducible first | exact HB.out | apply below_alloc | apply pw_below_drewN | apply below_drew1 | refine below_set ?_ (IsS75.ge HI0.out)) | exact HB.out)) hb); clear HI0; clear HK; clear HB; have HI0 := n0_; have HK := n1_; have HB := n2_; clear n0_ n1_ n2_; (try clear hb); (try clear hb2); (try clear hk); (try clear hi); obtain ⟨HGz97, hgz97⟩ := HI0.out; have hcz97_0 := cellS75_0 HGz97; have hcz97_1 := cellS75_1 HGz97; have hcz97_2 := cellS75_2 HGz97; have hcz97_3 := cellS75_3 HGz97; have hcz97_4 := cellS75_4 HGz97; have hcz97_5 := cellS75_5 HGz97; have hfz97_0 := blk_frozen HGz97 0; have hfz97_1 := blk_frozen HGz97 1; have hfz97_2 := blk_frozen HGz97 2; have hfz97_3 := blk_frozen HGz97 3; have hfz97_4 := blk_frozen HGz97 4; have hfz97_5 := blk_frozen HGz97 5; clear HGz97 hgz97) | ((with_reducible refine gate_callee (f := 46) rfl ?_); refine goesL_ (some 104) rfl rfl Try.func46 (by kernel_rfl) rfl #[.int .i64 t300] rfl (by (try simp only [List.map_toArray, List.map_cons, List.map_nil]); first | done | rfl | (simp only [List.length_drop, List.length_take]; rfl)) ?_; (with_reducible refine (sat_Abs.calls t300 t357 _ A92.out).mono ?_); rintro e w98 ⟨rfl, hb⟩; refine ⟨_, rfl, ?_⟩; have n0_ := Aside0.mk (IsS75.below (show IsS75 w0 ((((w96.setCell ⟨g, 2, none⟩ (.int .i64 0)).setCell ⟨g, 3, none⟩ (.int .i64 0)).setCell ⟨g, 0, none⟩ (.int .i64 0)).setCell ⟨g, 0, none⟩ (.int .i64 2)) g 2 s0_1 0 0 s0_4 s0_5 from by repeat (first | (with_reducible first | exact HI0.out | apply IsS75.alloc | apply IsS75.drewN | apply IsS75.drew | apply IsS75.set_0 | apply IsS75.set_1 | apply IsS75.set_2 | apply IsS75.set_3 | apply IsS75.set_4 | apply IsS75.set_5) | exact HI0.out)) hb); have n1_ := Aside0.mk (KeepBut.trans (by repeat (first | (with_reducible first | exact HK.out | apply KeepBut.set_ | apply keep_drewN | apply keep_drew | apply keep_alloc) | exact HK.out)) (KeepBut.of_below hb g none) (.inl rfl)); have n2_ := Aside0.mk (below_step (by repeat (first | (with_reducible first | exact HB.out | apply below_alloc | apply pw_below_drewN | apply below_drew1 | refine below_set ?_ (IsS75.ge HI0.out)) | exact HB.out)) hb); clear HI0; clear HK; clear HB; have HI0 := n0_; have HK := n1_; have HB := n2_; clear n0_ n1_ n2_; (try clear hb); (try clear hb2); (try clear hk); (try clear hi)) | ((with_reducible refine gate_callee (f := 45) rfl ?_); refine goesL_ (some 107) rfl rfl Try.func45 (by kernel_rfl) rfl #[.pointer (some ⟨g, 0, none⟩), .int .i64 t357, .int .i64 ji93] rfl (by (try simp only [List.map_toArray, List.map_cons, List.map_nil]); first | done | (simp only [hji93]; rfl) | rfl | (simp only [List.length_drop, List.length_take]; rfl)) ?_; (with_reducible refine (detect_Detector_moves.calls k g 2 s0_1 0 0 s0_4 s0_5 t357 ji93 t358 t359 t360 t361 t362 t363 w0 _ ?side1 ?side2 A94.out).mono ?_); (case side1 => repeat (first | (with_reducible first | exact HI0.out | apply IsS75.alloc | apply IsS75.drewN | apply IsS75.drew | apply IsS75.set_0 | apply IsS75.set_1 | apply IsS75.set_2 | apply IsS75.set_3 | apply IsS75.set_4 | apply IsS75.set_5) | exact HI0.out)); (case side2 => repeat (first | (with_reducible first | exact HB.out | apply below_alloc | apply pw_below_drewN | apply below_drew1 | refine below_set ?_ (IsS75.ge HI0.out)) | exact HB.out)); rintro e w99 ⟨rfl, hi, hb, hk⟩; refine ⟨_, rfl, ?_⟩; have n0_ := Aside0.mk (KeepBut.trans (by repeat (first | (with_reducible first | exact HK.out | apply KeepBut.set_ | apply keep_drewN | apply keep_drew | apply keep_alloc) | exact HK.out)) hk (.inl rfl)); have n1_ := Aside0.mk (hb); have n2_ := Aside0.mk (hi); clear HK; clear HB; clear HI0; have HK := n0_; have HB := n1_; have HI0 := n2_; clear n0_ n1_ n2_; (try clear hb); (try clear hb2); (try clear hk); (try clear hi); obtain ⟨HGz100, hgz100⟩ := HI0.out; have hcz100_0 := cellS75_0 HGz100; have hcz100_1 := cellS75_1 HGz100; have hcz100_2 := cellS75_2 HGz100; have hcz100_3 := cellS75_3 HGz100; have hcz100_4 := cellS75_4 HGz100; have hcz100_5 := cellS75_5 HGz100; have hfz100_0 := blk_frozen HGz100 0; have hfz100_1 := blk_frozen HGz100 1; have hfz100_2 := blk_frozen HGz100 2; have hfz100_3 := blk_frozen HGz100 3; have hfz100_4 := blk_frozen HGz100 4; have hfz100_5 := blk_frozen HGz100 5; clear HGz100 hgz100)))
      (try rw [Exit.fwd_ret])
      (try rw [Exit.fwd_normal])
      go_ret
      exact ⟨by first | rfl | (simp [errW_none, errW_some] <;> rfl) | (simp only [← hji7, ← hji8, ← hji93]; first | rfl | (simp [errW_none, errW_some] <;> rfl)) | (simp [*, errW_none, errW_some] <;> rfl), by repeat (first | (with_reducible first | exact HI0.out | apply IsS75.alloc | apply IsS75.drewN | apply IsS75.drew | apply IsS75.set_0 | apply IsS75.set_1 | apply IsS75.set_2 | apply IsS75.set_3 | apply IsS75.set_4 | apply IsS75.set_5) | exact HI0.out), by repeat (first | (with_reducible first | exact HB.out | apply below_alloc | apply pw_below_drewN | apply below_drew1 | refine below_set ?_ (IsS75.ge HI0.out)) | exact HB.out), by repeat (first | (with_reducible first | exact HK.out | apply KeepBut.set_ | apply keep_drewN | apply keep_drew | apply keep_alloc) | exact HK.out)⟩
    · rw [if_neg c91] at H
      have c91b0 : decide (t300 < (wrap64 (-s0_1))) = false := decide_eq_false c91
      clear c91
      replace H := Option.bind_eq_some_iff.mp H
      obtain ⟨t364, A1010, H⟩ := H
      replace H : ((detect_Detector_moves.f k 0 s0_1 0 0 s0_4 s0_5 t364 (mn t299 100000)).bind fun bt365 => (some (bt365.1, bt365.1, bt365.2.1, bt365.2.2.1, bt365.2.2.2.1, t300, bt365.2.2.2.2.2))) = some (r1, r2, r3, r4, r5, r6, r7) := H
      have A101 := Aside0.mk A1010
      clear A1010
      obtain ⟨ji102, hji102⟩ : ∃ j_ : Int, (mn t299 100000) = j_ := ⟨_, rfl⟩
      replace H : ((detect_Detector_moves.f k 0 s0_1 0 0 s0_4 s0_5 t364 (ji102)).bind fun bt365 => (some (bt365.1, bt365.1, bt365.2.1, bt365.2.2.1, bt365.2.2.2.1, t300, bt365.2.2.2.2.2))) = some (r1, r2, r3, r4, r5, r6, r7) := by first | (rw [hji102] at H; exact H) | (simp only [hji102] at H ⊢; exact H)
      (try rw [hji102] at A6)
      (try rw [hji102] at A9)
      (try rw [hji102] at A101)
      (try (have hji102h : ji102 ≤ 100000 := by (rw [← hji102]; unfold mn; (repeat' split) <;> omega)))
      (try (have hji102g : ji102 ≤ 64 := by omega))
      have hji102_ : (if 100000 < t299 then 100000 else t299) = ji102 := hji102
      replace H := Option.bind_eq_some_iff.mp H
      obtain ⟨⟨t365, t366, t367, t368, t369, t370⟩, A1030, H⟩ := H
      replace H : (some (t365, t365, t366, t367, t368, t300, t370)) = some (r1, r2, r3, r4, r5, r6, r7) := H
      have A103 := Aside0.mk A1030
      clear A1030
      simp only [Option.some.injEq, Prod.mk.injEq] at H
      obtain ⟨rfl, rfl, rfl, rfl, rfl, rfl, rfl⟩ := H
      go_enter Try.func28, Try.ntmps28
      go_wp2
      repeat ((first | refine wp_scope_fwd 2 ?_ | refine Exit.fwd_goto rfl ?_ | (refine wp_label ?_; dsimp only [Exit.then]) | refine wp_label ?_ | (go_step3; refine Exit.fwd_goto rfl ?_) | (go_step3; (try simp only [Exit.then, Exit.inBlock]); refine Exit.fwd_goto rfl ?_)); try go_wp2_with (first | ((with_reducible refine gate_callee (f := 36) rfl ?_); refine goesL_ (some 15) rfl rfl Try.func36 (by kernel_rfl) rfl #[.int .i64 a3, .int .i64 0, .int .i64 1000000] rfl (by (try simp only [List.map_toArray, List.map_cons, List.map_nil]); first | done | rfl | (simp only [List.length_drop, List.length_take]; rfl)) ?_; (with_reducible refine (sat_Clamp.calls a3 0 1000000 t299 _ A6.out).mono ?_); rintro e w' ⟨rfl, ⟨nd, rfl⟩⟩; refine ⟨_, rfl, ?_⟩; (generalize hq_ : World.drewN w _ = w104; have n0_ : Aside0 (IsS75 w0 w104 g s0_0 s0_1 s0_2 s0_3 s0_4 s0_5) := ⟨by rw [← hq_]; exact (by repeat (first | (with_reducible first | exact HI0.out | apply IsS75.alloc | apply IsS75.drewN | apply IsS75.drew | apply IsS75.set_0 | apply IsS75.set_1 | apply IsS75.set_2 | apply IsS75.set_3 | apply IsS75.set_4 | apply IsS75.set_5) | exact HI0.out))⟩; have n1_ : Aside0 (KeepBut w w104 g none) := ⟨by rw [← hq_]; exact (by repeat (first | (with_reducible first | exact HK.out | apply KeepBut.set_ | apply keep_drewN | apply keep_drew | apply keep_alloc) | exact HK.out))⟩; have n2_ : Aside0 (Below w0.heap.size w0 w104) := ⟨by rw [← hq_]; exact (by repeat (first | (with_reducible first | exact HB.out | apply below_alloc | apply pw_below_drewN | apply below_drew1 | refine below_set ?_ (IsS75.ge HI0.out)) | exact HB.out))⟩; clear HI0 HK HB hq_; have HI0 := n0_; have HK := n1_; have HB := n2_; clear n0_ n1_ n2_)) | ((with_reducible refine gate_callee (f := 44) rfl ?_); refine goesL_ (some 21) rfl rfl Try.func44 (by kernel_rfl) rfl #[.int .i64 (4 * (ji8)), .int .i64 a1] rfl (by (try simp only [List.map_toArray, List.map_cons, List.map_nil]); first | done | (simp only [hji8]; rfl) | rfl | (simp only [List.length_drop, List.length_take]; rfl)) ?_; (with_reducible refine (sat_Mul.calls (4 * (ji8)) a1 t300 _ A9.out).mono ?_); rintro e w105 ⟨rfl, hb⟩; refine ⟨_, rfl, ?_⟩; have n0_ := Aside0.mk (IsS75.below (by repeat (first | (with_reducible first | exact HI0.out | apply IsS75.alloc | apply IsS75.drewN | apply IsS75.drew | apply IsS75.set_0 | apply IsS75.set_1 | apply IsS75.set_2 | apply IsS75.set_3 | apply IsS75.set_4 | apply IsS75.set_5) | exact HI0.out)) hb); have n1_ := Aside0.mk (KeepBut.trans (by repeat (first | (with_reducible first | exact HK.out | apply KeepBut.set_ | apply keep_drewN | apply keep_drew | apply keep_alloc) | exact HK.out)) (KeepBut.of_below hb g none) (.inl rfl)); have n2_ := Aside0.mk (below_step (by repeat (first | (with_reducible first | exact HB.out | apply below_alloc | apply pw_below_drewN | apply below_drew1 | refine below_set ?_ (IsS75.ge HI0.out)) | exact HB.out)) hb); clear HI0; clear HK; clear HB; have HI0 := n0_; have HK := n1_; have HB := n2_; clear n0_ n1_ n2_; (try clear hb); (try clear hb2); (try clear hk); (try clear hi); obtain ⟨HGz106, hgz106⟩ := HI0.out; have hcz106_0 := cellS75_0 HGz106; have hcz106_1 := cellS75_1 HGz106; have hcz106_2 := cellS75_2 HGz106; have hcz106_3 := cellS75_3 HGz106; have hcz106_4 := cellS75_4 HGz106; have hcz106_5 := cellS75_5 HGz106; have hfz106_0 := blk_frozen HGz106 0; have hfz106_1 := blk_frozen HGz106 1; have hfz106_2 := blk_frozen HGz106 2; have hfz106_3 := blk_frozen HGz106 3; have hfz106_4 := blk_frozen HGz106 4; have hfz106_5 := blk_frozen HGz106 5; clear HGz106 hgz106) | ((with_reducible refine gate_callee (f := 46) rfl ?_); refine goesL_ (some 104) rfl rfl Try.func46 (by kernel_rfl) rfl #[.int .i64 t300] rfl (by (try simp only [List.map_toArray, List.map_cons, List.map_nil]); first | done | rfl | (simp only [List.length_drop, List.length_take]; rfl)) ?_; (with_reducible refine (sat_Abs.calls t300 t364 _ A101.out).mono ?_); rintro e w107 ⟨rfl, hb⟩; refine ⟨_, rfl, ?_⟩; have n0_ := Aside0.mk (IsS75.below (show IsS75 w0 (((w105.setCell ⟨g, 2, none⟩ (.int .i64 0)).setCell ⟨g, 3, none⟩ (.int .i64 0)).setCell ⟨g, 0, none⟩ (.int .i64 0)) g 0 s0_1 0 0 s0_4 s0_5 from by repeat (first | (with_reducible first | exact HI0.out | apply IsS75.alloc | apply IsS75.drewN | apply IsS75.drew | apply IsS75.set_0 | apply IsS75.set_1 | apply IsS75.set_2 | apply IsS75.set_3 | apply IsS75.set_4 | apply IsS75.set_5) | exact HI0.out)) hb); have n1_ := Aside0.mk (KeepBut.trans (by repeat (first | (with_reducible first | exact HK.out | apply KeepBut.set_ | apply keep_drewN | apply keep_drew | apply keep_alloc) | exact HK.out)) (KeepBut.of_below hb g none) (.inl rfl)); have n2_ := Aside0.mk (below_step (by repeat (first | (with_reducible first | exact HB.out | apply below_alloc | apply pw_below_drewN | apply below_drew1 | refine below_set ?_ (IsS75.ge HI0.out)) | exact HB.out)) hb); clear HI0; clear HK; clear HB; have HI0 := n0_; have HK := n1_; have HB := n2_; clear n0_ n1_ n2_; (try clear hb); (try clear hb2); (try clear hk); (try clear hi)) | ((with_reducible refine gate_callee (f := 45) rfl ?_); refine goesL_ (some 107) rfl rfl Try.func45 (by kernel_rfl) rfl #[.pointer (some ⟨g, 0, none⟩), .int .i64 t364, .int .i64 ji102] rfl (by (try simp only [List.map_toArray, List.map_cons, List.map_nil]); first | done | (simp only [hji102]; rfl) | rfl | (simp only [List.length_drop, List.length_take]; rfl)) ?_; (with_reducible refine (detect_Detector_moves.calls k g 0 s0_1 0 0 s0_4 s0_5 t364 ji102 t365 t366 t367 t368 t369 t370 w0 _ ?side1 ?side2 A103.out).mono ?_); (case side1 => repeat (first | (with_reducible first | exact HI0.out | apply IsS75.alloc | apply IsS75.drewN | apply IsS75.drew | apply IsS75.set_0 | apply IsS75.set_1 | apply IsS75.set_2 | apply IsS75.set_3 | apply IsS75.set_4 | apply IsS75.set_5) | exact HI0.out)); (case side2 => repeat (first | (with_reducible first | exact HB.out | apply below_alloc | apply pw_below_drewN | apply below_drew1 | refine below_set ?_ (IsS75.ge HI0.out)) | exact HB.out)); rintro e w108 ⟨rfl, hi, hb, hk⟩; refine ⟨_, rfl, ?_⟩; have n0_ := Aside0.mk (KeepBut.trans (by repeat (first | (with_reducible first | exact HK.out | apply KeepBut.set_ | apply keep_drewN | apply keep_drew | apply keep_alloc) | exact HK.out)) hk (.inl rfl)); have n1_ := Aside0.mk (hb); have n2_ := Aside0.mk (hi); clear HK; clear HB; clear HI0; have HK := n0_; have HB := n1_; have HI0 := n2_; clear n0_ n1_ n2_; (try clear hb); (try clear hb2); (try clear hk); (try clear hi); obtain ⟨HGz109, hgz109⟩ := HI0.out; have hcz109_0 := cellS75_0 HGz109; have hcz109_1 := cellS75_1 HGz109; have hcz109_2 := cellS75_2 HGz109; have hcz109_3 := cellS75_3 HGz109; have hcz109_4 := cellS75_4 HGz109; have hcz109_5 := cellS75_5 HGz109; have hfz109_0 := blk_frozen HGz109 0; have hfz109_1 := blk_frozen HGz109 1; have hfz109_2 := blk_frozen HGz109 2; have hfz109_3 := blk_frozen HGz109 3; have hfz109_4 := blk_frozen HGz109 4; have hfz109_5 := blk_frozen HGz109 5; clear HGz109 hgz109)))
      (try rw [Exit.fwd_ret])
      (try rw [Exit.fwd_normal])
      go_ret
      exact ⟨by first | rfl | (simp [errW_none, errW_some] <;> rfl) | (simp only [← hji7, ← hji8, ← hji102]; first | rfl | (simp [errW_none, errW_some] <;> rfl)) | (simp [*, errW_none, errW_some] <;> rfl), by repeat (first | (with_reducible first | exact HI0.out | apply IsS75.alloc | apply IsS75.drewN | apply IsS75.drew | apply IsS75.set_0 | apply IsS75.set_1 | apply IsS75.set_2 | apply IsS75.set_3 | apply IsS75.set_4 | apply IsS75.set_5) | exact HI0.out), by repeat (first | (with_reducible first | exact HB.out | apply below_alloc | apply pw_below_drewN | apply below_drew1 | refine below_set ?_ (IsS75.ge HI0.out)) | exact HB.out), by repeat (first | (with_reducible first | exact HK.out | apply KeepBut.set_ | apply keep_drewN | apply keep_drew | apply keep_alloc) | exact HK.out)⟩
end Go.Proofs.Ytaelmmbodigheaa.P
end

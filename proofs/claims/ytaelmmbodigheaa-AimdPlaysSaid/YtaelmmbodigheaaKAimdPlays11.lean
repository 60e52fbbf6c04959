-- PUT TOGETHER by a program of this session: of the claim's texts, what is used
import Derived.Test.YtaelmmbodigheaaKAimdPlays2
import Derived.Test.YtaelmmbodigheaaKAimdPlays8
import Derived.Test.YtaelmmbodigheaaKAimdPlays10
section
namespace Go.Proofs.Ytaelmmbodigheaa.P
open Go.RowKit Go.Proofs.YtaelmmbodigheaaW.PrintWords Go.Proofs.YtaelmmbodigheaaW.PrintLast Go.Proofs.YtaelmmbodigheaaW.PrintMore
attribute [local go_sem] max2_int min2_int max_two min_two max_three min_three max_four min_four   -- for this text's walks alone
set_option linter.unusedVariables false
set_option linter.unusedSimpArgs false
mutual
def flywheelref02_Did.j0 : Nat → Int → Int → Int → Int → Bool → Option (Int × Bool)
 | 0, _, _, _, _, _ => none
 | k + 1, x0, x1, x2, x3, x23 => if x23 = true then (some (0, false)) else ((flywheelref02_size.f x0).bind fun t329 => ((flywheelref02_size.f x1).bind fun t330 => ((flywheelref02_times.f t329 t330).bind fun bt331 => ((flywheelref02_size.f x2).bind fun t333 => ((flywheelref02_part.f k bt331.1 bt331.2 t333).bind fun bt334 => (if x0 < 0 then (if x1 < 0 then (if x2 < 0 then (flywheelref02_Did.j1 k x2 x3 true bt334.1 bt334.2.1 bt334.2.2) else (flywheelref02_Did.j1 k x2 x3 false bt334.1 bt334.2.1 bt334.2.2)) else (if x2 < 0 then (flywheelref02_Did.j1 k x2 x3 false bt334.1 bt334.2.1 bt334.2.2) else (flywheelref02_Did.j1 k x2 x3 true bt334.1 bt334.2.1 bt334.2.2))) else (if x1 < 0 then (if x2 < 0 then (flywheelref02_Did.j1 k x2 x3 false bt334.1 bt334.2.1 bt334.2.2) else (flywheelref02_Did.j1 k x2 x3 true bt334.1 bt334.2.1 bt334.2.2)) else (if x2 < 0 then (flywheelref02_Did.j1 k x2 x3 true bt334.1 bt334.2.1 bt334.2.2) else (flywheelref02_Did.j1 k x2 x3 false bt334.1 bt334.2.1 bt334.2.2)))))))))
def flywheelref02_Did.j1 : Nat → Int → Int → Bool → Int → Bool → Int → Option (Int × Bool)
 | 0, _, _, _, _, _, _ => none
 | k + 1, x2, x3, x10, x338000, x338001, x338002 => if x338002 = 0 then (flywheelref02_Did.j2 k x10 false x338000 x338001 x338002) else (if x3 = 1 then (flywheelref02_Did.j2 k x10 x10 x338000 x338001 x338002) else (if x3 = 3 then (flywheelref02_Did.j2 k x10 (!x10) x338000 x338001 x338002) else (if x10 = true then ((flywheelref02_size.f x2).bind fun t338 => (flywheelref02_Did.j2 k x10 (decide (x338002 > (IntKind.u64.wrap (t338 - x338002)))) x338000 x338001 x338002)) else ((flywheelref02_size.f x2).bind fun t339 => (flywheelref02_Did.j2 k x10 (decide (x338002 ≥ (IntKind.u64.wrap (t339 - x338002)))) x338000 x338001 x338002)))))
def flywheelref02_Did.j2 : Nat → Bool → Bool → Int → Bool → Int → Option (Int × Bool)
 | 0, _, _, _, _, _ => none
 | k + 1, x10, x11, x338000, x338001, x338002 => if x11 = true then (if x338001 = true then (flywheelref02_Did.j3 k x10 (IntKind.u64.wrap (x338000 + 1)) true) else (flywheelref02_Did.j3 k x10 (IntKind.u64.wrap (x338000 + 1)) ((IntKind.u64.wrap (x338000 + 1)) == 0))) else (flywheelref02_Did.j3 k x10 x338000 x338001)
def flywheelref02_Did.j3 : Nat → Bool → Int → Bool → Option (Int × Bool)
 | 0, _, _, _ => none
 | k + 1, x10, x12, x13 => if x10 = true then (if x13 = true then (flywheelref02_Did.j4 k x12 true) else (flywheelref02_Did.j4 k x12 (decide (x12 > 9223372036854775808)))) else (if x13 = true then (some (9223372036854775807, false)) else (if x12 > 9223372036854775807 then (some (9223372036854775807, false)) else (some (wrap64 (x12), true))))
def flywheelref02_Did.j4 : Nat → Int → Bool → Option (Int × Bool)
 | 0, _, _ => none
 | k + 1, x12, x89 => if x89 = true then (some ((-9223372036854775808), false)) else (some (wrap64 (-(wrap64 (x12))), true))
end
def flywheelref02_Did.f (k : Nat) (a0 : Int) (a1 : Int) (a2 : Int) (a3 : Int) : Option (Int × Bool) := if a2 = 0 then (flywheelref02_Did.j0 k a0 a1 a2 a3 true) else (if a3 < 1 then (flywheelref02_Did.j0 k a0 a1 a2 a3 true) else (flywheelref02_Did.j0 k a0 a1 a2 a3 (decide (a3 > 3))))
set_option maxHeartbeats 8000000 in
set_option maxRecDepth 100000 in
theorem flywheelref02_Did.calls (k : Nat) (a0 : Int) (a1 : Int) (a2 : Int) (a3 : Int) (r1 : Int) (r2 : Bool) (w : World) (h : flywheelref02_Did.f k a0 a1 a2 a3 = some (r1, r2)) :
  Calls Try.prog 56 #[.int .i64 a0, .int .i64 a1, .int .i64 a2, .int .i64 a3] w fun e w' => e = .returned (.agg #[.int .i64 r1, .bool r2]) ∧ Below w.heap.size w w' := by
 have hu87 := Try.underlying87
 have hu94 := Try.underlying94
 have HB := Aside0.mk (Below.refl w.heap.size w)
 have H : (if a2 = 0 then (flywheelref02_Did.j0 k a0 a1 a2 a3 true) else (if a3 < 1 then (flywheelref02_Did.j0 k a0 a1 a2 a3 true) else (flywheelref02_Did.j0 k a0 a1 a2 a3 (decide (a3 > 3))))) = some (r1, r2) := h
 clear h
 have HC5 := Aside0.mk H
 clear H
 go_enter Try.func56, Try.ntmps56
 go_upto_region 1 with (first | ((with_reducible refine gate_dst (N := 8) rfl ?_); refine box_event ?hg (N := 8) ?hd (cs := #[.int .i64 0, .bool false]) (t := 87) ?hr ?_; (case hd => rfl); (case hg => rfl); (case hr => first | (go_simp; done) | (go_simp; rfl)); intro gb328 hg w6 hbox hb; have n0_ := Aside0.mk (below_step (by repeat (first | (with_reducible first | exact HB.out | apply below_alloc | apply pw_below_drewN | apply below_drew1) | exact HB.out)) hb); have n1_ := Aside0.mk (hbox); have n2_ := Aside0.mk ((by rw [hg]; exact (below_size (by repeat (first | (with_reducible first | exact HB.out | apply below_alloc | apply pw_below_drewN | apply below_drew1) | exact HB.out))) : w.heap.size ≤ gb328)); have n3_ := Aside0.mk ((by rw [hg]; exact (below_size (by repeat (first | (with_reducible first | exact HB.out | apply below_alloc | apply pw_below_drewN | apply below_drew1) | exact HB.out))) : w.heap.size ≤ gb328)); clear HB; have HB := n0_; have BK328 := n1_; have GW328 := n2_; have GE328 := n3_; clear n0_ n1_ n2_ n3_; clear hb hbox hg))
 repeat (go_quiet (first | ((with_reducible refine gate_dst (N := 8) rfl ?_); refine box_event ?hg (N := 8) ?hd (cs := #[.int .i64 0, .bool false]) (t := 87) ?hr ?_; (case hd => rfl); (case hg => rfl); (case hr => first | (go_simp; done) | (go_simp; rfl)); intro gb328 hg w6 hbox hb; have n0_ := Aside0.mk (below_step (by repeat (first | (with_reducible first | exact HB.out | apply below_alloc | apply pw_below_drewN | apply below_drew1) | exact HB.out)) hb); have n1_ := Aside0.mk (hbox); have n2_ := Aside0.mk ((by rw [hg]; exact (below_size (by repeat (first | (with_reducible first | exact HB.out | apply below_alloc | apply pw_below_drewN | apply below_drew1) | exact HB.out))) : w.heap.size ≤ gb328)); have n3_ := Aside0.mk ((by rw [hg]; exact (below_size (by repeat (first | (with_reducible first | exact HB.out | apply below_alloc | apply pw_below_drewN | apply below_drew1) | exact HB.out))) : w.heap.size ≤ gb328)); clear HB; have HB := n0_; have BK328 := n1_; have GW328 := n2_; have GE328 := n3_; clear n0_ n1_ n2_ n3_; clear hb hbox hg)); go_upto_region 1 with (first | ((with_reducible refine gate_dst (N := 8) rfl ?_); refine box_event ?hg (N := 8) ?hd (cs := #[.int .i64 0, .bool false]) (t := 87) ?hr ?_; (case hd => rfl); (case hg => rfl); (case hr => first | (go_simp; done) | (go_simp; rfl)); intro gb328 hg w6 hbox hb; have n0_ := Aside0.mk (below_step (by repeat (first | (with_reducible first | exact HB.out | apply below_alloc | apply pw_below_drewN | apply below_drew1) | exact HB.out)) hb); have n1_ := Aside0.mk (hbox); have n2_ := Aside0.mk ((by rw [hg]; exact (below_size (by repeat (first | (with_reducible first | exact HB.out | apply below_alloc | apply pw_below_drewN | apply below_drew1) | exact HB.out))) : w.heap.size ≤ gb328)); have n3_ := Aside0.mk ((by rw [hg]; exact (below_size (by repeat (first | (with_reducible first | exact HB.out | apply below_alloc | apply pw_below_drewN | apply below_drew1) | exact HB.out))) : w.heap.size ≤ gb328)); clear HB; have HB := n0_; have BK328 := n1_; have GW328 := n2_; have GE328 := n3_; clear n0_ n1_ n2_ n3_; clear hb hbox hg)))
 (try simp only [Act.put, List.setIfInBounds_toArray, List.set_cons_zero, List.set_cons_succ])
 go_cut [23] (fun v23 wc => ∃ (kq : Nat) (x23_4 : Bool), v23 = .bool x23_4 ∧ Aside0 (flywheelref02_Did.j0 kq a0 a1 a2 a3 x23_4 = some (r1, r2)) ∧ Aside0 (kq ≤ k) ∧ Aside0 (wc.heap[gb328]? = some (.cells #[.int .i64 0, .bool false] 87 (0, 0))) ∧ Aside0 (Below w.heap.size w wc))
 case first =>
  have H := HC5.out
  clear HC5
  by_cases c7 : a2 = 0
  ·rw [if_pos c7] at H
   have c7b0 : (a2 == 0) = true := beq_iff_eq.mpr c7
   have c7b1 : (a2 != 0) = false := bne_eq_false_iff_eq.mpr c7
   clear c7
   (first | rw [c7b0] | (simp only [i64_w, i32_w]; rw [c7b0]) | skip)
   have H' := Aside0.mk H
   clear H
   go_wp2
   repeat (go_quiet (fail); try go_wp2)
   go_meet
   case rel => exact ⟨_, (true), (by first | rfl | (simp; done) | (simp [*]; done)), H', ⟨by first | omega | exact Nat.le_refl _⟩, ⟨by (with_reducible repeat (first | refine blk_drewN ?_ _ | refine blk_drew ?_ | refine blk_alloc ?_ _)); exact BK328.out⟩, ⟨by repeat (first | (with_reducible first | exact HB.out | apply below_alloc | apply pw_below_drewN | apply below_drew1 | refine below_set ?_ GE328.out) | exact HB.out)⟩⟩
  ·rw [if_neg c7] at H
   have c7b0 : (a2 == 0) = false := beq_eq_false_iff_ne.mpr c7
   have c7b1 : (a2 != 0) = true := bne_iff_ne.mpr c7
   (first | rw [c7b0] | (simp only [i64_w, i32_w]; rw [c7b0]) | skip)
   by_cases c8 : a3 < 1
   ·rw [if_pos c8] at H
    have c8b0 : decide (a3 < 1) = true := decide_eq_true c8
    clear c8
    have H' := Aside0.mk H
    clear H
    go_wp2
    repeat (go_quiet (fail); try go_wp2)
    go_meet
    case rel => exact ⟨_, (true), (by first | rfl | (simp; done) | (simp [*]; done)), H', ⟨by first | omega | exact Nat.le_refl _⟩, ⟨by (with_reducible repeat (first | refine blk_drewN ?_ _ | refine blk_drew ?_ | refine blk_alloc ?_ _)); exact BK328.out⟩, ⟨by repeat (first | (with_reducible first | exact HB.out | apply below_alloc | apply pw_below_drewN | apply below_drew1 | refine below_set ?_ GE328.out) | exact HB.out)⟩⟩
   ·rw [if_neg c8] at H
    have c8b0 : decide (a3 < 1) = false := decide_eq_false c8
    clear c8
    have H' := Aside0.mk H
    clear H
    go_wp2
    repeat (go_quiet (fail); try go_wp2)
    go_meet
    case rel => exact ⟨_, (decide (a3 > 3)), (by first | rfl | (simp; done) | (simp [*]; done)), H', ⟨by first | omega | exact Nat.le_refl _⟩, ⟨by (with_reducible repeat (first | refine blk_drewN ?_ _ | refine blk_drew ?_ | refine blk_alloc ?_ _)); exact BK328.out⟩, ⟨by repeat (first | (with_reducible first | exact HB.out | apply below_alloc | apply pw_below_drewN | apply below_drew1 | refine below_set ?_ GE328.out) | exact HB.out)⟩⟩
 case rest =>
  clear HC5
  try clear p2
  try clear c5
  try clear c7
  try clear c7b0
  try clear c7b1
  try clear c8
  try clear c8b0
  obtain ⟨kq, x23_4, rfl, HA, HJ4, BK328, HB⟩ := hcut
  cases kq with
  | zero => exact absurd HA.out (by simp [flywheelref02_Did.j0])
  | succ kj4 =>
   have H := HA.out
   clear HA
   simp only [flywheelref02_Did.j0] at H
   by_cases c9 : x23_4 = true
   ·subst c9
    have H1 : (some (0, false)) = some (r1, r2) := by rw [if_pos rfl] at H; exact H
    clear H
    have H := H1
    clear H1
    simp only [Option.some.injEq, Prod.mk.injEq] at H
    obtain ⟨rfl, rfl⟩ := H
    have hcz10_0 : wc.cell? ⟨gb328, 0, none⟩ = some (.int .i64 0) := (blk_cell BK328.out 0).trans rfl
    have hcz10_1 : wc.cell? ⟨gb328, 1, none⟩ = some (.bool false) := (blk_cell BK328.out 1).trans rfl
    have hfz10_0 := blk_frozen BK328.out 0
    have hfz10_1 := blk_frozen BK328.out 1
    go_wp2
    repeat (go_quiet (fail); try go_wp2)
    refine bodyPost_ret (results_cell_row rfl _ _ gb328 87 #[.int .i64 0, .bool false] (0, 0) _ rfl (by (with_reducible repeat (first | refine blk_drewN ?_ _ | refine blk_drew ?_ | refine blk_alloc ?_ _)); refine blk_put (cs := #[.int .i64 0, .bool false]) ?_ 1 _ rfl; (with_reducible repeat (first | refine blk_drewN ?_ _ | refine blk_drew ?_ | refine blk_alloc ?_ _)); refine blk_put (cs := #[.int .i64 0, .bool false]) ?_ 0 _ rfl; (with_reducible repeat (first | refine blk_drewN ?_ _ | refine blk_drew ?_ | refine blk_alloc ?_ _)); exact BK328.out) Try.underlying87 rfl (by kernel_rfl)) rfl ?_
    exact ⟨by first | rfl | (simp [errW_none, errW_some] <;> rfl) | (simp [*, errW_none, errW_some] <;> rfl), by repeat (first | (with_reducible first | exact HB.out | apply below_alloc | apply pw_below_drewN | apply below_drew1 | refine below_set ?_ GE328.out) | exact HB.out)⟩
   ·replace c9 := Bool.eq_false_iff.mpr c9
    subst c9
    have H1 : ((flywheelref02_size.f a0).bind fun t329 => ((flywheelref02_size.f a1).bind fun t330 => ((flywheelref02_times.f t329 t330).bind fun bt331 => ((flywheelref02_size.f a2).bind fun t333 => ((flywheelref02_part.f kj4 bt331.1 bt331.2 t333).bind fun bt334 => (if a0 < 0 then (if a1 < 0 then (if a2 < 0 then (flywheelref02_Did.j1 kj4 a2 a3 true bt334.1 bt334.2.1 bt334.2.2) else (flywheelref02_Did.j1 kj4 a2 a3 false bt334.1 bt334.2.1 bt334.2.2)) else (if a2 < 0 then (flywheelref02_Did.j1 kj4 a2 a3 false bt334.1 bt334.2.1 bt334.2.2) else (flywheelref02_Did.j1 kj4 a2 a3 true bt334.1 bt334.2.1 bt334.2.2))) else (if a1 < 0 then (if a2 < 0 then (flywheelref02_Did.j1 kj4 a2 a3 false bt334.1 bt334.2.1 bt334.2.2) else (flywheelref02_Did.j1 kj4 a2 a3 true bt334.1 bt334.2.1 bt334.2.2)) else (if a2 < 0 then (flywheelref02_Did.j1 kj4 a2 a3 true bt334.1 bt334.2.1 bt334.2.2) else (flywheelref02_Did.j1 kj4 a2 a3 false bt334.1 bt334.2.1 bt334.2.2))))))))) = some (r1, r2) := by rw [if_neg (show ¬ (false = true) by decide)] at H; exact H
    clear H
    have H := H1
    clear H1
    replace H := Option.bind_eq_some_iff.mp H
    obtain ⟨t329, A110, H⟩ := H
    replace H : ((flywheelref02_size.f a1).bind fun t330 => ((flywheelref02_times.f t329 t330).bind fun bt331 => ((flywheelref02_size.f a2).bind fun t333 => ((flywheelref02_part.f kj4 bt331.1 bt331.2 t333).bind fun bt334 => (if a0 < 0 then (if a1 < 0 then (if a2 < 0 then (flywheelref02_Did.j1 kj4 a2 a3 true bt334.1 bt334.2.1 bt334.2.2) else (flywheelref02_Did.j1 kj4 a2 a3 false bt334.1 bt334.2.1 bt334.2.2)) else (if a2 < 0 then (flywheelref02_Did.j1 kj4 a2 a3 false bt334.1 bt334.2.1 bt334.2.2) else (flywheelref02_Did.j1 kj4 a2 a3 true bt334.1 bt334.2.1 bt334.2.2))) else (if a1 < 0 then (if a2 < 0 then (flywheelref02_Did.j1 kj4 a2 a3 false bt334.1 bt334.2.1 bt334.2.2) else (flywheelref02_Did.j1 kj4 a2 a3 true bt334.1 bt334.2.1 bt334.2.2)) else (if a2 < 0 then (flywheelref02_Did.j1 kj4 a2 a3 true bt334.1 bt334.2.1 bt334.2.2) else (flywheelref02_Did.j1 kj4 a2 a3 false bt334.1 bt334.2.1 bt334.2.2)))))))) = some (r1, r2) := H
    have A11 := Aside0.mk A110
    clear A110
    replace H := Option.bind_eq_some_iff.mp H
    obtain ⟨t330, A120, H⟩ := H
    replace H : ((flywheelref02_times.f t329 t330).bind fun bt331 => ((flywheelref02_size.f a2).bind fun t333 => ((flywheelref02_part.f kj4 bt331.1 bt331.2 t333).bind fun bt334 => (if a0 < 0 then (if a1 < 0 then (if a2 < 0 then (flywheelref02_Did.j1 kj4 a2 a3 true bt334.1 bt334.2.1 bt334.2.2) else (flywheelref02_Did.j1 kj4 a2 a3 false bt334.1 bt334.2.1 bt334.2.2)) else (if a2 < 0 then (flywheelref02_Did.j1 kj4 a2 a3 false bt334.1 bt334.2.1 bt334.2.2) else (flywheelref02_Did.j1 kj4 a2 a3 true bt334.1 bt334.2.1 bt334.2.2))) else (if a1 < 0 then (if a2 < 0 then (flywheelref02_Did.j1 kj4 a2 a3 false bt334.1 bt334.2.1 bt334.2.2) else (flywheelref02_Did.j1 kj4 a2 a3 true bt334.1 bt334.2.1 bt334.2.2)) else (if a2 < 0 then (flywheelref02_Did.j1 kj4 a2 a3 true bt334.1 bt334.2.1 bt334.2.2) else (flywheelref02_Did.j1 kj4 a2 a3 false bt334.1 bt334.2.1 bt334.2.2))))))) = some (r1, r2) := H
    have A12 := Aside0.mk A120
    clear A120
    replace H := Option.bind_eq_some_iff.mp H
    obtain ⟨⟨t331, t332⟩, A130, H⟩ := H
    replace H : ((flywheelref02_size.f a2).bind fun t333 => ((flywheelref02_part.f kj4 t331 t332 t333).bind fun bt334 => (if a0 < 0 then (if a1 < 0 then (if a2 < 0 then (flywheelref02_Did.j1 kj4 a2 a3 true bt334.1 bt334.2.1 bt334.2.2) else (flywheelref02_Did.j1 kj4 a2 a3 false bt334.1 bt334.2.1 bt334.2.2)) else (if a2 < 0 then (flywheelref02_Did.j1 kj4 a2 a3 false bt334.1 bt334.2.1 bt334.2.2) else (flywheelref02_Did.j1 kj4 a2 a3 true bt334.1 bt334.2.1 bt334.2.2))) else (if a1 < 0 then (if a2 < 0 then (flywheelref02_Did.j1 kj4 a2 a3 false bt334.1 bt334.2.1 bt334.2.2) else (flywheelref02_Did.j1 kj4 a2 a3 true bt334.1 bt334.2.1 bt334.2.2)) else (if a2 < 0 then (flywheelref02_Did.j1 kj4 a2 a3 true bt334.1 bt334.2.1 bt334.2.2) else (flywheelref02_Did.j1 kj4 a2 a3 false bt334.1 bt334.2.1 bt334.2.2)))))) = some (r1, r2) := H
    have A13 := Aside0.mk A130
    clear A130
    replace H := Option.bind_eq_some_iff.mp H
    obtain ⟨t333, A140, H⟩ := H
    replace H : ((flywheelref02_part.f kj4 t331 t332 t333).bind fun bt334 => (if a0 < 0 then (if a1 < 0 then (if a2 < 0 then (flywheelref02_Did.j1 kj4 a2 a3 true bt334.1 bt334.2.1 bt334.2.2) else (flywheelref02_Did.j1 kj4 a2 a3 false bt334.1 bt334.2.1 bt334.2.2)) else (if a2 < 0 then (flywheelref02_Did.j1 kj4 a2 a3 false bt334.1 bt334.2.1 bt334.2.2) else (flywheelref02_Did.j1 kj4 a2 a3 true bt334.1 bt334.2.1 bt334.2.2))) else (if a1 < 0 then (if a2 < 0 then (flywheelref02_Did.j1 kj4 a2 a3 false bt334.1 bt334.2.1 bt334.2.2) else (flywheelref02_Did.j1 kj4 a2 a3 true bt334.1 bt334.2.1 bt334.2.2)) else (if a2 < 0 then (flywheelref02_Did.j1 kj4 a2 a3 true bt334.1 bt334.2.1 bt334.2.2) else (flywheelref02_Did.j1 kj4 a2 a3 false bt334.1 bt334.2.1 bt334.2.2))))) = some (r1, r2) := H
    have A14 := Aside0.mk A140
    clear A140
    replace H := Option.bind_eq_some_iff.mp H
    obtain ⟨⟨t334, t335, t336⟩, A150, H⟩ := H
    replace H : (if a0 < 0 then (if a1 < 0 then (if a2 < 0 then (flywheelref02_Did.j1 kj4 a2 a3 true t334 t335 t336) else (flywheelref02_Did.j1 kj4 a2 a3 false t334 t335 t336)) else (if a2 < 0 then (flywheelref02_Did.j1 kj4 a2 a3 false t334 t335 t336) else (flywheelref02_Did.j1 kj4 a2 a3 true t334 t335 t336))) else (if a1 < 0 then (if a2 < 0 then (flywheelref02_Did.j1 kj4 a2 a3 false t334 t335 t336) else (flywheelref02_Did.j1 kj4 a2 a3 true t334 t335 t336)) else (if a2 < 0 then (flywheelref02_Did.j1 kj4 a2 a3 true t334 t335 t336) else (flywheelref02_Did.j1 kj4 a2 a3 false t334 t335 t336)))) = some (r1, r2) := H
    have A15 := Aside0.mk A150
    clear A150
    have HC16 := Aside0.mk H
    clear H
    go_upto_region 4 with (first | (go_at_call 63; (with_reducible refine (flywheelref02_size.calls a0 t329 _ A11.out).mono ?_); rintro e w' ⟨rfl, ⟨nd, rfl⟩⟩; (try first | exact ⟨rfl, _, World.drewN_drewN _ _ _⟩ | exact ⟨rfl, _, Eq.trans (World.drewN_drewN _ _ _) (congrArg (World.drewN _) (Nat.add_assoc _ _ _))⟩)) | (go_at_call 63; (with_reducible refine (flywheelref02_size.calls a1 t330 _ A12.out).mono ?_); rintro e w' ⟨rfl, ⟨nd, rfl⟩⟩; (try first | exact ⟨rfl, _, World.drewN_drewN _ _ _⟩ | exact ⟨rfl, _, Eq.trans (World.drewN_drewN _ _ _) (congrArg (World.drewN _) (Nat.add_assoc _ _ _))⟩)) | (go_at_call 62; (with_reducible refine (flywheelref02_times.calls t329 t330 t331 t332 _ A13.out).mono ?_); rintro e w17 ⟨rfl, hb⟩; have n0_ := Aside0.mk (blk_below (g := gb328) (o := .cells #[.int .i64 0, .bool false] 87 (0, 0)) (by (with_reducible repeat (first | refine blk_drewN ?_ _ | refine blk_drew ?_ | refine blk_alloc ?_ _)); exact BK328.out) hb); have n1_ := Aside0.mk (below_step (by repeat (first | (with_reducible first | exact HB.out | apply below_alloc | apply pw_below_drewN | apply below_drew1 | refine below_set ?_ GE328.out) | exact HB.out)) hb); clear BK328; clear HB; have BK328 := n0_; have HB := n1_; clear n0_ n1_; (try clear hb); (try clear hb2); (try clear hk); (try clear hi)) | (go_at_call 63; (with_reducible refine (flywheelref02_size.calls a2 t333 _ A14.out).mono ?_); rintro e w' ⟨rfl, ⟨nd, rfl⟩⟩; (try first | exact ⟨rfl, _, World.drewN_drewN _ _ _⟩ | exact ⟨rfl, _, Eq.trans (World.drewN_drewN _ _ _) (congrArg (World.drewN _) (Nat.add_assoc _ _ _))⟩)) | (go_at_call 61; (with_reducible refine (flywheelref02_part.calls kj4 t331 t332 t333 t334 t335 t336 _ A15.out).mono ?_); rintro e w18 ⟨rfl, hb⟩; have n0_ := Aside0.mk (blk_below (g := gb328) (o := .cells #[.int .i64 0, .bool false] 87 (0, 0)) (by (with_reducible repeat (first | refine blk_drewN ?_ _ | refine blk_drew ?_ | refine blk_alloc ?_ _)); exact BK328.out) hb); have n1_ := Aside0.mk (below_step (by repeat (first | (with_reducible first | exact HB.out | apply below_alloc | apply pw_below_drewN | apply below_drew1 | refine below_set ?_ GE328.out) | exact HB.out)) hb); clear BK328; clear HB; have BK328 := n0_; have HB := n1_; clear n0_ n1_; (try clear hb); (try clear hb2); (try clear hk); (try clear hi)) | ((with_reducible refine gate_dst (N := 9) rfl ?_); refine box_event ?hg (N := 9) ?hd (cs := #[.int .u64 0, .bool false, .int .u64 0]) (t := 94) ?hr ?_; (case hd => rfl); (case hg => rfl); (case hr => first | (go_simp; done) | (go_simp; rfl)); intro gb337 hg w19 hbox hb; have n0_ := Aside0.mk (blk_below (g := gb328) (o := .cells #[.int .i64 0, .bool false] 87 (0, 0)) (by (with_reducible repeat (first | refine blk_drewN ?_ _ | refine blk_drew ?_ | refine blk_alloc ?_ _)); exact BK328.out) hb); have n1_ := Aside0.mk (below_step (by repeat (first | (with_reducible first | exact HB.out | apply below_alloc | apply pw_below_drewN | apply below_drew1 | refine below_set ?_ GE328.out) | exact HB.out)) hb); have n2_ := Aside0.mk (hbox); have n3_ := Aside0.mk ((by rw [hg]; exact (below_size (by repeat (first | (with_reducible first | exact HB.out | apply below_alloc | apply pw_below_drewN | apply below_drew1 | refine below_set ?_ GE328.out) | exact HB.out))) : w.heap.size ≤ gb337)); have n4_ := Aside0.mk ((by rw [hg]; exact (below_size (by repeat (first | (with_reducible first | exact HB.out | apply below_alloc | apply pw_below_drewN | apply below_drew1 | refine below_set ?_ GE328.out) | exact HB.out))) : w.heap.size ≤ gb337)); have n5_ := Aside0.mk ((by rw [hg]; exact Nat.ne_of_lt (blk_lt (g := gb328) (o := .cells #[.int .i64 0, .bool false] 87 (0, 0)) (by (with_reducible repeat (first | refine blk_drewN ?_ _ | refine blk_drew ?_ | refine blk_alloc ?_ _)); exact BK328.out)) : gb328 ≠ gb337)); have n6_ := Aside0.mk ((by rw [hg]; exact Nat.ne_of_gt (blk_lt (g := gb328) (o := .cells #[.int .i64 0, .bool false] 87 (0, 0)) (by (with_reducible repeat (first | refine blk_drewN ?_ _ | refine blk_drew ?_ | refine blk_alloc ?_ _)); exact BK328.out)) : gb337 ≠ gb328)); clear BK328; clear HB; have BK328 := n0_; have HB := n1_; have BK337 := n2_; have GW337 := n3_; have GE337 := n4_; have NB328_337 := n5_; have NB337_328 := n6_; clear n0_ n1_ n2_ n3_ n4_ n5_ n6_; clear hb hbox hg; have hnb20 := NB337_328.out; have hnc20 := NB328_337.out; have hcz21_0 : w19.cell? ⟨gb337, 0, none⟩ = some (.int .u64 0) := (blk_cell BK337.out 0).trans rfl; have hcz21_1 : w19.cell? ⟨gb337, 1, none⟩ = some (.bool false) := (blk_cell BK337.out 1).trans rfl; have hcz21_2 : w19.cell? ⟨gb337, 2, none⟩ = some (.int .u64 0) := (blk_cell BK337.out 2).trans rfl; have hfz21_0 := blk_frozen BK337.out 0; have hfz21_1 := blk_frozen BK337.out 1; have hfz21_2 := blk_frozen BK337.out 2))
    repeat (go_quiet (first | (go_at_call 63; (with_reducible refine (flywheelref02_size.calls a0 t329 _ A11.out).mono ?_); rintro e w' ⟨rfl, ⟨nd, rfl⟩⟩; (try first | exact ⟨rfl, _, World.drewN_drewN _ _ _⟩ | exact ⟨rfl, _, Eq.trans (World.drewN_drewN _ _ _) (congrArg (World.drewN _) (Nat.add_assoc _ _ _))⟩)) | (go_at_call 63; (with_reducible refine (flywheelref02_size.calls a1 t330 _ A12.out).mono ?_); rintro e w' ⟨rfl, ⟨nd, rfl⟩⟩; (try first | exact ⟨rfl, _, World.drewN_drewN _ _ _⟩ | exact ⟨rfl, _, Eq.trans (World.drewN_drewN _ _ _) (congrArg (World.drewN _) (Nat.add_assoc _ _ _))⟩)) | (go_at_call 62; (with_reducible refine (flywheelref02_times.calls t329 t330 t331 t332 _ A13.out).mono ?_); rintro e w17 ⟨rfl, hb⟩; have n0_ := Aside0.mk (blk_below (g := gb328) (o := .cells #[.int .i64 0, .bool false] 87 (0, 0)) (by (with_reducible repeat (first | refine blk_drewN ?_ _ | refine blk_drew ?_ | refine blk_alloc ?_ _)); exact BK328.out) hb); have n1_ := Aside0.mk (below_step (by repeat (first | (with_reducible first | exact HB.out | apply below_alloc | apply pw_below_drewN | apply below_drew1 | refine below_set ?_ GE328.out) | exact HB.out)) hb); clear BK328; clear HB; have BK328 := n0_; have HB := n1_; clear n0_ n1_; (try clear hb); (try clear hb2); (try clear hk); (try clear hi)) | (go_at_call 63; (with_reducible refine (flywheelref02_size.calls a2 t333 _ A14.out).mono ?_); rintro e w' ⟨rfl, ⟨nd, rfl⟩⟩; (try first | exact ⟨rfl, _, World.drewN_drewN _ _ _⟩ | exact ⟨rfl, _, Eq.trans (World.drewN_drewN _ _ _) (congrArg (World.drewN _) (Nat.add_assoc _ _ _))⟩)) | (go_at_call 61; (with_reducible refine (flywheelref02_part.calls kj4 t331 t332 t333 t334 t335 t336 _ A15.out).mono ?_); rintro e w18 ⟨rfl, hb⟩; have n0_ := Aside0.mk (blk_below (g := gb328) (o := .cells #[.int .i64 0, .bool false] 87 (0, 0)) (by (with_reducible repeat (first | refine blk_drewN ?_ _ | refine blk_drew ?_ | refine blk_alloc ?_ _)); exact BK328.out) hb); have n1_ := Aside0.mk (below_step (by repeat (first | (with_reducible first | exact HB.out | apply below_alloc | apply pw_below_drewN | apply below_drew1 | refine below_set ?_ GE328.out) | exact HB.out)) hb); clear BK328; clear HB; have BK328 := n0_; have HB := n1_; clear n0_ n1_; (try clear hb); (try clear hb2); (try clear hk); (try clear hi)) | ((with_reducible refine gate_dst (N := 9) rfl ?_); refine box_event ?hg (N := 9) ?hd (cs := #[.int .u64 0, .bool false, .int .u64 0]) (t := 94) ?hr ?_; (case hd => rfl); (case hg => rfl); (case hr => first | (go_simp; done) | (go_simp; rfl)); intro gb337 hg w19 hbox hb; have n0_ := Aside0.mk (blk_below (g := gb328) (o := .cells #[.int .i64 0, .bool false] 87 (0, 0)) (by (with_reducible repeat (first | refine blk_drewN ?_ _ | refine blk_drew ?_ | refine blk_alloc ?_ _)); exact BK328.out) hb); have n1_ := Aside0.mk (below_step (by repeat (first | (with_reducible first | exact HB.out | apply below_alloc | apply pw_below_drewN | apply below_drew1 | refine below_set ?_ GE328.out) | exact HB.out)) hb); have n2_ := Aside0.mk (hbox); have n3_ := Aside0.mk ((by rw [hg]; exact (below_size (by repeat (first | (with_reducible first | exact HB.out | apply below_alloc | apply pw_below_drewN | apply below_drew1 | refine below_set ?_ GE328.out) | exact HB.out))) : w.heap.size ≤ gb337)); have n4_ := Aside0.mk ((by rw [hg]; exact (below_size (by repeat (first | (with_reducible first | exact HB.out | apply below_alloc | apply pw_below_drewN | apply below_drew1 | refine below_set ?_ GE328.out) | exact HB.out))) : w.heap.size ≤ gb337)); have n5_ := Aside0.mk ((by rw [hg]; exact Nat.ne_of_lt (blk_lt (g := gb328) (o := .cells #[.int .i64 0, .bool false] 87 (0, 0)) (by (with_reducible repeat (first | refine blk_drewN ?_ _ | refine blk_drew ?_ | refine blk_alloc ?_ _)); exact BK328.out)) : gb328 ≠ gb337)); have n6_ := Aside0.mk ((by rw [hg]; exact Nat.ne_of_gt (blk_lt (g := gb328) (o := .cells #[.int .i64 0, .bool false] 87 (0, 0)) (by (with_reducible repeat (first | refine blk_drewN ?_ _ | refine blk_drew ?_ | refine blk_alloc ?_ _)); exact BK328.out)) : gb337 ≠ gb328)); clear BK328; clear HB; have BK328 := n0_; have HB := n1_; have BK337 := n2_; have GW337 := n3_; have GE337 := n4_; have NB328_337 := n5_; have NB337_328 := n6_; clear n0_ n1_ n2_ n3_ n4_ n5_ n6_; clear hb hbox hg; have hnb20 := NB337_328.out; have hnc20 := NB328_337.out; have hcz21_0 : w19.cell? ⟨gb337, 0, none⟩ = some (.int .u64 0) := (blk_cell BK337.out 0).trans rfl; have hcz21_1 : w19.cell? ⟨gb337, 1, none⟩ = some (.bool false) := (blk_cell BK337.out 1).trans rfl; have hcz21_2 : w19.cell? ⟨gb337, 2, none⟩ = some (.int .u64 0) := (blk_cell BK337.out 2).trans rfl; have hfz21_0 := blk_frozen BK337.out 0; have hfz21_1 := blk_frozen BK337.out 1; have hfz21_2 := blk_frozen BK337.out 2)); go_upto_region 4 with (first | (go_at_call 63; (with_reducible refine (flywheelref02_size.calls a0 t329 _ A11.out).mono ?_); rintro e w' ⟨rfl, ⟨nd, rfl⟩⟩; (try first | exact ⟨rfl, _, World.drewN_drewN _ _ _⟩ | exact ⟨rfl, _, Eq.trans (World.drewN_drewN _ _ _) (congrArg (World.drewN _) (Nat.add_assoc _ _ _))⟩)) | (go_at_call 63; (with_reducible refine (flywheelref02_size.calls a1 t330 _ A12.out).mono ?_); rintro e w' ⟨rfl, ⟨nd, rfl⟩⟩; (try first | exact ⟨rfl, _, World.drewN_drewN _ _ _⟩ | exact ⟨rfl, _, Eq.trans (World.drewN_drewN _ _ _) (congrArg (World.drewN _) (Nat.add_assoc _ _ _))⟩)) | (go_at_call 62; (with_reducible refine (flywheelref02_times.calls t329 t330 t331 t332 _ A13.out).mono ?_); rintro e w17 ⟨rfl, hb⟩; have n0_ := Aside0.mk (blk_below (g := gb328) (o := .cells #[.int .i64 0, .bool false] 87 (0, 0)) (by (with_reducible repeat (first | refine blk_drewN ?_ _ | refine blk_drew ?_ | refine blk_alloc ?_ _)); exact BK328.out) hb); have n1_ := Aside0.mk (below_step (by repeat (first | (with_reducible first | exact HB.out | apply below_alloc | apply pw_below_drewN | apply below_drew1 | refine below_set ?_ GE328.out) | exact HB.out)) hb); clear BK328; clear HB; have BK328 := n0_; have HB := n1_; clear n0_ n1_; (try clear hb); (try clear hb2); (try clear hk); (try clear hi)) | (go_at_call 63; (with_reducible refine (flywheelref02_size.calls a2 t333 _ A14.out).mono ?_); rintro e w' ⟨rfl, ⟨nd, rfl⟩⟩; (try first | exact ⟨rfl, _, World.drewN_drewN _ _ _⟩ | exact ⟨rfl, _, Eq.trans (World.drewN_drewN _ _ _) (congrArg (World.drewN _) (Nat.add_assoc _ _ _))⟩)) | (go_at_call 61; (with_reducible refine (flywheelref02_part.calls kj4 t331 t332 t333 t334 t335 t336 _ A15.out).mono ?_); rintro e w18 ⟨rfl, hb⟩; have n0_ := Aside0.mk (blk_below (g := gb328) (o := .cells #[.int .i64 0, .bool false] 87 (0, 0)) (by (with_reducible repeat (first | refine blk_drewN ?_ _ | refine blk_drew ?_ | refine blk_alloc ?_ _)); exact BK328.out) hb); have n1_ := Aside0.mk (below_step (by repeat (first | (with_reducible first | exact HB.out | apply below_alloc | apply pw_below_drewN | apply below_drew1 | refine below_set ?_ GE328.out) | exact HB.out)) hb); clear BK328; clear HB; have BK328 := n0_; have HB := n1_; clear n0_ n1_; (try clear hb); (try clear hb2); (try clear hk); (try clear hi)) | ((with_reducible refine gate_dst (N := 9) rfl ?_); refine box_event ?hg (N := 9) ?hd (cs := #[.int .u64 0, .bool false, .int .u64 0]) (t := 94) ?hr ?_; (case hd => rfl); (case hg => rfl); (case hr => first | (go_simp; done) | (go_simp; rfl)); intro gb337 hg w19 hbox hb; have n0_ := Aside0.mk (blk_below (g := gb328) (o := .cells #[.int .i64 0, .bool false] 87 (0, 0)) (by (with_reducible repeat (first | refine blk_drewN ?_ _ | refine blk_drew ?_ | refine blk_alloc ?_ _)); exact BK328.out) hb); have n1_ := Aside0.mk (below_step (by repeat (first | (with_reducible first | exact HB.out | apply below_alloc | apply pw_below_drewN | apply below_drew1 | refine below_set ?_ GE328.out) | exact HB.out)) hb); have n2_ := Aside0.mk (hbox); have n3_ := Aside0.mk ((by rw [hg]; exact (below_size (by repeat (first | (with_reducible first | exact HB.out | apply below_alloc | apply pw_below_drewN | apply below_drew1 | refine below_set ?_ GE328.out) | exact HB.out))) : w.heap.size ≤ gb337)); have n4_ := Aside0.mk ((by rw [hg]; exact (below_size (by repeat (first | (with_reducible first | exact HB.out | apply below_alloc | apply pw_below_drewN | apply below_drew1 | refine below_set ?_ GE328.out) | exact HB.out))) : w.heap.size ≤ gb337)); have n5_ := Aside0.mk ((by rw [hg]; exact Nat.ne_of_lt (blk_lt (g := gb328) (o := .cells #[.int .i64 0, .bool false] 87 (0, 0)) (by (with_reducible repeat (first | refine blk_drewN ?_ _ | refine blk_drew ?_ | refine blk_alloc ?_ _)); exact BK328.out)) : gb328 ≠ gb337)); have n6_ := Aside0.mk ((by rw [hg]; exact Nat.ne_of_gt (blk_lt (g := gb328) (o := .cells #[.int .i64 0, .bool false] 87 (0, 0)) (by (with_reducible repeat (first | refine blk_drewN ?_ _ | refine blk_drew ?_ | refine blk_alloc ?_ _)); exact BK328.out)) : gb337 ≠ gb328)); clear BK328; clear HB; have BK328 := n0_; have HB := n1_; have BK337 := n2_; have GW337 := n3_; have GE337 := n4_; have NB328_337 := n5_; have NB337_328 := n6_; clear n0_ n1_ n2_ n3_ n4_ n5_ n6_; clear hb hbox hg; have hnb20 := NB337_328.out; have hnc20 := NB328_337.out; have hcz21_0 : w19.cell? ⟨gb337, 0, none⟩ = some (.int .u64 0) := (blk_cell BK337.out 0).trans rfl; have hcz21_1 : w19.cell? ⟨gb337, 1, none⟩ = some (.bool false) := (blk_cell BK337.out 1).trans rfl; have hcz21_2 : w19.cell? ⟨gb337, 2, none⟩ = some (.int .u64 0) := (blk_cell BK337.out 2).trans rfl; have hfz21_0 := blk_frozen BK337.out 0; have hfz21_1 := blk_frozen BK337.out 1; have hfz21_2 := blk_frozen BK337.out 2)))
    (try simp only [Act.put, List.setIfInBounds_toArray, List.set_cons_zero, List.set_cons_succ])
    go_cut [10] (fun v10 wc => ∃ (kq : Nat) (x10_15 : Bool), v10 = .bool x10_15 ∧ Aside0 (flywheelref02_Did.j1 kq a2 a3 x10_15 t334 t335 t336 = some (r1, r2)) ∧ Aside0 (kq ≤ kj4) ∧ Aside0 (wc.heap[gb328]? = some (.cells #[.int .i64 0, .bool false] 87 (0, 0))) ∧ Aside0 (wc.heap[gb337]? = some (.cells #[.int .u64 t334, .bool t335, .int .u64 t336] 94 (0, 0))) ∧ Aside0 (Below w.heap.size w wc))
    case first =>
     have H := HC16.out
     clear HC16
     by_cases c22 : a0 < 0
     ·rw [if_pos c22] at H
      have c22b0 : decide (a0 < 0) = true := decide_eq_true c22
      clear c22
      (first | rw [c22b0] | (simp only [i64_w, i32_w]; rw [c22b0]) | skip)
      by_cases c23 : a1 < 0
      ·rw [if_pos c23] at H
       have c23b0 : decide (a1 < 0) = true := decide_eq_true c23
       clear c23
       by_cases c24 : a2 < 0
       ·rw [if_pos c24] at H
        have c24b0 : decide (a2 < 0) = true := decide_eq_true c24
        clear c24
        have H' := Aside0.mk H
        clear H
        go_wp2
        repeat (go_quiet (fail); try go_wp2)
        go_meet
        case rel => exact ⟨_, (true), (by first | rfl | (simp; done) | (simp [*]; done)), H', ⟨by have := HJ4.out; first | omega | exact Nat.le_refl _⟩, ⟨by (with_reducible repeat (first | refine blk_drewN ?_ _ | refine blk_drew ?_ | refine blk_alloc ?_ _)); refine blk_far ?_ NB328_337.out _; (with_reducible repeat (first | refine blk_drewN ?_ _ | refine blk_drew ?_ | refine blk_alloc ?_ _)); refine blk_far ?_ NB328_337.out _; (with_reducible repeat (first | refine blk_drewN ?_ _ | refine blk_drew ?_ | refine blk_alloc ?_ _)); refine blk_far ?_ NB328_337.out _; (with_reducible repeat (first | refine blk_drewN ?_ _ | refine blk_drew ?_ | refine blk_alloc ?_ _)); exact BK328.out⟩, ⟨by (with_reducible repeat (first | refine blk_drewN ?_ _ | refine blk_drew ?_ | refine blk_alloc ?_ _)); refine blk_put (cs := #[.int .u64 t334, .bool t335, .int .u64 0]) ?_ 2 _ rfl; (with_reducible repeat (first | refine blk_drewN ?_ _ | refine blk_drew ?_ | refine blk_alloc ?_ _)); refine blk_put (cs := #[.int .u64 t334, .bool false, .int .u64 0]) ?_ 1 _ rfl; (with_reducible repeat (first | refine blk_drewN ?_ _ | refine blk_drew ?_ | refine blk_alloc ?_ _)); refine blk_put (cs := #[.int .u64 0, .bool false, .int .u64 0]) ?_ 0 _ rfl; (with_reducible repeat (first | refine blk_drewN ?_ _ | refine blk_drew ?_ | refine blk_alloc ?_ _)); exact BK337.out⟩, ⟨by repeat (first | (with_reducible first | exact HB.out | apply below_alloc | apply pw_below_drewN | apply below_drew1 | refine below_set ?_ GE328.out | refine below_set ?_ GE337.out) | exact HB.out)⟩⟩
       ·rw [if_neg c24] at H
        have c24b0 : decide (a2 < 0) = false := decide_eq_false c24
        clear c24
        have H' := Aside0.mk H
        clear H
        go_wp2
        repeat (go_quiet (fail); try go_wp2)
        go_meet
        case rel => exact ⟨_, (false), (by first | rfl | (simp; done) | (simp [*]; done)), H', ⟨by have := HJ4.out; first | omega | exact Nat.le_refl _⟩, ⟨by (with_reducible repeat (first | refine blk_drewN ?_ _ | refine blk_drew ?_ | refine blk_alloc ?_ _)); refine blk_far ?_ NB328_337.out _; (with_reducible repeat (first | refine blk_drewN ?_ _ | refine blk_drew ?_ | refine blk_alloc ?_ _)); refine blk_far ?_ NB328_337.out _; (with_reducible repeat (first | refine blk_drewN ?_ _ | refine blk_drew ?_ | refine blk_alloc ?_ _)); refine blk_far ?_ NB328_337.out _; (with_reducible repeat (first | refine blk_drewN ?_ _ | refine blk_drew ?_ | refine blk_alloc ?_ _)); exact BK328.out⟩, ⟨by (with_reducible repeat (first | refine blk_drewN ?_ _ | refine blk_drew ?_ | refine blk_alloc ?_ _)); refine blk_put (cs := #[.int .u64 t334, .bool t335, .int .u64 0]) ?_ 2 _ rfl; (with_reducible repeat (first | refine blk_drewN ?_ _ | refine blk_drew ?_ | refine blk_alloc ?_ _)); refine blk_put (cs := #[.int .u64 t334, .bool false, .int .u64 0]) ?_ 1 _ rfl; (with_reducible repeat (first | refine blk_drewN ?_ _ | refine blk_drew ?_ | refine blk_alloc ?_ _)); refine blk_put (cs := #[.int .u64 0, .bool false, .int .u64 0]) ?_ 0 _ rfl; (with_reducible repeat (first | refine blk_drewN ?_ _ | refine blk_drew ?_ | refine blk_alloc ?_ _)); exact BK337.out⟩, ⟨by repeat (first | (with_reducible first | exact HB.out | apply below_alloc | apply pw_below_drewN | apply below_drew1 | refine below_set ?_ GE328.out | refine below_set ?_ GE337.out) | exact HB.out)⟩⟩
      ·rw [if_neg c23] at H
       have c23b0 : decide (a1 < 0) = false := decide_eq_false c23
       clear c23
       by_cases c25 : a2 < 0
       ·rw [if_pos c25] at H
        have c25b0 : decide (a2 < 0) = true := decide_eq_true c25
        clear c25
        have H' := Aside0.mk H
        clear H
        go_wp2
        repeat (go_quiet (fail); try go_wp2)
        go_meet
        case rel => exact ⟨_, (false), (by first | rfl | (simp; done) | (simp [*]; done)), H', ⟨by have := HJ4.out; first | omega | exact Nat.le_refl _⟩, ⟨by (with_reducible repeat (first | refine blk_drewN ?_ _ | refine blk_drew ?_ | refine blk_alloc ?_ _)); refine blk_far ?_ NB328_337.out _; (with_reducible repeat (first | refine blk_drewN ?_ _ | refine blk_drew ?_ | refine blk_alloc ?_ _)); refine blk_far ?_ NB328_337.out _; (with_reducible repeat (first | refine blk_drewN ?_ _ | refine blk_drew ?_ | refine blk_alloc ?_ _)); refine blk_far ?_ NB328_337.out _; (with_reducible repeat (first | refine blk_drewN ?_ _ | refine blk_drew ?_ | refine blk_alloc ?_ _)); exact BK328.out⟩, ⟨by (with_reducible repeat (first | refine blk_drewN ?_ _ | refine blk_drew ?_ | refine blk_alloc ?_ _)); refine blk_put (cs := #[.int .u64 t334, .bool t335, .int .u64 0]) ?_ 2 _ rfl; (with_reducible repeat (first | refine blk_drewN ?_ _ | refine blk_drew ?_ | refine blk_alloc ?_ _)); refine blk_put (cs := #[.int .u64 t334, .bool false, .int .u64 0]) ?_ 1 _ rfl; (with_reducible repeat (first | refine blk_drewN ?_ _ | refine blk_drew ?_ | refine blk_alloc ?_ _)); refine blk_put (cs := #[.int .u64 0, .bool false, .int .u64 0]) ?_ 0 _ rfl; (with_reducible repeat (first | refine blk_drewN ?_ _ | refine blk_drew ?_ | refine blk_alloc ?_ _)); exact BK337.out⟩, ⟨by repeat (first | (with_reducible first | exact HB.out | apply below_alloc | apply pw_below_drewN | apply below_drew1 | refine below_set ?_ GE328.out | refine below_set ?_ GE337.out) | exact HB.out)⟩⟩
       ·rw [if_neg c25] at H
        have c25b0 : decide (a2 < 0) = false := decide_eq_false c25
        clear c25
        have H' := Aside0.mk H
        clear H
        go_wp2
        repeat (go_quiet (fail); try go_wp2)
        go_meet
        case rel => exact ⟨_, (true), (by first | rfl | (simp; done) | (simp [*]; done)), H', ⟨by have := HJ4.out; first | omega | exact Nat.le_refl _⟩, ⟨by (with_reducible repeat (first | refine blk_drewN ?_ _ | refine blk_drew ?_ | refine blk_alloc ?_ _)); refine blk_far ?_ NB328_337.out _; (with_reducible repeat (first | refine blk_drewN ?_ _ | refine blk_drew ?_ | refine blk_alloc ?_ _)); refine blk_far ?_ NB328_337.out _; (with_reducible repeat (first | refine blk_drewN ?_ _ | refine blk_drew ?_ | refine blk_alloc ?_ _)); refine blk_far ?_ NB328_337.out _; (with_reducible repeat (first | refine blk_drewN ?_ _ | refine blk_drew ?_ | refine blk_alloc ?_ _)); exact BK328.out⟩, ⟨by (with_reducible repeat (first | refine blk_drewN ?_ _ | refine blk_drew ?_ | refine blk_alloc ?_ _)); refine blk_put (cs := #[.int .u64 t334, .bool t335, .int .u64 0]) ?_ 2 _ rfl; (with_reducible repeat (first | refine blk_drewN ?_ _ | refine blk_drew ?_ | refine blk_alloc ?_ _)); refine blk_put (cs := #[.int .u64 t334, .bool false, .int .u64 0]) ?_ 1 _ rfl; (with_reducible repeat (first | refine blk_drewN ?_ _ | refine blk_drew ?_ | refine blk_alloc ?_ _)); refine blk_put (cs := #[.int .u64 0, .bool false, .int .u64 0]) ?_ 0 _ rfl; (with_reducible repeat (first | refine blk_drewN ?_ _ | refine blk_drew ?_ | refine blk_alloc ?_ _)); exact BK337.out⟩, ⟨by repeat (first | (with_reducible first | exact HB.out | apply below_alloc | apply pw_below_drewN | apply below_drew1 | refine below_set ?_ GE328.out | refine below_set ?_ GE337.out) | exact HB.out)⟩⟩
     ·rw [if_neg c22] at H
      have c22b0 : decide (a0 < 0) = false := decide_eq_false c22
      clear c22
      (first | rw [c22b0] | (simp only [i64_w, i32_w]; rw [c22b0]) | skip)
      by_cases c26 : a1 < 0
      ·rw [if_pos c26] at H
       have c26b0 : decide (a1 < 0) = true := decide_eq_true c26
       clear c26
       by_cases c27 : a2 < 0
       ·rw [if_pos c27] at H
        have c27b0 : decide (a2 < 0) = true := decide_eq_true c27
        clear c27
        have H' := Aside0.mk H
        clear H
        go_wp2
        repeat (go_quiet (fail); try go_wp2)
        go_meet
        case rel => exact ⟨_, (false), (by first | rfl | (simp; done) | (simp [*]; done)), H', ⟨by have := HJ4.out; first | omega | exact Nat.le_refl _⟩, ⟨by (with_reducible repeat (first | refine blk_drewN ?_ _ | refine blk_drew ?_ | refine blk_alloc ?_ _)); refine blk_far ?_ NB328_337.out _; (with_reducible repeat (first | refine blk_drewN ?_ _ | refine blk_drew ?_ | refine blk_alloc ?_ _)); refine blk_far ?_ NB328_337.out _; (with_reducible repeat (first | refine blk_drewN ?_ _ | refine blk_drew ?_ | refine blk_alloc ?_ _)); refine blk_far ?_ NB328_337.out _; (with_reducible repeat (first | refine blk_drewN ?_ _ | refine blk_drew ?_ | refine blk_alloc ?_ _)); exact BK328.out⟩, ⟨by (with_reducible repeat (first | refine blk_drewN ?_ _ | refine blk_drew ?_ | refine blk_alloc ?_ _)); refine blk_put (cs := #[.int .u64 t334, .bool t335, .int .u64 0]) ?_ 2 _ rfl; (with_reducible repeat (first | refine blk_drewN ?_ _ | refine blk_drew ?_ | refine blk_alloc ?_ _)); refine blk_put (cs := #[.int .u64 t334, .bool false, .int .u64 0]) ?_ 1 _ rfl; (with_reducible repeat (first | refine blk_drewN ?_ _ | refine blk_drew ?_ | refine blk_alloc ?_ _)); refine blk_put (cs := #[.int .u64 0, .bool false, .int .u64 0]) ?_ 0 _ rfl; (with_reducible repeat (first | refine blk_drewN ?_ _ | refine blk_drew ?_ | refine blk_alloc ?_ _)); exact BK337.out⟩, ⟨by repeat (first | (with_reducible first | exact HB.out | apply below_alloc | apply pw_below_drewN | apply below_drew1 | refine below_set ?_ GE328.out | refine below_set ?_ GE337.out) | exact HB.out)⟩⟩
       ·rw [if_neg c27] at H
        have c27b0 : decide (a2 < 0) = false := decide_eq_false c27
        clear c27
        have H' := Aside0.mk H
        clear H
        go_wp2
        repeat (go_quiet (fail); try go_wp2)
        go_meet
        case rel => exact ⟨_, (true), (by first | rfl | (simp; done) | (simp [*]; done)), H', ⟨by have := HJ4.out; first | omega | exact Nat.le_refl _⟩, ⟨by (with_reducible repeat (first | refine blk_drewN ?_ _ | refine blk_drew ?_ | refine blk_alloc ?_ _)); refine blk_far ?_ NB328_337.out _; (with_reducible repeat (first | refine blk_drewN ?_ _ | refine blk_drew ?_ | refine blk_alloc ?_ _)); refine blk_far ?_ NB328_337.out _; (with_reducible repeat (first | refine blk_drewN ?_ _ | refine blk_drew ?_ | refine blk_alloc ?_ _)); refine blk_far ?_ NB328_337.out _; (with_reducible repeat (first | refine blk_drewN ?_ _ | refine blk_drew ?_ | refine blk_alloc ?_ _)); exact BK328.out⟩, ⟨by (with_reducible repeat (first | refine blk_drewN ?_ _ | refine blk_drew ?_ | refine blk_alloc ?_ _)); refine blk_put (cs := #[.int .u64 t334, .bool t335, .int .u64 0]) ?_ 2 _ rfl; (with_reducible repeat (first | refine blk_drewN ?_ _ | refine blk_drew ?_ | refine blk_alloc ?_ _)); refine blk_put (cs := #[.int .u64 t334, .bool false, .int .u64 0]) ?_ 1 _ rfl; (with_reducible repeat (first | refine blk_drewN ?_ _ | refine blk_drew ?_ | refine blk_alloc ?_ _)); refine blk_put (cs := #[.int .u64 0, .bool false, .int .u64 0]) ?_ 0 _ rfl; (with_reducible repeat (first | refine blk_drewN ?_ _ | refine blk_drew ?_ | refine blk_alloc ?_ _)); exact BK337.out⟩, ⟨by repeat (first | (with_reducible first | exact HB.out | apply below_alloc | apply pw_below_drewN | apply below_drew1 | refine below_set ?_ GE328.out | refine below_set ?_ GE337.out) | exact HB.out)⟩⟩
      ·rw [if_neg c26] at H
       have c26b0 : decide (a1 < 0) = false := decide_eq_false c26
       clear c26
       by_cases c28 : a2 < 0
       ·rw [if_pos c28] at H
        have c28b0 : decide (a2 < 0) = true := decide_eq_true c28
        clear c28
        have H' := Aside0.mk H
        clear H
        go_wp2
        repeat (go_quiet (fail); try go_wp2)
        go_meet
        case rel => exact ⟨_, (true), (by first | rfl | (simp; done) | (simp [*]; done)), H', ⟨by have := HJ4.out; first | omega | exact Nat.le_refl _⟩, ⟨by (with_reducible repeat (first | refine blk_drewN ?_ _ | refine blk_drew ?_ | refine blk_alloc ?_ _)); refine blk_far ?_ NB328_337.out _; (with_reducible repeat (first | refine blk_drewN ?_ _ | refine blk_drew ?_ | refine blk_alloc ?_ _)); refine blk_far ?_ NB328_337.out _; (with_reducible repeat (first | refine blk_drewN ?_ _ | refine blk_drew ?_ | refine blk_alloc ?_ _)); refine blk_far ?_ NB328_337.out _; (with_reducible repeat (first | refine blk_drewN ?_ _ | refine blk_drew ?_ | refine blk_alloc ?_ _)); exact BK328.out⟩, ⟨by (with_reducible repeat (first | refine blk_drewN ?_ _ | refine blk_drew ?_ | refine blk_alloc ?_ _)); refine blk_put (cs := #[.int .u64 t334, .bool t335, .int .u64 0]) ?_ 2 _ rfl; (with_reducible repeat (first | refine blk_drewN ?_ _ | refine blk_drew ?_ | refine blk_alloc ?_ _)); refine blk_put (cs := #[.int .u64 t334, .bool false, .int .u64 0]) ?_ 1 _ rfl; (with_reducible repeat (first | refine blk_drewN ?_ _ | refine blk_drew ?_ | refine blk_alloc ?_ _)); refine blk_put (cs := #[.int .u64 0, .bool false, .int .u64 0]) ?_ 0 _ rfl; (with_reducible repeat (first | refine blk_drewN ?_ _ | refine blk_drew ?_ | refine blk_alloc ?_ _)); exact BK337.out⟩, ⟨by repeat (first | (with_reducible first | exact HB.out | apply below_alloc | apply pw_below_drewN | apply below_drew1 | refine below_set ?_ GE328.out | refine below_set ?_ GE337.out) | exact HB.out)⟩⟩
       ·rw [if_neg c28] at H
        have c28b0 : decide (a2 < 0) = false := decide_eq_false c28
        clear c28
        have H' := Aside0.mk H
        clear H
        go_wp2
        repeat (go_quiet (fail); try go_wp2)
        go_meet
        case rel => exact ⟨_, (false), (by first | rfl | (simp; done) | (simp [*]; done)), H', ⟨by have := HJ4.out; first | omega | exact Nat.le_refl _⟩, ⟨by (with_reducible repeat (first | refine blk_drewN ?_ _ | refine blk_drew ?_ | refine blk_alloc ?_ _)); refine blk_far ?_ NB328_337.out _; (with_reducible repeat (first | refine blk_drewN ?_ _ | refine blk_drew ?_ | refine blk_alloc ?_ _)); refine blk_far ?_ NB328_337.out _; (with_reducible repeat (first | refine blk_drewN ?_ _ | refine blk_drew ?_ | refine blk_alloc ?_ _)); refine blk_far ?_ NB328_337.out _; (with_reducible repeat (first | refine blk_drewN ?_ _ | refine blk_drew ?_ | refine blk_alloc ?_ _)); exact BK328.out⟩, ⟨by (with_reducible repeat (first | refine blk_drewN ?_ _ | refine blk_drew ?_ | refine blk_alloc ?_ _)); refine blk_put (cs := #[.int .u64 t334, .bool t335, .int .u64 0]) ?_ 2 _ rfl; (with_reducible repeat (first | refine blk_drewN ?_ _ | refine blk_drew ?_ | refine blk_alloc ?_ _)); refine blk_put (cs := #[.int .u64 t334, .bool false, .int .u64 0]) ?_ 1 _ rfl; (with_reducible repeat (first | refine blk_drewN ?_ _ | refine blk_drew ?_ | refine blk_alloc ?_ _)); refine blk_put (cs := #[.int .u64 0, .bool false, .int .u64 0]) ?_ 0 _ rfl; (with_reducible repeat (first | refine blk_drewN ?_ _ | refine blk_drew ?_ | refine blk_alloc ?_ _)); exact BK337.out⟩, ⟨by repeat (first | (with_reducible first | exact HB.out | apply below_alloc | apply pw_below_drewN | apply below_drew1 | refine below_set ?_ GE328.out | refine below_set ?_ GE337.out) | exact HB.out)⟩⟩
    case rest =>
     clear HC16
     try clear c2
     try clear p2
     try clear c5
     try clear c7
     try clear c7b0
     try clear c7b1
     try clear c8
     try clear c8b0
     try clear c9
     try clear c20
     try clear c22
     try clear c22b0
     try clear c23
     try clear c23b0
     try clear c24
     try clear c24b0
     try clear c25
     try clear c25b0
     try clear c26
     try clear c26b0
     try clear c27
     try clear c27b0
     try clear c28
     try clear c28b0
     try clear hcz10_0
     try clear hcz10_1
     try clear hcz21_0
     try clear hcz21_1
     try clear hcz21_2
     try clear hfz10_0
     try clear hfz10_1
     try clear hfz21_0
     try clear hfz21_1
     try clear hfz21_2
     try clear p2
     obtain ⟨kq, x10_15, rfl, HA, HJ15, BK328, BK337, HB⟩ := hcut
     cases kq with
     | zero => exact absurd HA.out (by simp [flywheelref02_Did.j1])
     | succ kj15 =>
      have H := HA.out
      clear HA
      simp only [flywheelref02_Did.j1] at H
      have HC29 := Aside0.mk H
      clear H
      go_upto_block 0 with (fail)
      repeat (go_quiet (fail); go_upto_block 0 with (fail))
      go_cut [11] (fun v11 wc => ∃ (kq : Nat) (x11_28 : Bool), v11 = .bool x11_28 ∧ Aside0 (flywheelref02_Did.j2 kq x10_15 x11_28 t334 t335 t336 = some (r1, r2)) ∧ Aside0 (kq ≤ kj15) ∧ Aside0 (wc.heap[gb328]? = some (.cells #[.int .i64 0, .bool false] 87 (0, 0))) ∧ Aside0 (wc.heap[gb337]? = some (.cells #[.int .u64 t334, .bool t335, .int .u64 t336] 94 (0, 0))) ∧ Aside0 (Below w.heap.size w wc))
      case first =>
       have H := HC29.out
       clear HC29
       by_cases c30 : t336 = 0
       ·rw [if_pos c30] at H
        have c30b0 : (t336 == 0) = true := beq_iff_eq.mpr c30
        have c30b1 : (t336 != 0) = false := bne_eq_false_iff_eq.mpr c30
        clear c30
        (first | rw [c30b0] | (simp only [i64_w, i32_w]; rw [c30b0]) | skip)
        have H' := Aside0.mk H
        clear H
        have hnb31 := NB337_328.out
        have hnc31 := NB328_337.out
        have hcz32_0 : wc.cell? ⟨gb337, 0, none⟩ = some (.int .u64 t334) := (blk_cell BK337.out 0).trans rfl
        have hcz32_1 : wc.cell? ⟨gb337, 1, none⟩ = some (.bool t335) := (blk_cell BK337.out 1).trans rfl
        have hcz32_2 : wc.cell? ⟨gb337, 2, none⟩ = some (.int .u64 t336) := (blk_cell BK337.out 2).trans rfl
        have hfz32_0 := blk_frozen BK337.out 0
        have hfz32_1 := blk_frozen BK337.out 1
        have hfz32_2 := blk_frozen BK337.out 2
        go_wp2
        repeat (go_quiet (fail); try go_wp2)
        go_meet
        case rel => exact ⟨_, (false), (by first | rfl | (simp; done) | (simp [*]; done)), H', ⟨by have := HJ4.out; have := HJ15.out; first | omega | exact Nat.le_refl _⟩, ⟨by (with_reducible repeat (first | refine blk_drewN ?_ _ | refine blk_drew ?_ | refine blk_alloc ?_ _)); exact BK328.out⟩, ⟨by (with_reducible repeat (first | refine blk_drewN ?_ _ | refine blk_drew ?_ | refine blk_alloc ?_ _)); exact BK337.out⟩, ⟨by repeat (first | (with_reducible first | exact HB.out | apply below_alloc | apply pw_below_drewN | apply below_drew1 | refine below_set ?_ GE328.out | refine below_set ?_ GE337.out) | exact HB.out)⟩⟩
       ·rw [if_neg c30] at H
        have c30b0 : (t336 == 0) = false := beq_eq_false_iff_ne.mpr c30
        have c30b1 : (t336 != 0) = true := bne_iff_ne.mpr c30
        (first | rw [c30b0] | (simp only [i64_w, i32_w]; rw [c30b0]) | skip)
        by_cases c33 : a3 = 1
        ·rw [if_pos c33] at H
         have c33b0 : (a3 == 1) = true := beq_iff_eq.mpr c33
         have c33b1 : (a3 != 1) = false := bne_eq_false_iff_eq.mpr c33
         clear c33
         have H' := Aside0.mk H
         clear H
         have hnb34 := NB337_328.out
         have hnc34 := NB328_337.out
         have hcz35_0 : wc.cell? ⟨gb337, 0, none⟩ = some (.int .u64 t334) := (blk_cell BK337.out 0).trans rfl
         have hcz35_1 : wc.cell? ⟨gb337, 1, none⟩ = some (.bool t335) := (blk_cell BK337.out 1).trans rfl
         have hcz35_2 : wc.cell? ⟨gb337, 2, none⟩ = some (.int .u64 t336) := (blk_cell BK337.out 2).trans rfl
         have hfz35_0 := blk_frozen BK337.out 0
         have hfz35_1 := blk_frozen BK337.out 1
         have hfz35_2 := blk_frozen BK337.out 2
         go_wp2
         repeat (go_quiet (fail); try go_wp2)
         go_meet
         case rel => exact ⟨_, (x10_15), (by first | rfl | (simp; done) | (simp [*]; done)), H', ⟨by have := HJ4.out; have := HJ15.out; first | omega | exact Nat.le_refl _⟩, ⟨by (with_reducible repeat (first | refine blk_drewN ?_ _ | refine blk_drew ?_ | refine blk_alloc ?_ _)); exact BK328.out⟩, ⟨by (with_reducible repeat (first | refine blk_drewN ?_ _ | refine blk_drew ?_ | refine blk_alloc ?_ _)); exact BK337.out⟩, ⟨by repeat (first | (with_reducible first | exact HB.out | apply below_alloc | apply pw_below_drewN | apply below_drew1 | refine below_set ?_ GE328.out | refine below_set ?_ GE337.out) | exact HB.out)⟩⟩
        ·rw [if_neg c33] at H
         have c33b0 : (a3 == 1) = false := beq_eq_false_iff_ne.mpr c33
         have c33b1 : (a3 != 1) = true := bne_iff_ne.mpr c33
         by_cases c36 : a3 = 3
         ·rw [if_pos c36] at H
          have c36b0 : (a3 == 3) = true := beq_iff_eq.mpr c36
          have c36b1 : (a3 != 3) = false := bne_eq_false_iff_eq.mpr c36
          clear c36
          have H' := Aside0.mk H
          clear H
          have hnb37 := NB337_328.out
          have hnc37 := NB328_337.out
          have hcz38_0 : wc.cell? ⟨gb337, 0, none⟩ = some (.int .u64 t334) := (blk_cell BK337.out 0).trans rfl
          have hcz38_1 : wc.cell? ⟨gb337, 1, none⟩ = some (.bool t335) := (blk_cell BK337.out 1).trans rfl
          have hcz38_2 : wc.cell? ⟨gb337, 2, none⟩ = some (.int .u64 t336) := (blk_cell BK337.out 2).trans rfl
          have hfz38_0 := blk_frozen BK337.out 0
          have hfz38_1 := blk_frozen BK337.out 1
          have hfz38_2 := blk_frozen BK337.out 2
          go_wp2
          repeat (go_quiet (fail); try go_wp2)
          go_meet
          case rel => exact ⟨_, (!x10_15), (by first | rfl | (simp; done) | (simp [*]; done)), H', ⟨by have := HJ4.out; have := HJ15.out; first | omega | exact Nat.le_refl _⟩, ⟨by (with_reducible repeat (first | refine blk_drewN ?_ _ | refine blk_drew ?_ | refine blk_alloc ?_ _)); exact BK328.out⟩, ⟨by (with_reducible repeat (first | refine blk_drewN ?_ _ | refine blk_drew ?_ | refine blk_alloc ?_ _)); exact BK337.out⟩, ⟨by repeat (first | (with_reducible first | exact HB.out | apply below_alloc | apply pw_below_drewN | apply below_drew1 | refine below_set ?_ GE328.out | refine below_set ?_ GE337.out) | exact HB.out)⟩⟩
         ·rw [if_neg c36] at H
          have c36b0 : (a3 == 3) = false := beq_eq_false_iff_ne.mpr c36
          have c36b1 : (a3 != 3) = true := bne_iff_ne.mpr c36
          by_cases c39 : x10_15 = true
          ·subst c39
           have H1 : ((flywheelref02_size.f a2).bind fun t338 => (flywheelref02_Did.j2 kj15 true (decide (t336 > (IntKind.u64.wrap (t338 - t336)))) t334 t335 t336)) = some (r1, r2) := by rw [if_pos rfl] at H; exact H
           clear H
           have H := H1
           clear H1
           replace H := Option.bind_eq_some_iff.mp H
           obtain ⟨t338, A400, H⟩ := H
           replace H : (flywheelref02_Did.j2 kj15 true (decide (t336 > (IntKind.u64.wrap (t338 - t336)))) t334 t335 t336) = some (r1, r2) := H
           have A40 := Aside0.mk A400
           clear A400
           have H' := Aside0.mk H
           clear H
           have hnb41 := NB337_328.out
           have hnc41 := NB328_337.out
           have hcz42_0 : wc.cell? ⟨gb337, 0, none⟩ = some (.int .u64 t334) := (blk_cell BK337.out 0).trans rfl
           have hcz42_1 : wc.cell? ⟨gb337, 1, none⟩ = some (.bool t335) := (blk_cell BK337.out 1).trans rfl
           have hcz42_2 : wc.cell? ⟨gb337, 2, none⟩ = some (.int .u64 t336) := (blk_cell BK337.out 2).trans rfl
           have hfz42_0 := blk_frozen BK337.out 0
           have hfz42_1 := blk_frozen BK337.out 1
           have hfz42_2 := blk_frozen BK337.out 2
           go_wp2_with (first | (go_at_call 63; (with_reducible refine (flywheelref02_size.calls a2 t338 _ A40.out).mono ?_); rintro e w' ⟨rfl, ⟨nd, rfl⟩⟩; (try first | exact ⟨rfl, _, World.drewN_drewN _ _ _⟩ | exact ⟨rfl, _, Eq.trans (World.drewN_drewN _ _ _) (congrArg (World.drewN _) (Nat.add_assoc _ _ _))⟩)))
           repeat (go_quiet (first | (go_at_call 63; (with_reducible refine (flywheelref02_size.calls a2 t338 _ A40.out).mono ?_); rintro e w' ⟨rfl, ⟨nd, rfl⟩⟩; (try first | exact ⟨rfl, _, World.drewN_drewN _ _ _⟩ | exact ⟨rfl, _, Eq.trans (World.drewN_drewN _ _ _) (congrArg (World.drewN _) (Nat.add_assoc _ _ _))⟩))); try go_wp2_with (first | (go_at_call 63; (with_reducible refine (flywheelref02_size.calls a2 t338 _ A40.out).mono ?_); rintro e w' ⟨rfl, ⟨nd, rfl⟩⟩; (try first | exact ⟨rfl, _, World.drewN_drewN _ _ _⟩ | exact ⟨rfl, _, Eq.trans (World.drewN_drewN _ _ _) (congrArg (World.drewN _) (Nat.add_assoc _ _ _))⟩))))
           go_meet
           case rel => exact ⟨_, (decide (t336 > (IntKind.u64.wrap (t338 - t336)))), (by first | rfl | (simp; done) | (simp [*]; done)), H', ⟨by have := HJ4.out; have := HJ15.out; first | omega | exact Nat.le_refl _⟩, ⟨by (with_reducible repeat (first | refine blk_drewN ?_ _ | refine blk_drew ?_ | refine blk_alloc ?_ _)); exact BK328.out⟩, ⟨by (with_reducible repeat (first | refine blk_drewN ?_ _ | refine blk_drew ?_ | refine blk_alloc ?_ _)); exact BK337.out⟩, ⟨by repeat (first | (with_reducible first | exact HB.out | apply below_alloc | apply pw_below_drewN | apply below_drew1 | refine below_set ?_ GE328.out | refine below_set ?_ GE337.out) | exact HB.out)⟩⟩
          ·replace c39 := Bool.eq_false_iff.mpr c39
           subst c39
           have H1 : ((flywheelref02_size.f a2).bind fun t339 => (flywheelref02_Did.j2 kj15 false (decide (t336 ≥ (IntKind.u64.wrap (t339 - t336)))) t334 t335 t336)) = some (r1, r2) := by rw [if_neg (show ¬ (false = true) by decide)] at H; exact H
           clear H
           have H := H1
           clear H1
           replace H := Option.bind_eq_some_iff.mp H
           obtain ⟨t339, A430, H⟩ := H
           replace H : (flywheelref02_Did.j2 kj15 false (decide (t336 ≥ (IntKind.u64.wrap (t339 - t336)))) t334 t335 t336) = some (r1, r2) := H
           have A43 := Aside0.mk A430
           clear A430
           have H' := Aside0.mk H
           clear H
           have hnb44 := NB337_328.out
           have hnc44 := NB328_337.out
           have hcz45_0 : wc.cell? ⟨gb337, 0, none⟩ = some (.int .u64 t334) := (blk_cell BK337.out 0).trans rfl
           have hcz45_1 : wc.cell? ⟨gb337, 1, none⟩ = some (.bool t335) := (blk_cell BK337.out 1).trans rfl
           have hcz45_2 : wc.cell? ⟨gb337, 2, none⟩ = some (.int .u64 t336) := (blk_cell BK337.out 2).trans rfl
           have hfz45_0 := blk_frozen BK337.out 0
           have hfz45_1 := blk_frozen BK337.out 1
           have hfz45_2 := blk_frozen BK337.out 2
           go_wp2_with (first | (go_at_call 63; (with_reducible refine (flywheelref02_size.calls a2 t339 _ A43.out).mono ?_); rintro e w' ⟨rfl, ⟨nd, rfl⟩⟩; (try first | exact ⟨rfl, _, World.drewN_drewN _ _ _⟩ | exact ⟨rfl, _, Eq.trans (World.drewN_drewN _ _ _) (congrArg (World.drewN _) (Nat.add_assoc _ _ _))⟩)))
           repeat (go_quiet (first | (go_at_call 63; (with_reducible refine (flywheelref02_size.calls a2 t339 _ A43.out).mono ?_); rintro e w' ⟨rfl, ⟨nd, rfl⟩⟩; (try first | exact ⟨rfl, _, World.drewN_drewN _ _ _⟩ | exact ⟨rfl, _, Eq.trans (World.drewN_drewN _ _ _) (congrArg (World.drewN _) (Nat.add_assoc _ _ _))⟩))); try go_wp2_with (first | (go_at_call 63; (with_reducible refine (flywheelref02_size.calls a2 t339 _ A43.out).mono ?_); rintro e w' ⟨rfl, ⟨nd, rfl⟩⟩; (try first | exact ⟨rfl, _, World.drewN_drewN _ _ _⟩ | exact ⟨rfl, _, Eq.trans (World.drewN_drewN _ _ _) (congrArg (World.drewN _) (Nat.add_assoc _ _ _))⟩))))
           go_meet
           case rel => exact ⟨_, (decide (t336 ≥ (IntKind.u64.wrap (t339 - t336)))), (by first | rfl | (simp; done) | (simp [*]; done)), H', ⟨by have := HJ4.out; have := HJ15.out; first | omega | exact Nat.le_refl _⟩, ⟨by (with_reducible repeat (first | refine blk_drewN ?_ _ | refine blk_drew ?_ | refine blk_alloc ?_ _)); exact BK328.out⟩, ⟨by (with_reducible repeat (first | refine blk_drewN ?_ _ | refine blk_drew ?_ | refine blk_alloc ?_ _)); exact BK337.out⟩, ⟨by repeat (first | (with_reducible first | exact HB.out | apply below_alloc | apply pw_below_drewN | apply below_drew1 | refine below_set ?_ GE328.out | refine below_set ?_ GE337.out) | exact HB.out)⟩⟩
      case rest =>
       clear HC29
       try clear c2
       try clear p2
       try clear c3
       try clear c4
       try clear c5
       try clear c7
       try clear c7b0
       try clear c7b1
       try clear c8
       try clear c8b0
       try clear c9
       try clear c20
       try clear c22
       try clear c22b0
       try clear c23
       try clear c23b0
       try clear c24
       try clear c24b0
       try clear c25
       try clear c25b0
       try clear c26
       try clear c26b0
       try clear c27
       try clear c27b0
       try clear c28
       try clear c28b0
       try clear c30
       try clear c30b0
       try clear c30b1
       try clear c31
       try clear c33
       try clear c33b0
       try clear c33b1
       try clear c34
       try clear c36
       try clear c36b0
       try clear c36b1
       try clear c37
       try clear c39
       try clear c41
       try clear c44
       try clear hcz10_0
       try clear hcz10_1
       try clear hcz21_0
       try clear hcz21_1
       try clear hcz21_2
       try clear hcz32_0
       try clear hcz32_1
       try clear hcz32_2
       try clear hcz35_0
       try clear hcz35_1
       try clear hcz35_2
       try clear hcz38_0
       try clear hcz38_1
       try clear hcz38_2
       try clear hcz42_0
       try clear hcz42_1
       try clear hcz42_2
       try clear hcz45_0
       try clear hcz45_1
       try clear hcz45_2
       try clear hfz10_0
       try clear hfz10_1
       try clear hfz21_0
       try clear hfz21_1
       try clear hfz21_2
       try clear hfz32_0
       try clear hfz32_1
       try clear hfz32_2
       try clear hfz35_0
       try clear hfz35_1
       try clear hfz35_2
       try clear hfz38_0
       try clear hfz38_1
       try clear hfz38_2
       try clear hfz42_0
       try clear hfz42_1
       try clear hfz42_2
       try clear hfz45_0
       try clear hfz45_1
       try clear hfz45_2
       try clear p2
       obtain ⟨kq, x11_28, rfl, HA, HJ28, BK328, BK337, HB⟩ := hcut
       cases kq with
       | zero => exact absurd HA.out (by simp [flywheelref02_Did.j2])
       | succ kj28 =>
        have H := HA.out
        clear HA
        simp only [flywheelref02_Did.j2] at H
        have HC46 := Aside0.mk H
        clear H
        have hnb47 := NB337_328.out
        have hnc47 := NB328_337.out
        have hcz48_0 : wc.cell? ⟨gb337, 0, none⟩ = some (.int .u64 t334) := (blk_cell BK337.out 0).trans rfl
        have hcz48_1 : wc.cell? ⟨gb337, 1, none⟩ = some (.bool t335) := (blk_cell BK337.out 1).trans rfl
        have hcz48_2 : wc.cell? ⟨gb337, 2, none⟩ = some (.int .u64 t336) := (blk_cell BK337.out 2).trans rfl
        have hfz48_0 := blk_frozen BK337.out 0
        have hfz48_1 := blk_frozen BK337.out 1
        have hfz48_2 := blk_frozen BK337.out 2
        go_upto_if 76 with (fail)
        repeat (go_quiet (fail); go_upto_if 76 with (fail))
        go_cut [12, 13] (fun v12 v13 wc => ∃ (kq : Nat) (x12_45 : Int) (x13_45 : Bool), v12 = .int .u64 x12_45 ∧ v13 = .bool x13_45 ∧ Aside0 (flywheelref02_Did.j3 kq x10_15 x12_45 x13_45 = some (r1, r2)) ∧ Aside0 (kq ≤ kj28) ∧ Aside0 (wc.heap[gb328]? = some (.cells #[.int .i64 0, .bool false] 87 (0, 0))) ∧ Aside0 (wc.heap[gb337]? = some (.cells #[.int .u64 t334, .bool t335, .int .u64 t336] 94 (0, 0))) ∧ Aside0 (Below w.heap.size w wc))
        case first =>
         have H := HC46.out
         clear HC46
         by_cases c49 : x11_28 = true
         ·subst c49
          have H1 : (if t335 = true then (flywheelref02_Did.j3 kj28 x10_15 (IntKind.u64.wrap (t334 + 1)) true) else (flywheelref02_Did.j3 kj28 x10_15 (IntKind.u64.wrap (t334 + 1)) ((IntKind.u64.wrap (t334 + 1)) == 0))) = some (r1, r2) := by rw [if_pos rfl] at H; exact H
          clear H
          have H := H1
          clear H1
          by_cases c50 : t335 = true
          ·subst c50
           have H1 : (flywheelref02_Did.j3 kj28 x10_15 (IntKind.u64.wrap (t334 + 1)) true) = some (r1, r2) := by rw [if_pos rfl] at H; exact H
           clear H
           have H := H1
           clear H1
           have H' := Aside0.mk H
           clear H
           go_wp2
           repeat (go_quiet (fail); try go_wp2)
           go_meet
           case rel => exact ⟨_, (IntKind.u64.wrap (t334 + 1)), (true), (by first | rfl | (simp; done) | (simp [*]; done)), (by first | rfl | (simp; done) | (simp [*]; done)), H', ⟨by have := HJ4.out; have := HJ15.out; have := HJ28.out; first | omega | exact Nat.le_refl _⟩, ⟨by (with_reducible repeat (first | refine blk_drewN ?_ _ | refine blk_drew ?_ | refine blk_alloc ?_ _)); exact BK328.out⟩, ⟨by (with_reducible repeat (first | refine blk_drewN ?_ _ | refine blk_drew ?_ | refine blk_alloc ?_ _)); exact BK337.out⟩, ⟨by repeat (first | (with_reducible first | exact HB.out | apply below_alloc | apply pw_below_drewN | apply below_drew1 | refine below_set ?_ GE328.out | refine below_set ?_ GE337.out) | exact HB.out)⟩⟩
          ·replace c50 := Bool.eq_false_iff.mpr c50
           subst c50
           have H1 : (flywheelref02_Did.j3 kj28 x10_15 (IntKind.u64.wrap (t334 + 1)) ((IntKind.u64.wrap (t334 + 1)) == 0)) = some (r1, r2) := by rw [if_neg (show ¬ (false = true) by decide)] at H; exact H
           clear H
           have H := H1
           clear H1
           have H' := Aside0.mk H
           clear H
           go_wp2
           repeat (go_quiet (fail); try go_wp2)
           go_meet
           case rel => exact ⟨_, (IntKind.u64.wrap (t334 + 1)), (((IntKind.u64.wrap (t334 + 1)) == 0)), (by first | rfl | (simp; done) | (simp [*]; done)), (by first | rfl | (simp; done) | (simp [*]; done)), H', ⟨by have := HJ4.out; have := HJ15.out; have := HJ28.out; first | omega | exact Nat.le_refl _⟩, ⟨by (with_reducible repeat (first | refine blk_drewN ?_ _ | refine blk_drew ?_ | refine blk_alloc ?_ _)); exact BK328.out⟩, ⟨by (with_reducible repeat (first | refine blk_drewN ?_ _ | refine blk_drew ?_ | refine blk_alloc ?_ _)); exact BK337.out⟩, ⟨by repeat (first | (with_reducible first | exact HB.out | apply below_alloc | apply pw_below_drewN | apply below_drew1 | refine below_set ?_ GE328.out | refine below_set ?_ GE337.out) | exact HB.out)⟩⟩
         ·replace c49 := Bool.eq_false_iff.mpr c49
          subst c49
          have H1 : (flywheelref02_Did.j3 kj28 x10_15 t334 t335) = some (r1, r2) := by rw [if_neg (show ¬ (false = true) by decide)] at H; exact H
          clear H
          have H := H1
          clear H1
          have H' := Aside0.mk H
          clear H
          go_wp2
          repeat (go_quiet (fail); try go_wp2)
          go_meet
          case rel => exact ⟨_, (t334), (t335), (by first | rfl | (simp; done) | (simp [*]; done)), (by first | rfl | (simp; done) | (simp [*]; done)), H', ⟨by have := HJ4.out; have := HJ15.out; have := HJ28.out; first | omega | exact Nat.le_refl _⟩, ⟨by (with_reducible repeat (first | refine blk_drewN ?_ _ | refine blk_drew ?_ | refine blk_alloc ?_ _)); exact BK328.out⟩, ⟨by (with_reducible repeat (first | refine blk_drewN ?_ _ | refine blk_drew ?_ | refine blk_alloc ?_ _)); exact BK337.out⟩, ⟨by repeat (first | (with_reducible first | exact HB.out | apply below_alloc | apply pw_below_drewN | apply below_drew1 | refine below_set ?_ GE328.out | refine below_set ?_ GE337.out) | exact HB.out)⟩⟩
        case rest =>
         clear HC46
         try clear c2
         try clear p2
         try clear c3
         try clear c4
         try clear c5
         try clear c7
         try clear c7b0
         try clear c7b1
         try clear c8
         try clear c8b0
         try clear c9
         try clear c20
         try clear c22
         try clear c22b0
         try clear c23
         try clear c23b0
         try clear c24
         try clear c24b0
         try clear c25
         try clear c25b0
         try clear c26
         try clear c26b0
         try clear c27
         try clear c27b0
         try clear c28
         try clear c28b0
         try clear c30
         try clear c30b0
         try clear c30b1
         try clear c31
         try clear c33
         try clear c33b0
         try clear c33b1
         try clear c34
         try clear c36
         try clear c36b0
         try clear c36b1
         try clear c37
         try clear c39
         try clear c41
         try clear c44
         try clear c47
         try clear c49
         try clear c50
         try clear hcz10_0
         try clear hcz10_1
         try clear hcz21_0
         try clear hcz21_1
         try clear hcz21_2
         try clear hcz32_0
         try clear hcz32_1
         try clear hcz32_2
         try clear hcz35_0
         try clear hcz35_1
         try clear hcz35_2
         try clear hcz38_0
         try clear hcz38_1
         try clear hcz38_2
         try clear hcz42_0
         try clear hcz42_1
         try clear hcz42_2
         try clear hcz45_0
         try clear hcz45_1
         try clear hcz45_2
         try clear hcz48_0
         try clear hcz48_1
         try clear hcz48_2
         try clear hfz10_0
         try clear hfz10_1
         try clear hfz21_0
         try clear hfz21_1
         try clear hfz21_2
         try clear hfz32_0
         try clear hfz32_1
         try clear hfz32_2
         try clear hfz35_0
         try clear hfz35_1
         try clear hfz35_2
         try clear hfz38_0
         try clear hfz38_1
         try clear hfz38_2
         try clear hfz42_0
         try clear hfz42_1
         try clear hfz42_2
         try clear hfz45_0
         try clear hfz45_1
         try clear hfz45_2
         try clear hfz48_0
         try clear hfz48_1
         try clear hfz48_2
         try clear p2
         obtain ⟨kq, x12_45, x13_45, rfl, rfl, HA, HJ45, BK328, BK337, HB⟩ := hcut
         cases kq with
         | zero => exact absurd HA.out (by simp [flywheelref02_Did.j3])
         | succ kj45 =>
          have H := HA.out
          clear HA
          simp only [flywheelref02_Did.j3] at H
          by_cases c51 : x10_15 = true
          ·subst c51
           have H1 : (if x13_45 = true then (flywheelref02_Did.j4 kj45 x12_45 true) else (flywheelref02_Did.j4 kj45 x12_45 (decide (x12_45 > 9223372036854775808)))) = some (r1, r2) := by rw [if_pos rfl] at H; exact H
           clear H
           have H := H1
           clear H1
           have HC52 := Aside0.mk H
           clear H
           go_upto_region 19 with (fail)
           repeat (go_quiet (fail); go_upto_region 19 with (fail))
           go_cut [89] (fun v89 wc => ∃ (kq : Nat) (x89_51 : Bool), v89 = .bool x89_51 ∧ Aside0 (flywheelref02_Did.j4 kq x12_45 x89_51 = some (r1, r2)) ∧ Aside0 (kq ≤ kj45) ∧ Aside0 (wc.heap[gb328]? = some (.cells #[.int .i64 0, .bool false] 87 (0, 0))) ∧ Aside0 (wc.heap[gb337]? = some (.cells #[.int .u64 t334, .bool t335, .int .u64 t336] 94 (0, 0))) ∧ Aside0 (Below w.heap.size w wc))
           case first =>
            have H := HC52.out
            clear HC52
            by_cases c53 : x13_45 = true
            ·subst c53
             have H1 : (flywheelref02_Did.j4 kj45 x12_45 true) = some (r1, r2) := by rw [if_pos rfl] at H; exact H
             clear H
             have H := H1
             clear H1
             have H' := Aside0.mk H
             clear H
             go_wp2
             repeat (go_quiet (fail); try go_wp2)
             go_meet
             case rel => exact ⟨_, (true), (by first | rfl | (simp; done) | (simp [*]; done)), H', ⟨by have := HJ4.out; have := HJ15.out; have := HJ28.out; have := HJ45.out; first | omega | exact Nat.le_refl _⟩, ⟨by (with_reducible repeat (first | refine blk_drewN ?_ _ | refine blk_drew ?_ | refine blk_alloc ?_ _)); exact BK328.out⟩, ⟨by (with_reducible repeat (first | refine blk_drewN ?_ _ | refine blk_drew ?_ | refine blk_alloc ?_ _)); exact BK337.out⟩, ⟨by repeat (first | (with_reducible first | exact HB.out | apply below_alloc | apply pw_below_drewN | apply below_drew1 | refine below_set ?_ GE328.out | refine below_set ?_ GE337.out) | exact HB.out)⟩⟩
            ·replace c53 := Bool.eq_false_iff.mpr c53
             subst c53
             have H1 : (flywheelref02_Did.j4 kj45 x12_45 (decide (x12_45 > 9223372036854775808))) = some (r1, r2) := by rw [if_neg (show ¬ (false = true) by decide)] at H; exact H
             clear H
             have H := H1
             clear H1
             have H' := Aside0.mk H
             clear H
             go_wp2
             repeat (go_quiet (fail); try go_wp2)
             go_meet
             case rel => exact ⟨_, (decide (x12_45 > 9223372036854775808)), (by first | rfl | (simp; done) | (simp [*]; done)), H', ⟨by have := HJ4.out; have := HJ15.out; have := HJ28.out; have := HJ45.out; first | omega | exact Nat.le_refl _⟩, ⟨by (with_reducible repeat (first | refine blk_drewN ?_ _ | refine blk_drew ?_ | refine blk_alloc ?_ _)); exact BK328.out⟩, ⟨by (with_reducible repeat (first | refine blk_drewN ?_ _ | refine blk_drew ?_ | refine blk_alloc ?_ _)); exact BK337.out⟩, ⟨by repeat (first | (with_reducible first | exact HB.out | apply below_alloc | apply pw_below_drewN | apply below_drew1 | refine below_set ?_ GE328.out | refine below_set ?_ GE337.out) | exact HB.out)⟩⟩
           case rest =>
            clear HC52
            try clear c2
            try clear p2
            try clear c3
            try clear c4
            try clear c5
            try clear c7
            try clear c7b0
            try clear c7b1
            try clear c8
            try clear c8b0
            try clear c9
            try clear c20
            try clear c22
            try clear c22b0
            try clear c23
            try clear c23b0
            try clear c24
            try clear c24b0
            try clear c25
            try clear c25b0
            try clear c26
            try clear c26b0
            try clear c27
            try clear c27b0
            try clear c28
            try clear c28b0
            try clear c30
            try clear c30b0
            try clear c30b1
            try clear c31
            try clear c33
            try clear c33b0
            try clear c33b1
            try clear c34
            try clear c36
            try clear c36b0
            try clear c36b1
            try clear c37
            try clear c39
            try clear c41
            try clear c44
            try clear c47
            try clear c49
            try clear c50
            try clear c51
            try clear c53
            try clear hcz10_0
            try clear hcz10_1
            try clear hcz21_0
            try clear hcz21_1
            try clear hcz21_2
            try clear hcz32_0
            try clear hcz32_1
            try clear hcz32_2
            try clear hcz35_0
            try clear hcz35_1
            try clear hcz35_2
            try clear hcz38_0
            try clear hcz38_1
            try clear hcz38_2
            try clear hcz42_0
            try clear hcz42_1
            try clear hcz42_2
            try clear hcz45_0
            try clear hcz45_1
            try clear hcz45_2
            try clear hcz48_0
            try clear hcz48_1
            try clear hcz48_2
            try clear hfz10_0
            try clear hfz10_1
            try clear hfz21_0
            try clear hfz21_1
            try clear hfz21_2
            try clear hfz32_0
            try clear hfz32_1
            try clear hfz32_2
            try clear hfz35_0
            try clear hfz35_1
            try clear hfz35_2
            try clear hfz38_0
            try clear hfz38_1
            try clear hfz38_2
            try clear hfz42_0
            try clear hfz42_1
            try clear hfz42_2
            try clear hfz45_0
            try clear hfz45_1
            try clear hfz45_2
            try clear hfz48_0
            try clear hfz48_1
            try clear hfz48_2
            try clear p2
            obtain ⟨kq, x89_51, rfl, HA, HJ51, BK328, BK337, HB⟩ := hcut
            cases kq with
            | zero => exact absurd HA.out (by simp [flywheelref02_Did.j4])
            | succ kj51 =>
             have H := HA.out
             clear HA
             simp only [flywheelref02_Did.j4] at H
             by_cases c54 : x89_51 = true
             ·subst c54
              have H1 : (some ((-9223372036854775808), false)) = some (r1, r2) := by rw [if_pos rfl] at H; exact H
              clear H
              have H := H1
              clear H1
              simp only [Option.some.injEq, Prod.mk.injEq] at H
              obtain ⟨rfl, rfl⟩ := H
              have hnb55 := NB328_337.out
              have hnc55 := NB337_328.out
              have hcz56_0 : wc.cell? ⟨gb328, 0, none⟩ = some (.int .i64 0) := (blk_cell BK328.out 0).trans rfl
              have hcz56_1 : wc.cell? ⟨gb328, 1, none⟩ = some (.bool false) := (blk_cell BK328.out 1).trans rfl
              have hfz56_0 := blk_frozen BK328.out 0
              have hfz56_1 := blk_frozen BK328.out 1
              go_wp2
              repeat (go_quiet (fail); try go_wp2)
              refine bodyPost_ret (results_cell_row rfl _ _ gb328 87 #[.int .i64 (-9223372036854775808), .bool false] (0, 0) _ rfl (by (with_reducible repeat (first | refine blk_drewN ?_ _ | refine blk_drew ?_ | refine blk_alloc ?_ _)); refine blk_put (cs := #[.int .i64 (-9223372036854775808), .bool false]) ?_ 1 _ rfl; (with_reducible repeat (first | refine blk_drewN ?_ _ | refine blk_drew ?_ | refine blk_alloc ?_ _)); refine blk_put (cs := #[.int .i64 0, .bool false]) ?_ 0 _ rfl; (with_reducible repeat (first | refine blk_drewN ?_ _ | refine blk_drew ?_ | refine blk_alloc ?_ _)); exact BK328.out) Try.underlying87 rfl (by kernel_rfl)) rfl ?_
              exact ⟨by first | rfl | (simp [errW_none, errW_some] <;> rfl) | (simp [*, errW_none, errW_some] <;> rfl), by repeat (first | (with_reducible first | exact HB.out | apply below_alloc | apply pw_below_drewN | apply below_drew1 | refine below_set ?_ GE328.out | refine below_set ?_ GE337.out) | exact HB.out)⟩
             ·replace c54 := Bool.eq_false_iff.mpr c54
              subst c54
              have H1 : (some (wrap64 (-(wrap64 (x12_45))), true)) = some (r1, r2) := by rw [if_neg (show ¬ (false = true) by decide)] at H; exact H
              clear H
              have H := H1
              clear H1
              simp only [Option.some.injEq, Prod.mk.injEq] at H
              obtain ⟨rfl, rfl⟩ := H
              have hnb57 := NB328_337.out
              have hnc57 := NB337_328.out
              have hcz58_0 : wc.cell? ⟨gb328, 0, none⟩ = some (.int .i64 0) := (blk_cell BK328.out 0).trans rfl
              have hcz58_1 : wc.cell? ⟨gb328, 1, none⟩ = some (.bool false) := (blk_cell BK328.out 1).trans rfl
              have hfz58_0 := blk_frozen BK328.out 0
              have hfz58_1 := blk_frozen BK328.out 1
              go_wp2
              repeat (go_quiet (fail); try go_wp2)
              refine bodyPost_ret (results_cell_row rfl _ _ gb328 87 #[.int .i64 (wrap64 (-(wrap64 (x12_45)))), .bool true] (0, 0) _ rfl (by (with_reducible repeat (first | refine blk_drewN ?_ _ | refine blk_drew ?_ | refine blk_alloc ?_ _)); refine blk_put (cs := #[.int .i64 (wrap64 (-(wrap64 (x12_45)))), .bool false]) ?_ 1 _ rfl; (with_reducible repeat (first | refine blk_drewN ?_ _ | refine blk_drew ?_ | refine blk_alloc ?_ _)); refine blk_put (cs := #[.int .i64 0, .bool false]) ?_ 0 _ rfl; (with_reducible repeat (first | refine blk_drewN ?_ _ | refine blk_drew ?_ | refine blk_alloc ?_ _)); exact BK328.out) Try.underlying87 rfl (by kernel_rfl)) rfl ?_
              exact ⟨by first | rfl | (simp [errW_none, errW_some] <;> rfl) | (simp [*, errW_none, errW_some] <;> rfl), by repeat (first | (with_reducible first | exact HB.out | apply below_alloc | apply pw_below_drewN | apply below_drew1 | refine below_set ?_ GE328.out | refine below_set ?_ GE337.out) | exact HB.out)⟩
          ·replace c51 := Bool.eq_false_iff.mpr c51
           subst c51
           have H1 : (if x13_45 = true then (some (9223372036854775807, false)) else (if x12_45 > 9223372036854775807 then (some (9223372036854775807, false)) else (some (wrap64 (x12_45), true)))) = some (r1, r2) := by rw [if_neg (show ¬ (false = true) by decide)] at H; exact H
           clear H
           have H := H1
           clear H1
           by_cases c59 : x13_45 = true
           ·subst c59
            have H1 : (some (9223372036854775807, false)) = some (r1, r2) := by rw [if_pos rfl] at H; exact H
            clear H
            have H := H1
            clear H1
            simp only [Option.some.injEq, Prod.mk.injEq] at H
            obtain ⟨rfl, rfl⟩ := H
            have hnb60 := NB328_337.out
            have hnc60 := NB337_328.out
            have hcz61_0 : wc.cell? ⟨gb328, 0, none⟩ = some (.int .i64 0) := (blk_cell BK328.out 0).trans rfl
            have hcz61_1 : wc.cell? ⟨gb328, 1, none⟩ = some (.bool false) := (blk_cell BK328.out 1).trans rfl
            have hfz61_0 := blk_frozen BK328.out 0
            have hfz61_1 := blk_frozen BK328.out 1
            go_wp2
            repeat (go_quiet (fail); try go_wp2)
            refine bodyPost_ret (results_cell_row rfl _ _ gb328 87 #[.int .i64 9223372036854775807, .bool false] (0, 0) _ rfl (by (with_reducible repeat (first | refine blk_drewN ?_ _ | refine blk_drew ?_ | refine blk_alloc ?_ _)); refine blk_put (cs := #[.int .i64 9223372036854775807, .bool false]) ?_ 1 _ rfl; (with_reducible repeat (first | refine blk_drewN ?_ _ | refine blk_drew ?_ | refine blk_alloc ?_ _)); refine blk_put (cs := #[.int .i64 0, .bool false]) ?_ 0 _ rfl; (with_reducible repeat (first | refine blk_drewN ?_ _ | refine blk_drew ?_ | refine blk_alloc ?_ _)); exact BK328.out) Try.underlying87 rfl (by kernel_rfl)) rfl ?_
            exact ⟨by first | rfl | (simp [errW_none, errW_some] <;> rfl) | (simp [*, errW_none, errW_some] <;> rfl), by repeat (first | (with_reducible first | exact HB.out | apply below_alloc | apply pw_below_drewN | apply below_drew1 | refine below_set ?_ GE328.out | refine below_set ?_ GE337.out) | exact HB.out)⟩
           ·replace c59 := Bool.eq_false_iff.mpr c59
            subst c59
            have H1 : (if x12_45 > 9223372036854775807 then (some (9223372036854775807, false)) else (some (wrap64 (x12_45), true))) = some (r1, r2) := by rw [if_neg (show ¬ (false = true) by decide)] at H; exact H
            clear H
            have H := H1
            clear H1
            by_cases c62 : x12_45 > 9223372036854775807
            ·rw [if_pos c62] at H
             have c62b0 : decide (9223372036854775807 < x12_45) = true := decide_eq_true c62
             clear c62
             simp only [Option.some.injEq, Prod.mk.injEq] at H
             obtain ⟨rfl, rfl⟩ := H
             have hnb63 := NB328_337.out
             have hnc63 := NB337_328.out
             have hcz64_0 : wc.cell? ⟨gb328, 0, none⟩ = some (.int .i64 0) := (blk_cell BK328.out 0).trans rfl
             have hcz64_1 : wc.cell? ⟨gb328, 1, none⟩ = some (.bool false) := (blk_cell BK328.out 1).trans rfl
             have hfz64_0 := blk_frozen BK328.out 0
             have hfz64_1 := blk_frozen BK328.out 1
             go_wp2
             repeat (go_quiet (fail); try go_wp2)
             refine bodyPost_ret (results_cell_row rfl _ _ gb328 87 #[.int .i64 9223372036854775807, .bool false] (0, 0) _ rfl (by (with_reducible repeat (first | refine blk_drewN ?_ _ | refine blk_drew ?_ | refine blk_alloc ?_ _)); refine blk_put (cs := #[.int .i64 9223372036854775807, .bool false]) ?_ 1 _ rfl; (with_reducible repeat (first | refine blk_drewN ?_ _ | refine blk_drew ?_ | refine blk_alloc ?_ _)); refine blk_put (cs := #[.int .i64 0, .bool false]) ?_ 0 _ rfl; (with_reducible repeat (first | refine blk_drewN ?_ _ | refine blk_drew ?_ | refine blk_alloc ?_ _)); exact BK328.out) Try.underlying87 rfl (by kernel_rfl)) rfl ?_
             exact ⟨by first | rfl | (simp [errW_none, errW_some] <;> rfl) | (simp [*, errW_none, errW_some] <;> rfl), by repeat (first | (with_reducible first | exact HB.out | apply below_alloc | apply pw_below_drewN | apply below_drew1 | refine below_set ?_ GE328.out | refine below_set ?_ GE337.out) | exact HB.out)⟩
            ·rw [if_neg c62] at H
             have c62b0 : decide (9223372036854775807 < x12_45) = false := decide_eq_false c62
             clear c62
             simp only [Option.some.injEq, Prod.mk.injEq] at H
             obtain ⟨rfl, rfl⟩ := H
             have hnb65 := NB328_337.out
             have hnc65 := NB337_328.out
             have hcz66_0 : wc.cell? ⟨gb328, 0, none⟩ = some (.int .i64 0) := (blk_cell BK328.out 0).trans rfl
             have hcz66_1 : wc.cell? ⟨gb328, 1, none⟩ = some (.bool false) := (blk_cell BK328.out 1).trans rfl
             have hfz66_0 := blk_frozen BK328.out 0
             have hfz66_1 := blk_frozen BK328.out 1
             go_wp2
             repeat (go_quiet (fail); try go_wp2)
             refine bodyPost_ret (results_cell_row rfl _ _ gb328 87 #[.int .i64 (wrap64 (x12_45)), .bool true] (0, 0) _ rfl (by (with_reducible repeat (first | refine blk_drewN ?_ _ | refine blk_drew ?_ | refine blk_alloc ?_ _)); refine blk_put (cs := #[.int .i64 (wrap64 (x12_45)), .bool false]) ?_ 1 _ rfl; (with_reducible repeat (first | refine blk_drewN ?_ _ | refine blk_drew ?_ | refine blk_alloc ?_ _)); refine blk_put (cs := #[.int .i64 0, .bool false]) ?_ 0 _ rfl; (with_reducible repeat (first | refine blk_drewN ?_ _ | refine blk_drew ?_ | refine blk_alloc ?_ _)); exact BK328.out) Try.underlying87 rfl (by kernel_rfl)) rfl ?_
             exact ⟨by first | rfl | (simp [errW_none, errW_some] <;> rfl) | (simp [*, errW_none, errW_some] <;> rfl), by repeat (first | (with_reducible first | exact HB.out | apply below_alloc | apply pw_below_drewN | apply below_drew1 | refine below_set ?_ GE328.out | refine below_set ?_ GE337.out) | exact HB.out)⟩
end Go.Proofs.Ytaelmmbodigheaa.P
end

section
namespace Go.Proofs.Ytaelmmbodigheaa.P
open Go.RowKit Go.Proofs.YtaelmmbodigheaaW.PrintWords Go.Proofs.YtaelmmbodigheaaW.PrintLast Go.Proofs.YtaelmmbodigheaaW.PrintMore
attribute [local go_sem] max2_int min2_int max_two min_two max_three min_three max_four min_four   -- for this text's walks alone
set_option linter.unusedVariables false
set_option linter.unusedSimpArgs false
theorem rsize (a : Int) (h : isI64 a) : flywheelref02_size.f a = some (if a < 0 then -a else a) := by
 unfold isI64 at h
 unfold flywheelref02_size.f wrap64
 simp only [u64_mod]
 split
 ·congr 1; omega
 ·congr 1; omega
theorem times_ok (a b : Int) (ha : 0 ≤ a) (ha1 : a < 18446744073709551616) (hb : 0 ≤ b) (hb1 : b < 18446744073709551616) :
  flywheelref02_times.f a b = some (a * b / 18446744073709551616, a * b % 18446744073709551616) := by
 obtain ⟨x, rfl⟩ := Int.eq_ofNat_of_zero_le ha
 obtain ⟨y, rfl⟩ := Int.eq_ofNat_of_zero_le hb
 have hx : x < 18446744073709551616 := by omega
 have hy : y < 18446744073709551616 := by omega
 have e1 : Go.bits .and .u64 (x : Int) 4294967295 = ((x % 4294967296 : Nat) : Int) := by rw [and_low32 _ ha (by omega)]; omega
 have e2 : Go.bits .and .u64 (y : Int) 4294967295 = ((y % 4294967296 : Nat) : Int) := by rw [and_low32 _ hb (by omega)]; omega
 have d1 : (x : Int) / 4294967296 = ((x / 4294967296 : Nat) : Int) := by omega
 have d2 : (y : Int) / 4294967296 = ((y / 4294967296 : Nat) : Int) := by omega
 have sp : x * y = (x / 4294967296) * (y / 4294967296) * (4294967296 * 4294967296) + ((x / 4294967296) * (y % 4294967296) + (x % 4294967296) * (y / 4294967296)) * 4294967296 + (x % 4294967296) * (y % 4294967296) := by
  rw [← Lib.split_mul, Nat.div_add_mod' x 4294967296, Nat.div_add_mod' y 4294967296]
 unfold flywheelref02_times.f
 rw [e1, e2, d1, d2]
 simp only [← Int.natCast_mul]
 have b2 := Lib.half_mul_le (a := x % 4294967296) (b := y % 4294967296) (by omega) (by omega)
 have b3 := Lib.half_mul_le (a := x / 4294967296) (b := y % 4294967296) (by omega) (by omega)
 have b4 := Lib.half_mul_le (a := x % 4294967296) (b := y / 4294967296) (by omega) (by omega)
 have b5 := Lib.half_mul_le (a := x / 4294967296) (b := y / 4294967296) (by omega) (by omega)
 rw [sp]
 generalize (x % 4294967296) * (y % 4294967296) = w0 at *
 generalize (x / 4294967296) * (y % 4294967296) = p1 at *
 generalize (x % 4294967296) * (y / 4294967296) = p2 at *
 generalize (x / 4294967296) * (y / 4294967296) = p3 at *
 have w1 : IntKind.u64.wrap ((w0 : Nat) : Int) = (w0 : Int) := u64_id _ (by omega) (by omega)
 have w2 : IntKind.u64.wrap ((p1 : Nat) : Int) = (p1 : Int) := u64_id _ (by omega) (by omega)
 have w3 : IntKind.u64.wrap ((p2 : Nat) : Int) = (p2 : Int) := u64_id _ (by omega) (by omega)
 have w4 : IntKind.u64.wrap ((p3 : Nat) : Int) = (p3 : Int) := u64_id _ (by omega) (by omega)
 rw [w1, w2, w3, w4]
 have t : (p1 : Int) + (w0 : Int) / 4294967296 = ((p1 + w0 / 4294967296 : Nat) : Int) := by omega
 rw [t]
 generalize hT : p1 + w0 / 4294967296 = T at *
 have w5 : IntKind.u64.wrap ((T : Nat) : Int) = (T : Int) := u64_id _ (by omega) (by omega)
 have e3 : Go.bits .and .u64 (T : Int) 4294967295 = ((T % 4294967296 : Nat) : Int) := by rw [and_low32 _ (by omega) (by omega)]; omega
 have e4 : Go.bits .and .u64 (w0 : Int) 4294967295 = ((w0 % 4294967296 : Nat) : Int) := by rw [and_low32 _ (by omega) (by omega)]; omega
 rw [w5, e3, e4]
 rw [u64_id ((p2 : Int) + ((T % 4294967296 : Nat) : Int)) (by omega) (by omega), u64_id ((p3 : Int) + (T : Int) / 4294967296) (by omega) (by omega), u64_id _ (by omega) (by omega), u64_mod, u64_mod]
 congr 2
 ·omega
 ·omega
theorem part_loop (c : Int) (hc : 0 < c) (hc1 : c ≤ 9223372036854775808) (n : Nat) (hn : n ≤ 128) : ∀ (hi lo q : Int) (over : Bool) (left T U : Int), 0 ≤ hi → hi < 18446744073709551616 → 0 ≤ lo → lo < 18446744073709551616 → 0 ≤ q → q < 18446744073709551616 → 0 ≤ left → left < c →
  (hi * 18446744073709551616 + lo) * pw n = T * 340282366920938463463374607431768211456 + U → 0 ≤ U → U < 340282366920938463463374607431768211456 →
  flywheelref02_part.l0 (n + 1) c ((n : Int) - 1) hi lo q over left = some ((q * pw n + (left * pw n + T) / c) % 18446744073709551616, over || decide (18446744073709551616 ≤ q * pw n + (left * pw n + T) / c), (left * pw n + T) % c) := by
 induction n with
 | zero =>
  intro hi lo q over left T U h0 h1 l0 l1 q0 q1 f0 f1 e u0 u1
  have p0 : pw 0 = 1 := rfl
  rw [p0, Int.mul_one] at e
  have hT : T = 0 := by omega
  subst hT
  simp only [flywheelref02_part.l0]
  rw [if_neg (by omega), p0, Int.mul_one, Int.mul_one, Int.add_zero, Int.ediv_eq_zero_of_lt f0 f1, Int.emod_eq_of_lt f0 f1, Int.add_zero, Int.emod_eq_of_lt q0 q1, decide_eq_false (by omega), Bool.or_false]
 | succ n ih =>
  intro hi lo q over left T U h0 h1 l0 l1 q0 q1 f0 f1 e u0 u1
  have IH := ih (by omega)
  have pp := pw_pos n
  have w1 : IntKind.u64.wrap (IntKind.u64.wrap (left * 2) + hi / 9223372036854775808) = left * 2 + hi / 9223372036854775808 := by rw [u64_id (left * 2) (by omega) (by omega), u64_id _ (by omega) (by omega)]
  have w2 : wrap64 (((n + 1 : Nat) : Int) - 1 - 1) = (n : Int) - 1 := by unfold wrap64; omega
  rw [pw_succ] at e ⊢
  -- the shifted number
  have sh : IntKind.u64.wrap (IntKind.u64.wrap (hi * 2) + lo / 9223372036854775808) = hi * 2 + lo / 9223372036854775808 - hi / 9223372036854775808 * 18446744073709551616 := by simp only [u64_mod]; omega
  have sl : IntKind.u64.wrap (lo * 2) = lo * 2 - lo / 9223372036854775808 * 18446744073709551616 := by simp only [u64_mod]; omega
  have b01 : hi / 9223372036854775808 = 0 ∨ hi / 9223372036854775808 = 1 := by omega
  have e' : ((hi * 2 + lo / 9223372036854775808 - hi / 9223372036854775808 * 18446744073709551616) * 18446744073709551616 + (lo * 2 - lo / 9223372036854775808 * 18446744073709551616)) * pw n = (T - hi / 9223372036854775808 * pw n) * 340282366920938463463374607431768211456 + U := by
   have : (hi * 2 + lo / 9223372036854775808 - hi / 9223372036854775808 * 18446744073709551616) * 18446744073709551616 + (lo * 2 - lo / 9223372036854775808 * 18446744073709551616) = (hi * 18446744073709551616 + lo) * 2 - hi / 9223372036854775808 * 340282366920938463463374607431768211456 := by omega
   rw [this, Int.sub_mul, Int.mul_assoc, e, Int.sub_mul, Int.mul_right_comm]
   omega
  -- the two ways of a round
  have way : ∀ (ov : Bool), (if left * 2 + hi / 9223372036854775808 ≥ c then
     flywheelref02_part.l0 (n + 1) c ((n : Int) - 1) (hi * 2 + lo / 9223372036854775808 - hi / 9223372036854775808 * 18446744073709551616) (lo * 2 - lo / 9223372036854775808 * 18446744073709551616) (IntKind.u64.wrap (IntKind.u64.wrap (q * 2) + 1)) ov (IntKind.u64.wrap (left * 2 + hi / 9223372036854775808 - c))
    else flywheelref02_part.l0 (n + 1) c ((n : Int) - 1) (hi * 2 + lo / 9223372036854775808 - hi / 9223372036854775808 * 18446744073709551616) (lo * 2 - lo / 9223372036854775808 * 18446744073709551616) (IntKind.u64.wrap (q * 2)) ov (left * 2 + hi / 9223372036854775808)) =
    some ((q * (2 * pw n) + (left * (2 * pw n) + T) / c) % 18446744073709551616, ov || decide (18446744073709551616 ≤ (q * 2 - q / 9223372036854775808 * 18446744073709551616) * pw n + (left * (2 * pw n) + T) / c), (left * (2 * pw n) + T) % c) := by
   intro ov
   have W : left * (2 * pw n) + T = (left * 2 + hi / 9223372036854775808) * pw n + (T - hi / 9223372036854775808 * pw n) := by rw [Int.add_mul, Int.mul_assoc]; omega
   have s2 : IntKind.u64.wrap (q * 2) = q * 2 - q / 9223372036854775808 * 18446744073709551616 := by simp only [u64_mod]; omega
   have s1 : IntKind.u64.wrap (IntKind.u64.wrap (q * 2) + 1) = q * 2 - q / 9223372036854775808 * 18446744073709551616 + 1 := by simp only [u64_mod]; omega
   have Q2 : (q * (2 * pw n)) = (q * 2 - q / 9223372036854775808 * 18446744073709551616) * pw n + 18446744073709551616 * (q / 9223372036854775808 * pw n) := by rw [Int.sub_mul, Int.mul_assoc, Int.mul_right_comm]; omega
   by_cases hge : left * 2 + hi / 9223372036854775808 ≥ c
   ·rw [if_pos hge, s1, u64_id (left * 2 + hi / 9223372036854775808 - c) (by omega) (by omega)]
    rw [IH _ _ _ ov _ _ U (by omega) (by omega) (by omega) (by omega) (by omega) (by omega) (by omega) (by omega) e' u0 u1]
    have X : (left * 2 + hi / 9223372036854775808 - c) * pw n + (T - hi / 9223372036854775808 * pw n) = left * (2 * pw n) + T + (-(pw n)) * c := by rw [W, Int.sub_mul, Int.neg_mul, Int.mul_comm c]; omega
    rw [X, Int.add_mul_ediv_right _ _ (by omega), Int.add_mul_emod_self_right, Q2]
    generalize (q * 2 - q / 9223372036854775808 * 18446744073709551616) = z at *
    have Z : (z + 1) * pw n + ((left * (2 * pw n) + T) / c + -pw n) = z * pw n + (left * (2 * pw n) + T) / c := by rw [Int.add_mul]; omega
    rw [Z]
    congr 2
    omega
   ·rw [if_neg hge, s2, IH _ _ _ ov _ _ U (by omega) (by omega) (by omega) (by omega) (by omega) (by omega) (by omega) (by omega) e' u0 u1, ← W, Q2]
    generalize (q * 2 - q / 9223372036854775808 * 18446744073709551616) = z at *
    congr 2
    omega
  have T0 : 0 ≤ (left * (2 * pw n) + T) / c := by
   apply Int.ediv_nonneg _ (by omega)
   have a1 := Int.mul_nonneg f0 (show 0 ≤ 2 * pw n by omega)
   have a2 := Int.mul_nonneg (show 0 ≤ hi * 18446744073709551616 + lo by omega) (show 0 ≤ 2 * pw n by omega)
   omega
  have final : ∀ ov : Bool, ov = (over || ((q / 9223372036854775808) == 1)) → (ov || decide (18446744073709551616 ≤ (q * 2 - q / 9223372036854775808 * 18446744073709551616) * pw n + (left * (2 * pw n) + T) / c)) = (over || decide (18446744073709551616 ≤ q * (2 * pw n) + (left * (2 * pw n) + T) / c)) := by
   intro ov hov
   subst hov
   cases over with
   | true => rfl
   | false =>
    simp only [Bool.false_or]
    have q01 : q / 9223372036854775808 = 0 ∨ q / 9223372036854775808 = 1 := by omega
    rcases q01 with hq | hq
    ·rw [hq, Int.zero_mul, Int.sub_zero, Int.mul_assoc]; simp
    ·have a3 : 9223372036854775808 * (2 * pw n) ≤ q * (2 * pw n) := Int.mul_le_mul_of_nonneg_right (by omega) (by omega)
     rw [hq, decide_eq_true (show 18446744073709551616 ≤ q * (2 * pw n) + (left * (2 * pw n) + T) / c by omega)]
     rfl
  rw [flywheelref02_part.l0]
  rw [if_pos (by omega)]
  simp only [w1, w2, sh, sl]
  cases over with
  | true =>
   rw [if_pos rfl, way true, final true (by simp)]
  | false =>
   rw [if_neg (by simp), way _, final _ (by simp)]
theorem part_ok (N c : Int) (hN : 0 ≤ N) (hN1 : N < 340282366920938463463374607431768211456) (hc : 0 < c) (hc1 : c ≤ 9223372036854775808) :
  flywheelref02_part.f 129 (N / 18446744073709551616) (N % 18446744073709551616) c = some (N / c % 18446744073709551616, decide (18446744073709551616 ≤ N / c), N % c) := by
 unfold flywheelref02_part.f
 have p : pw 128 = 340282366920938463463374607431768211456 := rfl
 have h := part_loop c hc hc1 128 (Nat.le_refl _) (N / 18446744073709551616) (N % 18446744073709551616) 0 false 0 N 0 (by omega) (by omega) (by omega) (by omega) (by omega) (by omega) (by omega) hc (by rw [p]; omega) (by omega) (by omega)
 simp only [Int.zero_mul, Int.zero_add, Bool.false_or] at h
 exact h
theorem did_tail (below ov : Bool) (q V : Int) (k : Nat) (h0 : 0 ≤ V) (hq : q = V % 18446744073709551616) (hov : ov = decide (18446744073709551616 ≤ V)) :
  flywheelref02_Did.j3 (k + 2) below q ov = some (hold64 (if below = true then -V else V)) := by
 subst hq; subst hov
 by_cases hb : 18446744073709551616 ≤ V
 ·rw [decide_eq_true hb]
  cases below with
  | true =>
   simp only [flywheelref02_Did.j3, flywheelref02_Did.j4, if_true]
   unfold hold64
   rw [if_pos (by omega)]
  | false =>
   simp only [flywheelref02_Did.j3, if_true, Bool.false_eq_true, if_false]
   unfold hold64
   rw [if_neg (by omega), if_pos (by omega)]
 ·rw [decide_eq_false hb, Int.emod_eq_of_lt h0 (by omega)]
  cases below with
  | true =>
   simp only [flywheelref02_Did.j3, flywheelref02_Did.j4, if_true, Bool.false_eq_true, if_false]
   unfold hold64
   by_cases hl : V > 9223372036854775808
   ·rw [decide_eq_true hl, if_pos rfl, if_pos (by omega)]
   ·rw [decide_eq_false hl, if_neg (by simp), if_neg (by omega), if_neg (by omega)]
    congr 2
    unfold wrap64; omega
  | false =>
   simp only [flywheelref02_Did.j3, Bool.false_eq_true, if_false]
   unfold hold64
   by_cases hl : V > 9223372036854775807
   ·rw [if_pos hl, if_neg (by omega), if_pos hl]
   ·rw [if_neg hl, if_neg (by omega), if_neg hl]
    congr 2
    unfold wrap64; omega
theorem did_j2 (below up : Bool) (Q L : Int) (k : Nat) (h0 : 0 ≤ Q) :
  flywheelref02_Did.j2 (k + 3) below up (Q % 18446744073709551616) (decide (18446744073709551616 ≤ Q)) L = some (hold64 (if below = true then -(Q + if up = true then 1 else 0) else Q + if up = true then 1 else 0)) := by
 cases up with
 | false =>
  simp only [flywheelref02_Did.j2, Bool.false_eq_true, if_false, Int.add_zero]
  exact did_tail below _ _ Q k h0 rfl rfl
 | true =>
  simp only [flywheelref02_Did.j2, if_true]
  have e : IntKind.u64.wrap (Q % 18446744073709551616 + 1) = (Q + 1) % 18446744073709551616 := by rw [u64_mod]; omega
  by_cases hb : 18446744073709551616 ≤ Q
  ·rw [decide_eq_true hb, if_pos rfl, e]
   exact did_tail below _ _ (Q + 1) k (by omega) rfl (decide_eq_true (by omega)).symm
  ·rw [decide_eq_false hb, if_neg (by simp), e]
   refine did_tail below _ _ (Q + 1) k (by omega) rfl ?_
   by_cases hz : Q = 18446744073709551615
   ·subst hz; rfl
   ·rw [decide_eq_false (by omega), beq_eq_false_iff_ne]; omega
theorem did_j1 (x2 how N C : Int) (below : Bool) (k : Nat) (hx : isI64 x2) (hC : C = if x2 < 0 then -x2 else x2) (hC0 : 0 < C) (hN : 0 ≤ N) (hh : how = 1 ∨ how = 2 ∨ how = 3) :
  flywheelref02_Did.j1 (k + 4) x2 how below (N / C % 18446744073709551616) (decide (18446744073709551616 ≤ N / C)) (N % C) = some (hold64 (rnd (if below = true then -N else N) C how)) := by
 have rs := rsize x2 hx
 rw [← hC] at rs
 have hCu : C ≤ 9223372036854775808 := by unfold isI64 at hx; rw [hC]; split <;> omega
 have r0 := Int.emod_nonneg N (show C ≠ 0 by omega)
 have r1 := Int.emod_lt_of_pos N hC0
 have q0 : 0 ≤ N / C := Int.ediv_nonneg hN (by omega)
 simp only [flywheelref02_Did.j1, rs, Option.bind_some]
 rw [u64_id (C - N % C) (by omega) (by omega)]
 have J := fun up => did_j2 below up (N / C) (N % C) k q0
 simp only [J]
 have c1 : ¬ C < 0 := by omega
 have c2 : ¬ C ≤ 0 := by omega
 cases below with
 | true =>
  simp only [if_true]
  rw [rnd_neg N C how hC0]
  have e1 : decide (N % C > C - N % C) = decide (C < 2 * (N % C)) := by rw [Bool.eq_iff_iff]; simp only [decide_eq_true_eq]; omega
  simp only [e1]
  by_cases hz : N % C = 0
  ·rcases hh with rfl | rfl | rfl <;> simp [hz, c1]
  ·have hp : 0 < N % C := by omega
   by_cases h : C < 2 * (N % C) <;> rcases hh with rfl | rfl | rfl <;> simp [hz, hp, h]
 | false =>
  simp only [Bool.false_eq_true, if_false]
  rw [rnd_pos N C how hC0]
  have e1 : decide (N % C ≥ C - N % C) = decide (C ≤ 2 * (N % C)) := by rw [Bool.eq_iff_iff]; simp only [decide_eq_true_eq]; omega
  simp only [e1]
  by_cases hz : N % C = 0
  ·rcases hh with rfl | rfl | rfl <;> simp [hz, c2]
  ·have hp : 0 < N % C := by omega
   by_cases h : C ≤ 2 * (N % C) <;> rcases hh with rfl | rfl | rfl <;> simp [hz, hp, h]
theorem did_ok (a b c how : Int) (ha : isI64 a) (hb : isI64 b) (hc : isI64 c) : flywheelref02_Did.f 130 a b c how = some (mdq a b c how) := by
 unfold flywheelref02_Did.f mdq
 by_cases hz : c = 0
 ·rw [if_pos hz, if_pos (Or.inl hz)]; rfl
 rw [if_neg hz]
 by_cases hl : how < 1
 ·rw [if_pos hl, if_pos (Or.inr (Or.inl hl))]; rfl
 rw [if_neg hl]
 by_cases hg : how > 3
 ·rw [decide_eq_true hg, if_pos (Or.inr (Or.inr hg))]; rfl
 rw [decide_eq_false hg, if_neg (by omega)]
 rw [flywheelref02_Did.j0, if_neg (by simp), rsize a ha, rsize b hb, rsize c hc]
 simp only [Option.bind_some]
 have ha' := ha; have hb' := hb; have hc' := hc
 unfold isI64 at ha' hb' hc'
 rw [times_ok _ _ (by split <;> omega) (by split <;> omega) (by split <;> omega) (by split <;> omega)]
 simp only [Option.bind_some]
 have hN := abs_mul_le (a := if a < 0 then -a else a) (b := if b < 0 then -b else b) (by split <;> omega) (by split <;> omega) (by split <;> omega) (by split <;> omega)
 have hN0 := Int.mul_nonneg (a := if a < 0 then -a else a) (b := if b < 0 then -b else b) (by split <;> omega) (by split <;> omega)
 rw [part_ok _ _ hN0 (by omega) (by split <;> omega) (by split <;> omega)]
 simp only [Option.bind_some]
 have J := fun bl => did_j1 c how ((if a < 0 then -a else a) * (if b < 0 then -b else b)) (if c < 0 then -c else c) bl 125 hc rfl (by split <;> omega) hN0 (by omega)
 simp only [J]
 by_cases h1 : a < 0 <;> by_cases h2 : b < 0 <;> by_cases h3 : c < 0 <;> simp [h1, h2, h3, Int.neg_mul, Int.mul_neg]
def flywheelref02_Did_s.f (a0 : Int) (a1 : Int) (a2 : Int) (a3 : Int) : Option (Int × Bool) := if isI64 a0 ∧ isI64 a1 ∧ isI64 a2 then some (mdq a0 a1 a2 a3) else none
theorem flywheelref02_Did_s.calls (a0 : Int) (a1 : Int) (a2 : Int) (a3 : Int) (r1 : Int) (r2 : Bool) (w : World) (h : flywheelref02_Did_s.f a0 a1 a2 a3 = some (r1, r2)) :
  Calls Try.prog 56 #[.int .i64 a0, .int .i64 a1, .int .i64 a2, .int .i64 a3] w fun e w' => e = .returned (.agg #[.int .i64 r1, .bool r2]) ∧ Below w.heap.size w w' := by
 unfold flywheelref02_Did_s.f at h
 split at h
 ·rename_i hb
  exact flywheelref02_Did.calls 130 a0 a1 a2 a3 r1 r2 w ((did_ok a0 a1 a2 a3 hb.1 hb.2.1 hb.2.2).trans h)
 ·cases h
def flywheelref02_Do.f (a0 : Int) (a1 : Int) (a2 : Int) (a3 : Int) : Option (Int) := (flywheelref02_Did_s.f a0 a1 a2 a3).bind fun bt340 => (some bt340.1)
set_option maxHeartbeats 8000000 in
set_option maxRecDepth 100000 in
theorem flywheelref02_Do.calls (a0 : Int) (a1 : Int) (a2 : Int) (a3 : Int) (r : Int) (w : World) (h : flywheelref02_Do.f a0 a1 a2 a3 = some r) :
  Calls Try.prog 49 #[.int .i64 a0, .int .i64 a1, .int .i64 a2, .int .i64 a3] w fun e w' => e = .returned (.int .i64 r) ∧ Below w.heap.size w w' := by
 have hfd87_0 : ∀ (v0 v1 : Value) (W : World), (Instr.field 87 (.agg #[v0, v1]) 0).run Try.prog W = .ok v0 W := fun _ _ _ => by kernel_rfl
 have HB := Aside0.mk (Below.refl w.heap.size w)
 have H : ((flywheelref02_Did_s.f a0 a1 a2 a3).bind fun bt340 => (some bt340.1)) = some r := h
 clear h
 replace H := Option.bind_eq_some_iff.mp H
 obtain ⟨⟨t340, t341⟩, A50, H⟩ := H
 replace H : (some t340) = some r := H
 have A5 := Aside0.mk A50
 clear A50
 obtain rfl := Option.some.inj H
 go_enter Try.func49, Try.ntmps49
 go_wp2_with (first | ((with_reducible refine gate_callee (f := 56) rfl ?_); refine goesL_ (some 13) rfl rfl Try.func56 (by kernel_rfl) rfl #[.int .i64 a0, .int .i64 a1, .int .i64 a2, .int .i64 a3] rfl (by (try simp only [List.map_toArray, List.map_cons, List.map_nil]); first | done | rfl | (simp only [List.length_drop, List.length_take]; rfl)) ?_; (with_reducible refine (flywheelref02_Did_s.calls a0 a1 a2 a3 t340 t341 _ A5.out).mono ?_); rintro e w6 ⟨rfl, hb⟩; refine ⟨_, rfl, ?_⟩; have n0_ := Aside0.mk (below_step (by repeat (first | (with_reducible first | exact HB.out | apply below_alloc | apply pw_below_drewN | apply below_drew1) | exact HB.out)) hb); clear HB; have HB := n0_; clear n0_; (try clear hb); (try clear hb2); (try clear hk); (try clear hi)))
 go_ret
 exact ⟨by first | rfl | (simp [errW_none, errW_some] <;> rfl) | (simp [*, errW_none, errW_some] <;> rfl), by repeat (first | (with_reducible first | exact HB.out | apply below_alloc | apply pw_below_drewN | apply below_drew1) | exact HB.out)⟩
mutual
def flywheelref19_Aimd_lift.j0 : Nat → Int → Int → Int → Bool → Int → Int → Int → Int → Bool → Int → Int → Bool → Int → Option (Int × Int × Int × Int × Bool × Int × Int × Bool × Int)
 | 0, _, _, _, _, _, _, _, _, _, _, _, _, _ => none
 | k + 1, x1, x2, x3, x28, x1000, x1001, x1002, x1003, x1004, x1005, x1006, x1007, x1008 => if x28 = true then (flywheelref19_Aimd_lift.j1 k x1 x2 x3 x1000 x1001 x1002 x1003 false x1005 x1006 x1007 x1008) else (flywheelref19_Aimd_lift.j1 k x1 x2 x3 x1000 x1001 x1002 x1003 x1004 x1005 x1006 x1007 x1008)
def flywheelref19_Aimd_lift.j1 : Nat → Int → Int → Int → Int → Int → Int → Int → Bool → Int → Int → Bool → Int → Option (Int × Int × Int × Int × Bool × Int × Int × Bool × Int)
 | 0, _, _, _, _, _, _, _, _, _, _, _, _ => none
 | k + 1, x1, x2, x3, x1000, x1001, x1002, x1003, x1004, x1005, x1006, x1007, x1008 => (flywheelref02_Do.f x1000 (wrap64 (8 * x3)) 100000000 3).bind fun t342 => (if x1004 = true then ((flywheelref02_Do.f 9600 x3 (wrap64 (x2 + 100000)) 3).bind fun t343 => (if x1 > 0 then (if (wrap64 ((wrap64 (Int.tdiv (wrap64 (3 * x1)) 2)) + 10000)) < (wrap64 (x1000 + (mx t343 1000))) then (some (mx (wrap64 ((wrap64 (Int.tdiv (wrap64 (3 * x1)) 2)) + 10000)) x1000, x1001, x1002, x1003, x1004, x1005, x1006, x1007, x1008)) else (some (wrap64 (x1000 + (mx t343 1000)), x1001, x1002, x1003, x1004, x1005, x1006, x1007, x1008))) else (some (wrap64 (x1000 + (mx t343 1000)), x1001, x1002, x1003, x1004, x1005, x1006, x1007, x1008)))) else (if x1 > 0 then (if (wrap64 ((wrap64 (Int.tdiv (wrap64 (3 * x1)) 2)) + 10000)) < (wrap64 (x1000 + (mx t342 1000))) then (some (mx (wrap64 ((wrap64 (Int.tdiv (wrap64 (3 * x1)) 2)) + 10000)) x1000, x1001, x1002, x1003, x1004, x1005, x1006, x1007, x1008)) else (some (wrap64 (x1000 + (mx t342 1000)), x1001, x1002, x1003, x1004, x1005, x1006, x1007, x1008))) else (some (wrap64 (x1000 + (mx t342 1000)), x1001, x1002, x1003, x1004, x1005, x1006, x1007, x1008))))
end
def flywheelref19_Aimd_lift.f (k : Nat) (s0_0 : Int) (s0_1 : Int) (s0_2 : Int) (s0_3 : Int) (s0_4 : Bool) (s0_5 : Int) (s0_6 : Int) (s0_7 : Bool) (s0_8 : Int) (a1 : Int) (a2 : Int) (a3 : Int) : Option (Int × Int × Int × Int × Bool × Int × Int × Bool × Int) := if s0_4 = true then (flywheelref19_Aimd_lift.j0 k a1 a2 a3 (decide (a1 > (wrap64 (s0_5 + (wrap64 (3 * s0_6)))))) s0_0 s0_1 s0_2 s0_3 s0_4 s0_5 s0_6 s0_7 s0_8) else (flywheelref19_Aimd_lift.j0 k a1 a2 a3 false s0_0 s0_1 s0_2 s0_3 s0_4 s0_5 s0_6 s0_7 s0_8)
set_option maxHeartbeats 8000000 in
set_option maxRecDepth 100000 in
theorem flywheelref19_Aimd_lift.calls (k : Nat) (g : Nat) (s0_0 : Int) (s0_1 : Int) (s0_2 : Int) (s0_3 : Int) (s0_4 : Bool) (s0_5 : Int) (s0_6 : Int) (s0_7 : Bool) (s0_8 : Int) (a1 : Int) (a2 : Int) (a3 : Int) (r1 : Int) (r2 : Int) (r3 : Int) (r4 : Int) (r5 : Bool) (r6 : Int) (r7 : Int) (r8 : Bool) (r9 : Int) (w0 w : World) (hI : IsS71 w0 w g s0_0 s0_1 s0_2 s0_3 s0_4 s0_5 s0_6 s0_7 s0_8) (hB : Below w0.heap.size w0 w) (h : flywheelref19_Aimd_lift.f k s0_0 s0_1 s0_2 s0_3 s0_4 s0_5 s0_6 s0_7 s0_8 a1 a2 a3 = some (r1, r2, r3, r4, r5, r6, r7, r8, r9)) :
  Calls Try.prog 41 #[.pointer (some ⟨g, 0, none⟩), .int .i64 a1, .int .i64 a2, .int .i64 a3] w fun e w' => e = .returned (.tuple #[]) ∧ IsS71 w0 w' g r1 r2 r3 r4 r5 r6 r7 r8 r9 ∧ Below w0.heap.size w0 w' ∧ KeepBut w w' g none := by
 have HI0 := Aside0.mk hI
 have HK := Aside0.mk (KeepBut.refl w g none)
 have HL := Aside0.mk hB.size
 clear hI
 have HW0 := Aside0.mk hB.size
 have HB := Aside0.mk hB
 clear hB
 have H : (if s0_4 = true then (flywheelref19_Aimd_lift.j0 k a1 a2 a3 (decide (a1 > (wrap64 (s0_5 + (wrap64 (3 * s0_6)))))) s0_0 s0_1 s0_2 s0_3 s0_4 s0_5 s0_6 s0_7 s0_8) else (flywheelref19_Aimd_lift.j0 k a1 a2 a3 false s0_0 s0_1 s0_2 s0_3 s0_4 s0_5 s0_6 s0_7 s0_8)) = some (r1, r2, r3, r4, r5, r6, r7, r8, r9) := h
 clear h
 have HC5 := Aside0.mk H
 clear H
 go_enter Try.func41, Try.ntmps41
 go_upto_region 0 with (fail)
 repeat (go_quiet (fail); go_upto_region 0 with (fail))
 go_cut [28] (fun v28 wc => ∃ (kq : Nat) (x28_4 : Bool), v28 = .bool x28_4 ∧ Aside0 (flywheelref19_Aimd_lift.j0 kq a1 a2 a3 x28_4 s0_0 s0_1 s0_2 s0_3 s0_4 s0_5 s0_6 s0_7 s0_8 = some (r1, r2, r3, r4, r5, r6, r7, r8, r9)) ∧ Aside0 (kq ≤ k) ∧ Aside0 (IsS71 w0 wc g s0_0 s0_1 s0_2 s0_3 s0_4 s0_5 s0_6 s0_7 s0_8) ∧ Aside0 (KeepBut w wc g none) ∧ Aside0 (Below w0.heap.size w0 wc))
 case first =>
  have H := HC5.out
  clear HC5
  by_cases c6 : s0_4 = true
  ·subst c6
   have H1 : (flywheelref19_Aimd_lift.j0 k a1 a2 a3 (decide (a1 > (wrap64 (s0_5 + (wrap64 (3 * s0_6)))))) s0_0 s0_1 s0_2 s0_3 true s0_5 s0_6 s0_7 s0_8) = some (r1, r2, r3, r4, r5, r6, r7, r8, r9) := by rw [if_pos rfl] at H; exact H
   clear H
   have H := H1
   clear H1
   have H' := Aside0.mk H
   clear H
   obtain ⟨HGz7, hgz7⟩ := HI0.out
   have hcz7_0 := cellS71_0 HGz7
   have hcz7_1 := cellS71_1 HGz7
   have hcz7_2 := cellS71_2 HGz7
   have hcz7_3 := cellS71_3 HGz7
   have hcz7_4 := cellS71_4 HGz7
   have hcz7_5 := cellS71_5 HGz7
   have hcz7_6 := cellS71_6 HGz7
   have hcz7_7 := cellS71_7 HGz7
   have hcz7_8 := cellS71_8 HGz7
   have hfz7_0 := blk_frozen HGz7 0
   have hfz7_1 := blk_frozen HGz7 1
   have hfz7_2 := blk_frozen HGz7 2
   have hfz7_3 := blk_frozen HGz7 3
   have hfz7_4 := blk_frozen HGz7 4
   have hfz7_5 := blk_frozen HGz7 5
   have hfz7_6 := blk_frozen HGz7 6
   have hfz7_7 := blk_frozen HGz7 7
   have hfz7_8 := blk_frozen HGz7 8
   clear HGz7 hgz7
   go_wp2
   repeat (go_quiet (fail); try go_wp2)
   go_meet
   case rel => exact ⟨_, (decide (a1 > (wrap64 (s0_5 + (wrap64 (3 * s0_6)))))), (by first | rfl | (simp; done) | (simp [*]; done)), H', ⟨by first | omega | exact Nat.le_refl _⟩, ⟨by repeat (first | (with_reducible first | exact HI0.out | apply IsS71.alloc | apply IsS71.drewN | apply IsS71.drew | apply IsS71.set_0 | apply IsS71.set_1 | apply IsS71.set_2 | apply IsS71.set_3 | apply IsS71.set_4 | apply IsS71.set_5 | apply IsS71.set_6 | apply IsS71.set_7 | apply IsS71.set_8) | exact HI0.out)⟩, ⟨by repeat (first | (with_reducible first | exact HK.out | apply KeepBut.set_ | apply keep_drewN | apply keep_drew | apply keep_alloc) | exact HK.out)⟩, ⟨by repeat (first | (with_reducible first | exact HB.out | apply below_alloc | apply pw_below_drewN | apply below_drew1 | refine below_set ?_ (IsS71.ge HI0.out)) | exact HB.out)⟩⟩
  ·replace c6 := Bool.eq_false_iff.mpr c6
   subst c6
   have H1 : (flywheelref19_Aimd_lift.j0 k a1 a2 a3 false s0_0 s0_1 s0_2 s0_3 false s0_5 s0_6 s0_7 s0_8) = some (r1, r2, r3, r4, r5, r6, r7, r8, r9) := by rw [if_neg (show ¬ (false = true) by decide)] at H; exact H
   clear H
   have H := H1
   clear H1
   have H' := Aside0.mk H
   clear H
   obtain ⟨HGz8, hgz8⟩ := HI0.out
   have hcz8_0 := cellS71_0 HGz8
   have hcz8_1 := cellS71_1 HGz8
   have hcz8_2 := cellS71_2 HGz8
   have hcz8_3 := cellS71_3 HGz8
   have hcz8_4 := cellS71_4 HGz8
   have hcz8_5 := cellS71_5 HGz8
   have hcz8_6 := cellS71_6 HGz8
   have hcz8_7 := cellS71_7 HGz8
   have hcz8_8 := cellS71_8 HGz8
   have hfz8_0 := blk_frozen HGz8 0
   have hfz8_1 := blk_frozen HGz8 1
   have hfz8_2 := blk_frozen HGz8 2
   have hfz8_3 := blk_frozen HGz8 3
   have hfz8_4 := blk_frozen HGz8 4
   have hfz8_5 := blk_frozen HGz8 5
   have hfz8_6 := blk_frozen HGz8 6
   have hfz8_7 := blk_frozen HGz8 7
   have hfz8_8 := blk_frozen HGz8 8
   clear HGz8 hgz8
   go_wp2
   repeat (go_quiet (fail); try go_wp2)
   go_meet
   case rel => exact ⟨_, (false), (by first | rfl | (simp; done) | (simp [*]; done)), H', ⟨by first | omega | exact Nat.le_refl _⟩, ⟨by repeat (first | (with_reducible first | exact HI0.out | apply IsS71.alloc | apply IsS71.drewN | apply IsS71.drew | apply IsS71.set_0 | apply IsS71.set_1 | apply IsS71.set_2 | apply IsS71.set_3 | apply IsS71.set_4 | apply IsS71.set_5 | apply IsS71.set_6 | apply IsS71.set_7 | apply IsS71.set_8) | exact HI0.out)⟩, ⟨by repeat (first | (with_reducible first | exact HK.out | apply KeepBut.set_ | apply keep_drewN | apply keep_drew | apply keep_alloc) | exact HK.out)⟩, ⟨by repeat (first | (with_reducible first | exact HB.out | apply below_alloc | apply pw_below_drewN | apply below_drew1 | refine below_set ?_ (IsS71.ge HI0.out)) | exact HB.out)⟩⟩
 case rest =>
  clear HC5
  try clear p2
  try clear c4
  try clear c6
  try clear p6
  try clear hcz7_0
  try clear hcz7_1
  try clear hcz7_2
  try clear hcz7_3
  try clear hcz7_4
  try clear hcz7_5
  try clear hcz7_6
  try clear hcz7_7
  try clear hcz7_8
  try clear hcz8_0
  try clear hcz8_1
  try clear hcz8_2
  try clear hcz8_3
  try clear hcz8_4
  try clear hcz8_5
  try clear hcz8_6
  try clear hcz8_7
  try clear hcz8_8
  try clear hfz7_0
  try clear hfz7_1
  try clear hfz7_2
  try clear hfz7_3
  try clear hfz7_4
  try clear hfz7_5
  try clear hfz7_6
  try clear hfz7_7
  try clear hfz7_8
  try clear hfz8_0
  try clear hfz8_1
  try clear hfz8_2
  try clear hfz8_3
  try clear hfz8_4
  try clear hfz8_5
  try clear hfz8_6
  try clear hfz8_7
  try clear hfz8_8
  obtain ⟨kq, x28_4, rfl, HA, HJ4, HI0, HK, HB⟩ := hcut
  cases kq with
  | zero => exact absurd HA.out (by simp [flywheelref19_Aimd_lift.j0])
  | succ kj4 =>
   have H := HA.out
   clear HA
   simp only [flywheelref19_Aimd_lift.j0] at H
   have HC9 := Aside0.mk H
   clear H
   go_upto_if 28 with (fail)
   repeat (go_quiet (fail); go_upto_if 28 with (fail))
   go_cut [] (fun wc => ∃ (kq : Nat) (x1004_8 : Bool), Aside0 (flywheelref19_Aimd_lift.j1 kq a1 a2 a3 s0_0 s0_1 s0_2 s0_3 x1004_8 s0_5 s0_6 s0_7 s0_8 = some (r1, r2, r3, r4, r5, r6, r7, r8, r9)) ∧ Aside0 (kq ≤ kj4) ∧ Aside0 (IsS71 w0 wc g s0_0 s0_1 s0_2 s0_3 x1004_8 s0_5 s0_6 s0_7 s0_8) ∧ Aside0 (KeepBut w wc g none) ∧ Aside0 (Below w0.heap.size w0 wc))
   case first =>
    have H := HC9.out
    clear HC9
    by_cases c10 : x28_4 = true
    ·subst c10
     have H1 : (flywheelref19_Aimd_lift.j1 kj4 a1 a2 a3 s0_0 s0_1 s0_2 s0_3 false s0_5 s0_6 s0_7 s0_8) = some (r1, r2, r3, r4, r5, r6, r7, r8, r9) := by rw [if_pos rfl] at H; exact H
     clear H
     have H := H1
     clear H1
     have H' := Aside0.mk H
     clear H
     obtain ⟨HGz11, hgz11⟩ := HI0.out
     have hcz11_0 := cellS71_0 HGz11
     have hcz11_1 := cellS71_1 HGz11
     have hcz11_2 := cellS71_2 HGz11
     have hcz11_3 := cellS71_3 HGz11
     have hcz11_4 := cellS71_4 HGz11
     have hcz11_5 := cellS71_5 HGz11
     have hcz11_6 := cellS71_6 HGz11
     have hcz11_7 := cellS71_7 HGz11
     have hcz11_8 := cellS71_8 HGz11
     have hfz11_0 := blk_frozen HGz11 0
     have hfz11_1 := blk_frozen HGz11 1
     have hfz11_2 := blk_frozen HGz11 2
     have hfz11_3 := blk_frozen HGz11 3
     have hfz11_4 := blk_frozen HGz11 4
     have hfz11_5 := blk_frozen HGz11 5
     have hfz11_6 := blk_frozen HGz11 6
     have hfz11_7 := blk_frozen HGz11 7
     have hfz11_8 := blk_frozen HGz11 8
     clear HGz11 hgz11
     go_wp2
     repeat (go_quiet (fail); try go_wp2)
     go_meet
     case rel => exact ⟨_, (false), H', ⟨by have := HJ4.out; first | omega | exact Nat.le_refl _⟩, ⟨by repeat (first | (with_reducible first | exact HI0.out | apply IsS71.alloc | apply IsS71.drewN | apply IsS71.drew | apply IsS71.set_0 | apply IsS71.set_1 | apply IsS71.set_2 | apply IsS71.set_3 | apply IsS71.set_4 | apply IsS71.set_5 | apply IsS71.set_6 | apply IsS71.set_7 | apply IsS71.set_8) | exact HI0.out)⟩, ⟨by repeat (first | (with_reducible first | exact HK.out | apply KeepBut.set_ | apply keep_drewN | apply keep_drew | apply keep_alloc) | exact HK.out)⟩, ⟨by repeat (first | (with_reducible first | exact HB.out | apply below_alloc | apply pw_below_drewN | apply below_drew1 | refine below_set ?_ (IsS71.ge HI0.out)) | exact HB.out)⟩⟩
    ·replace c10 := Bool.eq_false_iff.mpr c10
     subst c10
     have H1 : (flywheelref19_Aimd_lift.j1 kj4 a1 a2 a3 s0_0 s0_1 s0_2 s0_3 s0_4 s0_5 s0_6 s0_7 s0_8) = some (r1, r2, r3, r4, r5, r6, r7, r8, r9) := by rw [if_neg (show ¬ (false = true) by decide)] at H; exact H
     clear H
     have H := H1
     clear H1
     have H' := Aside0.mk H
     clear H
     go_wp2
     repeat (go_quiet (fail); try go_wp2)
     go_meet
     case rel => exact ⟨_, (s0_4), H', ⟨by have := HJ4.out; first | omega | exact Nat.le_refl _⟩, ⟨by repeat (first | (with_reducible first | exact HI0.out | apply IsS71.alloc | apply IsS71.drewN | apply IsS71.drew | apply IsS71.set_0 | apply IsS71.set_1 | apply IsS71.set_2 | apply IsS71.set_3 | apply IsS71.set_4 | apply IsS71.set_5 | apply IsS71.set_6 | apply IsS71.set_7 | apply IsS71.set_8) | exact HI0.out)⟩, ⟨by repeat (first | (with_reducible first | exact HK.out | apply KeepBut.set_ | apply keep_drewN | apply keep_drew | apply keep_alloc) | exact HK.out)⟩, ⟨by repeat (first | (with_reducible first | exact HB.out | apply below_alloc | apply pw_below_drewN | apply below_drew1 | refine below_set ?_ (IsS71.ge HI0.out)) | exact HB.out)⟩⟩
   case rest =>
    clear HC9
    try clear c1
    try clear p2
    try clear c4
    try clear c6
    try clear p6
    try clear c10
    try clear hcz11_0
    try clear hcz11_1
    try clear hcz11_2
    try clear hcz11_3
    try clear hcz11_4
    try clear hcz11_5
    try clear hcz11_6
    try clear hcz11_7
    try clear hcz11_8
    try clear hcz7_0
    try clear hcz7_1
    try clear hcz7_2
    try clear hcz7_3
    try clear hcz7_4
    try clear hcz7_5
    try clear hcz7_6
    try clear hcz7_7
    try clear hcz7_8
    try clear hcz8_0
    try clear hcz8_1
    try clear hcz8_2
    try clear hcz8_3
    try clear hcz8_4
    try clear hcz8_5
    try clear hcz8_6
    try clear hcz8_7
    try clear hcz8_8
    try clear hfz11_0
    try clear hfz11_1
    try clear hfz11_2
    try clear hfz11_3
    try clear hfz11_4
    try clear hfz11_5
    try clear hfz11_6
    try clear hfz11_7
    try clear hfz11_8
    try clear hfz7_0
    try clear hfz7_1
    try clear hfz7_2
    try clear hfz7_3
    try clear hfz7_4
    try clear hfz7_5
    try clear hfz7_6
    try clear hfz7_7
    try clear hfz7_8
    try clear hfz8_0
    try clear hfz8_1
    try clear hfz8_2
    try clear hfz8_3
    try clear hfz8_4
    try clear hfz8_5
    try clear hfz8_6
    try clear hfz8_7
    try clear hfz8_8
    try clear p2
    try clear p6
    obtain ⟨kq, x1004_8, HA, HJ8, HI0, HK, HB⟩ := hcut
    cases kq with
    | zero => exact absurd HA.out (by simp [flywheelref19_Aimd_lift.j1])
    | succ kj8 =>
     have H := HA.out
     clear HA
     simp only [flywheelref19_Aimd_lift.j1] at H
     replace H := Option.bind_eq_some_iff.mp H
     obtain ⟨t342, A120, H⟩ := H
     replace H : (if x1004_8 = true then ((flywheelref02_Do.f 9600 a3 (wrap64 (a2 + 100000)) 3).bind fun t343 => (if a1 > 0 then (if (wrap64 ((wrap64 (Int.tdiv (wrap64 (3 * a1)) 2)) + 10000)) < (wrap64 (s0_0 + (mx t343 1000))) then (some (mx (wrap64 ((wrap64 (Int.tdiv (wrap64 (3 * a1)) 2)) + 10000)) s0_0, s0_1, s0_2, s0_3, x1004_8, s0_5, s0_6, s0_7, s0_8)) else (some (wrap64 (s0_0 + (mx t343 1000)), s0_1, s0_2, s0_3, x1004_8, s0_5, s0_6, s0_7, s0_8))) else (some (wrap64 (s0_0 + (mx t343 1000)), s0_1, s0_2, s0_3, x1004_8, s0_5, s0_6, s0_7, s0_8)))) else (if a1 > 0 then (if (wrap64 ((wrap64 (Int.tdiv (wrap64 (3 * a1)) 2)) + 10000)) < (wrap64 (s0_0 + (mx t342 1000))) then (some (mx (wrap64 ((wrap64 (Int.tdiv (wrap64 (3 * a1)) 2)) + 10000)) s0_0, s0_1, s0_2, s0_3, x1004_8, s0_5, s0_6, s0_7, s0_8)) else (some (wrap64 (s0_0 + (mx t342 1000)), s0_1, s0_2, s0_3, x1004_8, s0_5, s0_6, s0_7, s0_8))) else (some (wrap64 (s0_0 + (mx t342 1000)), s0_1, s0_2, s0_3, x1004_8, s0_5, s0_6, s0_7, s0_8)))) = some (r1, r2, r3, r4, r5, r6, r7, r8, r9) := H
     have A12 := Aside0.mk A120
     clear A120
     by_cases c13 : x1004_8 = true
     ·subst c13
      have H1 : ((flywheelref02_Do.f 9600 a3 (wrap64 (a2 + 100000)) 3).bind fun t343 => (if a1 > 0 then (if (wrap64 ((wrap64 (Int.tdiv (wrap64 (3 * a1)) 2)) + 10000)) < (wrap64 (s0_0 + (mx t343 1000))) then (some (mx (wrap64 ((wrap64 (Int.tdiv (wrap64 (3 * a1)) 2)) + 10000)) s0_0, s0_1, s0_2, s0_3, true, s0_5, s0_6, s0_7, s0_8)) else (some (wrap64 (s0_0 + (mx t343 1000)), s0_1, s0_2, s0_3, true, s0_5, s0_6, s0_7, s0_8))) else (some (wrap64 (s0_0 + (mx t343 1000)), s0_1, s0_2, s0_3, true, s0_5, s0_6, s0_7, s0_8)))) = some (r1, r2, r3, r4, r5, r6, r7, r8, r9) := by rw [if_pos rfl] at H; exact H
      clear H
      have H := H1
      clear H1
      replace H := Option.bind_eq_some_iff.mp H
      obtain ⟨t343, A140, H⟩ := H
      replace H : (if a1 > 0 then (if (wrap64 ((wrap64 (Int.tdiv (wrap64 (3 * a1)) 2)) + 10000)) < (wrap64 (s0_0 + (mx t343 1000))) then (some (mx (wrap64 ((wrap64 (Int.tdiv (wrap64 (3 * a1)) 2)) + 10000)) s0_0, s0_1, s0_2, s0_3, true, s0_5, s0_6, s0_7, s0_8)) else (some (wrap64 (s0_0 + (mx t343 1000)), s0_1, s0_2, s0_3, true, s0_5, s0_6, s0_7, s0_8))) else (some (wrap64 (s0_0 + (mx t343 1000)), s0_1, s0_2, s0_3, true, s0_5, s0_6, s0_7, s0_8))) = some (r1, r2, r3, r4, r5, r6, r7, r8, r9) := H
      have A14 := Aside0.mk A140
      clear A140
      obtain ⟨ji15, hji15⟩ : ∃ j_ : Int, (mx t343 1000) = j_ := ⟨_, rfl⟩
      replace H : (if a1 > 0 then (if (wrap64 ((wrap64 (Int.tdiv (wrap64 (3 * a1)) 2)) + 10000)) < (wrap64 (s0_0 + (ji15))) then (some (mx (wrap64 ((wrap64 (Int.tdiv (wrap64 (3 * a1)) 2)) + 10000)) s0_0, s0_1, s0_2, s0_3, true, s0_5, s0_6, s0_7, s0_8)) else (some (wrap64 (s0_0 + (ji15)), s0_1, s0_2, s0_3, true, s0_5, s0_6, s0_7, s0_8))) else (some (wrap64 (s0_0 + (ji15)), s0_1, s0_2, s0_3, true, s0_5, s0_6, s0_7, s0_8))) = some (r1, r2, r3, r4, r5, r6, r7, r8, r9) := by first | (rw [hji15] at H; exact H) | (simp only [hji15] at H ⊢; exact H)
      (try rw [hji15] at A12)
      (try rw [hji15] at A14)
      (try (have hji15l : 1000 ≤ ji15 := by (rw [← hji15]; unfold mx; (repeat' split) <;> omega)))
      (try (have hji15m : 0 ≤ ji15 := by omega))
      have hji15_ : (if t343 < 1000 then 1000 else t343) = ji15 := hji15
      by_cases c16 : a1 > 0
      ·rw [if_pos c16] at H
       have c16b0 : decide (0 < a1) = true := decide_eq_true c16
       clear c16
       by_cases c17 : (wrap64 ((wrap64 (Int.tdiv (wrap64 (3 * a1)) 2)) + 10000)) < (wrap64 (s0_0 + (ji15)))
       ·rw [if_pos c17] at H
        have c17b0 : decide ((wrap64 ((wrap64 (Int.tdiv (wrap64 (3 * a1)) 2)) + 10000)) < (wrap64 (s0_0 + (ji15)))) = true := decide_eq_true c17
        clear c17
        obtain ⟨ji18, hji18⟩ : ∃ j_ : Int, (mx (wrap64 ((wrap64 (Int.tdiv (wrap64 (3 * a1)) 2)) + 10000)) s0_0) = j_ := ⟨_, rfl⟩
        replace H : (some (ji18, s0_1, s0_2, s0_3, true, s0_5, s0_6, s0_7, s0_8)) = some (r1, r2, r3, r4, r5, r6, r7, r8, r9) := by first | (rw [hji18] at H; exact H) | (simp only [hji18] at H ⊢; exact H)
        (try rw [hji18] at A12)
        (try rw [hji18] at A14)
        have hji18_ : (if (wrap64 ((wrap64 (Int.tdiv (wrap64 (3 * a1)) 2)) + 10000)) < s0_0 then s0_0 else (wrap64 ((wrap64 (Int.tdiv (wrap64 (3 * a1)) 2)) + 10000))) = ji18 := hji18
        simp only [Option.some.injEq, Prod.mk.injEq] at H
        obtain ⟨rfl, rfl, rfl, rfl, rfl, rfl, rfl, rfl, rfl⟩ := H
        obtain ⟨HGz19, hgz19⟩ := HI0.out
        have hcz19_0 := cellS71_0 HGz19
        have hcz19_1 := cellS71_1 HGz19
        have hcz19_2 := cellS71_2 HGz19
        have hcz19_3 := cellS71_3 HGz19
        have hcz19_4 := cellS71_4 HGz19
        have hcz19_5 := cellS71_5 HGz19
        have hcz19_6 := cellS71_6 HGz19
        have hcz19_7 := cellS71_7 HGz19
        have hcz19_8 := cellS71_8 HGz19
        have hfz19_0 := blk_frozen HGz19 0
        have hfz19_1 := blk_frozen HGz19 1
        have hfz19_2 := blk_frozen HGz19 2
        have hfz19_3 := blk_frozen HGz19 3
        have hfz19_4 := blk_frozen HGz19 4
        have hfz19_5 := blk_frozen HGz19 5
        have hfz19_6 := blk_frozen HGz19 6
        have hfz19_7 := blk_frozen HGz19 7
        have hfz19_8 := blk_frozen HGz19 8
        clear HGz19 hgz19
        go_wp2_with (first | (go_at_call 49; (with_reducible refine (flywheelref02_Do.calls s0_0 (wrap64 (8 * a3)) 100000000 3 t342 _ A12.out).mono ?_); rintro e w20 ⟨rfl, hb⟩; have n0_ := Aside0.mk (IsS71.below (by repeat (first | (with_reducible first | exact HI0.out | apply IsS71.alloc | apply IsS71.drewN | apply IsS71.drew | apply IsS71.set_0 | apply IsS71.set_1 | apply IsS71.set_2 | apply IsS71.set_3 | apply IsS71.set_4 | apply IsS71.set_5 | apply IsS71.set_6 | apply IsS71.set_7 | apply IsS71.set_8) | exact HI0.out)) hb); have n1_ := Aside0.mk (KeepBut.trans (by repeat (first | (with_reducible first | exact HK.out | apply KeepBut.set_ | apply keep_drewN | apply keep_drew | apply keep_alloc) | exact HK.out)) (KeepBut.of_below hb g none) (.inl rfl)); have n2_ := Aside0.mk (below_step (by repeat (first | (with_reducible first | exact HB.out | apply below_alloc | apply pw_below_drewN | apply below_drew1 | refine below_set ?_ (IsS71.ge HI0.out)) | exact HB.out)) hb); clear HI0; clear HK; clear HB; have HI0 := n0_; have HK := n1_; have HB := n2_; clear n0_ n1_ n2_; (try clear hb); (try clear hb2); (try clear hk); (try clear hi); obtain ⟨HGz21, hgz21⟩ := HI0.out; have hcz21_0 := cellS71_0 HGz21; have hcz21_1 := cellS71_1 HGz21; have hcz21_2 := cellS71_2 HGz21; have hcz21_3 := cellS71_3 HGz21; have hcz21_4 := cellS71_4 HGz21; have hcz21_5 := cellS71_5 HGz21; have hcz21_6 := cellS71_6 HGz21; have hcz21_7 := cellS71_7 HGz21; have hcz21_8 := cellS71_8 HGz21; have hfz21_0 := blk_frozen HGz21 0; have hfz21_1 := blk_frozen HGz21 1; have hfz21_2 := blk_frozen HGz21 2; have hfz21_3 := blk_frozen HGz21 3; have hfz21_4 := blk_frozen HGz21 4; have hfz21_5 := blk_frozen HGz21 5; have hfz21_6 := blk_frozen HGz21 6; have hfz21_7 := blk_frozen HGz21 7; have hfz21_8 := blk_frozen HGz21 8; clear HGz21 hgz21) | (go_at_call 49; (with_reducible refine (flywheelref02_Do.calls 9600 a3 (wrap64 (a2 + 100000)) 3 t343 _ A14.out).mono ?_); rintro e w22 ⟨rfl, hb⟩; have n0_ := Aside0.mk (IsS71.below (by repeat (first | (with_reducible first | exact HI0.out | apply IsS71.alloc | apply IsS71.drewN | apply IsS71.drew | apply IsS71.set_0 | apply IsS71.set_1 | apply IsS71.set_2 | apply IsS71.set_3 | apply IsS71.set_4 | apply IsS71.set_5 | apply IsS71.set_6 | apply IsS71.set_7 | apply IsS71.set_8) | exact HI0.out)) hb); have n1_ := Aside0.mk (KeepBut.trans (by repeat (first | (with_reducible first | exact HK.out | apply KeepBut.set_ | apply keep_drewN | apply keep_drew | apply keep_alloc) | exact HK.out)) (KeepBut.of_below hb g none) (.inl rfl)); have n2_ := Aside0.mk (below_step (by repeat (first | (with_reducible first | exact HB.out | apply below_alloc | apply pw_below_drewN | apply below_drew1 | refine below_set ?_ (IsS71.ge HI0.out)) | exact HB.out)) hb); clear HI0; clear HK; clear HB; have HI0 := n0_; have HK := n1_; have HB := n2_; clear n0_ n1_ n2_; (try clear hb); (try clear hb2); (try clear hk); (try clear hi); obtain ⟨HGz23, hgz23⟩ := HI0.out; have hcz23_0 := cellS71_0 HGz23; have hcz23_1 := cellS71_1 HGz23; have hcz23_2 := cellS71_2 HGz23; have hcz23_3 := cellS71_3 HGz23; have hcz23_4 := cellS71_4 HGz23; have hcz23_5 := cellS71_5 HGz23; have hcz23_6 := cellS71_6 HGz23; have hcz23_7 := cellS71_7 HGz23; have hcz23_8 := cellS71_8 HGz23; have hfz23_0 := blk_frozen HGz23 0; have hfz23_1 := blk_frozen HGz23 1; have hfz23_2 := blk_frozen HGz23 2; have hfz23_3 := blk_frozen HGz23 3; have hfz23_4 := blk_frozen HGz23 4; have hfz23_5 := blk_frozen HGz23 5; have hfz23_6 := blk_frozen HGz23 6; have hfz23_7 := blk_frozen HGz23 7; have hfz23_8 := blk_frozen HGz23 8; clear HGz23 hgz23))
        repeat (go_quiet (first | (go_at_call 49; (with_reducible refine (flywheelref02_Do.calls s0_0 (wrap64 (8 * a3)) 100000000 3 t342 _ A12.out).mono ?_); rintro e w20 ⟨rfl, hb⟩; have n0_ := Aside0.mk (IsS71.below (by repeat (first | (with_reducible first | exact HI0.out | apply IsS71.alloc | apply IsS71.drewN | apply IsS71.drew | apply IsS71.set_0 | apply IsS71.set_1 | apply IsS71.set_2 | apply IsS71.set_3 | apply IsS71.set_4 | apply IsS71.set_5 | apply IsS71.set_6 | apply IsS71.set_7 | apply IsS71.set_8) | exact HI0.out)) hb); have n1_ := Aside0.mk (KeepBut.trans (by repeat (first | (with_reducible first | exact HK.out | apply KeepBut.set_ | apply keep_drewN | apply keep_drew | apply keep_alloc) | exact HK.out)) (KeepBut.of_below hb g none) (.inl rfl)); have n2_ := Aside0.mk (below_step (by repeat (first | (with_reducible first | exact HB.out | apply below_alloc | apply pw_below_drewN | apply below_drew1 | refine below_set ?_ (IsS71.ge HI0.out)) | exact HB.out)) hb); clear HI0; clear HK; clear HB; have HI0 := n0_; have HK := n1_; have HB := n2_; clear n0_ n1_ n2_; (try clear hb); (try clear hb2); (try clear hk); (try clear hi); obtain ⟨HGz21, hgz21⟩ := HI0.out; have hcz21_0 := cellS71_0 HGz21; have hcz21_1 := cellS71_1 HGz21; have hcz21_2 := cellS71_2 HGz21; have hcz21_3 := cellS71_3 HGz21; have hcz21_4 := cellS71_4 HGz21; have hcz21_5 := cellS71_5 HGz21; have hcz21_6 := cellS71_6 HGz21; have hcz21_7 := cellS71_7 HGz21; have hcz21_8 := cellS71_8 HGz21; have hfz21_0 := blk_frozen HGz21 0; have hfz21_1 := blk_frozen HGz21 1; have hfz21_2 := blk_frozen HGz21 2; have hfz21_3 := blk_frozen HGz21 3; have hfz21_4 := blk_frozen HGz21 4; have hfz21_5 := blk_frozen HGz21 5; have hfz21_6 := blk_frozen HGz21 6; have hfz21_7 := blk_frozen HGz21 7; have hfz21_8 := blk_frozen HGz21 8; clear HGz21 hgz21) | (go_at_call 49; (with_reducible refine (flywheelref02_Do.calls 9600 a3 (wrap64 (a2 + 100000)) 3 t343 _ A14.out).mono ?_); rintro e w22 ⟨rfl, hb⟩; have n0_ := Aside0.mk (IsS71.below (by repeat (first | (with_reducible first | exact HI0.out | apply IsS71.alloc | apply IsS71.drewN | apply IsS71.drew | apply IsS71.set_0 | apply IsS71.set_1 | apply IsS71.set_2 | apply IsS71.set_3 | apply IsS71.set_4 | apply IsS71.set_5 | apply IsS71.set_6 | apply IsS71.set_7 | apply IsS71.set_8) | exact HI0.out)) hb); have n1_ := Aside0.mk (KeepBut.trans (by repeat (first | (with_reducible first | exact HK.out | apply KeepBut.set_ | apply keep_drewN | apply keep_drew | apply keep_alloc) | exact HK.out)) (KeepBut.of_below hb g none) (.inl rfl)); have n2_ := Aside0.mk (below_step (by repeat (first | (with_reducible first | exact HB.out | apply below_alloc | apply pw_below_drewN | apply below_drew1 | refine below_set ?_ (IsS71.ge HI0.out)) | exact HB.out)) hb); clear HI0; clear HK; clear HB; have HI0 := n0_; have HK := n1_; have HB := n2_; clear n0_ n1_ n2_; (try clear hb); (try clear hb2); (try clear hk); (try clear hi); obtain ⟨HGz23, hgz23⟩ := HI0.out; have hcz23_0 := cellS71_0 HGz23; have hcz23_1 := cellS71_1 HGz23; have hcz23_2 := cellS71_2 HGz23; have hcz23_3 := cellS71_3 HGz23; have hcz23_4 := cellS71_4 HGz23; have hcz23_5 := cellS71_5 HGz23; have hcz23_6 := cellS71_6 HGz23; have hcz23_7 := cellS71_7 HGz23; have hcz23_8 := cellS71_8 HGz23; have hfz23_0 := blk_frozen HGz23 0; have hfz23_1 := blk_frozen HGz23 1; have hfz23_2 := blk_frozen HGz23 2; have hfz23_3 := blk_frozen HGz23 3; have hfz23_4 := blk_frozen HGz23 4; have hfz23_5 := blk_frozen HGz23 5; have hfz23_6 := blk_frozen HGz23 6; have hfz23_7 := blk_frozen HGz23 7; have hfz23_8 := blk_frozen HGz23 8; clear HGz23 hgz23)); try go_wp2_with (first | (go_at_call 49; (with_reducible refine (flywheelref02_Do.calls s0_0 (wrap64 (8 * a3)) 100000000 3 t342 _ A12.out).mono ?_); rintro e w20 ⟨rfl, hb⟩; have n0_ := Aside0.mk (IsS71.below (by repeat (first | (with_reducible first | exact HI0.out | apply IsS71.alloc | apply IsS71.drewN | apply IsS71.drew | apply IsS71.set_0 | apply IsS71.set_1 | apply IsS71.set_2 | apply IsS71.set_3 | apply IsS71.set_4 | apply IsS71.set_5 | apply IsS71.set_6 | apply IsS71.set_7 | apply IsS71.set_8) | exact HI0.out)) hb); have n1_ := Aside0.mk (KeepBut.trans (by repeat (first | (with_reducible first | exact HK.out | apply KeepBut.set_ | apply keep_drewN | apply keep_drew | apply keep_alloc) | exact HK.out)) (KeepBut.of_below hb g none) (.inl rfl)); have n2_ := Aside0.mk (below_step (by repeat (first | (with_reducible first | exact HB.out | apply below_alloc | apply pw_below_drewN | apply below_drew1 | refine below_set ?_ (IsS71.ge HI0.out)) | exact HB.out)) hb); clear HI0; clear HK; clear HB; have HI0 := n0_; have HK := n1_; have HB := n2_; clear n0_ n1_ n2_; (try clear hb); (try clear hb2); (try clear hk); (try clear hi); obtain ⟨HGz21, hgz21⟩ := HI0.out; have hcz21_0 := cellS71_0 HGz21; have hcz21_1 := cellS71_1 HGz21; have hcz21_2 := cellS71_2 HGz21; have hcz21_3 := cellS71_3 HGz21; have hcz21_4 := cellS71_4 HGz21; have hcz21_5 := cellS71_5 HGz21; have hcz21_6 := cellS71_6 HGz21; have hcz21_7 := cellS71_7 HGz21; have hcz21_8 := cellS71_8 HGz21; have hfz21_0 := blk_frozen HGz21 0; have hfz21_1 := blk_frozen HGz21 1; have hfz21_2 := blk_frozen HGz21 2; have hfz21_3 := blk_frozen HGz21 3; have hfz21_4 := blk_frozen HGz21 4; have hfz21_5 := blk_frozen HGz21 5; have hfz21_6 := blk_frozen HGz21 6; have hfz21_7 := blk_frozen HGz21 7; have hfz21_8 := blk_frozen HGz21 8; clear HGz21 hgz21) | (go_at_call 49; (with_reducible refine (flywheelref02_Do.calls 9600 a3 (wrap64 (a2 + 100000)) 3 t343 _ A14.out).mono ?_); rintro e w22 ⟨rfl, hb⟩; have n0_ := Aside0.mk (IsS71.below (by repeat (first | (with_reducible first | exact HI0.out | apply IsS71.alloc | apply IsS71.drewN | apply IsS71.drew | apply IsS71.set_0 | apply IsS71.set_1 | apply IsS71.set_2 | apply IsS71.set_3 | apply IsS71.set_4 | apply IsS71.set_5 | apply IsS71.set_6 | apply IsS71.set_7 | apply IsS71.set_8) | exact HI0.out)) hb); have n1_ := Aside0.mk (KeepBut.trans (by repeat (first | (with_reducible first | exact HK.out | apply KeepBut.set_ | apply keep_drewN | apply keep_drew | apply keep_alloc) | exact HK.out)) (KeepBut.of_below hb g none) (.inl rfl)); have n2_ := Aside0.mk (below_step (by repeat (first | (with_reducible first | exact HB.out | apply below_alloc | apply pw_below_drewN | apply below_drew1 | refine below_set ?_ (IsS71.ge HI0.out)) | exact HB.out)) hb); clear HI0; clear HK; clear HB; have HI0 := n0_; have HK := n1_; have HB := n2_; clear n0_ n1_ n2_; (try clear hb); (try clear hb2); (try clear hk); (try clear hi); obtain ⟨HGz23, hgz23⟩ := HI0.out; have hcz23_0 := cellS71_0 HGz23; have hcz23_1 := cellS71_1 HGz23; have hcz23_2 := cellS71_2 HGz23; have hcz23_3 := cellS71_3 HGz23; have hcz23_4 := cellS71_4 HGz23; have hcz23_5 := cellS71_5 HGz23; have hcz23_6 := cellS71_6 HGz23; have hcz23_7 := cellS71_7 HGz23; have hcz23_8 := cellS71_8 HGz23; have hfz23_0 := blk_frozen HGz23 0; have hfz23_1 := blk_frozen HGz23 1; have hfz23_2 := blk_frozen HGz23 2; have hfz23_3 := blk_frozen HGz23 3; have hfz23_4 := blk_frozen HGz23 4; have hfz23_5 := blk_frozen HGz23 5; have hfz23_6 := blk_frozen HGz23 6; have hfz23_7 := blk_frozen HGz23 7; have hfz23_8 := blk_frozen HGz23 8; clear HGz23 hgz23)))
        first | go_end0 | ((try simp only [Exit.inBlock, Exit.then]); refine bodyPost_ret (results_none rfl _ _ _) rfl ?_)
        exact ⟨by first | rfl | (simp [errW_none, errW_some] <;> rfl) | (simp only [← hji15, ← hji18]; first | rfl | (simp [errW_none, errW_some] <;> rfl)) | (simp [*, errW_none, errW_some] <;> rfl), by repeat (first | (with_reducible first | exact HI0.out | apply IsS71.alloc | apply IsS71.drewN | apply IsS71.drew | apply IsS71.set_0 | apply IsS71.set_1 | apply IsS71.set_2 | apply IsS71.set_3 | apply IsS71.set_4 | apply IsS71.set_5 | apply IsS71.set_6 | apply IsS71.set_7 | apply IsS71.set_8) | exact HI0.out), by repeat (first | (with_reducible first | exact HB.out | apply below_alloc | apply pw_below_drewN | apply below_drew1 | refine below_set ?_ (IsS71.ge HI0.out)) | exact HB.out), by repeat (first | (with_reducible first | exact HK.out | apply KeepBut.set_ | apply keep_drewN | apply keep_drew | apply keep_alloc) | exact HK.out)⟩
       ·rw [if_neg c17] at H
        have c17b0 : decide ((wrap64 ((wrap64 (Int.tdiv (wrap64 (3 * a1)) 2)) + 10000)) < (wrap64 (s0_0 + (ji15)))) = false := decide_eq_false c17
        clear c17
        simp only [Option.some.injEq, Prod.mk.injEq] at H
        obtain ⟨rfl, rfl, rfl, rfl, rfl, rfl, rfl, rfl, rfl⟩ := H
        obtain ⟨HGz24, hgz24⟩ := HI0.out
        have hcz24_0 := cellS71_0 HGz24
        have hcz24_1 := cellS71_1 HGz24
        have hcz24_2 := cellS71_2 HGz24
        have hcz24_3 := cellS71_3 HGz24
        have hcz24_4 := cellS71_4 HGz24
        have hcz24_5 := cellS71_5 HGz24
        have hcz24_6 := cellS71_6 HGz24
        have hcz24_7 := cellS71_7 HGz24
        have hcz24_8 := cellS71_8 HGz24
        have hfz24_0 := blk_frozen HGz24 0
        have hfz24_1 := blk_frozen HGz24 1
        have hfz24_2 := blk_frozen HGz24 2
        have hfz24_3 := blk_frozen HGz24 3
        have hfz24_4 := blk_frozen HGz24 4
        have hfz24_5 := blk_frozen HGz24 5
        have hfz24_6 := blk_frozen HGz24 6
        have hfz24_7 := blk_frozen HGz24 7
        have hfz24_8 := blk_frozen HGz24 8
        clear HGz24 hgz24
        go_wp2_with (first | (go_at_call 49; (with_reducible refine (flywheelref02_Do.calls s0_0 (wrap64 (8 * a3)) 100000000 3 t342 _ A12.out).mono ?_); rintro e w25 ⟨rfl, hb⟩; have n0_ := Aside0.mk (IsS71.below (by repeat (first | (with_reducible first | exact HI0.out | apply IsS71.alloc | apply IsS71.drewN | apply IsS71.drew | apply IsS71.set_0 | apply IsS71.set_1 | apply IsS71.set_2 | apply IsS71.set_3 | apply IsS71.set_4 | apply IsS71.set_5 | apply IsS71.set_6 | apply IsS71.set_7 | apply IsS71.set_8) | exact HI0.out)) hb); have n1_ := Aside0.mk (KeepBut.trans (by repeat (first | (with_reducible first | exact HK.out | apply KeepBut.set_ | apply keep_drewN | apply keep_drew | apply keep_alloc) | exact HK.out)) (KeepBut.of_below hb g none) (.inl rfl)); have n2_ := Aside0.mk (below_step (by repeat (first | (with_reducible first | exact HB.out | apply below_alloc | apply pw_below_drewN | apply below_drew1 | refine below_set ?_ (IsS71.ge HI0.out)) | exact HB.out)) hb); clear HI0; clear HK; clear HB; have HI0 := n0_; have HK := n1_; have HB := n2_; clear n0_ n1_ n2_; (try clear hb); (try clear hb2); (try clear hk); (try clear hi); obtain ⟨HGz26, hgz26⟩ := HI0.out; have hcz26_0 := cellS71_0 HGz26; have hcz26_1 := cellS71_1 HGz26; have hcz26_2 := cellS71_2 HGz26; have hcz26_3 := cellS71_3 HGz26; have hcz26_4 := cellS71_4 HGz26; have hcz26_5 := cellS71_5 HGz26; have hcz26_6 := cellS71_6 HGz26; have hcz26_7 := cellS71_7 HGz26; have hcz26_8 := cellS71_8 HGz26; have hfz26_0 := blk_frozen HGz26 0; have hfz26_1 := blk_frozen HGz26 1; have hfz26_2 := blk_frozen HGz26 2; have hfz26_3 := blk_frozen HGz26 3; have hfz26_4 := blk_frozen HGz26 4; have hfz26_5 := blk_frozen HGz26 5; have hfz26_6 := blk_frozen HGz26 6; have hfz26_7 := blk_frozen HGz26 7; have hfz26_8 := blk_frozen HGz26 8; clear HGz26 hgz26) | (go_at_call 49; (with_reducible refine (flywheelref02_Do.calls 9600 a3 (wrap64 (a2 + 100000)) 3 t343 _ A14.out).mono ?_); rintro e w27 ⟨rfl, hb⟩; have n0_ := Aside0.mk (IsS71.below (by repeat (first | (with_reducible first | exact HI0.out | apply IsS71.alloc | apply IsS71.drewN | apply IsS71.drew | apply IsS71.set_0 | apply IsS71.set_1 | apply IsS71.set_2 | apply IsS71.set_3 | apply IsS71.set_4 | apply IsS71.set_5 | apply IsS71.set_6 | apply IsS71.set_7 | apply IsS71.set_8) | exact HI0.out)) hb); have n1_ := Aside0.mk (KeepBut.trans (by repeat (first | (with_reducible first | exact HK.out | apply KeepBut.set_ | apply keep_drewN | apply keep_drew | apply keep_alloc) | exact HK.out)) (KeepBut.of_below hb g none) (.inl rfl)); have n2_ := Aside0.mk (below_step (by repeat (first | (with_reducible first | exact HB.out | apply below_alloc | apply pw_below_drewN | apply below_drew1 | refine below_set ?_ (IsS71.ge HI0.out)) | exact HB.out)) hb); clear HI0; clear HK; clear HB; have HI0 := n0_; have HK := n1_; have HB := n2_; clear n0_ n1_ n2_; (try clear hb); (try clear hb2); (try clear hk); (try clear hi); obtain ⟨HGz28, hgz28⟩ := HI0.out; have hcz28_0 := cellS71_0 HGz28; have hcz28_1 := cellS71_1 HGz28; have hcz28_2 := cellS71_2 HGz28; have hcz28_3 := cellS71_3 HGz28; have hcz28_4 := cellS71_4 HGz28; have hcz28_5 := cellS71_5 HGz28; have hcz28_6 := cellS71_6 HGz28; have hcz28_7 := cellS71_7 HGz28; have hcz28_8 := cellS71_8 HGz28; have hfz28_0 := blk_frozen HGz28 0; have hfz28_1 := blk_frozen HGz28 1; have hfz28_2 := blk_frozen HGz28 2; have hfz28_3 := blk_frozen HGz28 3; have hfz28_4 := blk_frozen HGz28 4; have hfz28_5 := blk_frozen HGz28 5; have hfz28_6 := blk_frozen HGz28 6; have hfz28_7 := blk_frozen HGz28 7; have hfz28_8 := blk_frozen HGz28 8; clear HGz28 hgz28))
        repeat (go_quiet (first | (go_at_call 49; (with_reducible refine (flywheelref02_Do.calls s0_0 (wrap64 (8 * a3)) 100000000 3 t342 _ A12.out).mono ?_); rintro e w25 ⟨rfl, hb⟩; have n0_ := Aside0.mk (IsS71.below (by repeat (first | (with_reducible first | exact HI0.out | apply IsS71.alloc | apply IsS71.drewN | apply IsS71.drew | apply IsS71.set_0 | apply IsS71.set_1 | apply IsS71.set_2 | apply IsS71.set_3 | apply IsS71.set_4 | apply IsS71.set_5 | apply IsS71.set_6 | apply IsS71.set_7 | apply IsS71.set_8) | exact HI0.out)) hb); have n1_ := Aside0.mk (KeepBut.trans (by repeat (first | (with_reducible first | exact HK.out | apply KeepBut.set_ | apply keep_drewN | apply keep_drew | apply keep_alloc) | exact HK.out)) (KeepBut.of_below hb g none) (.inl rfl)); have n2_ := Aside0.mk (below_step (by repeat (first | (with_reducible first | exact HB.out | apply below_alloc | apply pw_below_drewN | apply below_drew1 | refine below_set ?_ (IsS71.ge HI0.out)) | exact HB.out)) hb); clear HI0; clear HK; clear HB; have HI0 := n0_; have HK := n1_; have HB := n2_; clear n0_ n1_ n2_; (try clear hb); (try clear hb2); (try clear hk); (try clear hi); obtain ⟨HGz26, hgz26⟩ := HI0.out; have hcz26_0 := cellS71_0 HGz26; have hcz26_1 := cellS71_1 HGz26; have hcz26_2 := cellS71_2 HGz26; have hcz26_3 := cellS71_3 HGz26; have hcz26_4 := cellS71_4 HGz26; have hcz26_5 := cellS71_5 HGz26; have hcz26_6 := cellS71_6 HGz26; have hcz26_7 := cellS71_7 HGz26; have hcz26_8 := cellS71_8 HGz26; have hfz26_0 := blk_frozen HGz26 0; have hfz26_1 := blk_frozen HGz26 1; have hfz26_2 := blk_frozen HGz26 2; have hfz26_3 := blk_frozen HGz26 3; have hfz26_4 := blk_frozen HGz26 4; have hfz26_5 := blk_frozen HGz26 5; have hfz26_6 := blk_frozen HGz26 6; have hfz26_7 := blk_frozen HGz26 7; have hfz26_8 := blk_frozen HGz26 8; clear HGz26 hgz26) | (go_at_call 49; (with_reducible refine (flywheelref02_Do.calls 9600 a3 (wrap64 (a2 + 100000)) 3 t343 _ A14.out).mono ?_); rintro e w27 ⟨rfl, hb⟩; have n0_ := Aside0.mk (IsS71.below (by repeat (first | (with_reducible first | exact HI0.out | apply IsS71.alloc | apply IsS71.drewN | apply IsS71.drew | apply IsS71.set_0 | apply IsS71.set_1 | apply IsS71.set_2 | apply IsS71.set_3 | apply IsS71.set_4 | apply IsS71.set_5 | apply IsS71.set_6 | apply IsS71.set_7 | apply IsS71.set_8) | exact HI0.out)) hb); have n1_ := Aside0.mk (KeepBut.trans (by repeat (first | (with_reducible first | exact HK.out | apply KeepBut.set_ | apply keep_drewN | apply keep_drew | apply keep_alloc) | exact HK.out)) (KeepBut.of_below hb g none) (.inl rfl)); have n2_ := Aside0.mk (below_step (by repeat (first | (with_reducible first | exact HB.out | apply below_alloc | apply pw_below_drewN | apply below_drew1 | refine below_set ?_ (IsS71.ge HI0.out)) | exact HB.out)) hb); clear HI0; clear HK; clear HB; have HI0 := n0_; have HK := n1_; have HB := n2_; clear n0_ n1_ n2_; (try clear hb); (try clear hb2); (try clear hk); (try clear hi); obtain ⟨HGz28, hgz28⟩ := HI0.out; have hcz28_0 := cellS71_0 HGz28; have hcz28_1 := cellS71_1 HGz28; have hcz28_2 := cellS71_2 HGz28; have hcz28_3 := cellS71_3 HGz28; have hcz28_4 := cellS71_4 HGz28; have hcz28_5 := cellS71_5 HGz28; have hcz28_6 := cellS71_6 HGz28; have hcz28_7 := cellS71_7 HGz28; have hcz28_8 := cellS71_8 HGz28; have hfz28_0 := blk_frozen HGz28 0; have hfz28_1 := blk_frozen HGz28 1; have hfz28_2 := blk_frozen HGz28 2; have hfz28_3 := blk_frozen HGz28 3; have hfz28_4 := blk_frozen HGz28 4; have hfz28_5 := blk_frozen HGz28 5; have hfz28_6 := blk_frozen HGz28 6; have hfz28_7 := blk_frozen HGz28 7; have hfz28_8 := blk_frozen HGz28 8; clear HGz28 hgz28)); try go_wp2_with (first | (go_at_call 49; (with_reducible refine (flywheelref02_Do.calls s0_0 (wrap64 (8 * a3)) 100000000 3 t342 _ A12.out).mono ?_); rintro e w25 ⟨rfl, hb⟩; have n0_ := Aside0.mk (IsS71.below (by repeat (first | (with_reducible first | exact HI0.out | apply IsS71.alloc | apply IsS71.drewN | apply IsS71.drew | apply IsS71.set_0 | apply IsS71.set_1 | apply IsS71.set_2 | apply IsS71.set_3 | apply IsS71.set_4 | apply IsS71.set_5 | apply IsS71.set_6 | apply IsS71.set_7 | apply IsS71.set_8) | exact HI0.out)) hb); have n1_ := Aside0.mk (KeepBut.trans (by repeat (first | (with_reducible first | exact HK.out | apply KeepBut.set_ | apply keep_drewN | apply keep_drew | apply keep_alloc) | exact HK.out)) (KeepBut.of_below hb g none) (.inl rfl)); have n2_ := Aside0.mk (below_step (by repeat (first | (with_reducible first | exact HB.out | apply below_alloc | apply pw_below_drewN | apply below_drew1 | refine below_set ?_ (IsS71.ge HI0.out)) | exact HB.out)) hb); clear HI0; clear HK; clear HB; have HI0 := n0_; have HK := n1_; have HB := n2_; clear n0_ n1_ n2_; (try clear hb); (try clear hb2); (try clear hk); (try clear hi); obtain ⟨HGz26, hgz26⟩ := HI0.out; have hcz26_0 := cellS71_0 HGz26; have hcz26_1 := cellS71_1 HGz26; have hcz26_2 := cellS71_2 HGz26; have hcz26_3 := cellS71_3 HGz26; have hcz26_4 := cellS71_4 HGz26; have hcz26_5 := cellS71_5 HGz26; have hcz26_6 := cellS71_6 HGz26; have hcz26_7 := cellS71_7 HGz26; have hcz26_8 := cellS71_8 HGz26; have hfz26_0 := blk_frozen HGz26 0; have hfz26_1 := blk_frozen HGz26 1; have hfz26_2 := blk_frozen HGz26 2; have hfz26_3 := blk_frozen HGz26 3; have hfz26_4 := blk_frozen HGz26 4; have hfz26_5 := blk_frozen HGz26 5; have hfz26_6 := blk_frozen HGz26 6; have hfz26_7 := blk_frozen HGz26 7; have hfz26_8 := blk_frozen HGz26 8; clear HGz26 hgz26) | (go_at_call 49; (with_reducible refine (flywheelref02_Do.calls 9600 a3 (wrap64 (a2 + 100000)) 3 t343 _ A14.out).mono ?_); rintro e w27 ⟨rfl, hb⟩; have n0_ := Aside0.mk (IsS71.below (by repeat (first | (with_reducible first | exact HI0.out | apply IsS71.alloc | apply IsS71.drewN | apply IsS71.drew | apply IsS71.set_0 | apply IsS71.set_1 | apply IsS71.set_2 | apply IsS71.set_3 | apply IsS71.set_4 | apply IsS71.set_5 | apply IsS71.set_6 | apply IsS71.set_7 | apply IsS71.set_8) | exact HI0.out)) hb); have n1_ := Aside0.mk (KeepBut.trans (by repeat (first | (with_reducible first | exact HK.out | apply KeepBut.set_ | apply keep_drewN | apply keep_drew | apply keep_alloc) | exact HK.out)) (KeepBut.of_below hb g none) (.inl rfl)); have n2_ := Aside0.mk (below_step (by repeat (first | (with_reducible first | exact HB.out | apply below_alloc | apply pw_below_drewN | apply below_drew1 | refine below_set ?_ (IsS71.ge HI0.out)) | exact HB.out)) hb); clear HI0; clear HK; clear HB; have HI0 := n0_; have HK := n1_; have HB := n2_; clear n0_ n1_ n2_; (try clear hb); (try clear hb2); (try clear hk); (try clear hi); obtain ⟨HGz28, hgz28⟩ := HI0.out; have hcz28_0 := cellS71_0 HGz28; have hcz28_1 := cellS71_1 HGz28; have hcz28_2 := cellS71_2 HGz28; have hcz28_3 := cellS71_3 HGz28; have hcz28_4 := cellS71_4 HGz28; have hcz28_5 := cellS71_5 HGz28; have hcz28_6 := cellS71_6 HGz28; have hcz28_7 := cellS71_7 HGz28; have hcz28_8 := cellS71_8 HGz28; have hfz28_0 := blk_frozen HGz28 0; have hfz28_1 := blk_frozen HGz28 1; have hfz28_2 := blk_frozen HGz28 2; have hfz28_3 := blk_frozen HGz28 3; have hfz28_4 := blk_frozen HGz28 4; have hfz28_5 := blk_frozen HGz28 5; have hfz28_6 := blk_frozen HGz28 6; have hfz28_7 := blk_frozen HGz28 7; have hfz28_8 := blk_frozen HGz28 8; clear HGz28 hgz28)))
        first | go_end0 | ((try simp only [Exit.inBlock, Exit.then]); refine bodyPost_ret (results_none rfl _ _ _) rfl ?_)
        exact ⟨by first | rfl | (simp [errW_none, errW_some] <;> rfl) | (simp only [← hji15]; first | rfl | (simp [errW_none, errW_some] <;> rfl)) | (simp [*, errW_none, errW_some] <;> rfl), by repeat (first | (with_reducible first | exact HI0.out | apply IsS71.alloc | apply IsS71.drewN | apply IsS71.drew | apply IsS71.set_0 | apply IsS71.set_1 | apply IsS71.set_2 | apply IsS71.set_3 | apply IsS71.set_4 | apply IsS71.set_5 | apply IsS71.set_6 | apply IsS71.set_7 | apply IsS71.set_8) | exact HI0.out), by repeat (first | (with_reducible first | exact HB.out | apply below_alloc | apply pw_below_drewN | apply below_drew1 | refine below_set ?_ (IsS71.ge HI0.out)) | exact HB.out), by repeat (first | (with_reducible first | exact HK.out | apply KeepBut.set_ | apply keep_drewN | apply keep_drew | apply keep_alloc) | exact HK.out)⟩
      ·rw [if_neg c16] at H
       have c16b0 : decide (0 < a1) = false := decide_eq_false c16
       clear c16
       simp only [Option.some.injEq, Prod.mk.injEq] at H
       obtain ⟨rfl, rfl, rfl, rfl, rfl, rfl, rfl, rfl, rfl⟩ := H
       obtain ⟨HGz29, hgz29⟩ := HI0.out
       have hcz29_0 := cellS71_0 HGz29
       have hcz29_1 := cellS71_1 HGz29
       have hcz29_2 := cellS71_2 HGz29
       have hcz29_3 := cellS71_3 HGz29
       have hcz29_4 := cellS71_4 HGz29
       have hcz29_5 := cellS71_5 HGz29
       have hcz29_6 := cellS71_6 HGz29
       have hcz29_7 := cellS71_7 HGz29
       have hcz29_8 := cellS71_8 HGz29
       have hfz29_0 := blk_frozen HGz29 0
       have hfz29_1 := blk_frozen HGz29 1
       have hfz29_2 := blk_frozen HGz29 2
       have hfz29_3 := blk_frozen HGz29 3
       have hfz29_4 := blk_frozen HGz29 4
       have hfz29_5 := blk_frozen HGz29 5
       have hfz29_6 := blk_frozen HGz29 6
       have hfz29_7 := blk_frozen HGz29 7
       have hfz29_8 := blk_frozen HGz29 8
       clear HGz29 hgz29
       go_wp2_with (first | (go_at_call 49; (with_reducible refine (flywheelref02_Do.calls s0_0 (wrap64 (8 * a3)) 100000000 3 t342 _ A12.out).mono ?_); rintro e w30 ⟨rfl, hb⟩; have n0_ := Aside0.mk (IsS71.below (by repeat (first | (with_reducible first | exact HI0.out | apply IsS71.alloc | apply IsS71.drewN | apply IsS71.drew | apply IsS71.set_0 | apply IsS71.set_1 | apply IsS71.set_2 | apply IsS71.set_3 | apply IsS71.set_4 | apply IsS71.set_5 | apply IsS71.set_6 | apply IsS71.set_7 | apply IsS71.set_8) | exact HI0.out)) hb); have n1_ := Aside0.mk (KeepBut.trans (by repeat (first | (with_reducible first | exact HK.out | apply KeepBut.set_ | apply keep_drewN | apply keep_drew | apply keep_alloc) | exact HK.out)) (KeepBut.of_below hb g none) (.inl rfl)); have n2_ := Aside0.mk (below_step (by repeat (first | (with_reducible first | exact HB.out | apply below_alloc | apply pw_below_drewN | apply below_drew1 | refine below_set ?_ (IsS71.ge HI0.out)) | exact HB.out)) hb); clear HI0; clear HK; clear HB; have HI0 := n0_; have HK := n1_; have HB := n2_; clear n0_ n1_ n2_; (try clear hb); (try clear hb2); (try clear hk); (try clear hi); obtain ⟨HGz31, hgz31⟩ := HI0.out; have hcz31_0 := cellS71_0 HGz31; have hcz31_1 := cellS71_1 HGz31; have hcz31_2 := cellS71_2 HGz31; have hcz31_3 := cellS71_3 HGz31; have hcz31_4 := cellS71_4 HGz31; have hcz31_5 := cellS71_5 HGz31; have hcz31_6 := cellS71_6 HGz31; have hcz31_7 := cellS71_7 HGz31; have hcz31_8 := cellS71_8 HGz31; have hfz31_0 := blk_frozen HGz31 0; have hfz31_1 := blk_frozen HGz31 1; have hfz31_2 := blk_frozen HGz31 2; have hfz31_3 := blk_frozen HGz31 3; have hfz31_4 := blk_frozen HGz31 4; have hfz31_5 := blk_frozen HGz31 5; have hfz31_6 := blk_frozen HGz31 6; have hfz31_7 := blk_frozen HGz31 7; have hfz31_8 := blk_frozen HGz31 8; clear HGz31 hgz31) | (go_at_call 49; (with_reducible refine (flywheelref02_Do.calls 9600 a3 (wrap64 (a2 + 100000)) 3 t343 _ A14.out).mono ?_); rintro e w32 ⟨rfl, hb⟩; have n0_ := Aside0.mk (IsS71.below (by repeat (first | (with_reducible first | exact HI0.out | apply IsS71.alloc | apply IsS71.drewN | apply IsS71.drew | apply IsS71.set_0 | apply IsS71.set_1 | apply IsS71.set_2 | apply IsS71.set_3 | apply IsS71.set_4 | apply IsS71.set_5 | apply IsS71.set_6 | apply IsS71.set_7 | apply IsS71.set_8) | exact HI0.out)) hb); have n1_ := Aside0.mk (KeepBut.trans (by repeat (first | (with_reducible first | exact HK.out | apply KeepBut.set_ | apply keep_drewN | apply keep_drew | apply keep_alloc) | exact HK.out)) (KeepBut.of_below hb g none) (.inl rfl)); have n2_ := Aside0.mk (below_step (by repeat (first | (with_reducible first | exact HB.out | apply below_alloc | apply pw_below_drewN | apply below_drew1 | refine below_set ?_ (IsS71.ge HI0.out)) | exact HB.out)) hb); clear HI0; clear HK; clear HB; have HI0 := n0_; have HK := n1_; have HB := n2_; clear n0_ n1_ n2_; (try clear hb); (try clear hb2); (try clear hk); (try clear hi); obtain ⟨HGz33, hgz33⟩ := HI0.out; have hcz33_0 := cellS71_0 HGz33; have hcz33_1 := cellS71_1 HGz33; have hcz33_2 := cellS71_2 HGz33; have hcz33_3 := cellS71_3 HGz33; have hcz33_4 := cellS71_4 HGz33; have hcz33_5 := cellS71_5 HGz33; have hcz33_6 := cellS71_6 HGz33; have hcz33_7 := cellS71_7 HGz33; have hcz33_8 := cellS71_8 HGz33; have hfz33_0 := blk_frozen HGz33 0; have hfz33_1 := blk_frozen HGz33 1; have hfz33_2 := blk_frozen HGz33 2; have hfz33_3 := blk_frozen HGz33 3; have hfz33_4 := blk_frozen HGz33 4; have hfz33_5 := blk_frozen HGz33 5; have hfz33_6 := blk_frozen HGz33 6; have hfz33_7 := blk_frozen HGz33 7; have hfz33_8 := blk_frozen HGz33 8; clear HGz33 hgz33))
       repeat (go_quiet (first | (go_at_call 49; (with_reducible refine (flywheelref02_Do.calls s0_0 (wrap64 (8 * a3)) 100000000 3 t342 _ A12.out).mono ?_); rintro e w30 ⟨rfl, hb⟩; have n0_ := Aside0.mk (IsS71.below (by repeat (first | (with_reducible first | exact HI0.out | apply IsS71.alloc | apply IsS71.drewN | apply IsS71.drew | apply IsS71.set_0 | apply IsS71.set_1 | apply IsS71.set_2 | apply IsS71.set_3 | apply IsS71.set_4 | apply IsS71.set_5 | apply IsS71.set_6 | apply IsS71.set_7 | apply IsS71.set_8) | exact HI0.out)) hb); have n1_ := Aside0.mk (KeepBut.trans (by repeat (first | (with_reducible first | exact HK.out | apply KeepBut.set_ | apply keep_drewN | apply keep_drew | apply keep_alloc) | exact HK.out)) (KeepBut.of_below hb g none) (.inl rfl)); have n2_ := Aside0.mk (below_step (by repeat (first | (with_reducible first | exact HB.out | apply below_alloc | apply pw_below_drewN | apply below_drew1 | refine below_set ?_ (IsS71.ge HI0.out)) | exact HB.out)) hb); clear HI0; clear HK; clear HB; have HI0 := n0_; have HK := n1_; have HB := n2_; clear n0_ n1_ n2_; (try clear hb); (try clear hb2); (try clear hk); (try clear hi); obtain ⟨HGz31, hgz31⟩ := HI0.out; have hcz31_0 := cellS71_0 HGz31; have hcz31_1 := cellS71_1 HGz31; have hcz31_2 := cellS71_2 HGz31; have hcz31_3 := cellS71_3 HGz31; have hcz31_4 := cellS71_4 HGz31; have hcz31_5 := cellS71_5 HGz31; have hcz31_6 := cellS71_6 HGz31; have hcz31_7 := cellS71_7 HGz31; have hcz31_8 := cellS71_8 HGz31; have hfz31_0 := blk_frozen HGz31 0; have hfz31_1 := blk_frozen HGz31 1; have hfz31_2 := blk_frozen HGz31 2; have hfz31_3 := blk_frozen HGz31 3; have hfz31_4 := blk_frozen HGz31 4; have hfz31_5 := blk_frozen HGz31 5; have hfz31_6 := blk_frozen HGz31 6; have hfz31_7 := blk_frozen HGz31 7; have hfz31_8 := blk_frozen HGz31 8; clear HGz31 hgz31) | (go_at_call 49; (with_reducible refine (flywheelref02_Do.calls 9600 a3 (wrap64 (a2 + 100000)) 3 t343 _ A14.out).mono ?_); rintro e w32 ⟨rfl, hb⟩; have n0_ := Aside0.mk (IsS71.below (by repeat (first | (with_reducible first | exact HI0.out | apply IsS71.alloc | apply IsS71.drewN | apply IsS71.drew | apply IsS71.set_0 | apply IsS71.set_1 | apply IsS71.set_2 | apply IsS71.set_3 | apply IsS71.set_4 | apply IsS71.set_5 | apply IsS71.set_6 | apply IsS71.set_7 | apply IsS71.set_8) | exact HI0.out)) hb); have n1_ := Aside0.mk (KeepBut.trans (by repeat (first | (with_reducible first | exact HK.out | apply KeepBut.set_ | apply keep_drewN | apply keep_drew | apply keep_alloc) | exact HK.out)) (KeepBut.of_below hb g none) (.inl rfl)); have n2_ := Aside0.mk (below_step (by repeat (first | (with_reducible first | exact HB.out | apply below_alloc | apply pw_below_drewN | apply below_drew1 | refine below_set ?_ (IsS71.ge HI0.out)) | exact HB.out)) hb); clear HI0; clear HK; clear HB; have HI0 := n0_; have HK := n1_; have HB := n2_; clear n0_ n1_ n2_; (try clear hb); (try clear hb2); (try clear hk); (try clear hi); obtain ⟨HGz33, hgz33⟩ := HI0.out; have hcz33_0 := cellS71_0 HGz33; have hcz33_1 := cellS71_1 HGz33; have hcz33_2 := cellS71_2 HGz33; have hcz33_3 := cellS71_3 HGz33; have hcz33_4 := cellS71_4 HGz33; have hcz33_5 := cellS71_5 HGz33; have hcz33_6 := cellS71_6 HGz33; have hcz33_7 := cellS71_7 HGz33; have hcz33_8 := cellS71_8 HGz33; have hfz33_0 := blk_frozen HGz33 0; have hfz33_1 := blk_frozen HGz33 1; have hfz33_2 := blk_frozen HGz33 2; have hfz33_3 := blk_frozen HGz33 3; have hfz33_4 := blk_frozen HGz33 4; have hfz33_5 := blk_frozen HGz33 5; have hfz33_6 := blk_frozen HGz33 6; have hfz33_7 := blk_frozen HGz33 7; have hfz33_8 := blk_frozen HGz33 8; clear HGz33 hgz33)); try go_wp2_with (first | (go_at_call 49; (with_reducible refine (flywheelref02_Do.calls s0_0 (wrap64 (8 * a3)) 100000000 3 t342 _ A12.out).mono ?_); rintro e w30 ⟨rfl, hb⟩; have n0_ := Aside0.mk (IsS71.below (by repeat (first | (with_reducible first | exact HI0.out | apply IsS71.alloc | apply IsS71.drewN | apply IsS71.drew | apply IsS71.set_0 | apply IsS71.set_1 | apply IsS71.set_2 | apply IsS71.set_3 | apply IsS71.set_4 | apply IsS71.set_5 | apply IsS71.set_6 | apply IsS71.set_7 | apply IsS71.set_8) | exact HI0.out)) hb); have n1_ := Aside0.mk (KeepBut.trans (by repeat (first | (with_reducible first | exact HK.out | apply KeepBut.set_ | apply keep_drewN | apply keep_drew | apply keep_alloc) | exact HK.out)) (KeepBut.of_below hb g none) (.inl rfl)); have n2_ := Aside0.mk (below_step (by repeat (first | (with_reducible first | exact HB.out | apply below_alloc | apply pw_below_drewN | apply below_drew1 | refine below_set ?_ (IsS71.ge HI0.out)) | exact HB.out)) hb); clear HI0; clear HK; clear HB; have HI0 := n0_; have HK := n1_; have HB := n2_; clear n0_ n1_ n2_; (try clear hb); (try clear hb2); (try clear hk); (try clear hi); obtain ⟨HGz31, hgz31⟩ := HI0.out; have hcz31_0 := cellS71_0 HGz31; have hcz31_1 := cellS71_1 HGz31; have hcz31_2 := cellS71_2 HGz31; have hcz31_3 := cellS71_3 HGz31; have hcz31_4 := cellS71_4 HGz31; have hcz31_5 := cellS71_5 HGz31; have hcz31_6 := cellS71_6 HGz31; have hcz31_7 := cellS71_7 HGz31; have hcz31_8 := cellS71_8 HGz31; have hfz31_0 := blk_frozen HGz31 0; have hfz31_1 := blk_frozen HGz31 1; have hfz31_2 := blk_frozen HGz31 2; have hfz31_3 := blk_frozen HGz31 3; have hfz31_4 := blk_frozen HGz31 4; have hfz31_5 := blk_frozen HGz31 5; have hfz31_6 := blk_frozen HGz31 6; have hfz31_7 := blk_frozen HGz31 7; have hfz31_8 := blk_frozen HGz31 8; clear HGz31 hgz31) | (go_at_call 49; (with_reducible refine (flywheelref02_Do.calls 9600 a3 (wrap64 (a2 + 100000)) 3 t343 _ A14.out).mono ?_); rintro e w32 ⟨rfl, hb⟩; have n0_ := Aside0.mk (IsS71.below (by repeat (first | (with_reducible first | exact HI0.out | apply IsS71.alloc | apply IsS71.drewN | apply IsS71.drew | apply IsS71.set_0 | apply IsS71.set_1 | apply IsS71.set_2 | apply IsS71.set_3 | apply IsS71.set_4 | apply IsS71.set_5 | apply IsS71.set_6 | apply IsS71.set_7 | apply IsS71.set_8) | exact HI0.out)) hb); have n1_ := Aside0.mk (KeepBut.trans (by repeat (first | (with_reducible first | exact HK.out | apply KeepBut.set_ | apply keep_drewN | apply keep_drew | apply keep_alloc) | exact HK.out)) (KeepBut.of_below hb g none) (.inl rfl)); have n2_ := Aside0.mk (below_step (by repeat (first | (with_reducible first | exact HB.out | apply below_alloc | apply pw_below_drewN | apply below_drew1 | refine below_set ?_ (IsS71.ge HI0.out)) | exact HB.out)) hb); clear HI0; clear HK; clear HB; have HI0 := n0_; have HK := n1_; have HB := n2_; clear n0_ n1_ n2_; (try clear hb); (try clear hb2); (try clear hk); (try clear hi); obtain ⟨HGz33, hgz33⟩ := HI0.out; have hcz33_0 := cellS71_0 HGz33; have hcz33_1 := cellS71_1 HGz33; have hcz33_2 := cellS71_2 HGz33; have hcz33_3 := cellS71_3 HGz33; have hcz33_4 := cellS71_4 HGz33; have hcz33_5 := cellS71_5 HGz33; have hcz33_6 := cellS71_6 HGz33; have hcz33_7 := cellS71_7 HGz33; have hcz33_8 := cellS71_8 HGz33; have hfz33_0 := blk_frozen HGz33 0; have hfz33_1 := blk_frozen HGz33 1; have hfz33_2 := blk_frozen HGz33 2; have hfz33_3 := blk_frozen HGz33 3; have hfz33_4 := blk_frozen HGz33 4; have hfz33_5 := blk_frozen HGz33 5; have hfz33_6 := blk_frozen HGz33 6; have hfz33_7 := blk_frozen HGz33 7; have hfz33_8 := blk_frozen HGz33 8; clear HGz33 hgz33)))
       first | go_end0 | ((try simp only [Exit.inBlock, Exit.then]); refine bodyPost_ret (results_none rfl _ _ _) rfl ?_)
       exact ⟨by first | rfl | (simp [errW_none, errW_some] <;> rfl) | (simp only [← hji15]; first | rfl | (simp [errW_none, errW_some] <;> rfl)) | (simp [*, errW_none, errW_some] <;> rfl), by repeat (first | (with_reducible first | exact HI0.out | apply IsS71.alloc | apply IsS71.drewN | apply IsS71.drew | apply IsS71.set_0 | apply IsS71.set_1 | apply IsS71.set_2 | apply IsS71.set_3 | apply IsS71.set_4 | apply IsS71.set_5 | apply IsS71.set_6 | apply IsS71.set_7 | apply IsS71.set_8) | exact HI0.out), by repeat (first | (with_reducible first | exact HB.out | apply below_alloc | apply pw_below_drewN | apply below_drew1 | refine below_set ?_ (IsS71.ge HI0.out)) | exact HB.out), by repeat (first | (with_reducible first | exact HK.out | apply KeepBut.set_ | apply keep_drewN | apply keep_drew | apply keep_alloc) | exact HK.out)⟩
     ·replace c13 := Bool.eq_false_iff.mpr c13
      subst c13
      have H1 : (if a1 > 0 then (if (wrap64 ((wrap64 (Int.tdiv (wrap64 (3 * a1)) 2)) + 10000)) < (wrap64 (s0_0 + (mx t342 1000))) then (some (mx (wrap64 ((wrap64 (Int.tdiv (wrap64 (3 * a1)) 2)) + 10000)) s0_0, s0_1, s0_2, s0_3, false, s0_5, s0_6, s0_7, s0_8)) else (some (wrap64 (s0_0 + (mx t342 1000)), s0_1, s0_2, s0_3, false, s0_5, s0_6, s0_7, s0_8))) else (some (wrap64 (s0_0 + (mx t342 1000)), s0_1, s0_2, s0_3, false, s0_5, s0_6, s0_7, s0_8))) = some (r1, r2, r3, r4, r5, r6, r7, r8, r9) := by rw [if_neg (show ¬ (false = true) by decide)] at H; exact H
      clear H
      have H := H1
      clear H1
      obtain ⟨ji34, hji34⟩ : ∃ j_ : Int, (mx t342 1000) = j_ := ⟨_, rfl⟩
      replace H : (if a1 > 0 then (if (wrap64 ((wrap64 (Int.tdiv (wrap64 (3 * a1)) 2)) + 10000)) < (wrap64 (s0_0 + (ji34))) then (some (mx (wrap64 ((wrap64 (Int.tdiv (wrap64 (3 * a1)) 2)) + 10000)) s0_0, s0_1, s0_2, s0_3, false, s0_5, s0_6, s0_7, s0_8)) else (some (wrap64 (s0_0 + (ji34)), s0_1, s0_2, s0_3, false, s0_5, s0_6, s0_7, s0_8))) else (some (wrap64 (s0_0 + (ji34)), s0_1, s0_2, s0_3, false, s0_5, s0_6, s0_7, s0_8))) = some (r1, r2, r3, r4, r5, r6, r7, r8, r9) := by first | (rw [hji34] at H; exact H) | (simp only [hji34] at H ⊢; exact H)
      (try rw [hji34] at A12)
      (try (have hji34l : 1000 ≤ ji34 := by (rw [← hji34]; unfold mx; (repeat' split) <;> omega)))
      (try (have hji34m : 0 ≤ ji34 := by omega))
      have hji34_ : (if t342 < 1000 then 1000 else t342) = ji34 := hji34
      by_cases c35 : a1 > 0
      ·rw [if_pos c35] at H
       have c35b0 : decide (0 < a1) = true := decide_eq_true c35
       clear c35
       by_cases c36 : (wrap64 ((wrap64 (Int.tdiv (wrap64 (3 * a1)) 2)) + 10000)) < (wrap64 (s0_0 + (ji34)))
       ·rw [if_pos c36] at H
        have c36b0 : decide ((wrap64 ((wrap64 (Int.tdiv (wrap64 (3 * a1)) 2)) + 10000)) < (wrap64 (s0_0 + (ji34)))) = true := decide_eq_true c36
        clear c36
        obtain ⟨ji37, hji37⟩ : ∃ j_ : Int, (mx (wrap64 ((wrap64 (Int.tdiv (wrap64 (3 * a1)) 2)) + 10000)) s0_0) = j_ := ⟨_, rfl⟩
        replace H : (some (ji37, s0_1, s0_2, s0_3, false, s0_5, s0_6, s0_7, s0_8)) = some (r1, r2, r3, r4, r5, r6, r7, r8, r9) := by first | (rw [hji37] at H; exact H) | (simp only [hji37] at H ⊢; exact H)
        (try rw [hji37] at A12)
        have hji37_ : (if (wrap64 ((wrap64 (Int.tdiv (wrap64 (3 * a1)) 2)) + 10000)) < s0_0 then s0_0 else (wrap64 ((wrap64 (Int.tdiv (wrap64 (3 * a1)) 2)) + 10000))) = ji37 := hji37
        simp only [Option.some.injEq, Prod.mk.injEq] at H
        obtain ⟨rfl, rfl, rfl, rfl, rfl, rfl, rfl, rfl, rfl⟩ := H
        obtain ⟨HGz38, hgz38⟩ := HI0.out
        have hcz38_0 := cellS71_0 HGz38
        have hcz38_1 := cellS71_1 HGz38
        have hcz38_2 := cellS71_2 HGz38
        have hcz38_3 := cellS71_3 HGz38
        have hcz38_4 := cellS71_4 HGz38
        have hcz38_5 := cellS71_5 HGz38
        have hcz38_6 := cellS71_6 HGz38
        have hcz38_7 := cellS71_7 HGz38
        have hcz38_8 := cellS71_8 HGz38
        have hfz38_0 := blk_frozen HGz38 0
        have hfz38_1 := blk_frozen HGz38 1
        have hfz38_2 := blk_frozen HGz38 2
        have hfz38_3 := blk_frozen HGz38 3
        have hfz38_4 := blk_frozen HGz38 4
        have hfz38_5 := blk_frozen HGz38 5
        have hfz38_6 := blk_frozen HGz38 6
        have hfz38_7 := blk_frozen HGz38 7
        have hfz38_8 := blk_frozen HGz38 8
        clear HGz38 hgz38
        go_wp2_with (first | (go_at_call 49; (with_reducible refine (flywheelref02_Do.calls s0_0 (wrap64 (8 * a3)) 100000000 3 t342 _ A12.out).mono ?_); rintro e w39 ⟨rfl, hb⟩; have n0_ := Aside0.mk (IsS71.below (by repeat (first | (with_reducible first | exact HI0.out | apply IsS71.alloc | apply IsS71.drewN | apply IsS71.drew | apply IsS71.set_0 | apply IsS71.set_1 | apply IsS71.set_2 | apply IsS71.set_3 | apply IsS71.set_4 | apply IsS71.set_5 | apply IsS71.set_6 | apply IsS71.set_7 | apply IsS71.set_8) | exact HI0.out)) hb); have n1_ := Aside0.mk (KeepBut.trans (by repeat (first | (with_reducible first | exact HK.out | apply KeepBut.set_ | apply keep_drewN | apply keep_drew | apply keep_alloc) | exact HK.out)) (KeepBut.of_below hb g none) (.inl rfl)); have n2_ := Aside0.mk (below_step (by repeat (first | (with_reducible first | exact HB.out | apply below_alloc | apply pw_below_drewN | apply below_drew1 | refine below_set ?_ (IsS71.ge HI0.out)) | exact HB.out)) hb); clear HI0; clear HK; clear HB; have HI0 := n0_; have HK := n1_; have HB := n2_; clear n0_ n1_ n2_; (try clear hb); (try clear hb2); (try clear hk); (try clear hi); obtain ⟨HGz40, hgz40⟩ := HI0.out; have hcz40_0 := cellS71_0 HGz40; have hcz40_1 := cellS71_1 HGz40; have hcz40_2 := cellS71_2 HGz40; have hcz40_3 := cellS71_3 HGz40; have hcz40_4 := cellS71_4 HGz40; have hcz40_5 := cellS71_5 HGz40; have hcz40_6 := cellS71_6 HGz40; have hcz40_7 := cellS71_7 HGz40; have hcz40_8 := cellS71_8 HGz40; have hfz40_0 := blk_frozen HGz40 0; have hfz40_1 := blk_frozen HGz40 1; have hfz40_2 := blk_frozen HGz40 2; have hfz40_3 := blk_frozen HGz40 3; have hfz40_4 := blk_frozen HGz40 4; have hfz40_5 := blk_frozen HGz40 5; have hfz40_6 := blk_frozen HGz40 6; have hfz40_7 := blk_frozen HGz40 7; have hfz40_8 := blk_frozen HGz40 8; clear HGz40 hgz40))
        repeat (go_quiet (first | (go_at_call 49; (with_reducible refine (flywheelref02_Do.calls s0_0 (wrap64 (8 * a3)) 100000000 3 t342 _ A12.out).mono ?_); rintro e w39 ⟨rfl, hb⟩; have n0_ := Aside0.mk (IsS71.below (by repeat (first | (with_reducible first | exact HI0.out | apply IsS71.alloc | apply IsS71.drewN | apply IsS71.drew | apply IsS71.set_0 | apply IsS71.set_1 | apply IsS71.set_2 | apply IsS71.set_3 | apply IsS71.set_4 | apply IsS71.set_5 | apply IsS71.set_6 | apply IsS71.set_7 | apply IsS71.set_8) | exact HI0.out)) hb); have n1_ := Aside0.mk (KeepBut.trans (by repeat (first | (with_reducible first | exact HK.out | apply KeepBut.set_ | apply keep_drewN | apply keep_drew | apply keep_alloc) | exact HK.out)) (KeepBut.of_below hb g none) (.inl rfl)); have n2_ := Aside0.mk (below_step (by repeat (first | (with_reducible first | exact HB.out | apply below_alloc | apply pw_below_drewN | apply below_drew1 | refine below_set ?_ (IsS71.ge HI0.out)) | exact HB.out)) hb); clear HI0; clear HK; clear HB; have HI0 := n0_; have HK := n1_; have HB := n2_; clear n0_ n1_ n2_; (try clear hb); (try clear hb2); (try clear hk); (try clear hi); obtain ⟨HGz40, hgz40⟩ := HI0.out; have hcz40_0 := cellS71_0 HGz40; have hcz40_1 := cellS71_1 HGz40; have hcz40_2 := cellS71_2 HGz40; have hcz40_3 := cellS71_3 HGz40; have hcz40_4 := cellS71_4 HGz40; have hcz40_5 := cellS71_5 HGz40; have hcz40_6 := cellS71_6 HGz40; have hcz40_7 := cellS71_7 HGz40; have hcz40_8 := cellS71_8 HGz40; have hfz40_0 := blk_frozen HGz40 0; have hfz40_1 := blk_frozen HGz40 1; have hfz40_2 := blk_frozen HGz40 2; have hfz40_3 := blk_frozen HGz40 3; have hfz40_4 := blk_frozen HGz40 4; have hfz40_5 := blk_frozen HGz40 5; have hfz40_6 := blk_frozen HGz40 6; have hfz40_7 := blk_frozen HGz40 7; have hfz40_8 := blk_frozen HGz40 8; clear HGz40 hgz40)); try go_wp2_with (first | (go_at_call 49; (with_reducible refine (flywheelref02_Do.calls s0_0 (wrap64 (8 * a3)) 100000000 3 t342 _ A12.out).mono ?_); rintro e w39 ⟨rfl, hb⟩; have n0_ := Aside0.mk (IsS71.below (by repeat (first | (with_reducible first | exact HI0.out | apply IsS71.alloc | apply IsS71.drewN | apply IsS71.drew | apply IsS71.set_0 | apply IsS71.set_1 | apply IsS71.set_2 | apply IsS71.set_3 | apply IsS71.set_4 | apply IsS71.set_5 | apply IsS71.set_6 | apply IsS71.set_7 | apply IsS71.set_8) | exact HI0.out)) hb); have n1_ := Aside0.mk (KeepBut.trans (by repeat (first | (with_reducible first | exact HK.out | apply KeepBut.set_ | apply keep_drewN | apply keep_drew | apply keep_alloc) | exact HK.out)) (KeepBut.of_below hb g none) (.inl rfl)); have n2_ := Aside0.mk (below_step (by repeat (first | (with_reducible first | exact HB.out | apply below_alloc | apply pw_below_drewN | apply below_drew1 | refine below_set ?_ (IsS71.ge HI0.out)) | exact HB.out)) hb); clear HI0; clear HK; clear HB; have HI0 := n0_; have HK := n1_; have HB := n2_; clear n0_ n1_ n2_; (try clear hb); (try clear hb2); (try clear hk); (try clear hi); obtain ⟨HGz40, hgz40⟩ := HI0.out; have hcz40_0 := cellS71_0 HGz40; have hcz40_1 := cellS71_1 HGz40; have hcz40_2 := cellS71_2 HGz40; have hcz40_3 := cellS71_3 HGz40; have hcz40_4 := cellS71_4 HGz40; have hcz40_5 := cellS71_5 HGz40; have hcz40_6 := cellS71_6 HGz40; have hcz40_7 := cellS71_7 HGz40; have hcz40_8 := cellS71_8 HGz40; have hfz40_0 := blk_frozen HGz40 0; have hfz40_1 := blk_frozen HGz40 1; have hfz40_2 := blk_frozen HGz40 2; have hfz40_3 := blk_frozen HGz40 3; have hfz40_4 := blk_frozen HGz40 4; have hfz40_5 := blk_frozen HGz40 5; have hfz40_6 := blk_frozen HGz40 6; have hfz40_7 := blk_frozen HGz40 7; have hfz40_8 := blk_frozen HGz40 8; clear HGz40 hgz40)))
        first | go_end0 | ((try simp only [Exit.inBlock, Exit.then]); refine bodyPost_ret (results_none rfl _ _ _) rfl ?_)
        exact ⟨by first | rfl | (simp [errW_none, errW_some] <;> rfl) | (simp only [← hji34, ← hji37]; first | rfl | (simp [errW_none, errW_some] <;> rfl)) | (simp [*, errW_none, errW_some] <;> rfl), by repeat (first | (with_reducible first | exact HI0.out | apply IsS71.alloc | apply IsS71.drewN | apply IsS71.drew | apply IsS71.set_0 | apply IsS71.set_1 | apply IsS71.set_2 | apply IsS71.set_3 | apply IsS71.set_4 | apply IsS71.set_5 | apply IsS71.set_6 | apply IsS71.set_7 | apply IsS71.set_8) | exact HI0.out), by repeat (first | (with_reducible first | exact HB.out | apply below_alloc | apply pw_below_drewN | apply below_drew1 | refine below_set ?_ (IsS71.ge HI0.out)) | exact HB.out), by repeat (first | (with_reducible first | exact HK.out | apply KeepBut.set_ | apply keep_drewN | apply keep_drew | apply keep_alloc) | exact HK.out)⟩
       ·rw [if_neg c36] at H
        have c36b0 : decide ((wrap64 ((wrap64 (Int.tdiv (wrap64 (3 * a1)) 2)) + 10000)) < (wrap64 (s0_0 + (ji34)))) = false := decide_eq_false c36
        clear c36
        simp only [Option.some.injEq, Prod.mk.injEq] at H
        obtain ⟨rfl, rfl, rfl, rfl, rfl, rfl, rfl, rfl, rfl⟩ := H
        obtain ⟨HGz41, hgz41⟩ := HI0.out
        have hcz41_0 := cellS71_0 HGz41
        have hcz41_1 := cellS71_1 HGz41
        have hcz41_2 := cellS71_2 HGz41
        have hcz41_3 := cellS71_3 HGz41
        have hcz41_4 := cellS71_4 HGz41
        have hcz41_5 := cellS71_5 HGz41
        have hcz41_6 := cellS71_6 HGz41
        have hcz41_7 := cellS71_7 HGz41
        have hcz41_8 := cellS71_8 HGz41
        have hfz41_0 := blk_frozen HGz41 0
        have hfz41_1 := blk_frozen HGz41 1
        have hfz41_2 := blk_frozen HGz41 2
        have hfz41_3 := blk_frozen HGz41 3
        have hfz41_4 := blk_frozen HGz41 4
        have hfz41_5 := blk_frozen HGz41 5
        have hfz41_6 := blk_frozen HGz41 6
        have hfz41_7 := blk_frozen HGz41 7
        have hfz41_8 := blk_frozen HGz41 8
        clear HGz41 hgz41
        go_wp2_with (first | (go_at_call 49; (with_reducible refine (flywheelref02_Do.calls s0_0 (wrap64 (8 * a3)) 100000000 3 t342 _ A12.out).mono ?_); rintro e w42 ⟨rfl, hb⟩; have n0_ := Aside0.mk (IsS71.below (by repeat (first | (with_reducible first | exact HI0.out | apply IsS71.alloc | apply IsS71.drewN | apply IsS71.drew | apply IsS71.set_0 | apply IsS71.set_1 | apply IsS71.set_2 | apply IsS71.set_3 | apply IsS71.set_4 | apply IsS71.set_5 | apply IsS71.set_6 | apply IsS71.set_7 | apply IsS71.set_8) | exact HI0.out)) hb); have n1_ := Aside0.mk (KeepBut.trans (by repeat (first | (with_reducible first | exact HK.out | apply KeepBut.set_ | apply keep_drewN | apply keep_drew | apply keep_alloc) | exact HK.out)) (KeepBut.of_below hb g none) (.inl rfl)); have n2_ := Aside0.mk (below_step (by repeat (first | (with_reducible first | exact HB.out | apply below_alloc | apply pw_below_drewN | apply below_drew1 | refine below_set ?_ (IsS71.ge HI0.out)) | exact HB.out)) hb); clear HI0; clear HK; clear HB; have HI0 := n0_; have HK := n1_; have HB := n2_; clear n0_ n1_ n2_; (try clear hb); (try clear hb2); (try clear hk); (try clear hi); obtain ⟨HGz43, hgz43⟩ := HI0.out; have hcz43_0 := cellS71_0 HGz43; have hcz43_1 := cellS71_1 HGz43; have hcz43_2 := cellS71_2 HGz43; have hcz43_3 := cellS71_3 HGz43; have hcz43_4 := cellS71_4 HGz43; have hcz43_5 := cellS71_5 HGz43; have hcz43_6 := cellS71_6 HGz43; have hcz43_7 := cellS71_7 HGz43; have hcz43_8 := cellS71_8 HGz43; have hfz43_0 := blk_frozen HGz43 0; have hfz43_1 := blk_frozen HGz43 1; have hfz43_2 := blk_frozen HGz43 2; have hfz43_3 := blk_frozen HGz43 3; have hfz43_4 := blk_frozen HGz43 4; have hfz43_5 := blk_frozen HGz43 5; have hfz43_6 := blk_frozen HGz43 6; have hfz43_7 := blk_frozen HGz43 7; have hfz43_8 := blk_frozen HGz43 8; clear HGz43 hgz43))
        repeat (go_quiet (first | (go_at_call 49; (with_reducible refine (flywheelref02_Do.calls s0_0 (wrap64 (8 * a3)) 100000000 3 t342 _ A12.out).mono ?_); rintro e w42 ⟨rfl, hb⟩; have n0_ := Aside0.mk (IsS71.below (by repeat (first | (with_reducible first | exact HI0.out | apply IsS71.alloc | apply IsS71.drewN | apply IsS71.drew | apply IsS71.set_0 | apply IsS71.set_1 | apply IsS71.set_2 | apply IsS71.set_3 | apply IsS71.set_4 | apply IsS71.set_5 | apply IsS71.set_6 | apply IsS71.set_7 | apply IsS71.set_8) | exact HI0.out)) hb); have n1_ := Aside0.mk (KeepBut.trans (by repeat (first | (with_reducible first | exact HK.out | apply KeepBut.set_ | apply keep_drewN | apply keep_drew | apply keep_alloc) | exact HK.out)) (KeepBut.of_below hb g none) (.inl rfl)); have n2_ := Aside0.mk (below_step (by repeat (first | (with_reducible first | exact HB.out | apply below_alloc | apply pw_below_drewN | apply below_drew1 | refine below_set ?_ (IsS71.ge HI0.out)) | exact HB.out)) hb); clear HI0; clear HK; clear HB; have HI0 := n0_; have HK := n1_; have HB := n2_; clear n0_ n1_ n2_; (try clear hb); (try clear hb2); (try clear hk); (try clear hi); obtain ⟨HGz43, hgz43⟩ := HI0.out; have hcz43_0 := cellS71_0 HGz43; have hcz43_1 := cellS71_1 HGz43; have hcz43_2 := cellS71_2 HGz43; have hcz43_3 := cellS71_3 HGz43; have hcz43_4 := cellS71_4 HGz43; have hcz43_5 := cellS71_5 HGz43; have hcz43_6 := cellS71_6 HGz43; have hcz43_7 := cellS71_7 HGz43; have hcz43_8 := cellS71_8 HGz43; have hfz43_0 := blk_frozen HGz43 0; have hfz43_1 := blk_frozen HGz43 1; have hfz43_2 := blk_frozen HGz43 2; have hfz43_3 := blk_frozen HGz43 3; have hfz43_4 := blk_frozen HGz43 4; have hfz43_5 := blk_frozen HGz43 5; have hfz43_6 := blk_frozen HGz43 6; have hfz43_7 := blk_frozen HGz43 7; have hfz43_8 := blk_frozen HGz43 8; clear HGz43 hgz43)); try go_wp2_with (first | (go_at_call 49; (with_reducible refine (flywheelref02_Do.calls s0_0 (wrap64 (8 * a3)) 100000000 3 t342 _ A12.out).mono ?_); rintro e w42 ⟨rfl, hb⟩; have n0_ := Aside0.mk (IsS71.below (by repeat (first | (with_reducible first | exact HI0.out | apply IsS71.alloc | apply IsS71.drewN | apply IsS71.drew | apply IsS71.set_0 | apply IsS71.set_1 | apply IsS71.set_2 | apply IsS71.set_3 | apply IsS71.set_4 | apply IsS71.set_5 | apply IsS71.set_6 | apply IsS71.set_7 | apply IsS71.set_8) | exact HI0.out)) hb); have n1_ := Aside0.mk (KeepBut.trans (by repeat (first | (with_reducible first | exact HK.out | apply KeepBut.set_ | apply keep_drewN | apply keep_drew | apply keep_alloc) | exact HK.out)) (KeepBut.of_below hb g none) (.inl rfl)); have n2_ := Aside0.mk (below_step (by repeat (first | (with_reducible first | exact HB.out | apply below_alloc | apply pw_below_drewN | apply below_drew1 | refine below_set ?_ (IsS71.ge HI0.out)) | exact HB.out)) hb); clear HI0; clear HK; clear HB; have HI0 := n0_; have HK := n1_; have HB := n2_; clear n0_ n1_ n2_; (try clear hb); (try clear hb2); (try clear hk); (try clear hi); obtain ⟨HGz43, hgz43⟩ := HI0.out; have hcz43_0 := cellS71_0 HGz43; have hcz43_1 := cellS71_1 HGz43; have hcz43_2 := cellS71_2 HGz43; have hcz43_3 := cellS71_3 HGz43; have hcz43_4 := cellS71_4 HGz43; have hcz43_5 := cellS71_5 HGz43; have hcz43_6 := cellS71_6 HGz43; have hcz43_7 := cellS71_7 HGz43; have hcz43_8 := cellS71_8 HGz43; have hfz43_0 := blk_frozen HGz43 0; have hfz43_1 := blk_frozen HGz43 1; have hfz43_2 := blk_frozen HGz43 2; have hfz43_3 := blk_frozen HGz43 3; have hfz43_4 := blk_frozen HGz43 4; have hfz43_5 := blk_frozen HGz43 5; have hfz43_6 := blk_frozen HGz43 6; have hfz43_7 := blk_frozen HGz43 7; have hfz43_8 := blk_frozen HGz43 8; clear HGz43 hgz43)))
        first | go_end0 | ((try simp only [Exit.inBlock, Exit.then]); refine bodyPost_ret (results_none rfl _ _ _) rfl ?_)
        exact ⟨by first | rfl | (simp [errW_none, errW_some] <;> rfl) | (simp only [← hji34]; first | rfl | (simp [errW_none, errW_some] <;> rfl)) | (simp [*, errW_none, errW_some] <;> rfl), by repeat (first | (with_reducible first | exact HI0.out | apply IsS71.alloc | apply IsS71.drewN | apply IsS71.drew | apply IsS71.set_0 | apply IsS71.set_1 | apply IsS71.set_2 | apply IsS71.set_3 | apply IsS71.set_4 | apply IsS71.set_5 | apply IsS71.set_6 | apply IsS71.set_7 | apply IsS71.set_8) | exact HI0.out), by repeat (first | (with_reducible first | exact HB.out | apply below_alloc | apply pw_below_drewN | apply below_drew1 | refine below_set ?_ (IsS71.ge HI0.out)) | exact HB.out), by repeat (first | (with_reducible first | exact HK.out | apply KeepBut.set_ | apply keep_drewN | apply keep_drew | apply keep_alloc) | exact HK.out)⟩
      ·rw [if_neg c35] at H
       have c35b0 : decide (0 < a1) = false := decide_eq_false c35
       clear c35
       simp only [Option.some.injEq, Prod.mk.injEq] at H
       obtain ⟨rfl, rfl, rfl, rfl, rfl, rfl, rfl, rfl, rfl⟩ := H
       obtain ⟨HGz44, hgz44⟩ := HI0.out
       have hcz44_0 := cellS71_0 HGz44
       have hcz44_1 := cellS71_1 HGz44
       have hcz44_2 := cellS71_2 HGz44
       have hcz44_3 := cellS71_3 HGz44
       have hcz44_4 := cellS71_4 HGz44
       have hcz44_5 := cellS71_5 HGz44
       have hcz44_6 := cellS71_6 HGz44
       have hcz44_7 := cellS71_7 HGz44
       have hcz44_8 := cellS71_8 HGz44
       have hfz44_0 := blk_frozen HGz44 0
       have hfz44_1 := blk_frozen HGz44 1
       have hfz44_2 := blk_frozen HGz44 2
       have hfz44_3 := blk_frozen HGz44 3
       have hfz44_4 := blk_frozen HGz44 4
       have hfz44_5 := blk_frozen HGz44 5
       have hfz44_6 := blk_frozen HGz44 6
       have hfz44_7 := blk_frozen HGz44 7
       have hfz44_8 := blk_frozen HGz44 8
       clear HGz44 hgz44
       go_wp2_with (first | (go_at_call 49; (with_reducible refine (flywheelref02_Do.calls s0_0 (wrap64 (8 * a3)) 100000000 3 t342 _ A12.out).mono ?_); rintro e w45 ⟨rfl, hb⟩; have n0_ := Aside0.mk (IsS71.below (by repeat (first | (with_reducible first | exact HI0.out | apply IsS71.alloc | apply IsS71.drewN | apply IsS71.drew | apply IsS71.set_0 | apply IsS71.set_1 | apply IsS71.set_2 | apply IsS71.set_3 | apply IsS71.set_4 | apply IsS71.set_5 | apply IsS71.set_6 | apply IsS71.set_7 | apply IsS71.set_8) | exact HI0.out)) hb); have n1_ := Aside0.mk (KeepBut.trans (by repeat (first | (with_reducible first | exact HK.out | apply KeepBut.set_ | apply keep_drewN | apply keep_drew | apply keep_alloc) | exact HK.out)) (KeepBut.of_below hb g none) (.inl rfl)); have n2_ := Aside0.mk (below_step (by repeat (first | (with_reducible first | exact HB.out | apply below_alloc | apply pw_below_drewN | apply below_drew1 | refine below_set ?_ (IsS71.ge HI0.out)) | exact HB.out)) hb); clear HI0; clear HK; clear HB; have HI0 := n0_; have HK := n1_; have HB := n2_; clear n0_ n1_ n2_; (try clear hb); (try clear hb2); (try clear hk); (try clear hi); obtain ⟨HGz46, hgz46⟩ := HI0.out; have hcz46_0 := cellS71_0 HGz46; have hcz46_1 := cellS71_1 HGz46; have hcz46_2 := cellS71_2 HGz46; have hcz46_3 := cellS71_3 HGz46; have hcz46_4 := cellS71_4 HGz46; have hcz46_5 := cellS71_5 HGz46; have hcz46_6 := cellS71_6 HGz46; have hcz46_7 := cellS71_7 HGz46; have hcz46_8 := cellS71_8 HGz46; have hfz46_0 := blk_frozen HGz46 0; have hfz46_1 := blk_frozen HGz46 1; have hfz46_2 := blk_frozen HGz46 2; have hfz46_3 := blk_frozen HGz46 3; have hfz46_4 := blk_frozen HGz46 4; have hfz46_5 := blk_frozen HGz46 5; have hfz46_6 := blk_frozen HGz46 6; have hfz46_7 := blk_frozen HGz46 7; have hfz46_8 := blk_frozen HGz46 8; clear HGz46 hgz46))
       repeat (go_quiet (first | (go_at_call 49; (with_reducible refine (flywheelref02_Do.calls s0_0 (wrap64 (8 * a3)) 100000000 3 t342 _ A12.out).mono ?_); rintro e w45 ⟨rfl, hb⟩; have n0_ := Aside0.mk (IsS71.below (by repeat (first | (with_reducible first | exact HI0.out | apply IsS71.alloc | apply IsS71.drewN | apply IsS71.drew | apply IsS71.set_0 | apply IsS71.set_1 | apply IsS71.set_2 | apply IsS71.set_3 | apply IsS71.set_4 | apply IsS71.set_5 | apply IsS71.set_6 | apply IsS71.set_7 | apply IsS71.set_8) | exact HI0.out)) hb); have n1_ := Aside0.mk (KeepBut.trans (by repeat (first | (with_reducible first | exact HK.out | apply KeepBut.set_ | apply keep_drewN | apply keep_drew | apply keep_alloc) | exact HK.out)) (KeepBut.of_below hb g none) (.inl rfl)); have n2_ := Aside0.mk (below_step (by repeat (first | (with_reducible first | exact HB.out | apply below_alloc | apply pw_below_drewN | apply below_drew1 | refine below_set ?_ (IsS71.ge HI0.out)) | exact HB.out)) hb); clear HI0; clear HK; clear HB; have HI0 := n0_; have HK := n1_; have HB := n2_; clear n0_ n1_ n2_; (try clear hb); (try clear hb2); (try clear hk); (try clear hi); obtain ⟨HGz46, hgz46⟩ := HI0.out; have hcz46_0 := cellS71_0 HGz46; have hcz46_1 := cellS71_1 HGz46; have hcz46_2 := cellS71_2 HGz46; have hcz46_3 := cellS71_3 HGz46; have hcz46_4 := cellS71_4 HGz46; have hcz46_5 := cellS71_5 HGz46; have hcz46_6 := cellS71_6 HGz46; have hcz46_7 := cellS71_7 HGz46; have hcz46_8 := cellS71_8 HGz46; have hfz46_0 := blk_frozen HGz46 0; have hfz46_1 := blk_frozen HGz46 1; have hfz46_2 := blk_frozen HGz46 2; have hfz46_3 := blk_frozen HGz46 3; have hfz46_4 := blk_frozen HGz46 4; have hfz46_5 := blk_frozen HGz46 5; have hfz46_6 := blk_frozen HGz46 6; have hfz46_7 := blk_frozen HGz46 7; have hfz46_8 := blk_frozen HGz46 8; clear HGz46 hgz46)); try go_wp2_with (first | (go_at_call 49; (with_reducible refine (flywheelref02_Do.calls s0_0 (wrap64 (8 * a3)) 100000000 3 t342 _ A12.out).mono ?_); rintro e w45 ⟨rfl, hb⟩; have n0_ := Aside0.mk (IsS71.below (by repeat (first | (with_reducible first | exact HI0.out | apply IsS71.alloc | apply IsS71.drewN | apply IsS71.drew | apply IsS71.set_0 | apply IsS71.set_1 | apply IsS71.set_2 | apply IsS71.set_3 | apply IsS71.set_4 | apply IsS71.set_5 | apply IsS71.set_6 | apply IsS71.set_7 | apply IsS71.set_8) | exact HI0.out)) hb); have n1_ := Aside0.mk (KeepBut.trans (by repeat (first | (with_reducible first | exact HK.out | apply KeepBut.set_ | apply keep_drewN | apply keep_drew | apply keep_alloc) | exact HK.out)) (KeepBut.of_below hb g none) (.inl rfl)); have n2_ := Aside0.mk (below_step (by repeat (first | (with_reducible first | exact HB.out | apply below_alloc | apply pw_below_drewN | apply below_drew1 | refine below_set ?_ (IsS71.ge HI0.out)) | exact HB.out)) hb); clear HI0; clear HK; clear HB; have HI0 := n0_; have HK := n1_; have HB := n2_; clear n0_ n1_ n2_; (try clear hb); (try clear hb2); (try clear hk); (try clear hi); obtain ⟨HGz46, hgz46⟩ := HI0.out; have hcz46_0 := cellS71_0 HGz46; have hcz46_1 := cellS71_1 HGz46; have hcz46_2 := cellS71_2 HGz46; have hcz46_3 := cellS71_3 HGz46; have hcz46_4 := cellS71_4 HGz46; have hcz46_5 := cellS71_5 HGz46; have hcz46_6 := cellS71_6 HGz46; have hcz46_7 := cellS71_7 HGz46; have hcz46_8 := cellS71_8 HGz46; have hfz46_0 := blk_frozen HGz46 0; have hfz46_1 := blk_frozen HGz46 1; have hfz46_2 := blk_frozen HGz46 2; have hfz46_3 := blk_frozen HGz46 3; have hfz46_4 := blk_frozen HGz46 4; have hfz46_5 := blk_frozen HGz46 5; have hfz46_6 := blk_frozen HGz46 6; have hfz46_7 := blk_frozen HGz46 7; have hfz46_8 := blk_frozen HGz46 8; clear HGz46 hgz46)))
       first | go_end0 | ((try simp only [Exit.inBlock, Exit.then]); refine bodyPost_ret (results_none rfl _ _ _) rfl ?_)
       exact ⟨by first | rfl | (simp [errW_none, errW_some] <;> rfl) | (simp only [← hji34]; first | rfl | (simp [errW_none, errW_some] <;> rfl)) | (simp [*, errW_none, errW_some] <;> rfl), by repeat (first | (with_reducible first | exact HI0.out | apply IsS71.alloc | apply IsS71.drewN | apply IsS71.drew | apply IsS71.set_0 | apply IsS71.set_1 | apply IsS71.set_2 | apply IsS71.set_3 | apply IsS71.set_4 | apply IsS71.set_5 | apply IsS71.set_6 | apply IsS71.set_7 | apply IsS71.set_8) | exact HI0.out), by repeat (first | (with_reducible first | exact HB.out | apply below_alloc | apply pw_below_drewN | apply below_drew1 | refine below_set ?_ (IsS71.ge HI0.out)) | exact HB.out), by repeat (first | (with_reducible first | exact HK.out | apply KeepBut.set_ | apply keep_drewN | apply keep_drew | apply keep_alloc) | exact HK.out)⟩
end Go.Proofs.Ytaelmmbodigheaa.P
end

section
namespace Go.Proofs.Ytaelmmbodigheaa.P
open Go.RowKit Go.Proofs.YtaelmmbodigheaaW.PrintWords Go.Proofs.YtaelmmbodigheaaW.PrintLast Go.Proofs.YtaelmmbodigheaaW.PrintMore
attribute [local go_sem] max2_int min2_int max_two min_two max_three min_three max_four min_four   -- for this text's walks alone
set_option linter.unusedVariables false
set_option linter.unusedSimpArgs false
def flywheelref01_Sub.j0 : Nat → Int → Int → Bool → Option (Int)
 | 0, _, _, _ => none
 | k + 1, x0, x1, x12 => if x12 = true then (some 9223372036854775807) else (if x1 > 0 then (if x0 < (wrap64 ((-9223372036854775808) + x1)) then (some (-9223372036854775808)) else (some (wrap64 (x0 - x1)))) else (some (wrap64 (x0 - x1))))
def flywheelref01_Sub.f (k : Nat) (a0 : Int) (a1 : Int) : Option (Int) := if a1 < 0 then (flywheelref01_Sub.j0 k a0 a1 (decide (a0 > (wrap64 (9223372036854775807 + a1))))) else (flywheelref01_Sub.j0 k a0 a1 false)
set_option maxHeartbeats 8000000 in
set_option maxRecDepth 100000 in
theorem flywheelref01_Sub.calls (k : Nat) (a0 : Int) (a1 : Int) (r : Int) (w : World) (h : flywheelref01_Sub.f k a0 a1 = some r) :
  Calls Try.prog 60 #[.int .i64 a0, .int .i64 a1] w fun e w' => e = .returned (.int .i64 r) ∧ Drawn0 w w' := by
 have H : (if a1 < 0 then (flywheelref01_Sub.j0 k a0 a1 (decide (a0 > (wrap64 (9223372036854775807 + a1))))) else (flywheelref01_Sub.j0 k a0 a1 false)) = some r := h
 clear h
 have HC3 := Aside0.mk H
 clear H
 go_enter Try.func60, Try.ntmps60
 go_upto_region 1 with (fail)
 go_cut [12] (fun v12 wc => ∃ (kq : Nat) (x12_2 : Bool), v12 = .bool x12_2 ∧ Aside0 (flywheelref01_Sub.j0 kq a0 a1 x12_2 = some r) ∧ Aside0 (kq ≤ k) ∧ Drawn0 w wc)
 case first =>
  have H := HC3.out
  clear HC3
  by_cases c4 : a1 < 0
  ·rw [if_pos c4] at H
   have c4b0 : decide (a1 < 0) = true := decide_eq_true c4
   clear c4
   (first | rw [c4b0] | (simp only [i64_w, i32_w]; rw [c4b0]) | skip)
   have H' := Aside0.mk H
   clear H
   go_wp2
   go_meet
   case rel => exact ⟨_, (decide (a0 > (wrap64 (9223372036854775807 + a1)))), (by first | rfl | (simp; done) | (simp [*]; done)), H', ⟨by first | omega | exact Nat.le_refl _⟩, by repeat (first | exact Drawn0.refl _ | apply Drawn0.step)⟩
  ·rw [if_neg c4] at H
   have c4b0 : decide (a1 < 0) = false := decide_eq_false c4
   clear c4
   (first | rw [c4b0] | (simp only [i64_w, i32_w]; rw [c4b0]) | skip)
   have H' := Aside0.mk H
   clear H
   go_wp2
   go_meet
   case rel => exact ⟨_, (false), (by first | rfl | (simp; done) | (simp [*]; done)), H', ⟨by first | omega | exact Nat.le_refl _⟩, by repeat (first | exact Drawn0.refl _ | apply Drawn0.step)⟩
 case rest =>
  clear HC3
  try clear p2
  try clear c4
  try clear c4b0
  obtain ⟨kq, x12_2, rfl, HA, HJ2, ⟨mc2, rfl⟩⟩ := hcut
  cases kq with
  | zero => exact absurd HA.out (by simp [flywheelref01_Sub.j0])
  | succ kj2 =>
   have H := HA.out
   clear HA
   simp only [flywheelref01_Sub.j0] at H
   by_cases c5 : x12_2 = true
   ·subst c5
    have H1 : (some 9223372036854775807) = some r := by rw [if_pos rfl] at H; exact H
    clear H
    have H := H1
    clear H1
    obtain rfl := Option.some.inj H
    go_wp2
    go_ret
    exact ⟨by first | rfl | (simp; done) | (simp [*]; done), by repeat (first | exact Drawn0.refl _ | apply Drawn0.step)⟩
   ·replace c5 := Bool.eq_false_iff.mpr c5
    subst c5
    have H1 : (if a1 > 0 then (if a0 < (wrap64 ((-9223372036854775808) + a1)) then (some (-9223372036854775808)) else (some (wrap64 (a0 - a1)))) else (some (wrap64 (a0 - a1)))) = some r := by rw [if_neg (show ¬ (false = true) by decide)] at H; exact H
    clear H
    have H := H1
    clear H1
    by_cases c6 : a1 > 0
    ·rw [if_pos c6] at H
     have c6b0 : decide (0 < a1) = true := decide_eq_true c6
     clear c6
     by_cases c7 : a0 < (wrap64 ((-9223372036854775808) + a1))
     ·rw [if_pos c7] at H
      have c7b0 : decide (a0 < (wrap64 ((-9223372036854775808) + a1))) = true := decide_eq_true c7
      clear c7
      obtain rfl := Option.some.inj H
      go_wp2
      go_ret
      exact ⟨by first | rfl | (simp; done) | (simp [*]; done), by repeat (first | exact Drawn0.refl _ | apply Drawn0.step)⟩
     ·rw [if_neg c7] at H
      have c7b0 : decide (a0 < (wrap64 ((-9223372036854775808) + a1))) = false := decide_eq_false c7
      clear c7
      obtain rfl := Option.some.inj H
      go_wp2
      go_ret
      exact ⟨by first | rfl | (simp; done) | (simp [*]; done), by repeat (first | exact Drawn0.refl _ | apply Drawn0.step)⟩
    ·rw [if_neg c6] at H
     have c6b0 : decide (0 < a1) = false := decide_eq_false c6
     clear c6
     obtain rfl := Option.some.inj H
     go_wp2
     go_ret
     exact ⟨by first | rfl | (simp; done) | (simp [*]; done), by repeat (first | exact Drawn0.refl _ | apply Drawn0.step)⟩
def flywheelref01_Neg.f (k : Nat) (a0 : Int) : Option (Int) := (flywheelref01_Sub.f k 0 a0).bind fun t344 => (some t344)
set_option maxHeartbeats 8000000 in
set_option maxRecDepth 100000 in
theorem flywheelref01_Neg.calls (k : Nat) (a0 : Int) (r : Int) (w : World) (h : flywheelref01_Neg.f k a0 = some r) :
  Calls Try.prog 55 #[.int .i64 a0] w fun e w' => e = .returned (.int .i64 r) ∧ Drawn0 w w' := by
 have H : ((flywheelref01_Sub.f k 0 a0).bind fun t344 => (some t344)) = some r := h
 clear h
 replace H := Option.bind_eq_some_iff.mp H
 obtain ⟨t344, A20, H⟩ := H
 replace H : (some t344) = some r := H
 have A2 := Aside0.mk A20
 clear A20
 obtain rfl := Option.some.inj H
 go_enter Try.func55, Try.ntmps55
 go_wp2_with (first | ((with_reducible refine gate_callee (f := 60) rfl ?_); refine goesL_ (some 4) rfl rfl Try.func60 (by kernel_rfl) rfl #[.int .i64 0, .int .i64 a0] rfl (by (try simp only [List.map_toArray, List.map_cons, List.map_nil]); first | done | rfl | (simp only [List.length_drop, List.length_take]; rfl)) ?_; (with_reducible refine (flywheelref01_Sub.calls k 0 a0 t344 _ A2.out).mono ?_); rintro e w' ⟨rfl, ⟨nd, rfl⟩⟩; refine ⟨_, rfl, ?_⟩))
 go_ret
 exact ⟨by first | rfl | (simp; done) | (simp [*]; done), by repeat (first | exact Drawn0.refl _ | apply Drawn0.step)⟩
def flywheelref01_Abs.f (k : Nat) (a0 : Int) : Option (Int) := if a0 < 0 then ((flywheelref01_Neg.f k a0).bind fun t345 => (some t345)) else (some a0)
set_option maxHeartbeats 8000000 in
set_option maxRecDepth 100000 in
theorem flywheelref01_Abs.calls (k : Nat) (a0 : Int) (r : Int) (w : World) (h : flywheelref01_Abs.f k a0 = some r) :
  Calls Try.prog 48 #[.int .i64 a0] w fun e w' => e = .returned (.int .i64 r) ∧ Drawn0 w w' := by
 have H : (if a0 < 0 then ((flywheelref01_Neg.f k a0).bind fun t345 => (some t345)) else (some a0)) = some r := h
 clear h
 by_cases c2 : a0 < 0
 ·rw [if_pos c2] at H
  have c2b0 : decide (a0 < 0) = true := decide_eq_true c2
  clear c2
  replace H := Option.bind_eq_some_iff.mp H
  obtain ⟨t345, A30, H⟩ := H
  replace H : (some t345) = some r := H
  have A3 := Aside0.mk A30
  clear A30
  obtain rfl := Option.some.inj H
  go_enter Try.func48, Try.ntmps48
  go_wp2_with (first | ((with_reducible refine gate_callee (f := 55) rfl ?_); refine goesL_ (some 6) rfl rfl Try.func55 (by kernel_rfl) rfl #[.int .i64 a0] rfl (by (try simp only [List.map_toArray, List.map_cons, List.map_nil]); first | done | rfl | (simp only [List.length_drop, List.length_take]; rfl)) ?_; (with_reducible refine (flywheelref01_Neg.calls k a0 t345 _ A3.out).mono ?_); rintro e w' ⟨rfl, ⟨nd, rfl⟩⟩; refine ⟨_, rfl, ?_⟩))
  go_ret
  exact ⟨by first | rfl | (simp; done) | (simp [*]; done), by repeat (first | exact Drawn0.refl _ | apply Drawn0.step)⟩
 ·rw [if_neg c2] at H
  have c2b0 : decide (a0 < 0) = false := decide_eq_false c2
  clear c2
  obtain rfl := Option.some.inj H
  go_enter Try.func48, Try.ntmps48
  go_wp2
  go_ret
  exact ⟨by first | rfl | (simp; done) | (simp [*]; done), by repeat (first | exact Drawn0.refl _ | apply Drawn0.step)⟩
end Go.Proofs.Ytaelmmbodigheaa.P
end

section
namespace Go.Proofs.Ytaelmmbodigheaa.P
open Go.RowKit Go.Proofs.YtaelmmbodigheaaW.PrintWords Go.Proofs.YtaelmmbodigheaaW.PrintLast Go.Proofs.YtaelmmbodigheaaW.PrintMore
attribute [local go_sem] max2_int min2_int max_two min_two max_three min_three max_four min_four   -- for this text's walks alone
set_option linter.unusedVariables false
set_option linter.unusedSimpArgs false
def flywheelref19_Aimd_cut.f (k : Nat) (s0_0 : Int) (s0_1 : Int) (s0_2 : Int) (s0_3 : Int) (s0_4 : Bool) (s0_5 : Int) (s0_6 : Int) (s0_7 : Bool) (s0_8 : Int) (a1 : Int) : Option (Int × Int × Int × Int × Bool × Int × Int × Bool × Int) := (flywheelref02_Do.f a1 85 100 1).bind fun t346 => (if s0_4 = true then (if a1 < (wrap64 (s0_5 - (wrap64 (3 * s0_6)))) then (some (mn s0_0 t346, s0_1, s0_2, s0_3, s0_4, a1, s0_6, s0_7, s0_8)) else ((flywheelref01_Abs.f k (wrap64 (a1 - s0_5))).bind fun t347 => ((flywheelref02_Do.f (wrap64 (t347 - s0_6)) 5 100 2).bind fun t348 => ((flywheelref02_Do.f (wrap64 (a1 - s0_5)) 5 100 2).bind fun t349 => (some (mn s0_0 t346, s0_1, s0_2, s0_3, s0_4, wrap64 (s0_5 + t349), wrap64 (s0_6 + t348), s0_7, s0_8)))))) else (some (mn s0_0 t346, s0_1, s0_2, s0_3, true, a1, wrap64 (Int.tdiv a1 10), s0_7, s0_8)))
def flywheelref19_Aimd_cut.T0 : Bool × List (List Nat × List Nat) := (true, [([], []), ([], []), ([1], [1]), ([2], [2]), ([3], [3]), ([], []), ([5], [5]), ([4, 6], [4, 6]), ([0, 0, 1, 2, 3, 4, 5, 6, 7], [0]), ([8, 0, 1, 2, 3, 4, 5, 6, 7], [8]), ([9, 7, 6, 0, 1, 2, 3, 4, 5, 6, 7], [7, 9])])
def flywheelref19_Aimd_cut.B0 : List Nat := [0, 0, 2, 6, 14, 0, 32, 126, 255, 511, 1023]
theorem flywheelref19_Aimd_cut.tab0 : rtab .any (opsOf Try.f42 0) = flywheelref19_Aimd_cut.T0 := by kernel_rfl
theorem flywheelref19_Aimd_cut.bits0 : waitsOk flywheelref19_Aimd_cut.T0.2 flywheelref19_Aimd_cut.B0 = true := by kernel_rfl
def flywheelref19_Aimd_cut.T2 : Bool × List (List Nat × List Nat) := (true, [([], []), ([0], [0]), ([1], [1]), ([2], [2]), ([], []), ([4], [4]), ([], []), ([6], [6]), ([7], [7]), ([8], [8]), ([5, 9], [5, 9]), ([10, 5], [10]), ([3, 11], [3, 11]), ([0, 0, 1, 2, 3, 4, 5, 6, 7, 8, 9, 10, 11, 12], [0]), ([13, 0, 1, 2, 3, 4, 5, 6, 7, 8, 9, 10, 11, 12], [13]), ([14, 12, 11, 0, 1, 2, 3, 4, 5, 6, 7, 8, 9, 10, 11, 12], [12, 14])])
def flywheelref19_Aimd_cut.B2 : List Nat := [0, 1, 3, 7, 0, 16, 0, 64, 192, 448, 1008, 2032, 4095, 8191, 16383, 32767]
theorem flywheelref19_Aimd_cut.tab2 : rtab .any (opsOf Try.f42 2) = flywheelref19_Aimd_cut.T2 := by kernel_rfl
theorem flywheelref19_Aimd_cut.bits2 : waitsOk flywheelref19_Aimd_cut.T2.2 flywheelref19_Aimd_cut.B2 = true := by kernel_rfl
def flywheelref19_Aimd_cut.T3 : Bool × List (List Nat × List Nat) := (true, [([], []), ([0], [0]), ([1], [1]), ([2], [2]), ([], []), ([4], [4]), ([3, 5], [3, 5]), ([0, 0, 1, 2, 3, 4, 5, 6], [0]), ([7, 0, 1, 2, 3, 4, 5, 6], [7]), ([8, 6, 5, 0, 1, 2, 3, 4, 5, 6], [6, 8])])
def flywheelref19_Aimd_cut.B3 : List Nat := [0, 1, 3, 7, 0, 16, 63, 127, 255, 511]
theorem flywheelref19_Aimd_cut.tab3 : rtab .any (opsOf Try.f42 3) = flywheelref19_Aimd_cut.T3 := by kernel_rfl
theorem flywheelref19_Aimd_cut.bits3 : waitsOk flywheelref19_Aimd_cut.T3.2 flywheelref19_Aimd_cut.B3 = true := by kernel_rfl
def flywheelref19_Aimd_cut.T6 : Bool × List (List Nat × List Nat) := (true, [([], []), ([], []), ([1], [1]), ([2], [2]), ([3], [3]), ([], []), ([5], [5]), ([6], [6]), ([7], [7]), ([8], [8]), ([4, 9], [4, 9]), ([0, 10], [0, 10]), ([11], [11])])
def flywheelref19_Aimd_cut.B6 : List Nat := [0, 0, 2, 6, 14, 0, 32, 96, 224, 480, 1022, 2047, 4095]
theorem flywheelref19_Aimd_cut.tab6 : rtab .any (opsOf Try.f42 6) = flywheelref19_Aimd_cut.T6 := by kernel_rfl
theorem flywheelref19_Aimd_cut.bits6 : waitsOk flywheelref19_Aimd_cut.T6.2 flywheelref19_Aimd_cut.B6 = true := by kernel_rfl
set_option maxHeartbeats 8000000 in
set_option maxRecDepth 100000 in
theorem flywheelref19_Aimd_cut.calls (k : Nat) (g : Nat) (s0_0 : Int) (s0_1 : Int) (s0_2 : Int) (s0_3 : Int) (s0_4 : Bool) (s0_5 : Int) (s0_6 : Int) (s0_7 : Bool) (s0_8 : Int) (a1 : Int) (r1 : Int) (r2 : Int) (r3 : Int) (r4 : Int) (r5 : Bool) (r6 : Int) (r7 : Int) (r8 : Bool) (r9 : Int) (w0 w : World) (hI : IsS71 w0 w g s0_0 s0_1 s0_2 s0_3 s0_4 s0_5 s0_6 s0_7 s0_8) (hB : Below w0.heap.size w0 w) (h : flywheelref19_Aimd_cut.f k s0_0 s0_1 s0_2 s0_3 s0_4 s0_5 s0_6 s0_7 s0_8 a1 = some (r1, r2, r3, r4, r5, r6, r7, r8, r9)) :
  Calls Try.prog 42 #[.pointer (some ⟨g, 0, none⟩), .int .i64 a1] w fun e w' => e = .returned (.tuple #[]) ∧ IsS71 w0 w' g r1 r2 r3 r4 r5 r6 r7 r8 r9 ∧ Below w0.heap.size w0 w' ∧ KeepBut w w' g none := by
 have HI0 := Aside0.mk hI
 have HK := Aside0.mk (KeepBut.refl w g none)
 have HL := Aside0.mk hB.size
 clear hI
 have HW0 := Aside0.mk hB.size
 have HB := Aside0.mk hB
 clear hB
 have H : ((flywheelref02_Do.f a1 85 100 1).bind fun t346 => (if s0_4 = true then (if a1 < (wrap64 (s0_5 - (wrap64 (3 * s0_6)))) then (some (mn s0_0 t346, s0_1, s0_2, s0_3, s0_4, a1, s0_6, s0_7, s0_8)) else ((flywheelref01_Abs.f k (wrap64 (a1 - s0_5))).bind fun t347 => ((flywheelref02_Do.f (wrap64 (t347 - s0_6)) 5 100 2).bind fun t348 => ((flywheelref02_Do.f (wrap64 (a1 - s0_5)) 5 100 2).bind fun t349 => (some (mn s0_0 t346, s0_1, s0_2, s0_3, s0_4, wrap64 (s0_5 + t349), wrap64 (s0_6 + t348), s0_7, s0_8)))))) else (some (mn s0_0 t346, s0_1, s0_2, s0_3, true, a1, wrap64 (Int.tdiv a1 10), s0_7, s0_8)))) = some (r1, r2, r3, r4, r5, r6, r7, r8, r9) := h
 clear h
 replace H := Option.bind_eq_some_iff.mp H
 obtain ⟨t346, A30, H⟩ := H
 replace H : (if s0_4 = true then (if a1 < (wrap64 (s0_5 - (wrap64 (3 * s0_6)))) then (some (mn s0_0 t346, s0_1, s0_2, s0_3, s0_4, a1, s0_6, s0_7, s0_8)) else ((flywheelref01_Abs.f k (wrap64 (a1 - s0_5))).bind fun t347 => ((flywheelref02_Do.f (wrap64 (t347 - s0_6)) 5 100 2).bind fun t348 => ((flywheelref02_Do.f (wrap64 (a1 - s0_5)) 5 100 2).bind fun t349 => (some (mn s0_0 t346, s0_1, s0_2, s0_3, s0_4, wrap64 (s0_5 + t349), wrap64 (s0_6 + t348), s0_7, s0_8)))))) else (some (mn s0_0 t346, s0_1, s0_2, s0_3, true, a1, wrap64 (Int.tdiv a1 10), s0_7, s0_8))) = some (r1, r2, r3, r4, r5, r6, r7, r8, r9) := H
 have A3 := Aside0.mk A30
 clear A30
 obtain ⟨ji4, hji4⟩ : ∃ j_ : Int, (mn s0_0 t346) = j_ := ⟨_, rfl⟩
 replace H : (if s0_4 = true then (if a1 < (wrap64 (s0_5 - (wrap64 (3 * s0_6)))) then (some (ji4, s0_1, s0_2, s0_3, s0_4, a1, s0_6, s0_7, s0_8)) else ((flywheelref01_Abs.f k (wrap64 (a1 - s0_5))).bind fun t347 => ((flywheelref02_Do.f (wrap64 (t347 - s0_6)) 5 100 2).bind fun t348 => ((flywheelref02_Do.f (wrap64 (a1 - s0_5)) 5 100 2).bind fun t349 => (some (ji4, s0_1, s0_2, s0_3, s0_4, wrap64 (s0_5 + t349), wrap64 (s0_6 + t348), s0_7, s0_8)))))) else (some (ji4, s0_1, s0_2, s0_3, true, a1, wrap64 (Int.tdiv a1 10), s0_7, s0_8))) = some (r1, r2, r3, r4, r5, r6, r7, r8, r9) := by first | (rw [hji4] at H; exact H) | (simp only [hji4] at H ⊢; exact H)
 (try rw [hji4] at A3)
 have hji4_ : (if t346 < s0_0 then t346 else s0_0) = ji4 := hji4
 by_cases c5 : s0_4 = true
 ·subst c5
  have H1 : (if a1 < (wrap64 (s0_5 - (wrap64 (3 * s0_6)))) then (some (ji4, s0_1, s0_2, s0_3, true, a1, s0_6, s0_7, s0_8)) else ((flywheelref01_Abs.f k (wrap64 (a1 - s0_5))).bind fun t347 => ((flywheelref02_Do.f (wrap64 (t347 - s0_6)) 5 100 2).bind fun t348 => ((flywheelref02_Do.f (wrap64 (a1 - s0_5)) 5 100 2).bind fun t349 => (some (ji4, s0_1, s0_2, s0_3, true, wrap64 (s0_5 + t349), wrap64 (s0_6 + t348), s0_7, s0_8)))))) = some (r1, r2, r3, r4, r5, r6, r7, r8, r9) := by rw [if_pos rfl] at H; exact H
  clear H
  have H := H1
  clear H1
  by_cases c6 : a1 < (wrap64 (s0_5 - (wrap64 (3 * s0_6))))
  ·rw [if_pos c6] at H
   have c6b0 : decide (a1 < (wrap64 (s0_5 - (wrap64 (3 * s0_6))))) = true := decide_eq_true c6
   clear c6
   simp only [Option.some.injEq, Prod.mk.injEq] at H
   obtain ⟨rfl, rfl, rfl, rfl, rfl, rfl, rfl, rfl, rfl⟩ := H
   go_enter Try.func42, Try.ntmps42
   try go_wp2
   have n0_ := Aside0.mk (IsS71.drew HI0.out)
   have n1_ := Aside0.mk (keep_drew HK.out)
   have n2_ := Aside0.mk (below_drew1 HB.out)
   clear HI0
   clear HK
   clear HB
   have HI0 := n0_
   have HK := n1_
   have HB := n2_
   clear n0_ n1_ n2_
   refine start_ (n := 11) (S := fun w' => w'.cell? ⟨g, 0, none⟩ = some (.int .i64 s0_0) ∧ w'.cell? ⟨g, 1, none⟩ = some (.int .i64 s0_1) ∧ w'.cell? ⟨g, 2, none⟩ = some (.int .i64 s0_2) ∧ w'.cell? ⟨g, 3, none⟩ = some (.int .i64 s0_3) ∧ w'.cell? ⟨g, 4, none⟩ = some (.bool true) ∧ w'.cell? ⟨g, 5, none⟩ = some (.int .i64 s0_5) ∧ w'.cell? ⟨g, 6, none⟩ = some (.int .i64 s0_6) ∧ w'.cell? ⟨g, 7, none⟩ = some (.bool s0_7) ∧ w'.cell? ⟨g, 8, none⟩ = some (.int .i64 s0_8)) (ds := [10]) #[false, false, false, false, false, false, false, false, false, false, false] (by kernel_rfl) rfl rfl ⟨(IsS71.cell_0 HI0.out), (IsS71.cell_1 HI0.out), (IsS71.cell_2 HI0.out), (IsS71.cell_3 HI0.out), (IsS71.cell_4 HI0.out), (IsS71.cell_5 HI0.out), (IsS71.cell_6 HI0.out), (IsS71.cell_7 HI0.out), (IsS71.cell_8 HI0.out)⟩ (fun hHeld => ?_); refine with_tabW flywheelref19_Aimd_cut.tab0 flywheelref19_Aimd_cut.bits0 (fun HT_ HW_ => ?_)
   generalize w.drew = w7 at HI0 HK HB hHeld ⊢
   refine pure_ (i := 0) (N := some 5) (v := ?_) (a' := ?_) (bl 11 1) rfl rfl (any_of HT_.out (by kernel_rfl)) (fun _ _ _ h => h) (Or.inl ⟨by rfl, ?_⟩) ?_ ?_
   rotate_left
   ·intro w'
    go_simp
    with_reducible rfl
   rotate_left
   ·simp only [puts_]
    rfl
   refine pure_ (i := 1) (N := some 6) (v := ?_) (a' := ?_) (bl 11 3) rfl rfl (any_of HT_.out (by kernel_rfl)) (fun _ _ _ h => h) (Or.inl ⟨by rfl, ?_⟩) ?_ ?_
   rotate_left
   ·intro w'
    go_simp
    with_reducible rfl
   rotate_left
   ·simp only [puts_]
    rfl
   refine pure_ (i := 2) (N := some 7) (v := ?_) (a' := ?_) (bl 11 7) rfl rfl (any_of HT_.out (by kernel_rfl)) (fun _ _ _ h => h) (Or.inl ⟨by rfl, ?_⟩) ?_ ?_
   rotate_left
   ·intro w'
    go_simp
    with_reducible rfl
   rotate_left
   ·simp only [puts_]
    rfl
   refine pure_ (i := 3) (N := some 8) (v := ?_) (a' := ?_) (bl 11 15) rfl rfl (any_of HT_.out (by kernel_rfl)) (fun _ _ _ h => h) (Or.inl ⟨by rfl, ?_⟩) ?_ ?_
   rotate_left
   ·intro w'
    go_simp
    with_reducible rfl
   rotate_left
   ·simp only [puts_]
    rfl
   refine pure_ (i := 5) (N := some 10) (v := ?_) (a' := ?_) (bl 11 47) rfl rfl (any_of HT_.out (by kernel_rfl)) (fun _ _ _ h => h) (Or.inl ⟨by rfl, ?_⟩) ?_ ?_
   rotate_left
   ·intro w'
    go_simp
    with_reducible rfl
   rotate_left
   ·simp only [puts_]
    rfl
   refine take_ (i := 4) (N := some 9) (v := ?_) (a' := ?_) (bl 11 63) rfl rfl (take_ofW HT_.out HW_.out (by kernel_rfl)) (fun _ _ _ h => h) (Or.inl ⟨by rfl, ?_⟩) hHeld ?_ ?_
   rotate_left
   ·rintro w' ⟨s0, s1, s2, s3, s4, s5, s6, s7, s8⟩
    go_simp
    with_reducible rfl
   rotate_left
   ·simp only [puts_]
    rfl
   refine one_ (i := 6) (N := some 11) (bl 11 127) rfl rfl (one_of HT_.out (by kernel_rfl)) (by decide) (fun K hK => ?_)
   refine goes_ Try.func49 (by kernel_rfl) rfl #[.int .i64 a1, .int .i64 85, .int .i64 100, .int .i64 1] (by rfl) rfl rfl (by (try simp only [List.map_toArray, List.map_cons, List.map_nil]); first | done | rfl | (simp only [List.length_drop, List.length_take]; rfl)) ?_
   with_reducible refine (flywheelref02_Do.calls a1 85 100 1 t346 _ A3.out).mono ?_
   rintro e w8 ⟨rfl, hb⟩
   refine ⟨_, rfl, ?_⟩
   have n0_ := Aside0.mk (IsS71.below (by repeat (first | (with_reducible first | exact HI0.out | apply IsS71.alloc | apply IsS71.drewN | apply IsS71.drew | apply IsS71.set_0 | apply IsS71.set_1 | apply IsS71.set_2 | apply IsS71.set_3 | apply IsS71.set_4 | apply IsS71.set_5 | apply IsS71.set_6 | apply IsS71.set_7 | apply IsS71.set_8) | exact HI0.out)) hb)
   have n1_ := Aside0.mk (KeepBut.trans (by repeat (first | (with_reducible first | exact HK.out | apply KeepBut.set_ | apply keep_drewN | apply keep_drew | apply keep_alloc) | exact HK.out)) (KeepBut.of_below hb g none) (.inl rfl))
   have n2_ := Aside0.mk (below_step (by repeat (first | (with_reducible first | exact HB.out | apply below_alloc | apply pw_below_drewN | apply below_drew1 | refine below_set ?_ (IsS71.ge HI0.out)) | exact HB.out)) hb)
   clear HI0
   clear HK
   clear HB
   have HI0 := n0_
   have HK := n1_
   have HB := n2_
   clear n0_ n1_ n2_
   (try clear hb)
   (try clear hb2)
   (try clear hk)
   (try clear hi)
   refine hK.out _ _ ⟨(IsS71.cell_0 HI0.out), (IsS71.cell_1 HI0.out), (IsS71.cell_2 HI0.out), (IsS71.cell_3 HI0.out), (IsS71.cell_4 HI0.out), (IsS71.cell_5 HI0.out), (IsS71.cell_6 HI0.out), (IsS71.cell_7 HI0.out), (IsS71.cell_8 HI0.out)⟩ (fun hHeld => ?_)
   clear hK K
   refine norm_ (a' := ?_) ?_ ?_
   rotate_left
   ·show Act.put _ (some 11) _ = _
    simp only [puts_]
    rfl
   refine pure_ (i := 7) (N := some 12) (v := ?_) (a' := ?_) (bl 11 255) rfl rfl (any_of HT_.out (by kernel_rfl)) (fun _ _ _ h => h) (Or.inl ⟨by rfl, ?_⟩) ?_ ?_
   rotate_left
   ·intro w'
    go_simp
    with_reducible rfl
   rotate_left
   ·simp only [puts_]
    rfl
   refine pure_ (i := 8) (N := some 13) (v := ?_) (a' := ?_) (bl 11 511) rfl rfl (any_of HT_.out (by kernel_rfl)) (fun _ _ _ h => h) (Or.inl ⟨by rfl, ?_⟩) ?_ ?_
   rotate_left
   ·intro w'
    go_simp
    with_reducible rfl
   rotate_left
   ·simp only [puts_]
    rfl
   refine pure_ (i := 9) (N := some 14) (v := ?_) (a' := ?_) (bl 11 1023) rfl rfl (any_of HT_.out (by kernel_rfl)) (fun _ _ _ h => h) (Or.inl ⟨by rfl, ?_⟩) ?_ ?_
   rotate_left
   ·intro w'
    go_simp
    with_reducible rfl
   rotate_left
   ·simp only [puts_]
    rfl
   refine last_ (i := 10) (N := none) (bl 11 2047) rfl rfl (one_of HT_.out (by kernel_rfl)) (by decide) (fun K hK => ?_)
   have hs9 : w8.cell? ⟨g, 0, none⟩ = some (.int .i64 s0_0) := IsS71.cell_0 HI0.out
   have hfs9 := IsS71.froz_0 HI0.out
   refine skip_ (w1 := ?_) (by rfl) rfl ?_ ?_
   rotate_left
   ·go_simp
    rfl
   refine hK.out _ _ ?_
   clear hK K
   refine done_ (done_of HT_.out (by kernel_rfl)) ?_
   obtain ⟨HGz10, hgz10⟩ := HI0.out
   have hcz10_0 := cellS71_0 HGz10
   have hcz10_1 := cellS71_1 HGz10
   have hcz10_2 := cellS71_2 HGz10
   have hcz10_3 := cellS71_3 HGz10
   have hcz10_4 := cellS71_4 HGz10
   have hcz10_5 := cellS71_5 HGz10
   have hcz10_6 := cellS71_6 HGz10
   have hcz10_7 := cellS71_7 HGz10
   have hcz10_8 := cellS71_8 HGz10
   have hfz10_0 := blk_frozen HGz10 0
   have hfz10_1 := blk_frozen HGz10 1
   have hfz10_2 := blk_frozen HGz10 2
   have hfz10_3 := blk_frozen HGz10 3
   have hfz10_4 := blk_frozen HGz10 4
   have hfz10_5 := blk_frozen HGz10 5
   have hfz10_6 := blk_frozen HGz10 6
   have hfz10_7 := blk_frozen HGz10 7
   have hfz10_8 := blk_frozen HGz10 8
   clear HGz10 hgz10
   try go_wp2
   have n0_ : Aside0 (IsS71 w0 (w8.setCell ⟨g, 0, none⟩ (.int .i64 ji4)) g ji4 s0_1 s0_2 s0_3 true s0_5 s0_6 s0_7 s0_8) := ⟨by repeat (first | (with_reducible first | exact HI0.out | apply IsS71.alloc | apply IsS71.drewN | apply IsS71.drew | apply IsS71.set_0 | apply IsS71.set_1 | apply IsS71.set_2 | apply IsS71.set_3 | apply IsS71.set_4 | apply IsS71.set_5 | apply IsS71.set_6 | apply IsS71.set_7 | apply IsS71.set_8) | exact HI0.out)⟩
   have n1_ : Aside0 (KeepBut w (w8.setCell ⟨g, 0, none⟩ (.int .i64 ji4)) g none) := ⟨by repeat (first | (with_reducible first | exact HK.out | apply KeepBut.set_ | apply keep_drewN | apply keep_drew | apply keep_alloc) | exact HK.out)⟩
   have n2_ : Aside0 (Below w0.heap.size w0 (w8.setCell ⟨g, 0, none⟩ (.int .i64 ji4))) := ⟨by repeat (first | (with_reducible first | exact HB.out | apply below_alloc | apply pw_below_drewN | apply below_drew1 | refine below_set ?_ (IsS71.ge HI0.out)) | exact HB.out)⟩
   (try clear HI0)
   (try clear HK)
   (try clear HB)
   generalize (w8.setCell ⟨g, 0, none⟩ (.int .i64 ji4)) = w11 at n0_ n1_ n2_ ⊢
   have HI0 := n0_
   have HK := n1_
   have HB := n2_
   clear n0_ n1_ n2_
   have n0_ := Aside0.mk (IsS71.drew HI0.out)
   have n1_ := Aside0.mk (keep_drew HK.out)
   have n2_ := Aside0.mk (below_drew1 HB.out)
   clear HI0
   clear HK
   clear HB
   have HI0 := n0_
   have HK := n1_
   have HB := n2_
   clear n0_ n1_ n2_
   refine start_ (n := 13) (S := fun w' => w'.cell? ⟨g, 0, none⟩ = some (.int .i64 ji4) ∧ w'.cell? ⟨g, 1, none⟩ = some (.int .i64 s0_1) ∧ w'.cell? ⟨g, 2, none⟩ = some (.int .i64 s0_2) ∧ w'.cell? ⟨g, 3, none⟩ = some (.int .i64 s0_3) ∧ w'.cell? ⟨g, 4, none⟩ = some (.bool true) ∧ w'.cell? ⟨g, 5, none⟩ = some (.int .i64 s0_5) ∧ w'.cell? ⟨g, 6, none⟩ = some (.int .i64 s0_6) ∧ w'.cell? ⟨g, 7, none⟩ = some (.bool s0_7) ∧ w'.cell? ⟨g, 8, none⟩ = some (.int .i64 s0_8)) (ds := []) #[false, false, false, false, false, false, false, false, false, false, false, false, false] (by kernel_rfl) rfl rfl ⟨(IsS71.cell_0 HI0.out), (IsS71.cell_1 HI0.out), (IsS71.cell_2 HI0.out), (IsS71.cell_3 HI0.out), (IsS71.cell_4 HI0.out), (IsS71.cell_5 HI0.out), (IsS71.cell_6 HI0.out), (IsS71.cell_7 HI0.out), (IsS71.cell_8 HI0.out)⟩ (fun hHeld => ?_); refine with_tabW flywheelref19_Aimd_cut.tab6 flywheelref19_Aimd_cut.bits6 (fun HT_ HW_ => ?_)
   generalize w11.drew = w12 at HI0 HK HB hHeld ⊢
   refine pure_ (i := 0) (N := some 64) (v := ?_) (a' := ?_) (bl 13 1) rfl rfl (any_of HT_.out (by kernel_rfl)) (fun _ _ _ h => h) (Or.inl ⟨by rfl, ?_⟩) ?_ ?_
   rotate_left
   ·intro w'
    go_simp
    with_reducible rfl
   rotate_left
   ·simp only [puts_]
    rfl
   refine pure_ (i := 1) (N := some 65) (v := ?_) (a' := ?_) (bl 13 3) rfl rfl (any_of HT_.out (by kernel_rfl)) (fun _ _ _ h => h) (Or.inl ⟨by rfl, ?_⟩) ?_ ?_
   rotate_left
   ·intro w'
    go_simp
    with_reducible rfl
   rotate_left
   ·simp only [puts_]
    rfl
   refine pure_ (i := 2) (N := some 66) (v := ?_) (a' := ?_) (bl 13 7) rfl rfl (any_of HT_.out (by kernel_rfl)) (fun _ _ _ h => h) (Or.inl ⟨by rfl, ?_⟩) ?_ ?_
   rotate_left
   ·intro w'
    go_simp
    with_reducible rfl
   rotate_left
   ·simp only [puts_]
    rfl
   refine pure_ (i := 3) (N := some 67) (v := ?_) (a' := ?_) (bl 13 15) rfl rfl (any_of HT_.out (by kernel_rfl)) (fun _ _ _ h => h) (Or.inl ⟨by rfl, ?_⟩) ?_ ?_
   rotate_left
   ·intro w'
    go_simp
    with_reducible rfl
   rotate_left
   ·simp only [puts_]
    rfl
   refine pure_ (i := 5) (N := some 69) (v := ?_) (a' := ?_) (bl 13 47) rfl rfl (any_of HT_.out (by kernel_rfl)) (fun _ _ _ h => h) (Or.inl ⟨by rfl, ?_⟩) ?_ ?_
   rotate_left
   ·intro w'
    go_simp
    with_reducible rfl
   rotate_left
   ·simp only [puts_]
    rfl
   refine pure_ (i := 6) (N := some 70) (v := ?_) (a' := ?_) (bl 13 111) rfl rfl (any_of HT_.out (by kernel_rfl)) (fun _ _ _ h => h) (Or.inl ⟨by rfl, ?_⟩) ?_ ?_
   rotate_left
   ·intro w'
    go_simp
    with_reducible rfl
   rotate_left
   ·simp only [puts_]
    rfl
   refine pure_ (i := 7) (N := some 71) (v := ?_) (a' := ?_) (bl 13 239) rfl rfl (any_of HT_.out (by kernel_rfl)) (fun _ _ _ h => h) (Or.inl ⟨by rfl, ?_⟩) ?_ ?_
   rotate_left
   ·intro w'
    go_simp
    with_reducible rfl
   rotate_left
   ·simp only [puts_]
    rfl
   refine take_ (i := 4) (N := some 68) (v := ?_) (a' := ?_) (bl 13 255) rfl rfl (take_ofW HT_.out HW_.out (by kernel_rfl)) (fun _ _ _ h => h) (Or.inl ⟨by rfl, ?_⟩) hHeld ?_ ?_
   rotate_left
   ·rintro w' ⟨s0, s1, s2, s3, s4, s5, s6, s7, s8⟩
    go_simp
    with_reducible rfl
   rotate_left
   ·simp only [puts_]
    rfl
   refine take_ (i := 8) (N := some 72) (v := ?_) (a' := ?_) (bl 13 511) rfl rfl (take_ofW HT_.out HW_.out (by kernel_rfl)) (fun _ _ _ h => h) (Or.inl ⟨by rfl, ?_⟩) hHeld ?_ ?_
   rotate_left
   ·rintro w' ⟨s0, s1, s2, s3, s4, s5, s6, s7, s8⟩
    go_simp
    with_reducible rfl
   rotate_left
   ·simp only [puts_]
    rfl
   refine pure_ (i := 9) (N := some 73) (v := ?_) (a' := ?_) (bl 13 1023) rfl rfl (any_of HT_.out (by kernel_rfl)) (fun _ _ _ h => h) (Or.inl ⟨by rfl, ?_⟩) ?_ ?_
   rotate_left
   ·intro w'
    go_simp
    with_reducible rfl
   rotate_left
   ·simp only [puts_]
    rfl
   refine pure_ (i := 10) (N := some 74) (v := ?_) (a' := ?_) (bl 13 2047) rfl rfl (any_of HT_.out (by kernel_rfl)) (fun _ _ _ h => h) (Or.inl ⟨by rfl, ?_⟩) ?_ ?_
   rotate_left
   ·intro w'
    go_simp
    with_reducible rfl
   rotate_left
   ·simp only [puts_]
    rfl
   refine pure_ (i := 11) (N := some 75) (v := ?_) (a' := ?_) (bl 13 4095) rfl rfl (any_of HT_.out (by kernel_rfl)) (fun _ _ _ h => h) (Or.inl ⟨by rfl, ?_⟩) ?_ ?_
   rotate_left
   ·intro w'
    go_simp
    with_reducible rfl
   rotate_left
   ·simp only [puts_]
    rfl
   refine pure_ (i := 12) (N := some 63) (v := ?_) (a' := ?_) (bl 13 8191) rfl rfl (any_of HT_.out (by kernel_rfl)) (fun _ _ _ h => h) (Or.inl ⟨by rfl, ?_⟩) ?_ ?_
   rotate_left
   ·intro w'
    go_simp
    with_reducible rfl
   rotate_left
   ·simp only [puts_]
    rfl
   refine done_ (done_of HT_.out (by kernel_rfl)) ?_
   obtain ⟨HGz13, hgz13⟩ := HI0.out
   have hcz13_0 := cellS71_0 HGz13
   have hcz13_1 := cellS71_1 HGz13
   have hcz13_2 := cellS71_2 HGz13
   have hcz13_3 := cellS71_3 HGz13
   have hcz13_4 := cellS71_4 HGz13
   have hcz13_5 := cellS71_5 HGz13
   have hcz13_6 := cellS71_6 HGz13
   have hcz13_7 := cellS71_7 HGz13
   have hcz13_8 := cellS71_8 HGz13
   have hfz13_0 := blk_frozen HGz13 0
   have hfz13_1 := blk_frozen HGz13 1
   have hfz13_2 := blk_frozen HGz13 2
   have hfz13_3 := blk_frozen HGz13 3
   have hfz13_4 := blk_frozen HGz13 4
   have hfz13_5 := blk_frozen HGz13 5
   have hfz13_6 := blk_frozen HGz13 6
   have hfz13_7 := blk_frozen HGz13 7
   have hfz13_8 := blk_frozen HGz13 8
   clear HGz13 hgz13
   try go_wp2
   first | go_end0 | ((try simp only [Exit.inBlock, Exit.then]); refine bodyPost_ret (results_none rfl _ _ _) rfl ?_)
   exact ⟨by first | rfl | (simp [errW_none, errW_some] <;> rfl) | (simp only [← hji4]; first | rfl | (simp [errW_none, errW_some] <;> rfl)) | (simp [*, errW_none, errW_some] <;> rfl), by repeat (first | (with_reducible first | exact HI0.out | apply IsS71.alloc | apply IsS71.drewN | apply IsS71.drew | apply IsS71.set_0 | apply IsS71.set_1 | apply IsS71.set_2 | apply IsS71.set_3 | apply IsS71.set_4 | apply IsS71.set_5 | apply IsS71.set_6 | apply IsS71.set_7 | apply IsS71.set_8) | exact HI0.out), by repeat (first | (with_reducible first | exact HB.out | apply below_alloc | apply pw_below_drewN | apply below_drew1 | refine below_set ?_ (IsS71.ge HI0.out)) | exact HB.out), by repeat (first | (with_reducible first | exact HK.out | apply KeepBut.set_ | apply keep_drewN | apply keep_drew | apply keep_alloc) | exact HK.out)⟩
  ·rw [if_neg c6] at H
   have c6b0 : decide (a1 < (wrap64 (s0_5 - (wrap64 (3 * s0_6))))) = false := decide_eq_false c6
   clear c6
   replace H := Option.bind_eq_some_iff.mp H
   obtain ⟨t347, A140, H⟩ := H
   replace H : ((flywheelref02_Do.f (wrap64 (t347 - s0_6)) 5 100 2).bind fun t348 => ((flywheelref02_Do.f (wrap64 (a1 - s0_5)) 5 100 2).bind fun t349 => (some (ji4, s0_1, s0_2, s0_3, true, wrap64 (s0_5 + t349), wrap64 (s0_6 + t348), s0_7, s0_8)))) = some (r1, r2, r3, r4, r5, r6, r7, r8, r9) := H
   have A14 := Aside0.mk A140
   clear A140
   replace H := Option.bind_eq_some_iff.mp H
   obtain ⟨t348, A150, H⟩ := H
   replace H : ((flywheelref02_Do.f (wrap64 (a1 - s0_5)) 5 100 2).bind fun t349 => (some (ji4, s0_1, s0_2, s0_3, true, wrap64 (s0_5 + t349), wrap64 (s0_6 + t348), s0_7, s0_8))) = some (r1, r2, r3, r4, r5, r6, r7, r8, r9) := H
   have A15 := Aside0.mk A150
   clear A150
   replace H := Option.bind_eq_some_iff.mp H
   obtain ⟨t349, A160, H⟩ := H
   replace H : (some (ji4, s0_1, s0_2, s0_3, true, wrap64 (s0_5 + t349), wrap64 (s0_6 + t348), s0_7, s0_8)) = some (r1, r2, r3, r4, r5, r6, r7, r8, r9) := H
   have A16 := Aside0.mk A160
   clear A160
   simp only [Option.some.injEq, Prod.mk.injEq] at H
   obtain ⟨rfl, rfl, rfl, rfl, rfl, rfl, rfl, rfl, rfl⟩ := H
   go_enter Try.func42, Try.ntmps42
   try go_wp2
   have n0_ := Aside0.mk (IsS71.drew HI0.out)
   have n1_ := Aside0.mk (keep_drew HK.out)
   have n2_ := Aside0.mk (below_drew1 HB.out)
   clear HI0
   clear HK
   clear HB
   have HI0 := n0_
   have HK := n1_
   have HB := n2_
   clear n0_ n1_ n2_
   refine start_ (n := 11) (S := fun w' => w'.cell? ⟨g, 0, none⟩ = some (.int .i64 s0_0) ∧ w'.cell? ⟨g, 1, none⟩ = some (.int .i64 s0_1) ∧ w'.cell? ⟨g, 2, none⟩ = some (.int .i64 s0_2) ∧ w'.cell? ⟨g, 3, none⟩ = some (.int .i64 s0_3) ∧ w'.cell? ⟨g, 4, none⟩ = some (.bool true) ∧ w'.cell? ⟨g, 5, none⟩ = some (.int .i64 s0_5) ∧ w'.cell? ⟨g, 6, none⟩ = some (.int .i64 s0_6) ∧ w'.cell? ⟨g, 7, none⟩ = some (.bool s0_7) ∧ w'.cell? ⟨g, 8, none⟩ = some (.int .i64 s0_8)) (ds := [10]) #[false, false, false, false, false, false, false, false, false, false, false] (by kernel_rfl) rfl rfl ⟨(IsS71.cell_0 HI0.out), (IsS71.cell_1 HI0.out), (IsS71.cell_2 HI0.out), (IsS71.cell_3 HI0.out), (IsS71.cell_4 HI0.out), (IsS71.cell_5 HI0.out), (IsS71.cell_6 HI0.out), (IsS71.cell_7 HI0.out), (IsS71.cell_8 HI0.out)⟩ (fun hHeld => ?_); refine with_tabW flywheelref19_Aimd_cut.tab0 flywheelref19_Aimd_cut.bits0 (fun HT_ HW_ => ?_)
   generalize w.drew = w17 at HI0 HK HB hHeld ⊢
   refine pure_ (i := 0) (N := some 5) (v := ?_) (a' := ?_) (bl 11 1) rfl rfl (any_of HT_.out (by kernel_rfl)) (fun _ _ _ h => h) (Or.inl ⟨by rfl, ?_⟩) ?_ ?_
   rotate_left
   ·intro w'
    go_simp
    with_reducible rfl
   rotate_left
   ·simp only [puts_]
    rfl
   refine pure_ (i := 1) (N := some 6) (v := ?_) (a' := ?_) (bl 11 3) rfl rfl (any_of HT_.out (by kernel_rfl)) (fun _ _ _ h => h) (Or.inl ⟨by rfl, ?_⟩) ?_ ?_
   rotate_left
   ·intro w'
    go_simp
    with_reducible rfl
   rotate_left
   ·simp only [puts_]
    rfl
   refine pure_ (i := 2) (N := some 7) (v := ?_) (a' := ?_) (bl 11 7) rfl rfl (any_of HT_.out (by kernel_rfl)) (fun _ _ _ h => h) (Or.inl ⟨by rfl, ?_⟩) ?_ ?_
   rotate_left
   ·intro w'
    go_simp
    with_reducible rfl
   rotate_left
   ·simp only [puts_]
    rfl
   refine pure_ (i := 3) (N := some 8) (v := ?_) (a' := ?_) (bl 11 15) rfl rfl (any_of HT_.out (by kernel_rfl)) (fun _ _ _ h => h) (Or.inl ⟨by rfl, ?_⟩) ?_ ?_
   rotate_left
   ·intro w'
    go_simp
    with_reducible rfl
   rotate_left
   ·simp only [puts_]
    rfl
   refine pure_ (i := 5) (N := some 10) (v := ?_) (a' := ?_) (bl 11 47) rfl rfl (any_of HT_.out (by kernel_rfl)) (fun _ _ _ h => h) (Or.inl ⟨by rfl, ?_⟩) ?_ ?_
   rotate_left
   ·intro w'
    go_simp
    with_reducible rfl
   rotate_left
   ·simp only [puts_]
    rfl
   refine take_ (i := 4) (N := some 9) (v := ?_) (a' := ?_) (bl 11 63) rfl rfl (take_ofW HT_.out HW_.out (by kernel_rfl)) (fun _ _ _ h => h) (Or.inl ⟨by rfl, ?_⟩) hHeld ?_ ?_
   rotate_left
   ·rintro w' ⟨s0, s1, s2, s3, s4, s5, s6, s7, s8⟩
    go_simp
    with_reducible rfl
   rotate_left
   ·simp only [puts_]
    rfl
   refine one_ (i := 6) (N := some 11) (bl 11 127) rfl rfl (one_of HT_.out (by kernel_rfl)) (by decide) (fun K hK => ?_)
   refine goes_ Try.func49 (by kernel_rfl) rfl #[.int .i64 a1, .int .i64 85, .int .i64 100, .int .i64 1] (by rfl) rfl rfl (by (try simp only [List.map_toArray, List.map_cons, List.map_nil]); first | done | rfl | (simp only [List.length_drop, List.length_take]; rfl)) ?_
   with_reducible refine (flywheelref02_Do.calls a1 85 100 1 t346 _ A3.out).mono ?_
   rintro e w18 ⟨rfl, hb⟩
   refine ⟨_, rfl, ?_⟩
   have n0_ := Aside0.mk (IsS71.below (by repeat (first | (with_reducible first | exact HI0.out | apply IsS71.alloc | apply IsS71.drewN | apply IsS71.drew | apply IsS71.set_0 | apply IsS71.set_1 | apply IsS71.set_2 | apply IsS71.set_3 | apply IsS71.set_4 | apply IsS71.set_5 | apply IsS71.set_6 | apply IsS71.set_7 | apply IsS71.set_8) | exact HI0.out)) hb)
   have n1_ := Aside0.mk (KeepBut.trans (by repeat (first | (with_reducible first | exact HK.out | apply KeepBut.set_ | apply keep_drewN | apply keep_drew | apply keep_alloc) | exact HK.out)) (KeepBut.of_below hb g none) (.inl rfl))
   have n2_ := Aside0.mk (below_step (by repeat (first | (with_reducible first | exact HB.out | apply below_alloc | apply pw_below_drewN | apply below_drew1 | refine below_set ?_ (IsS71.ge HI0.out)) | exact HB.out)) hb)
   clear HI0
   clear HK
   clear HB
   have HI0 := n0_
   have HK := n1_
   have HB := n2_
   clear n0_ n1_ n2_
   (try clear hb)
   (try clear hb2)
   (try clear hk)
   (try clear hi)
   refine hK.out _ _ ⟨(IsS71.cell_0 HI0.out), (IsS71.cell_1 HI0.out), (IsS71.cell_2 HI0.out), (IsS71.cell_3 HI0.out), (IsS71.cell_4 HI0.out), (IsS71.cell_5 HI0.out), (IsS71.cell_6 HI0.out), (IsS71.cell_7 HI0.out), (IsS71.cell_8 HI0.out)⟩ (fun hHeld => ?_)
   clear hK K
   refine norm_ (a' := ?_) ?_ ?_
   rotate_left
   ·show Act.put _ (some 11) _ = _
    simp only [puts_]
    rfl
   refine pure_ (i := 7) (N := some 12) (v := ?_) (a' := ?_) (bl 11 255) rfl rfl (any_of HT_.out (by kernel_rfl)) (fun _ _ _ h => h) (Or.inl ⟨by rfl, ?_⟩) ?_ ?_
   rotate_left
   ·intro w'
    go_simp
    with_reducible rfl
   rotate_left
   ·simp only [puts_]
    rfl
   refine pure_ (i := 8) (N := some 13) (v := ?_) (a' := ?_) (bl 11 511) rfl rfl (any_of HT_.out (by kernel_rfl)) (fun _ _ _ h => h) (Or.inl ⟨by rfl, ?_⟩) ?_ ?_
   rotate_left
   ·intro w'
    go_simp
    with_reducible rfl
   rotate_left
   ·simp only [puts_]
    rfl
   refine pure_ (i := 9) (N := some 14) (v := ?_) (a' := ?_) (bl 11 1023) rfl rfl (any_of HT_.out (by kernel_rfl)) (fun _ _ _ h => h) (Or.inl ⟨by rfl, ?_⟩) ?_ ?_
   rotate_left
   ·intro w'
    go_simp
    with_reducible rfl
   rotate_left
   ·simp only [puts_]
    rfl
   refine last_ (i := 10) (N := none) (bl 11 2047) rfl rfl (one_of HT_.out (by kernel_rfl)) (by decide) (fun K hK => ?_)
   have hs19 : w18.cell? ⟨g, 0, none⟩ = some (.int .i64 s0_0) := IsS71.cell_0 HI0.out
   have hfs19 := IsS71.froz_0 HI0.out
   refine skip_ (w1 := ?_) (by rfl) rfl ?_ ?_
   rotate_left
   ·go_simp
    rfl
   refine hK.out _ _ ?_
   clear hK K
   refine done_ (done_of HT_.out (by kernel_rfl)) ?_
   obtain ⟨HGz20, hgz20⟩ := HI0.out
   have hcz20_0 := cellS71_0 HGz20
   have hcz20_1 := cellS71_1 HGz20
   have hcz20_2 := cellS71_2 HGz20
   have hcz20_3 := cellS71_3 HGz20
   have hcz20_4 := cellS71_4 HGz20
   have hcz20_5 := cellS71_5 HGz20
   have hcz20_6 := cellS71_6 HGz20
   have hcz20_7 := cellS71_7 HGz20
   have hcz20_8 := cellS71_8 HGz20
   have hfz20_0 := blk_frozen HGz20 0
   have hfz20_1 := blk_frozen HGz20 1
   have hfz20_2 := blk_frozen HGz20 2
   have hfz20_3 := blk_frozen HGz20 3
   have hfz20_4 := blk_frozen HGz20 4
   have hfz20_5 := blk_frozen HGz20 5
   have hfz20_6 := blk_frozen HGz20 6
   have hfz20_7 := blk_frozen HGz20 7
   have hfz20_8 := blk_frozen HGz20 8
   clear HGz20 hgz20
   try go_wp2
   have n0_ : Aside0 (IsS71 w0 (w18.setCell ⟨g, 0, none⟩ (.int .i64 ji4)) g ji4 s0_1 s0_2 s0_3 true s0_5 s0_6 s0_7 s0_8) := ⟨by repeat (first | (with_reducible first | exact HI0.out | apply IsS71.alloc | apply IsS71.drewN | apply IsS71.drew | apply IsS71.set_0 | apply IsS71.set_1 | apply IsS71.set_2 | apply IsS71.set_3 | apply IsS71.set_4 | apply IsS71.set_5 | apply IsS71.set_6 | apply IsS71.set_7 | apply IsS71.set_8) | exact HI0.out)⟩
   have n1_ : Aside0 (KeepBut w (w18.setCell ⟨g, 0, none⟩ (.int .i64 ji4)) g none) := ⟨by repeat (first | (with_reducible first | exact HK.out | apply KeepBut.set_ | apply keep_drewN | apply keep_drew | apply keep_alloc) | exact HK.out)⟩
   have n2_ : Aside0 (Below w0.heap.size w0 (w18.setCell ⟨g, 0, none⟩ (.int .i64 ji4))) := ⟨by repeat (first | (with_reducible first | exact HB.out | apply below_alloc | apply pw_below_drewN | apply below_drew1 | refine below_set ?_ (IsS71.ge HI0.out)) | exact HB.out)⟩
   (try clear HI0)
   (try clear HK)
   (try clear HB)
   generalize (w18.setCell ⟨g, 0, none⟩ (.int .i64 ji4)) = w21 at n0_ n1_ n2_ ⊢
   have HI0 := n0_
   have HK := n1_
   have HB := n2_
   clear n0_ n1_ n2_
   have n0_ := Aside0.mk (IsS71.drew HI0.out)
   have n1_ := Aside0.mk (keep_drew HK.out)
   have n2_ := Aside0.mk (below_drew1 HB.out)
   clear HI0
   clear HK
   clear HB
   have HI0 := n0_
   have HK := n1_
   have HB := n2_
   clear n0_ n1_ n2_
   refine start_ (n := 13) (S := fun w' => w'.cell? ⟨g, 0, none⟩ = some (.int .i64 ji4) ∧ w'.cell? ⟨g, 1, none⟩ = some (.int .i64 s0_1) ∧ w'.cell? ⟨g, 2, none⟩ = some (.int .i64 s0_2) ∧ w'.cell? ⟨g, 3, none⟩ = some (.int .i64 s0_3) ∧ w'.cell? ⟨g, 4, none⟩ = some (.bool true) ∧ w'.cell? ⟨g, 5, none⟩ = some (.int .i64 s0_5) ∧ w'.cell? ⟨g, 6, none⟩ = some (.int .i64 s0_6) ∧ w'.cell? ⟨g, 7, none⟩ = some (.bool s0_7) ∧ w'.cell? ⟨g, 8, none⟩ = some (.int .i64 s0_8)) (ds := []) #[false, false, false, false, false, false, false, false, false, false, false, false, false] (by kernel_rfl) rfl rfl ⟨(IsS71.cell_0 HI0.out), (IsS71.cell_1 HI0.out), (IsS71.cell_2 HI0.out), (IsS71.cell_3 HI0.out), (IsS71.cell_4 HI0.out), (IsS71.cell_5 HI0.out), (IsS71.cell_6 HI0.out), (IsS71.cell_7 HI0.out), (IsS71.cell_8 HI0.out)⟩ (fun hHeld => ?_); refine with_tabW flywheelref19_Aimd_cut.tab6 flywheelref19_Aimd_cut.bits6 (fun HT_ HW_ => ?_)
   generalize w21.drew = w22 at HI0 HK HB hHeld ⊢
   refine pure_ (i := 0) (N := some 64) (v := ?_) (a' := ?_) (bl 13 1) rfl rfl (any_of HT_.out (by kernel_rfl)) (fun _ _ _ h => h) (Or.inl ⟨by rfl, ?_⟩) ?_ ?_
   rotate_left
   ·intro w'
    go_simp
    with_reducible rfl
   rotate_left
   ·simp only [puts_]
    rfl
   refine pure_ (i := 1) (N := some 65) (v := ?_) (a' := ?_) (bl 13 3) rfl rfl (any_of HT_.out (by kernel_rfl)) (fun _ _ _ h => h) (Or.inl ⟨by rfl, ?_⟩) ?_ ?_
   rotate_left
   ·intro w'
    go_simp
    with_reducible rfl
   rotate_left
   ·simp only [puts_]
    rfl
   refine pure_ (i := 2) (N := some 66) (v := ?_) (a' := ?_) (bl 13 7) rfl rfl (any_of HT_.out (by kernel_rfl)) (fun _ _ _ h => h) (Or.inl ⟨by rfl, ?_⟩) ?_ ?_
   rotate_left
   ·intro w'
    go_simp
    with_reducible rfl
   rotate_left
   ·simp only [puts_]
    rfl
   refine pure_ (i := 3) (N := some 67) (v := ?_) (a' := ?_) (bl 13 15) rfl rfl (any_of HT_.out (by kernel_rfl)) (fun _ _ _ h => h) (Or.inl ⟨by rfl, ?_⟩) ?_ ?_
   rotate_left
   ·intro w'
    go_simp
    with_reducible rfl
   rotate_left
   ·simp only [puts_]
    rfl
   refine pure_ (i := 5) (N := some 69) (v := ?_) (a' := ?_) (bl 13 47) rfl rfl (any_of HT_.out (by kernel_rfl)) (fun _ _ _ h => h) (Or.inl ⟨by rfl, ?_⟩) ?_ ?_
   rotate_left
   ·intro w'
    go_simp
    with_reducible rfl
   rotate_left
   ·simp only [puts_]
    rfl
   refine pure_ (i := 6) (N := some 70) (v := ?_) (a' := ?_) (bl 13 111) rfl rfl (any_of HT_.out (by kernel_rfl)) (fun _ _ _ h => h) (Or.inl ⟨by rfl, ?_⟩) ?_ ?_
   rotate_left
   ·intro w'
    go_simp
    with_reducible rfl
   rotate_left
   ·simp only [puts_]
    rfl
   refine pure_ (i := 7) (N := some 71) (v := ?_) (a' := ?_) (bl 13 239) rfl rfl (any_of HT_.out (by kernel_rfl)) (fun _ _ _ h => h) (Or.inl ⟨by rfl, ?_⟩) ?_ ?_
   rotate_left
   ·intro w'
    go_simp
    with_reducible rfl
   rotate_left
   ·simp only [puts_]
    rfl
   refine take_ (i := 4) (N := some 68) (v := ?_) (a' := ?_) (bl 13 255) rfl rfl (take_ofW HT_.out HW_.out (by kernel_rfl)) (fun _ _ _ h => h) (Or.inl ⟨by rfl, ?_⟩) hHeld ?_ ?_
   rotate_left
   ·rintro w' ⟨s0, s1, s2, s3, s4, s5, s6, s7, s8⟩
    go_simp
    with_reducible rfl
   rotate_left
   ·simp only [puts_]
    rfl
   refine take_ (i := 8) (N := some 72) (v := ?_) (a' := ?_) (bl 13 511) rfl rfl (take_ofW HT_.out HW_.out (by kernel_rfl)) (fun _ _ _ h => h) (Or.inl ⟨by rfl, ?_⟩) hHeld ?_ ?_
   rotate_left
   ·rintro w' ⟨s0, s1, s2, s3, s4, s5, s6, s7, s8⟩
    go_simp
    with_reducible rfl
   rotate_left
   ·simp only [puts_]
    rfl
   refine pure_ (i := 9) (N := some 73) (v := ?_) (a' := ?_) (bl 13 1023) rfl rfl (any_of HT_.out (by kernel_rfl)) (fun _ _ _ h => h) (Or.inl ⟨by rfl, ?_⟩) ?_ ?_
   rotate_left
   ·intro w'
    go_simp
    with_reducible rfl
   rotate_left
   ·simp only [puts_]
    rfl
   refine pure_ (i := 10) (N := some 74) (v := ?_) (a' := ?_) (bl 13 2047) rfl rfl (any_of HT_.out (by kernel_rfl)) (fun _ _ _ h => h) (Or.inl ⟨by rfl, ?_⟩) ?_ ?_
   rotate_left
   ·intro w'
    go_simp
    with_reducible rfl
   rotate_left
   ·simp only [puts_]
    rfl
   refine pure_ (i := 11) (N := some 75) (v := ?_) (a' := ?_) (bl 13 4095) rfl rfl (any_of HT_.out (by kernel_rfl)) (fun _ _ _ h => h) (Or.inl ⟨by rfl, ?_⟩) ?_ ?_
   rotate_left
   ·intro w'
    go_simp
    with_reducible rfl
   rotate_left
   ·simp only [puts_]
    rfl
   refine pure_ (i := 12) (N := some 63) (v := ?_) (a' := ?_) (bl 13 8191) rfl rfl (any_of HT_.out (by kernel_rfl)) (fun _ _ _ h => h) (Or.inl ⟨by rfl, ?_⟩) ?_ ?_
   rotate_left
   ·intro w'
    go_simp
    with_reducible rfl
   rotate_left
   ·simp only [puts_]
    rfl
   refine done_ (done_of HT_.out (by kernel_rfl)) ?_
   obtain ⟨HGz23, hgz23⟩ := HI0.out
   have hcz23_0 := cellS71_0 HGz23
   have hcz23_1 := cellS71_1 HGz23
   have hcz23_2 := cellS71_2 HGz23
   have hcz23_3 := cellS71_3 HGz23
   have hcz23_4 := cellS71_4 HGz23
   have hcz23_5 := cellS71_5 HGz23
   have hcz23_6 := cellS71_6 HGz23
   have hcz23_7 := cellS71_7 HGz23
   have hcz23_8 := cellS71_8 HGz23
   have hfz23_0 := blk_frozen HGz23 0
   have hfz23_1 := blk_frozen HGz23 1
   have hfz23_2 := blk_frozen HGz23 2
   have hfz23_3 := blk_frozen HGz23 3
   have hfz23_4 := blk_frozen HGz23 4
   have hfz23_5 := blk_frozen HGz23 5
   have hfz23_6 := blk_frozen HGz23 6
   have hfz23_7 := blk_frozen HGz23 7
   have hfz23_8 := blk_frozen HGz23 8
   clear HGz23 hgz23
   try go_wp2
   have n0_ := Aside0.mk (IsS71.drew HI0.out)
   have n1_ := Aside0.mk (keep_drew HK.out)
   have n2_ := Aside0.mk (below_drew1 HB.out)
   clear HI0
   clear HK
   clear HB
   have HI0 := n0_
   have HK := n1_
   have HB := n2_
   clear n0_ n1_ n2_
   refine start_ (n := 16) (S := fun w' => w'.cell? ⟨g, 0, none⟩ = some (.int .i64 ji4) ∧ w'.cell? ⟨g, 1, none⟩ = some (.int .i64 s0_1) ∧ w'.cell? ⟨g, 2, none⟩ = some (.int .i64 s0_2) ∧ w'.cell? ⟨g, 3, none⟩ = some (.int .i64 s0_3) ∧ w'.cell? ⟨g, 4, none⟩ = some (.bool true) ∧ w'.cell? ⟨g, 5, none⟩ = some (.int .i64 s0_5) ∧ w'.cell? ⟨g, 6, none⟩ = some (.int .i64 s0_6) ∧ w'.cell? ⟨g, 7, none⟩ = some (.bool s0_7) ∧ w'.cell? ⟨g, 8, none⟩ = some (.int .i64 s0_8)) (ds := [15]) #[false, false, false, false, false, false, false, false, false, false, false, false, false, false, false, false] (by kernel_rfl) rfl rfl ⟨(IsS71.cell_0 HI0.out), (IsS71.cell_1 HI0.out), (IsS71.cell_2 HI0.out), (IsS71.cell_3 HI0.out), (IsS71.cell_4 HI0.out), (IsS71.cell_5 HI0.out), (IsS71.cell_6 HI0.out), (IsS71.cell_7 HI0.out), (IsS71.cell_8 HI0.out)⟩ (fun hHeld => ?_); refine with_tabW flywheelref19_Aimd_cut.tab2 flywheelref19_Aimd_cut.bits2 (fun HT_ HW_ => ?_)
   generalize w22.drew = w24 at HI0 HK HB hHeld ⊢
   refine pure_ (i := 0) (N := some 21) (v := ?_) (a' := ?_) (bl 16 1) rfl rfl (any_of HT_.out (by kernel_rfl)) (fun _ _ _ h => h) (Or.inl ⟨by rfl, ?_⟩) ?_ ?_
   rotate_left
   ·intro w'
    go_simp
    with_reducible rfl
   rotate_left
   ·simp only [puts_]
    rfl
   refine pure_ (i := 1) (N := some 22) (v := ?_) (a' := ?_) (bl 16 3) rfl rfl (any_of HT_.out (by kernel_rfl)) (fun _ _ _ h => h) (Or.inl ⟨by rfl, ?_⟩) ?_ ?_
   rotate_left
   ·intro w'
    go_simp
    with_reducible rfl
   rotate_left
   ·simp only [puts_]
    rfl
   refine pure_ (i := 2) (N := some 23) (v := ?_) (a' := ?_) (bl 16 7) rfl rfl (any_of HT_.out (by kernel_rfl)) (fun _ _ _ h => h) (Or.inl ⟨by rfl, ?_⟩) ?_ ?_
   rotate_left
   ·intro w'
    go_simp
    with_reducible rfl
   rotate_left
   ·simp only [puts_]
    rfl
   refine pure_ (i := 4) (N := some 25) (v := ?_) (a' := ?_) (bl 16 23) rfl rfl (any_of HT_.out (by kernel_rfl)) (fun _ _ _ h => h) (Or.inl ⟨by rfl, ?_⟩) ?_ ?_
   rotate_left
   ·intro w'
    go_simp
    with_reducible rfl
   rotate_left
   ·simp only [puts_]
    rfl
   refine pure_ (i := 6) (N := some 27) (v := ?_) (a' := ?_) (bl 16 87) rfl rfl (any_of HT_.out (by kernel_rfl)) (fun _ _ _ h => h) (Or.inl ⟨by rfl, ?_⟩) ?_ ?_
   rotate_left
   ·intro w'
    go_simp
    with_reducible rfl
   rotate_left
   ·simp only [puts_]
    rfl
   refine pure_ (i := 7) (N := some 28) (v := ?_) (a' := ?_) (bl 16 215) rfl rfl (any_of HT_.out (by kernel_rfl)) (fun _ _ _ h => h) (Or.inl ⟨by rfl, ?_⟩) ?_ ?_
   rotate_left
   ·intro w'
    go_simp
    with_reducible rfl
   rotate_left
   ·simp only [puts_]
    rfl
   refine pure_ (i := 8) (N := some 29) (v := ?_) (a' := ?_) (bl 16 471) rfl rfl (any_of HT_.out (by kernel_rfl)) (fun _ _ _ h => h) (Or.inl ⟨by rfl, ?_⟩) ?_ ?_
   rotate_left
   ·intro w'
    go_simp
    with_reducible rfl
   rotate_left
   ·simp only [puts_]
    rfl
   refine take_ (i := 3) (N := some 24) (v := ?_) (a' := ?_) (bl 16 479) rfl rfl (take_ofW HT_.out HW_.out (by kernel_rfl)) (fun _ _ _ h => h) (Or.inl ⟨by rfl, ?_⟩) hHeld ?_ ?_
   rotate_left
   ·rintro w' ⟨s0, s1, s2, s3, s4, s5, s6, s7, s8⟩
    go_simp
    with_reducible rfl
   rotate_left
   ·simp only [puts_]
    rfl
   refine take_ (i := 9) (N := some 30) (v := ?_) (a' := ?_) (bl 16 991) rfl rfl (take_ofW HT_.out HW_.out (by kernel_rfl)) (fun _ _ _ h => h) (Or.inl ⟨by rfl, ?_⟩) hHeld ?_ ?_
   rotate_left
   ·rintro w' ⟨s0, s1, s2, s3, s4, s5, s6, s7, s8⟩
    go_simp
    with_reducible rfl
   rotate_left
   ·simp only [puts_]
    rfl
   refine one_ (i := 5) (N := some 26) (bl 16 1023) rfl rfl (one_of HT_.out (by kernel_rfl)) (by decide) (fun K hK => ?_)
   refine goes_ Try.func48 (by kernel_rfl) rfl #[.int .i64 (wrap64 (a1 - s0_5))] (by rfl) rfl rfl (by (try simp only [List.map_toArray, List.map_cons, List.map_nil]); first | done | rfl | (simp only [List.length_drop, List.length_take]; rfl)) ?_
   with_reducible refine (flywheelref01_Abs.calls k (wrap64 (a1 - s0_5)) t347 _ A14.out).mono ?_
   rintro e w' ⟨rfl, ⟨nd, rfl⟩⟩
   refine ⟨_, rfl, ?_⟩
   refine hK.out _ _ ⟨(IsS71.cell_0 HI0.out), (IsS71.cell_1 HI0.out), (IsS71.cell_2 HI0.out), (IsS71.cell_3 HI0.out), (IsS71.cell_4 HI0.out), (IsS71.cell_5 HI0.out), (IsS71.cell_6 HI0.out), (IsS71.cell_7 HI0.out), (IsS71.cell_8 HI0.out)⟩ (fun hHeld => ?_)
   clear hK K
   refine norm_ (a' := ?_) ?_ ?_
   rotate_left
   ·show Act.put _ (some 26) _ = _
    simp only [puts_]
    rfl
   refine pure_ (i := 10) (N := some 31) (v := ?_) (a' := ?_) (bl 16 2047) rfl rfl (any_of HT_.out (by kernel_rfl)) (fun _ _ _ h => h) (Or.inl ⟨by rfl, ?_⟩) ?_ ?_
   rotate_left
   ·intro w'
    go_simp
    with_reducible rfl
   rotate_left
   ·simp only [puts_]
    rfl
   refine one_ (i := 11) (N := some 32) (bl 16 4095) rfl rfl (one_of HT_.out (by kernel_rfl)) (by decide) (fun K hK => ?_)
   refine goes_ Try.func49 (by kernel_rfl) rfl #[.int .i64 (wrap64 (t347 - s0_6)), .int .i64 5, .int .i64 100, .int .i64 2] (by rfl) rfl rfl (by (try simp only [List.map_toArray, List.map_cons, List.map_nil]); first | done | rfl | (simp only [List.length_drop, List.length_take]; rfl)) ?_
   with_reducible refine (flywheelref02_Do.calls (wrap64 (t347 - s0_6)) 5 100 2 t348 _ A15.out).mono ?_
   rintro e w25 ⟨rfl, hb⟩
   refine ⟨_, rfl, ?_⟩
   have n0_ := Aside0.mk (IsS71.below (by repeat (first | (with_reducible first | exact HI0.out | apply IsS71.alloc | apply IsS71.drewN | apply IsS71.drew | apply IsS71.set_0 | apply IsS71.set_1 | apply IsS71.set_2 | apply IsS71.set_3 | apply IsS71.set_4 | apply IsS71.set_5 | apply IsS71.set_6 | apply IsS71.set_7 | apply IsS71.set_8) | exact HI0.out)) hb)
   have n1_ := Aside0.mk (KeepBut.trans (by repeat (first | (with_reducible first | exact HK.out | apply KeepBut.set_ | apply keep_drewN | apply keep_drew | apply keep_alloc) | exact HK.out)) (KeepBut.of_below hb g none) (.inl rfl))
   have n2_ := Aside0.mk (below_step (by repeat (first | (with_reducible first | exact HB.out | apply below_alloc | apply pw_below_drewN | apply below_drew1 | refine below_set ?_ (IsS71.ge HI0.out)) | exact HB.out)) hb)
   clear HI0
   clear HK
   clear HB
   have HI0 := n0_
   have HK := n1_
   have HB := n2_
   clear n0_ n1_ n2_
   (try clear hb)
   (try clear hb2)
   (try clear hk)
   (try clear hi)
   refine hK.out _ _ ⟨(IsS71.cell_0 HI0.out), (IsS71.cell_1 HI0.out), (IsS71.cell_2 HI0.out), (IsS71.cell_3 HI0.out), (IsS71.cell_4 HI0.out), (IsS71.cell_5 HI0.out), (IsS71.cell_6 HI0.out), (IsS71.cell_7 HI0.out), (IsS71.cell_8 HI0.out)⟩ (fun hHeld => ?_)
   clear hK K
   refine norm_ (a' := ?_) ?_ ?_
   rotate_left
   ·show Act.put _ (some 32) _ = _
    simp only [puts_]
    rfl
   refine pure_ (i := 12) (N := some 33) (v := ?_) (a' := ?_) (bl 16 8191) rfl rfl (any_of HT_.out (by kernel_rfl)) (fun _ _ _ h => h) (Or.inl ⟨by rfl, ?_⟩) ?_ ?_
   rotate_left
   ·intro w'
    go_simp
    with_reducible rfl
   rotate_left
   ·simp only [puts_]
    rfl
   refine pure_ (i := 13) (N := some 34) (v := ?_) (a' := ?_) (bl 16 16383) rfl rfl (any_of HT_.out (by kernel_rfl)) (fun _ _ _ h => h) (Or.inl ⟨by rfl, ?_⟩) ?_ ?_
   rotate_left
   ·intro w'
    go_simp
    with_reducible rfl
   rotate_left
   ·simp only [puts_]
    rfl
   refine pure_ (i := 14) (N := some 35) (v := ?_) (a' := ?_) (bl 16 32767) rfl rfl (any_of HT_.out (by kernel_rfl)) (fun _ _ _ h => h) (Or.inl ⟨by rfl, ?_⟩) ?_ ?_
   rotate_left
   ·intro w'
    go_simp
    with_reducible rfl
   rotate_left
   ·simp only [puts_]
    rfl
   refine last_ (i := 15) (N := none) (bl 16 65535) rfl rfl (one_of HT_.out (by kernel_rfl)) (by decide) (fun K hK => ?_)
   have hs26 : w25.cell? ⟨g, 6, none⟩ = some (.int .i64 s0_6) := IsS71.cell_6 HI0.out
   have hfs26 := IsS71.froz_6 HI0.out
   refine skip_ (w1 := ?_) (by rfl) rfl ?_ ?_
   rotate_left
   ·go_simp
    rfl
   refine hK.out _ _ ?_
   clear hK K
   refine done_ (done_of HT_.out (by kernel_rfl)) ?_
   try go_wp2
   have n0_ : Aside0 (IsS71 w0 (w25.setCell ⟨g, 6, none⟩ (.int .i64 (wrap64 (s0_6 + t348)))) g ji4 s0_1 s0_2 s0_3 true s0_5 (wrap64 (s0_6 + t348)) s0_7 s0_8) := ⟨by repeat (first | (with_reducible first | exact HI0.out | apply IsS71.alloc | apply IsS71.drewN | apply IsS71.drew | apply IsS71.set_0 | apply IsS71.set_1 | apply IsS71.set_2 | apply IsS71.set_3 | apply IsS71.set_4 | apply IsS71.set_5 | apply IsS71.set_6 | apply IsS71.set_7 | apply IsS71.set_8) | exact HI0.out)⟩
   have n1_ : Aside0 (KeepBut w (w25.setCell ⟨g, 6, none⟩ (.int .i64 (wrap64 (s0_6 + t348)))) g none) := ⟨by repeat (first | (with_reducible first | exact HK.out | apply KeepBut.set_ | apply keep_drewN | apply keep_drew | apply keep_alloc) | exact HK.out)⟩
   have n2_ : Aside0 (Below w0.heap.size w0 (w25.setCell ⟨g, 6, none⟩ (.int .i64 (wrap64 (s0_6 + t348))))) := ⟨by repeat (first | (with_reducible first | exact HB.out | apply below_alloc | apply pw_below_drewN | apply below_drew1 | refine below_set ?_ (IsS71.ge HI0.out)) | exact HB.out)⟩
   (try clear HI0)
   (try clear HK)
   (try clear HB)
   generalize (w25.setCell ⟨g, 6, none⟩ (.int .i64 (wrap64 (s0_6 + t348)))) = w27 at n0_ n1_ n2_ ⊢
   have HI0 := n0_
   have HK := n1_
   have HB := n2_
   clear n0_ n1_ n2_
   have n0_ := Aside0.mk (IsS71.drew HI0.out)
   have n1_ := Aside0.mk (keep_drew HK.out)
   have n2_ := Aside0.mk (below_drew1 HB.out)
   clear HI0
   clear HK
   clear HB
   have HI0 := n0_
   have HK := n1_
   have HB := n2_
   clear n0_ n1_ n2_
   refine start_ (n := 10) (S := fun w' => w'.cell? ⟨g, 0, none⟩ = some (.int .i64 ji4) ∧ w'.cell? ⟨g, 1, none⟩ = some (.int .i64 s0_1) ∧ w'.cell? ⟨g, 2, none⟩ = some (.int .i64 s0_2) ∧ w'.cell? ⟨g, 3, none⟩ = some (.int .i64 s0_3) ∧ w'.cell? ⟨g, 4, none⟩ = some (.bool true) ∧ w'.cell? ⟨g, 5, none⟩ = some (.int .i64 s0_5) ∧ w'.cell? ⟨g, 6, none⟩ = some (.int .i64 (wrap64 (s0_6 + t348))) ∧ w'.cell? ⟨g, 7, none⟩ = some (.bool s0_7) ∧ w'.cell? ⟨g, 8, none⟩ = some (.int .i64 s0_8)) (ds := [9]) #[false, false, false, false, false, false, false, false, false, false] (by kernel_rfl) rfl rfl ⟨(IsS71.cell_0 HI0.out), (IsS71.cell_1 HI0.out), (IsS71.cell_2 HI0.out), (IsS71.cell_3 HI0.out), (IsS71.cell_4 HI0.out), (IsS71.cell_5 HI0.out), (IsS71.cell_6 HI0.out), (IsS71.cell_7 HI0.out), (IsS71.cell_8 HI0.out)⟩ (fun hHeld => ?_); refine with_tabW flywheelref19_Aimd_cut.tab3 flywheelref19_Aimd_cut.bits3 (fun HT_ HW_ => ?_)
   generalize w27.drew = w28 at HI0 HK HB hHeld ⊢
   refine pure_ (i := 0) (N := some 36) (v := ?_) (a' := ?_) (bl 10 1) rfl rfl (any_of HT_.out (by kernel_rfl)) (fun _ _ _ h => h) (Or.inl ⟨by rfl, ?_⟩) ?_ ?_
   rotate_left
   ·intro w'
    go_simp
    with_reducible rfl
   rotate_left
   ·simp only [puts_]
    rfl
   refine pure_ (i := 1) (N := some 37) (v := ?_) (a' := ?_) (bl 10 3) rfl rfl (any_of HT_.out (by kernel_rfl)) (fun _ _ _ h => h) (Or.inl ⟨by rfl, ?_⟩) ?_ ?_
   rotate_left
   ·intro w'
    go_simp
    with_reducible rfl
   rotate_left
   ·simp only [puts_]
    rfl
   refine pure_ (i := 2) (N := some 38) (v := ?_) (a' := ?_) (bl 10 7) rfl rfl (any_of HT_.out (by kernel_rfl)) (fun _ _ _ h => h) (Or.inl ⟨by rfl, ?_⟩) ?_ ?_
   rotate_left
   ·intro w'
    go_simp
    with_reducible rfl
   rotate_left
   ·simp only [puts_]
    rfl
   refine pure_ (i := 4) (N := some 40) (v := ?_) (a' := ?_) (bl 10 23) rfl rfl (any_of HT_.out (by kernel_rfl)) (fun _ _ _ h => h) (Or.inl ⟨by rfl, ?_⟩) ?_ ?_
   rotate_left
   ·intro w'
    go_simp
    with_reducible rfl
   rotate_left
   ·simp only [puts_]
    rfl
   refine take_ (i := 3) (N := some 39) (v := ?_) (a' := ?_) (bl 10 31) rfl rfl (take_ofW HT_.out HW_.out (by kernel_rfl)) (fun _ _ _ h => h) (Or.inl ⟨by rfl, ?_⟩) hHeld ?_ ?_
   rotate_left
   ·rintro w' ⟨s0, s1, s2, s3, s4, s5, s6, s7, s8⟩
    go_simp
    with_reducible rfl
   rotate_left
   ·simp only [puts_]
    rfl
   refine one_ (i := 5) (N := some 41) (bl 10 63) rfl rfl (one_of HT_.out (by kernel_rfl)) (by decide) (fun K hK => ?_)
   refine goes_ Try.func49 (by kernel_rfl) rfl #[.int .i64 (wrap64 (a1 - s0_5)), .int .i64 5, .int .i64 100, .int .i64 2] (by rfl) rfl rfl (by (try simp only [List.map_toArray, List.map_cons, List.map_nil]); first | done | rfl | (simp only [List.length_drop, List.length_take]; rfl)) ?_
   with_reducible refine (flywheelref02_Do.calls (wrap64 (a1 - s0_5)) 5 100 2 t349 _ A16.out).mono ?_
   rintro e w29 ⟨rfl, hb⟩
   refine ⟨_, rfl, ?_⟩
   have n0_ := Aside0.mk (IsS71.below (by repeat (first | (with_reducible first | exact HI0.out | apply IsS71.alloc | apply IsS71.drewN | apply IsS71.drew | apply IsS71.set_0 | apply IsS71.set_1 | apply IsS71.set_2 | apply IsS71.set_3 | apply IsS71.set_4 | apply IsS71.set_5 | apply IsS71.set_6 | apply IsS71.set_7 | apply IsS71.set_8) | exact HI0.out)) hb)
   have n1_ := Aside0.mk (KeepBut.trans (by repeat (first | (with_reducible first | exact HK.out | apply KeepBut.set_ | apply keep_drewN | apply keep_drew | apply keep_alloc) | exact HK.out)) (KeepBut.of_below hb g none) (.inl rfl))
   have n2_ := Aside0.mk (below_step (by repeat (first | (with_reducible first | exact HB.out | apply below_alloc | apply pw_below_drewN | apply below_drew1 | refine below_set ?_ (IsS71.ge HI0.out)) | exact HB.out)) hb)
   clear HI0
   clear HK
   clear HB
   have HI0 := n0_
   have HK := n1_
   have HB := n2_
   clear n0_ n1_ n2_
   (try clear hb)
   (try clear hb2)
   (try clear hk)
   (try clear hi)
   refine hK.out _ _ ⟨(IsS71.cell_0 HI0.out), (IsS71.cell_1 HI0.out), (IsS71.cell_2 HI0.out), (IsS71.cell_3 HI0.out), (IsS71.cell_4 HI0.out), (IsS71.cell_5 HI0.out), (IsS71.cell_6 HI0.out), (IsS71.cell_7 HI0.out), (IsS71.cell_8 HI0.out)⟩ (fun hHeld => ?_)
   clear hK K
   refine norm_ (a' := ?_) ?_ ?_
   rotate_left
   ·show Act.put _ (some 41) _ = _
    simp only [puts_]
    rfl
   refine pure_ (i := 6) (N := some 42) (v := ?_) (a' := ?_) (bl 10 127) rfl rfl (any_of HT_.out (by kernel_rfl)) (fun _ _ _ h => h) (Or.inl ⟨by rfl, ?_⟩) ?_ ?_
   rotate_left
   ·intro w'
    go_simp
    with_reducible rfl
   rotate_left
   ·simp only [puts_]
    rfl
   refine pure_ (i := 7) (N := some 43) (v := ?_) (a' := ?_) (bl 10 255) rfl rfl (any_of HT_.out (by kernel_rfl)) (fun _ _ _ h => h) (Or.inl ⟨by rfl, ?_⟩) ?_ ?_
   rotate_left
   ·intro w'
    go_simp
    with_reducible rfl
   rotate_left
   ·simp only [puts_]
    rfl
   refine pure_ (i := 8) (N := some 44) (v := ?_) (a' := ?_) (bl 10 511) rfl rfl (any_of HT_.out (by kernel_rfl)) (fun _ _ _ h => h) (Or.inl ⟨by rfl, ?_⟩) ?_ ?_
   rotate_left
   ·intro w'
    go_simp
    with_reducible rfl
   rotate_left
   ·simp only [puts_]
    rfl
   refine last_ (i := 9) (N := none) (bl 10 1023) rfl rfl (one_of HT_.out (by kernel_rfl)) (by decide) (fun K hK => ?_)
   have hs30 : w29.cell? ⟨g, 5, none⟩ = some (.int .i64 s0_5) := IsS71.cell_5 HI0.out
   have hfs30 := IsS71.froz_5 HI0.out
   refine skip_ (w1 := ?_) (by rfl) rfl ?_ ?_
   rotate_left
   ·go_simp
    rfl
   refine hK.out _ _ ?_
   clear hK K
   refine done_ (done_of HT_.out (by kernel_rfl)) ?_
   try go_wp2
   first | go_end0 | ((try simp only [Exit.inBlock, Exit.then]); refine bodyPost_ret (results_none rfl _ _ _) rfl ?_)
   exact ⟨by first | rfl | (simp [errW_none, errW_some] <;> rfl) | (simp only [← hji4]; first | rfl | (simp [errW_none, errW_some] <;> rfl)) | (simp [*, errW_none, errW_some] <;> rfl), by repeat (first | (with_reducible first | exact HI0.out | apply IsS71.alloc | apply IsS71.drewN | apply IsS71.drew | apply IsS71.set_0 | apply IsS71.set_1 | apply IsS71.set_2 | apply IsS71.set_3 | apply IsS71.set_4 | apply IsS71.set_5 | apply IsS71.set_6 | apply IsS71.set_7 | apply IsS71.set_8) | exact HI0.out), by repeat (first | (with_reducible first | exact HB.out | apply below_alloc | apply pw_below_drewN | apply below_drew1 | refine below_set ?_ (IsS71.ge HI0.out)) | exact HB.out), by repeat (first | (with_reducible first | exact HK.out | apply KeepBut.set_ | apply keep_drewN | apply keep_drew | apply keep_alloc) | exact HK.out)⟩
 ·replace c5 := Bool.eq_false_iff.mpr c5
  subst c5
  have H1 : (some (ji4, s0_1, s0_2, s0_3, true, a1, wrap64 (Int.tdiv a1 10), s0_7, s0_8)) = some (r1, r2, r3, r4, r5, r6, r7, r8, r9) := by rw [if_neg (show ¬ (false = true) by decide)] at H; exact H
  clear H
  have H := H1
  clear H1
  simp only [Option.some.injEq, Prod.mk.injEq] at H
  obtain ⟨rfl, rfl, rfl, rfl, rfl, rfl, rfl, rfl, rfl⟩ := H
  go_enter Try.func42, Try.ntmps42
  try go_wp2
  have n0_ := Aside0.mk (IsS71.drew HI0.out)
  have n1_ := Aside0.mk (keep_drew HK.out)
  have n2_ := Aside0.mk (below_drew1 HB.out)
  clear HI0
  clear HK
  clear HB
  have HI0 := n0_
  have HK := n1_
  have HB := n2_
  clear n0_ n1_ n2_
  refine start_ (n := 11) (S := fun w' => w'.cell? ⟨g, 0, none⟩ = some (.int .i64 s0_0) ∧ w'.cell? ⟨g, 1, none⟩ = some (.int .i64 s0_1) ∧ w'.cell? ⟨g, 2, none⟩ = some (.int .i64 s0_2) ∧ w'.cell? ⟨g, 3, none⟩ = some (.int .i64 s0_3) ∧ w'.cell? ⟨g, 4, none⟩ = some (.bool false) ∧ w'.cell? ⟨g, 5, none⟩ = some (.int .i64 s0_5) ∧ w'.cell? ⟨g, 6, none⟩ = some (.int .i64 s0_6) ∧ w'.cell? ⟨g, 7, none⟩ = some (.bool s0_7) ∧ w'.cell? ⟨g, 8, none⟩ = some (.int .i64 s0_8)) (ds := [10]) #[false, false, false, false, false, false, false, false, false, false, false] (by kernel_rfl) rfl rfl ⟨(IsS71.cell_0 HI0.out), (IsS71.cell_1 HI0.out), (IsS71.cell_2 HI0.out), (IsS71.cell_3 HI0.out), (IsS71.cell_4 HI0.out), (IsS71.cell_5 HI0.out), (IsS71.cell_6 HI0.out), (IsS71.cell_7 HI0.out), (IsS71.cell_8 HI0.out)⟩ (fun hHeld => ?_); refine with_tabW flywheelref19_Aimd_cut.tab0 flywheelref19_Aimd_cut.bits0 (fun HT_ HW_ => ?_)
  generalize w.drew = w31 at HI0 HK HB hHeld ⊢
  refine pure_ (i := 0) (N := some 5) (v := ?_) (a' := ?_) (bl 11 1) rfl rfl (any_of HT_.out (by kernel_rfl)) (fun _ _ _ h => h) (Or.inl ⟨by rfl, ?_⟩) ?_ ?_
  rotate_left
  ·intro w'
   go_simp
   with_reducible rfl
  rotate_left
  ·simp only [puts_]
   rfl
  refine pure_ (i := 1) (N := some 6) (v := ?_) (a' := ?_) (bl 11 3) rfl rfl (any_of HT_.out (by kernel_rfl)) (fun _ _ _ h => h) (Or.inl ⟨by rfl, ?_⟩) ?_ ?_
  rotate_left
  ·intro w'
   go_simp
   with_reducible rfl
  rotate_left
  ·simp only [puts_]
   rfl
  refine pure_ (i := 2) (N := some 7) (v := ?_) (a' := ?_) (bl 11 7) rfl rfl (any_of HT_.out (by kernel_rfl)) (fun _ _ _ h => h) (Or.inl ⟨by rfl, ?_⟩) ?_ ?_
  rotate_left
  ·intro w'
   go_simp
   with_reducible rfl
  rotate_left
  ·simp only [puts_]
   rfl
  refine pure_ (i := 3) (N := some 8) (v := ?_) (a' := ?_) (bl 11 15) rfl rfl (any_of HT_.out (by kernel_rfl)) (fun _ _ _ h => h) (Or.inl ⟨by rfl, ?_⟩) ?_ ?_
  rotate_left
  ·intro w'
   go_simp
   with_reducible rfl
  rotate_left
  ·simp only [puts_]
   rfl
  refine pure_ (i := 5) (N := some 10) (v := ?_) (a' := ?_) (bl 11 47) rfl rfl (any_of HT_.out (by kernel_rfl)) (fun _ _ _ h => h) (Or.inl ⟨by rfl, ?_⟩) ?_ ?_
  rotate_left
  ·intro w'
   go_simp
   with_reducible rfl
  rotate_left
  ·simp only [puts_]
   rfl
  refine take_ (i := 4) (N := some 9) (v := ?_) (a' := ?_) (bl 11 63) rfl rfl (take_ofW HT_.out HW_.out (by kernel_rfl)) (fun _ _ _ h => h) (Or.inl ⟨by rfl, ?_⟩) hHeld ?_ ?_
  rotate_left
  ·rintro w' ⟨s0, s1, s2, s3, s4, s5, s6, s7, s8⟩
   go_simp
   with_reducible rfl
  rotate_left
  ·simp only [puts_]
   rfl
  refine one_ (i := 6) (N := some 11) (bl 11 127) rfl rfl (one_of HT_.out (by kernel_rfl)) (by decide) (fun K hK => ?_)
  refine goes_ Try.func49 (by kernel_rfl) rfl #[.int .i64 a1, .int .i64 85, .int .i64 100, .int .i64 1] (by rfl) rfl rfl (by (try simp only [List.map_toArray, List.map_cons, List.map_nil]); first | done | rfl | (simp only [List.length_drop, List.length_take]; rfl)) ?_
  with_reducible refine (flywheelref02_Do.calls a1 85 100 1 t346 _ A3.out).mono ?_
  rintro e w32 ⟨rfl, hb⟩
  refine ⟨_, rfl, ?_⟩
  have n0_ := Aside0.mk (IsS71.below (by repeat (first | (with_reducible first | exact HI0.out | apply IsS71.alloc | apply IsS71.drewN | apply IsS71.drew | apply IsS71.set_0 | apply IsS71.set_1 | apply IsS71.set_2 | apply IsS71.set_3 | apply IsS71.set_4 | apply IsS71.set_5 | apply IsS71.set_6 | apply IsS71.set_7 | apply IsS71.set_8) | exact HI0.out)) hb)
  have n1_ := Aside0.mk (KeepBut.trans (by repeat (first | (with_reducible first | exact HK.out | apply KeepBut.set_ | apply keep_drewN | apply keep_drew | apply keep_alloc) | exact HK.out)) (KeepBut.of_below hb g none) (.inl rfl))
  have n2_ := Aside0.mk (below_step (by repeat (first | (with_reducible first | exact HB.out | apply below_alloc | apply pw_below_drewN | apply below_drew1 | refine below_set ?_ (IsS71.ge HI0.out)) | exact HB.out)) hb)
  clear HI0
  clear HK
  clear HB
  have HI0 := n0_
  have HK := n1_
  have HB := n2_
  clear n0_ n1_ n2_
  (try clear hb)
  (try clear hb2)
  (try clear hk)
  (try clear hi)
  refine hK.out _ _ ⟨(IsS71.cell_0 HI0.out), (IsS71.cell_1 HI0.out), (IsS71.cell_2 HI0.out), (IsS71.cell_3 HI0.out), (IsS71.cell_4 HI0.out), (IsS71.cell_5 HI0.out), (IsS71.cell_6 HI0.out), (IsS71.cell_7 HI0.out), (IsS71.cell_8 HI0.out)⟩ (fun hHeld => ?_)
  clear hK K
  refine norm_ (a' := ?_) ?_ ?_
  rotate_left
  ·show Act.put _ (some 11) _ = _
   simp only [puts_]
   rfl
  refine pure_ (i := 7) (N := some 12) (v := ?_) (a' := ?_) (bl 11 255) rfl rfl (any_of HT_.out (by kernel_rfl)) (fun _ _ _ h => h) (Or.inl ⟨by rfl, ?_⟩) ?_ ?_
  rotate_left
  ·intro w'
   go_simp
   with_reducible rfl
  rotate_left
  ·simp only [puts_]
   rfl
  refine pure_ (i := 8) (N := some 13) (v := ?_) (a' := ?_) (bl 11 511) rfl rfl (any_of HT_.out (by kernel_rfl)) (fun _ _ _ h => h) (Or.inl ⟨by rfl, ?_⟩) ?_ ?_
  rotate_left
  ·intro w'
   go_simp
   with_reducible rfl
  rotate_left
  ·simp only [puts_]
   rfl
  refine pure_ (i := 9) (N := some 14) (v := ?_) (a' := ?_) (bl 11 1023) rfl rfl (any_of HT_.out (by kernel_rfl)) (fun _ _ _ h => h) (Or.inl ⟨by rfl, ?_⟩) ?_ ?_
  rotate_left
  ·intro w'
   go_simp
   with_reducible rfl
  rotate_left
  ·simp only [puts_]
   rfl
  refine last_ (i := 10) (N := none) (bl 11 2047) rfl rfl (one_of HT_.out (by kernel_rfl)) (by decide) (fun K hK => ?_)
  have hs33 : w32.cell? ⟨g, 0, none⟩ = some (.int .i64 s0_0) := IsS71.cell_0 HI0.out
  have hfs33 := IsS71.froz_0 HI0.out
  refine skip_ (w1 := ?_) (by rfl) rfl ?_ ?_
  rotate_left
  ·go_simp
   rfl
  refine hK.out _ _ ?_
  clear hK K
  refine done_ (done_of HT_.out (by kernel_rfl)) ?_
  obtain ⟨HGz34, hgz34⟩ := HI0.out
  have hcz34_0 := cellS71_0 HGz34
  have hcz34_1 := cellS71_1 HGz34
  have hcz34_2 := cellS71_2 HGz34
  have hcz34_3 := cellS71_3 HGz34
  have hcz34_4 := cellS71_4 HGz34
  have hcz34_5 := cellS71_5 HGz34
  have hcz34_6 := cellS71_6 HGz34
  have hcz34_7 := cellS71_7 HGz34
  have hcz34_8 := cellS71_8 HGz34
  have hfz34_0 := blk_frozen HGz34 0
  have hfz34_1 := blk_frozen HGz34 1
  have hfz34_2 := blk_frozen HGz34 2
  have hfz34_3 := blk_frozen HGz34 3
  have hfz34_4 := blk_frozen HGz34 4
  have hfz34_5 := blk_frozen HGz34 5
  have hfz34_6 := blk_frozen HGz34 6
  have hfz34_7 := blk_frozen HGz34 7
  have hfz34_8 := blk_frozen HGz34 8
  clear HGz34 hgz34
  try go_wp2
  first | go_end0 | ((try simp only [Exit.inBlock, Exit.then]); refine bodyPost_ret (results_none rfl _ _ _) rfl ?_)
  exact ⟨by first | rfl | (simp [errW_none, errW_some] <;> rfl) | (simp only [← hji4]; first | rfl | (simp [errW_none, errW_some] <;> rfl)) | (simp [*, errW_none, errW_some] <;> rfl), by repeat (first | (with_reducible first | exact HI0.out | apply IsS71.alloc | apply IsS71.drewN | apply IsS71.drew | apply IsS71.set_0 | apply IsS71.set_1 | apply IsS71.set_2 | apply IsS71.set_3 | apply IsS71.set_4 | apply IsS71.set_5 | apply IsS71.set_6 | apply IsS71.set_7 | apply IsS71.set_8) | exact HI0.out), by repeat (first | (with_reducible first | exact HB.out | apply below_alloc | apply pw_below_drewN | apply below_drew1 | refine below_set ?_ (IsS71.ge HI0.out)) | exact HB.out), by repeat (first | (with_reducible first | exact HK.out | apply KeepBut.set_ | apply keep_drewN | apply keep_drew | apply keep_alloc) | exact HK.out)⟩
end Go.Proofs.Ytaelmmbodigheaa.P
end

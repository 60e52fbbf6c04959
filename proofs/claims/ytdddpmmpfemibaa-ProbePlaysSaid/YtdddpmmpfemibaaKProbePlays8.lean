-- PUT TOGETHER by a program of this session: of the claim's texts, what is used
import Derived.Test.YtdddpmmpfemibaaKProbePlays7
section
namespace Go.Proofs.Ytdddpmmpfemibaa.P
open Go.RowKit Go.Proofs.YtdddpmmpfemibaaW.PrintWords Go.Proofs.YtdddpmmpfemibaaW.PrintLast Go.Proofs.YtdddpmmpfemibaaW.PrintMore
attribute [local go_sem] max2_int min2_int max_two min_two max_three min_three max_four min_four   -- for this text's walks alone
set_option linter.unusedVariables false
set_option linter.unusedSimpArgs false
mutual
def flywheelref02_Did.j0 : Nat → Int → Int → Int → Int → Bool → Option (Int × Bool)
 | 0, _, _, _, _, _ => none
 | k + 1, x0, x1, x2, x3, x23 => if x23 = true then (some (0, false)) else ((flywheelref02_size.f x0).bind fun t123 => ((flywheelref02_size.f x1).bind fun t124 => ((flywheelref02_times.f t123 t124).bind fun bt125 => ((flywheelref02_size.f x2).bind fun t127 => ((flywheelref02_part.f k bt125.1 bt125.2 t127).bind fun bt128 => (if x0 < 0 then (if x1 < 0 then (if x2 < 0 then (flywheelref02_Did.j1 k x2 x3 true bt128.1 bt128.2.1 bt128.2.2) else (flywheelref02_Did.j1 k x2 x3 false bt128.1 bt128.2.1 bt128.2.2)) else (if x2 < 0 then (flywheelref02_Did.j1 k x2 x3 false bt128.1 bt128.2.1 bt128.2.2) else (flywheelref02_Did.j1 k x2 x3 true bt128.1 bt128.2.1 bt128.2.2))) else (if x1 < 0 then (if x2 < 0 then (flywheelref02_Did.j1 k x2 x3 false bt128.1 bt128.2.1 bt128.2.2) else (flywheelref02_Did.j1 k x2 x3 true bt128.1 bt128.2.1 bt128.2.2)) else (if x2 < 0 then (flywheelref02_Did.j1 k x2 x3 true bt128.1 bt128.2.1 bt128.2.2) else (flywheelref02_Did.j1 k x2 x3 false bt128.1 bt128.2.1 bt128.2.2)))))))))
def flywheelref02_Did.j1 : Nat → Int → Int → Bool → Int → Bool → Int → Option (Int × Bool)
 | 0, _, _, _, _, _, _ => none
 | k + 1, x2, x3, x10, x132000, x132001, x132002 => if x132002 = 0 then (flywheelref02_Did.j2 k x10 false x132000 x132001 x132002) else (if x3 = 1 then (flywheelref02_Did.j2 k x10 x10 x132000 x132001 x132002) else (if x3 = 3 then (flywheelref02_Did.j2 k x10 (!x10) x132000 x132001 x132002) else (if x10 = true then ((flywheelref02_size.f x2).bind fun t132 => (flywheelref02_Did.j2 k x10 (decide (x132002 > (IntKind.u64.wrap (t132 - x132002)))) x132000 x132001 x132002)) else ((flywheelref02_size.f x2).bind fun t133 => (flywheelref02_Did.j2 k x10 (decide (x132002 ≥ (IntKind.u64.wrap (t133 - x132002)))) x132000 x132001 x132002)))))
def flywheelref02_Did.j2 : Nat → Bool → Bool → Int → Bool → Int → Option (Int × Bool)
 | 0, _, _, _, _, _ => none
 | k + 1, x10, x11, x132000, x132001, x132002 => if x11 = true then (if x132001 = true then (flywheelref02_Did.j3 k x10 (IntKind.u64.wrap (x132000 + 1)) true) else (flywheelref02_Did.j3 k x10 (IntKind.u64.wrap (x132000 + 1)) ((IntKind.u64.wrap (x132000 + 1)) == 0))) else (flywheelref02_Did.j3 k x10 x132000 x132001)
def flywheelref02_Did.j3 : Nat → Bool → Int → Bool → Option (Int × Bool)
 | 0, _, _, _ => none
 | k + 1, x10, x12, x13 => if x10 = true then (if x13 = true then (flywheelref02_Did.j4 k x12 true) else (flywheelref02_Did.j4 k x12 (decide (x12 > 9223372036854775808)))) else (if x13 = true then (some (9223372036854775807, false)) else (if x12 > 9223372036854775807 then (some (9223372036854775807, false)) else (some (wrap64 (x12), true))))
def flywheelref02_Did.j4 : Nat → Int → Bool → Option (Int × Bool)
 | 0, _, _ => none
 | k + 1, x12, x89 => if x89 = true then (some ((-9223372036854775808), false)) else (some (wrap64 (-(wrap64 (x12))), true))
end
def flywheelref02_Did.f (k : Nat) (a0 : Int) (a1 : Int) (a2 : Int) (a3 : Int) : Option (Int × Bool) := if a2 = 0 then (flywheelref02_Did.j0 k a0 a1 a2 a3 true) else (if a3 < 1 then (flywheelref02_Did.j0 k a0 a1 a2 a3 true) else (flywheelref02_Did.j0 k a0 a1 a2 a3 (decide (a3 > 3))))
set_option maxHeartbeats 8000000 in
set_option maxRecDepth 100000 in
theorem flywheelref02_Did.calls (k : Nat) (a0 : Int) (a1 : Int) (a2 : Int) (a3 : Int) (r1 : Int) (r2 : Bool) (w : World) (h : flywheelref02_Did.f k a0 a1 a2 a3 = some (r1, r2)) :
  Calls Try.prog 30 #[.int .i64 a0, .int .i64 a1, .int .i64 a2, .int .i64 a3] w fun e w' => e = .returned (.agg #[.int .i64 r1, .bool r2]) ∧ Below w.heap.size w w' := by
 have hu63 := Try.underlying63
 have hu69 := Try.underlying69
 have HB := Aside0.mk (Below.refl w.heap.size w)
 have H : (if a2 = 0 then (flywheelref02_Did.j0 k a0 a1 a2 a3 true) else (if a3 < 1 then (flywheelref02_Did.j0 k a0 a1 a2 a3 true) else (flywheelref02_Did.j0 k a0 a1 a2 a3 (decide (a3 > 3))))) = some (r1, r2) := h
 clear h
 have HC5 := Aside0.mk H
 clear H
 go_enter Try.func30, Try.ntmps30
 go_upto_region 1 with (first | ((with_reducible refine gate_dst (N := 8) rfl ?_); refine box_event ?hg (N := 8) ?hd (cs := #[.int .i64 0, .bool false]) (t := 63) ?hr ?_; (case hd => rfl); (case hg => rfl); (case hr => first | (go_simp; done) | (go_simp; rfl)); intro gb122 hg w6 hbox hb; have n0_ := Aside0.mk (below_step (by repeat (first | (with_reducible first | exact HB.out | apply below_alloc | apply pw_below_drewN | apply below_drew1) | exact HB.out)) hb); have n1_ := Aside0.mk (hbox); have n2_ := Aside0.mk ((by rw [hg]; exact (below_size (by repeat (first | (with_reducible first | exact HB.out | apply below_alloc | apply pw_below_drewN | apply below_drew1) | exact HB.out))) : w.heap.size ≤ gb122)); have n3_ := Aside0.mk ((by rw [hg]; exact (below_size (by repeat (first | (with_reducible first | exact HB.out | apply below_alloc | apply pw_below_drewN | apply below_drew1) | exact HB.out))) : w.heap.size ≤ gb122)); clear HB; have HB := n0_; have BK122 := n1_; have GW122 := n2_; have GE122 := n3_; clear n0_ n1_ n2_ n3_; clear hb hbox hg))
 repeat (go_quiet (first | ((with_reducible refine gate_dst (N := 8) rfl ?_); refine box_event ?hg (N := 8) ?hd (cs := #[.int .i64 0, .bool false]) (t := 63) ?hr ?_; (case hd => rfl); (case hg => rfl); (case hr => first | (go_simp; done) | (go_simp; rfl)); intro gb122 hg w6 hbox hb; have n0_ := Aside0.mk (below_step (by repeat (first | (with_reducible first | exact HB.out | apply below_alloc | apply pw_below_drewN | apply below_drew1) | exact HB.out)) hb); have n1_ := Aside0.mk (hbox); have n2_ := Aside0.mk ((by rw [hg]; exact (below_size (by repeat (first | (with_reducible first | exact HB.out | apply below_alloc | apply pw_below_drewN | apply below_drew1) | exact HB.out))) : w.heap.size ≤ gb122)); have n3_ := Aside0.mk ((by rw [hg]; exact (below_size (by repeat (first | (with_reducible first | exact HB.out | apply below_alloc | apply pw_below_drewN | apply below_drew1) | exact HB.out))) : w.heap.size ≤ gb122)); clear HB; have HB := n0_; have BK122 := n1_; have GW122 := n2_; have GE122 := n3_; clear n0_ n1_ n2_ n3_; clear hb hbox hg)); go_upto_region 1 with (first | ((with_reducible refine gate_dst (N := 8) rfl ?_); refine box_event ?hg (N := 8) ?hd (cs := #[.int .i64 0, .bool false]) (t := 63) ?hr ?_; (case hd => rfl); (case hg => rfl); (case hr => first | (go_simp; done) | (go_simp; rfl)); intro gb122 hg w6 hbox hb; have n0_ := Aside0.mk (below_step (by repeat (first | (with_reducible first | exact HB.out | apply below_alloc | apply pw_below_drewN | apply below_drew1) | exact HB.out)) hb); have n1_ := Aside0.mk (hbox); have n2_ := Aside0.mk ((by rw [hg]; exact (below_size (by repeat (first | (with_reducible first | exact HB.out | apply below_alloc | apply pw_below_drewN | apply below_drew1) | exact HB.out))) : w.heap.size ≤ gb122)); have n3_ := Aside0.mk ((by rw [hg]; exact (below_size (by repeat (first | (with_reducible first | exact HB.out | apply below_alloc | apply pw_below_drewN | apply below_drew1) | exact HB.out))) : w.heap.size ≤ gb122)); clear HB; have HB := n0_; have BK122 := n1_; have GW122 := n2_; have GE122 := n3_; clear n0_ n1_ n2_ n3_; clear hb hbox hg)))
 (try simp only [Act.put, List.setIfInBounds_toArray, List.set_cons_zero, List.set_cons_succ])
 go_cut [23] (fun v23 wc => ∃ (kq : Nat) (x23_4 : Bool), v23 = .bool x23_4 ∧ Aside0 (flywheelref02_Did.j0 kq a0 a1 a2 a3 x23_4 = some (r1, r2)) ∧ Aside0 (kq ≤ k) ∧ Aside0 (wc.heap[gb122]? = some (.cells #[.int .i64 0, .bool false] 63 (0, 0))) ∧ Aside0 (Below w.heap.size w wc))
 case first =>
  have H := HC5.out
  clear HC5
  by_cases c7 : a2 = 0
  ·rw [if_pos c7] at H
   have c7b0 : (a2 == 0) = true := beq_iff_eq.mpr c7
   have c7b1 : (a2 != 0) = false := bne_eq_false_iff_eq.mpr c7
   clear c7
   (first | rw [c7b0] | (simp only [i64_w, i32_w]; rw [c7b0]) | skip)
   have H' := Aside0.mk H
   clear H
   go_wp2
   repeat (go_quiet (fail); try go_wp2)
   go_meet
   case rel => exact ⟨_, (true), (by first | rfl | (simp; done) | (simp [*]; done)), H', ⟨by first | omega | exact Nat.le_refl _⟩, ⟨by (with_reducible repeat (first | refine blk_drewN ?_ _ | refine blk_drew ?_ | refine blk_alloc ?_ _)); exact BK122.out⟩, ⟨by repeat (first | (with_reducible first | exact HB.out | apply below_alloc | apply pw_below_drewN | apply below_drew1 | refine below_set ?_ GE122.out) | exact HB.out)⟩⟩
  ·rw [if_neg c7] at H
   have c7b0 : (a2 == 0) = false := beq_eq_false_iff_ne.mpr c7
   have c7b1 : (a2 != 0) = true := bne_iff_ne.mpr c7
   (first | rw [c7b0] | (simp only [i64_w, i32_w]; rw [c7b0]) | skip)
   by_cases c8 : a3 < 1
   ·rw [if_pos c8] at H
    have c8b0 : decide (a3 < 1) = true := decide_eq_true c8
    clear c8
    have H' := Aside0.mk H
    clear H
    go_wp2
    repeat (go_quiet (fail); try go_wp2)
    go_meet
    case rel => exact ⟨_, (true), (by first | rfl | (simp; done) | (simp [*]; done)), H', ⟨by first | omega | exact Nat.le_refl _⟩, ⟨by (with_reducible repeat (first | refine blk_drewN ?_ _ | refine blk_drew ?_ | refine blk_alloc ?_ _)); exact BK122.out⟩, ⟨by repeat (first | (with_reducible first | exact HB.out | apply below_alloc | apply pw_below_drewN | apply below_drew1 | refine below_set ?_ GE122.out) | exact HB.out)⟩⟩
   ·rw [if_neg c8] at H
    have c8b0 : decide (a3 < 1) = false := decide_eq_false c8
    clear c8
    have H' := Aside0.mk H
    clear H
    go_wp2
    repeat (go_quiet (fail); try go_wp2)
    go_meet
    case rel => exact ⟨_, (decide (a3 > 3)), (by first | rfl | (simp; done) | (simp [*]; done)), H', ⟨by first | omega | exact Nat.le_refl _⟩, ⟨by (with_reducible repeat (first | refine blk_drewN ?_ _ | refine blk_drew ?_ | refine blk_alloc ?_ _)); exact BK122.out⟩, ⟨by repeat (first | (with_reducible first | exact HB.out | apply below_alloc | apply pw_below_drewN | apply below_drew1 | refine below_set ?_ GE122.out) | exact HB.out)⟩⟩
 case rest =>
  clear HC5
  try clear p2
  try clear c3
  try clear c7
  try clear c7b0
  try clear c7b1
  try clear c8
  try clear c8b0
  obtain ⟨kq, x23_4, rfl, HA, HJ4, BK122, HB⟩ := hcut
  cases kq with
  | zero => exact absurd HA.out (by simp [flywheelref02_Did.j0])
  | succ kj4 =>
   have H := HA.out
   clear HA
   simp only [flywheelref02_Did.j0] at H
   by_cases c9 : x23_4 = true
   ·subst c9
    have H1 : (some (0, false)) = some (r1, r2) := by rw [if_pos rfl] at H; exact H
    clear H
    have H := H1
    clear H1
    simp only [Option.some.injEq, Prod.mk.injEq] at H
    obtain ⟨rfl, rfl⟩ := H
    have hcz10_0 : wc.cell? ⟨gb122, 0, none⟩ = some (.int .i64 0) := (blk_cell BK122.out 0).trans rfl
    have hcz10_1 : wc.cell? ⟨gb122, 1, none⟩ = some (.bool false) := (blk_cell BK122.out 1).trans rfl
    have hfz10_0 := blk_frozen BK122.out 0
    have hfz10_1 := blk_frozen BK122.out 1
    go_wp2
    repeat (go_quiet (fail); try go_wp2)
    refine bodyPost_ret (results_cell_row rfl _ _ gb122 63 #[.int .i64 0, .bool false] (0, 0) _ rfl (by (with_reducible repeat (first | refine blk_drewN ?_ _ | refine blk_drew ?_ | refine blk_alloc ?_ _)); refine blk_put (cs := #[.int .i64 0, .bool false]) ?_ 1 _ rfl; (with_reducible repeat (first | refine blk_drewN ?_ _ | refine blk_drew ?_ | refine blk_alloc ?_ _)); refine blk_put (cs := #[.int .i64 0, .bool false]) ?_ 0 _ rfl; (with_reducible repeat (first | refine blk_drewN ?_ _ | refine blk_drew ?_ | refine blk_alloc ?_ _)); exact BK122.out) Try.underlying63 rfl (by kernel_rfl)) rfl ?_
    exact ⟨by first | rfl | (simp [errW_none, errW_some] <;> rfl) | (simp [*, errW_none, errW_some] <;> rfl), by repeat (first | (with_reducible first | exact HB.out | apply below_alloc | apply pw_below_drewN | apply below_drew1 | refine below_set ?_ GE122.out) | exact HB.out)⟩
   ·replace c9 := Bool.eq_false_iff.mpr c9
    subst c9
    have H1 : ((flywheelref02_size.f a0).bind fun t123 => ((flywheelref02_size.f a1).bind fun t124 => ((flywheelref02_times.f t123 t124).bind fun bt125 => ((flywheelref02_size.f a2).bind fun t127 => ((flywheelref02_part.f kj4 bt125.1 bt125.2 t127).bind fun bt128 => (if a0 < 0 then (if a1 < 0 then (if a2 < 0 then (flywheelref02_Did.j1 kj4 a2 a3 true bt128.1 bt128.2.1 bt128.2.2) else (flywheelref02_Did.j1 kj4 a2 a3 false bt128.1 bt128.2.1 bt128.2.2)) else (if a2 < 0 then (flywheelref02_Did.j1 kj4 a2 a3 false bt128.1 bt128.2.1 bt128.2.2) else (flywheelref02_Did.j1 kj4 a2 a3 true bt128.1 bt128.2.1 bt128.2.2))) else (if a1 < 0 then (if a2 < 0 then (flywheelref02_Did.j1 kj4 a2 a3 false bt128.1 bt128.2.1 bt128.2.2) else (flywheelref02_Did.j1 kj4 a2 a3 true bt128.1 bt128.2.1 bt128.2.2)) else (if a2 < 0 then (flywheelref02_Did.j1 kj4 a2 a3 true bt128.1 bt128.2.1 bt128.2.2) else (flywheelref02_Did.j1 kj4 a2 a3 false bt128.1 bt128.2.1 bt128.2.2))))))))) = some (r1, r2) := by rw [if_neg (show ¬ (false = true) by decide)] at H; exact H
    clear H
    have H := H1
    clear H1
    replace H := Option.bind_eq_some_iff.mp H
    obtain ⟨t123, A110, H⟩ := H
    replace H : ((flywheelref02_size.f a1).bind fun t124 => ((flywheelref02_times.f t123 t124).bind fun bt125 => ((flywheelref02_size.f a2).bind fun t127 => ((flywheelref02_part.f kj4 bt125.1 bt125.2 t127).bind fun bt128 => (if a0 < 0 then (if a1 < 0 then (if a2 < 0 then (flywheelref02_Did.j1 kj4 a2 a3 true bt128.1 bt128.2.1 bt128.2.2) else (flywheelref02_Did.j1 kj4 a2 a3 false bt128.1 bt128.2.1 bt128.2.2)) else (if a2 < 0 then (flywheelref02_Did.j1 kj4 a2 a3 false bt128.1 bt128.2.1 bt128.2.2) else (flywheelref02_Did.j1 kj4 a2 a3 true bt128.1 bt128.2.1 bt128.2.2))) else (if a1 < 0 then (if a2 < 0 then (flywheelref02_Did.j1 kj4 a2 a3 false bt128.1 bt128.2.1 bt128.2.2) else (flywheelref02_Did.j1 kj4 a2 a3 true bt128.1 bt128.2.1 bt128.2.2)) else (if a2 < 0 then (flywheelref02_Did.j1 kj4 a2 a3 true bt128.1 bt128.2.1 bt128.2.2) else (flywheelref02_Did.j1 kj4 a2 a3 false bt128.1 bt128.2.1 bt128.2.2)))))))) = some (r1, r2) := H
    have A11 := Aside0.mk A110
    clear A110
    replace H := Option.bind_eq_some_iff.mp H
    obtain ⟨t124, A120, H⟩ := H
    replace H : ((flywheelref02_times.f t123 t124).bind fun bt125 => ((flywheelref02_size.f a2).bind fun t127 => ((flywheelref02_part.f kj4 bt125.1 bt125.2 t127).bind fun bt128 => (if a0 < 0 then (if a1 < 0 then (if a2 < 0 then (flywheelref02_Did.j1 kj4 a2 a3 true bt128.1 bt128.2.1 bt128.2.2) else (flywheelref02_Did.j1 kj4 a2 a3 false bt128.1 bt128.2.1 bt128.2.2)) else (if a2 < 0 then (flywheelref02_Did.j1 kj4 a2 a3 false bt128.1 bt128.2.1 bt128.2.2) else (flywheelref02_Did.j1 kj4 a2 a3 true bt128.1 bt128.2.1 bt128.2.2))) else (if a1 < 0 then (if a2 < 0 then (flywheelref02_Did.j1 kj4 a2 a3 false bt128.1 bt128.2.1 bt128.2.2) else (flywheelref02_Did.j1 kj4 a2 a3 true bt128.1 bt128.2.1 bt128.2.2)) else (if a2 < 0 then (flywheelref02_Did.j1 kj4 a2 a3 true bt128.1 bt128.2.1 bt128.2.2) else (flywheelref02_Did.j1 kj4 a2 a3 false bt128.1 bt128.2.1 bt128.2.2))))))) = some (r1, r2) := H
    have A12 := Aside0.mk A120
    clear A120
    replace H := Option.bind_eq_some_iff.mp H
    obtain ⟨⟨t125, t126⟩, A130, H⟩ := H
    replace H : ((flywheelref02_size.f a2).bind fun t127 => ((flywheelref02_part.f kj4 t125 t126 t127).bind fun bt128 => (if a0 < 0 then (if a1 < 0 then (if a2 < 0 then (flywheelref02_Did.j1 kj4 a2 a3 true bt128.1 bt128.2.1 bt128.2.2) else (flywheelref02_Did.j1 kj4 a2 a3 false bt128.1 bt128.2.1 bt128.2.2)) else (if a2 < 0 then (flywheelref02_Did.j1 kj4 a2 a3 false bt128.1 bt128.2.1 bt128.2.2) else (flywheelref02_Did.j1 kj4 a2 a3 true bt128.1 bt128.2.1 bt128.2.2))) else (if a1 < 0 then (if a2 < 0 then (flywheelref02_Did.j1 kj4 a2 a3 false bt128.1 bt128.2.1 bt128.2.2) else (flywheelref02_Did.j1 kj4 a2 a3 true bt128.1 bt128.2.1 bt128.2.2)) else (if a2 < 0 then (flywheelref02_Did.j1 kj4 a2 a3 true bt128.1 bt128.2.1 bt128.2.2) else (flywheelref02_Did.j1 kj4 a2 a3 false bt128.1 bt128.2.1 bt128.2.2)))))) = some (r1, r2) := H
    have A13 := Aside0.mk A130
    clear A130
    replace H := Option.bind_eq_some_iff.mp H
    obtain ⟨t127, A140, H⟩ := H
    replace H : ((flywheelref02_part.f kj4 t125 t126 t127).bind fun bt128 => (if a0 < 0 then (if a1 < 0 then (if a2 < 0 then (flywheelref02_Did.j1 kj4 a2 a3 true bt128.1 bt128.2.1 bt128.2.2) else (flywheelref02_Did.j1 kj4 a2 a3 false bt128.1 bt128.2.1 bt128.2.2)) else (if a2 < 0 then (flywheelref02_Did.j1 kj4 a2 a3 false bt128.1 bt128.2.1 bt128.2.2) else (flywheelref02_Did.j1 kj4 a2 a3 true bt128.1 bt128.2.1 bt128.2.2))) else (if a1 < 0 then (if a2 < 0 then (flywheelref02_Did.j1 kj4 a2 a3 false bt128.1 bt128.2.1 bt128.2.2) else (flywheelref02_Did.j1 kj4 a2 a3 true bt128.1 bt128.2.1 bt128.2.2)) else (if a2 < 0 then (flywheelref02_Did.j1 kj4 a2 a3 true bt128.1 bt128.2.1 bt128.2.2) else (flywheelref02_Did.j1 kj4 a2 a3 false bt128.1 bt128.2.1 bt128.2.2))))) = some (r1, r2) := H
    have A14 := Aside0.mk A140
    clear A140
    replace H := Option.bind_eq_some_iff.mp H
    obtain ⟨⟨t128, t129, t130⟩, A150, H⟩ := H
    replace H : (if a0 < 0 then (if a1 < 0 then (if a2 < 0 then (flywheelref02_Did.j1 kj4 a2 a3 true t128 t129 t130) else (flywheelref02_Did.j1 kj4 a2 a3 false t128 t129 t130)) else (if a2 < 0 then (flywheelref02_Did.j1 kj4 a2 a3 false t128 t129 t130) else (flywheelref02_Did.j1 kj4 a2 a3 true t128 t129 t130))) else (if a1 < 0 then (if a2 < 0 then (flywheelref02_Did.j1 kj4 a2 a3 false t128 t129 t130) else (flywheelref02_Did.j1 kj4 a2 a3 true t128 t129 t130)) else (if a2 < 0 then (flywheelref02_Did.j1 kj4 a2 a3 true t128 t129 t130) else (flywheelref02_Did.j1 kj4 a2 a3 false t128 t129 t130)))) = some (r1, r2) := H
    have A15 := Aside0.mk A150
    clear A150
    have HC16 := Aside0.mk H
    clear H
    go_upto_region 4 with (first | (go_at_call 35; (with_reducible refine (flywheelref02_size.calls a0 t123 _ A11.out).mono ?_); rintro e w' ⟨rfl, ⟨nd, rfl⟩⟩; (try first | exact ⟨rfl, _, World.drewN_drewN _ _ _⟩ | exact ⟨rfl, _, Eq.trans (World.drewN_drewN _ _ _) (congrArg (World.drewN _) (Nat.add_assoc _ _ _))⟩)) | (go_at_call 35; (with_reducible refine (flywheelref02_size.calls a1 t124 _ A12.out).mono ?_); rintro e w' ⟨rfl, ⟨nd, rfl⟩⟩; (try first | exact ⟨rfl, _, World.drewN_drewN _ _ _⟩ | exact ⟨rfl, _, Eq.trans (World.drewN_drewN _ _ _) (congrArg (World.drewN _) (Nat.add_assoc _ _ _))⟩)) | (go_at_call 34; (with_reducible refine (flywheelref02_times.calls t123 t124 t125 t126 _ A13.out).mono ?_); rintro e w17 ⟨rfl, hb⟩; have n0_ := Aside0.mk (blk_below (g := gb122) (o := .cells #[.int .i64 0, .bool false] 63 (0, 0)) (by (with_reducible repeat (first | refine blk_drewN ?_ _ | refine blk_drew ?_ | refine blk_alloc ?_ _)); exact BK122.out) hb); have n1_ := Aside0.mk (below_step (by repeat (first | (with_reducible first | exact HB.out | apply below_alloc | apply pw_below_drewN | apply below_drew1 | refine below_set ?_ GE122.out) | exact HB.out)) hb); clear BK122; clear HB; have BK122 := n0_; have HB := n1_; clear n0_ n1_; (try clear hb); (try clear hb2); (try clear hk); (try clear hi)) | (go_at_call 35; (with_reducible refine (flywheelref02_size.calls a2 t127 _ A14.out).mono ?_); rintro e w' ⟨rfl, ⟨nd, rfl⟩⟩; (try first | exact ⟨rfl, _, World.drewN_drewN _ _ _⟩ | exact ⟨rfl, _, Eq.trans (World.drewN_drewN _ _ _) (congrArg (World.drewN _) (Nat.add_assoc _ _ _))⟩)) | (go_at_call 33; (with_reducible refine (flywheelref02_part.calls kj4 t125 t126 t127 t128 t129 t130 _ A15.out).mono ?_); rintro e w18 ⟨rfl, hb⟩; have n0_ := Aside0.mk (blk_below (g := gb122) (o := .cells #[.int .i64 0, .bool false] 63 (0, 0)) (by (with_reducible repeat (first | refine blk_drewN ?_ _ | refine blk_drew ?_ | refine blk_alloc ?_ _)); exact BK122.out) hb); have n1_ := Aside0.mk (below_step (by repeat (first | (with_reducible first | exact HB.out | apply below_alloc | apply pw_below_drewN | apply below_drew1 | refine below_set ?_ GE122.out) | exact HB.out)) hb); clear BK122; clear HB; have BK122 := n0_; have HB := n1_; clear n0_ n1_; (try clear hb); (try clear hb2); (try clear hk); (try clear hi)) | ((with_reducible refine gate_dst (N := 9) rfl ?_); refine box_event ?hg (N := 9) ?hd (cs := #[.int .u64 0, .bool false, .int .u64 0]) (t := 69) ?hr ?_; (case hd => rfl); (case hg => rfl); (case hr => first | (go_simp; done) | (go_simp; rfl)); intro gb131 hg w19 hbox hb; have n0_ := Aside0.mk (blk_below (g := gb122) (o := .cells #[.int .i64 0, .bool false] 63 (0, 0)) (by (with_reducible repeat (first | refine blk_drewN ?_ _ | refine blk_drew ?_ | refine blk_alloc ?_ _)); exact BK122.out) hb); have n1_ := Aside0.mk (below_step (by repeat (first | (with_reducible first | exact HB.out | apply below_alloc | apply pw_below_drewN | apply below_drew1 | refine below_set ?_ GE122.out) | exact HB.out)) hb); have n2_ := Aside0.mk (hbox); have n3_ := Aside0.mk ((by rw [hg]; exact (below_size (by repeat (first | (with_reducible first | exact HB.out | apply below_alloc | apply pw_below_drewN | apply below_drew1 | refine below_set ?_ GE122.out) | exact HB.out))) : w.heap.size ≤ gb131)); have n4_ := Aside0.mk ((by rw [hg]; exact (below_size (by repeat (first | (with_reducible first | exact HB.out | apply below_alloc | apply pw_below_drewN | apply below_drew1 | refine below_set ?_ GE122.out) | exact HB.out))) : w.heap.size ≤ gb131)); have n5_ := Aside0.mk ((by rw [hg]; exact Nat.ne_of_lt (blk_lt (g := gb122) (o := .cells #[.int .i64 0, .bool false] 63 (0, 0)) (by (with_reducible repeat (first | refine blk_drewN ?_ _ | refine blk_drew ?_ | refine blk_alloc ?_ _)); exact BK122.out)) : gb122 ≠ gb131)); have n6_ := Aside0.mk ((by rw [hg]; exact Nat.ne_of_gt (blk_lt (g := gb122) (o := .cells #[.int .i64 0, .bool false] 63 (0, 0)) (by (with_reducible repeat (first | refine blk_drewN ?_ _ | refine blk_drew ?_ | refine blk_alloc ?_ _)); exact BK122.out)) : gb131 ≠ gb122)); clear BK122; clear HB; have BK122 := n0_; have HB := n1_; have BK131 := n2_; have GW131 := n3_; have GE131 := n4_; have NB122_131 := n5_; have NB131_122 := n6_; clear n0_ n1_ n2_ n3_ n4_ n5_ n6_; clear hb hbox hg; have hnb20 := NB131_122.out; have hnc20 := NB122_131.out; have hcz21_0 : w19.cell? ⟨gb131, 0, none⟩ = some (.int .u64 0) := (blk_cell BK131.out 0).trans rfl; have hcz21_1 : w19.cell? ⟨gb131, 1, none⟩ = some (.bool false) := (blk_cell BK131.out 1).trans rfl; have hcz21_2 : w19.cell? ⟨gb131, 2, none⟩ = some (.int .u64 0) := (blk_cell BK131.out 2).trans rfl; have hfz21_0 := blk_frozen BK131.out 0; have hfz21_1 := blk_frozen BK131.out 1; have hfz21_2 := blk_frozen BK131.out 2))
    repeat (go_quiet (first | (go_at_call 35; (with_reducible refine (flywheelref02_size.calls a0 t123 _ A11.out).mono ?_); rintro e w' ⟨rfl, ⟨nd, rfl⟩⟩; (try first | exact ⟨rfl, _, World.drewN_drewN _ _ _⟩ | exact ⟨rfl, _, Eq.trans (World.drewN_drewN _ _ _) (congrArg (World.drewN _) (Nat.add_assoc _ _ _))⟩)) | (go_at_call 35; (with_reducible refine (flywheelref02_size.calls a1 t124 _ A12.out).mono ?_); rintro e w' ⟨rfl, ⟨nd, rfl⟩⟩; (try first | exact ⟨rfl, _, World.drewN_drewN _ _ _⟩ | exact ⟨rfl, _, Eq.trans (World.drewN_drewN _ _ _) (congrArg (World.drewN _) (Nat.add_assoc _ _ _))⟩)) | (go_at_call 34; (with_reducible refine (flywheelref02_times.calls t123 t124 t125 t126 _ A13.out).mono ?_); rintro e w17 ⟨rfl, hb⟩; have n0_ := Aside0.mk (blk_below (g := gb122) (o := .cells #[.int .i64 0, .bool false] 63 (0, 0)) (by (with_reducible repeat (first | refine blk_drewN ?_ _ | refine blk_drew ?_ | refine blk_alloc ?_ _)); exact BK122.out) hb); have n1_ := Aside0.mk (below_step (by repeat (first | (with_reducible first | exact HB.out | apply below_alloc | apply pw_below_drewN | apply below_drew1 | refine below_set ?_ GE122.out) | exact HB.out)) hb); clear BK122; clear HB; have BK122 := n0_; have HB := n1_; clear n0_ n1_; (try clear hb); (try clear hb2); (try clear hk); (try clear hi)) | (go_at_call 35; (with_reducible refine (flywheelref02_size.calls a2 t127 _ A14.out).mono ?_); rintro e w' ⟨rfl, ⟨nd, rfl⟩⟩; (try first | exact ⟨rfl, _, World.drewN_drewN _ _ _⟩ | exact ⟨rfl, _, Eq.trans (World.drewN_drewN _ _ _) (congrArg (World.drewN _) (Nat.add_assoc _ _ _))⟩)) | (go_at_call 33; (with_reducible refine (flywheelref02_part.calls kj4 t125 t126 t127 t128 t129 t130 _ A15.out).mono ?_); rintro e w18 ⟨rfl, hb⟩; have n0_ := Aside0.mk (blk_below (g := gb122) (o := .cells #[.int .i64 0, .bool false] 63 (0, 0)) (by (with_reducible repeat (first | refine blk_drewN ?_ _ | refine blk_drew ?_ | refine blk_alloc ?_ _)); exact BK122.out) hb); have n1_ := Aside0.mk (below_step (by repeat (first | (with_reducible first | exact HB.out | apply below_alloc | apply pw_below_drewN | apply below_drew1 | refine below_set ?_ GE122.out) | exact HB.out)) hb); clear BK122; clear HB; have BK122 := n0_; have HB := n1_; clear n0_ n1_; (try clear hb); (try clear hb2); (try clear hk); (try clear hi)) | ((with_reducible refine gate_dst (N := 9) rfl ?_); refine box_event ?hg (N := 9) ?hd (cs := #[.int .u64 0, .bool false, .int .u64 0]) (t := 69) ?hr ?_; (case hd => rfl); (case hg => rfl); (case hr => first | (go_simp; done) | (go_simp; rfl)); intro gb131 hg w19 hbox hb; have n0_ := Aside0.mk (blk_below (g := gb122) (o := .cells #[.int .i64 0, .bool false] 63 (0, 0)) (by (with_reducible repeat (first | refine blk_drewN ?_ _ | refine blk_drew ?_ | refine blk_alloc ?_ _)); exact BK122.out) hb); have n1_ := Aside0.mk (below_step (by repeat (first | (with_reducible first | exact HB.out | apply below_alloc | apply pw_below_drewN | apply below_drew1 | refine below_set ?_ GE122.out) | exact HB.out)) hb); have n2_ := Aside0.mk (hbox); have n3_ := Aside0.mk ((by rw [hg]; exact (below_size (by repeat (first | (with_reducible first | exact HB.out | apply below_alloc | apply pw_below_drewN | apply below_drew1 | refine below_set ?_ GE122.out) | exact HB.out))) : w.heap.size ≤ gb131)); have n4_ := Aside0.mk ((by rw [hg]; exact (below_size (by repeat (first | (with_reducible first | exact HB.out | apply below_alloc | apply pw_below_drewN | apply below_drew1 | refine below_set ?_ GE122.out) | exact HB.out))) : w.heap.size ≤ gb131)); have n5_ := Aside0.mk ((by rw [hg]; exact Nat.ne_of_lt (blk_lt (g := gb122) (o := .cells #[.int .i64 0, .bool false] 63 (0, 0)) (by (with_reducible repeat (first | refine blk_drewN ?_ _ | refine blk_drew ?_ | refine blk_alloc ?_ _)); exact BK122.out)) : gb122 ≠ gb131)); have n6_ := Aside0.mk ((by rw [hg]; exact Nat.ne_of_gt (blk_lt (g := gb122) (o := .cells #[.int .i64 0, .bool false] 63 (0, 0)) (by (with_reducible repeat (first | refine blk_drewN ?_ _ | refine blk_drew ?_ | refine blk_alloc ?_ _)); exact BK122.out)) : gb131 ≠ gb122)); clear BK122; clear HB; have BK122 := n0_; have HB := n1_; have BK131 := n2_; have GW131 := n3_; have GE131 := n4_; have NB122_131 := n5_; have NB131_122 := n6_; clear n0_ n1_ n2_ n3_ n4_ n5_ n6_; clear hb hbox hg; have hnb20 := NB131_122.out; have hnc20 := NB122_131.out; have hcz21_0 : w19.cell? ⟨gb131, 0, none⟩ = some (.int .u64 0) := (blk_cell BK131.out 0).trans rfl; have hcz21_1 : w19.cell? ⟨gb131, 1, none⟩ = some (.bool false) := (blk_cell BK131.out 1).trans rfl; have hcz21_2 : w19.cell? ⟨gb131, 2, none⟩ = some (.int .u64 0) := (blk_cell BK131.out 2).trans rfl; have hfz21_0 := blk_frozen BK131.out 0; have hfz21_1 := blk_frozen BK131.out 1; have hfz21_2 := blk_frozen BK131.out 2)); go_upto_region 4 with (first | (go_at_call 35; (with_reducible refine (flywheelref02_size.calls a0 t123 _ A11.out).mono ?_); rintro e w' ⟨rfl, ⟨nd, rfl⟩⟩; (try first | exact ⟨rfl, _, World.drewN_drewN _ _ _⟩ | exact ⟨rfl, _, Eq.trans (World.drewN_drewN _ _ _) (congrArg (World.drewN _) (Nat.add_assoc _ _ _))⟩)) | (go_at_call 35; (with_reducible refine (flywheelref02_size.calls a1 t124 _ A12.out).mono ?_); rintro e w' ⟨rfl, ⟨nd, rfl⟩⟩; (try first | exact ⟨rfl, _, World.drewN_drewN _ _ _⟩ | exact ⟨rfl, _, Eq.trans (World.drewN_drewN _ _ _) (congrArg (World.drewN _) (Nat.add_assoc _ _ _))⟩)) | (go_at_call 34; (with_reducible refine (flywheelref02_times.calls t123 t124 t125 t126 _ A13.out).mono ?_); rintro e w17 ⟨rfl, hb⟩; have n0_ := Aside0.mk (blk_below (g := gb122) (o := .cells #[.int .i64 0, .bool false] 63 (0, 0)) (by (with_reducible repeat (first | refine blk_drewN ?_ _ | refine blk_drew ?_ | refine blk_alloc ?_ _)); exact BK122.out) hb); have n1_ := Aside0.mk (below_step (by repeat (first | (with_reducible first | exact HB.out | apply below_alloc | apply pw_below_drewN | apply below_drew1 | refine below_set ?_ GE122.out) | exact HB.out)) hb); clear BK122; clear HB; have BK122 := n0_; have HB := n1_; clear n0_ n1_; (try clear hb); (try clear hb2); (try clear hk); (try clear hi)) | (go_at_call 35; (with_reducible refine (flywheelref02_size.calls a2 t127 _ A14.out).mono ?_); rintro e w' ⟨rfl, ⟨nd, rfl⟩⟩; (try first | exact ⟨rfl, _, World.drewN_drewN _ _ _⟩ | exact ⟨rfl, _, Eq.trans (World.drewN_drewN _ _ _) (congrArg (World.drewN _) (Nat.add_assoc _ _ _))⟩)) | (go_at_call 33; (with_reducible refine (flywheelref02_part.calls kj4 t125 t126 t127 t128 t129 t130 _ A15.out).mono ?_); rintro e w18 ⟨rfl, hb⟩; have n0_ := Aside0.mk (blk_below (g := gb122) (o := .cells #[.int .i64 0, .bool false] 63 (0, 0)) (by (with_reducible repeat (first | refine blk_drewN ?_ _ | refine blk_drew ?_ | refine blk_alloc ?_ _)); exact BK122.out) hb); have n1_ := Aside0.mk (below_step (by repeat (first | (with_reducible first | exact HB.out | apply below_alloc | apply pw_below_drewN | apply below_drew1 | refine below_set ?_ GE122.out) | exact HB.out)) hb); clear BK122; clear HB; have BK122 := n0_; have HB := n1_; clear n0_ n1_; (try clear hb); (try clear hb2); (try clear hk); (try clear hi)) | ((with_reducible refine gate_dst (N := 9) rfl ?_); refine box_event ?hg (N := 9) ?hd (cs := #[.int .u64 0, .bool false, .int .u64 0]) (t := 69) ?hr ?_; (case hd => rfl); (case hg => rfl); (case hr => first | (go_simp; done) | (go_simp; rfl)); intro gb131 hg w19 hbox hb; have n0_ := Aside0.mk (blk_below (g := gb122) (o := .cells #[.int .i64 0, .bool false] 63 (0, 0)) (by (with_reducible repeat (first | refine blk_drewN ?_ _ | refine blk_drew ?_ | refine blk_alloc ?_ _)); exact BK122.out) hb); have n1_ := Aside0.mk (below_step (by repeat (first | (with_reducible first | exact HB.out | apply below_alloc | apply pw_below_drewN | apply below_drew1 | refine below_set ?_ GE122.out) | exact HB.out)) hb); have n2_ := Aside0.mk (hbox); have n3_ := Aside0.mk ((by rw [hg]; exact (below_size (by repeat (first | (with_reducible first | exact HB.out | apply below_alloc | apply pw_below_drewN | apply below_drew1 | refine below_set ?_ GE122.out) | exact HB.out))) : w.heap.size ≤ gb131)); have n4_ := Aside0.mk ((by rw [hg]; exact (below_size (by repeat (first | (with_reducible first | exact HB.out | apply below_alloc | apply pw_below_drewN | apply below_drew1 | refine below_set ?_ GE122.out) | exact HB.out))) : w.heap.size ≤ gb131)); have n5_ := Aside0.mk ((by rw [hg]; exact Nat.ne_of_lt (blk_lt (g := gb122) (o := .cells #[.int .i64 0, .bool false] 63 (0, 0)) (by (with_reducible repeat (first | refine blk_drewN ?_ _ | refine blk_drew ?_ | refine blk_alloc ?_ _)); exact BK122.out)) : gb122 ≠ gb131)); have n6_ := Aside0.mk ((by rw [hg]; exact Nat.ne_of_gt (blk_lt (g := gb122) (o := .cells #[.int .i64 0, .bool false] 63 (0, 0)) (by (with_reducible repeat (first | refine blk_drewN ?_ _ | refine blk_drew ?_ | refine blk_alloc ?_ _)); exact BK122.out)) : gb131 ≠ gb122)); clear BK122; clear HB; have BK122 := n0_; have HB := n1_; have BK131 := n2_; have GW131 := n3_; have GE131 := n4_; have NB122_131 := n5_; have NB131_122 := n6_; clear n0_ n1_ n2_ n3_ n4_ n5_ n6_; clear hb hbox hg; have hnb20 := NB131_122.out; have hnc20 := NB122_131.out; have hcz21_0 : w19.cell? ⟨gb131, 0, none⟩ = some (.int .u64 0) := (blk_cell BK131.out 0).trans rfl; have hcz21_1 : w19.cell? ⟨gb131, 1, none⟩ = some (.bool false) := (blk_cell BK131.out 1).trans rfl; have hcz21_2 : w19.cell? ⟨gb131, 2, none⟩ = some (.int .u64 0) := (blk_cell BK131.out 2).trans rfl; have hfz21_0 := blk_frozen BK131.out 0; have hfz21_1 := blk_frozen BK131.out 1; have hfz21_2 := blk_frozen BK131.out 2)))
    (try simp only [Act.put, List.setIfInBounds_toArray, List.set_cons_zero, List.set_cons_succ])
    go_cut [10] (fun v10 wc => ∃ (kq : Nat) (x10_15 : Bool), v10 = .bool x10_15 ∧ Aside0 (flywheelref02_Did.j1 kq a2 a3 x10_15 t128 t129 t130 = some (r1, r2)) ∧ Aside0 (kq ≤ kj4) ∧ Aside0 (wc.heap[gb122]? = some (.cells #[.int .i64 0, .bool false] 63 (0, 0))) ∧ Aside0 (wc.heap[gb131]? = some (.cells #[.int .u64 t128, .bool t129, .int .u64 t130] 69 (0, 0))) ∧ Aside0 (Below w.heap.size w wc))
    case first =>
     have H := HC16.out
     clear HC16
     by_cases c22 : a0 < 0
     ·rw [if_pos c22] at H
      have c22b0 : decide (a0 < 0) = true := decide_eq_true c22
      clear c22
      (first | rw [c22b0] | (simp only [i64_w, i32_w]; rw [c22b0]) | skip)
      by_cases c23 : a1 < 0
      ·rw [if_pos c23] at H
       have c23b0 : decide (a1 < 0) = true := decide_eq_true c23
       clear c23
       by_cases c24 : a2 < 0
       ·rw [if_pos c24] at H
        have c24b0 : decide (a2 < 0) = true := decide_eq_true c24
        clear c24
        have H' := Aside0.mk H
        clear H
        go_wp2
        repeat (go_quiet (fail); try go_wp2)
        go_meet
        case rel => exact ⟨_, (true), (by first | rfl | (simp; done) | (simp [*]; done)), H', ⟨by have := HJ4.out; first | omega | exact Nat.le_refl _⟩, ⟨by (with_reducible repeat (first | refine blk_drewN ?_ _ | refine blk_drew ?_ | refine blk_alloc ?_ _)); refine blk_far ?_ NB122_131.out _; (with_reducible repeat (first | refine blk_drewN ?_ _ | refine blk_drew ?_ | refine blk_alloc ?_ _)); refine blk_far ?_ NB122_131.out _; (with_reducible repeat (first | refine blk_drewN ?_ _ | refine blk_drew ?_ | refine blk_alloc ?_ _)); refine blk_far ?_ NB122_131.out _; (with_reducible repeat (first | refine blk_drewN ?_ _ | refine blk_drew ?_ | refine blk_alloc ?_ _)); exact BK122.out⟩, ⟨by (with_reducible repeat (first | refine blk_drewN ?_ _ | refine blk_drew ?_ | refine blk_alloc ?_ _)); refine blk_put (cs := #[.int .u64 t128, .bool t129, .int .u64 0]) ?_ 2 _ rfl; (with_reducible repeat (first | refine blk_drewN ?_ _ | refine blk_drew ?_ | refine blk_alloc ?_ _)); refine blk_put (cs := #[.int .u64 t128, .bool false, .int .u64 0]) ?_ 1 _ rfl; (with_reducible repeat (first | refine blk_drewN ?_ _ | refine blk_drew ?_ | refine blk_alloc ?_ _)); refine blk_put (cs := #[.int .u64 0, .bool false, .int .u64 0]) ?_ 0 _ rfl; (with_reducible repeat (first | refine blk_drewN ?_ _ | refine blk_drew ?_ | refine blk_alloc ?_ _)); exact BK131.out⟩, ⟨by repeat (first | (with_reducible first | exact HB.out | apply below_alloc | apply pw_below_drewN | apply below_drew1 | refine below_set ?_ GE122.out | refine below_set ?_ GE131.out) | exact HB.out)⟩⟩
       ·rw [if_neg c24] at H
        have c24b0 : decide (a2 < 0) = false := decide_eq_false c24
        clear c24
        have H' := Aside0.mk H
        clear H
        go_wp2
        repeat (go_quiet (fail); try go_wp2)
        go_meet
        case rel => exact ⟨_, (false), (by first | rfl | (simp; done) | (simp [*]; done)), H', ⟨by have := HJ4.out; first | omega | exact Nat.le_refl _⟩, ⟨by (with_reducible repeat (first | refine blk_drewN ?_ _ | refine blk_drew ?_ | refine blk_alloc ?_ _)); refine blk_far ?_ NB122_131.out _; (with_reducible repeat (first | refine blk_drewN ?_ _ | refine blk_drew ?_ | refine blk_alloc ?_ _)); refine blk_far ?_ NB122_131.out _; (with_reducible repeat (first | refine blk_drewN ?_ _ | refine blk_drew ?_ | refine blk_alloc ?_ _)); refine blk_far ?_ NB122_131.out _; (with_reducible repeat (first | refine blk_drewN ?_ _ | refine blk_drew ?_ | refine blk_alloc ?_ _)); exact BK122.out⟩, ⟨by (with_reducible repeat (first | refine blk_drewN ?_ _ | refine blk_drew ?_ | refine blk_alloc ?_ _)); refine blk_put (cs := #[.int .u64 t128, .bool t129, .int .u64 0]) ?_ 2 _ rfl; (with_reducible repeat (first | refine blk_drewN ?_ _ | refine blk_drew ?_ | refine blk_alloc ?_ _)); refine blk_put (cs := #[.int .u64 t128, .bool false, .int .u64 0]) ?_ 1 _ rfl; (with_reducible repeat (first | refine blk_drewN ?_ _ | refine blk_drew ?_ | refine blk_alloc ?_ _)); refine blk_put (cs := #[.int .u64 0, .bool false, .int .u64 0]) ?_ 0 _ rfl; (with_reducible repeat (first | refine blk_drewN ?_ _ | refine blk_drew ?_ | refine blk_alloc ?_ _)); exact BK131.out⟩, ⟨by repeat (first | (with_reducible first | exact HB.out | apply below_alloc | apply pw_below_drewN | apply below_drew1 | refine below_set ?_ GE122.out | refine below_set ?_ GE131.out) | exact HB.out)⟩⟩
      ·rw [if_neg c23] at H
       have c23b0 : decide (a1 < 0) = false := decide_eq_false c23
       clear c23
       by_cases c25 : a2 < 0
       ·rw [if_pos c25] at H
        have c25b0 : decide (a2 < 0) = true := decide_eq_true c25
        clear c25
        have H' := Aside0.mk H
        clear H
        go_wp2
        repeat (go_quiet (fail); try go_wp2)
        go_meet
        case rel => exact ⟨_, (false), (by first | rfl | (simp; done) | (simp [*]; done)), H', ⟨by have := HJ4.out; first | omega | exact Nat.le_refl _⟩, ⟨by (with_reducible repeat (first | refine blk_drewN ?_ _ | refine blk_drew ?_ | refine blk_alloc ?_ _)); refine blk_far ?_ NB122_131.out _; (with_reducible repeat (first | refine blk_drewN ?_ _ | refine blk_drew ?_ | refine blk_alloc ?_ _)); refine blk_far ?_ NB122_131.out _; (with_reducible repeat (first | refine blk_drewN ?_ _ | refine blk_drew ?_ | refine blk_alloc ?_ _)); refine blk_far ?_ NB122_131.out _; (with_reducible repeat (first | refine blk_drewN ?_ _ | refine blk_drew ?_ | refine blk_alloc ?_ _)); exact BK122.out⟩, ⟨by (with_reducible repeat (first | refine blk_drewN ?_ _ | refine blk_drew ?_ | refine blk_alloc ?_ _)); refine blk_put (cs := #[.int .u64 t128, .bool t129, .int .u64 0]) ?_ 2 _ rfl; (with_reducible repeat (first | refine blk_drewN ?_ _ | refine blk_drew ?_ | refine blk_alloc ?_ _)); refine blk_put (cs := #[.int .u64 t128, .bool false, .int .u64 0]) ?_ 1 _ rfl; (with_reducible repeat (first | refine blk_drewN ?_ _ | refine blk_drew ?_ | refine blk_alloc ?_ _)); refine blk_put (cs := #[.int .u64 0, .bool false, .int .u64 0]) ?_ 0 _ rfl; (with_reducible repeat (first | refine blk_drewN ?_ _ | refine blk_drew ?_ | refine blk_alloc ?_ _)); exact BK131.out⟩, ⟨by repeat (first | (with_reducible first | exact HB.out | apply below_alloc | apply pw_below_drewN | apply below_drew1 | refine below_set ?_ GE122.out | refine below_set ?_ GE131.out) | exact HB.out)⟩⟩
       ·rw [if_neg c25] at H
        have c25b0 : decide (a2 < 0) = false := decide_eq_false c25
        clear c25
        have H' := Aside0.mk H
        clear H
        go_wp2
        repeat (go_quiet (fail); try go_wp2)
        go_meet
        case rel => exact ⟨_, (true), (by first | rfl | (simp; done) | (simp [*]; done)), H', ⟨by have := HJ4.out; first | omega | exact Nat.le_refl _⟩, ⟨by (with_reducible repeat (first | refine blk_drewN ?_ _ | refine blk_drew ?_ | refine blk_alloc ?_ _)); refine blk_far ?_ NB122_131.out _; (with_reducible repeat (first | refine blk_drewN ?_ _ | refine blk_drew ?_ | refine blk_alloc ?_ _)); refine blk_far ?_ NB122_131.out _; (with_reducible repeat (first | refine blk_drewN ?_ _ | refine blk_drew ?_ | refine blk_alloc ?_ _)); refine blk_far ?_ NB122_131.out _; (with_reducible repeat (first | refine blk_drewN ?_ _ | refine blk_drew ?_ | refine blk_alloc ?_ _)); exact BK122.out⟩, ⟨by (with_reducible repeat (first | refine blk_drewN ?_ _ | refine blk_drew ?_ | refine blk_alloc ?_ _)); refine blk_put (cs := #[.int .u64 t128, .bool t129, .int .u64 0]) ?_ 2 _ rfl; (with_reducible repeat (first | refine blk_drewN ?_ _ | refine blk_drew ?_ | refine blk_alloc ?_ _)); refine blk_put (cs := #[.int .u64 t128, .bool false, .int .u64 0]) ?_ 1 _ rfl; (with_reducible repeat (first | refine blk_drewN ?_ _ | refine blk_drew ?_ | refine blk_alloc ?_ _)); refine blk_put (cs := #[.int .u64 0, .bool false, .int .u64 0]) ?_ 0 _ rfl; (with_reducible repeat (first | refine blk_drewN ?_ _ | refine blk_drew ?_ | refine blk_alloc ?_ _)); exact BK131.out⟩, ⟨by repeat (first | (with_reducible first | exact HB.out | apply below_alloc | apply pw_below_drewN | apply below_drew1 | refine below_set ?_ GE122.out | refine below_set ?_ GE131.out) | exact HB.out)⟩⟩
     ·rw [if_neg c22] at H
      have c22b0 : decide (a0 < 0) = false := decide_eq_false c22
      clear c22
      (first | rw [c22b0] | (simp only [i64_w, i32_w]; rw [c22b0]) | skip)
      by_cases c26 : a1 < 0
      ·rw [if_pos c26] at H
       have c26b0 : decide (a1 < 0) = true := decide_eq_true c26
       clear c26
       by_cases c27 : a2 < 0
       ·rw [if_pos c27] at H
        have c27b0 : decide (a2 < 0) = true := decide_eq_true c27
        clear c27
        have H' := Aside0.mk H
        clear H
        go_wp2
        repeat (go_quiet (fail); try go_wp2)
        go_meet
        case rel => exact ⟨_, (false), (by first | rfl | (simp; done) | (simp [*]; done)), H', ⟨by have := HJ4.out; first | omega | exact Nat.le_refl _⟩, ⟨by (with_reducible repeat (first | refine blk_drewN ?_ _ | refine blk_drew ?_ | refine blk_alloc ?_ _)); refine blk_far ?_ NB122_131.out _; (with_reducible repeat (first | refine blk_drewN ?_ _ | refine blk_drew ?_ | refine blk_alloc ?_ _)); refine blk_far ?_ NB122_131.out _; (with_reducible repeat (first | refine blk_drewN ?_ _ | refine blk_drew ?_ | refine blk_alloc ?_ _)); refine blk_far ?_ NB122_131.out _; (with_reducible repeat (first | refine blk_drewN ?_ _ | refine blk_drew ?_ | refine blk_alloc ?_ _)); exact BK122.out⟩, ⟨by (with_reducible repeat (first | refine blk_drewN ?_ _ | refine blk_drew ?_ | refine blk_alloc ?_ _)); refine blk_put (cs := #[.int .u64 t128, .bool t129, .int .u64 0]) ?_ 2 _ rfl; (with_reducible repeat (first | refine blk_drewN ?_ _ | refine blk_drew ?_ | refine blk_alloc ?_ _)); refine blk_put (cs := #[.int .u64 t128, .bool false, .int .u64 0]) ?_ 1 _ rfl; (with_reducible repeat (first | refine blk_drewN ?_ _ | refine blk_drew ?_ | refine blk_alloc ?_ _)); refine blk_put (cs := #[.int .u64 0, .bool false, .int .u64 0]) ?_ 0 _ rfl; (with_reducible repeat (first | refine blk_drewN ?_ _ | refine blk_drew ?_ | refine blk_alloc ?_ _)); exact BK131.out⟩, ⟨by repeat (first | (with_reducible first | exact HB.out | apply below_alloc | apply pw_below_drewN | apply below_drew1 | refine below_set ?_ GE122.out | refine below_set ?_ GE131.out) | exact HB.out)⟩⟩
       ·rw [if_neg c27] at H
        have c27b0 : decide (a2 < 0) = false := decide_eq_false c27
        clear c27
        have H' := Aside0.mk H
        clear H
        go_wp2
        repeat (go_quiet (fail); try go_wp2)
        go_meet
        case rel => exact ⟨_, (true), (by first | rfl | (simp; done) | (simp [*]; done)), H', ⟨by have := HJ4.out; first | omega | exact Nat.le_refl _⟩, ⟨by (with_reducible repeat (first | refine blk_drewN ?_ _ | refine blk_drew ?_ | refine blk_alloc ?_ _)); refine blk_far ?_ NB122_131.out _; (with_reducible repeat (first | refine blk_drewN ?_ _ | refine blk_drew ?_ | refine blk_alloc ?_ _)); refine blk_far ?_ NB122_131.out _; (with_reducible repeat (first | refine blk_drewN ?_ _ | refine blk_drew ?_ | refine blk_alloc ?_ _)); refine blk_far ?_ NB122_131.out _; (with_reducible repeat (first | refine blk_drewN ?_ _ | refine blk_drew ?_ | refine blk_alloc ?_ _)); exact BK122.out⟩, ⟨by (with_reducible repeat (first | refine blk_drewN ?_ _ | refine blk_drew ?_ | refine blk_alloc ?_ _)); refine blk_put (cs := #[.int .u64 t128, .bool t129, .int .u64 0]) ?_ 2 _ rfl; (with_reducible repeat (first | refine blk_drewN ?_ _ | refine blk_drew ?_ | refine blk_alloc ?_ _)); refine blk_put (cs := #[.int .u64 t128, .bool false, .int .u64 0]) ?_ 1 _ rfl; (with_reducible repeat (first | refine blk_drewN ?_ _ | refine blk_drew ?_ | refine blk_alloc ?_ _)); refine blk_put (cs := #[.int .u64 0, .bool false, .int .u64 0]) ?_ 0 _ rfl; (with_reducible repeat (first | refine blk_drewN ?_ _ | refine blk_drew ?_ | refine blk_alloc ?_ _)); exact BK131.out⟩, ⟨by repeat (first | (with_reducible first | exact HB.out | apply below_alloc | apply pw_below_drewN | apply below_drew1 | refine below_set ?_ GE122.out | refine below_set ?_ GE131.out) | exact HB.out)⟩⟩
      ·rw [if_neg c26] at H
       have c26b0 : decide (a1 < 0) = false := decide_eq_false c26
       clear c26
       by_cases c28 : a2 < 0
       ·rw [if_pos c28] at H
        have c28b0 : decide (a2 < 0) = true := decide_eq_true c28
        clear c28
        have H' := Aside0.mk H
        clear H
        go_wp2
        repeat (go_quiet (fail); try go_wp2)
        go_meet
        case rel => exact ⟨_, (true), (by first | rfl | (simp; done) | (simp [*]; done)), H', ⟨by have := HJ4.out; first | omega | exact Nat.le_refl _⟩, ⟨by (with_reducible repeat (first | refine blk_drewN ?_ _ | refine blk_drew ?_ | refine blk_alloc ?_ _)); refine blk_far ?_ NB122_131.out _; (with_reducible repeat (first | refine blk_drewN ?_ _ | refine blk_drew ?_ | refine blk_alloc ?_ _)); refine blk_far ?_ NB122_131.out _; (with_reducible repeat (first | refine blk_drewN ?_ _ | refine blk_drew ?_ | refine blk_alloc ?_ _)); refine blk_far ?_ NB122_131.out _; (with_reducible repeat (first | refine blk_drewN ?_ _ | refine blk_drew ?_ | refine blk_alloc ?_ _)); exact BK122.out⟩, ⟨by (with_reducible repeat (first | refine blk_drewN ?_ _ | refine blk_drew ?_ | refine blk_alloc ?_ _)); refine blk_put (cs := #[.int .u64 t128, .bool t129, .int .u64 0]) ?_ 2 _ rfl; (with_reducible repeat (first | refine blk_drewN ?_ _ | refine blk_drew ?_ | refine blk_alloc ?_ _)); refine blk_put (cs := #[.int .u64 t128, .bool false, .int .u64 0]) ?_ 1 _ rfl; (with_reducible repeat (first | refine blk_drewN ?_ _ | refine blk_drew ?_ | refine blk_alloc ?_ _)); refine blk_put (cs := #[.int .u64 0, .bool false, .int .u64 0]) ?_ 0 _ rfl; (with_reducible repeat (first | refine blk_drewN ?_ _ | refine blk_drew ?_ | refine blk_alloc ?_ _)); exact BK131.out⟩, ⟨by repeat (first | (with_reducible first | exact HB.out | apply below_alloc | apply pw_below_drewN | apply below_drew1 | refine below_set ?_ GE122.out | refine below_set ?_ GE131.out) | exact HB.out)⟩⟩
       ·rw [if_neg c28] at H
        have c28b0 : decide (a2 < 0) = false := decide_eq_false c28
        clear c28
        have H' := Aside0.mk H
        clear H
        go_wp2
        repeat (go_quiet (fail); try go_wp2)
        go_meet
        case rel => exact ⟨_, (false), (by first | rfl | (simp; done) | (simp [*]; done)), H', ⟨by have := HJ4.out; first | omega | exact Nat.le_refl _⟩, ⟨by (with_reducible repeat (first | refine blk_drewN ?_ _ | refine blk_drew ?_ | refine blk_alloc ?_ _)); refine blk_far ?_ NB122_131.out _; (with_reducible repeat (first | refine blk_drewN ?_ _ | refine blk_drew ?_ | refine blk_alloc ?_ _)); refine blk_far ?_ NB122_131.out _; (with_reducible repeat (first | refine blk_drewN ?_ _ | refine blk_drew ?_ | refine blk_alloc ?_ _)); refine blk_far ?_ NB122_131.out _; (with_reducible repeat (first | refine blk_drewN ?_ _ | refine blk_drew ?_ | refine blk_alloc ?_ _)); exact BK122.out⟩, ⟨by (with_reducible repeat (first | refine blk_drewN ?_ _ | refine blk_drew ?_ | refine blk_alloc ?_ _)); refine blk_put (cs := #[.int .u64 t128, .bool t129, .int .u64 0]) ?_ 2 _ rfl; (with_reducible repeat (first | refine blk_drewN ?_ _ | refine blk_drew ?_ | refine blk_alloc ?_ _)); refine blk_put (cs := #[.int .u64 t128, .bool false, .int .u64 0]) ?_ 1 _ rfl; (with_reducible repeat (first | refine blk_drewN ?_ _ | refine blk_drew ?_ | refine blk_alloc ?_ _)); refine blk_put (cs := #[.int .u64 0, .bool false, .int .u64 0]) ?_ 0 _ rfl; (with_reducible repeat (first | refine blk_drewN ?_ _ | refine blk_drew ?_ | refine blk_alloc ?_ _)); exact BK131.out⟩, ⟨by repeat (first | (with_reducible first | exact HB.out | apply below_alloc | apply pw_below_drewN | apply below_drew1 | refine below_set ?_ GE122.out | refine below_set ?_ GE131.out) | exact HB.out)⟩⟩
    case rest =>
     clear HC16
     try clear c2
     try clear p2
     try clear c3
     try clear c7
     try clear c7b0
     try clear c7b1
     try clear c8
     try clear c8b0
     try clear c9
     try clear c20
     try clear c22
     try clear c22b0
     try clear c23
     try clear c23b0
     try clear c24
     try clear c24b0
     try clear c25
     try clear c25b0
     try clear c26
     try clear c26b0
     try clear c27
     try clear c27b0
     try clear c28
     try clear c28b0
     try clear hcz10_0
     try clear hcz10_1
     try clear hcz21_0
     try clear hcz21_1
     try clear hcz21_2
     try clear hfz10_0
     try clear hfz10_1
     try clear hfz21_0
     try clear hfz21_1
     try clear hfz21_2
     try clear p2
     obtain ⟨kq, x10_15, rfl, HA, HJ15, BK122, BK131, HB⟩ := hcut
     cases kq with
     | zero => exact absurd HA.out (by simp [flywheelref02_Did.j1])
     | succ kj15 =>
      have H := HA.out
      clear HA
      simp only [flywheelref02_Did.j1] at H
      have HC29 := Aside0.mk H
      clear H
      go_upto_block 0 with (fail)
      repeat (go_quiet (fail); go_upto_block 0 with (fail))
      go_cut [11] (fun v11 wc => ∃ (kq : Nat) (x11_28 : Bool), v11 = .bool x11_28 ∧ Aside0 (flywheelref02_Did.j2 kq x10_15 x11_28 t128 t129 t130 = some (r1, r2)) ∧ Aside0 (kq ≤ kj15) ∧ Aside0 (wc.heap[gb122]? = some (.cells #[.int .i64 0, .bool false] 63 (0, 0))) ∧ Aside0 (wc.heap[gb131]? = some (.cells #[.int .u64 t128, .bool t129, .int .u64 t130] 69 (0, 0))) ∧ Aside0 (Below w.heap.size w wc))
      case first =>
       have H := HC29.out
       clear HC29
       by_cases c30 : t130 = 0
       ·rw [if_pos c30] at H
        have c30b0 : (t130 == 0) = true := beq_iff_eq.mpr c30
        have c30b1 : (t130 != 0) = false := bne_eq_false_iff_eq.mpr c30
        clear c30
        (first | rw [c30b0] | (simp only [i64_w, i32_w]; rw [c30b0]) | skip)
        have H' := Aside0.mk H
        clear H
        have hnb31 := NB131_122.out
        have hnc31 := NB122_131.out
        have hcz32_0 : wc.cell? ⟨gb131, 0, none⟩ = some (.int .u64 t128) := (blk_cell BK131.out 0).trans rfl
        have hcz32_1 : wc.cell? ⟨gb131, 1, none⟩ = some (.bool t129) := (blk_cell BK131.out 1).trans rfl
        have hcz32_2 : wc.cell? ⟨gb131, 2, none⟩ = some (.int .u64 t130) := (blk_cell BK131.out 2).trans rfl
        have hfz32_0 := blk_frozen BK131.out 0
        have hfz32_1 := blk_frozen BK131.out 1
        have hfz32_2 := blk_frozen BK131.out 2
        go_wp2
        repeat (go_quiet (fail); try go_wp2)
        go_meet
        case rel => exact ⟨_, (false), (by first | rfl | (simp; done) | (simp [*]; done)), H', ⟨by have := HJ4.out; have := HJ15.out; first | omega | exact Nat.le_refl _⟩, ⟨by (with_reducible repeat (first | refine blk_drewN ?_ _ | refine blk_drew ?_ | refine blk_alloc ?_ _)); exact BK122.out⟩, ⟨by (with_reducible repeat (first | refine blk_drewN ?_ _ | refine blk_drew ?_ | refine blk_alloc ?_ _)); exact BK131.out⟩, ⟨by repeat (first | (with_reducible first | exact HB.out | apply below_alloc | apply pw_below_drewN | apply below_drew1 | refine below_set ?_ GE122.out | refine below_set ?_ GE131.out) | exact HB.out)⟩⟩
       ·rw [if_neg c30] at H
        have c30b0 : (t130 == 0) = false := beq_eq_false_iff_ne.mpr c30
        have c30b1 : (t130 != 0) = true := bne_iff_ne.mpr c30
        (first | rw [c30b0] | (simp only [i64_w, i32_w]; rw [c30b0]) | skip)
        by_cases c33 : a3 = 1
        ·rw [if_pos c33] at H
         have c33b0 : (a3 == 1) = true := beq_iff_eq.mpr c33
         have c33b1 : (a3 != 1) = false := bne_eq_false_iff_eq.mpr c33
         clear c33
         have H' := Aside0.mk H
         clear H
         have hnb34 := NB131_122.out
         have hnc34 := NB122_131.out
         have hcz35_0 : wc.cell? ⟨gb131, 0, none⟩ = some (.int .u64 t128) := (blk_cell BK131.out 0).trans rfl
         have hcz35_1 : wc.cell? ⟨gb131, 1, none⟩ = some (.bool t129) := (blk_cell BK131.out 1).trans rfl
         have hcz35_2 : wc.cell? ⟨gb131, 2, none⟩ = some (.int .u64 t130) := (blk_cell BK131.out 2).trans rfl
         have hfz35_0 := blk_frozen BK131.out 0
         have hfz35_1 := blk_frozen BK131.out 1
         have hfz35_2 := blk_frozen BK131.out 2
         go_wp2
         repeat (go_quiet (fail); try go_wp2)
         go_meet
         case rel => exact ⟨_, (x10_15), (by first | rfl | (simp; done) | (simp [*]; done)), H', ⟨by have := HJ4.out; have := HJ15.out; first | omega | exact Nat.le_refl _⟩, ⟨by (with_reducible repeat (first | refine blk_drewN ?_ _ | refine blk_drew ?_ | refine blk_alloc ?_ _)); exact BK122.out⟩, ⟨by (with_reducible repeat (first | refine blk_drewN ?_ _ | refine blk_drew ?_ | refine blk_alloc ?_ _)); exact BK131.out⟩, ⟨by repeat (first | (with_reducible first | exact HB.out | apply below_alloc | apply pw_below_drewN | apply below_drew1 | refine below_set ?_ GE122.out | refine below_set ?_ GE131.out) | exact HB.out)⟩⟩
        ·rw [if_neg c33] at H
         have c33b0 : (a3 == 1) = false := beq_eq_false_iff_ne.mpr c33
         have c33b1 : (a3 != 1) = true := bne_iff_ne.mpr c33
         by_cases c36 : a3 = 3
         ·rw [if_pos c36] at H
          have c36b0 : (a3 == 3) = true := beq_iff_eq.mpr c36
          have c36b1 : (a3 != 3) = false := bne_eq_false_iff_eq.mpr c36
          clear c36
          have H' := Aside0.mk H
          clear H
          have hnb37 := NB131_122.out
          have hnc37 := NB122_131.out
          have hcz38_0 : wc.cell? ⟨gb131, 0, none⟩ = some (.int .u64 t128) := (blk_cell BK131.out 0).trans rfl
          have hcz38_1 : wc.cell? ⟨gb131, 1, none⟩ = some (.bool t129) := (blk_cell BK131.out 1).trans rfl
          have hcz38_2 : wc.cell? ⟨gb131, 2, none⟩ = some (.int .u64 t130) := (blk_cell BK131.out 2).trans rfl
          have hfz38_0 := blk_frozen BK131.out 0
          have hfz38_1 := blk_frozen BK131.out 1
          have hfz38_2 := blk_frozen BK131.out 2
          go_wp2
          repeat (go_quiet (fail); try go_wp2)
          go_meet
          case rel => exact ⟨_, (!x10_15), (by first | rfl | (simp; done) | (simp [*]; done)), H', ⟨by have := HJ4.out; have := HJ15.out; first | omega | exact Nat.le_refl _⟩, ⟨by (with_reducible repeat (first | refine blk_drewN ?_ _ | refine blk_drew ?_ | refine blk_alloc ?_ _)); exact BK122.out⟩, ⟨by (with_reducible repeat (first | refine blk_drewN ?_ _ | refine blk_drew ?_ | refine blk_alloc ?_ _)); exact BK131.out⟩, ⟨by repeat (first | (with_reducible first | exact HB.out | apply below_alloc | apply pw_below_drewN | apply below_drew1 | refine below_set ?_ GE122.out | refine below_set ?_ GE131.out) | exact HB.out)⟩⟩
         ·rw [if_neg c36] at H
          have c36b0 : (a3 == 3) = false := beq_eq_false_iff_ne.mpr c36
          have c36b1 : (a3 != 3) = true := bne_iff_ne.mpr c36
          by_cases c39 : x10_15 = true
          ·subst c39
           have H1 : ((flywheelref02_size.f a2).bind fun t132 => (flywheelref02_Did.j2 kj15 true (decide (t130 > (IntKind.u64.wrap (t132 - t130)))) t128 t129 t130)) = some (r1, r2) := by rw [if_pos rfl] at H; exact H
           clear H
           have H := H1
           clear H1
           replace H := Option.bind_eq_some_iff.mp H
           obtain ⟨t132, A400, H⟩ := H
           replace H : (flywheelref02_Did.j2 kj15 true (decide (t130 > (IntKind.u64.wrap (t132 - t130)))) t128 t129 t130) = some (r1, r2) := H
           have A40 := Aside0.mk A400
           clear A400
           have H' := Aside0.mk H
           clear H
           have hnb41 := NB131_122.out
           have hnc41 := NB122_131.out
           have hcz42_0 : wc.cell? ⟨gb131, 0, none⟩ = some (.int .u64 t128) := (blk_cell BK131.out 0).trans rfl
           have hcz42_1 : wc.cell? ⟨gb131, 1, none⟩ = some (.bool t129) := (blk_cell BK131.out 1).trans rfl
           have hcz42_2 : wc.cell? ⟨gb131, 2, none⟩ = some (.int .u64 t130) := (blk_cell BK131.out 2).trans rfl
           have hfz42_0 := blk_frozen BK131.out 0
           have hfz42_1 := blk_frozen BK131.out 1
           have hfz42_2 := blk_frozen BK131.out 2
           go_wp2_with (first | (go_at_call 35; (with_reducible refine (flywheelref02_size.calls a2 t132 _ A40.out).mono ?_); rintro e w' ⟨rfl, ⟨nd, rfl⟩⟩; (try first | exact ⟨rfl, _, World.drewN_drewN _ _ _⟩ | exact ⟨rfl, _, Eq.trans (World.drewN_drewN _ _ _) (congrArg (World.drewN _) (Nat.add_assoc _ _ _))⟩)))
           repeat (go_quiet (first | (go_at_call 35; (with_reducible refine (flywheelref02_size.calls a2 t132 _ A40.out).mono ?_); rintro e w' ⟨rfl, ⟨nd, rfl⟩⟩; (try first | exact ⟨rfl, _, World.drewN_drewN _ _ _⟩ | exact ⟨rfl, _, Eq.trans (World.drewN_drewN _ _ _) (congrArg (World.drewN _) (Nat.add_assoc _ _ _))⟩))); try go_wp2_with (first | (go_at_call 35; (with_reducible refine (flywheelref02_size.calls a2 t132 _ A40.out).mono ?_); rintro e w' ⟨rfl, ⟨nd, rfl⟩⟩; (try first | exact ⟨rfl, _, World.drewN_drewN _ _ _⟩ | exact ⟨rfl, _, Eq.trans (World.drewN_drewN _ _ _) (congrArg (World.drewN _) (Nat.add_assoc _ _ _))⟩))))
           go_meet
           case rel => exact ⟨_, (decide (t130 > (IntKind.u64.wrap (t132 - t130)))), (by first | rfl | (simp; done) | (simp [*]; done)), H', ⟨by have := HJ4.out; have := HJ15.out; first | omega | exact Nat.le_refl _⟩, ⟨by (with_reducible repeat (first | refine blk_drewN ?_ _ | refine blk_drew ?_ | refine blk_alloc ?_ _)); exact BK122.out⟩, ⟨by (with_reducible repeat (first | refine blk_drewN ?_ _ | refine blk_drew ?_ | refine blk_alloc ?_ _)); exact BK131.out⟩, ⟨by repeat (first | (with_reducible first | exact HB.out | apply below_alloc | apply pw_below_drewN | apply below_drew1 | refine below_set ?_ GE122.out | refine below_set ?_ GE131.out) | exact HB.out)⟩⟩
          ·replace c39 := Bool.eq_false_iff.mpr c39
           subst c39
           have H1 : ((flywheelref02_size.f a2).bind fun t133 => (flywheelref02_Did.j2 kj15 false (decide (t130 ≥ (IntKind.u64.wrap (t133 - t130)))) t128 t129 t130)) = some (r1, r2) := by rw [if_neg (show ¬ (false = true) by decide)] at H; exact H
           clear H
           have H := H1
           clear H1
           replace H := Option.bind_eq_some_iff.mp H
           obtain ⟨t133, A430, H⟩ := H
           replace H : (flywheelref02_Did.j2 kj15 false (decide (t130 ≥ (IntKind.u64.wrap (t133 - t130)))) t128 t129 t130) = some (r1, r2) := H
           have A43 := Aside0.mk A430
           clear A430
           have H' := Aside0.mk H
           clear H
           have hnb44 := NB131_122.out
           have hnc44 := NB122_131.out
           have hcz45_0 : wc.cell? ⟨gb131, 0, none⟩ = some (.int .u64 t128) := (blk_cell BK131.out 0).trans rfl
           have hcz45_1 : wc.cell? ⟨gb131, 1, none⟩ = some (.bool t129) := (blk_cell BK131.out 1).trans rfl
           have hcz45_2 : wc.cell? ⟨gb131, 2, none⟩ = some (.int .u64 t130) := (blk_cell BK131.out 2).trans rfl
           have hfz45_0 := blk_frozen BK131.out 0
           have hfz45_1 := blk_frozen BK131.out 1
           have hfz45_2 := blk_frozen BK131.out 2
           go_wp2_with (first | (go_at_call 35; (with_reducible refine (flywheelref02_size.calls a2 t133 _ A43.out).mono ?_); rintro e w' ⟨rfl, ⟨nd, rfl⟩⟩; (try first | exact ⟨rfl, _, World.drewN_drewN _ _ _⟩ | exact ⟨rfl, _, Eq.trans (World.drewN_drewN _ _ _) (congrArg (World.drewN _) (Nat.add_assoc _ _ _))⟩)))
           repeat (go_quiet (first | (go_at_call 35; (with_reducible refine (flywheelref02_size.calls a2 t133 _ A43.out).mono ?_); rintro e w' ⟨rfl, ⟨nd, rfl⟩⟩; (try first | exact ⟨rfl, _, World.drewN_drewN _ _ _⟩ | exact ⟨rfl, _, Eq.trans (World.drewN_drewN _ _ _) (congrArg (World.drewN _) (Nat.add_assoc _ _ _))⟩))); try go_wp2_with (first | (go_at_call 35; (with_reducible refine (flywheelref02_size.calls a2 t133 _ A43.out).mono ?_); rintro e w' ⟨rfl, ⟨nd, rfl⟩⟩; (try first | exact ⟨rfl, _, World.drewN_drewN _ _ _⟩ | exact ⟨rfl, _, Eq.trans (World.drewN_drewN _ _ _) (congrArg (World.drewN _) (Nat.add_assoc _ _ _))⟩))))
           go_meet
           case rel => exact ⟨_, (decide (t130 ≥ (IntKind.u64.wrap (t133 - t130)))), (by first | rfl | (simp; done) | (simp [*]; done)), H', ⟨by have := HJ4.out; have := HJ15.out; first | omega | exact Nat.le_refl _⟩, ⟨by (with_reducible repeat (first | refine blk_drewN ?_ _ | refine blk_drew ?_ | refine blk_alloc ?_ _)); exact BK122.out⟩, ⟨by (with_reducible repeat (first | refine blk_drewN ?_ _ | refine blk_drew ?_ | refine blk_alloc ?_ _)); exact BK131.out⟩, ⟨by repeat (first | (with_reducible first | exact HB.out | apply below_alloc | apply pw_below_drewN | apply below_drew1 | refine below_set ?_ GE122.out | refine below_set ?_ GE131.out) | exact HB.out)⟩⟩
      case rest =>
       clear HC29
       try clear c2
       try clear p2
       try clear c3
       try clear c4
       try clear c7
       try clear c7b0
       try clear c7b1
       try clear c8
       try clear c8b0
       try clear c9
       try clear c20
       try clear c22
       try clear c22b0
       try clear c23
       try clear c23b0
       try clear c24
       try clear c24b0
       try clear c25
       try clear c25b0
       try clear c26
       try clear c26b0
       try clear c27
       try clear c27b0
       try clear c28
       try clear c28b0
       try clear c30
       try clear c30b0
       try clear c30b1
       try clear c31
       try clear c33
       try clear c33b0
       try clear c33b1
       try clear c34
       try clear c36
       try clear c36b0
       try clear c36b1
       try clear c37
       try clear c39
       try clear c41
       try clear c44
       try clear hcz10_0
       try clear hcz10_1
       try clear hcz21_0
       try clear hcz21_1
       try clear hcz21_2
       try clear hcz32_0
       try clear hcz32_1
       try clear hcz32_2
       try clear hcz35_0
       try clear hcz35_1
       try clear hcz35_2
       try clear hcz38_0
       try clear hcz38_1
       try clear hcz38_2
       try clear hcz42_0
       try clear hcz42_1
       try clear hcz42_2
       try clear hcz45_0
       try clear hcz45_1
       try clear hcz45_2
       try clear hfz10_0
       try clear hfz10_1
       try clear hfz21_0
       try clear hfz21_1
       try clear hfz21_2
       try clear hfz32_0
       try clear hfz32_1
       try clear hfz32_2
       try clear hfz35_0
       try clear hfz35_1
       try clear hfz35_2
       try clear hfz38_0
       try clear hfz38_1
       try clear hfz38_2
       try clear hfz42_0
       try clear hfz42_1
       try clear hfz42_2
       try clear hfz45_0
       try clear hfz45_1
       try clear hfz45_2
       try clear p2
       obtain ⟨kq, x11_28, rfl, HA, HJ28, BK122, BK131, HB⟩ := hcut
       cases kq with
       | zero => exact absurd HA.out (by simp [flywheelref02_Did.j2])
       | succ kj28 =>
        have H := HA.out
        clear HA
        simp only [flywheelref02_Did.j2] at H
        have HC46 := Aside0.mk H
        clear H
        have hnb47 := NB131_122.out
        have hnc47 := NB122_131.out
        have hcz48_0 : wc.cell? ⟨gb131, 0, none⟩ = some (.int .u64 t128) := (blk_cell BK131.out 0).trans rfl
        have hcz48_1 : wc.cell? ⟨gb131, 1, none⟩ = some (.bool t129) := (blk_cell BK131.out 1).trans rfl
        have hcz48_2 : wc.cell? ⟨gb131, 2, none⟩ = some (.int .u64 t130) := (blk_cell BK131.out 2).trans rfl
        have hfz48_0 := blk_frozen BK131.out 0
        have hfz48_1 := blk_frozen BK131.out 1
        have hfz48_2 := blk_frozen BK131.out 2
        go_upto_if 76 with (fail)
        repeat (go_quiet (fail); go_upto_if 76 with (fail))
        go_cut [12, 13] (fun v12 v13 wc => ∃ (kq : Nat) (x12_45 : Int) (x13_45 : Bool), v12 = .int .u64 x12_45 ∧ v13 = .bool x13_45 ∧ Aside0 (flywheelref02_Did.j3 kq x10_15 x12_45 x13_45 = some (r1, r2)) ∧ Aside0 (kq ≤ kj28) ∧ Aside0 (wc.heap[gb122]? = some (.cells #[.int .i64 0, .bool false] 63 (0, 0))) ∧ Aside0 (wc.heap[gb131]? = some (.cells #[.int .u64 t128, .bool t129, .int .u64 t130] 69 (0, 0))) ∧ Aside0 (Below w.heap.size w wc))
        case first =>
         have H := HC46.out
         clear HC46
         by_cases c49 : x11_28 = true
         ·subst c49
          have H1 : (if t129 = true then (flywheelref02_Did.j3 kj28 x10_15 (IntKind.u64.wrap (t128 + 1)) true) else (flywheelref02_Did.j3 kj28 x10_15 (IntKind.u64.wrap (t128 + 1)) ((IntKind.u64.wrap (t128 + 1)) == 0))) = some (r1, r2) := by rw [if_pos rfl] at H; exact H
          clear H
          have H := H1
          clear H1
          by_cases c50 : t129 = true
          ·subst c50
           have H1 : (flywheelref02_Did.j3 kj28 x10_15 (IntKind.u64.wrap (t128 + 1)) true) = some (r1, r2) := by rw [if_pos rfl] at H; exact H
           clear H
           have H := H1
           clear H1
           have H' := Aside0.mk H
           clear H
           go_wp2
           repeat (go_quiet (fail); try go_wp2)
           go_meet
           case rel => exact ⟨_, (IntKind.u64.wrap (t128 + 1)), (true), (by first | rfl | (simp; done) | (simp [*]; done)), (by first | rfl | (simp; done) | (simp [*]; done)), H', ⟨by have := HJ4.out; have := HJ15.out; have := HJ28.out; first | omega | exact Nat.le_refl _⟩, ⟨by (with_reducible repeat (first | refine blk_drewN ?_ _ | refine blk_drew ?_ | refine blk_alloc ?_ _)); exact BK122.out⟩, ⟨by (with_reducible repeat (first | refine blk_drewN ?_ _ | refine blk_drew ?_ | refine blk_alloc ?_ _)); exact BK131.out⟩, ⟨by repeat (first | (with_reducible first | exact HB.out | apply below_alloc | apply pw_below_drewN | apply below_drew1 | refine below_set ?_ GE122.out | refine below_set ?_ GE131.out) | exact HB.out)⟩⟩
          ·replace c50 := Bool.eq_false_iff.mpr c50
           subst c50
           have H1 : (flywheelref02_Did.j3 kj28 x10_15 (IntKind.u64.wrap (t128 + 1)) ((IntKind.u64.wrap (t128 + 1)) == 0)) = some (r1, r2) := by rw [if_neg (show ¬ (false = true) by decide)] at H; exact H
           clear H
           have H := H1
           clear H1
           have H' := Aside0.mk H
           clear H
           go_wp2
           repeat (go_quiet (fail); try go_wp2)
           go_meet
           case rel => exact ⟨_, (IntKind.u64.wrap (t128 + 1)), (((IntKind.u64.wrap (t128 + 1)) == 0)), (by first | rfl | (simp; done) | (simp [*]; done)), (by first | rfl | (simp; done) | (simp [*]; done)), H', ⟨by have := HJ4.out; have := HJ15.out; have := HJ28.out; first | omega | exact Nat.le_refl _⟩, ⟨by (with_reducible repeat (first | refine blk_drewN ?_ _ | refine blk_drew ?_ | refine blk_alloc ?_ _)); exact BK122.out⟩, ⟨by (with_reducible repeat (first | refine blk_drewN ?_ _ | refine blk_drew ?_ | refine blk_alloc ?_ _)); exact BK131.out⟩, ⟨by repeat (first | (with_reducible first | exact HB.out | apply below_alloc | apply pw_below_drewN | apply below_drew1 | refine below_set ?_ GE122.out | refine below_set ?_ GE131.out) | exact HB.out)⟩⟩
         ·replace c49 := Bool.eq_false_iff.mpr c49
          subst c49
          have H1 : (flywheelref02_Did.j3 kj28 x10_15 t128 t129) = some (r1, r2) := by rw [if_neg (show ¬ (false = true) by decide)] at H; exact H
          clear H
          have H := H1
          clear H1
          have H' := Aside0.mk H
          clear H
          go_wp2
          repeat (go_quiet (fail); try go_wp2)
          go_meet
          case rel => exact ⟨_, (t128), (t129), (by first | rfl | (simp; done) | (simp [*]; done)), (by first | rfl | (simp; done) | (simp [*]; done)), H', ⟨by have := HJ4.out; have := HJ15.out; have := HJ28.out; first | omega | exact Nat.le_refl _⟩, ⟨by (with_reducible repeat (first | refine blk_drewN ?_ _ | refine blk_drew ?_ | refine blk_alloc ?_ _)); exact BK122.out⟩, ⟨by (with_reducible repeat (first | refine blk_drewN ?_ _ | refine blk_drew ?_ | refine blk_alloc ?_ _)); exact BK131.out⟩, ⟨by repeat (first | (with_reducible first | exact HB.out | apply below_alloc | apply pw_below_drewN | apply below_drew1 | refine below_set ?_ GE122.out | refine below_set ?_ GE131.out) | exact HB.out)⟩⟩
        case rest =>
         clear HC46
         try clear c2
         try clear p2
         try clear c3
         try clear c4
         try clear c5
         try clear c7
         try clear c7b0
         try clear c7b1
         try clear c8
         try clear c8b0
         try clear c9
         try clear c20
         try clear c22
         try clear c22b0
         try clear c23
         try clear c23b0
         try clear c24
         try clear c24b0
         try clear c25
         try clear c25b0
         try clear c26
         try clear c26b0
         try clear c27
         try clear c27b0
         try clear c28
         try clear c28b0
         try clear c30
         try clear c30b0
         try clear c30b1
         try clear c31
         try clear c33
         try clear c33b0
         try clear c33b1
         try clear c34
         try clear c36
         try clear c36b0
         try clear c36b1
         try clear c37
         try clear c39
         try clear c41
         try clear c44
         try clear c47
         try clear c49
         try clear c50
         try clear hcz10_0
         try clear hcz10_1
         try clear hcz21_0
         try clear hcz21_1
         try clear hcz21_2
         try clear hcz32_0
         try clear hcz32_1
         try clear hcz32_2
         try clear hcz35_0
         try clear hcz35_1
         try clear hcz35_2
         try clear hcz38_0
         try clear hcz38_1
         try clear hcz38_2
         try clear hcz42_0
         try clear hcz42_1
         try clear hcz42_2
         try clear hcz45_0
         try clear hcz45_1
         try clear hcz45_2
         try clear hcz48_0
         try clear hcz48_1
         try clear hcz48_2
         try clear hfz10_0
         try clear hfz10_1
         try clear hfz21_0
         try clear hfz21_1
         try clear hfz21_2
         try clear hfz32_0
         try clear hfz32_1
         try clear hfz32_2
         try clear hfz35_0
         try clear hfz35_1
         try clear hfz35_2
         try clear hfz38_0
         try clear hfz38_1
         try clear hfz38_2
         try clear hfz42_0
         try clear hfz42_1
         try clear hfz42_2
         try clear hfz45_0
         try clear hfz45_1
         try clear hfz45_2
         try clear hfz48_0
         try clear hfz48_1
         try clear hfz48_2
         try clear p2
         obtain ⟨kq, x12_45, x13_45, rfl, rfl, HA, HJ45, BK122, BK131, HB⟩ := hcut
         cases kq with
         | zero => exact absurd HA.out (by simp [flywheelref02_Did.j3])
         | succ kj45 =>
          have H := HA.out
          clear HA
          simp only [flywheelref02_Did.j3] at H
          by_cases c51 : x10_15 = true
          ·subst c51
           have H1 : (if x13_45 = true then (flywheelref02_Did.j4 kj45 x12_45 true) else (flywheelref02_Did.j4 kj45 x12_45 (decide (x12_45 > 9223372036854775808)))) = some (r1, r2) := by rw [if_pos rfl] at H; exact H
           clear H
           have H := H1
           clear H1
           have HC52 := Aside0.mk H
           clear H
           go_upto_region 19 with (fail)
           repeat (go_quiet (fail); go_upto_region 19 with (fail))
           go_cut [89] (fun v89 wc => ∃ (kq : Nat) (x89_51 : Bool), v89 = .bool x89_51 ∧ Aside0 (flywheelref02_Did.j4 kq x12_45 x89_51 = some (r1, r2)) ∧ Aside0 (kq ≤ kj45) ∧ Aside0 (wc.heap[gb122]? = some (.cells #[.int .i64 0, .bool false] 63 (0, 0))) ∧ Aside0 (wc.heap[gb131]? = some (.cells #[.int .u64 t128, .bool t129, .int .u64 t130] 69 (0, 0))) ∧ Aside0 (Below w.heap.size w wc))
           case first =>
            have H := HC52.out
            clear HC52
            by_cases c53 : x13_45 = true
            ·subst c53
             have H1 : (flywheelref02_Did.j4 kj45 x12_45 true) = some (r1, r2) := by rw [if_pos rfl] at H; exact H
             clear H
             have H := H1
             clear H1
             have H' := Aside0.mk H
             clear H
             go_wp2
             repeat (go_quiet (fail); try go_wp2)
             go_meet
             case rel => exact ⟨_, (true), (by first | rfl | (simp; done) | (simp [*]; done)), H', ⟨by have := HJ4.out; have := HJ15.out; have := HJ28.out; have := HJ45.out; first | omega | exact Nat.le_refl _⟩, ⟨by (with_reducible repeat (first | refine blk_drewN ?_ _ | refine blk_drew ?_ | refine blk_alloc ?_ _)); exact BK122.out⟩, ⟨by (with_reducible repeat (first | refine blk_drewN ?_ _ | refine blk_drew ?_ | refine blk_alloc ?_ _)); exact BK131.out⟩, ⟨by repeat (first | (with_reducible first | exact HB.out | apply below_alloc | apply pw_below_drewN | apply below_drew1 | refine below_set ?_ GE122.out | refine below_set ?_ GE131.out) | exact HB.out)⟩⟩
            ·replace c53 := Bool.eq_false_iff.mpr c53
             subst c53
             have H1 : (flywheelref02_Did.j4 kj45 x12_45 (decide (x12_45 > 9223372036854775808))) = some (r1, r2) := by rw [if_neg (show ¬ (false = true) by decide)] at H; exact H
             clear H
             have H := H1
             clear H1
             have H' := Aside0.mk H
             clear H
             go_wp2
             repeat (go_quiet (fail); try go_wp2)
             go_meet
             case rel => exact ⟨_, (decide (x12_45 > 9223372036854775808)), (by first | rfl | (simp; done) | (simp [*]; done)), H', ⟨by have := HJ4.out; have := HJ15.out; have := HJ28.out; have := HJ45.out; first | omega | exact Nat.le_refl _⟩, ⟨by (with_reducible repeat (first | refine blk_drewN ?_ _ | refine blk_drew ?_ | refine blk_alloc ?_ _)); exact BK122.out⟩, ⟨by (with_reducible repeat (first | refine blk_drewN ?_ _ | refine blk_drew ?_ | refine blk_alloc ?_ _)); exact BK131.out⟩, ⟨by repeat (first | (with_reducible first | exact HB.out | apply below_alloc | apply pw_below_drewN | apply below_drew1 | refine below_set ?_ GE122.out | refine below_set ?_ GE131.out) | exact HB.out)⟩⟩
           case rest =>
            clear HC52
            try clear c2
            try clear p2
            try clear c3
            try clear c4
            try clear c5
            try clear c7
            try clear c7b0
            try clear c7b1
            try clear c8
            try clear c8b0
            try clear c9
            try clear c20
            try clear c22
            try clear c22b0
            try clear c23
            try clear c23b0
            try clear c24
            try clear c24b0
            try clear c25
            try clear c25b0
            try clear c26
            try clear c26b0
            try clear c27
            try clear c27b0
            try clear c28
            try clear c28b0
            try clear c30
            try clear c30b0
            try clear c30b1
            try clear c31
            try clear c33
            try clear c33b0
            try clear c33b1
            try clear c34
            try clear c36
            try clear c36b0
            try clear c36b1
            try clear c37
            try clear c39
            try clear c41
            try clear c44
            try clear c47
            try clear c49
            try clear c50
            try clear c51
            try clear c53
            try clear hcz10_0
            try clear hcz10_1
            try clear hcz21_0
            try clear hcz21_1
            try clear hcz21_2
            try clear hcz32_0
            try clear hcz32_1
            try clear hcz32_2
            try clear hcz35_0
            try clear hcz35_1
            try clear hcz35_2
            try clear hcz38_0
            try clear hcz38_1
            try clear hcz38_2
            try clear hcz42_0
            try clear hcz42_1
            try clear hcz42_2
            try clear hcz45_0
            try clear hcz45_1
            try clear hcz45_2
            try clear hcz48_0
            try clear hcz48_1
            try clear hcz48_2
            try clear hfz10_0
            try clear hfz10_1
            try clear hfz21_0
            try clear hfz21_1
            try clear hfz21_2
            try clear hfz32_0
            try clear hfz32_1
            try clear hfz32_2
            try clear hfz35_0
            try clear hfz35_1
            try clear hfz35_2
            try clear hfz38_0
            try clear hfz38_1
            try clear hfz38_2
            try clear hfz42_0
            try clear hfz42_1
            try clear hfz42_2
            try clear hfz45_0
            try clear hfz45_1
            try clear hfz45_2
            try clear hfz48_0
            try clear hfz48_1
            try clear hfz48_2
            try clear p2
            obtain ⟨kq, x89_51, rfl, HA, HJ51, BK122, BK131, HB⟩ := hcut
            cases kq with
            | zero => exact absurd HA.out (by simp [flywheelref02_Did.j4])
            | succ kj51 =>
             have H := HA.out
             clear HA
             simp only [flywheelref02_Did.j4] at H
             by_cases c54 : x89_51 = true
             ·subst c54
              have H1 : (some ((-9223372036854775808), false)) = some (r1, r2) := by rw [if_pos rfl] at H; exact H
              clear H
              have H := H1
              clear H1
              simp only [Option.some.injEq, Prod.mk.injEq] at H
              obtain ⟨rfl, rfl⟩ := H
              have hnb55 := NB122_131.out
              have hnc55 := NB131_122.out
              have hcz56_0 : wc.cell? ⟨gb122, 0, none⟩ = some (.int .i64 0) := (blk_cell BK122.out 0).trans rfl
              have hcz56_1 : wc.cell? ⟨gb122, 1, none⟩ = some (.bool false) := (blk_cell BK122.out 1).trans rfl
              have hfz56_0 := blk_frozen BK122.out 0
              have hfz56_1 := blk_frozen BK122.out 1
              go_wp2
              repeat (go_quiet (fail); try go_wp2)
              refine bodyPost_ret (results_cell_row rfl _ _ gb122 63 #[.int .i64 (-9223372036854775808), .bool false] (0, 0) _ rfl (by (with_reducible repeat (first | refine blk_drewN ?_ _ | refine blk_drew ?_ | refine blk_alloc ?_ _)); refine blk_put (cs := #[.int .i64 (-9223372036854775808), .bool false]) ?_ 1 _ rfl; (with_reducible repeat (first | refine blk_drewN ?_ _ | refine blk_drew ?_ | refine blk_alloc ?_ _)); refine blk_put (cs := #[.int .i64 0, .bool false]) ?_ 0 _ rfl; (with_reducible repeat (first | refine blk_drewN ?_ _ | refine blk_drew ?_ | refine blk_alloc ?_ _)); exact BK122.out) Try.underlying63 rfl (by kernel_rfl)) rfl ?_
              exact ⟨by first | rfl | (simp [errW_none, errW_some] <;> rfl) | (simp [*, errW_none, errW_some] <;> rfl), by repeat (first | (with_reducible first | exact HB.out | apply below_alloc | apply pw_below_drewN | apply below_drew1 | refine below_set ?_ GE122.out | refine below_set ?_ GE131.out) | exact HB.out)⟩
             ·replace c54 := Bool.eq_false_iff.mpr c54
              subst c54
              have H1 : (some (wrap64 (-(wrap64 (x12_45))), true)) = some (r1, r2) := by rw [if_neg (show ¬ (false = true) by decide)] at H; exact H
              clear H
              have H := H1
              clear H1
              simp only [Option.some.injEq, Prod.mk.injEq] at H
              obtain ⟨rfl, rfl⟩ := H
              have hnb57 := NB122_131.out
              have hnc57 := NB131_122.out
              have hcz58_0 : wc.cell? ⟨gb122, 0, none⟩ = some (.int .i64 0) := (blk_cell BK122.out 0).trans rfl
              have hcz58_1 : wc.cell? ⟨gb122, 1, none⟩ = some (.bool false) := (blk_cell BK122.out 1).trans rfl
              have hfz58_0 := blk_frozen BK122.out 0
              have hfz58_1 := blk_frozen BK122.out 1
              go_wp2
              repeat (go_quiet (fail); try go_wp2)
              refine bodyPost_ret (results_cell_row rfl _ _ gb122 63 #[.int .i64 (wrap64 (-(wrap64 (x12_45)))), .bool true] (0, 0) _ rfl (by (with_reducible repeat (first | refine blk_drewN ?_ _ | refine blk_drew ?_ | refine blk_alloc ?_ _)); refine blk_put (cs := #[.int .i64 (wrap64 (-(wrap64 (x12_45)))), .bool false]) ?_ 1 _ rfl; (with_reducible repeat (first | refine blk_drewN ?_ _ | refine blk_drew ?_ | refine blk_alloc ?_ _)); refine blk_put (cs := #[.int .i64 0, .bool false]) ?_ 0 _ rfl; (with_reducible repeat (first | refine blk_drewN ?_ _ | refine blk_drew ?_ | refine blk_alloc ?_ _)); exact BK122.out) Try.underlying63 rfl (by kernel_rfl)) rfl ?_
              exact ⟨by first | rfl | (simp [errW_none, errW_some] <;> rfl) | (simp [*, errW_none, errW_some] <;> rfl), by repeat (first | (with_reducible first | exact HB.out | apply below_alloc | apply pw_below_drewN | apply below_drew1 | refine below_set ?_ GE122.out | refine below_set ?_ GE131.out) | exact HB.out)⟩
          ·replace c51 := Bool.eq_false_iff.mpr c51
           subst c51
           have H1 : (if x13_45 = true then (some (9223372036854775807, false)) else (if x12_45 > 9223372036854775807 then (some (9223372036854775807, false)) else (some (wrap64 (x12_45), true)))) = some (r1, r2) := by rw [if_neg (show ¬ (false = true) by decide)] at H; exact H
           clear H
           have H := H1
           clear H1
           by_cases c59 : x13_45 = true
           ·subst c59
            have H1 : (some (9223372036854775807, false)) = some (r1, r2) := by rw [if_pos rfl] at H; exact H
            clear H
            have H := H1
            clear H1
            simp only [Option.some.injEq, Prod.mk.injEq] at H
            obtain ⟨rfl, rfl⟩ := H
            have hnb60 := NB122_131.out
            have hnc60 := NB131_122.out
            have hcz61_0 : wc.cell? ⟨gb122, 0, none⟩ = some (.int .i64 0) := (blk_cell BK122.out 0).trans rfl
            have hcz61_1 : wc.cell? ⟨gb122, 1, none⟩ = some (.bool false) := (blk_cell BK122.out 1).trans rfl
            have hfz61_0 := blk_frozen BK122.out 0
            have hfz61_1 := blk_frozen BK122.out 1
            go_wp2
            repeat (go_quiet (fail); try go_wp2)
            refine bodyPost_ret (results_cell_row rfl _ _ gb122 63 #[.int .i64 9223372036854775807, .bool false] (0, 0) _ rfl (by (with_reducible repeat (first | refine blk_drewN ?_ _ | refine blk_drew ?_ | refine blk_alloc ?_ _)); refine blk_put (cs := #[.int .i64 9223372036854775807, .bool false]) ?_ 1 _ rfl; (with_reducible repeat (first | refine blk_drewN ?_ _ | refine blk_drew ?_ | refine blk_alloc ?_ _)); refine blk_put (cs := #[.int .i64 0, .bool false]) ?_ 0 _ rfl; (with_reducible repeat (first | refine blk_drewN ?_ _ | refine blk_drew ?_ | refine blk_alloc ?_ _)); exact BK122.out) Try.underlying63 rfl (by kernel_rfl)) rfl ?_
            exact ⟨by first | rfl | (simp [errW_none, errW_some] <;> rfl) | (simp [*, errW_none, errW_some] <;> rfl), by repeat (first | (with_reducible first | exact HB.out | apply below_alloc | apply pw_below_drewN | apply below_drew1 | refine below_set ?_ GE122.out | refine below_set ?_ GE131.out) | exact HB.out)⟩
           ·replace c59 := Bool.eq_false_iff.mpr c59
            subst c59
            have H1 : (if x12_45 > 9223372036854775807 then (some (9223372036854775807, false)) else (some (wrap64 (x12_45), true))) = some (r1, r2) := by rw [if_neg (show ¬ (false = true) by decide)] at H; exact H
            clear H
            have H := H1
            clear H1
            by_cases c62 : x12_45 > 9223372036854775807
            ·rw [if_pos c62] at H
             have c62b0 : decide (9223372036854775807 < x12_45) = true := decide_eq_true c62
             clear c62
             simp only [Option.some.injEq, Prod.mk.injEq] at H
             obtain ⟨rfl, rfl⟩ := H
             have hnb63 := NB122_131.out
             have hnc63 := NB131_122.out
             have hcz64_0 : wc.cell? ⟨gb122, 0, none⟩ = some (.int .i64 0) := (blk_cell BK122.out 0).trans rfl
             have hcz64_1 : wc.cell? ⟨gb122, 1, none⟩ = some (.bool false) := (blk_cell BK122.out 1).trans rfl
             have hfz64_0 := blk_frozen BK122.out 0
             have hfz64_1 := blk_frozen BK122.out 1
             go_wp2
             repeat (go_quiet (fail); try go_wp2)
             refine bodyPost_ret (results_cell_row rfl _ _ gb122 63 #[.int .i64 9223372036854775807, .bool false] (0, 0) _ rfl (by (with_reducible repeat (first | refine blk_drewN ?_ _ | refine blk_drew ?_ | refine blk_alloc ?_ _)); refine blk_put (cs := #[.int .i64 9223372036854775807, .bool false]) ?_ 1 _ rfl; (with_reducible repeat (first | refine blk_drewN ?_ _ | refine blk_drew ?_ | refine blk_alloc ?_ _)); refine blk_put (cs := #[.int .i64 0, .bool false]) ?_ 0 _ rfl; (with_reducible repeat (first | refine blk_drewN ?_ _ | refine blk_drew ?_ | refine blk_alloc ?_ _)); exact BK122.out) Try.underlying63 rfl (by kernel_rfl)) rfl ?_
             exact ⟨by first | rfl | (simp [errW_none, errW_some] <;> rfl) | (simp [*, errW_none, errW_some] <;> rfl), by repeat (first | (with_reducible first | exact HB.out | apply below_alloc | apply pw_below_drewN | apply below_drew1 | refine below_set ?_ GE122.out | refine below_set ?_ GE131.out) | exact HB.out)⟩
            ·rw [if_neg c62] at H
             have c62b0 : decide (9223372036854775807 < x12_45) = false := decide_eq_false c62
             clear c62
             simp only [Option.some.injEq, Prod.mk.injEq] at H
             obtain ⟨rfl, rfl⟩ := H
             have hnb65 := NB122_131.out
             have hnc65 := NB131_122.out
             have hcz66_0 : wc.cell? ⟨gb122, 0, none⟩ = some (.int .i64 0) := (blk_cell BK122.out 0).trans rfl
             have hcz66_1 : wc.cell? ⟨gb122, 1, none⟩ = some (.bool false) := (blk_cell BK122.out 1).trans rfl
             have hfz66_0 := blk_frozen BK122.out 0
             have hfz66_1 := blk_frozen BK122.out 1
             go_wp2
             repeat (go_quiet (fail); try go_wp2)
             refine bodyPost_ret (results_cell_row rfl _ _ gb122 63 #[.int .i64 (wrap64 (x12_45)), .bool true] (0, 0) _ rfl (by (with_reducible repeat (first | refine blk_drewN ?_ _ | refine blk_drew ?_ | refine blk_alloc ?_ _)); refine blk_put (cs := #[.int .i64 (wrap64 (x12_45)), .bool false]) ?_ 1 _ rfl; (with_reducible repeat (first | refine blk_drewN ?_ _ | refine blk_drew ?_ | refine blk_alloc ?_ _)); refine blk_put (cs := #[.int .i64 0, .bool false]) ?_ 0 _ rfl; (with_reducible repeat (first | refine blk_drewN ?_ _ | refine blk_drew ?_ | refine blk_alloc ?_ _)); exact BK122.out) Try.underlying63 rfl (by kernel_rfl)) rfl ?_
             exact ⟨by first | rfl | (simp [errW_none, errW_some] <;> rfl) | (simp [*, errW_none, errW_some] <;> rfl), by repeat (first | (with_reducible first | exact HB.out | apply below_alloc | apply pw_below_drewN | apply below_drew1 | refine below_set ?_ GE122.out | refine below_set ?_ GE131.out) | exact HB.out)⟩
end Go.Proofs.Ytdddpmmpfemibaa.P
end

section
namespace Go.Proofs.Ytdddpmmpfemibaa.P
open Go.RowKit Go.Proofs.YtdddpmmpfemibaaW.PrintWords Go.Proofs.YtdddpmmpfemibaaW.PrintLast Go.Proofs.YtdddpmmpfemibaaW.PrintMore
attribute [local go_sem] max2_int min2_int max_two min_two max_three min_three max_four min_four   -- for this text's walks alone
set_option linter.unusedVariables false
set_option linter.unusedSimpArgs false
theorem rsize (a : Int) (h : isI64 a) : flywheelref02_size.f a = some (if a < 0 then -a else a) := by
 unfold isI64 at h
 unfold flywheelref02_size.f wrap64
 simp only [u64_mod]
 split
 ·congr 1; omega
 ·congr 1; omega
theorem times_ok (a b : Int) (ha : 0 ≤ a) (ha1 : a < 18446744073709551616) (hb : 0 ≤ b) (hb1 : b < 18446744073709551616) :
  flywheelref02_times.f a b = some (a * b / 18446744073709551616, a * b % 18446744073709551616) := by
 obtain ⟨x, rfl⟩ := Int.eq_ofNat_of_zero_le ha
 obtain ⟨y, rfl⟩ := Int.eq_ofNat_of_zero_le hb
 have hx : x < 18446744073709551616 := by omega
 have hy : y < 18446744073709551616 := by omega
 have e1 : Go.bits .and .u64 (x : Int) 4294967295 = ((x % 4294967296 : Nat) : Int) := by rw [and_low32 _ ha (by omega)]; omega
 have e2 : Go.bits .and .u64 (y : Int) 4294967295 = ((y % 4294967296 : Nat) : Int) := by rw [and_low32 _ hb (by omega)]; omega
 have d1 : (x : Int) / 4294967296 = ((x / 4294967296 : Nat) : Int) := by omega
 have d2 : (y : Int) / 4294967296 = ((y / 4294967296 : Nat) : Int) := by omega
 have sp : x * y = (x / 4294967296) * (y / 4294967296) * (4294967296 * 4294967296) + ((x / 4294967296) * (y % 4294967296) + (x % 4294967296) * (y / 4294967296)) * 4294967296 + (x % 4294967296) * (y % 4294967296) := by
  rw [← Lib.split_mul, Nat.div_add_mod' x 4294967296, Nat.div_add_mod' y 4294967296]
 unfold flywheelref02_times.f
 rw [e1, e2, d1, d2]
 simp only [← Int.natCast_mul]
 have b2 := Lib.half_mul_le (a := x % 4294967296) (b := y % 4294967296) (by omega) (by omega)
 have b3 := Lib.half_mul_le (a := x / 4294967296) (b := y % 4294967296) (by omega) (by omega)
 have b4 := Lib.half_mul_le (a := x % 4294967296) (b := y / 4294967296) (by omega) (by omega)
 have b5 := Lib.half_mul_le (a := x / 4294967296) (b := y / 4294967296) (by omega) (by omega)
 rw [sp]
 generalize (x % 4294967296) * (y % 4294967296) = w0 at *
 generalize (x / 4294967296) * (y % 4294967296) = p1 at *
 generalize (x % 4294967296) * (y / 4294967296) = p2 at *
 generalize (x / 4294967296) * (y / 4294967296) = p3 at *
 have w1 : IntKind.u64.wrap ((w0 : Nat) : Int) = (w0 : Int) := u64_id _ (by omega) (by omega)
 have w2 : IntKind.u64.wrap ((p1 : Nat) : Int) = (p1 : Int) := u64_id _ (by omega) (by omega)
 have w3 : IntKind.u64.wrap ((p2 : Nat) : Int) = (p2 : Int) := u64_id _ (by omega) (by omega)
 have w4 : IntKind.u64.wrap ((p3 : Nat) : Int) = (p3 : Int) := u64_id _ (by omega) (by omega)
 rw [w1, w2, w3, w4]
 have t : (p1 : Int) + (w0 : Int) / 4294967296 = ((p1 + w0 / 4294967296 : Nat) : Int) := by omega
 rw [t]
 generalize hT : p1 + w0 / 4294967296 = T at *
 have w5 : IntKind.u64.wrap ((T : Nat) : Int) = (T : Int) := u64_id _ (by omega) (by omega)
 have e3 : Go.bits .and .u64 (T : Int) 4294967295 = ((T % 4294967296 : Nat) : Int) := by rw [and_low32 _ (by omega) (by omega)]; omega
 have e4 : Go.bits .and .u64 (w0 : Int) 4294967295 = ((w0 % 4294967296 : Nat) : Int) := by rw [and_low32 _ (by omega) (by omega)]; omega
 rw [w5, e3, e4]
 rw [u64_id ((p2 : Int) + ((T % 4294967296 : Nat) : Int)) (by omega) (by omega), u64_id ((p3 : Int) + (T : Int) / 4294967296) (by omega) (by omega), u64_id _ (by omega) (by omega), u64_mod, u64_mod]
 congr 2
 ·omega
 ·omega
theorem part_loop (c : Int) (hc : 0 < c) (hc1 : c ≤ 9223372036854775808) (n : Nat) (hn : n ≤ 128) : ∀ (hi lo q : Int) (over : Bool) (left T U : Int), 0 ≤ hi → hi < 18446744073709551616 → 0 ≤ lo → lo < 18446744073709551616 → 0 ≤ q → q < 18446744073709551616 → 0 ≤ left → left < c →
  (hi * 18446744073709551616 + lo) * pw n = T * 340282366920938463463374607431768211456 + U → 0 ≤ U → U < 340282366920938463463374607431768211456 →
  flywheelref02_part.l0 (n + 1) c ((n : Int) - 1) hi lo q over left = some ((q * pw n + (left * pw n + T) / c) % 18446744073709551616, over || decide (18446744073709551616 ≤ q * pw n + (left * pw n + T) / c), (left * pw n + T) % c) := by
 induction n with
 | zero =>
  intro hi lo q over left T U h0 h1 l0 l1 q0 q1 f0 f1 e u0 u1
  have p0 : pw 0 = 1 := rfl
  rw [p0, Int.mul_one] at e
  have hT : T = 0 := by omega
  subst hT
  simp only [flywheelref02_part.l0]
  rw [if_neg (by omega), p0, Int.mul_one, Int.mul_one, Int.add_zero, Int.ediv_eq_zero_of_lt f0 f1, Int.emod_eq_of_lt f0 f1, Int.add_zero, Int.emod_eq_of_lt q0 q1, decide_eq_false (by omega), Bool.or_false]
 | succ n ih =>
  intro hi lo q over left T U h0 h1 l0 l1 q0 q1 f0 f1 e u0 u1
  have IH := ih (by omega)
  have pp := pw_pos n
  have w1 : IntKind.u64.wrap (IntKind.u64.wrap (left * 2) + hi / 9223372036854775808) = left * 2 + hi / 9223372036854775808 := by rw [u64_id (left * 2) (by omega) (by omega), u64_id _ (by omega) (by omega)]
  have w2 : wrap64 (((n + 1 : Nat) : Int) - 1 - 1) = (n : Int) - 1 := by unfold wrap64; omega
  rw [pw_succ] at e ⊢
  -- the shifted number
  have sh : IntKind.u64.wrap (IntKind.u64.wrap (hi * 2) + lo / 9223372036854775808) = hi * 2 + lo / 9223372036854775808 - hi / 9223372036854775808 * 18446744073709551616 := by simp only [u64_mod]; omega
  have sl : IntKind.u64.wrap (lo * 2) = lo * 2 - lo / 9223372036854775808 * 18446744073709551616 := by simp only [u64_mod]; omega
  have b01 : hi / 9223372036854775808 = 0 ∨ hi / 9223372036854775808 = 1 := by omega
  have e' : ((hi * 2 + lo / 9223372036854775808 - hi / 9223372036854775808 * 18446744073709551616) * 18446744073709551616 + (lo * 2 - lo / 9223372036854775808 * 18446744073709551616)) * pw n = (T - hi / 9223372036854775808 * pw n) * 340282366920938463463374607431768211456 + U := by
   have : (hi * 2 + lo / 9223372036854775808 - hi / 9223372036854775808 * 18446744073709551616) * 18446744073709551616 + (lo * 2 - lo / 9223372036854775808 * 18446744073709551616) = (hi * 18446744073709551616 + lo) * 2 - hi / 9223372036854775808 * 340282366920938463463374607431768211456 := by omega
   rw [this, Int.sub_mul, Int.mul_assoc, e, Int.sub_mul, Int.mul_right_comm]
   omega
  -- the two ways of a round
  have way : ∀ (ov : Bool), (if left * 2 + hi / 9223372036854775808 ≥ c then
     flywheelref02_part.l0 (n + 1) c ((n : Int) - 1) (hi * 2 + lo / 9223372036854775808 - hi / 9223372036854775808 * 18446744073709551616) (lo * 2 - lo / 9223372036854775808 * 18446744073709551616) (IntKind.u64.wrap (IntKind.u64.wrap (q * 2) + 1)) ov (IntKind.u64.wrap (left * 2 + hi / 9223372036854775808 - c))
    else flywheelref02_part.l0 (n + 1) c ((n : Int) - 1) (hi * 2 + lo / 9223372036854775808 - hi / 9223372036854775808 * 18446744073709551616) (lo * 2 - lo / 9223372036854775808 * 18446744073709551616) (IntKind.u64.wrap (q * 2)) ov (left * 2 + hi / 9223372036854775808)) =
    some ((q * (2 * pw n) + (left * (2 * pw n) + T) / c) % 18446744073709551616, ov || decide (18446744073709551616 ≤ (q * 2 - q / 9223372036854775808 * 18446744073709551616) * pw n + (left * (2 * pw n) + T) / c), (left * (2 * pw n) + T) % c) := by
   intro ov
   have W : left * (2 * pw n) + T = (left * 2 + hi / 9223372036854775808) * pw n + (T - hi / 9223372036854775808 * pw n) := by rw [Int.add_mul, Int.mul_assoc]; omega
   have s2 : IntKind.u64.wrap (q * 2) = q * 2 - q / 9223372036854775808 * 18446744073709551616 := by simp only [u64_mod]; omega
   have s1 : IntKind.u64.wrap (IntKind.u64.wrap (q * 2) + 1) = q * 2 - q / 9223372036854775808 * 18446744073709551616 + 1 := by simp only [u64_mod]; omega
   have Q2 : (q * (2 * pw n)) = (q * 2 - q / 9223372036854775808 * 18446744073709551616) * pw n + 18446744073709551616 * (q / 9223372036854775808 * pw n) := by rw [Int.sub_mul, Int.mul_assoc, Int.mul_right_comm]; omega
   by_cases hge : left * 2 + hi / 9223372036854775808 ≥ c
   ·rw [if_pos hge, s1, u64_id (left * 2 + hi / 9223372036854775808 - c) (by omega) (by omega)]
    rw [IH _ _ _ ov _ _ U (by omega) (by omega) (by omega) (by omega) (by omega) (by omega) (by omega) (by omega) e' u0 u1]
    have X : (left * 2 + hi / 9223372036854775808 - c) * pw n + (T - hi / 9223372036854775808 * pw n) = left * (2 * pw n) + T + (-(pw n)) * c := by rw [W, Int.sub_mul, Int.neg_mul, Int.mul_comm c]; omega
    rw [X, Int.add_mul_ediv_right _ _ (by omega), Int.add_mul_emod_self_right, Q2]
    generalize (q * 2 - q / 9223372036854775808 * 18446744073709551616) = z at *
    have Z : (z + 1) * pw n + ((left * (2 * pw n) + T) / c + -pw n) = z * pw n + (left * (2 * pw n) + T) / c := by rw [Int.add_mul]; omega
    rw [Z]
    congr 2
    omega
   ·rw [if_neg hge, s2, IH _ _ _ ov _ _ U (by omega) (by omega) (by omega) (by omega) (by omega) (by omega) (by omega) (by omega) e' u0 u1, ← W, Q2]
    generalize (q * 2 - q / 9223372036854775808 * 18446744073709551616) = z at *
    congr 2
    omega
  have T0 : 0 ≤ (left * (2 * pw n) + T) / c := by
   apply Int.ediv_nonneg _ (by omega)
   have a1 := Int.mul_nonneg f0 (show 0 ≤ 2 * pw n by omega)
   have a2 := Int.mul_nonneg (show 0 ≤ hi * 18446744073709551616 + lo by omega) (show 0 ≤ 2 * pw n by omega)
   omega
  have final : ∀ ov : Bool, ov = (over || ((q / 9223372036854775808) == 1)) → (ov || decide (18446744073709551616 ≤ (q * 2 - q / 9223372036854775808 * 18446744073709551616) * pw n + (left * (2 * pw n) + T) / c)) = (over || decide (18446744073709551616 ≤ q * (2 * pw n) + (left * (2 * pw n) + T) / c)) := by
   intro ov hov
   subst hov
   cases over with
   | true => rfl
   | false =>
    simp only [Bool.false_or]
    have q01 : q / 9223372036854775808 = 0 ∨ q / 9223372036854775808 = 1 := by omega
    rcases q01 with hq | hq
    ·rw [hq, Int.zero_mul, Int.sub_zero, Int.mul_assoc]; simp
    ·have a3 : 9223372036854775808 * (2 * pw n) ≤ q * (2 * pw n) := Int.mul_le_mul_of_nonneg_right (by omega) (by omega)
     rw [hq, decide_eq_true (show 18446744073709551616 ≤ q * (2 * pw n) + (left * (2 * pw n) + T) / c by omega)]
     rfl
  rw [flywheelref02_part.l0]
  rw [if_pos (by omega)]
  simp only [w1, w2, sh, sl]
  cases over with
  | true =>
   rw [if_pos rfl, way true, final true (by simp)]
  | false =>
   rw [if_neg (by simp), way _, final _ (by simp)]
theorem part_ok (N c : Int) (hN : 0 ≤ N) (hN1 : N < 340282366920938463463374607431768211456) (hc : 0 < c) (hc1 : c ≤ 9223372036854775808) :
  flywheelref02_part.f 129 (N / 18446744073709551616) (N % 18446744073709551616) c = some (N / c % 18446744073709551616, decide (18446744073709551616 ≤ N / c), N % c) := by
 unfold flywheelref02_part.f
 have p : pw 128 = 340282366920938463463374607431768211456 := rfl
 have h := part_loop c hc hc1 128 (Nat.le_refl _) (N / 18446744073709551616) (N % 18446744073709551616) 0 false 0 N 0 (by omega) (by omega) (by omega) (by omega) (by omega) (by omega) (by omega) hc (by rw [p]; omega) (by omega) (by omega)
 simp only [Int.zero_mul, Int.zero_add, Bool.false_or] at h
 exact h
theorem did_tail (below ov : Bool) (q V : Int) (k : Nat) (h0 : 0 ≤ V) (hq : q = V % 18446744073709551616) (hov : ov = decide (18446744073709551616 ≤ V)) :
  flywheelref02_Did.j3 (k + 2) below q ov = some (hold64 (if below = true then -V else V)) := by
 subst hq; subst hov
 by_cases hb : 18446744073709551616 ≤ V
 ·rw [decide_eq_true hb]
  cases below with
  | true =>
   simp only [flywheelref02_Did.j3, flywheelref02_Did.j4, if_true]
   unfold hold64
   rw [if_pos (by omega)]
  | false =>
   simp only [flywheelref02_Did.j3, if_true, Bool.false_eq_true, if_false]
   unfold hold64
   rw [if_neg (by omega), if_pos (by omega)]
 ·rw [decide_eq_false hb, Int.emod_eq_of_lt h0 (by omega)]
  cases below with
  | true =>
   simp only [flywheelref02_Did.j3, flywheelref02_Did.j4, if_true, Bool.false_eq_true, if_false]
   unfold hold64
   by_cases hl : V > 9223372036854775808
   ·rw [decide_eq_true hl, if_pos rfl, if_pos (by omega)]
   ·rw [decide_eq_false hl, if_neg (by simp), if_neg (by omega), if_neg (by omega)]
    congr 2
    unfold wrap64; omega
  | false =>
   simp only [flywheelref02_Did.j3, Bool.false_eq_true, if_false]
   unfold hold64
   by_cases hl : V > 9223372036854775807
   ·rw [if_pos hl, if_neg (by omega), if_pos hl]
   ·rw [if_neg hl, if_neg (by omega), if_neg hl]
    congr 2
    unfold wrap64; omega
theorem did_j2 (below up : Bool) (Q L : Int) (k : Nat) (h0 : 0 ≤ Q) :
  flywheelref02_Did.j2 (k + 3) below up (Q % 18446744073709551616) (decide (18446744073709551616 ≤ Q)) L = some (hold64 (if below = true then -(Q + if up = true then 1 else 0) else Q + if up = true then 1 else 0)) := by
 cases up with
 | false =>
  simp only [flywheelref02_Did.j2, Bool.false_eq_true, if_false, Int.add_zero]
  exact did_tail below _ _ Q k h0 rfl rfl
 | true =>
  simp only [flywheelref02_Did.j2, if_true]
  have e : IntKind.u64.wrap (Q % 18446744073709551616 + 1) = (Q + 1) % 18446744073709551616 := by rw [u64_mod]; omega
  by_cases hb : 18446744073709551616 ≤ Q
  ·rw [decide_eq_true hb, if_pos rfl, e]
   exact did_tail below _ _ (Q + 1) k (by omega) rfl (decide_eq_true (by omega)).symm
  ·rw [decide_eq_false hb, if_neg (by simp), e]
   refine did_tail below _ _ (Q + 1) k (by omega) rfl ?_
   by_cases hz : Q = 18446744073709551615
   ·subst hz; rfl
   ·rw [decide_eq_false (by omega), beq_eq_false_iff_ne]; omega
theorem did_j1 (x2 how N C : Int) (below : Bool) (k : Nat) (hx : isI64 x2) (hC : C = if x2 < 0 then -x2 else x2) (hC0 : 0 < C) (hN : 0 ≤ N) (hh : how = 1 ∨ how = 2 ∨ how = 3) :
  flywheelref02_Did.j1 (k + 4) x2 how below (N / C % 18446744073709551616) (decide (18446744073709551616 ≤ N / C)) (N % C) = some (hold64 (rnd (if below = true then -N else N) C how)) := by
 have rs := rsize x2 hx
 rw [← hC] at rs
 have hCu : C ≤ 9223372036854775808 := by unfold isI64 at hx; rw [hC]; split <;> omega
 have r0 := Int.emod_nonneg N (show C ≠ 0 by omega)
 have r1 := Int.emod_lt_of_pos N hC0
 have q0 : 0 ≤ N / C := Int.ediv_nonneg hN (by omega)
 simp only [flywheelref02_Did.j1, rs, Option.bind_some]
 rw [u64_id (C - N % C) (by omega) (by omega)]
 have J := fun up => did_j2 below up (N / C) (N % C) k q0
 simp only [J]
 have c1 : ¬ C < 0 := by omega
 have c2 : ¬ C ≤ 0 := by omega
 cases below with
 | true =>
  simp only [if_true]
  rw [rnd_neg N C how hC0]
  have e1 : decide (N % C > C - N % C) = decide (C < 2 * (N % C)) := by rw [Bool.eq_iff_iff]; simp only [decide_eq_true_eq]; omega
  simp only [e1]
  by_cases hz : N % C = 0
  ·rcases hh with rfl | rfl | rfl <;> simp [hz, c1]
  ·have hp : 0 < N % C := by omega
   by_cases h : C < 2 * (N % C) <;> rcases hh with rfl | rfl | rfl <;> simp [hz, hp, h]
 | false =>
  simp only [Bool.false_eq_true, if_false]
  rw [rnd_pos N C how hC0]
  have e1 : decide (N % C ≥ C - N % C) = decide (C ≤ 2 * (N % C)) := by rw [Bool.eq_iff_iff]; simp only [decide_eq_true_eq]; omega
  simp only [e1]
  by_cases hz : N % C = 0
  ·rcases hh with rfl | rfl | rfl <;> simp [hz, c2]
  ·have hp : 0 < N % C := by omega
   by_cases h : C ≤ 2 * (N % C) <;> rcases hh with rfl | rfl | rfl <;> simp [hz, hp, h]
theorem did_ok (a b c how : Int) (ha : isI64 a) (hb : isI64 b) (hc : isI64 c) : flywheelref02_Did.f 130 a b c how = some (mdq a b c how) := by
 unfold flywheelref02_Did.f mdq
 by_cases hz : c = 0
 ·rw [if_pos hz, if_pos (Or.inl hz)]; rfl
 rw [if_neg hz]
 by_cases hl : how < 1
 ·rw [if_pos hl, if_pos (Or.inr (Or.inl hl))]; rfl
 rw [if_neg hl]
 by_cases hg : how > 3
 ·rw [decide_eq_true hg, if_pos (Or.inr (Or.inr hg))]; rfl
 rw [decide_eq_false hg, if_neg (by omega)]
 rw [flywheelref02_Did.j0, if_neg (by simp), rsize a ha, rsize b hb, rsize c hc]
 simp only [Option.bind_some]
 have ha' := ha; have hb' := hb; have hc' := hc
 unfold isI64 at ha' hb' hc'
 rw [times_ok _ _ (by split <;> omega) (by split <;> omega) (by split <;> omega) (by split <;> omega)]
 simp only [Option.bind_some]
 have hN := abs_mul_le (a := if a < 0 then -a else a) (b := if b < 0 then -b else b) (by split <;> omega) (by split <;> omega) (by split <;> omega) (by split <;> omega)
 have hN0 := Int.mul_nonneg (a := if a < 0 then -a else a) (b := if b < 0 then -b else b) (by split <;> omega) (by split <;> omega)
 rw [part_ok _ _ hN0 (by omega) (by split <;> omega) (by split <;> omega)]
 simp only [Option.bind_some]
 have J := fun bl => did_j1 c how ((if a < 0 then -a else a) * (if b < 0 then -b else b)) (if c < 0 then -c else c) bl 125 hc rfl (by split <;> omega) hN0 (by omega)
 simp only [J]
 by_cases h1 : a < 0 <;> by_cases h2 : b < 0 <;> by_cases h3 : c < 0 <;> simp [h1, h2, h3, Int.neg_mul, Int.mul_neg]
def flywheelref02_Did_s.f (a0 : Int) (a1 : Int) (a2 : Int) (a3 : Int) : Option (Int × Bool) := if isI64 a0 ∧ isI64 a1 ∧ isI64 a2 then some (mdq a0 a1 a2 a3) else none
theorem flywheelref02_Did_s.calls (a0 : Int) (a1 : Int) (a2 : Int) (a3 : Int) (r1 : Int) (r2 : Bool) (w : World) (h : flywheelref02_Did_s.f a0 a1 a2 a3 = some (r1, r2)) :
  Calls Try.prog 30 #[.int .i64 a0, .int .i64 a1, .int .i64 a2, .int .i64 a3] w fun e w' => e = .returned (.agg #[.int .i64 r1, .bool r2]) ∧ Below w.heap.size w w' := by
 unfold flywheelref02_Did_s.f at h
 split at h
 ·rename_i hb
  exact flywheelref02_Did.calls 130 a0 a1 a2 a3 r1 r2 w ((did_ok a0 a1 a2 a3 hb.1 hb.2.1 hb.2.2).trans h)
 ·cases h
def flywheelref02_Do.f (a0 : Int) (a1 : Int) (a2 : Int) (a3 : Int) : Option (Int) := (flywheelref02_Did_s.f a0 a1 a2 a3).bind fun bt134 => (some bt134.1)
set_option maxHeartbeats 8000000 in
set_option maxRecDepth 100000 in
theorem flywheelref02_Do.calls (a0 : Int) (a1 : Int) (a2 : Int) (a3 : Int) (r : Int) (w : World) (h : flywheelref02_Do.f a0 a1 a2 a3 = some r) :
  Calls Try.prog 26 #[.int .i64 a0, .int .i64 a1, .int .i64 a2, .int .i64 a3] w fun e w' => e = .returned (.int .i64 r) ∧ Below w.heap.size w w' := by
 have hfd63_0 : ∀ (v0 v1 : Value) (W : World), (Instr.field 63 (.agg #[v0, v1]) 0).run Try.prog W = .ok v0 W := fun _ _ _ => by kernel_rfl
 have HB := Aside0.mk (Below.refl w.heap.size w)
 have H : ((flywheelref02_Did_s.f a0 a1 a2 a3).bind fun bt134 => (some bt134.1)) = some r := h
 clear h
 replace H := Option.bind_eq_some_iff.mp H
 obtain ⟨⟨t134, t135⟩, A50, H⟩ := H
 replace H : (some t134) = some r := H
 have A5 := Aside0.mk A50
 clear A50
 obtain rfl := Option.some.inj H
 go_enter Try.func26, Try.ntmps26
 go_wp2_with (first | ((with_reducible refine gate_callee (f := 30) rfl ?_); refine goesL_ (some 13) rfl rfl Try.func30 (by kernel_rfl) rfl #[.int .i64 a0, .int .i64 a1, .int .i64 a2, .int .i64 a3] rfl (by (try simp only [List.map_toArray, List.map_cons, List.map_nil]); first | done | rfl | (simp only [List.length_drop, List.length_take]; rfl)) ?_; (with_reducible refine (flywheelref02_Did_s.calls a0 a1 a2 a3 t134 t135 _ A5.out).mono ?_); rintro e w6 ⟨rfl, hb⟩; refine ⟨_, rfl, ?_⟩; have n0_ := Aside0.mk (below_step (by repeat (first | (with_reducible first | exact HB.out | apply below_alloc | apply pw_below_drewN | apply below_drew1) | exact HB.out)) hb); clear HB; have HB := n0_; clear n0_; (try clear hb); (try clear hb2); (try clear hk); (try clear hi)))
 go_ret
 exact ⟨by first | rfl | (simp [errW_none, errW_some] <;> rfl) | (simp [*, errW_none, errW_some] <;> rfl), by repeat (first | (with_reducible first | exact HB.out | apply below_alloc | apply pw_below_drewN | apply below_drew1) | exact HB.out)⟩
def flywheelref04_Bytes.f (a0 : Int) (a1 : Int) : Option (Int) := (flywheelref02_Do.f a0 a1 8000000 1).bind fun t136 => (some t136)
set_option maxHeartbeats 8000000 in
set_option maxRecDepth 100000 in
theorem flywheelref04_Bytes.calls (a0 : Int) (a1 : Int) (r : Int) (w : World) (h : flywheelref04_Bytes.f a0 a1 = some r) :
  Calls Try.prog 19 #[.int .i64 a0, .int .i64 a1] w fun e w' => e = .returned (.int .i64 r) ∧ Below w.heap.size w w' := by
 have HB := Aside0.mk (Below.refl w.heap.size w)
 have H : ((flywheelref02_Do.f a0 a1 8000000 1).bind fun t136 => (some t136)) = some r := h
 clear h
 replace H := Option.bind_eq_some_iff.mp H
 obtain ⟨t136, A30, H⟩ := H
 replace H : (some t136) = some r := H
 have A3 := Aside0.mk A30
 clear A30
 obtain rfl := Option.some.inj H
 go_enter Try.func19, Try.ntmps19
 go_wp2_with (first | ((with_reducible refine gate_callee (f := 26) rfl ?_); refine goesL_ (some 7) rfl rfl Try.func26 (by kernel_rfl) rfl #[.int .i64 a0, .int .i64 a1, .int .i64 8000000, .int .i64 1] rfl (by (try simp only [List.map_toArray, List.map_cons, List.map_nil]); first | done | rfl | (simp only [List.length_drop, List.length_take]; rfl)) ?_; (with_reducible refine (flywheelref02_Do.calls a0 a1 8000000 1 t136 _ A3.out).mono ?_); rintro e w4 ⟨rfl, hb⟩; refine ⟨_, rfl, ?_⟩; have n0_ := Aside0.mk (below_step (by repeat (first | (with_reducible first | exact HB.out | apply below_alloc | apply pw_below_drewN | apply below_drew1) | exact HB.out)) hb); clear HB; have HB := n0_; clear n0_; (try clear hb); (try clear hb2); (try clear hk); (try clear hi)))
 go_ret
 exact ⟨by first | rfl | (simp [errW_none, errW_some] <;> rfl) | (simp [*, errW_none, errW_some] <;> rfl), by repeat (first | (with_reducible first | exact HB.out | apply below_alloc | apply pw_below_drewN | apply below_drew1) | exact HB.out)⟩
def flywheelref26_Probe_Start.f (s0_0 : PrS) (a1 : Int) : Option (Int × PrS) := if s0_0.l.length < 1000000 then (if a1 < 1 then some (0, s0_0) else (if 17179869184 < a1 then some (0, s0_0) else (if prOpen s0_0 = true then some (0, s0_0) else ((flywheelref04_Bytes.f a1 15000).bind fun b => some (((s0_0.l.length + 1 : Nat) : Int), ⟨s0_0.b, s0_0.l ++ [⟨a1, mx b 6000, 0, []⟩]⟩))))) else none
set_option maxHeartbeats 16000000 in
set_option maxRecDepth 100000 in
theorem flywheelref26_Probe_Start.none_ (g : Nat) (s : PrS) (a1 : Int) (w0 w : World) (hI : IsS45 w0 w g s) (hB : Below w0.heap.size w0 w) (hl : s.l.length < 1000000) (ho : a1 < 1 ∨ 17179869184 < a1 ∨ prOpen s = true) :
  Calls Try.prog 7 #[.pointer (some ⟨g, 0, none⟩), .int .i64 a1] w fun e w' => e = .returned (.int .i64 0) ∧ IsS45 w0 w' g s ∧ Below w0.heap.size w0 w' ∧ KeepR w w' := by
 have HS := Aside0.mk hI
 have HB := Aside0.mk hB
 clear hI hB
 by_cases h1 : a1 < 1
 ·have h1b : decide (a1 < 1) = true := decide_eq_true h1
  clear h1 ho
  go_enter Try.func7, Try.ntmps7
  go_wp2
  go_ret
  exact ⟨rfl, by repeat (first | exact HS.out | apply IsS45.drewN | apply IsS45.drew), by repeat (first | exact HB.out | apply pw_below_drewN | apply below_drew1), by repeat (first | exact KeepR.refl _ | refine KeepR.below ?_ (below_drew (Below.refl _ _)) | refine KeepR.below ?_ (pw_below_drewN (Below.refl _ _) _))⟩
 have h1b : decide (a1 < 1) = false := decide_eq_false h1
 by_cases h2 : 17179869184 < a1
 ·have h2b : decide (17179869184 < a1) = true := decide_eq_true h2
  clear h1 h2 ho
  go_enter Try.func7, Try.ntmps7
  go_wp2
  go_ret
  exact ⟨rfl, by repeat (first | exact HS.out | apply IsS45.drewN | apply IsS45.drew), by repeat (first | exact HB.out | apply pw_below_drewN | apply below_drew1), by repeat (first | exact KeepR.refl _ | refine KeepR.below ?_ (below_drew (Below.refl _ _)) | refine KeepR.below ?_ (pw_below_drewN (Below.refl _ _) _))⟩
 have h2b : decide (17179869184 < a1) = false := decide_eq_false h2
 have ho' : prOpen s = true := by rcases ho with h | h | h; exact absurd h h1; exact absurd h h2; exact h
 clear h1 h2 ho
 go_enter Try.func7, Try.ntmps7
 go_wp2_with (first | (go_at_call 18; (with_reducible refine (flywheelref26_Probe_open.calls g s w0 _ HS.out hl).mono ?_); rintro e w5 ⟨rfl, hd⟩; rw [ho']; obtain ⟨nd, rfl⟩ := hd))
 go_ret
 exact ⟨rfl, by repeat (first | exact HS.out | apply IsS45.drewN | apply IsS45.drew), by repeat (first | exact HB.out | apply pw_below_drewN | apply below_drew1), by repeat (first | exact KeepR.refl _ | refine KeepR.below ?_ (below_drew (Below.refl _ _)) | refine KeepR.below ?_ (pw_below_drewN (Below.refl _ _) _))⟩
set_option maxHeartbeats 16000000 in
set_option maxRecDepth 100000 in
theorem flywheelref26_Probe_Start.one (g : Nat) (s : PrS) (a1 bb : Int) (w0 w : World) (hI : IsS45 w0 w g s) (hB : Below w0.heap.size w0 w) (hl : s.l.length < 1000000) (h1 : ¬ a1 < 1) (h2 : ¬ 17179869184 < a1) (ho : prOpen s = false) (hA : flywheelref04_Bytes.f a1 15000 = some bb) :
  Calls Try.prog 7 #[.pointer (some ⟨g, 0, none⟩), .int .i64 a1] w fun e w' => e = .returned (.int .i64 ((s.l.length + 1 : Nat) : Int)) ∧ IsS45 w0 w' g ⟨s.b, s.l ++ [⟨a1, mx bb 6000, 0, []⟩]⟩ ∧ Below w0.heap.size w0 w' ∧ KeepR w w' := by
 have HS := Aside0.mk hI
 have HB0 := Aside0.mk hB
 have A1 := Aside0.mk hA
 have h1b : decide (a1 < 1) = false := decide_eq_false h1
 have h2b : decide (17179869184 < a1) = false := decide_eq_false h2
 obtain ⟨nb, hnb⟩ : ∃ nb : Int, (if bb < 6000 then 6000 else bb) = nb := ⟨_, rfl⟩
 have hnb2 : mx bb 6000 = nb := hnb
 rw [hnb2]
 clear hnb2
 obtain ⟨A, n, c, vs, g1, g2, g3, g4⟩ := hI
 obtain ⟨hn, _, hC⟩ := Kd.R_reads' g3
 rw [← hn] at hC
 have hg_0 : w.cell? ⟨g, 0, none⟩ = some (.slice A n c) := (blk_cell g1 0).trans rfl
 have G0 := Aside0.mk hg_0
 have HG := Aside0.mk g1
 have HALL := Aside0.mk (And.intro g2 (And.intro g3 (And.intro g4 (And.intro hn hC))))
 have HLN := Aside0.mk (show vs.length < 1000000 ∧ n = vs.length ∧ vs.length = s.l.length from ⟨by rw [g4.len]; exact hl, hn, g4.len⟩)
 have HC := Aside0.mk hC
 clear g1 g2 g3 g4 hn hC hB hA h1 h2
 go_enter Try.func7, Try.ntmps7
 go_wp2_with (first
  | (go_at_call 18; (with_reducible refine (flywheelref26_Probe_open.calls g s w0 _ HS.out hl).mono ?_); rintro e w5 ⟨rfl, hd⟩; rw [ho]; have HB : Aside0 (Below w.heap.size w w5) := ⟨by obtain ⟨nd, rfl⟩ := hd; exact pw_below_drewN (Below.refl _ _) _⟩; clear hd hg_0; have hg_0 := pw_cell_below HB.out G0.out)
  | ((with_reducible refine gate_dst (N := 16) rfl ?_); refine Kd.R_lit kC (w0 := w) w.heap.size 52 ?hg (N := 16) ?hd (xs := ([] : List (Int × Int × Int × (Option Addr × Nat × Nat)))) (inner := []) (ok := fun _ => True) (okp := fun _ => False) ?hr ?hp (fun _ h => h.elim) trivial ?hB ?hS (by decide) ?_; (case hd => rfl); (case hg => rfl); (case hr => first | (go_simp; done) | (go_simp; rfl)); (case hp => exact ⟨rfl, fun j p hj => by simp at hj⟩); (case hB => exact HB.out); (case hS => exact HB.out.size); intro v1 w6 HO1' hb6 hg6 hat6; have HO1 := Aside0.mk HO1'; clear HO1' hg6 hat6 HB hg_0; have HB := Aside0.mk hb6; clear hb6; have hg_0 := pw_cell_below HB.out G0.out)
  | ((with_reducible refine gate_builtin (b := .append) (xs := #[.tmp 16, .tmp 20]) rfl ?_); at_builtin; refine Kd.R_append_rows kC (Rr := kC.K w6) (w0 := w) w.heap.size rfl (.tmp 16) (.tmp 20) 43 52 (.agg #[.int .i64 0, .int .i64 0, .int .i64 0, .slice none 0 0]) 48 rfl Try.underlying43 (by kernel_rfl) rfl (by decide) (by omega) v1 [] vs A n c (fun _ => True) (fun _ => False) rfl rfl ?aO ?aR (fun x cs h => by rw [kC_open h]; exact kC_mkM _ _ _ _) (fun _ h => h.elim) ?aF ?aB ?aS ?aL ?_; (case aO => exact HO1.out); (case aR => exact Kd.C_below HC.out HB.out); (case aF => exact fun _ _ => trivial); (case aB => exact HB.out); (case aS => exact HB.out.size); (case aL => have := HLN.out; simp only [List.length_nil]; omega); intro v2 w7 HO2' hb7 hg7 hat7; rw [List.nil_append] at HO2'; have HO2 := Aside0.mk HO2'; clear HO1 HO2' hg7 hat7 HB hg_0; have HB := Aside0.mk hb7; clear hb7; have hg_0 := pw_cell_below HB.out G0.out)
  | ((with_reducible refine gate_callee (f := 19) rfl ?_); refine goesL_ (some 24) rfl rfl Try.func19 (by kernel_rfl) rfl #[.int .i64 a1, .int .i64 15000] rfl (by (try simp only [List.map_toArray, List.map_cons, List.map_nil]); first | done | rfl) ?_; (with_reducible refine (flywheelref04_Bytes.calls a1 15000 bb _ A1.out).mono ?_); rintro e w8 ⟨rfl, hb⟩; refine ⟨_, rfl, ?_⟩; have HO3 := Aside0.mk (Kd.R_below HO2.out hb); have HB8 := Aside0.mk (below_step HB.out hb); clear HO2 HB hb hg_0; have HB := HB8; clear HB8; have hg_0 := pw_cell_below HB.out G0.out)
  | ((with_reducible refine gate_builtin (b := .append) (xs := #[.tmp 21, .tmp 27]) rfl ?_); at_builtin; refine Kd.R_append kC (w0 := w) w.heap.size rfl (.tmp 21) (.tmp 27) 43 52 (.agg #[.int .i64 0, .int .i64 0, .int .i64 0, .slice none 0 0]) 48 rfl Try.underlying43 (by kernel_rfl) rfl (by decide) (by omega) v2 vs (a1, nb, 0, (none, 0, 0)) [.int .i64 a1, .int .i64 nb, .int .i64 0, .slice none 0 0] (fun _ => True) (fun _ => False) rfl rfl ?aP (fun _ h => h.elim) ?aF ?aO ?aB ?aS ?aL ?_; (case aP => exact kC_mkM _ _ _ _); (case aF => exact fun _ _ => trivial); (case aO => exact HO3.out); (case aB => exact HB.out); (case aS => exact HB.out.size); (case aL => have := HLN.out; omega); intro v3 w9 HO4' hb9 hg9 hat9; obtain ⟨A3, c3, e3⟩ := Kd.R_slice HO4'; subst e3; have HO4 := Aside0.mk HO4'; clear HO3 HO4' hg9 hat9 HB hg_0; have HB := Aside0.mk hb9; clear hb9; have hg_0 := pw_cell_below HB.out G0.out; have hf_0 := blk_frozen (blk_below HG.out HB.out) 0; have hx_ : (w9.setCell ⟨g, 0, none⟩ (.slice A3 (vs ++ [(a1, nb, 0, (none, 0, 0))]).length c3)).cell? ⟨g, 0, none⟩ = some (.slice A3 (vs ++ [(a1, nb, 0, (none, 0, 0))]).length c3) := (blk_cell (blk_put (cs' := #[.slice A3 (vs ++ [(a1, nb, 0, (none, 0, 0))]).length c3, .int .i64 s.b]) (blk_below HG.out HB.out) 0 (.slice A3 (vs ++ [(a1, nb, 0, (none, 0, 0))]).length c3) rfl) 0).trans rfl))
 go_ret
 obtain ⟨g2, g3, g4, hn, hC⟩ := HALL.out
 have hbg := blk_below HG.out HB.out
 have ho4 := HO4.out
 have hln : (vs ++ [(a1, nb, (0 : Int), ((none : Option Addr), (0 : Nat), (0 : Nat)))]).length = vs.length + 1 := by simp
 rw [hln] at ho4
 have h57 : ∀ (i : Nat) (cs : Array Value) (t : TypeId), w9.heap[i]? = some (.cells cs t (0, 0)) → t ≠ 45 → (w9.setCell ⟨g, 0, none⟩ (.slice A3 (vs.length + 1) c3)).heap[i]? = some (.cells cs t (0, 0)) := fun i cs t hi ht => (Below.heap_setCell w9 ⟨g, 0, none⟩ _ i (bkt hi hbg ht)).trans hi
 refine ⟨by rw [← HLN.out.2.2]; rfl, ⟨A3, vs.length + 1, c3, _, blk_put hbg 0 _ rfl, g2, row_types (Kd.R_lower ho4 HB0.out.size) (fun i cs hi => h57 i cs 52 hi (by decide)), ?_⟩, below_set (below_step HB0.out HB.out) g2, ((KeepR.refl w).below HB.out).set hbg (.inl rfl)⟩
 refine RelC.more (RelC.same (g4.same HB.out.size (fun i cs hi => blk_below hi HB.out)) (by simp [World.setCell]) (fun i cs hi => h57 i cs 57 hi (by decide))) ⟨rfl, rfl, rfl, Smp.nil _ _⟩
theorem flywheelref26_Probe_Start.calls (g : Nat) (s0_0 : PrS) (a1 : Int) (r1 : Int) (r2 : PrS) (w0 w : World) (hI : IsS45 w0 w g s0_0) (hB : Below w0.heap.size w0 w) (h : flywheelref26_Probe_Start.f s0_0 a1 = some (r1, r2)) :
  Calls Try.prog 7 #[.pointer (some ⟨g, 0, none⟩), .int .i64 a1] w fun e w' => e = .returned (.int .i64 r1) ∧ IsS45 w0 w' g r2 ∧ Below w0.heap.size w0 w' ∧ KeepR w w' := by
 unfold flywheelref26_Probe_Start.f at h
 by_cases hl : s0_0.l.length < 1000000
 rotate_left
 ·rw [if_neg hl] at h; cases h
 rw [if_pos hl] at h
 by_cases h1 : a1 < 1
 ·rw [if_pos h1] at h
  simp only [Option.some.injEq, Prod.mk.injEq] at h
  obtain ⟨rfl, rfl⟩ := h
  exact flywheelref26_Probe_Start.none_ g s0_0 a1 w0 w hI hB hl (.inl h1)
 rw [if_neg h1] at h
 by_cases h2 : 17179869184 < a1
 ·rw [if_pos h2] at h
  simp only [Option.some.injEq, Prod.mk.injEq] at h
  obtain ⟨rfl, rfl⟩ := h
  exact flywheelref26_Probe_Start.none_ g s0_0 a1 w0 w hI hB hl (.inr (.inl h2))
 rw [if_neg h2] at h
 by_cases ho : prOpen s0_0 = true
 ·rw [if_pos ho] at h
  simp only [Option.some.injEq, Prod.mk.injEq] at h
  obtain ⟨rfl, rfl⟩ := h
  exact flywheelref26_Probe_Start.none_ g s0_0 a1 w0 w hI hB hl (.inr (.inr ho))
 rw [if_neg ho] at h
 obtain ⟨bb, hA, h⟩ := Option.bind_eq_some_iff.mp h
 simp only [Option.some.injEq, Prod.mk.injEq] at h
 obtain ⟨rfl, rfl⟩ := h
 exact flywheelref26_Probe_Start.one g s0_0 a1 bb w0 w hI hB hl h1 h2 (by simpa using ho) hA
def probe_good.f (a0 : Int) (a1 : Int) : Option (Bool) := if a0 ≥ 1 then (if a0 ≤ 1500 then (if a1 ≥ 0 then (some (decide (a1 ≤ 1125899906842624))) else (some false)) else (some false)) else (some false)
set_option maxHeartbeats 8000000 in
set_option maxRecDepth 100000 in
theorem probe_good.calls (a0 : Int) (a1 : Int) (r : Bool) (w : World) (h : probe_good.f a0 a1 = some r) :
  Calls Try.prog 20 #[.int .i64 a0, .int .i64 a1] w fun e w' => e = .returned (.bool r) ∧ Drawn0 w w' := by
 have H : (if a0 ≥ 1 then (if a0 ≤ 1500 then (if a1 ≥ 0 then (some (decide (a1 ≤ 1125899906842624))) else (some false)) else (some false)) else (some false)) = some r := h
 clear h
 by_cases c3 : a0 ≥ 1
 ·rw [if_pos c3] at H
  have c3b0 : decide (1 ≤ a0) = true := decide_eq_true c3
  clear c3
  by_cases c4 : a0 ≤ 1500
  ·rw [if_pos c4] at H
   have c4b0 : decide (a0 ≤ 1500) = true := decide_eq_true c4
   clear c4
   by_cases c5 : a1 ≥ 0
   ·rw [if_pos c5] at H
    have c5b0 : decide (0 ≤ a1) = true := decide_eq_true c5
    clear c5
    obtain rfl := Option.some.inj H
    go_enter Try.func20, Try.ntmps20
    go_wp2
    go_ret
    exact ⟨by first | rfl | (simp; done) | (simp [*]; done), by repeat (first | exact Drawn0.refl _ | apply Drawn0.step)⟩
   ·rw [if_neg c5] at H
    have c5b0 : decide (0 ≤ a1) = false := decide_eq_false c5
    clear c5
    obtain rfl := Option.some.inj H
    go_enter Try.func20, Try.ntmps20
    go_wp2
    go_ret
    exact ⟨by first | rfl | (simp; done) | (simp [*]; done), by repeat (first | exact Drawn0.refl _ | apply Drawn0.step)⟩
  ·rw [if_neg c4] at H
   have c4b0 : decide (a0 ≤ 1500) = false := decide_eq_false c4
   clear c4
   obtain rfl := Option.some.inj H
   go_enter Try.func20, Try.ntmps20
   go_wp2
   go_ret
   exact ⟨by first | rfl | (simp; done) | (simp [*]; done), by repeat (first | exact Drawn0.refl _ | apply Drawn0.step)⟩
 ·rw [if_neg c3] at H
  have c3b0 : decide (1 ≤ a0) = false := decide_eq_false c3
  clear c3
  obtain rfl := Option.some.inj H
  go_enter Try.func20, Try.ntmps20
  go_wp2
  go_ret
  exact ⟨by first | rfl | (simp; done) | (simp [*]; done), by repeat (first | exact Drawn0.refl _ | apply Drawn0.step)⟩
def probe_Probe_Sent.f (s0_0 : PbS) (a1 : Int) (a2 : Int) (a3 : Int) : Option (Bool × PbS) := if a1 = 0 then some (false, s0_0) else (if a1 = s0_0.o then ((probe_good.f a2 a3).bind fun t => (if t = true then ((lk s0_0.l a1).bind fun x => (some (wrap64 (x.c2 - a2))).bind fun l => some (true, ⟨s0_0.n, if l ≤ 0 then 0 else s0_0.o, s0_0.b, up s0_0.l a1 { x with c2 := l }⟩)) else some (false, s0_0))) else some (false, s0_0))
set_option maxHeartbeats 16000000 in
set_option maxRecDepth 100000 in
theorem probe_Probe_Sent.calls (g : Nat) (s0_0 : PbS) (a1 : Int) (a2 : Int) (a3 : Int) (r1 : Bool) (r2 : PbS) (w0 w : World) (hI : IsS42 w0 w g s0_0) (hB : Below w0.heap.size w0 w) (h : probe_Probe_Sent.f s0_0 a1 a2 a3 = some (r1, r2)) :
  Calls Try.prog 8 #[.pointer (some ⟨g, 0, none⟩), .int .i64 a1, .int .i64 a2, .int .i64 a3] w fun e w' => e = .returned (.bool r1) ∧ IsS42 w0 w' g r2 ∧ Below w0.heap.size w0 w' ∧ KeepT w w' := by
 have hpn23_eql : ∀ (a_ : Addr) (W_ : World), (Go.binOp .eql 23 (.pointer (some a_)) (.pointer none)).run Try.prog W_ = .ok (.bool false) W_ := fun _ _ => by kernel_rfl
 have hpn47_eql : ∀ (a_ : Addr) (W_ : World), (Go.binOp .eql 47 (.pointer (some a_)) (.pointer none)).run Try.prog W_ = .ok (.bool false) W_ := fun _ _ => by kernel_rfl
 simp only [probe_Probe_Sent.f] at h
 by_cases c1 : a1 = 0
 ·rw [if_pos c1] at h
  simp only [Option.some.injEq, Prod.mk.injEq] at h
  obtain ⟨rfl, rfl⟩ := h
  have c1b : (a1 == 0) = true := beq_iff_eq.mpr c1
  clear c1
  have HS := Aside0.mk hI
  obtain ⟨m, L, h0, hL⟩ := hI
  have HB := Aside0.mk hB
  clear hB
  have hg_0 : w.cell? ⟨g, 0, none⟩ = some (.map (some m)) := (blk_cell h0.blk 0).trans rfl
  have hg_1 : w.cell? ⟨g, 1, none⟩ = some (.int .i64 s0_0.n) := (blk_cell h0.blk 1).trans rfl
  have hg_2 : w.cell? ⟨g, 2, none⟩ = some (.int .i64 s0_0.o) := (blk_cell h0.blk 2).trans rfl
  have hg_3 : w.cell? ⟨g, 3, none⟩ = some (.int .i64 s0_0.b) := (blk_cell h0.blk 3).trans rfl
  have hfg_0 := blk_frozen h0.blk 0
  have hfg_1 := blk_frozen h0.blk 1
  have hfg_2 := blk_frozen h0.blk 2
  have hfg_3 := blk_frozen h0.blk 3
  clear h0 hL
  go_enter Try.func8, Try.ntmps8
  go_wp2
  go_ret
  exact ⟨rfl, by repeat (first | exact HS.out | apply IsS42.alloc | apply IsS42.drewN | apply IsS42.drew), by repeat (first | exact HB.out | apply below_alloc | apply pw_below_drewN | apply below_drew1), by repeat (first | exact KeepT.refl _ | refine KeepT.below ?_ (below_drew (Below.refl _ _)) | refine KeepT.below ?_ (pw_below_drewN (Below.refl _ _) _))⟩
 ·rw [if_neg c1] at h
  have c1b : (a1 == 0) = false := beq_eq_false_iff_ne.mpr c1
  clear c1
  by_cases c2 : a1 = s0_0.o
  rotate_left
  ·rw [if_neg c2] at h
   simp only [Option.some.injEq, Prod.mk.injEq] at h
   obtain ⟨rfl, rfl⟩ := h
   have c2b : (a1 != s0_0.o) = true := bne_iff_ne.mpr c2
   clear c2
   have HS := Aside0.mk hI
   obtain ⟨m, L, h0, hL⟩ := hI
   have HB := Aside0.mk hB
   clear hB
   have hg_0 : w.cell? ⟨g, 0, none⟩ = some (.map (some m)) := (blk_cell h0.blk 0).trans rfl
   have hg_1 : w.cell? ⟨g, 1, none⟩ = some (.int .i64 s0_0.n) := (blk_cell h0.blk 1).trans rfl
   have hg_2 : w.cell? ⟨g, 2, none⟩ = some (.int .i64 s0_0.o) := (blk_cell h0.blk 2).trans rfl
   have hg_3 : w.cell? ⟨g, 3, none⟩ = some (.int .i64 s0_0.b) := (blk_cell h0.blk 3).trans rfl
   have hfg_0 := blk_frozen h0.blk 0
   have hfg_1 := blk_frozen h0.blk 1
   have hfg_2 := blk_frozen h0.blk 2
   have hfg_3 := blk_frozen h0.blk 3
   clear h0 hL
   go_enter Try.func8, Try.ntmps8
   go_wp2
   go_ret
   exact ⟨rfl, by repeat (first | exact HS.out | apply IsS42.alloc | apply IsS42.drewN | apply IsS42.drew), by repeat (first | exact HB.out | apply below_alloc | apply pw_below_drewN | apply below_drew1), by repeat (first | exact KeepT.refl _ | refine KeepT.below ?_ (below_drew (Below.refl _ _)) | refine KeepT.below ?_ (pw_below_drewN (Below.refl _ _) _))⟩
  rw [if_pos c2] at h
  have c2b : (a1 != s0_0.o) = false := bne_eq_false_iff_eq.mpr c2
  clear c2
  replace h := Option.bind_eq_some_iff.mp h
  obtain ⟨t, A1_, h⟩ := h
  have A1 := Aside0.mk A1_
  clear A1_
  cases t with
  | false =>
   rw [if_neg (by simp)] at h
   simp only [Option.some.injEq, Prod.mk.injEq] at h
   obtain ⟨rfl, rfl⟩ := h
   have HS := Aside0.mk hI
   obtain ⟨m, L, h0, hL⟩ := hI
   have HB := Aside0.mk hB
   clear hB
   have hg_0 : w.cell? ⟨g, 0, none⟩ = some (.map (some m)) := (blk_cell h0.blk 0).trans rfl
   have hg_1 : w.cell? ⟨g, 1, none⟩ = some (.int .i64 s0_0.n) := (blk_cell h0.blk 1).trans rfl
   have hg_2 : w.cell? ⟨g, 2, none⟩ = some (.int .i64 s0_0.o) := (blk_cell h0.blk 2).trans rfl
   have hg_3 : w.cell? ⟨g, 3, none⟩ = some (.int .i64 s0_0.b) := (blk_cell h0.blk 3).trans rfl
   have hfg_0 := blk_frozen h0.blk 0
   have hfg_1 := blk_frozen h0.blk 1
   have hfg_2 := blk_frozen h0.blk 2
   have hfg_3 := blk_frozen h0.blk 3
   clear h0 hL
   go_enter Try.func8, Try.ntmps8
   go_wp2_with (first | (go_at_call 20; (with_reducible refine (probe_good.calls a2 a3 _ _ A1.out).mono ?_); rintro e w' ⟨rfl, hd⟩; obtain ⟨n, rfl⟩ := hd.out))
   go_ret
   exact ⟨rfl, by repeat (first | exact HS.out | apply IsS42.alloc | apply IsS42.drewN | apply IsS42.drew), by repeat (first | exact HB.out | apply below_alloc | apply pw_below_drewN | apply below_drew1), by repeat (first | exact KeepT.refl _ | refine KeepT.below ?_ (below_drew (Below.refl _ _)) | refine KeepT.below ?_ (pw_below_drewN (Below.refl _ _) _))⟩
  | true =>
   rw [if_pos rfl] at h
   obtain ⟨x, hx, h⟩ := Option.bind_eq_some_iff.mp h
   replace h := Option.bind_eq_some_iff.mp h
   obtain ⟨l, hl_, h⟩ := h
   have hl := Option.some.inj hl_
   clear hl_
   obtain ⟨m, L, h0, hL⟩ := hI
   rw [hL] at hx
   obtain ⟨L1, c, L2, e_, hn⟩ := lk_split hx
   subst e_
   rw [hL] at h
   rw [rows_mid] at h0
   have HP := Aside0.mk (show PF w0 w w g m s0_0.n s0_0.o s0_0.b (keysOf (L1 ++ (a1, c, x) :: L2)) (rowsOf L1 ++ (c, cluC x) :: rowsOf L2) from ⟨h0, hB, KeepT.refl w⟩)
   have HF := Aside0.mk (keys_find (L2 := L2) (c := c) (x := x) hn)
   have hg_0 : w.cell? ⟨g, 0, none⟩ = some (.map (some m)) := (blk_cell h0.blk 0).trans rfl
   have hg_1 : w.cell? ⟨g, 1, none⟩ = some (.int .i64 s0_0.n) := (blk_cell h0.blk 1).trans rfl
   have hg_2 : w.cell? ⟨g, 2, none⟩ = some (.int .i64 s0_0.o) := (blk_cell h0.blk 2).trans rfl
   have hg_3 : w.cell? ⟨g, 3, none⟩ = some (.int .i64 s0_0.b) := (blk_cell h0.blk 3).trans rfl
   have hfg_0 := blk_frozen h0.blk 0
   have hfg_1 := blk_frozen h0.blk 1
   have hfg_2 := blk_frozen h0.blk 2
   have hfg_3 := blk_frozen h0.blk 3
   clear h0 hB
   by_cases c9 : l ≤ 0
   ·rw [if_pos c9] at h
    simp only [Option.some.injEq, Prod.mk.injEq] at h
    obtain ⟨rfl, rfl⟩ := h
    have c9b : decide (l ≤ 0) = true := decide_eq_true c9
    go_enter Try.func8, Try.ntmps8
    go_wp2_with (first | (go_at_call 20; (with_reducible refine (probe_good.calls a2 a3 _ _ A1.out).mono ?_); rintro e w5 ⟨rfl, hd⟩; have hb5 : Below w.heap.size w w5 := (by obtain ⟨n, rfl⟩ := hd.out; exact pw_below_drewN (Below.refl _ _) n); have n0_ := Aside0.mk (PF.below HP.out hb5); clear HP hd hb5; have HP := n0_; clear n0_; clear hg_0 hfg_0 hg_1 hfg_1 hg_2 hfg_2 hg_3 hfg_3; have hg_0 : w5.cell? ⟨g, 0, none⟩ = some (.map (some m)) := (blk_cell HP.out.1.blk 0).trans rfl; have hg_1 : w5.cell? ⟨g, 1, none⟩ = some (.int .i64 s0_0.n) := (blk_cell HP.out.1.blk 1).trans rfl; have hg_2 : w5.cell? ⟨g, 2, none⟩ = some (.int .i64 s0_0.o) := (blk_cell HP.out.1.blk 2).trans rfl; have hg_3 : w5.cell? ⟨g, 3, none⟩ = some (.int .i64 s0_0.b) := (blk_cell HP.out.1.blk 3).trans rfl; have hfg_0 := blk_frozen HP.out.1.blk 0; have hfg_1 := blk_frozen HP.out.1.blk 1; have hfg_2 := blk_frozen HP.out.1.blk 2; have hfg_3 := blk_frozen HP.out.1.blk 3; have hc_0 : w5.cell? ⟨c, 0, none⟩ = some (.int .i64 x.c0) := (blk_cell HP.out.1.cb 0).trans rfl; have hc_1 : w5.cell? ⟨c, 1, none⟩ = some (.int .i64 x.c1) := (blk_cell HP.out.1.cb 1).trans rfl; have hc_2 : w5.cell? ⟨c, 2, none⟩ = some (.int .i64 x.c2) := (blk_cell HP.out.1.cb 2).trans rfl; have hc_3 : w5.cell? ⟨c, 3, none⟩ = some (.int .i64 x.c3) := (blk_cell HP.out.1.cb 3).trans rfl; have hc_4 : w5.cell? ⟨c, 4, none⟩ = some (.int .i64 x.c4) := (blk_cell HP.out.1.cb 4).trans rfl; have hc_5 : w5.cell? ⟨c, 5, none⟩ = some (.int .i64 x.c5) := (blk_cell HP.out.1.cb 5).trans rfl; have hc_6 : w5.cell? ⟨c, 6, none⟩ = some (.int .i64 x.c6) := (blk_cell HP.out.1.cb 6).trans rfl; have hc_7 : w5.cell? ⟨c, 7, none⟩ = some (.int .i64 x.c7) := (blk_cell HP.out.1.cb 7).trans rfl; have hc_8 : w5.cell? ⟨c, 8, none⟩ = some (.int .i64 x.c8) := (blk_cell HP.out.1.cb 8).trans rfl; have hc_9 : w5.cell? ⟨c, 9, none⟩ = some (.int .i64 x.c9) := (blk_cell HP.out.1.cb 9).trans rfl; have hc_10 : w5.cell? ⟨c, 10, none⟩ = some (.int .i64 x.c10) := (blk_cell HP.out.1.cb 10).trans rfl; have hfc_0 := blk_frozen HP.out.1.cb 0; have hfc_1 := blk_frozen HP.out.1.cb 1; have hfc_2 := blk_frozen HP.out.1.cb 2; have hfc_3 := blk_frozen HP.out.1.cb 3; have hfc_4 := blk_frozen HP.out.1.cb 4; have hfc_5 := blk_frozen HP.out.1.cb 5; have hfc_6 := blk_frozen HP.out.1.cb 6; have hfc_7 := blk_frozen HP.out.1.cb 7; have hfc_8 := blk_frozen HP.out.1.cb 8; have hfc_9 := blk_frozen HP.out.1.cb 9; have hfc_10 := blk_frozen HP.out.1.cb 10; have hlk := look_in Try.underlying40 Try.underlying3 HP.out.1.mp HF.out false; have hne_ : (c = g) = False := eq_false (HP.out.1.ne_gq _ mid_mem); have hne2_ : (g = c) = False := eq_false (Ne.symm (HP.out.1.ne_gq _ mid_mem)); have hx1_ : (w5.setCell ⟨c, 2, none⟩ (.int .i64 l)).cell? ⟨c, 2, none⟩ = some (.int .i64 l) := (blk_cell (PF.setc HP.out 2 (.int .i64 l)).1.cb 2).trans rfl; have hx2_ := blk_frozen (PF.setc HP.out 2 (.int .i64 l)).1.cb 2; have hx3_ : (w5.setCell ⟨c, 2, none⟩ (.int .i64 l)).cell? ⟨g, 2, none⟩ = some (.int .i64 s0_0.o) := (blk_cell (PF.setc HP.out 2 (.int .i64 l)).1.blk 2).trans rfl; have hx4_ := blk_frozen (PF.setc HP.out 2 (.int .i64 l)).1.blk 2))
    have hF := (HP.out.setc 2 (.int .i64 l)).setg (f0' := s0_0.n) (f1' := 0) (f2' := s0_0.b) 2 (.int .i64 0) rfl
    go_ret
    exact ⟨rfl, hF.1.back hn rfl, hF.2.1, hF.2.2⟩
   ·rw [if_neg c9] at h
    simp only [Option.some.injEq, Prod.mk.injEq] at h
    obtain ⟨rfl, rfl⟩ := h
    have c9b : decide (l ≤ 0) = false := decide_eq_false c9
    go_enter Try.func8, Try.ntmps8
    go_wp2_with (first | (go_at_call 20; (with_reducible refine (probe_good.calls a2 a3 _ _ A1.out).mono ?_); rintro e w5 ⟨rfl, hd⟩; have hb5 : Below w.heap.size w w5 := (by obtain ⟨n, rfl⟩ := hd.out; exact pw_below_drewN (Below.refl _ _) n); have n0_ := Aside0.mk (PF.below HP.out hb5); clear HP hd hb5; have HP := n0_; clear n0_; clear hg_0 hfg_0 hg_1 hfg_1 hg_2 hfg_2 hg_3 hfg_3; have hg_0 : w5.cell? ⟨g, 0, none⟩ = some (.map (some m)) := (blk_cell HP.out.1.blk 0).trans rfl; have hg_1 : w5.cell? ⟨g, 1, none⟩ = some (.int .i64 s0_0.n) := (blk_cell HP.out.1.blk 1).trans rfl; have hg_2 : w5.cell? ⟨g, 2, none⟩ = some (.int .i64 s0_0.o) := (blk_cell HP.out.1.blk 2).trans rfl; have hg_3 : w5.cell? ⟨g, 3, none⟩ = some (.int .i64 s0_0.b) := (blk_cell HP.out.1.blk 3).trans rfl; have hfg_0 := blk_frozen HP.out.1.blk 0; have hfg_1 := blk_frozen HP.out.1.blk 1; have hfg_2 := blk_frozen HP.out.1.blk 2; have hfg_3 := blk_frozen HP.out.1.blk 3; have hc_0 : w5.cell? ⟨c, 0, none⟩ = some (.int .i64 x.c0) := (blk_cell HP.out.1.cb 0).trans rfl; have hc_1 : w5.cell? ⟨c, 1, none⟩ = some (.int .i64 x.c1) := (blk_cell HP.out.1.cb 1).trans rfl; have hc_2 : w5.cell? ⟨c, 2, none⟩ = some (.int .i64 x.c2) := (blk_cell HP.out.1.cb 2).trans rfl; have hc_3 : w5.cell? ⟨c, 3, none⟩ = some (.int .i64 x.c3) := (blk_cell HP.out.1.cb 3).trans rfl; have hc_4 : w5.cell? ⟨c, 4, none⟩ = some (.int .i64 x.c4) := (blk_cell HP.out.1.cb 4).trans rfl; have hc_5 : w5.cell? ⟨c, 5, none⟩ = some (.int .i64 x.c5) := (blk_cell HP.out.1.cb 5).trans rfl; have hc_6 : w5.cell? ⟨c, 6, none⟩ = some (.int .i64 x.c6) := (blk_cell HP.out.1.cb 6).trans rfl; have hc_7 : w5.cell? ⟨c, 7, none⟩ = some (.int .i64 x.c7) := (blk_cell HP.out.1.cb 7).trans rfl; have hc_8 : w5.cell? ⟨c, 8, none⟩ = some (.int .i64 x.c8) := (blk_cell HP.out.1.cb 8).trans rfl; have hc_9 : w5.cell? ⟨c, 9, none⟩ = some (.int .i64 x.c9) := (blk_cell HP.out.1.cb 9).trans rfl; have hc_10 : w5.cell? ⟨c, 10, none⟩ = some (.int .i64 x.c10) := (blk_cell HP.out.1.cb 10).trans rfl; have hfc_0 := blk_frozen HP.out.1.cb 0; have hfc_1 := blk_frozen HP.out.1.cb 1; have hfc_2 := blk_frozen HP.out.1.cb 2; have hfc_3 := blk_frozen HP.out.1.cb 3; have hfc_4 := blk_frozen HP.out.1.cb 4; have hfc_5 := blk_frozen HP.out.1.cb 5; have hfc_6 := blk_frozen HP.out.1.cb 6; have hfc_7 := blk_frozen HP.out.1.cb 7; have hfc_8 := blk_frozen HP.out.1.cb 8; have hfc_9 := blk_frozen HP.out.1.cb 9; have hfc_10 := blk_frozen HP.out.1.cb 10; have hlk := look_in Try.underlying40 Try.underlying3 HP.out.1.mp HF.out false; have hne_ : (c = g) = False := eq_false (HP.out.1.ne_gq _ mid_mem); have hne2_ : (g = c) = False := eq_false (Ne.symm (HP.out.1.ne_gq _ mid_mem)); have hx1_ : (w5.setCell ⟨c, 2, none⟩ (.int .i64 l)).cell? ⟨c, 2, none⟩ = some (.int .i64 l) := (blk_cell (PF.setc HP.out 2 (.int .i64 l)).1.cb 2).trans rfl; have hx2_ := blk_frozen (PF.setc HP.out 2 (.int .i64 l)).1.cb 2; have hx3_ : (w5.setCell ⟨c, 2, none⟩ (.int .i64 l)).cell? ⟨g, 2, none⟩ = some (.int .i64 s0_0.o) := (blk_cell (PF.setc HP.out 2 (.int .i64 l)).1.blk 2).trans rfl; have hx4_ := blk_frozen (PF.setc HP.out 2 (.int .i64 l)).1.blk 2))
    have hF := HP.out.setc 2 (.int .i64 l)
    go_ret
    exact ⟨rfl, hF.1.back hn rfl, hF.2.1, hF.2.2⟩
def flywheelref26_may.f (a0 : Int) (a1 : Int) : Option (Bool) := if a0 ≥ 1 then (if a0 ≤ 1500 then (if a1 ≥ 0 then (some (decide (a1 ≤ 1125899906842624))) else (some false)) else (some false)) else (some false)
set_option maxHeartbeats 8000000 in
set_option maxRecDepth 100000 in
theorem flywheelref26_may.calls (a0 : Int) (a1 : Int) (r : Bool) (w : World) (h : flywheelref26_may.f a0 a1 = some r) :
  Calls Try.prog 21 #[.int .i64 a0, .int .i64 a1] w fun e w' => e = .returned (.bool r) ∧ Drawn0 w w' := by
 have H : (if a0 ≥ 1 then (if a0 ≤ 1500 then (if a1 ≥ 0 then (some (decide (a1 ≤ 1125899906842624))) else (some false)) else (some false)) else (some false)) = some r := h
 clear h
 by_cases c3 : a0 ≥ 1
 ·rw [if_pos c3] at H
  have c3b0 : decide (1 ≤ a0) = true := decide_eq_true c3
  clear c3
  by_cases c4 : a0 ≤ 1500
  ·rw [if_pos c4] at H
   have c4b0 : decide (a0 ≤ 1500) = true := decide_eq_true c4
   clear c4
   by_cases c5 : a1 ≥ 0
   ·rw [if_pos c5] at H
    have c5b0 : decide (0 ≤ a1) = true := decide_eq_true c5
    clear c5
    obtain rfl := Option.some.inj H
    go_enter Try.func21, Try.ntmps21
    go_wp2
    go_ret
    exact ⟨by first | rfl | (simp; done) | (simp [*]; done), by repeat (first | exact Drawn0.refl _ | apply Drawn0.step)⟩
   ·rw [if_neg c5] at H
    have c5b0 : decide (0 ≤ a1) = false := decide_eq_false c5
    clear c5
    obtain rfl := Option.some.inj H
    go_enter Try.func21, Try.ntmps21
    go_wp2
    go_ret
    exact ⟨by first | rfl | (simp; done) | (simp [*]; done), by repeat (first | exact Drawn0.refl _ | apply Drawn0.step)⟩
  ·rw [if_neg c4] at H
   have c4b0 : decide (a0 ≤ 1500) = false := decide_eq_false c4
   clear c4
   obtain rfl := Option.some.inj H
   go_enter Try.func21, Try.ntmps21
   go_wp2
   go_ret
   exact ⟨by first | rfl | (simp; done) | (simp [*]; done), by repeat (first | exact Drawn0.refl _ | apply Drawn0.step)⟩
 ·rw [if_neg c3] at H
  have c3b0 : decide (1 ≤ a0) = false := decide_eq_false c3
  clear c3
  obtain rfl := Option.some.inj H
  go_enter Try.func21, Try.ntmps21
  go_wp2
  go_ret
  exact ⟨by first | rfl | (simp; done) | (simp [*]; done), by repeat (first | exact Drawn0.refl _ | apply Drawn0.step)⟩
def flywheelref26_Probe_Sent.f (s0_0 : PrS) (a1 : Int) (a2 : Int) (a3 : Int) : Option (Bool × PrS) := if s0_0.l.length < 1000000 then (match s0_0.l.getLast? with
 | none => some (false, s0_0)
 | some c => if c.se < c.by_ then (if a1 = (s0_0.l.length : Int) then ((flywheelref26_may.f a2 a3).bind fun t => if t = true then some (true, ⟨s0_0.b, s0_0.l.set (s0_0.l.length - 1) ⟨c.ra, c.by_, wrap64 (c.se + a2), c.l⟩⟩) else some (false, s0_0)) else some (false, s0_0)) else some (false, s0_0)) else none
set_option maxHeartbeats 16000000 in
set_option maxRecDepth 100000 in
theorem flywheelref26_Probe_Sent.shut (g : Nat) (s : PrS) (a1 a2 a3 : Int) (w0 w : World) (hI : IsS45 w0 w g s) (hB : Below w0.heap.size w0 w) (hl : s.l.length < 1000000) (ho : prOpen s = false) :
  Calls Try.prog 9 #[.pointer (some ⟨g, 0, none⟩), .int .i64 a1, .int .i64 a2, .int .i64 a3] w fun e w' => e = .returned (.bool false) ∧ IsS45 w0 w' g s ∧ Below w0.heap.size w0 w' ∧ KeepR w w' := by
 have HS := Aside0.mk hI
 have HB := Aside0.mk hB
 clear hI hB
 go_enter Try.func9, Try.ntmps9
 go_wp2_with (first | (go_at_call 18; (with_reducible refine (flywheelref26_Probe_open.calls g s w0 _ HS.out hl).mono ?_); rintro e w5 ⟨rfl, hd⟩; rw [ho]; obtain ⟨nd, rfl⟩ := hd))
 go_ret
 exact ⟨rfl, by repeat (first | exact HS.out | apply IsS45.drewN | apply IsS45.drew), by repeat (first | exact HB.out | apply pw_below_drewN | apply below_drew1), by repeat (first | exact KeepR.refl _ | refine KeepR.below ?_ (below_drew (Below.refl _ _)) | refine KeepR.below ?_ (pw_below_drewN (Below.refl _ _) _))⟩
set_option maxHeartbeats 16000000 in
set_option maxRecDepth 100000 in
theorem flywheelref26_Probe_Sent.other (g : Nat) (s : PrS) (a1 a2 a3 : Int) (w0 w : World) (hI : IsS45 w0 w g s) (hB : Below w0.heap.size w0 w) (hl : s.l.length < 1000000) (ho : prOpen s = true) (h1 : a1 ≠ (s.l.length : Int)) :
  Calls Try.prog 9 #[.pointer (some ⟨g, 0, none⟩), .int .i64 a1, .int .i64 a2, .int .i64 a3] w fun e w' => e = .returned (.bool false) ∧ IsS45 w0 w' g s ∧ Below w0.heap.size w0 w' ∧ KeepR w w' := by
 have HS := Aside0.mk hI
 have HB := Aside0.mk hB
 obtain ⟨A, n, c, vs, g1, g2, g3, g4⟩ := hI
 have hn : n = s.l.length := (Kd.R_reads' g3).1.trans g4.len
 have hg_0 : w.cell? ⟨g, 0, none⟩ = some (.slice A n c) := (blk_cell g1 0).trans rfl
 rw [← hn] at h1
 have h1b : (a1 != (n : Int)) = true := bne_iff_ne.mpr h1
 clear g1 g2 g3 g4 hn h1 hB
 go_enter Try.func9, Try.ntmps9
 go_wp2_with (first | (go_at_call 18; (with_reducible refine (flywheelref26_Probe_open.calls g s w0 _ HS.out hl).mono ?_); rintro e w5 ⟨rfl, hd⟩; rw [ho]; obtain ⟨nd, rfl⟩ := hd))
 go_ret
 exact ⟨rfl, by repeat (first | exact HS.out | apply IsS45.drewN | apply IsS45.drew), by repeat (first | exact HB.out | apply pw_below_drewN | apply below_drew1), by repeat (first | exact KeepR.refl _ | refine KeepR.below ?_ (below_drew (Below.refl _ _)) | refine KeepR.below ?_ (pw_below_drewN (Below.refl _ _) _))⟩
set_option maxHeartbeats 16000000 in
set_option maxRecDepth 100000 in
theorem flywheelref26_Probe_Sent.bad (g : Nat) (s : PrS) (a1 a2 a3 : Int) (w0 w : World) (hI : IsS45 w0 w g s) (hB : Below w0.heap.size w0 w) (hl : s.l.length < 1000000) (ho : prOpen s = true) (h1 : a1 = (s.l.length : Int)) (hm : flywheelref26_may.f a2 a3 = some false) :
  Calls Try.prog 9 #[.pointer (some ⟨g, 0, none⟩), .int .i64 a1, .int .i64 a2, .int .i64 a3] w fun e w' => e = .returned (.bool false) ∧ IsS45 w0 w' g s ∧ Below w0.heap.size w0 w' ∧ KeepR w w' := by
 have HS := Aside0.mk hI
 have HB := Aside0.mk hB
 have HM := Aside0.mk hm
 obtain ⟨A, n, c, vs, g1, g2, g3, g4⟩ := hI
 have hn : n = s.l.length := (Kd.R_reads' g3).1.trans g4.len
 have hg_0 : w.cell? ⟨g, 0, none⟩ = some (.slice A n c) := (blk_cell g1 0).trans rfl
 rw [← hn] at h1
 have h1b : (a1 != (n : Int)) = false := bne_eq_false_iff_eq.mpr h1
 clear g1 g2 g3 g4 hn h1 hB hm
 go_enter Try.func9, Try.ntmps9
 go_wp2_with (first | (go_at_call 18; (with_reducible refine (flywheelref26_Probe_open.calls g s w0 _ HS.out hl).mono ?_); rintro e w5 ⟨rfl, hd⟩; rw [ho]; obtain ⟨nd, rfl⟩ := hd) | (go_at_call 21; (with_reducible refine (flywheelref26_may.calls a2 a3 _ _ HM.out).mono ?_); rintro e w5 ⟨rfl, hd⟩; obtain ⟨nd2, rfl⟩ := hd))
 go_ret
 exact ⟨rfl, by repeat (first | exact HS.out | apply IsS45.drewN | apply IsS45.drew), by repeat (first | exact HB.out | apply pw_below_drewN | apply below_drew1), by repeat (first | exact KeepR.refl _ | refine KeepR.below ?_ (below_drew (Below.refl _ _)) | refine KeepR.below ?_ (pw_below_drewN (Below.refl _ _) _))⟩
theorem IsS45.put {w0 w W : World} {g b : Nat} {s : PrS} {n c : Nat} {vs : List (Int × Int × Int × (Option Addr × Nat × Nat))} {cs : Array Value} (h1 : w.heap[g]? = some (.cells #[.slice (some ⟨b, 0, none⟩) n c, .int .i64 s.b] 45 (0, 0))) (h2 : w0.heap.size ≤ g) (h4 : RelC w0 w vs s.l) (hb : w.heap[b]? = some (.cells cs 52 (0, 0))) (hg : w.grownBy W (some b)) {vs' : List (Int × Int × Int × (Option Addr × Nat × Nat))} {s' : PrS} (hr : Kd.R kC 52 W w0.heap.size (fun _ => True) (.slice (some ⟨b, 0, none⟩) n c) vs') (hs : s'.b = s.b) (h5 : RelC w0 W vs s.l → RelC w0 W vs' s'.l) : IsS45 w0 W g s' := by
 refine ⟨_, n, c, vs', ?_, h2, hr, h5 (h4.same hg.size (fun i cs' hi => ?_))⟩
 ·rw [hs]
  exact (hg.block g (blk_lt h1) (fun e => by injection e with e; subst e; rw [h1] at hb; injection hb with hb; injection hb with _ hb; exact absurd hb (by decide))).trans h1
 ·exact (hg.block i (blk_lt hi) (fun e => by injection e with e; subst e; rw [hi] at hb; injection hb with hb; injection hb with _ hb; exact absurd hb (by decide))).trans hi
set_option maxHeartbeats 16000000 in
set_option maxRecDepth 100000 in
theorem flywheelref26_Probe_Sent.done (g : Nat) (s : PrS) (a1 a2 a3 : Int) (x : RCl) (w0 w : World) (hI : IsS45 w0 w g s) (hB : Below w0.heap.size w0 w) (hl : s.l.length < 1000000) (ho : prOpen s = true) (hx : s.l.getLast? = some x) (h1 : a1 = (s.l.length : Int)) (hm : flywheelref26_may.f a2 a3 = some true) :
  Calls Try.prog 9 #[.pointer (some ⟨g, 0, none⟩), .int .i64 a1, .int .i64 a2, .int .i64 a3] w fun e w' => e = .returned (.bool true) ∧ IsS45 w0 w' g ⟨s.b, s.l.set (s.l.length - 1) ⟨x.ra, x.by_, wrap64 (x.se + a2), x.l⟩⟩ ∧ Below w0.heap.size w0 w' ∧ KeepR w w' := by
 have HS := Aside0.mk hI
 have HB := Aside0.mk hB
 have HM := Aside0.mk hm
 obtain ⟨A, n, c, vs, g1, g2, g3, g4⟩ := hI
 obtain ⟨hn, ji, hji, hj1, p0, q0, v, hv, hr⟩ := flywheelref26_Probe_open.last g3 g4 hl hx
 obtain ⟨b, e1, hbge, ⟨cs, hbk⟩, hbf, hx0, hx1, hx2, hx3⟩ := own_kC g3 ji p0 q0 hv
 subst e1
 have hbf2 := hbf 2
 have hg_0 : w.cell? ⟨g, 0, none⟩ = some (.slice (some ⟨b, 0, none⟩) n c) := (blk_cell g1 0).trans rfl
 rw [hr.2.2.1] at hx2
 rw [← hn] at h1
 subst h1
 have HALL := Aside0.mk (And.intro g1 (And.intro g2 (And.intro g3 (And.intro g4 (And.intro hn (And.intro hj1 (And.intro p0 (And.intro q0 (And.intro hv (And.intro hr (And.intro hbge hbk)))))))))))
 clear g1 g2 g3 g4 hn hB hm hx0 hx1 hx3 hbf hr hv hbge hbk hx hj1
 replace p0 := eq_true p0
 replace q0 := eq_true q0
 go_enter Try.func9, Try.ntmps9
 go_wp2_with (first | (go_at_call 18; (with_reducible refine (flywheelref26_Probe_open.calls g s w0 _ HS.out hl).mono ?_); rintro e w5 ⟨rfl, hd⟩; rw [ho]; obtain ⟨nd, rfl⟩ := hd) | (go_at_call 21; (with_reducible refine (flywheelref26_may.calls a2 a3 _ _ HM.out).mono ?_); rintro e w5 ⟨rfl, hd⟩; obtain ⟨nd2, rfl⟩ := hd))
 go_ret
 obtain ⟨g1, g2, g3, g4, hn, hj1, p1, q1, hv, hr, hbge, hbk⟩ := HALL.out
 have hd : Below w.heap.size w (w.drewN (nd + nd2)) := pw_below_drewN (Below.refl _ _) _
 obtain ⟨hR, hG⟩ := put_kC (Kd.R_below g3 hd) ji p1 q1 (v' := (v.1, v.2.1, wrap64 (x.se + a2), v.2.2.2)) hv 2 (.int .i64 (wrap64 (x.se + a2))) rfl rfl (by omega)
 have hb' := blk_below hbk hd
 have hji2 : s.l.length - 1 = ji.toNat := by omega
 refine ⟨rfl, IsS45.put (blk_below g1 hd) g2 (g4.same hd.size (fun i cs' hi => blk_below hi hd)) hb' hG hR rfl (fun h => ?_), below_set (pw_below_drewN HB.out _) hbge, KeepR.grown ((KeepR.refl w).below hd) hG hb' (.inr (.inl rfl))⟩
 rw [hji2]
 exact h.set (v := (v.1, v.2.1, wrap64 (x.se + a2), v.2.2.2)) (x := ⟨x.ra, x.by_, wrap64 (x.se + a2), x.l⟩) ⟨hr.1, hr.2.1, rfl, (hr.2.2.2.below hd).same hG.size (fun i cs' hi => (hG.block i (blk_lt hi) (fun e => by injection e with e; subst e; rw [hi] at hb'; injection hb' with hb'; injection hb' with _ hb'; exact absurd hb' (by decide))).trans hi)⟩ _
theorem flywheelref26_Probe_Sent.calls (g : Nat) (s0_0 : PrS) (a1 a2 a3 : Int) (r1 : Bool) (r2 : PrS) (w0 w : World) (hI : IsS45 w0 w g s0_0) (hB : Below w0.heap.size w0 w) (h : flywheelref26_Probe_Sent.f s0_0 a1 a2 a3 = some (r1, r2)) :
  Calls Try.prog 9 #[.pointer (some ⟨g, 0, none⟩), .int .i64 a1, .int .i64 a2, .int .i64 a3] w fun e w' => e = .returned (.bool r1) ∧ IsS45 w0 w' g r2 ∧ Below w0.heap.size w0 w' ∧ KeepR w w' := by
 unfold flywheelref26_Probe_Sent.f at h
 by_cases hl : s0_0.l.length < 1000000
 rotate_left
 ·rw [if_neg hl] at h; cases h
 rw [if_pos hl] at h
 cases hq : s0_0.l.getLast? with
 | none =>
  rw [hq] at h
  simp only [Option.some.injEq, Prod.mk.injEq] at h
  obtain ⟨rfl, rfl⟩ := h
  exact flywheelref26_Probe_Sent.shut g s0_0 a1 a2 a3 w0 w hI hB hl (by unfold prOpen; rw [hq])
 | some c =>
  rw [hq] at h
  simp only at h
  by_cases hc : c.se < c.by_
  ·rw [if_pos hc] at h
   have ho : prOpen s0_0 = true := by unfold prOpen; rw [hq]; exact decide_eq_true hc
   by_cases h1 : a1 = (s0_0.l.length : Int)
   ·rw [if_pos h1] at h
    obtain ⟨t, hm, h⟩ := Option.bind_eq_some_iff.mp h
    cases t with
    | false =>
     rw [if_neg (by simp)] at h
     simp only [Option.some.injEq, Prod.mk.injEq] at h
     obtain ⟨rfl, rfl⟩ := h
     exact flywheelref26_Probe_Sent.bad g s0_0 a1 a2 a3 w0 w hI hB hl ho h1 hm
    | true =>
     rw [if_pos rfl] at h
     simp only [Option.some.injEq, Prod.mk.injEq] at h
     obtain ⟨rfl, rfl⟩ := h
     exact flywheelref26_Probe_Sent.done g s0_0 a1 a2 a3 c w0 w hI hB hl ho hq h1 hm
   ·rw [if_neg h1] at h
    simp only [Option.some.injEq, Prod.mk.injEq] at h
    obtain ⟨rfl, rfl⟩ := h
    exact flywheelref26_Probe_Sent.other g s0_0 a1 a2 a3 w0 w hI hB hl ho h1
  ·rw [if_neg hc] at h
   simp only [Option.some.injEq, Prod.mk.injEq] at h
   obtain ⟨rfl, rfl⟩ := h
   exact flywheelref26_Probe_Sent.shut g s0_0 a1 a2 a3 w0 w hI hB hl (by unfold prOpen; rw [hq]; exact decide_eq_false hc)
def units_Rate.f (a0 : Int) (a1 : Int) : Option (Int) := (muldiv_Do.f a0 8000000 a1 1).bind fun t137 => (some t137)
set_option maxHeartbeats 8000000 in
set_option maxRecDepth 100000 in
theorem units_Rate.calls (a0 : Int) (a1 : Int) (r : Int) (w : World) (h : units_Rate.f a0 a1 = some r) :
  Calls Try.prog 27 #[.int .i64 a0, .int .i64 a1] w fun e w' => e = .returned (.int .i64 r) ∧ Below w.heap.size w w' := by
 have HB := Aside0.mk (Below.refl w.heap.size w)
 have H : ((muldiv_Do.f a0 8000000 a1 1).bind fun t137 => (some t137)) = some r := h
 clear h
 replace H := Option.bind_eq_some_iff.mp H
 obtain ⟨t137, A30, H⟩ := H
 replace H : (some t137) = some r := H
 have A3 := Aside0.mk A30
 clear A30
 obtain rfl := Option.some.inj H
 go_enter Try.func27, Try.ntmps27
 go_wp2_with (first | ((with_reducible refine gate_callee (f := 29) rfl ?_); refine goesL_ (some 7) rfl rfl Try.func29 (by kernel_rfl) rfl #[.int .i64 a0, .int .i64 8000000, .int .i64 a1, .int .i64 1] rfl (by (try simp only [List.map_toArray, List.map_cons, List.map_nil]); first | done | rfl | (simp only [List.length_drop, List.length_take]; rfl)) ?_; (with_reducible refine (muldiv_Do.calls a0 8000000 a1 1 t137 _ A3.out).mono ?_); rintro e w4 ⟨rfl, hb⟩; refine ⟨_, rfl, ?_⟩; have n0_ := Aside0.mk (below_step (by repeat (first | (with_reducible first | exact HB.out | apply below_alloc | apply pw_below_drewN | apply below_drew1) | exact HB.out)) hb); clear HB; have HB := n0_; clear n0_; (try clear hb); (try clear hb2); (try clear hk); (try clear hi)))
 go_ret
 exact ⟨by first | rfl | (simp [errW_none, errW_some] <;> rfl) | (simp [*, errW_none, errW_some] <;> rfl), by repeat (first | (with_reducible first | exact HB.out | apply below_alloc | apply pw_below_drewN | apply below_drew1) | exact HB.out)⟩
end Go.Proofs.Ytdddpmmpfemibaa.P
end

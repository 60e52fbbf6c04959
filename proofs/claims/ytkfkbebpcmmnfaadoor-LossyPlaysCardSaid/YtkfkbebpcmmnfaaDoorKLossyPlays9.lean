-- PUT TOGETHER by a program of this session: of the claim's texts, what is used
import Derived.Test.YtkfkbebpcmmnfaaDoorKLossyPlays7
import Derived.Test.YtkfkbebpcmmnfaaDoorKLossyPlays8
section
namespace Go.Proofs.YtkfkbebpcmmnfaaDoor.P
open Go.RowKit Go.Proofs.YtkfkbebpcmmnfaaDoorW.PrintWords Go.Proofs.YtkfkbebpcmmnfaaDoorW.PrintLast Go.Proofs.YtkfkbebpcmmnfaaDoorW.PrintMore
attribute [local go_sem] max2_int min2_int max_two min_two max_three min_three max_four min_four   -- for this text's walks alone
set_option linter.unusedVariables false
set_option linter.unusedSimpArgs false
mutual
def flywheelref02_Did.j0 : Nat → Int → Int → Int → Int → Bool → Option (Int × Bool)
 | 0, _, _, _, _, _ => none
 | k + 1, x0, x1, x2, x3, x23 => if x23 = true then (some (0, false)) else ((flywheelref02_size.f x0).bind fun t194 => ((flywheelref02_size.f x1).bind fun t195 => ((flywheelref02_times.f t194 t195).bind fun bt196 => ((flywheelref02_size.f x2).bind fun t198 => ((flywheelref02_part.f k bt196.1 bt196.2 t198).bind fun bt199 => (if x0 < 0 then (if x1 < 0 then (if x2 < 0 then (flywheelref02_Did.j1 k x2 x3 true bt199.1 bt199.2.1 bt199.2.2) else (flywheelref02_Did.j1 k x2 x3 false bt199.1 bt199.2.1 bt199.2.2)) else (if x2 < 0 then (flywheelref02_Did.j1 k x2 x3 false bt199.1 bt199.2.1 bt199.2.2) else (flywheelref02_Did.j1 k x2 x3 true bt199.1 bt199.2.1 bt199.2.2))) else (if x1 < 0 then (if x2 < 0 then (flywheelref02_Did.j1 k x2 x3 false bt199.1 bt199.2.1 bt199.2.2) else (flywheelref02_Did.j1 k x2 x3 true bt199.1 bt199.2.1 bt199.2.2)) else (if x2 < 0 then (flywheelref02_Did.j1 k x2 x3 true bt199.1 bt199.2.1 bt199.2.2) else (flywheelref02_Did.j1 k x2 x3 false bt199.1 bt199.2.1 bt199.2.2)))))))))
def flywheelref02_Did.j1 : Nat → Int → Int → Bool → Int → Bool → Int → Option (Int × Bool)
 | 0, _, _, _, _, _, _ => none
 | k + 1, x2, x3, x10, x203000, x203001, x203002 => if x203002 = 0 then (flywheelref02_Did.j2 k x10 false x203000 x203001 x203002) else (if x3 = 1 then (flywheelref02_Did.j2 k x10 x10 x203000 x203001 x203002) else (if x3 = 3 then (flywheelref02_Did.j2 k x10 (!x10) x203000 x203001 x203002) else (if x10 = true then ((flywheelref02_size.f x2).bind fun t203 => (flywheelref02_Did.j2 k x10 (decide (x203002 > (IntKind.u64.wrap (t203 - x203002)))) x203000 x203001 x203002)) else ((flywheelref02_size.f x2).bind fun t204 => (flywheelref02_Did.j2 k x10 (decide (x203002 ≥ (IntKind.u64.wrap (t204 - x203002)))) x203000 x203001 x203002)))))
def flywheelref02_Did.j2 : Nat → Bool → Bool → Int → Bool → Int → Option (Int × Bool)
 | 0, _, _, _, _, _ => none
 | k + 1, x10, x11, x203000, x203001, x203002 => if x11 = true then (if x203001 = true then (flywheelref02_Did.j3 k x10 (IntKind.u64.wrap (x203000 + 1)) true) else (flywheelref02_Did.j3 k x10 (IntKind.u64.wrap (x203000 + 1)) ((IntKind.u64.wrap (x203000 + 1)) == 0))) else (flywheelref02_Did.j3 k x10 x203000 x203001)
def flywheelref02_Did.j3 : Nat → Bool → Int → Bool → Option (Int × Bool)
 | 0, _, _, _ => none
 | k + 1, x10, x12, x13 => if x10 = true then (if x13 = true then (flywheelref02_Did.j4 k x12 true) else (flywheelref02_Did.j4 k x12 (decide (x12 > 9223372036854775808)))) else (if x13 = true then (some (9223372036854775807, false)) else (if x12 > 9223372036854775807 then (some (9223372036854775807, false)) else (some (wrap64 (x12), true))))
def flywheelref02_Did.j4 : Nat → Int → Bool → Option (Int × Bool)
 | 0, _, _ => none
 | k + 1, x12, x89 => if x89 = true then (some ((-9223372036854775808), false)) else (some (wrap64 (-(wrap64 (x12))), true))
end
def flywheelref02_Did.f (k : Nat) (a0 : Int) (a1 : Int) (a2 : Int) (a3 : Int) : Option (Int × Bool) := if a2 = 0 then (flywheelref02_Did.j0 k a0 a1 a2 a3 true) else (if a3 < 1 then (flywheelref02_Did.j0 k a0 a1 a2 a3 true) else (flywheelref02_Did.j0 k a0 a1 a2 a3 (decide (a3 > 3))))
set_option maxHeartbeats 8000000 in
set_option maxRecDepth 100000 in
theorem flywheelref02_Did.calls (k : Nat) (a0 : Int) (a1 : Int) (a2 : Int) (a3 : Int) (r1 : Int) (r2 : Bool) (w : World) (h : flywheelref02_Did.f k a0 a1 a2 a3 = some (r1, r2)) :
  Calls Tryd.prog 20 #[.int .i64 a0, .int .i64 a1, .int .i64 a2, .int .i64 a3] w fun e w' => e = .returned (.agg #[.int .i64 r1, .bool r2]) ∧ Below w.heap.size w w' := by
 have hu53 := Tryd.underlying53
 have hu66 := Tryd.underlying66
 have HB := Aside0.mk (Below.refl w.heap.size w)
 have H : (if a2 = 0 then (flywheelref02_Did.j0 k a0 a1 a2 a3 true) else (if a3 < 1 then (flywheelref02_Did.j0 k a0 a1 a2 a3 true) else (flywheelref02_Did.j0 k a0 a1 a2 a3 (decide (a3 > 3))))) = some (r1, r2) := h
 clear h
 have HC5 := Aside0.mk H
 clear H
 go_enter Tryd.func20, Tryd.ntmps20
 go_upto_region 1 with (first | ((with_reducible refine gate_dst (N := 8) rfl ?_); refine box_event ?hg (N := 8) ?hd (cs := #[.int .i64 0, .bool false]) (t := 53) ?hr ?_; (case hd => rfl); (case hg => rfl); (case hr => first | (go_simp; done) | (go_simp; rfl)); intro gb193 hg w6 hbox hb; have n0_ := Aside0.mk (below_step (by repeat (first | (with_reducible first | exact HB.out | apply below_alloc | apply pw_below_drewN | apply below_drew1) | exact HB.out)) hb); have n1_ := Aside0.mk (hbox); have n2_ := Aside0.mk ((by rw [hg]; exact (below_size (by repeat (first | (with_reducible first | exact HB.out | apply below_alloc | apply pw_below_drewN | apply below_drew1) | exact HB.out))) : w.heap.size ≤ gb193)); have n3_ := Aside0.mk ((by rw [hg]; exact (below_size (by repeat (first | (with_reducible first | exact HB.out | apply below_alloc | apply pw_below_drewN | apply below_drew1) | exact HB.out))) : w.heap.size ≤ gb193)); clear HB; have HB := n0_; have BK193 := n1_; have GW193 := n2_; have GE193 := n3_; clear n0_ n1_ n2_ n3_; clear hb hbox hg))
 repeat (go_quiet (first | ((with_reducible refine gate_dst (N := 8) rfl ?_); refine box_event ?hg (N := 8) ?hd (cs := #[.int .i64 0, .bool false]) (t := 53) ?hr ?_; (case hd => rfl); (case hg => rfl); (case hr => first | (go_simp; done) | (go_simp; rfl)); intro gb193 hg w6 hbox hb; have n0_ := Aside0.mk (below_step (by repeat (first | (with_reducible first | exact HB.out | apply below_alloc | apply pw_below_drewN | apply below_drew1) | exact HB.out)) hb); have n1_ := Aside0.mk (hbox); have n2_ := Aside0.mk ((by rw [hg]; exact (below_size (by repeat (first | (with_reducible first | exact HB.out | apply below_alloc | apply pw_below_drewN | apply below_drew1) | exact HB.out))) : w.heap.size ≤ gb193)); have n3_ := Aside0.mk ((by rw [hg]; exact (below_size (by repeat (first | (with_reducible first | exact HB.out | apply below_alloc | apply pw_below_drewN | apply below_drew1) | exact HB.out))) : w.heap.size ≤ gb193)); clear HB; have HB := n0_; have BK193 := n1_; have GW193 := n2_; have GE193 := n3_; clear n0_ n1_ n2_ n3_; clear hb hbox hg)); go_upto_region 1 with (first | ((with_reducible refine gate_dst (N := 8) rfl ?_); refine box_event ?hg (N := 8) ?hd (cs := #[.int .i64 0, .bool false]) (t := 53) ?hr ?_; (case hd => rfl); (case hg => rfl); (case hr => first | (go_simp; done) | (go_simp; rfl)); intro gb193 hg w6 hbox hb; have n0_ := Aside0.mk (below_step (by repeat (first | (with_reducible first | exact HB.out | apply below_alloc | apply pw_below_drewN | apply below_drew1) | exact HB.out)) hb); have n1_ := Aside0.mk (hbox); have n2_ := Aside0.mk ((by rw [hg]; exact (below_size (by repeat (first | (with_reducible first | exact HB.out | apply below_alloc | apply pw_below_drewN | apply below_drew1) | exact HB.out))) : w.heap.size ≤ gb193)); have n3_ := Aside0.mk ((by rw [hg]; exact (below_size (by repeat (first | (with_reducible first | exact HB.out | apply below_alloc | apply pw_below_drewN | apply below_drew1) | exact HB.out))) : w.heap.size ≤ gb193)); clear HB; have HB := n0_; have BK193 := n1_; have GW193 := n2_; have GE193 := n3_; clear n0_ n1_ n2_ n3_; clear hb hbox hg)))
 (try simp only [Act.put, List.setIfInBounds_toArray, List.set_cons_zero, List.set_cons_succ])
 go_cut [23] (fun v23 wc => ∃ (kq : Nat) (x23_4 : Bool), v23 = .bool x23_4 ∧ Aside0 (flywheelref02_Did.j0 kq a0 a1 a2 a3 x23_4 = some (r1, r2)) ∧ Aside0 (kq ≤ k) ∧ Aside0 (wc.heap[gb193]? = some (.cells #[.int .i64 0, .bool false] 53 (0, 0))) ∧ Aside0 (Below w.heap.size w wc))
 case first =>
  have H := HC5.out
  clear HC5
  by_cases c7 : a2 = 0
  ·rw [if_pos c7] at H
   have c7b0 : (a2 == 0) = true := beq_iff_eq.mpr c7
   have c7b1 : (a2 != 0) = false := bne_eq_false_iff_eq.mpr c7
   clear c7
   (first | rw [c7b0] | (simp only [i64_w, i32_w]; rw [c7b0]) | skip)
   have H' := Aside0.mk H
   clear H
   go_wp2
   repeat (go_quiet (fail); try go_wp2)
   go_meet
   case rel => exact ⟨_, (true), (by first | rfl | (simp; done) | (simp [*]; done)), H', ⟨by first | omega | exact Nat.le_refl _⟩, ⟨by (with_reducible repeat (first | refine blk_drewN ?_ _ | refine blk_drew ?_ | refine blk_alloc ?_ _)); exact BK193.out⟩, ⟨by repeat (first | (with_reducible first | exact HB.out | apply below_alloc | apply pw_below_drewN | apply below_drew1 | refine below_set ?_ GE193.out) | exact HB.out)⟩⟩
  ·rw [if_neg c7] at H
   have c7b0 : (a2 == 0) = false := beq_eq_false_iff_ne.mpr c7
   have c7b1 : (a2 != 0) = true := bne_iff_ne.mpr c7
   (first | rw [c7b0] | (simp only [i64_w, i32_w]; rw [c7b0]) | skip)
   by_cases c8 : a3 < 1
   ·rw [if_pos c8] at H
    have c8b0 : decide (a3 < 1) = true := decide_eq_true c8
    clear c8
    have H' := Aside0.mk H
    clear H
    go_wp2
    repeat (go_quiet (fail); try go_wp2)
    go_meet
    case rel => exact ⟨_, (true), (by first | rfl | (simp; done) | (simp [*]; done)), H', ⟨by first | omega | exact Nat.le_refl _⟩, ⟨by (with_reducible repeat (first | refine blk_drewN ?_ _ | refine blk_drew ?_ | refine blk_alloc ?_ _)); exact BK193.out⟩, ⟨by repeat (first | (with_reducible first | exact HB.out | apply below_alloc | apply pw_below_drewN | apply below_drew1 | refine below_set ?_ GE193.out) | exact HB.out)⟩⟩
   ·rw [if_neg c8] at H
    have c8b0 : decide (a3 < 1) = false := decide_eq_false c8
    clear c8
    have H' := Aside0.mk H
    clear H
    go_wp2
    repeat (go_quiet (fail); try go_wp2)
    go_meet
    case rel => exact ⟨_, (decide (a3 > 3)), (by first | rfl | (simp; done) | (simp [*]; done)), H', ⟨by first | omega | exact Nat.le_refl _⟩, ⟨by (with_reducible repeat (first | refine blk_drewN ?_ _ | refine blk_drew ?_ | refine blk_alloc ?_ _)); exact BK193.out⟩, ⟨by repeat (first | (with_reducible first | exact HB.out | apply below_alloc | apply pw_below_drewN | apply below_drew1 | refine below_set ?_ GE193.out) | exact HB.out)⟩⟩
 case rest =>
  clear HC5
  try clear c2
  try clear p2
  try clear c7
  try clear c7b0
  try clear c7b1
  try clear c8
  try clear c8b0
  obtain ⟨kq, x23_4, rfl, HA, HJ4, BK193, HB⟩ := hcut
  cases kq with
  | zero => exact absurd HA.out (by simp [flywheelref02_Did.j0])
  | succ kj4 =>
   have H := HA.out
   clear HA
   simp only [flywheelref02_Did.j0] at H
   by_cases c9 : x23_4 = true
   ·subst c9
    have H1 : (some (0, false)) = some (r1, r2) := by rw [if_pos rfl] at H; exact H
    clear H
    have H := H1
    clear H1
    simp only [Option.some.injEq, Prod.mk.injEq] at H
    obtain ⟨rfl, rfl⟩ := H
    have hcz10_0 : wc.cell? ⟨gb193, 0, none⟩ = some (.int .i64 0) := (blk_cell BK193.out 0).trans rfl
    have hcz10_1 : wc.cell? ⟨gb193, 1, none⟩ = some (.bool false) := (blk_cell BK193.out 1).trans rfl
    have hfz10_0 := blk_frozen BK193.out 0
    have hfz10_1 := blk_frozen BK193.out 1
    go_wp2
    repeat (go_quiet (fail); try go_wp2)
    refine bodyPost_ret (results_cell_row rfl _ _ gb193 53 #[.int .i64 0, .bool false] (0, 0) _ rfl (by (with_reducible repeat (first | refine blk_drewN ?_ _ | refine blk_drew ?_ | refine blk_alloc ?_ _)); refine blk_put (cs := #[.int .i64 0, .bool false]) ?_ 1 _ rfl; (with_reducible repeat (first | refine blk_drewN ?_ _ | refine blk_drew ?_ | refine blk_alloc ?_ _)); refine blk_put (cs := #[.int .i64 0, .bool false]) ?_ 0 _ rfl; (with_reducible repeat (first | refine blk_drewN ?_ _ | refine blk_drew ?_ | refine blk_alloc ?_ _)); exact BK193.out) Tryd.underlying53 rfl (by kernel_rfl)) rfl ?_
    exact ⟨by first | rfl | (simp [errW_none, errW_some] <;> rfl) | (simp [*, errW_none, errW_some] <;> rfl), by repeat (first | (with_reducible first | exact HB.out | apply below_alloc | apply pw_below_drewN | apply below_drew1 | refine below_set ?_ GE193.out) | exact HB.out)⟩
   ·replace c9 := Bool.eq_false_iff.mpr c9
    subst c9
    have H1 : ((flywheelref02_size.f a0).bind fun t194 => ((flywheelref02_size.f a1).bind fun t195 => ((flywheelref02_times.f t194 t195).bind fun bt196 => ((flywheelref02_size.f a2).bind fun t198 => ((flywheelref02_part.f kj4 bt196.1 bt196.2 t198).bind fun bt199 => (if a0 < 0 then (if a1 < 0 then (if a2 < 0 then (flywheelref02_Did.j1 kj4 a2 a3 true bt199.1 bt199.2.1 bt199.2.2) else (flywheelref02_Did.j1 kj4 a2 a3 false bt199.1 bt199.2.1 bt199.2.2)) else (if a2 < 0 then (flywheelref02_Did.j1 kj4 a2 a3 false bt199.1 bt199.2.1 bt199.2.2) else (flywheelref02_Did.j1 kj4 a2 a3 true bt199.1 bt199.2.1 bt199.2.2))) else (if a1 < 0 then (if a2 < 0 then (flywheelref02_Did.j1 kj4 a2 a3 false bt199.1 bt199.2.1 bt199.2.2) else (flywheelref02_Did.j1 kj4 a2 a3 true bt199.1 bt199.2.1 bt199.2.2)) else (if a2 < 0 then (flywheelref02_Did.j1 kj4 a2 a3 true bt199.1 bt199.2.1 bt199.2.2) else (flywheelref02_Did.j1 kj4 a2 a3 false bt199.1 bt199.2.1 bt199.2.2))))))))) = some (r1, r2) := by rw [if_neg (show ¬ (false = true) by decide)] at H; exact H
    clear H
    have H := H1
    clear H1
    replace H := Option.bind_eq_some_iff.mp H
    obtain ⟨t194, A110, H⟩ := H
    replace H : ((flywheelref02_size.f a1).bind fun t195 => ((flywheelref02_times.f t194 t195).bind fun bt196 => ((flywheelref02_size.f a2).bind fun t198 => ((flywheelref02_part.f kj4 bt196.1 bt196.2 t198).bind fun bt199 => (if a0 < 0 then (if a1 < 0 then (if a2 < 0 then (flywheelref02_Did.j1 kj4 a2 a3 true bt199.1 bt199.2.1 bt199.2.2) else (flywheelref02_Did.j1 kj4 a2 a3 false bt199.1 bt199.2.1 bt199.2.2)) else (if a2 < 0 then (flywheelref02_Did.j1 kj4 a2 a3 false bt199.1 bt199.2.1 bt199.2.2) else (flywheelref02_Did.j1 kj4 a2 a3 true bt199.1 bt199.2.1 bt199.2.2))) else (if a1 < 0 then (if a2 < 0 then (flywheelref02_Did.j1 kj4 a2 a3 false bt199.1 bt199.2.1 bt199.2.2) else (flywheelref02_Did.j1 kj4 a2 a3 true bt199.1 bt199.2.1 bt199.2.2)) else (if a2 < 0 then (flywheelref02_Did.j1 kj4 a2 a3 true bt199.1 bt199.2.1 bt199.2.2) else (flywheelref02_Did.j1 kj4 a2 a3 false bt199.1 bt199.2.1 bt199.2.2)))))))) = some (r1, r2) := H
    have A11 := Aside0.mk A110
    clear A110
    replace H := Option.bind_eq_some_iff.mp H
    obtain ⟨t195, A120, H⟩ := H
    replace H : ((flywheelref02_times.f t194 t195).bind fun bt196 => ((flywheelref02_size.f a2).bind fun t198 => ((flywheelref02_part.f kj4 bt196.1 bt196.2 t198).bind fun bt199 => (if a0 < 0 then (if a1 < 0 then (if a2 < 0 then (flywheelref02_Did.j1 kj4 a2 a3 true bt199.1 bt199.2.1 bt199.2.2) else (flywheelref02_Did.j1 kj4 a2 a3 false bt199.1 bt199.2.1 bt199.2.2)) else (if a2 < 0 then (flywheelref02_Did.j1 kj4 a2 a3 false bt199.1 bt199.2.1 bt199.2.2) else (flywheelref02_Did.j1 kj4 a2 a3 true bt199.1 bt199.2.1 bt199.2.2))) else (if a1 < 0 then (if a2 < 0 then (flywheelref02_Did.j1 kj4 a2 a3 false bt199.1 bt199.2.1 bt199.2.2) else (flywheelref02_Did.j1 kj4 a2 a3 true bt199.1 bt199.2.1 bt199.2.2)) else (if a2 < 0 then (flywheelref02_Did.j1 kj4 a2 a3 true bt199.1 bt199.2.1 bt199.2.2) else (flywheelref02_Did.j1 kj4 a2 a3 false bt199.1 bt199.2.1 bt199.2.2))))))) = some (r1, r2) := H
    have A12 := Aside0.mk A120
    clear A120
    replace H := Option.bind_eq_some_iff.mp H
    obtain ⟨⟨t196, t197⟩, A130, H⟩ := H
    replace H : ((flywheelref02_size.f a2).bind fun t198 => ((flywheelref02_part.f kj4 t196 t197 t198).bind fun bt199 => (if a0 < 0 then (if a1 < 0 then (if a2 < 0 then (flywheelref02_Did.j1 kj4 a2 a3 true bt199.1 bt199.2.1 bt199.2.2) else (flywheelref02_Did.j1 kj4 a2 a3 false bt199.1 bt199.2.1 bt199.2.2)) else (if a2 < 0 then (flywheelref02_Did.j1 kj4 a2 a3 false bt199.1 bt199.2.1 bt199.2.2) else (flywheelref02_Did.j1 kj4 a2 a3 true bt199.1 bt199.2.1 bt199.2.2))) else (if a1 < 0 then (if a2 < 0 then (flywheelref02_Did.j1 kj4 a2 a3 false bt199.1 bt199.2.1 bt199.2.2) else (flywheelref02_Did.j1 kj4 a2 a3 true bt199.1 bt199.2.1 bt199.2.2)) else (if a2 < 0 then (flywheelref02_Did.j1 kj4 a2 a3 true bt199.1 bt199.2.1 bt199.2.2) else (flywheelref02_Did.j1 kj4 a2 a3 false bt199.1 bt199.2.1 bt199.2.2)))))) = some (r1, r2) := H
    have A13 := Aside0.mk A130
    clear A130
    replace H := Option.bind_eq_some_iff.mp H
    obtain ⟨t198, A140, H⟩ := H
    replace H : ((flywheelref02_part.f kj4 t196 t197 t198).bind fun bt199 => (if a0 < 0 then (if a1 < 0 then (if a2 < 0 then (flywheelref02_Did.j1 kj4 a2 a3 true bt199.1 bt199.2.1 bt199.2.2) else (flywheelref02_Did.j1 kj4 a2 a3 false bt199.1 bt199.2.1 bt199.2.2)) else (if a2 < 0 then (flywheelref02_Did.j1 kj4 a2 a3 false bt199.1 bt199.2.1 bt199.2.2) else (flywheelref02_Did.j1 kj4 a2 a3 true bt199.1 bt199.2.1 bt199.2.2))) else (if a1 < 0 then (if a2 < 0 then (flywheelref02_Did.j1 kj4 a2 a3 false bt199.1 bt199.2.1 bt199.2.2) else (flywheelref02_Did.j1 kj4 a2 a3 true bt199.1 bt199.2.1 bt199.2.2)) else (if a2 < 0 then (flywheelref02_Did.j1 kj4 a2 a3 true bt199.1 bt199.2.1 bt199.2.2) else (flywheelref02_Did.j1 kj4 a2 a3 false bt199.1 bt199.2.1 bt199.2.2))))) = some (r1, r2) := H
    have A14 := Aside0.mk A140
    clear A140
    replace H := Option.bind_eq_some_iff.mp H
    obtain ⟨⟨t199, t200, t201⟩, A150, H⟩ := H
    replace H : (if a0 < 0 then (if a1 < 0 then (if a2 < 0 then (flywheelref02_Did.j1 kj4 a2 a3 true t199 t200 t201) else (flywheelref02_Did.j1 kj4 a2 a3 false t199 t200 t201)) else (if a2 < 0 then (flywheelref02_Did.j1 kj4 a2 a3 false t199 t200 t201) else (flywheelref02_Did.j1 kj4 a2 a3 true t199 t200 t201))) else (if a1 < 0 then (if a2 < 0 then (flywheelref02_Did.j1 kj4 a2 a3 false t199 t200 t201) else (flywheelref02_Did.j1 kj4 a2 a3 true t199 t200 t201)) else (if a2 < 0 then (flywheelref02_Did.j1 kj4 a2 a3 true t199 t200 t201) else (flywheelref02_Did.j1 kj4 a2 a3 false t199 t200 t201)))) = some (r1, r2) := H
    have A15 := Aside0.mk A150
    clear A150
    have HC16 := Aside0.mk H
    clear H
    go_upto_region 4 with (first | (go_at_call 28; (with_reducible refine (flywheelref02_size.calls a0 t194 _ A11.out).mono ?_); rintro e w' ⟨rfl, ⟨nd, rfl⟩⟩; (try first | exact ⟨rfl, _, World.drewN_drewN _ _ _⟩ | exact ⟨rfl, _, Eq.trans (World.drewN_drewN _ _ _) (congrArg (World.drewN _) (Nat.add_assoc _ _ _))⟩)) | (go_at_call 28; (with_reducible refine (flywheelref02_size.calls a1 t195 _ A12.out).mono ?_); rintro e w' ⟨rfl, ⟨nd, rfl⟩⟩; (try first | exact ⟨rfl, _, World.drewN_drewN _ _ _⟩ | exact ⟨rfl, _, Eq.trans (World.drewN_drewN _ _ _) (congrArg (World.drewN _) (Nat.add_assoc _ _ _))⟩)) | (go_at_call 27; (with_reducible refine (flywheelref02_times.calls t194 t195 t196 t197 _ A13.out).mono ?_); rintro e w17 ⟨rfl, hb⟩; have n0_ := Aside0.mk (blk_below (g := gb193) (o := .cells #[.int .i64 0, .bool false] 53 (0, 0)) (by (with_reducible repeat (first | refine blk_drewN ?_ _ | refine blk_drew ?_ | refine blk_alloc ?_ _)); exact BK193.out) hb); have n1_ := Aside0.mk (below_step (by repeat (first | (with_reducible first | exact HB.out | apply below_alloc | apply pw_below_drewN | apply below_drew1 | refine below_set ?_ GE193.out) | exact HB.out)) hb); clear BK193; clear HB; have BK193 := n0_; have HB := n1_; clear n0_ n1_; (try clear hb); (try clear hb2); (try clear hk); (try clear hi)) | (go_at_call 28; (with_reducible refine (flywheelref02_size.calls a2 t198 _ A14.out).mono ?_); rintro e w' ⟨rfl, ⟨nd, rfl⟩⟩; (try first | exact ⟨rfl, _, World.drewN_drewN _ _ _⟩ | exact ⟨rfl, _, Eq.trans (World.drewN_drewN _ _ _) (congrArg (World.drewN _) (Nat.add_assoc _ _ _))⟩)) | (go_at_call 26; (with_reducible refine (flywheelref02_part.calls kj4 t196 t197 t198 t199 t200 t201 _ A15.out).mono ?_); rintro e w18 ⟨rfl, hb⟩; have n0_ := Aside0.mk (blk_below (g := gb193) (o := .cells #[.int .i64 0, .bool false] 53 (0, 0)) (by (with_reducible repeat (first | refine blk_drewN ?_ _ | refine blk_drew ?_ | refine blk_alloc ?_ _)); exact BK193.out) hb); have n1_ := Aside0.mk (below_step (by repeat (first | (with_reducible first | exact HB.out | apply below_alloc | apply pw_below_drewN | apply below_drew1 | refine below_set ?_ GE193.out) | exact HB.out)) hb); clear BK193; clear HB; have BK193 := n0_; have HB := n1_; clear n0_ n1_; (try clear hb); (try clear hb2); (try clear hk); (try clear hi)) | ((with_reducible refine gate_dst (N := 9) rfl ?_); refine box_event ?hg (N := 9) ?hd (cs := #[.int .u64 0, .bool false, .int .u64 0]) (t := 66) ?hr ?_; (case hd => rfl); (case hg => rfl); (case hr => first | (go_simp; done) | (go_simp; rfl)); intro gb202 hg w19 hbox hb; have n0_ := Aside0.mk (blk_below (g := gb193) (o := .cells #[.int .i64 0, .bool false] 53 (0, 0)) (by (with_reducible repeat (first | refine blk_drewN ?_ _ | refine blk_drew ?_ | refine blk_alloc ?_ _)); exact BK193.out) hb); have n1_ := Aside0.mk (below_step (by repeat (first | (with_reducible first | exact HB.out | apply below_alloc | apply pw_below_drewN | apply below_drew1 | refine below_set ?_ GE193.out) | exact HB.out)) hb); have n2_ := Aside0.mk (hbox); have n3_ := Aside0.mk ((by rw [hg]; exact (below_size (by repeat (first | (with_reducible first | exact HB.out | apply below_alloc | apply pw_below_drewN | apply below_drew1 | refine below_set ?_ GE193.out) | exact HB.out))) : w.heap.size ≤ gb202)); have n4_ := Aside0.mk ((by rw [hg]; exact (below_size (by repeat (first | (with_reducible first | exact HB.out | apply below_alloc | apply pw_below_drewN | apply below_drew1 | refine below_set ?_ GE193.out) | exact HB.out))) : w.heap.size ≤ gb202)); have n5_ := Aside0.mk ((by rw [hg]; exact Nat.ne_of_lt (blk_lt (g := gb193) (o := .cells #[.int .i64 0, .bool false] 53 (0, 0)) (by (with_reducible repeat (first | refine blk_drewN ?_ _ | refine blk_drew ?_ | refine blk_alloc ?_ _)); exact BK193.out)) : gb193 ≠ gb202)); have n6_ := Aside0.mk ((by rw [hg]; exact Nat.ne_of_gt (blk_lt (g := gb193) (o := .cells #[.int .i64 0, .bool false] 53 (0, 0)) (by (with_reducible repeat (first | refine blk_drewN ?_ _ | refine blk_drew ?_ | refine blk_alloc ?_ _)); exact BK193.out)) : gb202 ≠ gb193)); clear BK193; clear HB; have BK193 := n0_; have HB := n1_; have BK202 := n2_; have GW202 := n3_; have GE202 := n4_; have NB193_202 := n5_; have NB202_193 := n6_; clear n0_ n1_ n2_ n3_ n4_ n5_ n6_; clear hb hbox hg; have hnb20 := NB202_193.out; have hnc20 := NB193_202.out; have hcz21_0 : w19.cell? ⟨gb202, 0, none⟩ = some (.int .u64 0) := (blk_cell BK202.out 0).trans rfl; have hcz21_1 : w19.cell? ⟨gb202, 1, none⟩ = some (.bool false) := (blk_cell BK202.out 1).trans rfl; have hcz21_2 : w19.cell? ⟨gb202, 2, none⟩ = some (.int .u64 0) := (blk_cell BK202.out 2).trans rfl; have hfz21_0 := blk_frozen BK202.out 0; have hfz21_1 := blk_frozen BK202.out 1; have hfz21_2 := blk_frozen BK202.out 2))
    repeat (go_quiet (first | (go_at_call 28; (with_reducible refine (flywheelref02_size.calls a0 t194 _ A11.out).mono ?_); rintro e w' ⟨rfl, ⟨nd, rfl⟩⟩; (try first | exact ⟨rfl, _, World.drewN_drewN _ _ _⟩ | exact ⟨rfl, _, Eq.trans (World.drewN_drewN _ _ _) (congrArg (World.drewN _) (Nat.add_assoc _ _ _))⟩)) | (go_at_call 28; (with_reducible refine (flywheelref02_size.calls a1 t195 _ A12.out).mono ?_); rintro e w' ⟨rfl, ⟨nd, rfl⟩⟩; (try first | exact ⟨rfl, _, World.drewN_drewN _ _ _⟩ | exact ⟨rfl, _, Eq.trans (World.drewN_drewN _ _ _) (congrArg (World.drewN _) (Nat.add_assoc _ _ _))⟩)) | (go_at_call 27; (with_reducible refine (flywheelref02_times.calls t194 t195 t196 t197 _ A13.out).mono ?_); rintro e w17 ⟨rfl, hb⟩; have n0_ := Aside0.mk (blk_below (g := gb193) (o := .cells #[.int .i64 0, .bool false] 53 (0, 0)) (by (with_reducible repeat (first | refine blk_drewN ?_ _ | refine blk_drew ?_ | refine blk_alloc ?_ _)); exact BK193.out) hb); have n1_ := Aside0.mk (below_step (by repeat (first | (with_reducible first | exact HB.out | apply below_alloc | apply pw_below_drewN | apply below_drew1 | refine below_set ?_ GE193.out) | exact HB.out)) hb); clear BK193; clear HB; have BK193 := n0_; have HB := n1_; clear n0_ n1_; (try clear hb); (try clear hb2); (try clear hk); (try clear hi)) | (go_at_call 28; (with_reducible refine (flywheelref02_size.calls a2 t198 _ A14.out).mono ?_); rintro e w' ⟨rfl, ⟨nd, rfl⟩⟩; (try first | exact ⟨rfl, _, World.drewN_drewN _ _ _⟩ | exact ⟨rfl, _, Eq.trans (World.drewN_drewN _ _ _) (congrArg (World.drewN _) (Nat.add_assoc _ _ _))⟩)) | (go_at_call 26; (with_reducible refine (flywheelref02_part.calls kj4 t196 t197 t198 t199 t200 t201 _ A15.out).mono ?_); rintro e w18 ⟨rfl, hb⟩; have n0_ := Aside0.mk (blk_below (g := gb193) (o := .cells #[.int .i64 0, .bool false] 53 (0, 0)) (by (with_reducible repeat (first | refine blk_drewN ?_ _ | refine blk_drew ?_ | refine blk_alloc ?_ _)); exact BK193.out) hb); have n1_ := Aside0.mk (below_step (by repeat (first | (with_reducible first | exact HB.out | apply below_alloc | apply pw_below_drewN | apply below_drew1 | refine below_set ?_ GE193.out) | exact HB.out)) hb); clear BK193; clear HB; have BK193 := n0_; have HB := n1_; clear n0_ n1_; (try clear hb); (try clear hb2); (try clear hk); (try clear hi)) | ((with_reducible refine gate_dst (N := 9) rfl ?_); refine box_event ?hg (N := 9) ?hd (cs := #[.int .u64 0, .bool false, .int .u64 0]) (t := 66) ?hr ?_; (case hd => rfl); (case hg => rfl); (case hr => first | (go_simp; done) | (go_simp; rfl)); intro gb202 hg w19 hbox hb; have n0_ := Aside0.mk (blk_below (g := gb193) (o := .cells #[.int .i64 0, .bool false] 53 (0, 0)) (by (with_reducible repeat (first | refine blk_drewN ?_ _ | refine blk_drew ?_ | refine blk_alloc ?_ _)); exact BK193.out) hb); have n1_ := Aside0.mk (below_step (by repeat (first | (with_reducible first | exact HB.out | apply below_alloc | apply pw_below_drewN | apply below_drew1 | refine below_set ?_ GE193.out) | exact HB.out)) hb); have n2_ := Aside0.mk (hbox); have n3_ := Aside0.mk ((by rw [hg]; exact (below_size (by repeat (first | (with_reducible first | exact HB.out | apply below_alloc | apply pw_below_drewN | apply below_drew1 | refine below_set ?_ GE193.out) | exact HB.out))) : w.heap.size ≤ gb202)); have n4_ := Aside0.mk ((by rw [hg]; exact (below_size (by repeat (first | (with_reducible first | exact HB.out | apply below_alloc | apply pw_below_drewN | apply below_drew1 | refine below_set ?_ GE193.out) | exact HB.out))) : w.heap.size ≤ gb202)); have n5_ := Aside0.mk ((by rw [hg]; exact Nat.ne_of_lt (blk_lt (g := gb193) (o := .cells #[.int .i64 0, .bool false] 53 (0, 0)) (by (with_reducible repeat (first | refine blk_drewN ?_ _ | refine blk_drew ?_ | refine blk_alloc ?_ _)); exact BK193.out)) : gb193 ≠ gb202)); have n6_ := Aside0.mk ((by rw [hg]; exact Nat.ne_of_gt (blk_lt (g := gb193) (o := .cells #[.int .i64 0, .bool false] 53 (0, 0)) (by (with_reducible repeat (first | refine blk_drewN ?_ _ | refine blk_drew ?_ | refine blk_alloc ?_ _)); exact BK193.out)) : gb202 ≠ gb193)); clear BK193; clear HB; have BK193 := n0_; have HB := n1_; have BK202 := n2_; have GW202 := n3_; have GE202 := n4_; have NB193_202 := n5_; have NB202_193 := n6_; clear n0_ n1_ n2_ n3_ n4_ n5_ n6_; clear hb hbox hg; have hnb20 := NB202_193.out; have hnc20 := NB193_202.out; have hcz21_0 : w19.cell? ⟨gb202, 0, none⟩ = some (.int .u64 0) := (blk_cell BK202.out 0).trans rfl; have hcz21_1 : w19.cell? ⟨gb202, 1, none⟩ = some (.bool false) := (blk_cell BK202.out 1).trans rfl; have hcz21_2 : w19.cell? ⟨gb202, 2, none⟩ = some (.int .u64 0) := (blk_cell BK202.out 2).trans rfl; have hfz21_0 := blk_frozen BK202.out 0; have hfz21_1 := blk_frozen BK202.out 1; have hfz21_2 := blk_frozen BK202.out 2)); go_upto_region 4 with (first | (go_at_call 28; (with_reducible refine (flywheelref02_size.calls a0 t194 _ A11.out).mono ?_); rintro e w' ⟨rfl, ⟨nd, rfl⟩⟩; (try first | exact ⟨rfl, _, World.drewN_drewN _ _ _⟩ | exact ⟨rfl, _, Eq.trans (World.drewN_drewN _ _ _) (congrArg (World.drewN _) (Nat.add_assoc _ _ _))⟩)) | (go_at_call 28; (with_reducible refine (flywheelref02_size.calls a1 t195 _ A12.out).mono ?_); rintro e w' ⟨rfl, ⟨nd, rfl⟩⟩; (try first | exact ⟨rfl, _, World.drewN_drewN _ _ _⟩ | exact ⟨rfl, _, Eq.trans (World.drewN_drewN _ _ _) (congrArg (World.drewN _) (Nat.add_assoc _ _ _))⟩)) | (go_at_call 27; (with_reducible refine (flywheelref02_times.calls t194 t195 t196 t197 _ A13.out).mono ?_); rintro e w17 ⟨rfl, hb⟩; have n0_ := Aside0.mk (blk_below (g := gb193) (o := .cells #[.int .i64 0, .bool false] 53 (0, 0)) (by (with_reducible repeat (first | refine blk_drewN ?_ _ | refine blk_drew ?_ | refine blk_alloc ?_ _)); exact BK193.out) hb); have n1_ := Aside0.mk (below_step (by repeat (first | (with_reducible first | exact HB.out | apply below_alloc | apply pw_below_drewN | apply below_drew1 | refine below_set ?_ GE193.out) | exact HB.out)) hb); clear BK193; clear HB; have BK193 := n0_; have HB := n1_; clear n0_ n1_; (try clear hb); (try clear hb2); (try clear hk); (try clear hi)) | (go_at_call 28; (with_reducible refine (flywheelref02_size.calls a2 t198 _ A14.out).mono ?_); rintro e w' ⟨rfl, ⟨nd, rfl⟩⟩; (try first | exact ⟨rfl, _, World.drewN_drewN _ _ _⟩ | exact ⟨rfl, _, Eq.trans (World.drewN_drewN _ _ _) (congrArg (World.drewN _) (Nat.add_assoc _ _ _))⟩)) | (go_at_call 26; (with_reducible refine (flywheelref02_part.calls kj4 t196 t197 t198 t199 t200 t201 _ A15.out).mono ?_); rintro e w18 ⟨rfl, hb⟩; have n0_ := Aside0.mk (blk_below (g := gb193) (o := .cells #[.int .i64 0, .bool false] 53 (0, 0)) (by (with_reducible repeat (first | refine blk_drewN ?_ _ | refine blk_drew ?_ | refine blk_alloc ?_ _)); exact BK193.out) hb); have n1_ := Aside0.mk (below_step (by repeat (first | (with_reducible first | exact HB.out | apply below_alloc | apply pw_below_drewN | apply below_drew1 | refine below_set ?_ GE193.out) | exact HB.out)) hb); clear BK193; clear HB; have BK193 := n0_; have HB := n1_; clear n0_ n1_; (try clear hb); (try clear hb2); (try clear hk); (try clear hi)) | ((with_reducible refine gate_dst (N := 9) rfl ?_); refine box_event ?hg (N := 9) ?hd (cs := #[.int .u64 0, .bool false, .int .u64 0]) (t := 66) ?hr ?_; (case hd => rfl); (case hg => rfl); (case hr => first | (go_simp; done) | (go_simp; rfl)); intro gb202 hg w19 hbox hb; have n0_ := Aside0.mk (blk_below (g := gb193) (o := .cells #[.int .i64 0, .bool false] 53 (0, 0)) (by (with_reducible repeat (first | refine blk_drewN ?_ _ | refine blk_drew ?_ | refine blk_alloc ?_ _)); exact BK193.out) hb); have n1_ := Aside0.mk (below_step (by repeat (first | (with_reducible first | exact HB.out | apply below_alloc | apply pw_below_drewN | apply below_drew1 | refine below_set ?_ GE193.out) | exact HB.out)) hb); have n2_ := Aside0.mk (hbox); have n3_ := Aside0.mk ((by rw [hg]; exact (below_size (by repeat (first | (with_reducible first | exact HB.out | apply below_alloc | apply pw_below_drewN | apply below_drew1 | refine below_set ?_ GE193.out) | exact HB.out))) : w.heap.size ≤ gb202)); have n4_ := Aside0.mk ((by rw [hg]; exact (below_size (by repeat (first | (with_reducible first | exact HB.out | apply below_alloc | apply pw_below_drewN | apply below_drew1 | refine below_set ?_ GE193.out) | exact HB.out))) : w.heap.size ≤ gb202)); have n5_ := Aside0.mk ((by rw [hg]; exact Nat.ne_of_lt (blk_lt (g := gb193) (o := .cells #[.int .i64 0, .bool false] 53 (0, 0)) (by (with_reducible repeat (first | refine blk_drewN ?_ _ | refine blk_drew ?_ | refine blk_alloc ?_ _)); exact BK193.out)) : gb193 ≠ gb202)); have n6_ := Aside0.mk ((by rw [hg]; exact Nat.ne_of_gt (blk_lt (g := gb193) (o := .cells #[.int .i64 0, .bool false] 53 (0, 0)) (by (with_reducible repeat (first | refine blk_drewN ?_ _ | refine blk_drew ?_ | refine blk_alloc ?_ _)); exact BK193.out)) : gb202 ≠ gb193)); clear BK193; clear HB; have BK193 := n0_; have HB := n1_; have BK202 := n2_; have GW202 := n3_; have GE202 := n4_; have NB193_202 := n5_; have NB202_193 := n6_; clear n0_ n1_ n2_ n3_ n4_ n5_ n6_; clear hb hbox hg; have hnb20 := NB202_193.out; have hnc20 := NB193_202.out; have hcz21_0 : w19.cell? ⟨gb202, 0, none⟩ = some (.int .u64 0) := (blk_cell BK202.out 0).trans rfl; have hcz21_1 : w19.cell? ⟨gb202, 1, none⟩ = some (.bool false) := (blk_cell BK202.out 1).trans rfl; have hcz21_2 : w19.cell? ⟨gb202, 2, none⟩ = some (.int .u64 0) := (blk_cell BK202.out 2).trans rfl; have hfz21_0 := blk_frozen BK202.out 0; have hfz21_1 := blk_frozen BK202.out 1; have hfz21_2 := blk_frozen BK202.out 2)))
    (try simp only [Act.put, List.setIfInBounds_toArray, List.set_cons_zero, List.set_cons_succ])
    go_cut [10] (fun v10 wc => ∃ (kq : Nat) (x10_15 : Bool), v10 = .bool x10_15 ∧ Aside0 (flywheelref02_Did.j1 kq a2 a3 x10_15 t199 t200 t201 = some (r1, r2)) ∧ Aside0 (kq ≤ kj4) ∧ Aside0 (wc.heap[gb193]? = some (.cells #[.int .i64 0, .bool false] 53 (0, 0))) ∧ Aside0 (wc.heap[gb202]? = some (.cells #[.int .u64 t199, .bool t200, .int .u64 t201] 66 (0, 0))) ∧ Aside0 (Below w.heap.size w wc))
    case first =>
     have H := HC16.out
     clear HC16
     by_cases c22 : a0 < 0
     ·rw [if_pos c22] at H
      have c22b0 : decide (a0 < 0) = true := decide_eq_true c22
      clear c22
      (first | rw [c22b0] | (simp only [i64_w, i32_w]; rw [c22b0]) | skip)
      by_cases c23 : a1 < 0
      ·rw [if_pos c23] at H
       have c23b0 : decide (a1 < 0) = true := decide_eq_true c23
       clear c23
       by_cases c24 : a2 < 0
       ·rw [if_pos c24] at H
        have c24b0 : decide (a2 < 0) = true := decide_eq_true c24
        clear c24
        have H' := Aside0.mk H
        clear H
        go_wp2
        repeat (go_quiet (fail); try go_wp2)
        go_meet
        case rel => exact ⟨_, (true), (by first | rfl | (simp; done) | (simp [*]; done)), H', ⟨by have := HJ4.out; first | omega | exact Nat.le_refl _⟩, ⟨by (with_reducible repeat (first | refine blk_drewN ?_ _ | refine blk_drew ?_ | refine blk_alloc ?_ _)); refine blk_far ?_ NB193_202.out _; (with_reducible repeat (first | refine blk_drewN ?_ _ | refine blk_drew ?_ | refine blk_alloc ?_ _)); refine blk_far ?_ NB193_202.out _; (with_reducible repeat (first | refine blk_drewN ?_ _ | refine blk_drew ?_ | refine blk_alloc ?_ _)); refine blk_far ?_ NB193_202.out _; (with_reducible repeat (first | refine blk_drewN ?_ _ | refine blk_drew ?_ | refine blk_alloc ?_ _)); exact BK193.out⟩, ⟨by (with_reducible repeat (first | refine blk_drewN ?_ _ | refine blk_drew ?_ | refine blk_alloc ?_ _)); refine blk_put (cs := #[.int .u64 t199, .bool t200, .int .u64 0]) ?_ 2 _ rfl; (with_reducible repeat (first | refine blk_drewN ?_ _ | refine blk_drew ?_ | refine blk_alloc ?_ _)); refine blk_put (cs := #[.int .u64 t199, .bool false, .int .u64 0]) ?_ 1 _ rfl; (with_reducible repeat (first | refine blk_drewN ?_ _ | refine blk_drew ?_ | refine blk_alloc ?_ _)); refine blk_put (cs := #[.int .u64 0, .bool false, .int .u64 0]) ?_ 0 _ rfl; (with_reducible repeat (first | refine blk_drewN ?_ _ | refine blk_drew ?_ | refine blk_alloc ?_ _)); exact BK202.out⟩, ⟨by repeat (first | (with_reducible first | exact HB.out | apply below_alloc | apply pw_below_drewN | apply below_drew1 | refine below_set ?_ GE193.out | refine below_set ?_ GE202.out) | exact HB.out)⟩⟩
       ·rw [if_neg c24] at H
        have c24b0 : decide (a2 < 0) = false := decide_eq_false c24
        clear c24
        have H' := Aside0.mk H
        clear H
        go_wp2
        repeat (go_quiet (fail); try go_wp2)
        go_meet
        case rel => exact ⟨_, (false), (by first | rfl | (simp; done) | (simp [*]; done)), H', ⟨by have := HJ4.out; first | omega | exact Nat.le_refl _⟩, ⟨by (with_reducible repeat (first | refine blk_drewN ?_ _ | refine blk_drew ?_ | refine blk_alloc ?_ _)); refine blk_far ?_ NB193_202.out _; (with_reducible repeat (first | refine blk_drewN ?_ _ | refine blk_drew ?_ | refine blk_alloc ?_ _)); refine blk_far ?_ NB193_202.out _; (with_reducible repeat (first | refine blk_drewN ?_ _ | refine blk_drew ?_ | refine blk_alloc ?_ _)); refine blk_far ?_ NB193_202.out _; (with_reducible repeat (first | refine blk_drewN ?_ _ | refine blk_drew ?_ | refine blk_alloc ?_ _)); exact BK193.out⟩, ⟨by (with_reducible repeat (first | refine blk_drewN ?_ _ | refine blk_drew ?_ | refine blk_alloc ?_ _)); refine blk_put (cs := #[.int .u64 t199, .bool t200, .int .u64 0]) ?_ 2 _ rfl; (with_reducible repeat (first | refine blk_drewN ?_ _ | refine blk_drew ?_ | refine blk_alloc ?_ _)); refine blk_put (cs := #[.int .u64 t199, .bool false, .int .u64 0]) ?_ 1 _ rfl; (with_reducible repeat (first | refine blk_drewN ?_ _ | refine blk_drew ?_ | refine blk_alloc ?_ _)); refine blk_put (cs := #[.int .u64 0, .bool false, .int .u64 0]) ?_ 0 _ rfl; (with_reducible repeat (first | refine blk_drewN ?_ _ | refine blk_drew ?_ | refine blk_alloc ?_ _)); exact BK202.out⟩, ⟨by repeat (first | (with_reducible first | exact HB.out | apply below_alloc | apply pw_below_drewN | apply below_drew1 | refine below_set ?_ GE193.out | refine below_set ?_ GE202.out) | exact HB.out)⟩⟩
      ·rw [if_neg c23] at H
       have c23b0 : decide (a1 < 0) = false := decide_eq_false c23
       clear c23
       by_cases c25 : a2 < 0
       ·rw [if_pos c25] at H
        have c25b0 : decide (a2 < 0) = true := decide_eq_true c25
        clear c25
        have H' := Aside0.mk H
        clear H
        go_wp2
        repeat (go_quiet (fail); try go_wp2)
        go_meet
        case rel => exact ⟨_, (false), (by first | rfl | (simp; done) | (simp [*]; done)), H', ⟨by have := HJ4.out; first | omega | exact Nat.le_refl _⟩, ⟨by (with_reducible repeat (first | refine blk_drewN ?_ _ | refine blk_drew ?_ | refine blk_alloc ?_ _)); refine blk_far ?_ NB193_202.out _; (with_reducible repeat (first | refine blk_drewN ?_ _ | refine blk_drew ?_ | refine blk_alloc ?_ _)); refine blk_far ?_ NB193_202.out _; (with_reducible repeat (first | refine blk_drewN ?_ _ | refine blk_drew ?_ | refine blk_alloc ?_ _)); refine blk_far ?_ NB193_202.out _; (with_reducible repeat (first | refine blk_drewN ?_ _ | refine blk_drew ?_ | refine blk_alloc ?_ _)); exact BK193.out⟩, ⟨by (with_reducible repeat (first | refine blk_drewN ?_ _ | refine blk_drew ?_ | refine blk_alloc ?_ _)); refine blk_put (cs := #[.int .u64 t199, .bool t200, .int .u64 0]) ?_ 2 _ rfl; (with_reducible repeat (first | refine blk_drewN ?_ _ | refine blk_drew ?_ | refine blk_alloc ?_ _)); refine blk_put (cs := #[.int .u64 t199, .bool false, .int .u64 0]) ?_ 1 _ rfl; (with_reducible repeat (first | refine blk_drewN ?_ _ | refine blk_drew ?_ | refine blk_alloc ?_ _)); refine blk_put (cs := #[.int .u64 0, .bool false, .int .u64 0]) ?_ 0 _ rfl; (with_reducible repeat (first | refine blk_drewN ?_ _ | refine blk_drew ?_ | refine blk_alloc ?_ _)); exact BK202.out⟩, ⟨by repeat (first | (with_reducible first | exact HB.out | apply below_alloc | apply pw_below_drewN | apply below_drew1 | refine below_set ?_ GE193.out | refine below_set ?_ GE202.out) | exact HB.out)⟩⟩
       ·rw [if_neg c25] at H
        have c25b0 : decide (a2 < 0) = false := decide_eq_false c25
        clear c25
        have H' := Aside0.mk H
        clear H
        go_wp2
        repeat (go_quiet (fail); try go_wp2)
        go_meet
        case rel => exact ⟨_, (true), (by first | rfl | (simp; done) | (simp [*]; done)), H', ⟨by have := HJ4.out; first | omega | exact Nat.le_refl _⟩, ⟨by (with_reducible repeat (first | refine blk_drewN ?_ _ | refine blk_drew ?_ | refine blk_alloc ?_ _)); refine blk_far ?_ NB193_202.out _; (with_reducible repeat (first | refine blk_drewN ?_ _ | refine blk_drew ?_ | refine blk_alloc ?_ _)); refine blk_far ?_ NB193_202.out _; (with_reducible repeat (first | refine blk_drewN ?_ _ | refine blk_drew ?_ | refine blk_alloc ?_ _)); refine blk_far ?_ NB193_202.out _; (with_reducible repeat (first | refine blk_drewN ?_ _ | refine blk_drew ?_ | refine blk_alloc ?_ _)); exact BK193.out⟩, ⟨by (with_reducible repeat (first | refine blk_drewN ?_ _ | refine blk_drew ?_ | refine blk_alloc ?_ _)); refine blk_put (cs := #[.int .u64 t199, .bool t200, .int .u64 0]) ?_ 2 _ rfl; (with_reducible repeat (first | refine blk_drewN ?_ _ | refine blk_drew ?_ | refine blk_alloc ?_ _)); refine blk_put (cs := #[.int .u64 t199, .bool false, .int .u64 0]) ?_ 1 _ rfl; (with_reducible repeat (first | refine blk_drewN ?_ _ | refine blk_drew ?_ | refine blk_alloc ?_ _)); refine blk_put (cs := #[.int .u64 0, .bool false, .int .u64 0]) ?_ 0 _ rfl; (with_reducible repeat (first | refine blk_drewN ?_ _ | refine blk_drew ?_ | refine blk_alloc ?_ _)); exact BK202.out⟩, ⟨by repeat (first | (with_reducible first | exact HB.out | apply below_alloc | apply pw_below_drewN | apply below_drew1 | refine below_set ?_ GE193.out | refine below_set ?_ GE202.out) | exact HB.out)⟩⟩
     ·rw [if_neg c22] at H
      have c22b0 : decide (a0 < 0) = false := decide_eq_false c22
      clear c22
      (first | rw [c22b0] | (simp only [i64_w, i32_w]; rw [c22b0]) | skip)
      by_cases c26 : a1 < 0
      ·rw [if_pos c26] at H
       have c26b0 : decide (a1 < 0) = true := decide_eq_true c26
       clear c26
       by_cases c27 : a2 < 0
       ·rw [if_pos c27] at H
        have c27b0 : decide (a2 < 0) = true := decide_eq_true c27
        clear c27
        have H' := Aside0.mk H
        clear H
        go_wp2
        repeat (go_quiet (fail); try go_wp2)
        go_meet
        case rel => exact ⟨_, (false), (by first | rfl | (simp; done) | (simp [*]; done)), H', ⟨by have := HJ4.out; first | omega | exact Nat.le_refl _⟩, ⟨by (with_reducible repeat (first | refine blk_drewN ?_ _ | refine blk_drew ?_ | refine blk_alloc ?_ _)); refine blk_far ?_ NB193_202.out _; (with_reducible repeat (first | refine blk_drewN ?_ _ | refine blk_drew ?_ | refine blk_alloc ?_ _)); refine blk_far ?_ NB193_202.out _; (with_reducible repeat (first | refine blk_drewN ?_ _ | refine blk_drew ?_ | refine blk_alloc ?_ _)); refine blk_far ?_ NB193_202.out _; (with_reducible repeat (first | refine blk_drewN ?_ _ | refine blk_drew ?_ | refine blk_alloc ?_ _)); exact BK193.out⟩, ⟨by (with_reducible repeat (first | refine blk_drewN ?_ _ | refine blk_drew ?_ | refine blk_alloc ?_ _)); refine blk_put (cs := #[.int .u64 t199, .bool t200, .int .u64 0]) ?_ 2 _ rfl; (with_reducible repeat (first | refine blk_drewN ?_ _ | refine blk_drew ?_ | refine blk_alloc ?_ _)); refine blk_put (cs := #[.int .u64 t199, .bool false, .int .u64 0]) ?_ 1 _ rfl; (with_reducible repeat (first | refine blk_drewN ?_ _ | refine blk_drew ?_ | refine blk_alloc ?_ _)); refine blk_put (cs := #[.int .u64 0, .bool false, .int .u64 0]) ?_ 0 _ rfl; (with_reducible repeat (first | refine blk_drewN ?_ _ | refine blk_drew ?_ | refine blk_alloc ?_ _)); exact BK202.out⟩, ⟨by repeat (first | (with_reducible first | exact HB.out | apply below_alloc | apply pw_below_drewN | apply below_drew1 | refine below_set ?_ GE193.out | refine below_set ?_ GE202.out) | exact HB.out)⟩⟩
       ·rw [if_neg c27] at H
        have c27b0 : decide (a2 < 0) = false := decide_eq_false c27
        clear c27
        have H' := Aside0.mk H
        clear H
        go_wp2
        repeat (go_quiet (fail); try go_wp2)
        go_meet
        case rel => exact ⟨_, (true), (by first | rfl | (simp; done) | (simp [*]; done)), H', ⟨by have := HJ4.out; first | omega | exact Nat.le_refl _⟩, ⟨by (with_reducible repeat (first | refine blk_drewN ?_ _ | refine blk_drew ?_ | refine blk_alloc ?_ _)); refine blk_far ?_ NB193_202.out _; (with_reducible repeat (first | refine blk_drewN ?_ _ | refine blk_drew ?_ | refine blk_alloc ?_ _)); refine blk_far ?_ NB193_202.out _; (with_reducible repeat (first | refine blk_drewN ?_ _ | refine blk_drew ?_ | refine blk_alloc ?_ _)); refine blk_far ?_ NB193_202.out _; (with_reducible repeat (first | refine blk_drewN ?_ _ | refine blk_drew ?_ | refine blk_alloc ?_ _)); exact BK193.out⟩, ⟨by (with_reducible repeat (first | refine blk_drewN ?_ _ | refine blk_drew ?_ | refine blk_alloc ?_ _)); refine blk_put (cs := #[.int .u64 t199, .bool t200, .int .u64 0]) ?_ 2 _ rfl; (with_reducible repeat (first | refine blk_drewN ?_ _ | refine blk_drew ?_ | refine blk_alloc ?_ _)); refine blk_put (cs := #[.int .u64 t199, .bool false, .int .u64 0]) ?_ 1 _ rfl; (with_reducible repeat (first | refine blk_drewN ?_ _ | refine blk_drew ?_ | refine blk_alloc ?_ _)); refine blk_put (cs := #[.int .u64 0, .bool false, .int .u64 0]) ?_ 0 _ rfl; (with_reducible repeat (first | refine blk_drewN ?_ _ | refine blk_drew ?_ | refine blk_alloc ?_ _)); exact BK202.out⟩, ⟨by repeat (first | (with_reducible first | exact HB.out | apply below_alloc | apply pw_below_drewN | apply below_drew1 | refine below_set ?_ GE193.out | refine below_set ?_ GE202.out) | exact HB.out)⟩⟩
      ·rw [if_neg c26] at H
       have c26b0 : decide (a1 < 0) = false := decide_eq_false c26
       clear c26
       by_cases c28 : a2 < 0
       ·rw [if_pos c28] at H
        have c28b0 : decide (a2 < 0) = true := decide_eq_true c28
        clear c28
        have H' := Aside0.mk H
        clear H
        go_wp2
        repeat (go_quiet (fail); try go_wp2)
        go_meet
        case rel => exact ⟨_, (true), (by first | rfl | (simp; done) | (simp [*]; done)), H', ⟨by have := HJ4.out; first | omega | exact Nat.le_refl _⟩, ⟨by (with_reducible repeat (first | refine blk_drewN ?_ _ | refine blk_drew ?_ | refine blk_alloc ?_ _)); refine blk_far ?_ NB193_202.out _; (with_reducible repeat (first | refine blk_drewN ?_ _ | refine blk_drew ?_ | refine blk_alloc ?_ _)); refine blk_far ?_ NB193_202.out _; (with_reducible repeat (first | refine blk_drewN ?_ _ | refine blk_drew ?_ | refine blk_alloc ?_ _)); refine blk_far ?_ NB193_202.out _; (with_reducible repeat (first | refine blk_drewN ?_ _ | refine blk_drew ?_ | refine blk_alloc ?_ _)); exact BK193.out⟩, ⟨by (with_reducible repeat (first | refine blk_drewN ?_ _ | refine blk_drew ?_ | refine blk_alloc ?_ _)); refine blk_put (cs := #[.int .u64 t199, .bool t200, .int .u64 0]) ?_ 2 _ rfl; (with_reducible repeat (first | refine blk_drewN ?_ _ | refine blk_drew ?_ | refine blk_alloc ?_ _)); refine blk_put (cs := #[.int .u64 t199, .bool false, .int .u64 0]) ?_ 1 _ rfl; (with_reducible repeat (first | refine blk_drewN ?_ _ | refine blk_drew ?_ | refine blk_alloc ?_ _)); refine blk_put (cs := #[.int .u64 0, .bool false, .int .u64 0]) ?_ 0 _ rfl; (with_reducible repeat (first | refine blk_drewN ?_ _ | refine blk_drew ?_ | refine blk_alloc ?_ _)); exact BK202.out⟩, ⟨by repeat (first | (with_reducible first | exact HB.out | apply below_alloc | apply pw_below_drewN | apply below_drew1 | refine below_set ?_ GE193.out | refine below_set ?_ GE202.out) | exact HB.out)⟩⟩
       ·rw [if_neg c28] at H
        have c28b0 : decide (a2 < 0) = false := decide_eq_false c28
        clear c28
        have H' := Aside0.mk H
        clear H
        go_wp2
        repeat (go_quiet (fail); try go_wp2)
        go_meet
        case rel => exact ⟨_, (false), (by first | rfl | (simp; done) | (simp [*]; done)), H', ⟨by have := HJ4.out; first | omega | exact Nat.le_refl _⟩, ⟨by (with_reducible repeat (first | refine blk_drewN ?_ _ | refine blk_drew ?_ | refine blk_alloc ?_ _)); refine blk_far ?_ NB193_202.out _; (with_reducible repeat (first | refine blk_drewN ?_ _ | refine blk_drew ?_ | refine blk_alloc ?_ _)); refine blk_far ?_ NB193_202.out _; (with_reducible repeat (first | refine blk_drewN ?_ _ | refine blk_drew ?_ | refine blk_alloc ?_ _)); refine blk_far ?_ NB193_202.out _; (with_reducible repeat (first | refine blk_drewN ?_ _ | refine blk_drew ?_ | refine blk_alloc ?_ _)); exact BK193.out⟩, ⟨by (with_reducible repeat (first | refine blk_drewN ?_ _ | refine blk_drew ?_ | refine blk_alloc ?_ _)); refine blk_put (cs := #[.int .u64 t199, .bool t200, .int .u64 0]) ?_ 2 _ rfl; (with_reducible repeat (first | refine blk_drewN ?_ _ | refine blk_drew ?_ | refine blk_alloc ?_ _)); refine blk_put (cs := #[.int .u64 t199, .bool false, .int .u64 0]) ?_ 1 _ rfl; (with_reducible repeat (first | refine blk_drewN ?_ _ | refine blk_drew ?_ | refine blk_alloc ?_ _)); refine blk_put (cs := #[.int .u64 0, .bool false, .int .u64 0]) ?_ 0 _ rfl; (with_reducible repeat (first | refine blk_drewN ?_ _ | refine blk_drew ?_ | refine blk_alloc ?_ _)); exact BK202.out⟩, ⟨by repeat (first | (with_reducible first | exact HB.out | apply below_alloc | apply pw_below_drewN | apply below_drew1 | refine below_set ?_ GE193.out | refine below_set ?_ GE202.out) | exact HB.out)⟩⟩
    case rest =>
     clear HC16
     try clear c2
     try clear p2
     try clear c7
     try clear c7b0
     try clear c7b1
     try clear c8
     try clear c8b0
     try clear c9
     try clear c20
     try clear c22
     try clear c22b0
     try clear c23
     try clear c23b0
     try clear c24
     try clear c24b0
     try clear c25
     try clear c25b0
     try clear c26
     try clear c26b0
     try clear c27
     try clear c27b0
     try clear c28
     try clear c28b0
     try clear hcz10_0
     try clear hcz10_1
     try clear hcz21_0
     try clear hcz21_1
     try clear hcz21_2
     try clear hfz10_0
     try clear hfz10_1
     try clear hfz21_0
     try clear hfz21_1
     try clear hfz21_2
     try clear p2
     obtain ⟨kq, x10_15, rfl, HA, HJ15, BK193, BK202, HB⟩ := hcut
     cases kq with
     | zero => exact absurd HA.out (by simp [flywheelref02_Did.j1])
     | succ kj15 =>
      have H := HA.out
      clear HA
      simp only [flywheelref02_Did.j1] at H
      have HC29 := Aside0.mk H
      clear H
      go_upto_block 0 with (fail)
      repeat (go_quiet (fail); go_upto_block 0 with (fail))
      go_cut [11] (fun v11 wc => ∃ (kq : Nat) (x11_28 : Bool), v11 = .bool x11_28 ∧ Aside0 (flywheelref02_Did.j2 kq x10_15 x11_28 t199 t200 t201 = some (r1, r2)) ∧ Aside0 (kq ≤ kj15) ∧ Aside0 (wc.heap[gb193]? = some (.cells #[.int .i64 0, .bool false] 53 (0, 0))) ∧ Aside0 (wc.heap[gb202]? = some (.cells #[.int .u64 t199, .bool t200, .int .u64 t201] 66 (0, 0))) ∧ Aside0 (Below w.heap.size w wc))
      case first =>
       have H := HC29.out
       clear HC29
       by_cases c30 : t201 = 0
       ·rw [if_pos c30] at H
        have c30b0 : (t201 == 0) = true := beq_iff_eq.mpr c30
        have c30b1 : (t201 != 0) = false := bne_eq_false_iff_eq.mpr c30
        clear c30
        (first | rw [c30b0] | (simp only [i64_w, i32_w]; rw [c30b0]) | skip)
        have H' := Aside0.mk H
        clear H
        have hnb31 := NB202_193.out
        have hnc31 := NB193_202.out
        have hcz32_0 : wc.cell? ⟨gb202, 0, none⟩ = some (.int .u64 t199) := (blk_cell BK202.out 0).trans rfl
        have hcz32_1 : wc.cell? ⟨gb202, 1, none⟩ = some (.bool t200) := (blk_cell BK202.out 1).trans rfl
        have hcz32_2 : wc.cell? ⟨gb202, 2, none⟩ = some (.int .u64 t201) := (blk_cell BK202.out 2).trans rfl
        have hfz32_0 := blk_frozen BK202.out 0
        have hfz32_1 := blk_frozen BK202.out 1
        have hfz32_2 := blk_frozen BK202.out 2
        go_wp2
        repeat (go_quiet (fail); try go_wp2)
        go_meet
        case rel => exact ⟨_, (false), (by first | rfl | (simp; done) | (simp [*]; done)), H', ⟨by have := HJ4.out; have := HJ15.out; first | omega | exact Nat.le_refl _⟩, ⟨by (with_reducible repeat (first | refine blk_drewN ?_ _ | refine blk_drew ?_ | refine blk_alloc ?_ _)); exact BK193.out⟩, ⟨by (with_reducible repeat (first | refine blk_drewN ?_ _ | refine blk_drew ?_ | refine blk_alloc ?_ _)); exact BK202.out⟩, ⟨by repeat (first | (with_reducible first | exact HB.out | apply below_alloc | apply pw_below_drewN | apply below_drew1 | refine below_set ?_ GE193.out | refine below_set ?_ GE202.out) | exact HB.out)⟩⟩
       ·rw [if_neg c30] at H
        have c30b0 : (t201 == 0) = false := beq_eq_false_iff_ne.mpr c30
        have c30b1 : (t201 != 0) = true := bne_iff_ne.mpr c30
        (first | rw [c30b0] | (simp only [i64_w, i32_w]; rw [c30b0]) | skip)
        by_cases c33 : a3 = 1
        ·rw [if_pos c33] at H
         have c33b0 : (a3 == 1) = true := beq_iff_eq.mpr c33
         have c33b1 : (a3 != 1) = false := bne_eq_false_iff_eq.mpr c33
         clear c33
         have H' := Aside0.mk H
         clear H
         have hnb34 := NB202_193.out
         have hnc34 := NB193_202.out
         have hcz35_0 : wc.cell? ⟨gb202, 0, none⟩ = some (.int .u64 t199) := (blk_cell BK202.out 0).trans rfl
         have hcz35_1 : wc.cell? ⟨gb202, 1, none⟩ = some (.bool t200) := (blk_cell BK202.out 1).trans rfl
         have hcz35_2 : wc.cell? ⟨gb202, 2, none⟩ = some (.int .u64 t201) := (blk_cell BK202.out 2).trans rfl
         have hfz35_0 := blk_frozen BK202.out 0
         have hfz35_1 := blk_frozen BK202.out 1
         have hfz35_2 := blk_frozen BK202.out 2
         go_wp2
         repeat (go_quiet (fail); try go_wp2)
         go_meet
         case rel => exact ⟨_, (x10_15), (by first | rfl | (simp; done) | (simp [*]; done)), H', ⟨by have := HJ4.out; have := HJ15.out; first | omega | exact Nat.le_refl _⟩, ⟨by (with_reducible repeat (first | refine blk_drewN ?_ _ | refine blk_drew ?_ | refine blk_alloc ?_ _)); exact BK193.out⟩, ⟨by (with_reducible repeat (first | refine blk_drewN ?_ _ | refine blk_drew ?_ | refine blk_alloc ?_ _)); exact BK202.out⟩, ⟨by repeat (first | (with_reducible first | exact HB.out | apply below_alloc | apply pw_below_drewN | apply below_drew1 | refine below_set ?_ GE193.out | refine below_set ?_ GE202.out) | exact HB.out)⟩⟩
        ·rw [if_neg c33] at H
         have c33b0 : (a3 == 1) = false := beq_eq_false_iff_ne.mpr c33
         have c33b1 : (a3 != 1) = true := bne_iff_ne.mpr c33
         by_cases c36 : a3 = 3
         ·rw [if_pos c36] at H
          have c36b0 : (a3 == 3) = true := beq_iff_eq.mpr c36
          have c36b1 : (a3 != 3) = false := bne_eq_false_iff_eq.mpr c36
          clear c36
          have H' := Aside0.mk H
          clear H
          have hnb37 := NB202_193.out
          have hnc37 := NB193_202.out
          have hcz38_0 : wc.cell? ⟨gb202, 0, none⟩ = some (.int .u64 t199) := (blk_cell BK202.out 0).trans rfl
          have hcz38_1 : wc.cell? ⟨gb202, 1, none⟩ = some (.bool t200) := (blk_cell BK202.out 1).trans rfl
          have hcz38_2 : wc.cell? ⟨gb202, 2, none⟩ = some (.int .u64 t201) := (blk_cell BK202.out 2).trans rfl
          have hfz38_0 := blk_frozen BK202.out 0
          have hfz38_1 := blk_frozen BK202.out 1
          have hfz38_2 := blk_frozen BK202.out 2
          go_wp2
          repeat (go_quiet (fail); try go_wp2)
          go_meet
          case rel => exact ⟨_, (!x10_15), (by first | rfl | (simp; done) | (simp [*]; done)), H', ⟨by have := HJ4.out; have := HJ15.out; first | omega | exact Nat.le_refl _⟩, ⟨by (with_reducible repeat (first | refine blk_drewN ?_ _ | refine blk_drew ?_ | refine blk_alloc ?_ _)); exact BK193.out⟩, ⟨by (with_reducible repeat (first | refine blk_drewN ?_ _ | refine blk_drew ?_ | refine blk_alloc ?_ _)); exact BK202.out⟩, ⟨by repeat (first | (with_reducible first | exact HB.out | apply below_alloc | apply pw_below_drewN | apply below_drew1 | refine below_set ?_ GE193.out | refine below_set ?_ GE202.out) | exact HB.out)⟩⟩
         ·rw [if_neg c36] at H
          have c36b0 : (a3 == 3) = false := beq_eq_false_iff_ne.mpr c36
          have c36b1 : (a3 != 3) = true := bne_iff_ne.mpr c36
          by_cases c39 : x10_15 = true
          ·subst c39
           have H1 : ((flywheelref02_size.f a2).bind fun t203 => (flywheelref02_Did.j2 kj15 true (decide (t201 > (IntKind.u64.wrap (t203 - t201)))) t199 t200 t201)) = some (r1, r2) := by rw [if_pos rfl] at H; exact H
           clear H
           have H := H1
           clear H1
           replace H := Option.bind_eq_some_iff.mp H
           obtain ⟨t203, A400, H⟩ := H
           replace H : (flywheelref02_Did.j2 kj15 true (decide (t201 > (IntKind.u64.wrap (t203 - t201)))) t199 t200 t201) = some (r1, r2) := H
           have A40 := Aside0.mk A400
           clear A400
           have H' := Aside0.mk H
           clear H
           have hnb41 := NB202_193.out
           have hnc41 := NB193_202.out
           have hcz42_0 : wc.cell? ⟨gb202, 0, none⟩ = some (.int .u64 t199) := (blk_cell BK202.out 0).trans rfl
           have hcz42_1 : wc.cell? ⟨gb202, 1, none⟩ = some (.bool t200) := (blk_cell BK202.out 1).trans rfl
           have hcz42_2 : wc.cell? ⟨gb202, 2, none⟩ = some (.int .u64 t201) := (blk_cell BK202.out 2).trans rfl
           have hfz42_0 := blk_frozen BK202.out 0
           have hfz42_1 := blk_frozen BK202.out 1
           have hfz42_2 := blk_frozen BK202.out 2
           go_wp2_with (first | (go_at_call 28; (with_reducible refine (flywheelref02_size.calls a2 t203 _ A40.out).mono ?_); rintro e w' ⟨rfl, ⟨nd, rfl⟩⟩; (try first | exact ⟨rfl, _, World.drewN_drewN _ _ _⟩ | exact ⟨rfl, _, Eq.trans (World.drewN_drewN _ _ _) (congrArg (World.drewN _) (Nat.add_assoc _ _ _))⟩)))
           repeat (go_quiet (first | (go_at_call 28; (with_reducible refine (flywheelref02_size.calls a2 t203 _ A40.out).mono ?_); rintro e w' ⟨rfl, ⟨nd, rfl⟩⟩; (try first | exact ⟨rfl, _, World.drewN_drewN _ _ _⟩ | exact ⟨rfl, _, Eq.trans (World.drewN_drewN _ _ _) (congrArg (World.drewN _) (Nat.add_assoc _ _ _))⟩))); try go_wp2_with (first | (go_at_call 28; (with_reducible refine (flywheelref02_size.calls a2 t203 _ A40.out).mono ?_); rintro e w' ⟨rfl, ⟨nd, rfl⟩⟩; (try first | exact ⟨rfl, _, World.drewN_drewN _ _ _⟩ | exact ⟨rfl, _, Eq.trans (World.drewN_drewN _ _ _) (congrArg (World.drewN _) (Nat.add_assoc _ _ _))⟩))))
           go_meet
           case rel => exact ⟨_, (decide (t201 > (IntKind.u64.wrap (t203 - t201)))), (by first | rfl | (simp; done) | (simp [*]; done)), H', ⟨by have := HJ4.out; have := HJ15.out; first | omega | exact Nat.le_refl _⟩, ⟨by (with_reducible repeat (first | refine blk_drewN ?_ _ | refine blk_drew ?_ | refine blk_alloc ?_ _)); exact BK193.out⟩, ⟨by (with_reducible repeat (first | refine blk_drewN ?_ _ | refine blk_drew ?_ | refine blk_alloc ?_ _)); exact BK202.out⟩, ⟨by repeat (first | (with_reducible first | exact HB.out | apply below_alloc | apply pw_below_drewN | apply below_drew1 | refine below_set ?_ GE193.out | refine below_set ?_ GE202.out) | exact HB.out)⟩⟩
          ·replace c39 := Bool.eq_false_iff.mpr c39
           subst c39
           have H1 : ((flywheelref02_size.f a2).bind fun t204 => (flywheelref02_Did.j2 kj15 false (decide (t201 ≥ (IntKind.u64.wrap (t204 - t201)))) t199 t200 t201)) = some (r1, r2) := by rw [if_neg (show ¬ (false = true) by decide)] at H; exact H
           clear H
           have H := H1
           clear H1
           replace H := Option.bind_eq_some_iff.mp H
           obtain ⟨t204, A430, H⟩ := H
           replace H : (flywheelref02_Did.j2 kj15 false (decide (t201 ≥ (IntKind.u64.wrap (t204 - t201)))) t199 t200 t201) = some (r1, r2) := H
           have A43 := Aside0.mk A430
           clear A430
           have H' := Aside0.mk H
           clear H
           have hnb44 := NB202_193.out
           have hnc44 := NB193_202.out
           have hcz45_0 : wc.cell? ⟨gb202, 0, none⟩ = some (.int .u64 t199) := (blk_cell BK202.out 0).trans rfl
           have hcz45_1 : wc.cell? ⟨gb202, 1, none⟩ = some (.bool t200) := (blk_cell BK202.out 1).trans rfl
           have hcz45_2 : wc.cell? ⟨gb202, 2, none⟩ = some (.int .u64 t201) := (blk_cell BK202.out 2).trans rfl
           have hfz45_0 := blk_frozen BK202.out 0
           have hfz45_1 := blk_frozen BK202.out 1
           have hfz45_2 := blk_frozen BK202.out 2
           go_wp2_with (first | (go_at_call 28; (with_reducible refine (flywheelref02_size.calls a2 t204 _ A43.out).mono ?_); rintro e w' ⟨rfl, ⟨nd, rfl⟩⟩; (try first | exact ⟨rfl, _, World.drewN_drewN _ _ _⟩ | exact ⟨rfl, _, Eq.trans (World.drewN_drewN _ _ _) (congrArg (World.drewN _) (Nat.add_assoc _ _ _))⟩)))
           repeat (go_quiet (first | (go_at_call 28; (with_reducible refine (flywheelref02_size.calls a2 t204 _ A43.out).mono ?_); rintro e w' ⟨rfl, ⟨nd, rfl⟩⟩; (try first | exact ⟨rfl, _, World.drewN_drewN _ _ _⟩ | exact ⟨rfl, _, Eq.trans (World.drewN_drewN _ _ _) (congrArg (World.drewN _) (Nat.add_assoc _ _ _))⟩))); try go_wp2_with (first | (go_at_call 28; (with_reducible refine (flywheelref02_size.calls a2 t204 _ A43.out).mono ?_); rintro e w' ⟨rfl, ⟨nd, rfl⟩⟩; (try first | exact ⟨rfl, _, World.drewN_drewN _ _ _⟩ | exact ⟨rfl, _, Eq.trans (World.drewN_drewN _ _ _) (congrArg (World.drewN _) (Nat.add_assoc _ _ _))⟩))))
           go_meet
           case rel => exact ⟨_, (decide (t201 ≥ (IntKind.u64.wrap (t204 - t201)))), (by first | rfl | (simp; done) | (simp [*]; done)), H', ⟨by have := HJ4.out; have := HJ15.out; first | omega | exact Nat.le_refl _⟩, ⟨by (with_reducible repeat (first | refine blk_drewN ?_ _ | refine blk_drew ?_ | refine blk_alloc ?_ _)); exact BK193.out⟩, ⟨by (with_reducible repeat (first | refine blk_drewN ?_ _ | refine blk_drew ?_ | refine blk_alloc ?_ _)); exact BK202.out⟩, ⟨by repeat (first | (with_reducible first | exact HB.out | apply below_alloc | apply pw_below_drewN | apply below_drew1 | refine below_set ?_ GE193.out | refine below_set ?_ GE202.out) | exact HB.out)⟩⟩
      case rest =>
       clear HC29
       try clear c2
       try clear p2
       try clear c3
       try clear c4
       try clear c7
       try clear c7b0
       try clear c7b1
       try clear c8
       try clear c8b0
       try clear c9
       try clear c20
       try clear c22
       try clear c22b0
       try clear c23
       try clear c23b0
       try clear c24
       try clear c24b0
       try clear c25
       try clear c25b0
       try clear c26
       try clear c26b0
       try clear c27
       try clear c27b0
       try clear c28
       try clear c28b0
       try clear c30
       try clear c30b0
       try clear c30b1
       try clear c31
       try clear c33
       try clear c33b0
       try clear c33b1
       try clear c34
       try clear c36
       try clear c36b0
       try clear c36b1
       try clear c37
       try clear c39
       try clear c41
       try clear c44
       try clear hcz10_0
       try clear hcz10_1
       try clear hcz21_0
       try clear hcz21_1
       try clear hcz21_2
       try clear hcz32_0
       try clear hcz32_1
       try clear hcz32_2
       try clear hcz35_0
       try clear hcz35_1
       try clear hcz35_2
       try clear hcz38_0
       try clear hcz38_1
       try clear hcz38_2
       try clear hcz42_0
       try clear hcz42_1
       try clear hcz42_2
       try clear hcz45_0
       try clear hcz45_1
       try clear hcz45_2
       try clear hfz10_0
       try clear hfz10_1
       try clear hfz21_0
       try clear hfz21_1
       try clear hfz21_2
       try clear hfz32_0
       try clear hfz32_1
       try clear hfz32_2
       try clear hfz35_0
       try clear hfz35_1
       try clear hfz35_2
       try clear hfz38_0
       try clear hfz38_1
       try clear hfz38_2
       try clear hfz42_0
       try clear hfz42_1
       try clear hfz42_2
       try clear hfz45_0
       try clear hfz45_1
       try clear hfz45_2
       try clear p2
       obtain ⟨kq, x11_28, rfl, HA, HJ28, BK193, BK202, HB⟩ := hcut
       cases kq with
       | zero => exact absurd HA.out (by simp [flywheelref02_Did.j2])
       | succ kj28 =>
        have H := HA.out
        clear HA
        simp only [flywheelref02_Did.j2] at H
        have HC46 := Aside0.mk H
        clear H
        have hnb47 := NB202_193.out
        have hnc47 := NB193_202.out
        have hcz48_0 : wc.cell? ⟨gb202, 0, none⟩ = some (.int .u64 t199) := (blk_cell BK202.out 0).trans rfl
        have hcz48_1 : wc.cell? ⟨gb202, 1, none⟩ = some (.bool t200) := (blk_cell BK202.out 1).trans rfl
        have hcz48_2 : wc.cell? ⟨gb202, 2, none⟩ = some (.int .u64 t201) := (blk_cell BK202.out 2).trans rfl
        have hfz48_0 := blk_frozen BK202.out 0
        have hfz48_1 := blk_frozen BK202.out 1
        have hfz48_2 := blk_frozen BK202.out 2
        go_upto_if 76 with (fail)
        repeat (go_quiet (fail); go_upto_if 76 with (fail))
        go_cut [12, 13] (fun v12 v13 wc => ∃ (kq : Nat) (x12_45 : Int) (x13_45 : Bool), v12 = .int .u64 x12_45 ∧ v13 = .bool x13_45 ∧ Aside0 (flywheelref02_Did.j3 kq x10_15 x12_45 x13_45 = some (r1, r2)) ∧ Aside0 (kq ≤ kj28) ∧ Aside0 (wc.heap[gb193]? = some (.cells #[.int .i64 0, .bool false] 53 (0, 0))) ∧ Aside0 (wc.heap[gb202]? = some (.cells #[.int .u64 t199, .bool t200, .int .u64 t201] 66 (0, 0))) ∧ Aside0 (Below w.heap.size w wc))
        case first =>
         have H := HC46.out
         clear HC46
         by_cases c49 : x11_28 = true
         ·subst c49
          have H1 : (if t200 = true then (flywheelref02_Did.j3 kj28 x10_15 (IntKind.u64.wrap (t199 + 1)) true) else (flywheelref02_Did.j3 kj28 x10_15 (IntKind.u64.wrap (t199 + 1)) ((IntKind.u64.wrap (t199 + 1)) == 0))) = some (r1, r2) := by rw [if_pos rfl] at H; exact H
          clear H
          have H := H1
          clear H1
          by_cases c50 : t200 = true
          ·subst c50
           have H1 : (flywheelref02_Did.j3 kj28 x10_15 (IntKind.u64.wrap (t199 + 1)) true) = some (r1, r2) := by rw [if_pos rfl] at H; exact H
           clear H
           have H := H1
           clear H1
           have H' := Aside0.mk H
           clear H
           go_wp2
           repeat (go_quiet (fail); try go_wp2)
           go_meet
           case rel => exact ⟨_, (IntKind.u64.wrap (t199 + 1)), (true), (by first | rfl | (simp; done) | (simp [*]; done)), (by first | rfl | (simp; done) | (simp [*]; done)), H', ⟨by have := HJ4.out; have := HJ15.out; have := HJ28.out; first | omega | exact Nat.le_refl _⟩, ⟨by (with_reducible repeat (first | refine blk_drewN ?_ _ | refine blk_drew ?_ | refine blk_alloc ?_ _)); exact BK193.out⟩, ⟨by (with_reducible repeat (first | refine blk_drewN ?_ _ | refine blk_drew ?_ | refine blk_alloc ?_ _)); exact BK202.out⟩, ⟨by repeat (first | (with_reducible first | exact HB.out | apply below_alloc | apply pw_below_drewN | apply below_drew1 | refine below_set ?_ GE193.out | refine below_set ?_ GE202.out) | exact HB.out)⟩⟩
          ·replace c50 := Bool.eq_false_iff.mpr c50
           subst c50
           have H1 : (flywheelref02_Did.j3 kj28 x10_15 (IntKind.u64.wrap (t199 + 1)) ((IntKind.u64.wrap (t199 + 1)) == 0)) = some (r1, r2) := by rw [if_neg (show ¬ (false = true) by decide)] at H; exact H
           clear H
           have H := H1
           clear H1
           have H' := Aside0.mk H
           clear H
           go_wp2
           repeat (go_quiet (fail); try go_wp2)
           go_meet
           case rel => exact ⟨_, (IntKind.u64.wrap (t199 + 1)), (((IntKind.u64.wrap (t199 + 1)) == 0)), (by first | rfl | (simp; done) | (simp [*]; done)), (by first | rfl | (simp; done) | (simp [*]; done)), H', ⟨by have := HJ4.out; have := HJ15.out; have := HJ28.out; first | omega | exact Nat.le_refl _⟩, ⟨by (with_reducible repeat (first | refine blk_drewN ?_ _ | refine blk_drew ?_ | refine blk_alloc ?_ _)); exact BK193.out⟩, ⟨by (with_reducible repeat (first | refine blk_drewN ?_ _ | refine blk_drew ?_ | refine blk_alloc ?_ _)); exact BK202.out⟩, ⟨by repeat (first | (with_reducible first | exact HB.out | apply below_alloc | apply pw_below_drewN | apply below_drew1 | refine below_set ?_ GE193.out | refine below_set ?_ GE202.out) | exact HB.out)⟩⟩
         ·replace c49 := Bool.eq_false_iff.mpr c49
          subst c49
          have H1 : (flywheelref02_Did.j3 kj28 x10_15 t199 t200) = some (r1, r2) := by rw [if_neg (show ¬ (false = true) by decide)] at H; exact H
          clear H
          have H := H1
          clear H1
          have H' := Aside0.mk H
          clear H
          go_wp2
          repeat (go_quiet (fail); try go_wp2)
          go_meet
          case rel => exact ⟨_, (t199), (t200), (by first | rfl | (simp; done) | (simp [*]; done)), (by first | rfl | (simp; done) | (simp [*]; done)), H', ⟨by have := HJ4.out; have := HJ15.out; have := HJ28.out; first | omega | exact Nat.le_refl _⟩, ⟨by (with_reducible repeat (first | refine blk_drewN ?_ _ | refine blk_drew ?_ | refine blk_alloc ?_ _)); exact BK193.out⟩, ⟨by (with_reducible repeat (first | refine blk_drewN ?_ _ | refine blk_drew ?_ | refine blk_alloc ?_ _)); exact BK202.out⟩, ⟨by repeat (first | (with_reducible first | exact HB.out | apply below_alloc | apply pw_below_drewN | apply below_drew1 | refine below_set ?_ GE193.out | refine below_set ?_ GE202.out) | exact HB.out)⟩⟩
        case rest =>
         clear HC46
         try clear c2
         try clear p2
         try clear c3
         try clear c4
         try clear c5
         try clear c7
         try clear c7b0
         try clear c7b1
         try clear c8
         try clear c8b0
         try clear c9
         try clear c20
         try clear c22
         try clear c22b0
         try clear c23
         try clear c23b0
         try clear c24
         try clear c24b0
         try clear c25
         try clear c25b0
         try clear c26
         try clear c26b0
         try clear c27
         try clear c27b0
         try clear c28
         try clear c28b0
         try clear c30
         try clear c30b0
         try clear c30b1
         try clear c31
         try clear c33
         try clear c33b0
         try clear c33b1
         try clear c34
         try clear c36
         try clear c36b0
         try clear c36b1
         try clear c37
         try clear c39
         try clear c41
         try clear c44
         try clear c47
         try clear c49
         try clear c50
         try clear hcz10_0
         try clear hcz10_1
         try clear hcz21_0
         try clear hcz21_1
         try clear hcz21_2
         try clear hcz32_0
         try clear hcz32_1
         try clear hcz32_2
         try clear hcz35_0
         try clear hcz35_1
         try clear hcz35_2
         try clear hcz38_0
         try clear hcz38_1
         try clear hcz38_2
         try clear hcz42_0
         try clear hcz42_1
         try clear hcz42_2
         try clear hcz45_0
         try clear hcz45_1
         try clear hcz45_2
         try clear hcz48_0
         try clear hcz48_1
         try clear hcz48_2
         try clear hfz10_0
         try clear hfz10_1
         try clear hfz21_0
         try clear hfz21_1
         try clear hfz21_2
         try clear hfz32_0
         try clear hfz32_1
         try clear hfz32_2
         try clear hfz35_0
         try clear hfz35_1
         try clear hfz35_2
         try clear hfz38_0
         try clear hfz38_1
         try clear hfz38_2
         try clear hfz42_0
         try clear hfz42_1
         try clear hfz42_2
         try clear hfz45_0
         try clear hfz45_1
         try clear hfz45_2
         try clear hfz48_0
         try clear hfz48_1
         try clear hfz48_2
         try clear p2
         obtain ⟨kq, x12_45, x13_45, rfl, rfl, HA, HJ45, BK193, BK202, HB⟩ := hcut
         cases kq with
         | zero => exact absurd HA.out (by simp [flywheelref02_Did.j3])
         | succ kj45 =>
          have H := HA.out
          clear HA
          simp only [flywheelref02_Did.j3] at H
          by_cases c51 : x10_15 = true
          ·subst c51
           have H1 : (if x13_45 = true then (flywheelref02_Did.j4 kj45 x12_45 true) else (flywheelref02_Did.j4 kj45 x12_45 (decide (x12_45 > 9223372036854775808)))) = some (r1, r2) := by rw [if_pos rfl] at H; exact H
           clear H
           have H := H1
           clear H1
           have HC52 := Aside0.mk H
           clear H
           go_upto_region 19 with (fail)
           repeat (go_quiet (fail); go_upto_region 19 with (fail))
           go_cut [89] (fun v89 wc => ∃ (kq : Nat) (x89_51 : Bool), v89 = .bool x89_51 ∧ Aside0 (flywheelref02_Did.j4 kq x12_45 x89_51 = some (r1, r2)) ∧ Aside0 (kq ≤ kj45) ∧ Aside0 (wc.heap[gb193]? = some (.cells #[.int .i64 0, .bool false] 53 (0, 0))) ∧ Aside0 (wc.heap[gb202]? = some (.cells #[.int .u64 t199, .bool t200, .int .u64 t201] 66 (0, 0))) ∧ Aside0 (Below w.heap.size w wc))
           case first =>
            have H := HC52.out
            clear HC52
            by_cases c53 : x13_45 = true
            ·subst c53
             have H1 : (flywheelref02_Did.j4 kj45 x12_45 true) = some (r1, r2) := by rw [if_pos rfl] at H; exact H
             clear H
             have H := H1
             clear H1
             have H' := Aside0.mk H
             clear H
             go_wp2
             repeat (go_quiet (fail); try go_wp2)
             go_meet
             case rel => exact ⟨_, (true), (by first | rfl | (simp; done) | (simp [*]; done)), H', ⟨by have := HJ4.out; have := HJ15.out; have := HJ28.out; have := HJ45.out; first | omega | exact Nat.le_refl _⟩, ⟨by (with_reducible repeat (first | refine blk_drewN ?_ _ | refine blk_drew ?_ | refine blk_alloc ?_ _)); exact BK193.out⟩, ⟨by (with_reducible repeat (first | refine blk_drewN ?_ _ | refine blk_drew ?_ | refine blk_alloc ?_ _)); exact BK202.out⟩, ⟨by repeat (first | (with_reducible first | exact HB.out | apply below_alloc | apply pw_below_drewN | apply below_drew1 | refine below_set ?_ GE193.out | refine below_set ?_ GE202.out) | exact HB.out)⟩⟩
            ·replace c53 := Bool.eq_false_iff.mpr c53
             subst c53
             have H1 : (flywheelref02_Did.j4 kj45 x12_45 (decide (x12_45 > 9223372036854775808))) = some (r1, r2) := by rw [if_neg (show ¬ (false = true) by decide)] at H; exact H
             clear H
             have H := H1
             clear H1
             have H' := Aside0.mk H
             clear H
             go_wp2
             repeat (go_quiet (fail); try go_wp2)
             go_meet
             case rel => exact ⟨_, (decide (x12_45 > 9223372036854775808)), (by first | rfl | (simp; done) | (simp [*]; done)), H', ⟨by have := HJ4.out; have := HJ15.out; have := HJ28.out; have := HJ45.out; first | omega | exact Nat.le_refl _⟩, ⟨by (with_reducible repeat (first | refine blk_drewN ?_ _ | refine blk_drew ?_ | refine blk_alloc ?_ _)); exact BK193.out⟩, ⟨by (with_reducible repeat (first | refine blk_drewN ?_ _ | refine blk_drew ?_ | refine blk_alloc ?_ _)); exact BK202.out⟩, ⟨by repeat (first | (with_reducible first | exact HB.out | apply below_alloc | apply pw_below_drewN | apply below_drew1 | refine below_set ?_ GE193.out | refine below_set ?_ GE202.out) | exact HB.out)⟩⟩
           case rest =>
            clear HC52
            try clear c2
            try clear p2
            try clear c3
            try clear c4
            try clear c5
            try clear c7
            try clear c7b0
            try clear c7b1
            try clear c8
            try clear c8b0
            try clear c9
            try clear c20
            try clear c22
            try clear c22b0
            try clear c23
            try clear c23b0
            try clear c24
            try clear c24b0
            try clear c25
            try clear c25b0
            try clear c26
            try clear c26b0
            try clear c27
            try clear c27b0
            try clear c28
            try clear c28b0
            try clear c30
            try clear c30b0
            try clear c30b1
            try clear c31
            try clear c33
            try clear c33b0
            try clear c33b1
            try clear c34
            try clear c36
            try clear c36b0
            try clear c36b1
            try clear c37
            try clear c39
            try clear c41
            try clear c44
            try clear c47
            try clear c49
            try clear c50
            try clear c51
            try clear c53
            try clear hcz10_0
            try clear hcz10_1
            try clear hcz21_0
            try clear hcz21_1
            try clear hcz21_2
            try clear hcz32_0
            try clear hcz32_1
            try clear hcz32_2
            try clear hcz35_0
            try clear hcz35_1
            try clear hcz35_2
            try clear hcz38_0
            try clear hcz38_1
            try clear hcz38_2
            try clear hcz42_0
            try clear hcz42_1
            try clear hcz42_2
            try clear hcz45_0
            try clear hcz45_1
            try clear hcz45_2
            try clear hcz48_0
            try clear hcz48_1
            try clear hcz48_2
            try clear hfz10_0
            try clear hfz10_1
            try clear hfz21_0
            try clear hfz21_1
            try clear hfz21_2
            try clear hfz32_0
            try clear hfz32_1
            try clear hfz32_2
            try clear hfz35_0
            try clear hfz35_1
            try clear hfz35_2
            try clear hfz38_0
            try clear hfz38_1
            try clear hfz38_2
            try clear hfz42_0
            try clear hfz42_1
            try clear hfz42_2
            try clear hfz45_0
            try clear hfz45_1
            try clear hfz45_2
            try clear hfz48_0
            try clear hfz48_1
            try clear hfz48_2
            try clear p2
            obtain ⟨kq, x89_51, rfl, HA, HJ51, BK193, BK202, HB⟩ := hcut
            cases kq with
            | zero => exact absurd HA.out (by simp [flywheelref02_Did.j4])
            | succ kj51 =>
             have H := HA.out
             clear HA
             simp only [flywheelref02_Did.j4] at H
             by_cases c54 : x89_51 = true
             ·subst c54
              have H1 : (some ((-9223372036854775808), false)) = some (r1, r2) := by rw [if_pos rfl] at H; exact H
              clear H
              have H := H1
              clear H1
              simp only [Option.some.injEq, Prod.mk.injEq] at H
              obtain ⟨rfl, rfl⟩ := H
              have hnb55 := NB193_202.out
              have hnc55 := NB202_193.out
              have hcz56_0 : wc.cell? ⟨gb193, 0, none⟩ = some (.int .i64 0) := (blk_cell BK193.out 0).trans rfl
              have hcz56_1 : wc.cell? ⟨gb193, 1, none⟩ = some (.bool false) := (blk_cell BK193.out 1).trans rfl
              have hfz56_0 := blk_frozen BK193.out 0
              have hfz56_1 := blk_frozen BK193.out 1
              go_wp2
              repeat (go_quiet (fail); try go_wp2)
              refine bodyPost_ret (results_cell_row rfl _ _ gb193 53 #[.int .i64 (-9223372036854775808), .bool false] (0, 0) _ rfl (by (with_reducible repeat (first | refine blk_drewN ?_ _ | refine blk_drew ?_ | refine blk_alloc ?_ _)); refine blk_put (cs := #[.int .i64 (-9223372036854775808), .bool false]) ?_ 1 _ rfl; (with_reducible repeat (first | refine blk_drewN ?_ _ | refine blk_drew ?_ | refine blk_alloc ?_ _)); refine blk_put (cs := #[.int .i64 0, .bool false]) ?_ 0 _ rfl; (with_reducible repeat (first | refine blk_drewN ?_ _ | refine blk_drew ?_ | refine blk_alloc ?_ _)); exact BK193.out) Tryd.underlying53 rfl (by kernel_rfl)) rfl ?_
              exact ⟨by first | rfl | (simp [errW_none, errW_some] <;> rfl) | (simp [*, errW_none, errW_some] <;> rfl), by repeat (first | (with_reducible first | exact HB.out | apply below_alloc | apply pw_below_drewN | apply below_drew1 | refine below_set ?_ GE193.out | refine below_set ?_ GE202.out) | exact HB.out)⟩
             ·replace c54 := Bool.eq_false_iff.mpr c54
              subst c54
              have H1 : (some (wrap64 (-(wrap64 (x12_45))), true)) = some (r1, r2) := by rw [if_neg (show ¬ (false = true) by decide)] at H; exact H
              clear H
              have H := H1
              clear H1
              simp only [Option.some.injEq, Prod.mk.injEq] at H
              obtain ⟨rfl, rfl⟩ := H
              have hnb57 := NB193_202.out
              have hnc57 := NB202_193.out
              have hcz58_0 : wc.cell? ⟨gb193, 0, none⟩ = some (.int .i64 0) := (blk_cell BK193.out 0).trans rfl
              have hcz58_1 : wc.cell? ⟨gb193, 1, none⟩ = some (.bool false) := (blk_cell BK193.out 1).trans rfl
              have hfz58_0 := blk_frozen BK193.out 0
              have hfz58_1 := blk_frozen BK193.out 1
              go_wp2
              repeat (go_quiet (fail); try go_wp2)
              refine bodyPost_ret (results_cell_row rfl _ _ gb193 53 #[.int .i64 (wrap64 (-(wrap64 (x12_45)))), .bool true] (0, 0) _ rfl (by (with_reducible repeat (first | refine blk_drewN ?_ _ | refine blk_drew ?_ | refine blk_alloc ?_ _)); refine blk_put (cs := #[.int .i64 (wrap64 (-(wrap64 (x12_45)))), .bool false]) ?_ 1 _ rfl; (with_reducible repeat (first | refine blk_drewN ?_ _ | refine blk_drew ?_ | refine blk_alloc ?_ _)); refine blk_put (cs := #[.int .i64 0, .bool false]) ?_ 0 _ rfl; (with_reducible repeat (first | refine blk_drewN ?_ _ | refine blk_drew ?_ | refine blk_alloc ?_ _)); exact BK193.out) Tryd.underlying53 rfl (by kernel_rfl)) rfl ?_
              exact ⟨by first | rfl | (simp [errW_none, errW_some] <;> rfl) | (simp [*, errW_none, errW_some] <;> rfl), by repeat (first | (with_reducible first | exact HB.out | apply below_alloc | apply pw_below_drewN | apply below_drew1 | refine below_set ?_ GE193.out | refine below_set ?_ GE202.out) | exact HB.out)⟩
          ·replace c51 := Bool.eq_false_iff.mpr c51
           subst c51
           have H1 : (if x13_45 = true then (some (9223372036854775807, false)) else (if x12_45 > 9223372036854775807 then (some (9223372036854775807, false)) else (some (wrap64 (x12_45), true)))) = some (r1, r2) := by rw [if_neg (show ¬ (false = true) by decide)] at H; exact H
           clear H
           have H := H1
           clear H1
           by_cases c59 : x13_45 = true
           ·subst c59
            have H1 : (some (9223372036854775807, false)) = some (r1, r2) := by rw [if_pos rfl] at H; exact H
            clear H
            have H := H1
            clear H1
            simp only [Option.some.injEq, Prod.mk.injEq] at H
            obtain ⟨rfl, rfl⟩ := H
            have hnb60 := NB193_202.out
            have hnc60 := NB202_193.out
            have hcz61_0 : wc.cell? ⟨gb193, 0, none⟩ = some (.int .i64 0) := (blk_cell BK193.out 0).trans rfl
            have hcz61_1 : wc.cell? ⟨gb193, 1, none⟩ = some (.bool false) := (blk_cell BK193.out 1).trans rfl
            have hfz61_0 := blk_frozen BK193.out 0
            have hfz61_1 := blk_frozen BK193.out 1
            go_wp2
            repeat (go_quiet (fail); try go_wp2)
            refine bodyPost_ret (results_cell_row rfl _ _ gb193 53 #[.int .i64 9223372036854775807, .bool false] (0, 0) _ rfl (by (with_reducible repeat (first | refine blk_drewN ?_ _ | refine blk_drew ?_ | refine blk_alloc ?_ _)); refine blk_put (cs := #[.int .i64 9223372036854775807, .bool false]) ?_ 1 _ rfl; (with_reducible repeat (first | refine blk_drewN ?_ _ | refine blk_drew ?_ | refine blk_alloc ?_ _)); refine blk_put (cs := #[.int .i64 0, .bool false]) ?_ 0 _ rfl; (with_reducible repeat (first | refine blk_drewN ?_ _ | refine blk_drew ?_ | refine blk_alloc ?_ _)); exact BK193.out) Tryd.underlying53 rfl (by kernel_rfl)) rfl ?_
            exact ⟨by first | rfl | (simp [errW_none, errW_some] <;> rfl) | (simp [*, errW_none, errW_some] <;> rfl), by repeat (first | (with_reducible first | exact HB.out | apply below_alloc | apply pw_below_drewN | apply below_drew1 | refine below_set ?_ GE193.out | refine below_set ?_ GE202.out) | exact HB.out)⟩
           ·replace c59 := Bool.eq_false_iff.mpr c59
            subst c59
            have H1 : (if x12_45 > 9223372036854775807 then (some (9223372036854775807, false)) else (some (wrap64 (x12_45), true))) = some (r1, r2) := by rw [if_neg (show ¬ (false = true) by decide)] at H; exact H
            clear H
            have H := H1
            clear H1
            by_cases c62 : x12_45 > 9223372036854775807
            ·rw [if_pos c62] at H
             have c62b0 : decide (9223372036854775807 < x12_45) = true := decide_eq_true c62
             clear c62
             simp only [Option.some.injEq, Prod.mk.injEq] at H
             obtain ⟨rfl, rfl⟩ := H
             have hnb63 := NB193_202.out
             have hnc63 := NB202_193.out
             have hcz64_0 : wc.cell? ⟨gb193, 0, none⟩ = some (.int .i64 0) := (blk_cell BK193.out 0).trans rfl
             have hcz64_1 : wc.cell? ⟨gb193, 1, none⟩ = some (.bool false) := (blk_cell BK193.out 1).trans rfl
             have hfz64_0 := blk_frozen BK193.out 0
             have hfz64_1 := blk_frozen BK193.out 1
             go_wp2
             repeat (go_quiet (fail); try go_wp2)
             refine bodyPost_ret (results_cell_row rfl _ _ gb193 53 #[.int .i64 9223372036854775807, .bool false] (0, 0) _ rfl (by (with_reducible repeat (first | refine blk_drewN ?_ _ | refine blk_drew ?_ | refine blk_alloc ?_ _)); refine blk_put (cs := #[.int .i64 9223372036854775807, .bool false]) ?_ 1 _ rfl; (with_reducible repeat (first | refine blk_drewN ?_ _ | refine blk_drew ?_ | refine blk_alloc ?_ _)); refine blk_put (cs := #[.int .i64 0, .bool false]) ?_ 0 _ rfl; (with_reducible repeat (first | refine blk_drewN ?_ _ | refine blk_drew ?_ | refine blk_alloc ?_ _)); exact BK193.out) Tryd.underlying53 rfl (by kernel_rfl)) rfl ?_
             exact ⟨by first | rfl | (simp [errW_none, errW_some] <;> rfl) | (simp [*, errW_none, errW_some] <;> rfl), by repeat (first | (with_reducible first | exact HB.out | apply below_alloc | apply pw_below_drewN | apply below_drew1 | refine below_set ?_ GE193.out | refine below_set ?_ GE202.out) | exact HB.out)⟩
            ·rw [if_neg c62] at H
             have c62b0 : decide (9223372036854775807 < x12_45) = false := decide_eq_false c62
             clear c62
             simp only [Option.some.injEq, Prod.mk.injEq] at H
             obtain ⟨rfl, rfl⟩ := H
             have hnb65 := NB193_202.out
             have hnc65 := NB202_193.out
             have hcz66_0 : wc.cell? ⟨gb193, 0, none⟩ = some (.int .i64 0) := (blk_cell BK193.out 0).trans rfl
             have hcz66_1 : wc.cell? ⟨gb193, 1, none⟩ = some (.bool false) := (blk_cell BK193.out 1).trans rfl
             have hfz66_0 := blk_frozen BK193.out 0
             have hfz66_1 := blk_frozen BK193.out 1
             go_wp2
             repeat (go_quiet (fail); try go_wp2)
             refine bodyPost_ret (results_cell_row rfl _ _ gb193 53 #[.int .i64 (wrap64 (x12_45)), .bool true] (0, 0) _ rfl (by (with_reducible repeat (first | refine blk_drewN ?_ _ | refine blk_drew ?_ | refine blk_alloc ?_ _)); refine blk_put (cs := #[.int .i64 (wrap64 (x12_45)), .bool false]) ?_ 1 _ rfl; (with_reducible repeat (first | refine blk_drewN ?_ _ | refine blk_drew ?_ | refine blk_alloc ?_ _)); refine blk_put (cs := #[.int .i64 0, .bool false]) ?_ 0 _ rfl; (with_reducible repeat (first | refine blk_drewN ?_ _ | refine blk_drew ?_ | refine blk_alloc ?_ _)); exact BK193.out) Tryd.underlying53 rfl (by kernel_rfl)) rfl ?_
             exact ⟨by first | rfl | (simp [errW_none, errW_some] <;> rfl) | (simp [*, errW_none, errW_some] <;> rfl), by repeat (first | (with_reducible first | exact HB.out | apply below_alloc | apply pw_below_drewN | apply below_drew1 | refine below_set ?_ GE193.out | refine below_set ?_ GE202.out) | exact HB.out)⟩
end Go.Proofs.YtkfkbebpcmmnfaaDoor.P
end

section
namespace Go.Proofs.YtkfkbebpcmmnfaaDoor.P
open Go.RowKit Go.Proofs.YtkfkbebpcmmnfaaDoorW.PrintWords Go.Proofs.YtkfkbebpcmmnfaaDoorW.PrintLast Go.Proofs.YtkfkbebpcmmnfaaDoorW.PrintMore
attribute [local go_sem] max2_int min2_int max_two min_two max_three min_three max_four min_four   -- for this text's walks alone
set_option linter.unusedVariables false
set_option linter.unusedSimpArgs false
theorem rsize (a : Int) (h : isI64 a) : flywheelref02_size.f a = some (if a < 0 then -a else a) := by
 unfold isI64 at h
 unfold flywheelref02_size.f wrap64
 simp only [u64_mod]
 split
 ·congr 1; omega
 ·congr 1; omega
theorem times_ok (a b : Int) (ha : 0 ≤ a) (ha1 : a < 18446744073709551616) (hb : 0 ≤ b) (hb1 : b < 18446744073709551616) :
  flywheelref02_times.f a b = some (a * b / 18446744073709551616, a * b % 18446744073709551616) := by
 obtain ⟨x, rfl⟩ := Int.eq_ofNat_of_zero_le ha
 obtain ⟨y, rfl⟩ := Int.eq_ofNat_of_zero_le hb
 have hx : x < 18446744073709551616 := by omega
 have hy : y < 18446744073709551616 := by omega
 have e1 : Go.bits .and .u64 (x : Int) 4294967295 = ((x % 4294967296 : Nat) : Int) := by rw [and_low32 _ ha (by omega)]; omega
 have e2 : Go.bits .and .u64 (y : Int) 4294967295 = ((y % 4294967296 : Nat) : Int) := by rw [and_low32 _ hb (by omega)]; omega
 have d1 : (x : Int) / 4294967296 = ((x / 4294967296 : Nat) : Int) := by omega
 have d2 : (y : Int) / 4294967296 = ((y / 4294967296 : Nat) : Int) := by omega
 have sp : x * y = (x / 4294967296) * (y / 4294967296) * (4294967296 * 4294967296) + ((x / 4294967296) * (y % 4294967296) + (x % 4294967296) * (y / 4294967296)) * 4294967296 + (x % 4294967296) * (y % 4294967296) := by
  rw [← Lib.split_mul, Nat.div_add_mod' x 4294967296, Nat.div_add_mod' y 4294967296]
 unfold flywheelref02_times.f
 rw [e1, e2, d1, d2]
 simp only [← Int.natCast_mul]
 have b2 := Lib.half_mul_le (a := x % 4294967296) (b := y % 4294967296) (by omega) (by omega)
 have b3 := Lib.half_mul_le (a := x / 4294967296) (b := y % 4294967296) (by omega) (by omega)
 have b4 := Lib.half_mul_le (a := x % 4294967296) (b := y / 4294967296) (by omega) (by omega)
 have b5 := Lib.half_mul_le (a := x / 4294967296) (b := y / 4294967296) (by omega) (by omega)
 rw [sp]
 generalize (x % 4294967296) * (y % 4294967296) = w0 at *
 generalize (x / 4294967296) * (y % 4294967296) = p1 at *
 generalize (x % 4294967296) * (y / 4294967296) = p2 at *
 generalize (x / 4294967296) * (y / 4294967296) = p3 at *
 have w1 : IntKind.u64.wrap ((w0 : Nat) : Int) = (w0 : Int) := u64_id _ (by omega) (by omega)
 have w2 : IntKind.u64.wrap ((p1 : Nat) : Int) = (p1 : Int) := u64_id _ (by omega) (by omega)
 have w3 : IntKind.u64.wrap ((p2 : Nat) : Int) = (p2 : Int) := u64_id _ (by omega) (by omega)
 have w4 : IntKind.u64.wrap ((p3 : Nat) : Int) = (p3 : Int) := u64_id _ (by omega) (by omega)
 rw [w1, w2, w3, w4]
 have t : (p1 : Int) + (w0 : Int) / 4294967296 = ((p1 + w0 / 4294967296 : Nat) : Int) := by omega
 rw [t]
 generalize hT : p1 + w0 / 4294967296 = T at *
 have w5 : IntKind.u64.wrap ((T : Nat) : Int) = (T : Int) := u64_id _ (by omega) (by omega)
 have e3 : Go.bits .and .u64 (T : Int) 4294967295 = ((T % 4294967296 : Nat) : Int) := by rw [and_low32 _ (by omega) (by omega)]; omega
 have e4 : Go.bits .and .u64 (w0 : Int) 4294967295 = ((w0 % 4294967296 : Nat) : Int) := by rw [and_low32 _ (by omega) (by omega)]; omega
 rw [w5, e3, e4]
 rw [u64_id ((p2 : Int) + ((T % 4294967296 : Nat) : Int)) (by omega) (by omega), u64_id ((p3 : Int) + (T : Int) / 4294967296) (by omega) (by omega), u64_id _ (by omega) (by omega), u64_mod, u64_mod]
 congr 2
 ·omega
 ·omega
theorem part_loop (c : Int) (hc : 0 < c) (hc1 : c ≤ 9223372036854775808) (n : Nat) (hn : n ≤ 128) : ∀ (hi lo q : Int) (over : Bool) (left T U : Int), 0 ≤ hi → hi < 18446744073709551616 → 0 ≤ lo → lo < 18446744073709551616 → 0 ≤ q → q < 18446744073709551616 → 0 ≤ left → left < c →
  (hi * 18446744073709551616 + lo) * pw n = T * 340282366920938463463374607431768211456 + U → 0 ≤ U → U < 340282366920938463463374607431768211456 →
  flywheelref02_part.l0 (n + 1) c ((n : Int) - 1) hi lo q over left = some ((q * pw n + (left * pw n + T) / c) % 18446744073709551616, over || decide (18446744073709551616 ≤ q * pw n + (left * pw n + T) / c), (left * pw n + T) % c) := by
 induction n with
 | zero =>
  intro hi lo q over left T U h0 h1 l0 l1 q0 q1 f0 f1 e u0 u1
  have p0 : pw 0 = 1 := rfl
  rw [p0, Int.mul_one] at e
  have hT : T = 0 := by omega
  subst hT
  simp only [flywheelref02_part.l0]
  rw [if_neg (by omega), p0, Int.mul_one, Int.mul_one, Int.add_zero, Int.ediv_eq_zero_of_lt f0 f1, Int.emod_eq_of_lt f0 f1, Int.add_zero, Int.emod_eq_of_lt q0 q1, decide_eq_false (by omega), Bool.or_false]
 | succ n ih =>
  intro hi lo q over left T U h0 h1 l0 l1 q0 q1 f0 f1 e u0 u1
  have IH := ih (by omega)
  have pp := pw_pos n
  have w1 : IntKind.u64.wrap (IntKind.u64.wrap (left * 2) + hi / 9223372036854775808) = left * 2 + hi / 9223372036854775808 := by rw [u64_id (left * 2) (by omega) (by omega), u64_id _ (by omega) (by omega)]
  have w2 : wrap64 (((n + 1 : Nat) : Int) - 1 - 1) = (n : Int) - 1 := by unfold wrap64; omega
  rw [pw_succ] at e ⊢
  -- the shifted number
  have sh : IntKind.u64.wrap (IntKind.u64.wrap (hi * 2) + lo / 9223372036854775808) = hi * 2 + lo / 9223372036854775808 - hi / 9223372036854775808 * 18446744073709551616 := by simp only [u64_mod]; omega
  have sl : IntKind.u64.wrap (lo * 2) = lo * 2 - lo / 9223372036854775808 * 18446744073709551616 := by simp only [u64_mod]; omega
  have b01 : hi / 9223372036854775808 = 0 ∨ hi / 9223372036854775808 = 1 := by omega
  have e' : ((hi * 2 + lo / 9223372036854775808 - hi / 9223372036854775808 * 18446744073709551616) * 18446744073709551616 + (lo * 2 - lo / 9223372036854775808 * 18446744073709551616)) * pw n = (T - hi / 9223372036854775808 * pw n) * 340282366920938463463374607431768211456 + U := by
   have : (hi * 2 + lo / 9223372036854775808 - hi / 9223372036854775808 * 18446744073709551616) * 18446744073709551616 + (lo * 2 - lo / 9223372036854775808 * 18446744073709551616) = (hi * 18446744073709551616 + lo) * 2 - hi / 9223372036854775808 * 340282366920938463463374607431768211456 := by omega
   rw [this, Int.sub_mul, Int.mul_assoc, e, Int.sub_mul, Int.mul_right_comm]
   omega
  -- the two ways of a round
  have way : ∀ (ov : Bool), (if left * 2 + hi / 9223372036854775808 ≥ c then
     flywheelref02_part.l0 (n + 1) c ((n : Int) - 1) (hi * 2 + lo / 9223372036854775808 - hi / 9223372036854775808 * 18446744073709551616) (lo * 2 - lo / 9223372036854775808 * 18446744073709551616) (IntKind.u64.wrap (IntKind.u64.wrap (q * 2) + 1)) ov (IntKind.u64.wrap (left * 2 + hi / 9223372036854775808 - c))
    else flywheelref02_part.l0 (n + 1) c ((n : Int) - 1) (hi * 2 + lo / 9223372036854775808 - hi / 9223372036854775808 * 18446744073709551616) (lo * 2 - lo / 9223372036854775808 * 18446744073709551616) (IntKind.u64.wrap (q * 2)) ov (left * 2 + hi / 9223372036854775808)) =
    some ((q * (2 * pw n) + (left * (2 * pw n) + T) / c) % 18446744073709551616, ov || decide (18446744073709551616 ≤ (q * 2 - q / 9223372036854775808 * 18446744073709551616) * pw n + (left * (2 * pw n) + T) / c), (left * (2 * pw n) + T) % c) := by
   intro ov
   have W : left * (2 * pw n) + T = (left * 2 + hi / 9223372036854775808) * pw n + (T - hi / 9223372036854775808 * pw n) := by rw [Int.add_mul, Int.mul_assoc]; omega
   have s2 : IntKind.u64.wrap (q * 2) = q * 2 - q / 9223372036854775808 * 18446744073709551616 := by simp only [u64_mod]; omega
   have s1 : IntKind.u64.wrap (IntKind.u64.wrap (q * 2) + 1) = q * 2 - q / 9223372036854775808 * 18446744073709551616 + 1 := by simp only [u64_mod]; omega
   have Q2 : (q * (2 * pw n)) = (q * 2 - q / 9223372036854775808 * 18446744073709551616) * pw n + 18446744073709551616 * (q / 9223372036854775808 * pw n) := by rw [Int.sub_mul, Int.mul_assoc, Int.mul_right_comm]; omega
   by_cases hge : left * 2 + hi / 9223372036854775808 ≥ c
   ·rw [if_pos hge, s1, u64_id (left * 2 + hi / 9223372036854775808 - c) (by omega) (by omega)]
    rw [IH _ _ _ ov _ _ U (by omega) (by omega) (by omega) (by omega) (by omega) (by omega) (by omega) (by omega) e' u0 u1]
    have X : (left * 2 + hi / 9223372036854775808 - c) * pw n + (T - hi / 9223372036854775808 * pw n) = left * (2 * pw n) + T + (-(pw n)) * c := by rw [W, Int.sub_mul, Int.neg_mul, Int.mul_comm c]; omega
    rw [X, Int.add_mul_ediv_right _ _ (by omega), Int.add_mul_emod_self_right, Q2]
    generalize (q * 2 - q / 9223372036854775808 * 18446744073709551616) = z at *
    have Z : (z + 1) * pw n + ((left * (2 * pw n) + T) / c + -pw n) = z * pw n + (left * (2 * pw n) + T) / c := by rw [Int.add_mul]; omega
    rw [Z]
    congr 2
    omega
   ·rw [if_neg hge, s2, IH _ _ _ ov _ _ U (by omega) (by omega) (by omega) (by omega) (by omega) (by omega) (by omega) (by omega) e' u0 u1, ← W, Q2]
    generalize (q * 2 - q / 9223372036854775808 * 18446744073709551616) = z at *
    congr 2
    omega
  have T0 : 0 ≤ (left * (2 * pw n) + T) / c := by
   apply Int.ediv_nonneg _ (by omega)
   have a1 := Int.mul_nonneg f0 (show 0 ≤ 2 * pw n by omega)
   have a2 := Int.mul_nonneg (show 0 ≤ hi * 18446744073709551616 + lo by omega) (show 0 ≤ 2 * pw n by omega)
   omega
  have final : ∀ ov : Bool, ov = (over || ((q / 9223372036854775808) == 1)) → (ov || decide (18446744073709551616 ≤ (q * 2 - q / 9223372036854775808 * 18446744073709551616) * pw n + (left * (2 * pw n) + T) / c)) = (over || decide (18446744073709551616 ≤ q * (2 * pw n) + (left * (2 * pw n) + T) / c)) := by
   intro ov hov
   subst hov
   cases over with
   | true => rfl
   | false =>
    simp only [Bool.false_or]
    have q01 : q / 9223372036854775808 = 0 ∨ q / 9223372036854775808 = 1 := by omega
    rcases q01 with hq | hq
    ·rw [hq, Int.zero_mul, Int.sub_zero, Int.mul_assoc]; simp
    ·have a3 : 9223372036854775808 * (2 * pw n) ≤ q * (2 * pw n) := Int.mul_le_mul_of_nonneg_right (by omega) (by omega)
     rw [hq, decide_eq_true (show 18446744073709551616 ≤ q * (2 * pw n) + (left * (2 * pw n) + T) / c by omega)]
     rfl
  rw [flywheelref02_part.l0]
  rw [if_pos (by omega)]
  simp only [w1, w2, sh, sl]
  cases over with
  | true =>
   rw [if_pos rfl, way true, final true (by simp)]
  | false =>
   rw [if_neg (by simp), way _, final _ (by simp)]
theorem part_ok (N c : Int) (hN : 0 ≤ N) (hN1 : N < 340282366920938463463374607431768211456) (hc : 0 < c) (hc1 : c ≤ 9223372036854775808) :
  flywheelref02_part.f 129 (N / 18446744073709551616) (N % 18446744073709551616) c = some (N / c % 18446744073709551616, decide (18446744073709551616 ≤ N / c), N % c) := by
 unfold flywheelref02_part.f
 have p : pw 128 = 340282366920938463463374607431768211456 := rfl
 have h := part_loop c hc hc1 128 (Nat.le_refl _) (N / 18446744073709551616) (N % 18446744073709551616) 0 false 0 N 0 (by omega) (by omega) (by omega) (by omega) (by omega) (by omega) (by omega) hc (by rw [p]; omega) (by omega) (by omega)
 simp only [Int.zero_mul, Int.zero_add, Bool.false_or] at h
 exact h
theorem did_tail (below ov : Bool) (q V : Int) (k : Nat) (h0 : 0 ≤ V) (hq : q = V % 18446744073709551616) (hov : ov = decide (18446744073709551616 ≤ V)) :
  flywheelref02_Did.j3 (k + 2) below q ov = some (hold64 (if below = true then -V else V)) := by
 subst hq; subst hov
 by_cases hb : 18446744073709551616 ≤ V
 ·rw [decide_eq_true hb]
  cases below with
  | true =>
   simp only [flywheelref02_Did.j3, flywheelref02_Did.j4, if_true]
   unfold hold64
   rw [if_pos (by omega)]
  | false =>
   simp only [flywheelref02_Did.j3, if_true, Bool.false_eq_true, if_false]
   unfold hold64
   rw [if_neg (by omega), if_pos (by omega)]
 ·rw [decide_eq_false hb, Int.emod_eq_of_lt h0 (by omega)]
  cases below with
  | true =>
   simp only [flywheelref02_Did.j3, flywheelref02_Did.j4, if_true, Bool.false_eq_true, if_false]
   unfold hold64
   by_cases hl : V > 9223372036854775808
   ·rw [decide_eq_true hl, if_pos rfl, if_pos (by omega)]
   ·rw [decide_eq_false hl, if_neg (by simp), if_neg (by omega), if_neg (by omega)]
    congr 2
    unfold wrap64; omega
  | false =>
   simp only [flywheelref02_Did.j3, Bool.false_eq_true, if_false]
   unfold hold64
   by_cases hl : V > 9223372036854775807
   ·rw [if_pos hl, if_neg (by omega), if_pos hl]
   ·rw [if_neg hl, if_neg (by omega), if_neg hl]
    congr 2
    unfold wrap64; omega
theorem did_j2 (below up : Bool) (Q L : Int) (k : Nat) (h0 : 0 ≤ Q) :
  flywheelref02_Did.j2 (k + 3) below up (Q % 18446744073709551616) (decide (18446744073709551616 ≤ Q)) L = some (hold64 (if below = true then -(Q + if up = true then 1 else 0) else Q + if up = true then 1 else 0)) := by
 cases up with
 | false =>
  simp only [flywheelref02_Did.j2, Bool.false_eq_true, if_false, Int.add_zero]
  exact did_tail below _ _ Q k h0 rfl rfl
 | true =>
  simp only [flywheelref02_Did.j2, if_true]
  have e : IntKind.u64.wrap (Q % 18446744073709551616 + 1) = (Q + 1) % 18446744073709551616 := by rw [u64_mod]; omega
  by_cases hb : 18446744073709551616 ≤ Q
  ·rw [decide_eq_true hb, if_pos rfl, e]
   exact did_tail below _ _ (Q + 1) k (by omega) rfl (decide_eq_true (by omega)).symm
  ·rw [decide_eq_false hb, if_neg (by simp), e]
   refine did_tail below _ _ (Q + 1) k (by omega) rfl ?_
   by_cases hz : Q = 18446744073709551615
   ·subst hz; rfl
   ·rw [decide_eq_false (by omega), beq_eq_false_iff_ne]; omega
theorem did_j1 (x2 how N C : Int) (below : Bool) (k : Nat) (hx : isI64 x2) (hC : C = if x2 < 0 then -x2 else x2) (hC0 : 0 < C) (hN : 0 ≤ N) (hh : how = 1 ∨ how = 2 ∨ how = 3) :
  flywheelref02_Did.j1 (k + 4) x2 how below (N / C % 18446744073709551616) (decide (18446744073709551616 ≤ N / C)) (N % C) = some (hold64 (rnd (if below = true then -N else N) C how)) := by
 have rs := rsize x2 hx
 rw [← hC] at rs
 have hCu : C ≤ 9223372036854775808 := by unfold isI64 at hx; rw [hC]; split <;> omega
 have r0 := Int.emod_nonneg N (show C ≠ 0 by omega)
 have r1 := Int.emod_lt_of_pos N hC0
 have q0 : 0 ≤ N / C := Int.ediv_nonneg hN (by omega)
 simp only [flywheelref02_Did.j1, rs, Option.bind_some]
 rw [u64_id (C - N % C) (by omega) (by omega)]
 have J := fun up => did_j2 below up (N / C) (N % C) k q0
 simp only [J]
 have c1 : ¬ C < 0 := by omega
 have c2 : ¬ C ≤ 0 := by omega
 cases below with
 | true =>
  simp only [if_true]
  rw [rnd_neg N C how hC0]
  have e1 : decide (N % C > C - N % C) = decide (C < 2 * (N % C)) := by rw [Bool.eq_iff_iff]; simp only [decide_eq_true_eq]; omega
  simp only [e1]
  by_cases hz : N % C = 0
  ·rcases hh with rfl | rfl | rfl <;> simp [hz, c1]
  ·have hp : 0 < N % C := by omega
   by_cases h : C < 2 * (N % C) <;> rcases hh with rfl | rfl | rfl <;> simp [hz, hp, h]
 | false =>
  simp only [Bool.false_eq_true, if_false]
  rw [rnd_pos N C how hC0]
  have e1 : decide (N % C ≥ C - N % C) = decide (C ≤ 2 * (N % C)) := by rw [Bool.eq_iff_iff]; simp only [decide_eq_true_eq]; omega
  simp only [e1]
  by_cases hz : N % C = 0
  ·rcases hh with rfl | rfl | rfl <;> simp [hz, c2]
  ·have hp : 0 < N % C := by omega
   by_cases h : C ≤ 2 * (N % C) <;> rcases hh with rfl | rfl | rfl <;> simp [hz, hp, h]
theorem did_ok (a b c how : Int) (ha : isI64 a) (hb : isI64 b) (hc : isI64 c) : flywheelref02_Did.f 130 a b c how = some (mdq a b c how) := by
 unfold flywheelref02_Did.f mdq
 by_cases hz : c = 0
 ·rw [if_pos hz, if_pos (Or.inl hz)]; rfl
 rw [if_neg hz]
 by_cases hl : how < 1
 ·rw [if_pos hl, if_pos (Or.inr (Or.inl hl))]; rfl
 rw [if_neg hl]
 by_cases hg : how > 3
 ·rw [decide_eq_true hg, if_pos (Or.inr (Or.inr hg))]; rfl
 rw [decide_eq_false hg, if_neg (by omega)]
 rw [flywheelref02_Did.j0, if_neg (by simp), rsize a ha, rsize b hb, rsize c hc]
 simp only [Option.bind_some]
 have ha' := ha; have hb' := hb; have hc' := hc
 unfold isI64 at ha' hb' hc'
 rw [times_ok _ _ (by split <;> omega) (by split <;> omega) (by split <;> omega) (by split <;> omega)]
 simp only [Option.bind_some]
 have hN := abs_mul_le (a := if a < 0 then -a else a) (b := if b < 0 then -b else b) (by split <;> omega) (by split <;> omega) (by split <;> omega) (by split <;> omega)
 have hN0 := Int.mul_nonneg (a := if a < 0 then -a else a) (b := if b < 0 then -b else b) (by split <;> omega) (by split <;> omega)
 rw [part_ok _ _ hN0 (by omega) (by split <;> omega) (by split <;> omega)]
 simp only [Option.bind_some]
 have J := fun bl => did_j1 c how ((if a < 0 then -a else a) * (if b < 0 then -b else b)) (if c < 0 then -c else c) bl 125 hc rfl (by split <;> omega) hN0 (by omega)
 simp only [J]
 by_cases h1 : a < 0 <;> by_cases h2 : b < 0 <;> by_cases h3 : c < 0 <;> simp [h1, h2, h3, Int.neg_mul, Int.mul_neg]
def flywheelref02_Did_s.f (a0 : Int) (a1 : Int) (a2 : Int) (a3 : Int) : Option (Int × Bool) := if isI64 a0 ∧ isI64 a1 ∧ isI64 a2 then some (mdq a0 a1 a2 a3) else none
theorem flywheelref02_Did_s.calls (a0 : Int) (a1 : Int) (a2 : Int) (a3 : Int) (r1 : Int) (r2 : Bool) (w : World) (h : flywheelref02_Did_s.f a0 a1 a2 a3 = some (r1, r2)) :
  Calls Tryd.prog 20 #[.int .i64 a0, .int .i64 a1, .int .i64 a2, .int .i64 a3] w fun e w' => e = .returned (.agg #[.int .i64 r1, .bool r2]) ∧ Below w.heap.size w w' := by
 unfold flywheelref02_Did_s.f at h
 split at h
 ·rename_i hb
  exact flywheelref02_Did.calls 130 a0 a1 a2 a3 r1 r2 w ((did_ok a0 a1 a2 a3 hb.1 hb.2.1 hb.2.2).trans h)
 ·cases h
def flywheelref02_Do.f (a0 : Int) (a1 : Int) (a2 : Int) (a3 : Int) : Option (Int) := (flywheelref02_Did_s.f a0 a1 a2 a3).bind fun bt205 => (some bt205.1)
set_option maxHeartbeats 8000000 in
set_option maxRecDepth 100000 in
theorem flywheelref02_Do.calls (a0 : Int) (a1 : Int) (a2 : Int) (a3 : Int) (r : Int) (w : World) (h : flywheelref02_Do.f a0 a1 a2 a3 = some r) :
  Calls Tryd.prog 18 #[.int .i64 a0, .int .i64 a1, .int .i64 a2, .int .i64 a3] w fun e w' => e = .returned (.int .i64 r) ∧ Below w.heap.size w w' := by
 have hfd53_0 : ∀ (v0 v1 : Value) (W : World), (Instr.field 53 (.agg #[v0, v1]) 0).run Tryd.prog W = .ok v0 W := fun _ _ _ => by kernel_rfl
 have HB := Aside0.mk (Below.refl w.heap.size w)
 have H : ((flywheelref02_Did_s.f a0 a1 a2 a3).bind fun bt205 => (some bt205.1)) = some r := h
 clear h
 replace H := Option.bind_eq_some_iff.mp H
 obtain ⟨⟨t205, t206⟩, A50, H⟩ := H
 replace H : (some t205) = some r := H
 have A5 := Aside0.mk A50
 clear A50
 obtain rfl := Option.some.inj H
 go_enter Tryd.func18, Tryd.ntmps18
 go_wp2_with (first | ((with_reducible refine gate_callee (f := 20) rfl ?_); refine goesL_ (some 13) rfl rfl Tryd.func20 (by kernel_rfl) rfl #[.int .i64 a0, .int .i64 a1, .int .i64 a2, .int .i64 a3] rfl (by (try simp only [List.map_toArray, List.map_cons, List.map_nil]); first | done | rfl | (simp only [List.length_drop, List.length_take]; rfl)) ?_; (with_reducible refine (flywheelref02_Did_s.calls a0 a1 a2 a3 t205 t206 _ A5.out).mono ?_); rintro e w6 ⟨rfl, hb⟩; refine ⟨_, rfl, ?_⟩; have n0_ := Aside0.mk (below_step (by repeat (first | (with_reducible first | exact HB.out | apply below_alloc | apply pw_below_drewN | apply below_drew1) | exact HB.out)) hb); clear HB; have HB := n0_; clear n0_; (try clear hb); (try clear hb2); (try clear hk); (try clear hi)))
 go_ret
 exact ⟨by first | rfl | (simp [errW_none, errW_some] <;> rfl) | (simp [*, errW_none, errW_some] <;> rfl), by repeat (first | (with_reducible first | exact HB.out | apply below_alloc | apply pw_below_drewN | apply below_drew1) | exact HB.out)⟩
end Go.Proofs.YtkfkbebpcmmnfaaDoor.P
end

section
namespace Go.Proofs.YtkfkbebpcmmnfaaDoor.P
open Go.RowKit Go.Proofs.YtkfkbebpcmmnfaaDoorW.PrintWords Go.Proofs.YtkfkbebpcmmnfaaDoorW.PrintLast Go.Proofs.YtkfkbebpcmmnfaaDoorW.PrintMore
attribute [local go_sem] max2_int min2_int max_two min_two max_three min_three max_four min_four   -- for this text's walks alone
set_option linter.unusedVariables false
set_option linter.unusedSimpArgs false
def flywheelref20_Lossy_Update.j0 : Nat → Int → Int → Bool → Int → Int → Int → Bool → Int → Option (Int × Int × Int × Int × Bool × Int)
 | 0, _, _, _, _, _, _, _, _ => none
 | k + 1, x1, x2, x24, x1000, x1001, x1002, x1003, x1004 => if x24 = true then (some (x1000, x1000, x1001, x1002, x1003, x1004)) else (if x1 < 6 then ((flywheelref02_Do.f x1000 105 100 3).bind fun t208 => ((flywheelref01_Clamp.f (wrap64 (t208 + 1000)) x1001 x1002).bind fun t209 => (some (t209, t209, x1001, x1002, true, x2)))) else (if x1 > 26 then ((flywheelref02_Do.f x1000 (wrap64 (512 - x1)) 512 1).bind fun t210 => ((flywheelref01_Clamp.f t210 x1001 x1002).bind fun t211 => (some (t211, t211, x1001, x1002, true, x2)))) else ((flywheelref01_Clamp.f x1000 x1001 x1002).bind fun t212 => (some (t212, t212, x1001, x1002, true, x2)))))
def flywheelref20_Lossy_Update.f (k : Nat) (s0_0 : Int) (s0_1 : Int) (s0_2 : Int) (s0_3 : Bool) (s0_4 : Int) (a1 : Int) (a2 : Int) : Option (Int × Int × Int × Int × Bool × Int) := (flywheelref01_Clamp.f a2 0 1125899906842624).bind fun t207 => (if s0_3 = true then (flywheelref20_Lossy_Update.j0 k (mx 0 (mn a1 256)) t207 (decide ((wrap64 (t207 - s0_4)) < 200000)) s0_0 s0_1 s0_2 s0_3 s0_4) else (flywheelref20_Lossy_Update.j0 k (mx 0 (mn a1 256)) t207 false s0_0 s0_1 s0_2 s0_3 s0_4))
def flywheelref20_Lossy_Update.T10 : Bool × List (List Nat × List Nat) := (true, [([], []), ([], []), ([1], [1]), ([2], [2]), ([3], [3]), ([], []), ([5], [5]), ([6], [6]), ([7], [7]), ([], []), ([9], [9]), ([10], [10]), ([11], [11]), ([4, 8, 12], [4, 8, 12]), ([0, 0, 1, 2, 3, 4, 5, 6, 7, 8, 9, 10, 11, 12, 13], [0]), ([14, 0, 1, 2, 3, 4, 5, 6, 7, 8, 9, 10, 11, 12, 13], [14]), ([15, 13, 13, 0, 1, 2, 3, 4, 5, 6, 7, 8, 9, 10, 11, 12, 13], [13, 15])])
def flywheelref20_Lossy_Update.B10 : List Nat := [0, 0, 2, 6, 14, 0, 32, 96, 224, 0, 512, 1536, 3584, 8190, 16383, 32767, 65535]
theorem flywheelref20_Lossy_Update.tab10 : rtab .any (opsOf Tryd.f11 10) = flywheelref20_Lossy_Update.T10 := by kernel_rfl
theorem flywheelref20_Lossy_Update.bits10 : waitsOk flywheelref20_Lossy_Update.T10.2 flywheelref20_Lossy_Update.B10 = true := by kernel_rfl
set_option maxHeartbeats 8000000 in
set_option maxRecDepth 100000 in
theorem flywheelref20_Lossy_Update.calls (k : Nat) (g : Nat) (s0_0 : Int) (s0_1 : Int) (s0_2 : Int) (s0_3 : Bool) (s0_4 : Int) (a1 : Int) (a2 : Int) (r1 : Int) (r2 : Int) (r3 : Int) (r4 : Int) (r5 : Bool) (r6 : Int) (w0 w : World) (hI : IsS49 w0 w g s0_0 s0_1 s0_2 s0_3 s0_4) (hB : Below w0.heap.size w0 w) (h : flywheelref20_Lossy_Update.f k s0_0 s0_1 s0_2 s0_3 s0_4 a1 a2 = some (r1, r2, r3, r4, r5, r6)) :
  Calls Tryd.prog 11 #[.pointer (some ⟨g, 0, none⟩), .int .i64 a1, .int .i64 a2] w fun e w' => e = .returned (.int .i64 r1) ∧ IsS49 w0 w' g r2 r3 r4 r5 r6 ∧ Below w0.heap.size w0 w' ∧ KeepBut w w' g none := by
 have HI0 := Aside0.mk hI
 have HK := Aside0.mk (KeepBut.refl w g none)
 have HL := Aside0.mk hB.size
 clear hI
 have HW0 := Aside0.mk hB.size
 have HB := Aside0.mk hB
 clear hB
 have H : ((flywheelref01_Clamp.f a2 0 1125899906842624).bind fun t207 => (if s0_3 = true then (flywheelref20_Lossy_Update.j0 k (mx 0 (mn a1 256)) t207 (decide ((wrap64 (t207 - s0_4)) < 200000)) s0_0 s0_1 s0_2 s0_3 s0_4) else (flywheelref20_Lossy_Update.j0 k (mx 0 (mn a1 256)) t207 false s0_0 s0_1 s0_2 s0_3 s0_4))) = some (r1, r2, r3, r4, r5, r6) := h
 clear h
 obtain ⟨ji4, hji4⟩ : ∃ j_ : Int, (mn a1 256) = j_ := ⟨_, rfl⟩
 replace H : ((flywheelref01_Clamp.f a2 0 1125899906842624).bind fun t207 => (if s0_3 = true then (flywheelref20_Lossy_Update.j0 k (mx 0 (ji4)) t207 (decide ((wrap64 (t207 - s0_4)) < 200000)) s0_0 s0_1 s0_2 s0_3 s0_4) else (flywheelref20_Lossy_Update.j0 k (mx 0 (ji4)) t207 false s0_0 s0_1 s0_2 s0_3 s0_4))) = some (r1, r2, r3, r4, r5, r6) := by first | (rw [hji4] at H; exact H) | (simp only [hji4] at H ⊢; exact H)
 (try (have hji4h : ji4 ≤ 256 := by (rw [← hji4]; unfold mn; (repeat' split) <;> omega)))
 (try (have hji4g : ji4 ≤ 64 := by omega))
 have hji4_ : (if 256 < a1 then 256 else a1) = ji4 := hji4
 obtain ⟨ji5, hji5⟩ : ∃ j_ : Int, (mx 0 (ji4)) = j_ := ⟨_, rfl⟩
 replace H : ((flywheelref01_Clamp.f a2 0 1125899906842624).bind fun t207 => (if s0_3 = true then (flywheelref20_Lossy_Update.j0 k ji5 t207 (decide ((wrap64 (t207 - s0_4)) < 200000)) s0_0 s0_1 s0_2 s0_3 s0_4) else (flywheelref20_Lossy_Update.j0 k ji5 t207 false s0_0 s0_1 s0_2 s0_3 s0_4))) = some (r1, r2, r3, r4, r5, r6) := by first | (rw [hji5] at H; exact H) | (simp only [hji5] at H ⊢; exact H)
 have hji5_ : (if 0 < (ji4) then (ji4) else 0) = ji5 := hji5
 replace H := Option.bind_eq_some_iff.mp H
 obtain ⟨t207, A60, H⟩ := H
 replace H : (if s0_3 = true then (flywheelref20_Lossy_Update.j0 k ji5 t207 (decide ((wrap64 (t207 - s0_4)) < 200000)) s0_0 s0_1 s0_2 s0_3 s0_4) else (flywheelref20_Lossy_Update.j0 k ji5 t207 false s0_0 s0_1 s0_2 s0_3 s0_4)) = some (r1, r2, r3, r4, r5, r6) := H
 have A6 := Aside0.mk A60
 clear A60
 have HC7 := Aside0.mk H
 clear H
 go_enter Tryd.func11, Tryd.ntmps11
 go_upto_region 3 with (first | ((with_reducible refine gate_callee (f := 17) rfl ?_); refine goesL_ (some 11) rfl rfl Tryd.func17 (by kernel_rfl) rfl #[.int .i64 a2, .int .i64 0, .int .i64 1125899906842624] rfl (by (try simp only [List.map_toArray, List.map_cons, List.map_nil]); first | done | rfl | (simp only [List.length_drop, List.length_take]; rfl)) ?_; (with_reducible refine (flywheelref01_Clamp.calls a2 0 1125899906842624 t207 _ A6.out).mono ?_); rintro e w' ⟨rfl, ⟨nd, rfl⟩⟩; refine ⟨_, rfl, ?_⟩))
 (try simp only [Act.put, List.setIfInBounds_toArray, List.set_cons_zero, List.set_cons_succ])
 go_cut [24] (fun v24 wc => ∃ (kq : Nat) (x24_6 : Bool), v24 = .bool x24_6 ∧ Aside0 (flywheelref20_Lossy_Update.j0 kq ji5 t207 x24_6 s0_0 s0_1 s0_2 s0_3 s0_4 = some (r1, r2, r3, r4, r5, r6)) ∧ Aside0 (kq ≤ k) ∧ Aside0 (IsS49 w0 wc g s0_0 s0_1 s0_2 s0_3 s0_4) ∧ Aside0 (KeepBut w wc g none) ∧ Aside0 (Below w0.heap.size w0 wc))
 case first =>
  have H := HC7.out
  clear HC7
  by_cases c8 : s0_3 = true
  ·subst c8
   have H1 : (flywheelref20_Lossy_Update.j0 k ji5 t207 (decide ((wrap64 (t207 - s0_4)) < 200000)) s0_0 s0_1 s0_2 true s0_4) = some (r1, r2, r3, r4, r5, r6) := by rw [if_pos rfl] at H; exact H
   clear H
   have H := H1
   clear H1
   have H' := Aside0.mk H
   clear H
   obtain ⟨HGz9, hgz9⟩ := HI0.out
   have hcz9_0 := cellS49_0 HGz9
   have hcz9_1 := cellS49_1 HGz9
   have hcz9_2 := cellS49_2 HGz9
   have hcz9_3 := cellS49_3 HGz9
   have hcz9_4 := cellS49_4 HGz9
   have hfz9_0 := blk_frozen HGz9 0
   have hfz9_1 := blk_frozen HGz9 1
   have hfz9_2 := blk_frozen HGz9 2
   have hfz9_3 := blk_frozen HGz9 3
   have hfz9_4 := blk_frozen HGz9 4
   clear HGz9 hgz9
   go_wp2
   go_meet
   case rel => exact ⟨_, (decide ((wrap64 (t207 - s0_4)) < 200000)), (by first | rfl | (simp; done) | (simp [*]; done)), H', ⟨by first | omega | exact Nat.le_refl _⟩, ⟨by repeat (first | (with_reducible first | exact HI0.out | apply IsS49.alloc | apply IsS49.drewN | apply IsS49.drew | apply IsS49.set_0 | apply IsS49.set_1 | apply IsS49.set_2 | apply IsS49.set_3 | apply IsS49.set_4) | exact HI0.out)⟩, ⟨by repeat (first | (with_reducible first | exact HK.out | apply KeepBut.set_ | apply keep_drewN | apply keep_drew | apply keep_alloc) | exact HK.out)⟩, ⟨by repeat (first | (with_reducible first | exact HB.out | apply below_alloc | apply pw_below_drewN | apply below_drew1 | refine below_set ?_ (IsS49.ge HI0.out)) | exact HB.out)⟩⟩
  ·replace c8 := Bool.eq_false_iff.mpr c8
   subst c8
   have H1 : (flywheelref20_Lossy_Update.j0 k ji5 t207 false s0_0 s0_1 s0_2 false s0_4) = some (r1, r2, r3, r4, r5, r6) := by rw [if_neg (show ¬ (false = true) by decide)] at H; exact H
   clear H
   have H := H1
   clear H1
   have H' := Aside0.mk H
   clear H
   obtain ⟨HGz10, hgz10⟩ := HI0.out
   have hcz10_0 := cellS49_0 HGz10
   have hcz10_1 := cellS49_1 HGz10
   have hcz10_2 := cellS49_2 HGz10
   have hcz10_3 := cellS49_3 HGz10
   have hcz10_4 := cellS49_4 HGz10
   have hfz10_0 := blk_frozen HGz10 0
   have hfz10_1 := blk_frozen HGz10 1
   have hfz10_2 := blk_frozen HGz10 2
   have hfz10_3 := blk_frozen HGz10 3
   have hfz10_4 := blk_frozen HGz10 4
   clear HGz10 hgz10
   go_wp2
   go_meet
   case rel => exact ⟨_, (false), (by first | rfl | (simp; done) | (simp [*]; done)), H', ⟨by first | omega | exact Nat.le_refl _⟩, ⟨by repeat (first | (with_reducible first | exact HI0.out | apply IsS49.alloc | apply IsS49.drewN | apply IsS49.drew | apply IsS49.set_0 | apply IsS49.set_1 | apply IsS49.set_2 | apply IsS49.set_3 | apply IsS49.set_4) | exact HI0.out)⟩, ⟨by repeat (first | (with_reducible first | exact HK.out | apply KeepBut.set_ | apply keep_drewN | apply keep_drew | apply keep_alloc) | exact HK.out)⟩, ⟨by repeat (first | (with_reducible first | exact HB.out | apply below_alloc | apply pw_below_drewN | apply below_drew1 | refine below_set ?_ (IsS49.ge HI0.out)) | exact HB.out)⟩⟩
 case rest =>
  clear HC7
  try clear c1
  try clear p2
  try clear p6
  try clear c8
  try clear hcz10_0
  try clear hcz10_1
  try clear hcz10_2
  try clear hcz10_3
  try clear hcz10_4
  try clear hcz9_0
  try clear hcz9_1
  try clear hcz9_2
  try clear hcz9_3
  try clear hcz9_4
  try clear hfz10_0
  try clear hfz10_1
  try clear hfz10_2
  try clear hfz10_3
  try clear hfz10_4
  try clear hfz9_0
  try clear hfz9_1
  try clear hfz9_2
  try clear hfz9_3
  try clear hfz9_4
  obtain ⟨kq, x24_6, rfl, HA, HJ6, HI0, HK, HB⟩ := hcut
  cases kq with
  | zero => exact absurd HA.out (by simp [flywheelref20_Lossy_Update.j0])
  | succ kj6 =>
   have H := HA.out
   clear HA
   simp only [flywheelref20_Lossy_Update.j0] at H
   by_cases c11 : x24_6 = true
   ·subst c11
    have H1 : (some (s0_0, s0_0, s0_1, s0_2, s0_3, s0_4)) = some (r1, r2, r3, r4, r5, r6) := by rw [if_pos rfl] at H; exact H
    clear H
    have H := H1
    clear H1
    simp only [Option.some.injEq, Prod.mk.injEq] at H
    obtain ⟨rfl, rfl, rfl, rfl, rfl, rfl⟩ := H
    obtain ⟨HGz12, hgz12⟩ := HI0.out
    have hcz12_0 := cellS49_0 HGz12
    have hcz12_1 := cellS49_1 HGz12
    have hcz12_2 := cellS49_2 HGz12
    have hcz12_3 := cellS49_3 HGz12
    have hcz12_4 := cellS49_4 HGz12
    have hfz12_0 := blk_frozen HGz12 0
    have hfz12_1 := blk_frozen HGz12 1
    have hfz12_2 := blk_frozen HGz12 2
    have hfz12_3 := blk_frozen HGz12 3
    have hfz12_4 := blk_frozen HGz12 4
    clear HGz12 hgz12
    go_wp2
    go_ret
    exact ⟨by first | rfl | (simp [errW_none, errW_some] <;> rfl) | (simp only [← hji4, ← hji5]; first | rfl | (simp [errW_none, errW_some] <;> rfl)) | (simp [*, errW_none, errW_some] <;> rfl), by repeat (first | (with_reducible first | exact HI0.out | apply IsS49.alloc | apply IsS49.drewN | apply IsS49.drew | apply IsS49.set_0 | apply IsS49.set_1 | apply IsS49.set_2 | apply IsS49.set_3 | apply IsS49.set_4) | exact HI0.out), by repeat (first | (with_reducible first | exact HB.out | apply below_alloc | apply pw_below_drewN | apply below_drew1 | refine below_set ?_ (IsS49.ge HI0.out)) | exact HB.out), by repeat (first | (with_reducible first | exact HK.out | apply KeepBut.set_ | apply keep_drewN | apply keep_drew | apply keep_alloc) | exact HK.out)⟩
   ·replace c11 := Bool.eq_false_iff.mpr c11
    subst c11
    have H1 : (if ji5 < 6 then ((flywheelref02_Do.f s0_0 105 100 3).bind fun t208 => ((flywheelref01_Clamp.f (wrap64 (t208 + 1000)) s0_1 s0_2).bind fun t209 => (some (t209, t209, s0_1, s0_2, true, t207)))) else (if ji5 > 26 then ((flywheelref02_Do.f s0_0 (wrap64 (512 - ji5)) 512 1).bind fun t210 => ((flywheelref01_Clamp.f t210 s0_1 s0_2).bind fun t211 => (some (t211, t211, s0_1, s0_2, true, t207)))) else ((flywheelref01_Clamp.f s0_0 s0_1 s0_2).bind fun t212 => (some (t212, t212, s0_1, s0_2, true, t207))))) = some (r1, r2, r3, r4, r5, r6) := by rw [if_neg (show ¬ (false = true) by decide)] at H; exact H
    clear H
    have H := H1
    clear H1
    by_cases c13 : ji5 < 6
    ·rw [if_pos c13] at H
     have c13b0 : decide (ji5 < 6) = true := decide_eq_true c13
     clear c13
     replace H := Option.bind_eq_some_iff.mp H
     obtain ⟨t208, A140, H⟩ := H
     replace H : ((flywheelref01_Clamp.f (wrap64 (t208 + 1000)) s0_1 s0_2).bind fun t209 => (some (t209, t209, s0_1, s0_2, true, t207))) = some (r1, r2, r3, r4, r5, r6) := H
     have A14 := Aside0.mk A140
     clear A140
     replace H := Option.bind_eq_some_iff.mp H
     obtain ⟨t209, A150, H⟩ := H
     replace H : (some (t209, t209, s0_1, s0_2, true, t207)) = some (r1, r2, r3, r4, r5, r6) := H
     have A15 := Aside0.mk A150
     clear A150
     simp only [Option.some.injEq, Prod.mk.injEq] at H
     obtain ⟨rfl, rfl, rfl, rfl, rfl, rfl⟩ := H
     obtain ⟨HGz16, hgz16⟩ := HI0.out
     have hcz16_0 := cellS49_0 HGz16
     have hcz16_1 := cellS49_1 HGz16
     have hcz16_2 := cellS49_2 HGz16
     have hcz16_3 := cellS49_3 HGz16
     have hcz16_4 := cellS49_4 HGz16
     have hfz16_0 := blk_frozen HGz16 0
     have hfz16_1 := blk_frozen HGz16 1
     have hfz16_2 := blk_frozen HGz16 2
     have hfz16_3 := blk_frozen HGz16 3
     have hfz16_4 := blk_frozen HGz16 4
     clear HGz16 hgz16
     try go_wp2_with (first | ((with_reducible refine gate_callee (f := 18) rfl ?_); refine goesL_ (some 44) rfl rfl Tryd.func18 (by kernel_rfl) rfl #[.int .i64 s0_0, .int .i64 105, .int .i64 100, .int .i64 3] rfl (by (try simp only [List.map_toArray, List.map_cons, List.map_nil]); first | done | rfl | (simp only [List.length_drop, List.length_take]; rfl)) ?_; (with_reducible refine (flywheelref02_Do.calls s0_0 105 100 3 t208 _ A14.out).mono ?_); rintro e w17 ⟨rfl, hb⟩; refine ⟨_, rfl, ?_⟩; have n0_ := Aside0.mk (IsS49.below (show IsS49 w0 ((wc.setCell ⟨g, 3, none⟩ (.bool true)).setCell ⟨g, 4, none⟩ (.int .i64 t207)) g s0_0 s0_1 s0_2 true t207 from by repeat (first | (with_reducible first | exact HI0.out | apply IsS49.alloc | apply IsS49.drewN | apply IsS49.drew | apply IsS49.set_0 | apply IsS49.set_1 | apply IsS49.set_2 | apply IsS49.set_3 | apply IsS49.set_4) | exact HI0.out)) hb); have n1_ := Aside0.mk (KeepBut.trans (by repeat (first | (with_reducible first | exact HK.out | apply KeepBut.set_ | apply keep_drewN | apply keep_drew | apply keep_alloc) | exact HK.out)) (KeepBut.of_below hb g none) (.inl rfl)); have n2_ := Aside0.mk (below_step (by repeat (first | (with_reducible first | exact HB.out | apply below_alloc | apply pw_below_drewN | apply below_drew1 | refine below_set ?_ (IsS49.ge HI0.out)) | exact HB.out)) hb); clear HI0; clear HK; clear HB; have HI0 := n0_; have HK := n1_; have HB := n2_; clear n0_ n1_ n2_; (try clear hb); (try clear hb2); (try clear hk); (try clear hi); obtain ⟨HGz18, hgz18⟩ := HI0.out; have hcz18_0 := cellS49_0 HGz18; have hcz18_1 := cellS49_1 HGz18; have hcz18_2 := cellS49_2 HGz18; have hcz18_3 := cellS49_3 HGz18; have hcz18_4 := cellS49_4 HGz18; have hfz18_0 := blk_frozen HGz18 0; have hfz18_1 := blk_frozen HGz18 1; have hfz18_2 := blk_frozen HGz18 2; have hfz18_3 := blk_frozen HGz18 3; have hfz18_4 := blk_frozen HGz18 4; clear HGz18 hgz18))
     have n0_ : Aside0 (IsS49 w0 (w17.setCell ⟨g, 0, none⟩ (.int .i64 (wrap64 (t208 + 1000)))) g (wrap64 (t208 + 1000)) s0_1 s0_2 true t207) := ⟨by repeat (first | (with_reducible first | exact HI0.out | apply IsS49.alloc | apply IsS49.drewN | apply IsS49.drew | apply IsS49.set_0 | apply IsS49.set_1 | apply IsS49.set_2 | apply IsS49.set_3 | apply IsS49.set_4) | exact HI0.out)⟩
     have n1_ : Aside0 (KeepBut w (w17.setCell ⟨g, 0, none⟩ (.int .i64 (wrap64 (t208 + 1000)))) g none) := ⟨by repeat (first | (with_reducible first | exact HK.out | apply KeepBut.set_ | apply keep_drewN | apply keep_drew | apply keep_alloc) | exact HK.out)⟩
     have n2_ : Aside0 (Below w0.heap.size w0 (w17.setCell ⟨g, 0, none⟩ (.int .i64 (wrap64 (t208 + 1000))))) := ⟨by repeat (first | (with_reducible first | exact HB.out | apply below_alloc | apply pw_below_drewN | apply below_drew1 | refine below_set ?_ (IsS49.ge HI0.out)) | exact HB.out)⟩
     (try clear HI0)
     (try clear HK)
     (try clear HB)
     generalize (w17.setCell ⟨g, 0, none⟩ (.int .i64 (wrap64 (t208 + 1000)))) = w19 at n0_ n1_ n2_ ⊢
     have HI0 := n0_
     have HK := n1_
     have HB := n2_
     clear n0_ n1_ n2_
     have n0_ := Aside0.mk (IsS49.drew HI0.out)
     have n1_ := Aside0.mk (keep_drew HK.out)
     have n2_ := Aside0.mk (below_drew1 HB.out)
     clear HI0
     clear HK
     clear HB
     have HI0 := n0_
     have HK := n1_
     have HB := n2_
     clear n0_ n1_ n2_
     refine start_ (n := 17) (S := fun w' => w'.cell? ⟨g, 0, none⟩ = some (.int .i64 (wrap64 (t208 + 1000))) ∧ w'.cell? ⟨g, 1, none⟩ = some (.int .i64 s0_1) ∧ w'.cell? ⟨g, 2, none⟩ = some (.int .i64 s0_2) ∧ w'.cell? ⟨g, 3, none⟩ = some (.bool true) ∧ w'.cell? ⟨g, 4, none⟩ = some (.int .i64 t207)) (ds := [16]) #[false, false, false, false, false, false, false, false, false, false, false, false, false, false, false, false, false] (by kernel_rfl) rfl rfl ⟨(IsS49.cell_0 HI0.out), (IsS49.cell_1 HI0.out), (IsS49.cell_2 HI0.out), (IsS49.cell_3 HI0.out), (IsS49.cell_4 HI0.out)⟩ (fun hHeld => ?_); refine with_tabW flywheelref20_Lossy_Update.tab10 flywheelref20_Lossy_Update.bits10 (fun HT_ HW_ => ?_)
     generalize w19.drew = w20 at HI0 HK HB hHeld ⊢
     refine pure_ (i := 0) (N := some 61) (v := ?_) (a' := ?_) #[true, false, false, false, false, false, false, false, false, false, false, false, false, false, false, false, false] rfl rfl (any_of HT_.out (by kernel_rfl)) (fun _ _ _ h => h) (Or.inl ⟨by rfl, ?_⟩) ?_ ?_
     rotate_left
     ·intro w'
      go_simp
      with_reducible rfl
     rotate_left
     ·simp only [Act.put, List.setIfInBounds_toArray, List.set_cons_zero, List.set_cons_succ, i64_w, i32_w]
      rfl
     refine pure_ (i := 1) (N := some 62) (v := ?_) (a' := ?_) #[true, true, false, false, false, false, false, false, false, false, false, false, false, false, false, false, false] rfl rfl (any_of HT_.out (by kernel_rfl)) (fun _ _ _ h => h) (Or.inl ⟨by rfl, ?_⟩) ?_ ?_
     rotate_left
     ·intro w'
      go_simp
      with_reducible rfl
     rotate_left
     ·simp only [Act.put, List.setIfInBounds_toArray, List.set_cons_zero, List.set_cons_succ, i64_w, i32_w]
      rfl
     refine pure_ (i := 2) (N := some 63) (v := ?_) (a' := ?_) #[true, true, true, false, false, false, false, false, false, false, false, false, false, false, false, false, false] rfl rfl (any_of HT_.out (by kernel_rfl)) (fun _ _ _ h => h) (Or.inl ⟨by rfl, ?_⟩) ?_ ?_
     rotate_left
     ·intro w'
      go_simp
      with_reducible rfl
     rotate_left
     ·simp only [Act.put, List.setIfInBounds_toArray, List.set_cons_zero, List.set_cons_succ, i64_w, i32_w]
      rfl
     refine pure_ (i := 3) (N := some 64) (v := ?_) (a' := ?_) #[true, true, true, true, false, false, false, false, false, false, false, false, false, false, false, false, false] rfl rfl (any_of HT_.out (by kernel_rfl)) (fun _ _ _ h => h) (Or.inl ⟨by rfl, ?_⟩) ?_ ?_
     rotate_left
     ·intro w'
      go_simp
      with_reducible rfl
     rotate_left
     ·simp only [Act.put, List.setIfInBounds_toArray, List.set_cons_zero, List.set_cons_succ, i64_w, i32_w]
      rfl
     refine pure_ (i := 5) (N := some 66) (v := ?_) (a' := ?_) #[true, true, true, true, false, true, false, false, false, false, false, false, false, false, false, false, false] rfl rfl (any_of HT_.out (by kernel_rfl)) (fun _ _ _ h => h) (Or.inl ⟨by rfl, ?_⟩) ?_ ?_
     rotate_left
     ·intro w'
      go_simp
      with_reducible rfl
     rotate_left
     ·simp only [Act.put, List.setIfInBounds_toArray, List.set_cons_zero, List.set_cons_succ, i64_w, i32_w]
      rfl
     refine pure_ (i := 6) (N := some 67) (v := ?_) (a' := ?_) #[true, true, true, true, false, true, true, false, false, false, false, false, false, false, false, false, false] rfl rfl (any_of HT_.out (by kernel_rfl)) (fun _ _ _ h => h) (Or.inl ⟨by rfl, ?_⟩) ?_ ?_
     rotate_left
     ·intro w'
      go_simp
      with_reducible rfl
     rotate_left
     ·simp only [Act.put, List.setIfInBounds_toArray, List.set_cons_zero, List.set_cons_succ, i64_w, i32_w]
      rfl
     refine pure_ (i := 7) (N := some 68) (v := ?_) (a' := ?_) #[true, true, true, true, false, true, true, true, false, false, false, false, false, false, false, false, false] rfl rfl (any_of HT_.out (by kernel_rfl)) (fun _ _ _ h => h) (Or.inl ⟨by rfl, ?_⟩) ?_ ?_
     rotate_left
     ·intro w'
      go_simp
      with_reducible rfl
     rotate_left
     ·simp only [Act.put, List.setIfInBounds_toArray, List.set_cons_zero, List.set_cons_succ, i64_w, i32_w]
      rfl
     refine pure_ (i := 9) (N := some 70) (v := ?_) (a' := ?_) #[true, true, true, true, false, true, true, true, false, true, false, false, false, false, false, false, false] rfl rfl (any_of HT_.out (by kernel_rfl)) (fun _ _ _ h => h) (Or.inl ⟨by rfl, ?_⟩) ?_ ?_
     rotate_left
     ·intro w'
      go_simp
      with_reducible rfl
     rotate_left
     ·simp only [Act.put, List.setIfInBounds_toArray, List.set_cons_zero, List.set_cons_succ, i64_w, i32_w]
      rfl
     refine pure_ (i := 10) (N := some 71) (v := ?_) (a' := ?_) #[true, true, true, true, false, true, true, true, false, true, true, false, false, false, false, false, false] rfl rfl (any_of HT_.out (by kernel_rfl)) (fun _ _ _ h => h) (Or.inl ⟨by rfl, ?_⟩) ?_ ?_
     rotate_left
     ·intro w'
      go_simp
      with_reducible rfl
     rotate_left
     ·simp only [Act.put, List.setIfInBounds_toArray, List.set_cons_zero, List.set_cons_succ, i64_w, i32_w]
      rfl
     refine pure_ (i := 11) (N := some 72) (v := ?_) (a' := ?_) #[true, true, true, true, false, true, true, true, false, true, true, true, false, false, false, false, false] rfl rfl (any_of HT_.out (by kernel_rfl)) (fun _ _ _ h => h) (Or.inl ⟨by rfl, ?_⟩) ?_ ?_
     rotate_left
     ·intro w'
      go_simp
      with_reducible rfl
     rotate_left
     ·simp only [Act.put, List.setIfInBounds_toArray, List.set_cons_zero, List.set_cons_succ, i64_w, i32_w]
      rfl
     refine take_ (i := 4) (N := some 65) (v := ?_) (a' := ?_) #[true, true, true, true, true, true, true, true, false, true, true, true, false, false, false, false, false] rfl rfl (take_ofW HT_.out HW_.out (by kernel_rfl)) (fun _ _ _ h => h) (Or.inl ⟨by rfl, ?_⟩) hHeld ?_ ?_
     rotate_left
     ·rintro w' ⟨s0, s1, s2, s3, s4⟩
      go_simp
      with_reducible rfl
     rotate_left
     ·simp only [Act.put, List.setIfInBounds_toArray, List.set_cons_zero, List.set_cons_succ, i64_w, i32_w]
      rfl
     refine take_ (i := 8) (N := some 69) (v := ?_) (a' := ?_) #[true, true, true, true, true, true, true, true, true, true, true, true, false, false, false, false, false] rfl rfl (take_ofW HT_.out HW_.out (by kernel_rfl)) (fun _ _ _ h => h) (Or.inl ⟨by rfl, ?_⟩) hHeld ?_ ?_
     rotate_left
     ·rintro w' ⟨s0, s1, s2, s3, s4⟩
      go_simp
      with_reducible rfl
     rotate_left
     ·simp only [Act.put, List.setIfInBounds_toArray, List.set_cons_zero, List.set_cons_succ, i64_w, i32_w]
      rfl
     refine take_ (i := 12) (N := some 73) (v := ?_) (a' := ?_) #[true, true, true, true, true, true, true, true, true, true, true, true, true, false, false, false, false] rfl rfl (take_ofW HT_.out HW_.out (by kernel_rfl)) (fun _ _ _ h => h) (Or.inl ⟨by rfl, ?_⟩) hHeld ?_ ?_
     rotate_left
     ·rintro w' ⟨s0, s1, s2, s3, s4⟩
      go_simp
      with_reducible rfl
     rotate_left
     ·simp only [Act.put, List.setIfInBounds_toArray, List.set_cons_zero, List.set_cons_succ, i64_w, i32_w]
      rfl
     refine one_ (i := 13) (N := some 74) #[true, true, true, true, true, true, true, true, true, true, true, true, true, true, false, false, false] rfl rfl (one_of HT_.out (by kernel_rfl)) (by decide) (fun K hK => ?_)
     refine goes_ Tryd.func17 (by kernel_rfl) rfl #[.int .i64 (wrap64 (t208 + 1000)), .int .i64 s0_1, .int .i64 s0_2] (by rfl) rfl rfl (by (try simp only [List.map_toArray, List.map_cons, List.map_nil]); first | done | rfl | (simp only [List.length_drop, List.length_take]; rfl)) ?_
     with_reducible refine (flywheelref01_Clamp.calls (wrap64 (t208 + 1000)) s0_1 s0_2 t209 _ A15.out).mono ?_
     rintro e w' ⟨rfl, ⟨nd, rfl⟩⟩
     refine ⟨_, rfl, ?_⟩
     refine hK.out _ _ ⟨(IsS49.cell_0 HI0.out), (IsS49.cell_1 HI0.out), (IsS49.cell_2 HI0.out), (IsS49.cell_3 HI0.out), (IsS49.cell_4 HI0.out)⟩ (fun hHeld => ?_)
     clear hK K
     refine norm_ (a' := ?_) ?_ ?_
     rotate_left
     ·show Act.put _ (some 74) _ = _
      simp only [Act.put, List.setIfInBounds_toArray, List.set_cons_zero, List.set_cons_succ, i64_w, i32_w]
      rfl
     refine pure_ (i := 14) (N := some 75) (v := ?_) (a' := ?_) #[true, true, true, true, true, true, true, true, true, true, true, true, true, true, true, false, false] rfl rfl (any_of HT_.out (by kernel_rfl)) (fun _ _ _ h => h) (Or.inl ⟨by rfl, ?_⟩) ?_ ?_
     rotate_left
     ·intro w'
      go_simp
      with_reducible rfl
     rotate_left
     ·simp only [Act.put, List.setIfInBounds_toArray, List.set_cons_zero, List.set_cons_succ, i64_w, i32_w]
      rfl
     refine pure_ (i := 15) (N := some 76) (v := ?_) (a' := ?_) #[true, true, true, true, true, true, true, true, true, true, true, true, true, true, true, true, false] rfl rfl (any_of HT_.out (by kernel_rfl)) (fun _ _ _ h => h) (Or.inl ⟨by rfl, ?_⟩) ?_ ?_
     rotate_left
     ·intro w'
      go_simp
      with_reducible rfl
     rotate_left
     ·simp only [Act.put, List.setIfInBounds_toArray, List.set_cons_zero, List.set_cons_succ, i64_w, i32_w]
      rfl
     refine last_ (i := 16) (N := none) #[true, true, true, true, true, true, true, true, true, true, true, true, true, true, true, true, true] rfl rfl (one_of HT_.out (by kernel_rfl)) (by decide) (fun K hK => ?_)
     have hs21 : w20.cell? ⟨g, 0, none⟩ = some (.int .i64 (wrap64 (t208 + 1000))) := IsS49.cell_0 HI0.out
     have hfs21 := IsS49.froz_0 HI0.out
     refine skip_ (w1 := ?_) (by rfl) rfl ?_ ?_
     rotate_left
     ·go_simp
      rfl
     refine hK.out _ _ ?_
     clear hK K
     refine done_ (done_of HT_.out (by kernel_rfl)) ?_
     obtain ⟨HGz22, hgz22⟩ := HI0.out
     have hcz22_0 := cellS49_0 HGz22
     have hcz22_1 := cellS49_1 HGz22
     have hcz22_2 := cellS49_2 HGz22
     have hcz22_3 := cellS49_3 HGz22
     have hcz22_4 := cellS49_4 HGz22
     have hfz22_0 := blk_frozen HGz22 0
     have hfz22_1 := blk_frozen HGz22 1
     have hfz22_2 := blk_frozen HGz22 2
     have hfz22_3 := blk_frozen HGz22 3
     have hfz22_4 := blk_frozen HGz22 4
     clear HGz22 hgz22
     try go_wp2
     go_ret
     exact ⟨by first | rfl | (simp [errW_none, errW_some] <;> rfl) | (simp only [← hji4, ← hji5]; first | rfl | (simp [errW_none, errW_some] <;> rfl)) | (simp [*, errW_none, errW_some] <;> rfl), by repeat (first | (with_reducible first | exact HI0.out | apply IsS49.alloc | apply IsS49.drewN | apply IsS49.drew | apply IsS49.set_0 | apply IsS49.set_1 | apply IsS49.set_2 | apply IsS49.set_3 | apply IsS49.set_4) | exact HI0.out), by repeat (first | (with_reducible first | exact HB.out | apply below_alloc | apply pw_below_drewN | apply below_drew1 | refine below_set ?_ (IsS49.ge HI0.out)) | exact HB.out), by repeat (first | (with_reducible first | exact HK.out | apply KeepBut.set_ | apply keep_drewN | apply keep_drew | apply keep_alloc) | exact HK.out)⟩
    ·rw [if_neg c13] at H
     have c13b0 : decide (ji5 < 6) = false := decide_eq_false c13
     clear c13
     by_cases c23 : ji5 > 26
     ·rw [if_pos c23] at H
      have c23b0 : decide (26 < ji5) = true := decide_eq_true c23
      clear c23
      replace H := Option.bind_eq_some_iff.mp H
      obtain ⟨t210, A240, H⟩ := H
      replace H : ((flywheelref01_Clamp.f t210 s0_1 s0_2).bind fun t211 => (some (t211, t211, s0_1, s0_2, true, t207))) = some (r1, r2, r3, r4, r5, r6) := H
      have A24 := Aside0.mk A240
      clear A240
      replace H := Option.bind_eq_some_iff.mp H
      obtain ⟨t211, A250, H⟩ := H
      replace H : (some (t211, t211, s0_1, s0_2, true, t207)) = some (r1, r2, r3, r4, r5, r6) := H
      have A25 := Aside0.mk A250
      clear A250
      simp only [Option.some.injEq, Prod.mk.injEq] at H
      obtain ⟨rfl, rfl, rfl, rfl, rfl, rfl⟩ := H
      obtain ⟨HGz26, hgz26⟩ := HI0.out
      have hcz26_0 := cellS49_0 HGz26
      have hcz26_1 := cellS49_1 HGz26
      have hcz26_2 := cellS49_2 HGz26
      have hcz26_3 := cellS49_3 HGz26
      have hcz26_4 := cellS49_4 HGz26
      have hfz26_0 := blk_frozen HGz26 0
      have hfz26_1 := blk_frozen HGz26 1
      have hfz26_2 := blk_frozen HGz26 2
      have hfz26_3 := blk_frozen HGz26 3
      have hfz26_4 := blk_frozen HGz26 4
      clear HGz26 hgz26
      have e_ : wrap64 (512 - ji5) = 512 - ji5 := by unfold wrap64; split at hji5_ <;> omega
      try go_wp2_with (first | ((with_reducible refine gate_callee (f := 18) rfl ?_); refine goesL_ (some 58) rfl rfl Tryd.func18 (by kernel_rfl) rfl #[.int .i64 s0_0, .int .i64 (wrap64 (512 - ji5)), .int .i64 512, .int .i64 1] rfl (by (try simp only [List.map_toArray, List.map_cons, List.map_nil]); first | done | (simp only [hji5]; rfl) | (simp only [e_]; rfl) | rfl | (simp only [List.length_drop, List.length_take]; rfl)) ?_; (with_reducible refine (flywheelref02_Do.calls s0_0 (wrap64 (512 - ji5)) 512 1 t210 _ A24.out).mono ?_); rintro e w27 ⟨rfl, hb⟩; refine ⟨_, rfl, ?_⟩; have n0_ := Aside0.mk (IsS49.below (show IsS49 w0 ((wc.setCell ⟨g, 3, none⟩ (.bool true)).setCell ⟨g, 4, none⟩ (.int .i64 t207)) g s0_0 s0_1 s0_2 true t207 from by repeat (first | (with_reducible first | exact HI0.out | apply IsS49.alloc | apply IsS49.drewN | apply IsS49.drew | apply IsS49.set_0 | apply IsS49.set_1 | apply IsS49.set_2 | apply IsS49.set_3 | apply IsS49.set_4) | exact HI0.out)) hb); have n1_ := Aside0.mk (KeepBut.trans (by repeat (first | (with_reducible first | exact HK.out | apply KeepBut.set_ | apply keep_drewN | apply keep_drew | apply keep_alloc) | exact HK.out)) (KeepBut.of_below hb g none) (.inl rfl)); have n2_ := Aside0.mk (below_step (by repeat (first | (with_reducible first | exact HB.out | apply below_alloc | apply pw_below_drewN | apply below_drew1 | refine below_set ?_ (IsS49.ge HI0.out)) | exact HB.out)) hb); clear HI0; clear HK; clear HB; have HI0 := n0_; have HK := n1_; have HB := n2_; clear n0_ n1_ n2_; (try clear hb); (try clear hb2); (try clear hk); (try clear hi); obtain ⟨HGz28, hgz28⟩ := HI0.out; have hcz28_0 := cellS49_0 HGz28; have hcz28_1 := cellS49_1 HGz28; have hcz28_2 := cellS49_2 HGz28; have hcz28_3 := cellS49_3 HGz28; have hcz28_4 := cellS49_4 HGz28; have hfz28_0 := blk_frozen HGz28 0; have hfz28_1 := blk_frozen HGz28 1; have hfz28_2 := blk_frozen HGz28 2; have hfz28_3 := blk_frozen HGz28 3; have hfz28_4 := blk_frozen HGz28 4; clear HGz28 hgz28))
      have n0_ : Aside0 (IsS49 w0 (w27.setCell ⟨g, 0, none⟩ (.int .i64 t210)) g t210 s0_1 s0_2 true t207) := ⟨by repeat (first | (with_reducible first | exact HI0.out | apply IsS49.alloc | apply IsS49.drewN | apply IsS49.drew | apply IsS49.set_0 | apply IsS49.set_1 | apply IsS49.set_2 | apply IsS49.set_3 | apply IsS49.set_4) | exact HI0.out)⟩
      have n1_ : Aside0 (KeepBut w (w27.setCell ⟨g, 0, none⟩ (.int .i64 t210)) g none) := ⟨by repeat (first | (with_reducible first | exact HK.out | apply KeepBut.set_ | apply keep_drewN | apply keep_drew | apply keep_alloc) | exact HK.out)⟩
      have n2_ : Aside0 (Below w0.heap.size w0 (w27.setCell ⟨g, 0, none⟩ (.int .i64 t210))) := ⟨by repeat (first | (with_reducible first | exact HB.out | apply below_alloc | apply pw_below_drewN | apply below_drew1 | refine below_set ?_ (IsS49.ge HI0.out)) | exact HB.out)⟩
      (try clear HI0)
      (try clear HK)
      (try clear HB)
      generalize (w27.setCell ⟨g, 0, none⟩ (.int .i64 t210)) = w29 at n0_ n1_ n2_ ⊢
      have HI0 := n0_
      have HK := n1_
      have HB := n2_
      clear n0_ n1_ n2_
      have n0_ := Aside0.mk (IsS49.drew HI0.out)
      have n1_ := Aside0.mk (keep_drew HK.out)
      have n2_ := Aside0.mk (below_drew1 HB.out)
      clear HI0
      clear HK
      clear HB
      have HI0 := n0_
      have HK := n1_
      have HB := n2_
      clear n0_ n1_ n2_
      refine start_ (n := 17) (S := fun w' => w'.cell? ⟨g, 0, none⟩ = some (.int .i64 t210) ∧ w'.cell? ⟨g, 1, none⟩ = some (.int .i64 s0_1) ∧ w'.cell? ⟨g, 2, none⟩ = some (.int .i64 s0_2) ∧ w'.cell? ⟨g, 3, none⟩ = some (.bool true) ∧ w'.cell? ⟨g, 4, none⟩ = some (.int .i64 t207)) (ds := [16]) #[false, false, false, false, false, false, false, false, false, false, false, false, false, false, false, false, false] (by kernel_rfl) rfl rfl ⟨(IsS49.cell_0 HI0.out), (IsS49.cell_1 HI0.out), (IsS49.cell_2 HI0.out), (IsS49.cell_3 HI0.out), (IsS49.cell_4 HI0.out)⟩ (fun hHeld => ?_); refine with_tabW flywheelref20_Lossy_Update.tab10 flywheelref20_Lossy_Update.bits10 (fun HT_ HW_ => ?_)
      generalize w29.drew = w30 at HI0 HK HB hHeld ⊢
      refine pure_ (i := 0) (N := some 61) (v := ?_) (a' := ?_) #[true, false, false, false, false, false, false, false, false, false, false, false, false, false, false, false, false] rfl rfl (any_of HT_.out (by kernel_rfl)) (fun _ _ _ h => h) (Or.inl ⟨by rfl, ?_⟩) ?_ ?_
      rotate_left
      ·intro w'
       go_simp
       with_reducible rfl
      rotate_left
      ·simp only [Act.put, List.setIfInBounds_toArray, List.set_cons_zero, List.set_cons_succ, i64_w, i32_w]
       rfl
      refine pure_ (i := 1) (N := some 62) (v := ?_) (a' := ?_) #[true, true, false, false, false, false, false, false, false, false, false, false, false, false, false, false, false] rfl rfl (any_of HT_.out (by kernel_rfl)) (fun _ _ _ h => h) (Or.inl ⟨by rfl, ?_⟩) ?_ ?_
      rotate_left
      ·intro w'
       go_simp
       with_reducible rfl
      rotate_left
      ·simp only [Act.put, List.setIfInBounds_toArray, List.set_cons_zero, List.set_cons_succ, i64_w, i32_w]
       rfl
      refine pure_ (i := 2) (N := some 63) (v := ?_) (a' := ?_) #[true, true, true, false, false, false, false, false, false, false, false, false, false, false, false, false, false] rfl rfl (any_of HT_.out (by kernel_rfl)) (fun _ _ _ h => h) (Or.inl ⟨by rfl, ?_⟩) ?_ ?_
      rotate_left
      ·intro w'
       go_simp
       with_reducible rfl
      rotate_left
      ·simp only [Act.put, List.setIfInBounds_toArray, List.set_cons_zero, List.set_cons_succ, i64_w, i32_w]
       rfl
      refine pure_ (i := 3) (N := some 64) (v := ?_) (a' := ?_) #[true, true, true, true, false, false, false, false, false, false, false, false, false, false, false, false, false] rfl rfl (any_of HT_.out (by kernel_rfl)) (fun _ _ _ h => h) (Or.inl ⟨by rfl, ?_⟩) ?_ ?_
      rotate_left
      ·intro w'
       go_simp
       with_reducible rfl
      rotate_left
      ·simp only [Act.put, List.setIfInBounds_toArray, List.set_cons_zero, List.set_cons_succ, i64_w, i32_w]
       rfl
      refine pure_ (i := 5) (N := some 66) (v := ?_) (a' := ?_) #[true, true, true, true, false, true, false, false, false, false, false, false, false, false, false, false, false] rfl rfl (any_of HT_.out (by kernel_rfl)) (fun _ _ _ h => h) (Or.inl ⟨by rfl, ?_⟩) ?_ ?_
      rotate_left
      ·intro w'
       go_simp
       with_reducible rfl
      rotate_left
      ·simp only [Act.put, List.setIfInBounds_toArray, List.set_cons_zero, List.set_cons_succ, i64_w, i32_w]
       rfl
      refine pure_ (i := 6) (N := some 67) (v := ?_) (a' := ?_) #[true, true, true, true, false, true, true, false, false, false, false, false, false, false, false, false, false] rfl rfl (any_of HT_.out (by kernel_rfl)) (fun _ _ _ h => h) (Or.inl ⟨by rfl, ?_⟩) ?_ ?_
      rotate_left
      ·intro w'
       go_simp
       with_reducible rfl
      rotate_left
      ·simp only [Act.put, List.setIfInBounds_toArray, List.set_cons_zero, List.set_cons_succ, i64_w, i32_w]
       rfl
      refine pure_ (i := 7) (N := some 68) (v := ?_) (a' := ?_) #[true, true, true, true, false, true, true, true, false, false, false, false, false, false, false, false, false] rfl rfl (any_of HT_.out (by kernel_rfl)) (fun _ _ _ h => h) (Or.inl ⟨by rfl, ?_⟩) ?_ ?_
      rotate_left
      ·intro w'
       go_simp
       with_reducible rfl
      rotate_left
      ·simp only [Act.put, List.setIfInBounds_toArray, List.set_cons_zero, List.set_cons_succ, i64_w, i32_w]
       rfl
      refine pure_ (i := 9) (N := some 70) (v := ?_) (a' := ?_) #[true, true, true, true, false, true, true, true, false, true, false, false, false, false, false, false, false] rfl rfl (any_of HT_.out (by kernel_rfl)) (fun _ _ _ h => h) (Or.inl ⟨by rfl, ?_⟩) ?_ ?_
      rotate_left
      ·intro w'
       go_simp
       with_reducible rfl
      rotate_left
      ·simp only [Act.put, List.setIfInBounds_toArray, List.set_cons_zero, List.set_cons_succ, i64_w, i32_w]
       rfl
      refine pure_ (i := 10) (N := some 71) (v := ?_) (a' := ?_) #[true, true, true, true, false, true, true, true, false, true, true, false, false, false, false, false, false] rfl rfl (any_of HT_.out (by kernel_rfl)) (fun _ _ _ h => h) (Or.inl ⟨by rfl, ?_⟩) ?_ ?_
      rotate_left
      ·intro w'
       go_simp
       with_reducible rfl
      rotate_left
      ·simp only [Act.put, List.setIfInBounds_toArray, List.set_cons_zero, List.set_cons_succ, i64_w, i32_w]
       rfl
      refine pure_ (i := 11) (N := some 72) (v := ?_) (a' := ?_) #[true, true, true, true, false, true, true, true, false, true, true, true, false, false, false, false, false] rfl rfl (any_of HT_.out (by kernel_rfl)) (fun _ _ _ h => h) (Or.inl ⟨by rfl, ?_⟩) ?_ ?_
      rotate_left
      ·intro w'
       go_simp
       with_reducible rfl
      rotate_left
      ·simp only [Act.put, List.setIfInBounds_toArray, List.set_cons_zero, List.set_cons_succ, i64_w, i32_w]
       rfl
      refine take_ (i := 4) (N := some 65) (v := ?_) (a' := ?_) #[true, true, true, true, true, true, true, true, false, true, true, true, false, false, false, false, false] rfl rfl (take_ofW HT_.out HW_.out (by kernel_rfl)) (fun _ _ _ h => h) (Or.inl ⟨by rfl, ?_⟩) hHeld ?_ ?_
      rotate_left
      ·rintro w' ⟨s0, s1, s2, s3, s4⟩
       go_simp
       with_reducible rfl
      rotate_left
      ·simp only [Act.put, List.setIfInBounds_toArray, List.set_cons_zero, List.set_cons_succ, i64_w, i32_w]
       rfl
      refine take_ (i := 8) (N := some 69) (v := ?_) (a' := ?_) #[true, true, true, true, true, true, true, true, true, true, true, true, false, false, false, false, false] rfl rfl (take_ofW HT_.out HW_.out (by kernel_rfl)) (fun _ _ _ h => h) (Or.inl ⟨by rfl, ?_⟩) hHeld ?_ ?_
      rotate_left
      ·rintro w' ⟨s0, s1, s2, s3, s4⟩
       go_simp
       with_reducible rfl
      rotate_left
      ·simp only [Act.put, List.setIfInBounds_toArray, List.set_cons_zero, List.set_cons_succ, i64_w, i32_w]
       rfl
      refine take_ (i := 12) (N := some 73) (v := ?_) (a' := ?_) #[true, true, true, true, true, true, true, true, true, true, true, true, true, false, false, false, false] rfl rfl (take_ofW HT_.out HW_.out (by kernel_rfl)) (fun _ _ _ h => h) (Or.inl ⟨by rfl, ?_⟩) hHeld ?_ ?_
      rotate_left
      ·rintro w' ⟨s0, s1, s2, s3, s4⟩
       go_simp
       with_reducible rfl
      rotate_left
      ·simp only [Act.put, List.setIfInBounds_toArray, List.set_cons_zero, List.set_cons_succ, i64_w, i32_w]
       rfl
      refine one_ (i := 13) (N := some 74) #[true, true, true, true, true, true, true, true, true, true, true, true, true, true, false, false, false] rfl rfl (one_of HT_.out (by kernel_rfl)) (by decide) (fun K hK => ?_)
      refine goes_ Tryd.func17 (by kernel_rfl) rfl #[.int .i64 t210, .int .i64 s0_1, .int .i64 s0_2] (by rfl) rfl rfl (by (try simp only [List.map_toArray, List.map_cons, List.map_nil]); first | done | rfl | (simp only [List.length_drop, List.length_take]; rfl)) ?_
      with_reducible refine (flywheelref01_Clamp.calls t210 s0_1 s0_2 t211 _ A25.out).mono ?_
      rintro e w' ⟨rfl, ⟨nd, rfl⟩⟩
      refine ⟨_, rfl, ?_⟩
      refine hK.out _ _ ⟨(IsS49.cell_0 HI0.out), (IsS49.cell_1 HI0.out), (IsS49.cell_2 HI0.out), (IsS49.cell_3 HI0.out), (IsS49.cell_4 HI0.out)⟩ (fun hHeld => ?_)
      clear hK K
      refine norm_ (a' := ?_) ?_ ?_
      rotate_left
      ·show Act.put _ (some 74) _ = _
       simp only [Act.put, List.setIfInBounds_toArray, List.set_cons_zero, List.set_cons_succ, i64_w, i32_w]
       rfl
      refine pure_ (i := 14) (N := some 75) (v := ?_) (a' := ?_) #[true, true, true, true, true, true, true, true, true, true, true, true, true, true, true, false, false] rfl rfl (any_of HT_.out (by kernel_rfl)) (fun _ _ _ h => h) (Or.inl ⟨by rfl, ?_⟩) ?_ ?_
      rotate_left
      ·intro w'
       go_simp
       with_reducible rfl
      rotate_left
      ·simp only [Act.put, List.setIfInBounds_toArray, List.set_cons_zero, List.set_cons_succ, i64_w, i32_w]
       rfl
      refine pure_ (i := 15) (N := some 76) (v := ?_) (a' := ?_) #[true, true, true, true, true, true, true, true, true, true, true, true, true, true, true, true, false] rfl rfl (any_of HT_.out (by kernel_rfl)) (fun _ _ _ h => h) (Or.inl ⟨by rfl, ?_⟩) ?_ ?_
      rotate_left
      ·intro w'
       go_simp
       with_reducible rfl
      rotate_left
      ·simp only [Act.put, List.setIfInBounds_toArray, List.set_cons_zero, List.set_cons_succ, i64_w, i32_w]
       rfl
      refine last_ (i := 16) (N := none) #[true, true, true, true, true, true, true, true, true, true, true, true, true, true, true, true, true] rfl rfl (one_of HT_.out (by kernel_rfl)) (by decide) (fun K hK => ?_)
      have hs31 : w30.cell? ⟨g, 0, none⟩ = some (.int .i64 t210) := IsS49.cell_0 HI0.out
      have hfs31 := IsS49.froz_0 HI0.out
      refine skip_ (w1 := ?_) (by rfl) rfl ?_ ?_
      rotate_left
      ·go_simp
       rfl
      refine hK.out _ _ ?_
      clear hK K
      refine done_ (done_of HT_.out (by kernel_rfl)) ?_
      obtain ⟨HGz32, hgz32⟩ := HI0.out
      have hcz32_0 := cellS49_0 HGz32
      have hcz32_1 := cellS49_1 HGz32
      have hcz32_2 := cellS49_2 HGz32
      have hcz32_3 := cellS49_3 HGz32
      have hcz32_4 := cellS49_4 HGz32
      have hfz32_0 := blk_frozen HGz32 0
      have hfz32_1 := blk_frozen HGz32 1
      have hfz32_2 := blk_frozen HGz32 2
      have hfz32_3 := blk_frozen HGz32 3
      have hfz32_4 := blk_frozen HGz32 4
      clear HGz32 hgz32
      try go_wp2
      go_ret
      exact ⟨by first | rfl | (simp [errW_none, errW_some] <;> rfl) | (simp only [← hji4, ← hji5]; first | rfl | (simp [errW_none, errW_some] <;> rfl)) | (simp [*, errW_none, errW_some] <;> rfl), by repeat (first | (with_reducible first | exact HI0.out | apply IsS49.alloc | apply IsS49.drewN | apply IsS49.drew | apply IsS49.set_0 | apply IsS49.set_1 | apply IsS49.set_2 | apply IsS49.set_3 | apply IsS49.set_4) | exact HI0.out), by repeat (first | (with_reducible first | exact HB.out | apply below_alloc | apply pw_below_drewN | apply below_drew1 | refine below_set ?_ (IsS49.ge HI0.out)) | exact HB.out), by repeat (first | (with_reducible first | exact HK.out | apply KeepBut.set_ | apply keep_drewN | apply keep_drew | apply keep_alloc) | exact HK.out)⟩
     ·rw [if_neg c23] at H
      have c23b0 : decide (26 < ji5) = false := decide_eq_false c23
      clear c23
      replace H := Option.bind_eq_some_iff.mp H
      obtain ⟨t212, A330, H⟩ := H
      replace H : (some (t212, t212, s0_1, s0_2, true, t207)) = some (r1, r2, r3, r4, r5, r6) := H
      have A33 := Aside0.mk A330
      clear A330
      simp only [Option.some.injEq, Prod.mk.injEq] at H
      obtain ⟨rfl, rfl, rfl, rfl, rfl, rfl⟩ := H
      obtain ⟨HGz34, hgz34⟩ := HI0.out
      have hcz34_0 := cellS49_0 HGz34
      have hcz34_1 := cellS49_1 HGz34
      have hcz34_2 := cellS49_2 HGz34
      have hcz34_3 := cellS49_3 HGz34
      have hcz34_4 := cellS49_4 HGz34
      have hfz34_0 := blk_frozen HGz34 0
      have hfz34_1 := blk_frozen HGz34 1
      have hfz34_2 := blk_frozen HGz34 2
      have hfz34_3 := blk_frozen HGz34 3
      have hfz34_4 := blk_frozen HGz34 4
      clear HGz34 hgz34
      try go_wp2
      have n0_ : Aside0 (IsS49 w0 ((wc.setCell ⟨g, 3, none⟩ (.bool true)).setCell ⟨g, 4, none⟩ (.int .i64 t207)) g s0_0 s0_1 s0_2 true t207) := ⟨by repeat (first | (with_reducible first | exact HI0.out | apply IsS49.alloc | apply IsS49.drewN | apply IsS49.drew | apply IsS49.set_0 | apply IsS49.set_1 | apply IsS49.set_2 | apply IsS49.set_3 | apply IsS49.set_4) | exact HI0.out)⟩
      have n1_ : Aside0 (KeepBut w ((wc.setCell ⟨g, 3, none⟩ (.bool true)).setCell ⟨g, 4, none⟩ (.int .i64 t207)) g none) := ⟨by repeat (first | (with_reducible first | exact HK.out | apply KeepBut.set_ | apply keep_drewN | apply keep_drew | apply keep_alloc) | exact HK.out)⟩
      have n2_ : Aside0 (Below w0.heap.size w0 ((wc.setCell ⟨g, 3, none⟩ (.bool true)).setCell ⟨g, 4, none⟩ (.int .i64 t207))) := ⟨by repeat (first | (with_reducible first | exact HB.out | apply below_alloc | apply pw_below_drewN | apply below_drew1 | refine below_set ?_ (IsS49.ge HI0.out)) | exact HB.out)⟩
      (try clear HI0)
      (try clear HK)
      (try clear HB)
      generalize ((wc.setCell ⟨g, 3, none⟩ (.bool true)).setCell ⟨g, 4, none⟩ (.int .i64 t207)) = w35 at n0_ n1_ n2_ ⊢
      have HI0 := n0_
      have HK := n1_
      have HB := n2_
      clear n0_ n1_ n2_
      have n0_ := Aside0.mk (IsS49.drew HI0.out)
      have n1_ := Aside0.mk (keep_drew HK.out)
      have n2_ := Aside0.mk (below_drew1 HB.out)
      clear HI0
      clear HK
      clear HB
      have HI0 := n0_
      have HK := n1_
      have HB := n2_
      clear n0_ n1_ n2_
      refine start_ (n := 17) (S := fun w' => w'.cell? ⟨g, 0, none⟩ = some (.int .i64 s0_0) ∧ w'.cell? ⟨g, 1, none⟩ = some (.int .i64 s0_1) ∧ w'.cell? ⟨g, 2, none⟩ = some (.int .i64 s0_2) ∧ w'.cell? ⟨g, 3, none⟩ = some (.bool true) ∧ w'.cell? ⟨g, 4, none⟩ = some (.int .i64 t207)) (ds := [16]) #[false, false, false, false, false, false, false, false, false, false, false, false, false, false, false, false, false] (by kernel_rfl) rfl rfl ⟨(IsS49.cell_0 HI0.out), (IsS49.cell_1 HI0.out), (IsS49.cell_2 HI0.out), (IsS49.cell_3 HI0.out), (IsS49.cell_4 HI0.out)⟩ (fun hHeld => ?_); refine with_tabW flywheelref20_Lossy_Update.tab10 flywheelref20_Lossy_Update.bits10 (fun HT_ HW_ => ?_)
      generalize w35.drew = w36 at HI0 HK HB hHeld ⊢
      refine pure_ (i := 0) (N := some 61) (v := ?_) (a' := ?_) #[true, false, false, false, false, false, false, false, false, false, false, false, false, false, false, false, false] rfl rfl (any_of HT_.out (by kernel_rfl)) (fun _ _ _ h => h) (Or.inl ⟨by rfl, ?_⟩) ?_ ?_
      rotate_left
      ·intro w'
       go_simp
       with_reducible rfl
      rotate_left
      ·simp only [Act.put, List.setIfInBounds_toArray, List.set_cons_zero, List.set_cons_succ, i64_w, i32_w]
       rfl
      refine pure_ (i := 1) (N := some 62) (v := ?_) (a' := ?_) #[true, true, false, false, false, false, false, false, false, false, false, false, false, false, false, false, false] rfl rfl (any_of HT_.out (by kernel_rfl)) (fun _ _ _ h => h) (Or.inl ⟨by rfl, ?_⟩) ?_ ?_
      rotate_left
      ·intro w'
       go_simp
       with_reducible rfl
      rotate_left
      ·simp only [Act.put, List.setIfInBounds_toArray, List.set_cons_zero, List.set_cons_succ, i64_w, i32_w]
       rfl
      refine pure_ (i := 2) (N := some 63) (v := ?_) (a' := ?_) #[true, true, true, false, false, false, false, false, false, false, false, false, false, false, false, false, false] rfl rfl (any_of HT_.out (by kernel_rfl)) (fun _ _ _ h => h) (Or.inl ⟨by rfl, ?_⟩) ?_ ?_
      rotate_left
      ·intro w'
       go_simp
       with_reducible rfl
      rotate_left
      ·simp only [Act.put, List.setIfInBounds_toArray, List.set_cons_zero, List.set_cons_succ, i64_w, i32_w]
       rfl
      refine pure_ (i := 3) (N := some 64) (v := ?_) (a' := ?_) #[true, true, true, true, false, false, false, false, false, false, false, false, false, false, false, false, false] rfl rfl (any_of HT_.out (by kernel_rfl)) (fun _ _ _ h => h) (Or.inl ⟨by rfl, ?_⟩) ?_ ?_
      rotate_left
      ·intro w'
       go_simp
       with_reducible rfl
      rotate_left
      ·simp only [Act.put, List.setIfInBounds_toArray, List.set_cons_zero, List.set_cons_succ, i64_w, i32_w]
       rfl
      refine pure_ (i := 5) (N := some 66) (v := ?_) (a' := ?_) #[true, true, true, true, false, true, false, false, false, false, false, false, false, false, false, false, false] rfl rfl (any_of HT_.out (by kernel_rfl)) (fun _ _ _ h => h) (Or.inl ⟨by rfl, ?_⟩) ?_ ?_
      rotate_left
      ·intro w'
       go_simp
       with_reducible rfl
      rotate_left
      ·simp only [Act.put, List.setIfInBounds_toArray, List.set_cons_zero, List.set_cons_succ, i64_w, i32_w]
       rfl
      refine pure_ (i := 6) (N := some 67) (v := ?_) (a' := ?_) #[true, true, true, true, false, true, true, false, false, false, false, false, false, false, false, false, false] rfl rfl (any_of HT_.out (by kernel_rfl)) (fun _ _ _ h => h) (Or.inl ⟨by rfl, ?_⟩) ?_ ?_
      rotate_left
      ·intro w'
       go_simp
       with_reducible rfl
      rotate_left
      ·simp only [Act.put, List.setIfInBounds_toArray, List.set_cons_zero, List.set_cons_succ, i64_w, i32_w]
       rfl
      refine pure_ (i := 7) (N := some 68) (v := ?_) (a' := ?_) #[true, true, true, true, false, true, true, true, false, false, false, false, false, false, false, false, false] rfl rfl (any_of HT_.out (by kernel_rfl)) (fun _ _ _ h => h) (Or.inl ⟨by rfl, ?_⟩) ?_ ?_
      rotate_left
      ·intro w'
       go_simp
       with_reducible rfl
      rotate_left
      ·simp only [Act.put, List.setIfInBounds_toArray, List.set_cons_zero, List.set_cons_succ, i64_w, i32_w]
       rfl
      refine pure_ (i := 9) (N := some 70) (v := ?_) (a' := ?_) #[true, true, true, true, false, true, true, true, false, true, false, false, false, false, false, false, false] rfl rfl (any_of HT_.out (by kernel_rfl)) (fun _ _ _ h => h) (Or.inl ⟨by rfl, ?_⟩) ?_ ?_
      rotate_left
      ·intro w'
       go_simp
       with_reducible rfl
      rotate_left
      ·simp only [Act.put, List.setIfInBounds_toArray, List.set_cons_zero, List.set_cons_succ, i64_w, i32_w]
       rfl
      refine pure_ (i := 10) (N := some 71) (v := ?_) (a' := ?_) #[true, true, true, true, false, true, true, true, false, true, true, false, false, false, false, false, false] rfl rfl (any_of HT_.out (by kernel_rfl)) (fun _ _ _ h => h) (Or.inl ⟨by rfl, ?_⟩) ?_ ?_
      rotate_left
      ·intro w'
       go_simp
       with_reducible rfl
      rotate_left
      ·simp only [Act.put, List.setIfInBounds_toArray, List.set_cons_zero, List.set_cons_succ, i64_w, i32_w]
       rfl
      refine pure_ (i := 11) (N := some 72) (v := ?_) (a' := ?_) #[true, true, true, true, false, true, true, true, false, true, true, true, false, false, false, false, false] rfl rfl (any_of HT_.out (by kernel_rfl)) (fun _ _ _ h => h) (Or.inl ⟨by rfl, ?_⟩) ?_ ?_
      rotate_left
      ·intro w'
       go_simp
       with_reducible rfl
      rotate_left
      ·simp only [Act.put, List.setIfInBounds_toArray, List.set_cons_zero, List.set_cons_succ, i64_w, i32_w]
       rfl
      refine take_ (i := 4) (N := some 65) (v := ?_) (a' := ?_) #[true, true, true, true, true, true, true, true, false, true, true, true, false, false, false, false, false] rfl rfl (take_ofW HT_.out HW_.out (by kernel_rfl)) (fun _ _ _ h => h) (Or.inl ⟨by rfl, ?_⟩) hHeld ?_ ?_
      rotate_left
      ·rintro w' ⟨s0, s1, s2, s3, s4⟩
       go_simp
       with_reducible rfl
      rotate_left
      ·simp only [Act.put, List.setIfInBounds_toArray, List.set_cons_zero, List.set_cons_succ, i64_w, i32_w]
       rfl
      refine take_ (i := 8) (N := some 69) (v := ?_) (a' := ?_) #[true, true, true, true, true, true, true, true, true, true, true, true, false, false, false, false, false] rfl rfl (take_ofW HT_.out HW_.out (by kernel_rfl)) (fun _ _ _ h => h) (Or.inl ⟨by rfl, ?_⟩) hHeld ?_ ?_
      rotate_left
      ·rintro w' ⟨s0, s1, s2, s3, s4⟩
       go_simp
       with_reducible rfl
      rotate_left
      ·simp only [Act.put, List.setIfInBounds_toArray, List.set_cons_zero, List.set_cons_succ, i64_w, i32_w]
       rfl
      refine take_ (i := 12) (N := some 73) (v := ?_) (a' := ?_) #[true, true, true, true, true, true, true, true, true, true, true, true, true, false, false, false, false] rfl rfl (take_ofW HT_.out HW_.out (by kernel_rfl)) (fun _ _ _ h => h) (Or.inl ⟨by rfl, ?_⟩) hHeld ?_ ?_
      rotate_left
      ·rintro w' ⟨s0, s1, s2, s3, s4⟩
       go_simp
       with_reducible rfl
      rotate_left
      ·simp only [Act.put, List.setIfInBounds_toArray, List.set_cons_zero, List.set_cons_succ, i64_w, i32_w]
       rfl
      refine one_ (i := 13) (N := some 74) #[true, true, true, true, true, true, true, true, true, true, true, true, true, true, false, false, false] rfl rfl (one_of HT_.out (by kernel_rfl)) (by decide) (fun K hK => ?_)
      refine goes_ Tryd.func17 (by kernel_rfl) rfl #[.int .i64 s0_0, .int .i64 s0_1, .int .i64 s0_2] (by rfl) rfl rfl (by (try simp only [List.map_toArray, List.map_cons, List.map_nil]); first | done | rfl | (simp only [List.length_drop, List.length_take]; rfl)) ?_
      with_reducible refine (flywheelref01_Clamp.calls s0_0 s0_1 s0_2 t212 _ A33.out).mono ?_
      rintro e w' ⟨rfl, ⟨nd, rfl⟩⟩
      refine ⟨_, rfl, ?_⟩
      refine hK.out _ _ ⟨(IsS49.cell_0 HI0.out), (IsS49.cell_1 HI0.out), (IsS49.cell_2 HI0.out), (IsS49.cell_3 HI0.out), (IsS49.cell_4 HI0.out)⟩ (fun hHeld => ?_)
      clear hK K
      refine norm_ (a' := ?_) ?_ ?_
      rotate_left
      ·show Act.put _ (some 74) _ = _
       simp only [Act.put, List.setIfInBounds_toArray, List.set_cons_zero, List.set_cons_succ, i64_w, i32_w]
       rfl
      refine pure_ (i := 14) (N := some 75) (v := ?_) (a' := ?_) #[true, true, true, true, true, true, true, true, true, true, true, true, true, true, true, false, false] rfl rfl (any_of HT_.out (by kernel_rfl)) (fun _ _ _ h => h) (Or.inl ⟨by rfl, ?_⟩) ?_ ?_
      rotate_left
      ·intro w'
       go_simp
       with_reducible rfl
      rotate_left
      ·simp only [Act.put, List.setIfInBounds_toArray, List.set_cons_zero, List.set_cons_succ, i64_w, i32_w]
       rfl
      refine pure_ (i := 15) (N := some 76) (v := ?_) (a' := ?_) #[true, true, true, true, true, true, true, true, true, true, true, true, true, true, true, true, false] rfl rfl (any_of HT_.out (by kernel_rfl)) (fun _ _ _ h => h) (Or.inl ⟨by rfl, ?_⟩) ?_ ?_
      rotate_left
      ·intro w'
       go_simp
       with_reducible rfl
      rotate_left
      ·simp only [Act.put, List.setIfInBounds_toArray, List.set_cons_zero, List.set_cons_succ, i64_w, i32_w]
       rfl
      refine last_ (i := 16) (N := none) #[true, true, true, true, true, true, true, true, true, true, true, true, true, true, true, true, true] rfl rfl (one_of HT_.out (by kernel_rfl)) (by decide) (fun K hK => ?_)
      have hs37 : w36.cell? ⟨g, 0, none⟩ = some (.int .i64 s0_0) := IsS49.cell_0 HI0.out
      have hfs37 := IsS49.froz_0 HI0.out
      refine skip_ (w1 := ?_) (by rfl) rfl ?_ ?_
      rotate_left
      ·go_simp
       rfl
      refine hK.out _ _ ?_
      clear hK K
      refine done_ (done_of HT_.out (by kernel_rfl)) ?_
      obtain ⟨HGz38, hgz38⟩ := HI0.out
      have hcz38_0 := cellS49_0 HGz38
      have hcz38_1 := cellS49_1 HGz38
      have hcz38_2 := cellS49_2 HGz38
      have hcz38_3 := cellS49_3 HGz38
      have hcz38_4 := cellS49_4 HGz38
      have hfz38_0 := blk_frozen HGz38 0
      have hfz38_1 := blk_frozen HGz38 1
      have hfz38_2 := blk_frozen HGz38 2
      have hfz38_3 := blk_frozen HGz38 3
      have hfz38_4 := blk_frozen HGz38 4
      clear HGz38 hgz38
      try go_wp2
      go_ret
      exact ⟨by first | rfl | (simp [errW_none, errW_some] <;> rfl) | (simp only [← hji4, ← hji5]; first | rfl | (simp [errW_none, errW_some] <;> rfl)) | (simp [*, errW_none, errW_some] <;> rfl), by repeat (first | (with_reducible first | exact HI0.out | apply IsS49.alloc | apply IsS49.drewN | apply IsS49.drew | apply IsS49.set_0 | apply IsS49.set_1 | apply IsS49.set_2 | apply IsS49.set_3 | apply IsS49.set_4) | exact HI0.out), by repeat (first | (with_reducible first | exact HB.out | apply below_alloc | apply pw_below_drewN | apply below_drew1 | refine below_set ?_ (IsS49.ge HI0.out)) | exact HB.out), by repeat (first | (with_reducible first | exact HK.out | apply KeepBut.set_ | apply keep_drewN | apply keep_drew | apply keep_alloc) | exact HK.out)⟩
def lossy_Lossy_Rate.f (s0_0 : Int) (s0_1 : Int) (s0_2 : Int) (s0_3 : Bool) (s0_4 : Int) : Option (Int × Int × Int × Int × Bool × Int) := some (s0_0, s0_0, s0_1, s0_2, s0_3, s0_4)
set_option maxHeartbeats 8000000 in
set_option maxRecDepth 100000 in
theorem lossy_Lossy_Rate.calls (g : Nat) (s0_0 : Int) (s0_1 : Int) (s0_2 : Int) (s0_3 : Bool) (s0_4 : Int) (r1 : Int) (r2 : Int) (r3 : Int) (r4 : Int) (r5 : Bool) (r6 : Int) (w0 w : World) (hI : IsS42 w0 w g s0_0 s0_1 s0_2 s0_3 s0_4) (hB : Below w0.heap.size w0 w) (h : lossy_Lossy_Rate.f s0_0 s0_1 s0_2 s0_3 s0_4 = some (r1, r2, r3, r4, r5, r6)) :
  Calls Tryd.prog 12 #[.pointer (some ⟨g, 0, none⟩)] w fun e w' => e = .returned (.int .i64 r1) ∧ IsS42 w0 w' g r2 r3 r4 r5 r6 ∧ Below w0.heap.size w0 w' ∧ KeepBut w w' g none := by
 have hpn24_eql : ∀ (a_ : Addr) (W_ : World), (Go.binOp .eql 24 (.pointer (some a_)) (.pointer none)).run Tryd.prog W_ = .ok (.bool false) W_ := fun _ _ => by kernel_rfl
 have hnn24_eql : ∀ (W_ : World), (Go.binOp .eql 24 (.pointer none) (.pointer none)).run Tryd.prog W_ = .ok (.bool true) W_ := fun _ => by kernel_rfl
 have HI0 := Aside0.mk hI
 have HK := Aside0.mk (KeepBut.refl w g none)
 have HL := Aside0.mk hB.size
 clear hI
 have HW0 := Aside0.mk hB.size
 have HB := Aside0.mk hB
 clear hB
 have H : (some (s0_0, s0_0, s0_1, s0_2, s0_3, s0_4)) = some (r1, r2, r3, r4, r5, r6) := h
 clear h
 simp only [Option.some.injEq, Prod.mk.injEq] at H
 obtain ⟨rfl, rfl, rfl, rfl, rfl, rfl⟩ := H
 obtain ⟨HGz2, hgz2⟩ := HI0.out
 have hcz2_0 := cellS42_0 HGz2
 have hcz2_1 := cellS42_1 HGz2
 have hcz2_2 := cellS42_2 HGz2
 have hcz2_3 := cellS42_3 HGz2
 have hcz2_4 := cellS42_4 HGz2
 have hfz2_0 := blk_frozen HGz2 0
 have hfz2_1 := blk_frozen HGz2 1
 have hfz2_2 := blk_frozen HGz2 2
 have hfz2_3 := blk_frozen HGz2 3
 have hfz2_4 := blk_frozen HGz2 4
 clear HGz2 hgz2
 go_enter Tryd.func12, Tryd.ntmps12
 go_wp2
 go_ret
 exact ⟨by first | rfl | (simp [errW_none, errW_some] <;> rfl) | (simp [*, errW_none, errW_some] <;> rfl), by repeat (first | (with_reducible first | exact HI0.out | apply IsS42.alloc | apply IsS42.drewN | apply IsS42.drew | apply IsS42.set_0 | apply IsS42.set_1 | apply IsS42.set_2 | apply IsS42.set_3 | apply IsS42.set_4) | exact HI0.out), by repeat (first | (with_reducible first | exact HB.out | apply below_alloc | apply pw_below_drewN | apply below_drew1 | refine below_set ?_ (IsS42.ge HI0.out)) | exact HB.out), by repeat (first | (with_reducible first | exact HK.out | apply KeepBut.set_ | apply keep_drewN | apply keep_drew | apply keep_alloc) | exact HK.out)⟩
def flywheelref20_Lossy_Rate.f (s0_0 : Int) (s0_1 : Int) (s0_2 : Int) (s0_3 : Bool) (s0_4 : Int) : Option (Int × Int × Int × Int × Bool × Int) := some (s0_0, s0_0, s0_1, s0_2, s0_3, s0_4)
set_option maxHeartbeats 8000000 in
set_option maxRecDepth 100000 in
theorem flywheelref20_Lossy_Rate.calls (g : Nat) (s0_0 : Int) (s0_1 : Int) (s0_2 : Int) (s0_3 : Bool) (s0_4 : Int) (r1 : Int) (r2 : Int) (r3 : Int) (r4 : Int) (r5 : Bool) (r6 : Int) (w0 w : World) (hI : IsS49 w0 w g s0_0 s0_1 s0_2 s0_3 s0_4) (hB : Below w0.heap.size w0 w) (h : flywheelref20_Lossy_Rate.f s0_0 s0_1 s0_2 s0_3 s0_4 = some (r1, r2, r3, r4, r5, r6)) :
  Calls Tryd.prog 13 #[.pointer (some ⟨g, 0, none⟩)] w fun e w' => e = .returned (.int .i64 r1) ∧ IsS49 w0 w' g r2 r3 r4 r5 r6 ∧ Below w0.heap.size w0 w' ∧ KeepBut w w' g none := by
 have HI0 := Aside0.mk hI
 have HK := Aside0.mk (KeepBut.refl w g none)
 have HL := Aside0.mk hB.size
 clear hI
 have HW0 := Aside0.mk hB.size
 have HB := Aside0.mk hB
 clear hB
 have H : (some (s0_0, s0_0, s0_1, s0_2, s0_3, s0_4)) = some (r1, r2, r3, r4, r5, r6) := h
 clear h
 simp only [Option.some.injEq, Prod.mk.injEq] at H
 obtain ⟨rfl, rfl, rfl, rfl, rfl, rfl⟩ := H
 obtain ⟨HGz2, hgz2⟩ := HI0.out
 have hcz2_0 := cellS49_0 HGz2
 have hcz2_1 := cellS49_1 HGz2
 have hcz2_2 := cellS49_2 HGz2
 have hcz2_3 := cellS49_3 HGz2
 have hcz2_4 := cellS49_4 HGz2
 have hfz2_0 := blk_frozen HGz2 0
 have hfz2_1 := blk_frozen HGz2 1
 have hfz2_2 := blk_frozen HGz2 2
 have hfz2_3 := blk_frozen HGz2 3
 have hfz2_4 := blk_frozen HGz2 4
 clear HGz2 hgz2
 go_enter Tryd.func13, Tryd.ntmps13
 go_wp2
 go_ret
 exact ⟨by first | rfl | (simp [errW_none, errW_some] <;> rfl) | (simp [*, errW_none, errW_some] <;> rfl), by repeat (first | (with_reducible first | exact HI0.out | apply IsS49.alloc | apply IsS49.drewN | apply IsS49.drew | apply IsS49.set_0 | apply IsS49.set_1 | apply IsS49.set_2 | apply IsS49.set_3 | apply IsS49.set_4) | exact HI0.out), by repeat (first | (with_reducible first | exact HB.out | apply below_alloc | apply pw_below_drewN | apply below_drew1 | refine below_set ?_ (IsS49.ge HI0.out)) | exact HB.out), by repeat (first | (with_reducible first | exact HK.out | apply KeepBut.set_ | apply keep_drewN | apply keep_drew | apply keep_alloc) | exact HK.out)⟩
end Go.Proofs.YtkfkbebpcmmnfaaDoor.P
end

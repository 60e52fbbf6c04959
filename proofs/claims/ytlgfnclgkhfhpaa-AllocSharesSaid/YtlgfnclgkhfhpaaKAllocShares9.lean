-- PUT TOGETHER by a program of this session: of the claim's texts, what is used
import Derived.Test.YtlgfnclgkhfhpaaKAllocShares7
import Derived.Test.YtlgfnclgkhfhpaaKAllocShares8
section
namespace Go.Proofs.Ytlgfnclgkhfhpaa.P
open Go.RowKit Go.Proofs.YtlgfnclgkhfhpaaW.PrintWords Go.Proofs.YtlgfnclgkhfhpaaW.PrintLast Go.Proofs.YtlgfnclgkhfhpaaW.PrintMore
attribute [local go_sem] max2_int min2_int max_two min_two max_three min_three max_four min_four   -- for this text's walks alone
set_option linter.unusedVariables false
set_option linter.unusedSimpArgs false
mutual
def flywheelref02_Did.j0 : Nat → Int → Int → Int → Int → Bool → Option (Int × Bool)
  | 0, _, _, _, _, _ => none
  | k + 1, x0, x1, x2, x3, x23 => if x23 = true then (some (0, false)) else ((flywheelref02_size.f x0).bind fun t167 => ((flywheelref02_size.f x1).bind fun t168 => ((flywheelref02_times.f t167 t168).bind fun bt169 => ((flywheelref02_size.f x2).bind fun t171 => ((flywheelref02_part.f k bt169.1 bt169.2 t171).bind fun bt172 => (if x0 < 0 then (if x1 < 0 then (if x2 < 0 then (flywheelref02_Did.j1 k x2 x3 true bt172.1 bt172.2.1 bt172.2.2) else (flywheelref02_Did.j1 k x2 x3 false bt172.1 bt172.2.1 bt172.2.2)) else (if x2 < 0 then (flywheelref02_Did.j1 k x2 x3 false bt172.1 bt172.2.1 bt172.2.2) else (flywheelref02_Did.j1 k x2 x3 true bt172.1 bt172.2.1 bt172.2.2))) else (if x1 < 0 then (if x2 < 0 then (flywheelref02_Did.j1 k x2 x3 false bt172.1 bt172.2.1 bt172.2.2) else (flywheelref02_Did.j1 k x2 x3 true bt172.1 bt172.2.1 bt172.2.2)) else (if x2 < 0 then (flywheelref02_Did.j1 k x2 x3 true bt172.1 bt172.2.1 bt172.2.2) else (flywheelref02_Did.j1 k x2 x3 false bt172.1 bt172.2.1 bt172.2.2)))))))))
def flywheelref02_Did.j1 : Nat → Int → Int → Bool → Int → Bool → Int → Option (Int × Bool)
  | 0, _, _, _, _, _, _ => none
  | k + 1, x2, x3, x10, x176000, x176001, x176002 => if x176002 = 0 then (flywheelref02_Did.j2 k x10 false x176000 x176001 x176002) else (if x3 = 1 then (flywheelref02_Did.j2 k x10 x10 x176000 x176001 x176002) else (if x3 = 3 then (flywheelref02_Did.j2 k x10 (!x10) x176000 x176001 x176002) else (if x10 = true then ((flywheelref02_size.f x2).bind fun t176 => (flywheelref02_Did.j2 k x10 (decide (x176002 > (IntKind.u64.wrap (t176 - x176002)))) x176000 x176001 x176002)) else ((flywheelref02_size.f x2).bind fun t177 => (flywheelref02_Did.j2 k x10 (decide (x176002 ≥ (IntKind.u64.wrap (t177 - x176002)))) x176000 x176001 x176002)))))
def flywheelref02_Did.j2 : Nat → Bool → Bool → Int → Bool → Int → Option (Int × Bool)
  | 0, _, _, _, _, _ => none
  | k + 1, x10, x11, x176000, x176001, x176002 => if x11 = true then (if x176001 = true then (flywheelref02_Did.j3 k x10 (IntKind.u64.wrap (x176000 + 1)) true) else (flywheelref02_Did.j3 k x10 (IntKind.u64.wrap (x176000 + 1)) ((IntKind.u64.wrap (x176000 + 1)) == 0))) else (flywheelref02_Did.j3 k x10 x176000 x176001)
def flywheelref02_Did.j3 : Nat → Bool → Int → Bool → Option (Int × Bool)
  | 0, _, _, _ => none
  | k + 1, x10, x12, x13 => if x10 = true then (if x13 = true then (flywheelref02_Did.j4 k x12 true) else (flywheelref02_Did.j4 k x12 (decide (x12 > 9223372036854775808)))) else (if x13 = true then (some (9223372036854775807, false)) else (if x12 > 9223372036854775807 then (some (9223372036854775807, false)) else (some (wrap64 (x12), true))))
def flywheelref02_Did.j4 : Nat → Int → Bool → Option (Int × Bool)
  | 0, _, _ => none
  | k + 1, x12, x89 => if x89 = true then (some ((-9223372036854775808), false)) else (some (wrap64 (-(wrap64 (x12))), true))
end
def flywheelref02_Did.f (k : Nat) (a0 : Int) (a1 : Int) (a2 : Int) (a3 : Int) : Option (Int × Bool) := if a2 = 0 then (flywheelref02_Did.j0 k a0 a1 a2 a3 true) else (if a3 < 1 then (flywheelref02_Did.j0 k a0 a1 a2 a3 true) else (flywheelref02_Did.j0 k a0 a1 a2 a3 (decide (a3 > 3))))
set_option maxHeartbeats 8000000 in
set_option maxRecDepth 100000 in
theorem flywheelref02_Did.calls (k : Nat) (a0 : Int) (a1 : Int) (a2 : Int) (a3 : Int) (r1 : Int) (r2 : Bool) (w : World) (h : flywheelref02_Did.f k a0 a1 a2 a3 = some (r1, r2)) :
    Calls Try.prog 51 #[.int .i64 a0, .int .i64 a1, .int .i64 a2, .int .i64 a3] w fun e w' => e = .returned (.agg #[.int .i64 r1, .bool r2]) ∧ Below w.heap.size w w' := by
  have hu91 := Try.underlying91
  have hu99 := Try.underlying99
  have HB := Aside0.mk (Below.refl w.heap.size w)
  have H : (if a2 = 0 then (flywheelref02_Did.j0 k a0 a1 a2 a3 true) else (if a3 < 1 then (flywheelref02_Did.j0 k a0 a1 a2 a3 true) else (flywheelref02_Did.j0 k a0 a1 a2 a3 (decide (a3 > 3))))) = some (r1, r2) := h
  clear h
  have HC5 := Aside0.mk H
  clear H
  go_enter Try.func51, Try.ntmps51
  go_upto_region 1 with (first | ((with_reducible refine gate_dst (N := 8) rfl ?_); refine box_event ?hg (N := 8) ?hd (cs := #[.int .i64 0, .bool false]) (t := 91) ?hr ?_; (case hd => rfl); (case hg => rfl); (case hr => first | (go_simp; done) | (go_simp; rfl)); intro gb166 hg w6 hbox hb; have n0_ := Aside0.mk (below_step (by repeat (first | (with_reducible first | exact HB.out | apply below_alloc | apply pw_below_drewN | apply below_drew1) | exact HB.out)) hb); have n1_ := Aside0.mk (hbox); have n2_ := Aside0.mk ((by rw [hg]; exact (below_size (by repeat (first | (with_reducible first | exact HB.out | apply below_alloc | apply pw_below_drewN | apply below_drew1) | exact HB.out))) : w.heap.size ≤ gb166)); have n3_ := Aside0.mk ((by rw [hg]; exact (below_size (by repeat (first | (with_reducible first | exact HB.out | apply below_alloc | apply pw_below_drewN | apply below_drew1) | exact HB.out))) : w.heap.size ≤ gb166)); clear HB; have HB := n0_; have BK166 := n1_; have GW166 := n2_; have GE166 := n3_; clear n0_ n1_ n2_ n3_; clear hb hbox hg))
  repeat (go_quiet (first | ((with_reducible refine gate_dst (N := 8) rfl ?_); refine box_event ?hg (N := 8) ?hd (cs := #[.int .i64 0, .bool false]) (t := 91) ?hr ?_; (case hd => rfl); (case hg => rfl); (case hr => first | (go_simp; done) | (go_simp; rfl)); intro gb166 hg w6 hbox hb; have n0_ := Aside0.mk (below_step (by repeat (first | (with_reducible first | exact HB.out | apply below_alloc | apply pw_below_drewN | apply below_drew1) | exact HB.out)) hb); have n1_ := Aside0.mk (hbox); have n2_ := Aside0.mk ((by rw [hg]; exact (below_size (by repeat (first | (with_reducible first | exact HB.out | apply below_alloc | apply pw_below_drewN | apply below_drew1) | exact HB.out))) : w.heap.size ≤ gb166)); have n3_ := Aside0.mk ((by rw [hg]; exact (below_size (by repeat (first | (with_reducible first | exact HB.out | apply below_alloc | apply pw_below_drewN | apply below_drew1) | exact HB.out))) : w.heap.size ≤ gb166)); clear HB; have HB := n0_; have BK166 := n1_; have GW166 := n2_; have GE166 := n3_; clear n0_ n1_ n2_ n3_; clear hb hbox hg)); go_upto_region 1 with (first | ((with_reducible refine gate_dst (N := 8) rfl ?_); refine box_event ?hg (N := 8) ?hd (cs := #[.int .i64 0, .bool false]) (t := 91) ?hr ?_; (case hd => rfl); (case hg => rfl); (case hr => first | (go_simp; done) | (go_simp; rfl)); intro gb166 hg w6 hbox hb; have n0_ := Aside0.mk (below_step (by repeat (first | (with_reducible first | exact HB.out | apply below_alloc | apply pw_below_drewN | apply below_drew1) | exact HB.out)) hb); have n1_ := Aside0.mk (hbox); have n2_ := Aside0.mk ((by rw [hg]; exact (below_size (by repeat (first | (with_reducible first | exact HB.out | apply below_alloc | apply pw_below_drewN | apply below_drew1) | exact HB.out))) : w.heap.size ≤ gb166)); have n3_ := Aside0.mk ((by rw [hg]; exact (below_size (by repeat (first | (with_reducible first | exact HB.out | apply below_alloc | apply pw_below_drewN | apply below_drew1) | exact HB.out))) : w.heap.size ≤ gb166)); clear HB; have HB := n0_; have BK166 := n1_; have GW166 := n2_; have GE166 := n3_; clear n0_ n1_ n2_ n3_; clear hb hbox hg)))
  (try simp only [Act.put, List.setIfInBounds_toArray, List.set_cons_zero, List.set_cons_succ])
  go_cut [23] (fun v23 wc => ∃ (kq : Nat) (x23_4 : Bool), v23 = .bool x23_4 ∧ Aside0 (flywheelref02_Did.j0 kq a0 a1 a2 a3 x23_4 = some (r1, r2)) ∧ Aside0 (kq ≤ k) ∧ Aside0 (wc.heap[gb166]? = some (.cells #[.int .i64 0, .bool false] 91 (0, 0))) ∧ Aside0 (Below w.heap.size w wc))
  case first =>
    have H := HC5.out
    clear HC5
    by_cases c7 : a2 = 0
    · rw [if_pos c7] at H
      have c7b0 : (a2 == 0) = true := beq_iff_eq.mpr c7
      have c7b1 : (a2 != 0) = false := bne_eq_false_iff_eq.mpr c7
      clear c7
      (first | rw [c7b0] | (simp only [i64_w, i32_w]; rw [c7b0]) | skip)
      have H' := Aside0.mk H
      clear H
      go_wp2
      repeat (go_quiet (fail); try go_wp2)
      go_meet
      case rel => exact ⟨_, (true), (by first | rfl | (simp; done) | (simp [*]; done)), H', ⟨by first | omega | exact Nat.le_refl _⟩, ⟨by (with_reducible repeat (first | refine blk_drewN ?_ _ | refine blk_drew ?_ | refine blk_alloc ?_ _)); exact BK166.out⟩, ⟨by repeat (first | (with_reducible first | exact HB.out | apply below_alloc | apply pw_below_drewN | apply below_drew1 | refine below_set ?_ GE166.out) | exact HB.out)⟩⟩
    · rw [if_neg c7] at H
      have c7b0 : (a2 == 0) = false := beq_eq_false_iff_ne.mpr c7
      have c7b1 : (a2 != 0) = true := bne_iff_ne.mpr c7
      (first | rw [c7b0] | (simp only [i64_w, i32_w]; rw [c7b0]) | skip)
      by_cases c8 : a3 < 1
      · rw [if_pos c8] at H
        have c8b0 : decide (a3 < 1) = true := decide_eq_true c8
        clear c8
        have H' := Aside0.mk H
        clear H
        go_wp2
        repeat (go_quiet (fail); try go_wp2)
        go_meet
        case rel => exact ⟨_, (true), (by first | rfl | (simp; done) | (simp [*]; done)), H', ⟨by first | omega | exact Nat.le_refl _⟩, ⟨by (with_reducible repeat (first | refine blk_drewN ?_ _ | refine blk_drew ?_ | refine blk_alloc ?_ _)); exact BK166.out⟩, ⟨by repeat (first | (with_reducible first | exact HB.out | apply below_alloc | apply pw_below_drewN | apply below_drew1 | refine below_set ?_ GE166.out) | exact HB.out)⟩⟩
      · rw [if_neg c8] at H
        have c8b0 : decide (a3 < 1) = false := decide_eq_false c8
        clear c8
        have H' := Aside0.mk H
        clear H
        go_wp2
        repeat (go_quiet (fail); try go_wp2)
        go_meet
        case rel => exact ⟨_, (decide (a3 > 3)), (by first | rfl | (simp; done) | (simp [*]; done)), H', ⟨by first | omega | exact Nat.le_refl _⟩, ⟨by (with_reducible repeat (first | refine blk_drewN ?_ _ | refine blk_drew ?_ | refine blk_alloc ?_ _)); exact BK166.out⟩, ⟨by repeat (first | (with_reducible first | exact HB.out | apply below_alloc | apply pw_below_drewN | apply below_drew1 | refine below_set ?_ GE166.out) | exact HB.out)⟩⟩
  case rest =>
    clear HC5
    try clear p2
    try clear c5
    try clear c7
    try clear c7b0
    try clear c7b1
    try clear c8
    try clear c8b0
    obtain ⟨kq, x23_4, rfl, HA, HJ4, BK166, HB⟩ := hcut
    cases kq with
    | zero => exact absurd HA.out (by simp [flywheelref02_Did.j0])
    | succ kj4 =>
      have H := HA.out
      clear HA
      simp only [flywheelref02_Did.j0] at H
      by_cases c9 : x23_4 = true
      · subst c9
        have H1 : (some (0, false)) = some (r1, r2) := by rw [if_pos rfl] at H; exact H
        clear H
        have H := H1
        clear H1
        simp only [Option.some.injEq, Prod.mk.injEq] at H
        obtain ⟨rfl, rfl⟩ := H
        have hcz10_0 : wc.cell? ⟨gb166, 0, none⟩ = some (.int .i64 0) := (blk_cell BK166.out 0).trans rfl
        have hcz10_1 : wc.cell? ⟨gb166, 1, none⟩ = some (.bool false) := (blk_cell BK166.out 1).trans rfl
        have hfz10_0 := blk_frozen BK166.out 0
        have hfz10_1 := blk_frozen BK166.out 1
        go_wp2
        repeat (go_quiet (fail); try go_wp2)
        refine bodyPost_ret (results_cell_row rfl _ _ gb166 91 #[.int .i64 0, .bool false] (0, 0) _ rfl (by (with_reducible repeat (first | refine blk_drewN ?_ _ | refine blk_drew ?_ | refine blk_alloc ?_ _)); refine blk_put (cs := #[.int .i64 0, .bool false]) ?_ 1 _ rfl; (with_reducible repeat (first | refine blk_drewN ?_ _ | refine blk_drew ?_ | refine blk_alloc ?_ _)); refine blk_put (cs := #[.int .i64 0, .bool false]) ?_ 0 _ rfl; (with_reducible repeat (first | refine blk_drewN ?_ _ | refine blk_drew ?_ | refine blk_alloc ?_ _)); exact BK166.out) Try.underlying91 rfl (by kernel_rfl)) rfl ?_
        exact ⟨by first | rfl | (simp [errW_none, errW_some] <;> rfl) | (simp [*, errW_none, errW_some] <;> rfl), by repeat (first | (with_reducible first | exact HB.out | apply below_alloc | apply pw_below_drewN | apply below_drew1 | refine below_set ?_ GE166.out) | exact HB.out)⟩
      · replace c9 := Bool.eq_false_iff.mpr c9
        subst c9
        have H1 : ((flywheelref02_size.f a0).bind fun t167 => ((flywheelref02_size.f a1).bind fun t168 => ((flywheelref02_times.f t167 t168).bind fun bt169 => ((flywheelref02_size.f a2).bind fun t171 => ((flywheelref02_part.f kj4 bt169.1 bt169.2 t171).bind fun bt172 => (if a0 < 0 then (if a1 < 0 then (if a2 < 0 then (flywheelref02_Did.j1 kj4 a2 a3 true bt172.1 bt172.2.1 bt172.2.2) else (flywheelref02_Did.j1 kj4 a2 a3 false bt172.1 bt172.2.1 bt172.2.2)) else (if a2 < 0 then (flywheelref02_Did.j1 kj4 a2 a3 false bt172.1 bt172.2.1 bt172.2.2) else (flywheelref02_Did.j1 kj4 a2 a3 true bt172.1 bt172.2.1 bt172.2.2))) else (if a1 < 0 then (if a2 < 0 then (flywheelref02_Did.j1 kj4 a2 a3 false bt172.1 bt172.2.1 bt172.2.2) else (flywheelref02_Did.j1 kj4 a2 a3 true bt172.1 bt172.2.1 bt172.2.2)) else (if a2 < 0 then (flywheelref02_Did.j1 kj4 a2 a3 true bt172.1 bt172.2.1 bt172.2.2) else (flywheelref02_Did.j1 kj4 a2 a3 false bt172.1 bt172.2.1 bt172.2.2))))))))) = some (r1, r2) := by rw [if_neg (show ¬ (false = true) by decide)] at H; exact H
        clear H
        have H := H1
        clear H1
        replace H := Option.bind_eq_some_iff.mp H
        obtain ⟨t167, A110, H⟩ := H
        replace H : ((flywheelref02_size.f a1).bind fun t168 => ((flywheelref02_times.f t167 t168).bind fun bt169 => ((flywheelref02_size.f a2).bind fun t171 => ((flywheelref02_part.f kj4 bt169.1 bt169.2 t171).bind fun bt172 => (if a0 < 0 then (if a1 < 0 then (if a2 < 0 then (flywheelref02_Did.j1 kj4 a2 a3 true bt172.1 bt172.2.1 bt172.2.2) else (flywheelref02_Did.j1 kj4 a2 a3 false bt172.1 bt172.2.1 bt172.2.2)) else (if a2 < 0 then (flywheelref02_Did.j1 kj4 a2 a3 false bt172.1 bt172.2.1 bt172.2.2) else (flywheelref02_Did.j1 kj4 a2 a3 true bt172.1 bt172.2.1 bt172.2.2))) else (if a1 < 0 then (if a2 < 0 then (flywheelref02_Did.j1 kj4 a2 a3 false bt172.1 bt172.2.1 bt172.2.2) else (flywheelref02_Did.j1 kj4 a2 a3 true bt172.1 bt172.2.1 bt172.2.2)) else (if a2 < 0 then (flywheelref02_Did.j1 kj4 a2 a3 true bt172.1 bt172.2.1 bt172.2.2) else (flywheelref02_Did.j1 kj4 a2 a3 false bt172.1 bt172.2.1 bt172.2.2)))))))) = some (r1, r2) := H
        have A11 := Aside0.mk A110
        clear A110
        replace H := Option.bind_eq_some_iff.mp H
        obtain ⟨t168, A120, H⟩ := H
        replace H : ((flywheelref02_times.f t167 t168).bind fun bt169 => ((flywheelref02_size.f a2).bind fun t171 => ((flywheelref02_part.f kj4 bt169.1 bt169.2 t171).bind fun bt172 => (if a0 < 0 then (if a1 < 0 then (if a2 < 0 then (flywheelref02_Did.j1 kj4 a2 a3 true bt172.1 bt172.2.1 bt172.2.2) else (flywheelref02_Did.j1 kj4 a2 a3 false bt172.1 bt172.2.1 bt172.2.2)) else (if a2 < 0 then (flywheelref02_Did.j1 kj4 a2 a3 false bt172.1 bt172.2.1 bt172.2.2) else (flywheelref02_Did.j1 kj4 a2 a3 true bt172.1 bt172.2.1 bt172.2.2))) else (if a1 < 0 then (if a2 < 0 then (flywheelref02_Did.j1 kj4 a2 a3 false bt172.1 bt172.2.1 bt172.2.2) else (flywheelref02_Did.j1 kj4 a2 a3 true bt172.1 bt172.2.1 bt172.2.2)) else (if a2 < 0 then (flywheelref02_Did.j1 kj4 a2 a3 true bt172.1 bt172.2.1 bt172.2.2) else (flywheelref02_Did.j1 kj4 a2 a3 false bt172.1 bt172.2.1 bt172.2.2))))))) = some (r1, r2) := H
        have A12 := Aside0.mk A120
        clear A120
        replace H := Option.bind_eq_some_iff.mp H
        obtain ⟨⟨t169, t170⟩, A130, H⟩ := H
        replace H : ((flywheelref02_size.f a2).bind fun t171 => ((flywheelref02_part.f kj4 t169 t170 t171).bind fun bt172 => (if a0 < 0 then (if a1 < 0 then (if a2 < 0 then (flywheelref02_Did.j1 kj4 a2 a3 true bt172.1 bt172.2.1 bt172.2.2) else (flywheelref02_Did.j1 kj4 a2 a3 false bt172.1 bt172.2.1 bt172.2.2)) else (if a2 < 0 then (flywheelref02_Did.j1 kj4 a2 a3 false bt172.1 bt172.2.1 bt172.2.2) else (flywheelref02_Did.j1 kj4 a2 a3 true bt172.1 bt172.2.1 bt172.2.2))) else (if a1 < 0 then (if a2 < 0 then (flywheelref02_Did.j1 kj4 a2 a3 false bt172.1 bt172.2.1 bt172.2.2) else (flywheelref02_Did.j1 kj4 a2 a3 true bt172.1 bt172.2.1 bt172.2.2)) else (if a2 < 0 then (flywheelref02_Did.j1 kj4 a2 a3 true bt172.1 bt172.2.1 bt172.2.2) else (flywheelref02_Did.j1 kj4 a2 a3 false bt172.1 bt172.2.1 bt172.2.2)))))) = some (r1, r2) := H
        have A13 := Aside0.mk A130
        clear A130
        replace H := Option.bind_eq_some_iff.mp H
        obtain ⟨t171, A140, H⟩ := H
        replace H : ((flywheelref02_part.f kj4 t169 t170 t171).bind fun bt172 => (if a0 < 0 then (if a1 < 0 then (if a2 < 0 then (flywheelref02_Did.j1 kj4 a2 a3 true bt172.1 bt172.2.1 bt172.2.2) else (flywheelref02_Did.j1 kj4 a2 a3 false bt172.1 bt172.2.1 bt172.2.2)) else (if a2 < 0 then (flywheelref02_Did.j1 kj4 a2 a3 false bt172.1 bt172.2.1 bt172.2.2) else (flywheelref02_Did.j1 kj4 a2 a3 true bt172.1 bt172.2.1 bt172.2.2))) else (if a1 < 0 then (if a2 < 0 then (flywheelref02_Did.j1 kj4 a2 a3 false bt172.1 bt172.2.1 bt172.2.2) else (flywheelref02_Did.j1 kj4 a2 a3 true bt172.1 bt172.2.1 bt172.2.2)) else (if a2 < 0 then (flywheelref02_Did.j1 kj4 a2 a3 true bt172.1 bt172.2.1 bt172.2.2) else (flywheelref02_Did.j1 kj4 a2 a3 false bt172.1 bt172.2.1 bt172.2.2))))) = some (r1, r2) := H
        have A14 := Aside0.mk A140
        clear A140
        replace H := Option.bind_eq_some_iff.mp H
        obtain ⟨⟨t172, t173, t174⟩, A150, H⟩ := H
        replace H : (if a0 < 0 then (if a1 < 0 then (if a2 < 0 then (flywheelref02_Did.j1 kj4 a2 a3 true t172 t173 t174) else (flywheelref02_Did.j1 kj4 a2 a3 false t172 t173 t174)) else (if a2 < 0 then (flywheelref02_Did.j1 kj4 a2 a3 false t172 t173 t174) else (flywheelref02_Did.j1 kj4 a2 a3 true t172 t173 t174))) else (if a1 < 0 then (if a2 < 0 then (flywheelref02_Did.j1 kj4 a2 a3 false t172 t173 t174) else (flywheelref02_Did.j1 kj4 a2 a3 true t172 t173 t174)) else (if a2 < 0 then (flywheelref02_Did.j1 kj4 a2 a3 true t172 t173 t174) else (flywheelref02_Did.j1 kj4 a2 a3 false t172 t173 t174)))) = some (r1, r2) := H
        have A15 := Aside0.mk A150
        clear A150
        have HC16 := Aside0.mk H
        clear H
        go_upto_region 4 with (first | (go_at_call 58; (with_reducible refine (flywheelref02_size.calls a0 t167 _ A11.out).mono ?_); rintro e w' ⟨rfl, ⟨nd, rfl⟩⟩; (try first | exact ⟨rfl, _, World.drewN_drewN _ _ _⟩ | exact ⟨rfl, _, Eq.trans (World.drewN_drewN _ _ _) (congrArg (World.drewN _) (Nat.add_assoc _ _ _))⟩)) | (go_at_call 58; (with_reducible refine (flywheelref02_size.calls a1 t168 _ A12.out).mono ?_); rintro e w' ⟨rfl, ⟨nd, rfl⟩⟩; (try first | exact ⟨rfl, _, World.drewN_drewN _ _ _⟩ | exact ⟨rfl, _, Eq.trans (World.drewN_drewN _ _ _) (congrArg (World.drewN _) (Nat.add_assoc _ _ _))⟩)) | (go_at_call 57; (with_reducible refine (flywheelref02_times.calls t167 t168 t169 t170 _ A13.out).mono ?_); rintro e w17 ⟨rfl, hb⟩; have n0_ := Aside0.mk (blk_below (g := gb166) (o := .cells #[.int .i64 0, .bool false] 91 (0, 0)) (by (with_reducible repeat (first | refine blk_drewN ?_ _ | refine blk_drew ?_ | refine blk_alloc ?_ _)); exact BK166.out) hb); have n1_ := Aside0.mk (below_step (by repeat (first | (with_reducible first | exact HB.out | apply below_alloc | apply pw_below_drewN | apply below_drew1 | refine below_set ?_ GE166.out) | exact HB.out)) hb); clear BK166; clear HB; have BK166 := n0_; have HB := n1_; clear n0_ n1_; (try clear hb); (try clear hb2); (try clear hk); (try clear hi)) | (go_at_call 58; (with_reducible refine (flywheelref02_size.calls a2 t171 _ A14.out).mono ?_); rintro e w' ⟨rfl, ⟨nd, rfl⟩⟩; (try first | exact ⟨rfl, _, World.drewN_drewN _ _ _⟩ | exact ⟨rfl, _, Eq.trans (World.drewN_drewN _ _ _) (congrArg (World.drewN _) (Nat.add_assoc _ _ _))⟩)) | (go_at_call 56; (with_reducible refine (flywheelref02_part.calls kj4 t169 t170 t171 t172 t173 t174 _ A15.out).mono ?_); rintro e w18 ⟨rfl, hb⟩; have n0_ := Aside0.mk (blk_below (g := gb166) (o := .cells #[.int .i64 0, .bool false] 91 (0, 0)) (by (with_reducible repeat (first | refine blk_drewN ?_ _ | refine blk_drew ?_ | refine blk_alloc ?_ _)); exact BK166.out) hb); have n1_ := Aside0.mk (below_step (by repeat (first | (with_reducible first | exact HB.out | apply below_alloc | apply pw_below_drewN | apply below_drew1 | refine below_set ?_ GE166.out) | exact HB.out)) hb); clear BK166; clear HB; have BK166 := n0_; have HB := n1_; clear n0_ n1_; (try clear hb); (try clear hb2); (try clear hk); (try clear hi)) | ((with_reducible refine gate_dst (N := 9) rfl ?_); refine box_event ?hg (N := 9) ?hd (cs := #[.int .u64 0, .bool false, .int .u64 0]) (t := 99) ?hr ?_; (case hd => rfl); (case hg => rfl); (case hr => first | (go_simp; done) | (go_simp; rfl)); intro gb175 hg w19 hbox hb; have n0_ := Aside0.mk (blk_below (g := gb166) (o := .cells #[.int .i64 0, .bool false] 91 (0, 0)) (by (with_reducible repeat (first | refine blk_drewN ?_ _ | refine blk_drew ?_ | refine blk_alloc ?_ _)); exact BK166.out) hb); have n1_ := Aside0.mk (below_step (by repeat (first | (with_reducible first | exact HB.out | apply below_alloc | apply pw_below_drewN | apply below_drew1 | refine below_set ?_ GE166.out) | exact HB.out)) hb); have n2_ := Aside0.mk (hbox); have n3_ := Aside0.mk ((by rw [hg]; exact (below_size (by repeat (first | (with_reducible first | exact HB.out | apply below_alloc | apply pw_below_drewN | apply below_drew1 | refine below_set ?_ GE166.out) | exact HB.out))) : w.heap.size ≤ gb175)); have n4_ := Aside0.mk ((by rw [hg]; exact (below_size (by repeat (first | (with_reducible first | exact HB.out | apply below_alloc | apply pw_below_drewN | apply below_drew1 | refine below_set ?_ GE166.out) | exact HB.out))) : w.heap.size ≤ gb175)); have n5_ := Aside0.mk ((by rw [hg]; exact Nat.ne_of_lt (blk_lt (g := gb166) (o := .cells #[.int .i64 0, .bool false] 91 (0, 0)) (by (with_reducible repeat (first | refine blk_drewN ?_ _ | refine blk_drew ?_ | refine blk_alloc ?_ _)); exact BK166.out)) : gb166 ≠ gb175)); have n6_ := Aside0.mk ((by rw [hg]; exact Nat.ne_of_gt (blk_lt (g := gb166) (o := .cells #[.int .i64 0, .bool false] 91 (0, 0)) (by (with_reducible repeat (first | refine blk_drewN ?_ _ | refine blk_drew ?_ | refine blk_alloc ?_ _)); exact BK166.out)) : gb175 ≠ gb166)); clear BK166; clear HB; have BK166 := n0_; have HB := n1_; have BK175 := n2_; have GW175 := n3_; have GE175 := n4_; have NB166_175 := n5_; have NB175_166 := n6_; clear n0_ n1_ n2_ n3_ n4_ n5_ n6_; clear hb hbox hg; have hnb20 := NB175_166.out; have hnc20 := NB166_175.out; have hcz21_0 : w19.cell? ⟨gb175, 0, none⟩ = some (.int .u64 0) := (blk_cell BK175.out 0).trans rfl; have hcz21_1 : w19.cell? ⟨gb175, 1, none⟩ = some (.bool false) := (blk_cell BK175.out 1).trans rfl; have hcz21_2 : w19.cell? ⟨gb175, 2, none⟩ = some (.int .u64 0) := (blk_cell BK175.out 2).trans rfl; have hfz21_0 := blk_frozen BK175.out 0; have hfz21_1 := blk_frozen BK175.out 1; have hfz21_2 := blk_frozen BK175.out 2))
        repeat (go_quiet (first | (go_at_call 58; (with_reducible refine (flywheelref02_size.calls a0 t167 _ A11.out).mono ?_); rintro e w' ⟨rfl, ⟨nd, rfl⟩⟩; (try first | exact ⟨rfl, _, World.drewN_drewN _ _ _⟩ | exact ⟨rfl, _, Eq.trans (World.drewN_drewN _ _ _) (congrArg (World.drewN _) (Nat.add_assoc _ _ _))⟩)) | (go_at_call 58; (with_reducible refine (flywheelref02_size.calls a1 t168 _ A12.out).mono ?_); rintro e w' ⟨rfl, ⟨nd, rfl⟩⟩; (try first | exact ⟨rfl, _, World.drewN_drewN _ _ _⟩ | exact ⟨rfl, _, Eq.trans (World.drewN_drewN _ _ _) (congrArg (World.drewN _) (Nat.add_assoc _ _ _))⟩)) | (go_at_call 57; (with_reducible refine (flywheelref02_times.calls t167 t168 t169 t170 _ A13.out).mono ?_); rintro e w17 ⟨rfl, hb⟩; have n0_ := Aside0.mk (blk_below (g := gb166) (o := .cells #[.int .i64 0, .bool false] 91 (0, 0)) (by (with_reducible repeat (first | refine blk_drewN ?_ _ | refine blk_drew ?_ | refine blk_alloc ?_ _)); exact BK166.out) hb); have n1_ := Aside0.mk (below_step (by repeat (first | (with_reducible first | exact HB.out | apply below_alloc | apply pw_below_drewN | apply below_drew1 | refine below_set ?_ GE166.out) | exact HB.out)) hb); clear BK166; clear HB; have BK166 := n0_; have HB := n1_; clear n0_ n1_; (try clear hb); (try clear hb2); (try clear hk); (try clear hi)) | (go_at_call 58; (with_reducible refine (flywheelref02_size.calls a2 t171 _ A14.out).mono ?_); rintro e w' ⟨rfl, ⟨nd, rfl⟩⟩; (try first | exact ⟨rfl, _, World.drewN_drewN _ _ _⟩ | exact ⟨rfl, _, Eq.trans (World.drewN_drewN _ _ _) (congrArg (World.drewN _) (Nat.add_assoc _ _ _))⟩)) | (go_at_call 56; (with_reducible refine (flywheelref02_part.calls kj4 t169 t170 t171 t172 t173 t174 _ A15.out).mono ?_); rintro e w18 ⟨rfl, hb⟩; have n0_ := Aside0.mk (blk_below (g := gb166) (o := .cells #[.int .i64 0, .bool false] 91 (0, 0)) (by (with_reducible repeat (first | refine blk_drewN ?_ _ | refine blk_drew ?_ | refine blk_alloc ?_ _)); exact BK166.out) hb); have n1_ := Aside0.mk (below_step (by repeat (first | (with_reducible first | exact HB.out | apply below_alloc | apply pw_below_drewN | apply below_drew1 | refine below_set ?_ GE166.out) | exact HB.out)) hb); clear BK166; clear HB; have BK166 := n0_; have HB := n1_; clear n0_ n1_; (try clear hb); (try clear hb2); (try clear hk); (try clear hi)) | ((with_reducible refine gate_dst (N := 9) rfl ?_); refine box_event ?hg (N := 9) ?hd (cs := #[.int .u64 0, .bool false, .int .u64 0]) (t := 99) ?hr ?_; (case hd => rfl); (case hg => rfl); (case hr => first | (go_simp; done) | (go_simp; rfl)); intro gb175 hg w19 hbox hb; have n0_ := Aside0.mk (blk_below (g := gb166) (o := .cells #[.int .i64 0, .bool false] 91 (0, 0)) (by (with_reducible repeat (first | refine blk_drewN ?_ _ | refine blk_drew ?_ | refine blk_alloc ?_ _)); exact BK166.out) hb); have n1_ := Aside0.mk (below_step (by repeat (first | (with_reducible first | exact HB.out | apply below_alloc | apply pw_below_drewN | apply below_drew1 | refine below_set ?_ GE166.out) | exact HB.out)) hb); have n2_ := Aside0.mk (hbox); have n3_ := Aside0.mk ((by rw [hg]; exact (below_size (by repeat (first | (with_reducible first | exact HB.out | apply below_alloc | apply pw_below_drewN | apply below_drew1 | refine below_set ?_ GE166.out) | exact HB.out))) : w.heap.size ≤ gb175)); have n4_ := Aside0.mk ((by rw [hg]; exact (below_size (by repeat (first | (with_reducible first | exact HB.out | apply below_alloc | apply pw_below_drewN | apply below_drew1 | refine below_set ?_ GE166.out) | exact HB.out))) : w.heap.size ≤ gb175)); have n5_ := Aside0.mk ((by rw [hg]; exact Nat.ne_of_lt (blk_lt (g := gb166) (o := .cells #[.int .i64 0, .bool false] 91 (0, 0)) (by (with_reducible repeat (first | refine blk_drewN ?_ _ | refine blk_drew ?_ | refine blk_alloc ?_ _)); exact BK166.out)) : gb166 ≠ gb175)); have n6_ := Aside0.mk ((by rw [hg]; exact Nat.ne_of_gt (blk_lt (g := gb166) (o := .cells #[.int .i64 0, .bool false] 91 (0, 0)) (by (with_reducible repeat (first | refine blk_drewN ?_ _ | refine blk_drew ?_ | refine blk_alloc ?_ _)); exact BK166.out)) : gb175 ≠ gb166)); clear BK166; clear HB; have BK166 := n0_; have HB := n1_; have BK175 := n2_; have GW175 := n3_; have GE175 := n4_; have NB166_175 := n5_; have NB175_166 := n6_; clear n0_ n1_ n2_ n3_ n4_ n5_ n6_; clear hb hbox hg; have hnb20 := NB175_166.out; have hnc20 := NB166_175.out; have hcz21_0 : w19.cell? ⟨gb175, 0, none⟩ = some (.int .u64 0) := (blk_cell BK175.out 0).trans rfl; have hcz21_1 : w19.cell? ⟨gb175, 1, none⟩ = some (.bool false) := (blk_cell BK175.out 1).trans rfl; have hcz21_2 : w19.cell? ⟨gb175, 2, none⟩ = some (.int .u64 0) := (blk_cell BK175.out 2).trans rfl; have hfz21_0 := blk_frozen BK175.out 0; have hfz21_1 := blk_frozen BK175.out 1; have hfz21_2 := blk_frozen BK175.out 2)); go_upto_region 4 with (first | (go_at_call 58; (with_reducible refine (flywheelref02_size.calls a0 t167 _ A11.out).mono ?_); rintro e w' ⟨rfl, ⟨nd, rfl⟩⟩; (try first | exact ⟨rfl, _, World.drewN_drewN _ _ _⟩ | exact ⟨rfl, _, Eq.trans (World.drewN_drewN _ _ _) (congrArg (World.drewN _) (Nat.add_assoc _ _ _))⟩)) | (go_at_call 58; (with_reducible refine (flywheelref02_size.calls a1 t168 _ A12.out).mono ?_); rintro e w' ⟨rfl, ⟨nd, rfl⟩⟩; (try first | exact ⟨rfl, _, World.drewN_drewN _ _ _⟩ | exact ⟨rfl, _, Eq.trans (World.drewN_drewN _ _ _) (congrArg (World.drewN _) (Nat.add_assoc _ _ _))⟩)) | (go_at_call 57; (with_reducible refine (flywheelref02_times.calls t167 t168 t169 t170 _ A13.out).mono ?_); rintro e w17 ⟨rfl, hb⟩; have n0_ := Aside0.mk (blk_below (g := gb166) (o := .cells #[.int .i64 0, .bool false] 91 (0, 0)) (by (with_reducible repeat (first | refine blk_drewN ?_ _ | refine blk_drew ?_ | refine blk_alloc ?_ _)); exact BK166.out) hb); have n1_ := Aside0.mk (below_step (by repeat (first | (with_reducible first | exact HB.out | apply below_alloc | apply pw_below_drewN | apply below_drew1 | refine below_set ?_ GE166.out) | exact HB.out)) hb); clear BK166; clear HB; have BK166 := n0_; have HB := n1_; clear n0_ n1_; (try clear hb); (try clear hb2); (try clear hk); (try clear hi)) | (go_at_call 58; (with_reducible refine (flywheelref02_size.calls a2 t171 _ A14.out).mono ?_); rintro e w' ⟨rfl, ⟨nd, rfl⟩⟩; (try first | exact ⟨rfl, _, World.drewN_drewN _ _ _⟩ | exact ⟨rfl, _, Eq.trans (World.drewN_drewN _ _ _) (congrArg (World.drewN _) (Nat.add_assoc _ _ _))⟩)) | (go_at_call 56; (with_reducible refine (flywheelref02_part.calls kj4 t169 t170 t171 t172 t173 t174 _ A15.out).mono ?_); rintro e w18 ⟨rfl, hb⟩; have n0_ := Aside0.mk (blk_below (g := gb166) (o := .cells #[.int .i64 0, .bool false] 91 (0, 0)) (by (with_reducible repeat (first | refine blk_drewN ?_ _ | refine blk_drew ?_ | refine blk_alloc ?_ _)); exact BK166.out) hb); have n1_ := Aside0.mk (below_step (by repeat (first | (with_reducible first | exact HB.out | apply below_alloc | apply pw_below_drewN | apply below_drew1 | refine below_set ?_ GE166.out) | exact HB.out)) hb); clear BK166; clear HB; have BK166 := n0_; have HB := n1_; clear n0_ n1_; (try clear hb); (try clear hb2); (try clear hk); (try clear hi)) | ((with_reducible refine gate_dst (N := 9) rfl ?_); refine box_event ?hg (N := 9) ?hd (cs := #[.int .u64 0, .bool false, .int .u64 0]) (t := 99) ?hr ?_; (case hd => rfl); (case hg => rfl); (case hr => first | (go_simp; done) | (go_simp; rfl)); intro gb175 hg w19 hbox hb; have n0_ := Aside0.mk (blk_below (g := gb166) (o := .cells #[.int .i64 0, .bool false] 91 (0, 0)) (by (with_reducible repeat (first | refine blk_drewN ?_ _ | refine blk_drew ?_ | refine blk_alloc ?_ _)); exact BK166.out) hb); have n1_ := Aside0.mk (below_step (by repeat (first | (with_reducible first | exact HB.out | apply below_alloc | apply pw_below_drewN | apply below_drew1 | refine below_set ?_ GE166.out) | exact HB.out)) hb); have n2_ := Aside0.mk (hbox); have n3_ := Aside0.mk ((by rw [hg]; exact (below_size (by repeat (first | (with_reducible first | exact HB.out | apply below_alloc | apply pw_below_drewN | apply below_drew1 | refine below_set ?_ GE166.out) | exact HB.out))) : w.heap.size ≤ gb175)); have n4_ := Aside0.mk ((by rw [hg]; exact (below_size (by repeat (first | (with_reducible first | exact HB.out | apply below_alloc | apply pw_below_drewN | apply below_drew1 | refine below_set ?_ GE166.out) | exact HB.out))) : w.heap.size ≤ gb175)); have n5_ := Aside0.mk ((by rw [hg]; exact Nat.ne_of_lt (blk_lt (g := gb166) (o := .cells #[.int .i64 0, .bool false] 91 (0, 0)) (by (with_reducible repeat (first | refine blk_drewN ?_ _ | refine blk_drew ?_ | refine blk_alloc ?_ _)); exact BK166.out)) : gb166 ≠ gb175)); have n6_ := Aside0.mk ((by rw [hg]; exact Nat.ne_of_gt (blk_lt (g := gb166) (o := .cells #[.int .i64 0, .bool false] 91 (0, 0)) (by (with_reducible repeat (first | refine blk_drewN ?_ _ | refine blk_drew ?_ | refine blk_alloc ?_ _)); exact BK166.out)) : gb175 ≠ gb166)); clear BK166; clear HB; have BK166 := n0_; have HB := n1_; have BK175 := n2_; have GW175 := n3_; have GE175 := n4_; have NB166_175 := n5_; have NB175_166 := n6_; clear n0_ n1_ n2_ n3_ n4_ n5_ n6_; clear hb hbox hg; have hnb20 := NB175_166.out; have hnc20 := NB166_175.out; have hcz21_0 : w19.cell? ⟨gb175, 0, none⟩ = some (.int .u64 0) := (blk_cell BK175.out 0).trans rfl; have hcz21_1 : w19.cell? ⟨gb175, 1, none⟩ = some (.bool false) := (blk_cell BK175.out 1).trans rfl; have hcz21_2 : w19.cell? ⟨gb175, 2, none⟩ = some (.int .u64 0) := (blk_cell BK175.out 2).trans rfl; have hfz21_0 := blk_frozen BK175.out 0; have hfz21_1 := blk_frozen BK175.out 1; have hfz21_2 := blk_frozen BK175.out 2)))
        (try simp only [Act.put, List.setIfInBounds_toArray, List.set_cons_zero, List.set_cons_succ])
        go_cut [10] (fun v10 wc => ∃ (kq : Nat) (x10_15 : Bool), v10 = .bool x10_15 ∧ Aside0 (flywheelref02_Did.j1 kq a2 a3 x10_15 t172 t173 t174 = some (r1, r2)) ∧ Aside0 (kq ≤ kj4) ∧ Aside0 (wc.heap[gb166]? = some (.cells #[.int .i64 0, .bool false] 91 (0, 0))) ∧ Aside0 (wc.heap[gb175]? = some (.cells #[.int .u64 t172, .bool t173, .int .u64 t174] 99 (0, 0))) ∧ Aside0 (Below w.heap.size w wc))
        case first =>
          have H := HC16.out
          clear HC16
          by_cases c22 : a0 < 0
          · rw [if_pos c22] at H
            have c22b0 : decide (a0 < 0) = true := decide_eq_true c22
            clear c22
            (first | rw [c22b0] | (simp only [i64_w, i32_w]; rw [c22b0]) | skip)
            by_cases c23 : a1 < 0
            · rw [if_pos c23] at H
              have c23b0 : decide (a1 < 0) = true := decide_eq_true c23
              clear c23
              by_cases c24 : a2 < 0
              · rw [if_pos c24] at H
                have c24b0 : decide (a2 < 0) = true := decide_eq_true c24
                clear c24
                have H' := Aside0.mk H
                clear H
                go_wp2
                repeat (go_quiet (fail); try go_wp2)
                go_meet
                case rel => exact ⟨_, (true), (by first | rfl | (simp; done) | (simp [*]; done)), H', ⟨by have := HJ4.out; first | omega | exact Nat.le_refl _⟩, ⟨by (with_reducible repeat (first | refine blk_drewN ?_ _ | refine blk_drew ?_ | refine blk_alloc ?_ _)); refine blk_far ?_ NB166_175.out _; (with_reducible repeat (first | refine blk_drewN ?_ _ | refine blk_drew ?_ | refine blk_alloc ?_ _)); refine blk_far ?_ NB166_175.out _; (with_reducible repeat (first | refine blk_drewN ?_ _ | refine blk_drew ?_ | refine blk_alloc ?_ _)); refine blk_far ?_ NB166_175.out _; (with_reducible repeat (first | refine blk_drewN ?_ _ | refine blk_drew ?_ | refine blk_alloc ?_ _)); exact BK166.out⟩, ⟨by (with_reducible repeat (first | refine blk_drewN ?_ _ | refine blk_drew ?_ | refine blk_alloc ?_ _)); refine blk_put (cs := #[.int .u64 t172, .bool t173, .int .u64 0]) ?_ 2 _ rfl; (with_reducible repeat (first | refine blk_drewN ?_ _ | refine blk_drew ?_ | refine blk_alloc ?_ _)); refine blk_put (cs := #[.int .u64 t172, .bool false, .int .u64 0]) ?_ 1 _ rfl; (with_reducible repeat (first | refine blk_drewN ?_ _ | refine blk_drew ?_ | refine blk_alloc ?_ _)); refine blk_put (cs := #[.int .u64 0, .bool false, .int .u64 0]) ?_ 0 _ rfl; (with_reducible repeat (first | refine blk_drewN ?_ _ | refine blk_drew ?_ | refine blk_alloc ?_ _)); exact BK175.out⟩, ⟨by repeat (first | (with_reducible first | exact HB.out | apply below_alloc | apply pw_below_drewN | apply below_drew1 | refine below_set ?_ GE166.out | refine below_set ?_ GE175.out) | exact HB.out)⟩⟩
              · rw [if_neg c24] at H
                have c24b0 : decide (a2 < 0) = false := decide_eq_false c24
                clear c24
                have H' := Aside0.mk H
                clear H
                go_wp2
                repeat (go_quiet (fail); try go_wp2)
                go_meet
                case rel => exact ⟨_, (false), (by first | rfl | (simp; done) | (simp [*]; done)), H', ⟨by have := HJ4.out; first | omega | exact Nat.le_refl _⟩, ⟨by (with_reducible repeat (first | refine blk_drewN ?_ _ | refine blk_drew ?_ | refine blk_alloc ?_ _)); refine blk_far ?_ NB166_175.out _; (with_reducible repeat (first | refine blk_drewN ?_ _ | refine blk_drew ?_ | refine blk_alloc ?_ _)); refine blk_far ?_ NB166_175.out _; (with_reducible repeat (first | refine blk_drewN ?_ _ | refine blk_drew ?_ | refine blk_alloc ?_ _)); refine blk_far ?_ NB166_175.out _; (with_reducible repeat (first | refine blk_drewN ?_ _ | refine blk_drew ?_ | refine blk_alloc ?_ _)); exact BK166.out⟩, ⟨by (with_reducible repeat (first | refine blk_drewN ?_ _ | refine blk_drew ?_ | refine blk_alloc ?_ _)); refine blk_put (cs := #[.int .u64 t172, .bool t173, .int .u64 0]) ?_ 2 _ rfl; (with_reducible repeat (first | refine blk_drewN ?_ _ | refine blk_drew ?_ | refine blk_alloc ?_ _)); refine blk_put (cs := #[.int .u64 t172, .bool false, .int .u64 0]) ?_ 1 _ rfl; (with_reducible repeat (first | refine blk_drewN ?_ _ | refine blk_drew ?_ | refine blk_alloc ?_ _)); refine blk_put (cs := #[.int .u64 0, .bool false, .int .u64 0]) ?_ 0 _ rfl; (with_reducible repeat (first | refine blk_drewN ?_ _ | refine blk_drew ?_ | refine blk_alloc ?_ _)); exact BK175.out⟩, ⟨by repeat (first | (with_reducible first | exact HB.out | apply below_alloc | apply pw_below_drewN | apply below_drew1 | refine below_set ?_ GE166.out | refine below_set ?_ GE175.out) | exact HB.out)⟩⟩
            · rw [if_neg c23] at H
              have c23b0 : decide (a1 < 0) = false := decide_eq_false c23
              clear c23
              by_cases c25 : a2 < 0
              · rw [if_pos c25] at H
                have c25b0 : decide (a2 < 0) = true := decide_eq_true c25
                clear c25
                have H' := Aside0.mk H
                clear H
                go_wp2
                repeat (go_quiet (fail); try go_wp2)
                go_meet
                case rel => exact ⟨_, (false), (by first | rfl | (simp; done) | (simp [*]; done)), H', ⟨by have := HJ4.out; first | omega | exact Nat.le_refl _⟩, ⟨by (with_reducible repeat (first | refine blk_drewN ?_ _ | refine blk_drew ?_ | refine blk_alloc ?_ _)); refine blk_far ?_ NB166_175.out _; (with_reducible repeat (first | refine blk_drewN ?_ _ | refine blk_drew ?_ | refine blk_alloc ?_ _)); refine blk_far ?_ NB166_175.out _; (with_reducible repeat (first | refine blk_drewN ?_ _ | refine blk_drew ?_ | refine blk_alloc ?_ _)); refine blk_far ?_ NB166_175.out _; (with_reducible repeat (first | refine blk_drewN ?_ _ | refine blk_drew ?_ | refine blk_alloc ?_ _)); exact BK166.out⟩, ⟨by (with_reducible repeat (first | refine blk_drewN ?_ _ | refine blk_drew ?_ | refine blk_alloc ?_ _)); refine blk_put (cs := #[.int .u64 t172, .bool t173, .int .u64 0]) ?_ 2 _ rfl; (with_reducible repeat (first | refine blk_drewN ?_ _ | refine blk_drew ?_ | refine blk_alloc ?_ _)); refine blk_put (cs := #[.int .u64 t172, .bool false, .int .u64 0]) ?_ 1 _ rfl; (with_reducible repeat (first | refine blk_drewN ?_ _ | refine blk_drew ?_ | refine blk_alloc ?_ _)); refine blk_put (cs := #[.int .u64 0, .bool false, .int .u64 0]) ?_ 0 _ rfl; (with_reducible repeat (first | refine blk_drewN ?_ _ | refine blk_drew ?_ | refine blk_alloc ?_ _)); exact BK175.out⟩, ⟨by repeat (first | (with_reducible first | exact HB.out | apply below_alloc | apply pw_below_drewN | apply below_drew1 | refine below_set ?_ GE166.out | refine below_set ?_ GE175.out) | exact HB.out)⟩⟩
              · rw [if_neg c25] at H
                have c25b0 : decide (a2 < 0) = false := decide_eq_false c25
                clear c25
                have H' := Aside0.mk H
                clear H
                go_wp2
                repeat (go_quiet (fail); try go_wp2)
                go_meet
                case rel => exact ⟨_, (true), (by first | rfl | (simp; done) | (simp [*]; done)), H', ⟨by have := HJ4.out; first | omega | exact Nat.le_refl _⟩, ⟨by (with_reducible repeat (first | refine blk_drewN ?_ _ | refine blk_drew ?_ | refine blk_alloc ?_ _)); refine blk_far ?_ NB166_175.out _; (with_reducible repeat (first | refine blk_drewN ?_ _ | refine blk_drew ?_ | refine blk_alloc ?_ _)); refine blk_far ?_ NB166_175.out _; (with_reducible repeat (first | refine blk_drewN ?_ _ | refine blk_drew ?_ | refine blk_alloc ?_ _)); refine blk_far ?_ NB166_175.out _; (with_reducible repeat (first | refine blk_drewN ?_ _ | refine blk_drew ?_ | refine blk_alloc ?_ _)); exact BK166.out⟩, ⟨by (with_reducible repeat (first | refine blk_drewN ?_ _ | refine blk_drew ?_ | refine blk_alloc ?_ _)); refine blk_put (cs := #[.int .u64 t172, .bool t173, .int .u64 0]) ?_ 2 _ rfl; (with_reducible repeat (first | refine blk_drewN ?_ _ | refine blk_drew ?_ | refine blk_alloc ?_ _)); refine blk_put (cs := #[.int .u64 t172, .bool false, .int .u64 0]) ?_ 1 _ rfl; (with_reducible repeat (first | refine blk_drewN ?_ _ | refine blk_drew ?_ | refine blk_alloc ?_ _)); refine blk_put (cs := #[.int .u64 0, .bool false, .int .u64 0]) ?_ 0 _ rfl; (with_reducible repeat (first | refine blk_drewN ?_ _ | refine blk_drew ?_ | refine blk_alloc ?_ _)); exact BK175.out⟩, ⟨by repeat (first | (with_reducible first | exact HB.out | apply below_alloc | apply pw_below_drewN | apply below_drew1 | refine below_set ?_ GE166.out | refine below_set ?_ GE175.out) | exact HB.out)⟩⟩
          · rw [if_neg c22] at H
            have c22b0 : decide (a0 < 0) = false := decide_eq_false c22
            clear c22
            (first | rw [c22b0] | (simp only [i64_w, i32_w]; rw [c22b0]) | skip)
            by_cases c26 : a1 < 0
            · rw [if_pos c26] at H
              have c26b0 : decide (a1 < 0) = true := decide_eq_true c26
              clear c26
              by_cases c27 : a2 < 0
              · rw [if_pos c27] at H
                have c27b0 : decide (a2 < 0) = true := decide_eq_true c27
                clear c27
                have H' := Aside0.mk H
                clear H
                go_wp2
                repeat (go_quiet (fail); try go_wp2)
                go_meet
                case rel => exact ⟨_, (false), (by first | rfl | (simp; done) | (simp [*]; done)), H', ⟨by have := HJ4.out; first | omega | exact Nat.le_refl _⟩, ⟨by (with_reducible repeat (first | refine blk_drewN ?_ _ | refine blk_drew ?_ | refine blk_alloc ?_ _)); refine blk_far ?_ NB166_175.out _; (with_reducible repeat (first | refine blk_drewN ?_ _ | refine blk_drew ?_ | refine blk_alloc ?_ _)); refine blk_far ?_ NB166_175.out _; (with_reducible repeat (first | refine blk_drewN ?_ _ | refine blk_drew ?_ | refine blk_alloc ?_ _)); refine blk_far ?_ NB166_175.out _; (with_reducible repeat (first | refine blk_drewN ?_ _ | refine blk_drew ?_ | refine blk_alloc ?_ _)); exact BK166.out⟩, ⟨by (with_reducible repeat (first | refine blk_drewN ?_ _ | refine blk_drew ?_ | refine blk_alloc ?_ _)); refine blk_put (cs := #[.int .u64 t172, .bool t173, .int .u64 0]) ?_ 2 _ rfl; (with_reducible repeat (first | refine blk_drewN ?_ _ | refine blk_drew ?_ | refine blk_alloc ?_ _)); refine blk_put (cs := #[.int .u64 t172, .bool false, .int .u64 0]) ?_ 1 _ rfl; (with_reducible repeat (first | refine blk_drewN ?_ _ | refine blk_drew ?_ | refine blk_alloc ?_ _)); refine blk_put (cs := #[.int .u64 0, .bool false, .int .u64 0]) ?_ 0 _ rfl; (with_reducible repeat (first | refine blk_drewN ?_ _ | refine blk_drew ?_ | refine blk_alloc ?_ _)); exact BK175.out⟩, ⟨by repeat (first | (with_reducible first | exact HB.out | apply below_alloc | apply pw_below_drewN | apply below_drew1 | refine below_set ?_ GE166.out | refine below_set ?_ GE175.out) | exact HB.out)⟩⟩
              · rw [if_neg c27] at H
                have c27b0 : decide (a2 < 0) = false := decide_eq_false c27
                clear c27
                have H' := Aside0.mk H
                clear H
                go_wp2
                repeat (go_quiet (fail); try go_wp2)
                go_meet
                case rel => exact ⟨_, (true), (by first | rfl | (simp; done) | (simp [*]; done)), H', ⟨by have := HJ4.out; first | omega | exact Nat.le_refl _⟩, ⟨by (with_reducible repeat (first | refine blk_drewN ?_ _ | refine blk_drew ?_ | refine blk_alloc ?_ _)); refine blk_far ?_ NB166_175.out _; (with_reducible repeat (first | refine blk_drewN ?_ _ | refine blk_drew ?_ | refine blk_alloc ?_ _)); refine blk_far ?_ NB166_175.out _; (with_reducible repeat (first | refine blk_drewN ?_ _ | refine blk_drew ?_ | refine blk_alloc ?_ _)); refine blk_far ?_ NB166_175.out _; (with_reducible repeat (first | refine blk_drewN ?_ _ | refine blk_drew ?_ | refine blk_alloc ?_ _)); exact BK166.out⟩, ⟨by (with_reducible repeat (first | refine blk_drewN ?_ _ | refine blk_drew ?_ | refine blk_alloc ?_ _)); refine blk_put (cs := #[.int .u64 t172, .bool t173, .int .u64 0]) ?_ 2 _ rfl; (with_reducible repeat (first | refine blk_drewN ?_ _ | refine blk_drew ?_ | refine blk_alloc ?_ _)); refine blk_put (cs := #[.int .u64 t172, .bool false, .int .u64 0]) ?_ 1 _ rfl; (with_reducible repeat (first | refine blk_drewN ?_ _ | refine blk_drew ?_ | refine blk_alloc ?_ _)); refine blk_put (cs := #[.int .u64 0, .bool false, .int .u64 0]) ?_ 0 _ rfl; (with_reducible repeat (first | refine blk_drewN ?_ _ | refine blk_drew ?_ | refine blk_alloc ?_ _)); exact BK175.out⟩, ⟨by repeat (first | (with_reducible first | exact HB.out | apply below_alloc | apply pw_below_drewN | apply below_drew1 | refine below_set ?_ GE166.out | refine below_set ?_ GE175.out) | exact HB.out)⟩⟩
            · rw [if_neg c26] at H
              have c26b0 : decide (a1 < 0) = false := decide_eq_false c26
              clear c26
              by_cases c28 : a2 < 0
              · rw [if_pos c28] at H
                have c28b0 : decide (a2 < 0) = true := decide_eq_true c28
                clear c28
                have H' := Aside0.mk H
                clear H
                go_wp2
                repeat (go_quiet (fail); try go_wp2)
                go_meet
                case rel => exact ⟨_, (true), (by first | rfl | (simp; done) | (simp [*]; done)), H', ⟨by have := HJ4.out; first | omega | exact Nat.le_refl _⟩, ⟨by (with_reducible repeat (first | refine blk_drewN ?_ _ | refine blk_drew ?_ | refine blk_alloc ?_ _)); refine blk_far ?_ NB166_175.out _; (with_reducible repeat (first | refine blk_drewN ?_ _ | refine blk_drew ?_ | refine blk_alloc ?_ _)); refine blk_far ?_ NB166_175.out _; (with_reducible repeat (first | refine blk_drewN ?_ _ | refine blk_drew ?_ | refine blk_alloc ?_ _)); refine blk_far ?_ NB166_175.out _; (with_reducible repeat (first | refine blk_drewN ?_ _ | refine blk_drew ?_ | refine blk_alloc ?_ _)); exact BK166.out⟩, ⟨by (with_reducible repeat (first | refine blk_drewN ?_ _ | refine blk_drew ?_ | refine blk_alloc ?_ _)); refine blk_put (cs := #[.int .u64 t172, .bool t173, .int .u64 0]) ?_ 2 _ rfl; (with_reducible repeat (first | refine blk_drewN ?_ _ | refine blk_drew ?_ | refine blk_alloc ?_ _)); refine blk_put (cs := #[.int .u64 t172, .bool false, .int .u64 0]) ?_ 1 _ rfl; (with_reducible repeat (first | refine blk_drewN ?_ _ | refine blk_drew ?_ | refine blk_alloc ?_ _)); refine blk_put (cs := #[.int .u64 0, .bool false, .int .u64 0]) ?_ 0 _ rfl; (with_reducible repeat (first | refine blk_drewN ?_ _ | refine blk_drew ?_ | refine blk_alloc ?_ _)); exact BK175.out⟩, ⟨by repeat (first | (with_reducible first | exact HB.out | apply below_alloc | apply pw_below_drewN | apply below_drew1 | refine below_set ?_ GE166.out | refine below_set ?_ GE175.out) | exact HB.out)⟩⟩
              · rw [if_neg c28] at H
                have c28b0 : decide (a2 < 0) = false := decide_eq_false c28
                clear c28
                have H' := Aside0.mk H
                clear H
                go_wp2
                repeat (go_quiet (fail); try go_wp2)
                go_meet
                case rel => exact ⟨_, (false), (by first | rfl | (simp; done) | (simp [*]; done)), H', ⟨by have := HJ4.out; first | omega | exact Nat.le_refl _⟩, ⟨by (with_reducible repeat (first | refine blk_drewN ?_ _ | refine blk_drew ?_ | refine blk_alloc ?_ _)); refine blk_far ?_ NB166_175.out _; (with_reducible repeat (first | refine blk_drewN ?_ _ | refine blk_drew ?_ | refine blk_alloc ?_ _)); refine blk_far ?_ NB166_175.out _; (with_reducible repeat (first | refine blk_drewN ?_ _ | refine blk_drew ?_ | refine blk_alloc ?_ _)); refine blk_far ?_ NB166_175.out _; (with_reducible repeat (first | refine blk_drewN ?_ _ | refine blk_drew ?_ | refine blk_alloc ?_ _)); exact BK166.out⟩, ⟨by (with_reducible repeat (first | refine blk_drewN ?_ _ | refine blk_drew ?_ | refine blk_alloc ?_ _)); refine blk_put (cs := #[.int .u64 t172, .bool t173, .int .u64 0]) ?_ 2 _ rfl; (with_reducible repeat (first | refine blk_drewN ?_ _ | refine blk_drew ?_ | refine blk_alloc ?_ _)); refine blk_put (cs := #[.int .u64 t172, .bool false, .int .u64 0]) ?_ 1 _ rfl; (with_reducible repeat (first | refine blk_drewN ?_ _ | refine blk_drew ?_ | refine blk_alloc ?_ _)); refine blk_put (cs := #[.int .u64 0, .bool false, .int .u64 0]) ?_ 0 _ rfl; (with_reducible repeat (first | refine blk_drewN ?_ _ | refine blk_drew ?_ | refine blk_alloc ?_ _)); exact BK175.out⟩, ⟨by repeat (first | (with_reducible first | exact HB.out | apply below_alloc | apply pw_below_drewN | apply below_drew1 | refine below_set ?_ GE166.out | refine below_set ?_ GE175.out) | exact HB.out)⟩⟩
        case rest =>
          clear HC16
          try clear c2
          try clear p2
          try clear c5
          try clear c7
          try clear c7b0
          try clear c7b1
          try clear c8
          try clear c8b0
          try clear c9
          try clear c20
          try clear c22
          try clear c22b0
          try clear c23
          try clear c23b0
          try clear c24
          try clear c24b0
          try clear c25
          try clear c25b0
          try clear c26
          try clear c26b0
          try clear c27
          try clear c27b0
          try clear c28
          try clear c28b0
          try clear hcz10_0
          try clear hcz10_1
          try clear hcz21_0
          try clear hcz21_1
          try clear hcz21_2
          try clear hfz10_0
          try clear hfz10_1
          try clear hfz21_0
          try clear hfz21_1
          try clear hfz21_2
          try clear p2
          obtain ⟨kq, x10_15, rfl, HA, HJ15, BK166, BK175, HB⟩ := hcut
          cases kq with
          | zero => exact absurd HA.out (by simp [flywheelref02_Did.j1])
          | succ kj15 =>
            have H := HA.out
            clear HA
            simp only [flywheelref02_Did.j1] at H
            have HC29 := Aside0.mk H
            clear H
            go_upto_block 0 with (fail)
            repeat (go_quiet (fail); go_upto_block 0 with (fail))
            go_cut [11] (fun v11 wc => ∃ (kq : Nat) (x11_28 : Bool), v11 = .bool x11_28 ∧ Aside0 (flywheelref02_Did.j2 kq x10_15 x11_28 t172 t173 t174 = some (r1, r2)) ∧ Aside0 (kq ≤ kj15) ∧ Aside0 (wc.heap[gb166]? = some (.cells #[.int .i64 0, .bool false] 91 (0, 0))) ∧ Aside0 (wc.heap[gb175]? = some (.cells #[.int .u64 t172, .bool t173, .int .u64 t174] 99 (0, 0))) ∧ Aside0 (Below w.heap.size w wc))
            case first =>
              have H := HC29.out
              clear HC29
              by_cases c30 : t174 = 0
              · rw [if_pos c30] at H
                have c30b0 : (t174 == 0) = true := beq_iff_eq.mpr c30
                have c30b1 : (t174 != 0) = false := bne_eq_false_iff_eq.mpr c30
                clear c30
                (first | rw [c30b0] | (simp only [i64_w, i32_w]; rw [c30b0]) | skip)
                have H' := Aside0.mk H
                clear H
                have hnb31 := NB175_166.out
                have hnc31 := NB166_175.out
                have hcz32_0 : wc.cell? ⟨gb175, 0, none⟩ = some (.int .u64 t172) := (blk_cell BK175.out 0).trans rfl
                have hcz32_1 : wc.cell? ⟨gb175, 1, none⟩ = some (.bool t173) := (blk_cell BK175.out 1).trans rfl
                have hcz32_2 : wc.cell? ⟨gb175, 2, none⟩ = some (.int .u64 t174) := (blk_cell BK175.out 2).trans rfl
                have hfz32_0 := blk_frozen BK175.out 0
                have hfz32_1 := blk_frozen BK175.out 1
                have hfz32_2 := blk_frozen BK175.out 2
                go_wp2
                repeat (go_quiet (fail); try go_wp2)
                go_meet
                case rel => exact ⟨_, (false), (by first | rfl | (simp; done) | (simp [*]; done)), H', ⟨by have := HJ4.out; have := HJ15.out; first | omega | exact Nat.le_refl _⟩, ⟨by (with_reducible repeat (first | refine blk_drewN ?_ _ | refine blk_drew ?_ | refine blk_alloc ?_ _)); exact BK166.out⟩, ⟨by (with_reducible repeat (first | refine blk_drewN ?_ _ | refine blk_drew ?_ | refine blk_alloc ?_ _)); exact BK175.out⟩, ⟨by repeat (first | (with_reducible first | exact HB.out | apply below_alloc | apply pw_below_drewN | apply below_drew1 | refine below_set ?_ GE166.out | refine below_set ?_ GE175.out) | exact HB.out)⟩⟩
              · rw [if_neg c30] at H
                have c30b0 : (t174 == 0) = false := beq_eq_false_iff_ne.mpr c30
                have c30b1 : (t174 != 0) = true := bne_iff_ne.mpr c30
                (first | rw [c30b0] | (simp only [i64_w, i32_w]; rw [c30b0]) | skip)
                by_cases c33 : a3 = 1
                · rw [if_pos c33] at H
                  have c33b0 : (a3 == 1) = true := beq_iff_eq.mpr c33
                  have c33b1 : (a3 != 1) = false := bne_eq_false_iff_eq.mpr c33
                  clear c33
                  have H' := Aside0.mk H
                  clear H
                  have hnb34 := NB175_166.out
                  have hnc34 := NB166_175.out
                  have hcz35_0 : wc.cell? ⟨gb175, 0, none⟩ = some (.int .u64 t172) := (blk_cell BK175.out 0).trans rfl
                  have hcz35_1 : wc.cell? ⟨gb175, 1, none⟩ = some (.bool t173) := (blk_cell BK175.out 1).trans rfl
                  have hcz35_2 : wc.cell? ⟨gb175, 2, none⟩ = some (.int .u64 t174) := (blk_cell BK175.out 2).trans rfl
                  have hfz35_0 := blk_frozen BK175.out 0
                  have hfz35_1 := blk_frozen BK175.out 1
                  have hfz35_2 := blk_frozen BK175.out 2
                  go_wp2
                  repeat (go_quiet (fail); try go_wp2)
                  go_meet
                  case rel => exact ⟨_, (x10_15), (by first | rfl | (simp; done) | (simp [*]; done)), H', ⟨by have := HJ4.out; have := HJ15.out; first | omega | exact Nat.le_refl _⟩, ⟨by (with_reducible repeat (first | refine blk_drewN ?_ _ | refine blk_drew ?_ | refine blk_alloc ?_ _)); exact BK166.out⟩, ⟨by (with_reducible repeat (first | refine blk_drewN ?_ _ | refine blk_drew ?_ | refine blk_alloc ?_ _)); exact BK175.out⟩, ⟨by repeat (first | (with_reducible first | exact HB.out | apply below_alloc | apply pw_below_drewN | apply below_drew1 | refine below_set ?_ GE166.out | refine below_set ?_ GE175.out) | exact HB.out)⟩⟩
                · rw [if_neg c33] at H
                  have c33b0 : (a3 == 1) = false := beq_eq_false_iff_ne.mpr c33
                  have c33b1 : (a3 != 1) = true := bne_iff_ne.mpr c33
                  by_cases c36 : a3 = 3
                  · rw [if_pos c36] at H
                    have c36b0 : (a3 == 3) = true := beq_iff_eq.mpr c36
                    have c36b1 : (a3 != 3) = false := bne_eq_false_iff_eq.mpr c36
                    clear c36
                    have H' := Aside0.mk H
                    clear H
                    have hnb37 := NB175_166.out
                    have hnc37 := NB166_175.out
                    have hcz38_0 : wc.cell? ⟨gb175, 0, none⟩ = some (.int .u64 t172) := (blk_cell BK175.out 0).trans rfl
                    have hcz38_1 : wc.cell? ⟨gb175, 1, none⟩ = some (.bool t173) := (blk_cell BK175.out 1).trans rfl
                    have hcz38_2 : wc.cell? ⟨gb175, 2, none⟩ = some (.int .u64 t174) := (blk_cell BK175.out 2).trans rfl
                    have hfz38_0 := blk_frozen BK175.out 0
                    have hfz38_1 := blk_frozen BK175.out 1
                    have hfz38_2 := blk_frozen BK175.out 2
                    go_wp2
                    repeat (go_quiet (fail); try go_wp2)
                    go_meet
                    case rel => exact ⟨_, (!x10_15), (by first | rfl | (simp; done) | (simp [*]; done)), H', ⟨by have := HJ4.out; have := HJ15.out; first | omega | exact Nat.le_refl _⟩, ⟨by (with_reducible repeat (first | refine blk_drewN ?_ _ | refine blk_drew ?_ | refine blk_alloc ?_ _)); exact BK166.out⟩, ⟨by (with_reducible repeat (first | refine blk_drewN ?_ _ | refine blk_drew ?_ | refine blk_alloc ?_ _)); exact BK175.out⟩, ⟨by repeat (first | (with_reducible first | exact HB.out | apply below_alloc | apply pw_below_drewN | apply below_drew1 | refine below_set ?_ GE166.out | refine below_set ?_ GE175.out) | exact HB.out)⟩⟩
                  · rw [if_neg c36] at H
                    have c36b0 : (a3 == 3) = false := beq_eq_false_iff_ne.mpr c36
                    have c36b1 : (a3 != 3) = true := bne_iff_ne.mpr c36
                    by_cases c39 : x10_15 = true
                    · subst c39
                      have H1 : ((flywheelref02_size.f a2).bind fun t176 => (flywheelref02_Did.j2 kj15 true (decide (t174 > (IntKind.u64.wrap (t176 - t174)))) t172 t173 t174)) = some (r1, r2) := by rw [if_pos rfl] at H; exact H
                      clear H
                      have H := H1
                      clear H1
                      replace H := Option.bind_eq_some_iff.mp H
                      obtain ⟨t176, A400, H⟩ := H
                      replace H : (flywheelref02_Did.j2 kj15 true (decide (t174 > (IntKind.u64.wrap (t176 - t174)))) t172 t173 t174) = some (r1, r2) := H
                      have A40 := Aside0.mk A400
                      clear A400
                      have H' := Aside0.mk H
                      clear H
                      have hnb41 := NB175_166.out
                      have hnc41 := NB166_175.out
                      have hcz42_0 : wc.cell? ⟨gb175, 0, none⟩ = some (.int .u64 t172) := (blk_cell BK175.out 0).trans rfl
                      have hcz42_1 : wc.cell? ⟨gb175, 1, none⟩ = some (.bool t173) := (blk_cell BK175.out 1).trans rfl
                      have hcz42_2 : wc.cell? ⟨gb175, 2, none⟩ = some (.int .u64 t174) := (blk_cell BK175.out 2).trans rfl
                      have hfz42_0 := blk_frozen BK175.out 0
                      have hfz42_1 := blk_frozen BK175.out 1
                      have hfz42_2 := blk_frozen BK175.out 2
                      go_wp2_with (first | (go_at_call 58; (with_reducible refine (flywheelref02_size.calls a2 t176 _ A40.out).mono ?_); rintro e w' ⟨rfl, ⟨nd, rfl⟩⟩; (try first | exact ⟨rfl, _, World.drewN_drewN _ _ _⟩ | exact ⟨rfl, _, Eq.trans (World.drewN_drewN _ _ _) (congrArg (World.drewN _) (Nat.add_assoc _ _ _))⟩)))
                      repeat (go_quiet (first | (go_at_call 58; (with_reducible refine (flywheelref02_size.calls a2 t176 _ A40.out).mono ?_); rintro e w' ⟨rfl, ⟨nd, rfl⟩⟩; (try first | exact ⟨rfl, _, World.drewN_drewN _ _ _⟩ | exact ⟨rfl, _, Eq.trans (World.drewN_drewN _ _ _) (congrArg (World.drewN _) (Nat.add_assoc _ _ _))⟩))); try go_wp2_with (first | (go_at_call 58; (with_reducible refine (flywheelref02_size.calls a2 t176 _ A40.out).mono ?_); rintro e w' ⟨rfl, ⟨nd, rfl⟩⟩; (try first | exact ⟨rfl, _, World.drewN_drewN _ _ _⟩ | exact ⟨rfl, _, Eq.trans (World.drewN_drewN _ _ _) (congrArg (World.drewN _) (Nat.add_assoc _ _ _))⟩))))
                      go_meet
                      case rel => exact ⟨_, (decide (t174 > (IntKind.u64.wrap (t176 - t174)))), (by first | rfl | (simp; done) | (simp [*]; done)), H', ⟨by have := HJ4.out; have := HJ15.out; first | omega | exact Nat.le_refl _⟩, ⟨by (with_reducible repeat (first | refine blk_drewN ?_ _ | refine blk_drew ?_ | refine blk_alloc ?_ _)); exact BK166.out⟩, ⟨by (with_reducible repeat (first | refine blk_drewN ?_ _ | refine blk_drew ?_ | refine blk_alloc ?_ _)); exact BK175.out⟩, ⟨by repeat (first | (with_reducible first | exact HB.out | apply below_alloc | apply pw_below_drewN | apply below_drew1 | refine below_set ?_ GE166.out | refine below_set ?_ GE175.out) | exact HB.out)⟩⟩
                    · replace c39 := Bool.eq_false_iff.mpr c39
                      subst c39
                      have H1 : ((flywheelref02_size.f a2).bind fun t177 => (flywheelref02_Did.j2 kj15 false (decide (t174 ≥ (IntKind.u64.wrap (t177 - t174)))) t172 t173 t174)) = some (r1, r2) := by rw [if_neg (show ¬ (false = true) by decide)] at H; exact H
                      clear H
                      have H := H1
                      clear H1
                      replace H := Option.bind_eq_some_iff.mp H
                      obtain ⟨t177, A430, H⟩ := H
                      replace H : (flywheelref02_Did.j2 kj15 false (decide (t174 ≥ (IntKind.u64.wrap (t177 - t174)))) t172 t173 t174) = some (r1, r2) := H
                      have A43 := Aside0.mk A430
                      clear A430
                      have H' := Aside0.mk H
                      clear H
                      have hnb44 := NB175_166.out
                      have hnc44 := NB166_175.out
                      have hcz45_0 : wc.cell? ⟨gb175, 0, none⟩ = some (.int .u64 t172) := (blk_cell BK175.out 0).trans rfl
                      have hcz45_1 : wc.cell? ⟨gb175, 1, none⟩ = some (.bool t173) := (blk_cell BK175.out 1).trans rfl
                      have hcz45_2 : wc.cell? ⟨gb175, 2, none⟩ = some (.int .u64 t174) := (blk_cell BK175.out 2).trans rfl
                      have hfz45_0 := blk_frozen BK175.out 0
                      have hfz45_1 := blk_frozen BK175.out 1
                      have hfz45_2 := blk_frozen BK175.out 2
                      go_wp2_with (first | (go_at_call 58; (with_reducible refine (flywheelref02_size.calls a2 t177 _ A43.out).mono ?_); rintro e w' ⟨rfl, ⟨nd, rfl⟩⟩; (try first | exact ⟨rfl, _, World.drewN_drewN _ _ _⟩ | exact ⟨rfl, _, Eq.trans (World.drewN_drewN _ _ _) (congrArg (World.drewN _) (Nat.add_assoc _ _ _))⟩)))
                      repeat (go_quiet (first | (go_at_call 58; (with_reducible refine (flywheelref02_size.calls a2 t177 _ A43.out).mono ?_); rintro e w' ⟨rfl, ⟨nd, rfl⟩⟩; (try first | exact ⟨rfl, _, World.drewN_drewN _ _ _⟩ | exact ⟨rfl, _, Eq.trans (World.drewN_drewN _ _ _) (congrArg (World.drewN _) (Nat.add_assoc _ _ _))⟩))); try go_wp2_with (first | (go_at_call 58; (with_reducible refine (flywheelref02_size.calls a2 t177 _ A43.out).mono ?_); rintro e w' ⟨rfl, ⟨nd, rfl⟩⟩; (try first | exact ⟨rfl, _, World.drewN_drewN _ _ _⟩ | exact ⟨rfl, _, Eq.trans (World.drewN_drewN _ _ _) (congrArg (World.drewN _) (Nat.add_assoc _ _ _))⟩))))
                      go_meet
                      case rel => exact ⟨_, (decide (t174 ≥ (IntKind.u64.wrap (t177 - t174)))), (by first | rfl | (simp; done) | (simp [*]; done)), H', ⟨by have := HJ4.out; have := HJ15.out; first | omega | exact Nat.le_refl _⟩, ⟨by (with_reducible repeat (first | refine blk_drewN ?_ _ | refine blk_drew ?_ | refine blk_alloc ?_ _)); exact BK166.out⟩, ⟨by (with_reducible repeat (first | refine blk_drewN ?_ _ | refine blk_drew ?_ | refine blk_alloc ?_ _)); exact BK175.out⟩, ⟨by repeat (first | (with_reducible first | exact HB.out | apply below_alloc | apply pw_below_drewN | apply below_drew1 | refine below_set ?_ GE166.out | refine below_set ?_ GE175.out) | exact HB.out)⟩⟩
            case rest =>
              clear HC29
              try clear c2
              try clear p2
              try clear c3
              try clear c4
              try clear c5
              try clear c7
              try clear c7b0
              try clear c7b1
              try clear c8
              try clear c8b0
              try clear c9
              try clear c20
              try clear c22
              try clear c22b0
              try clear c23
              try clear c23b0
              try clear c24
              try clear c24b0
              try clear c25
              try clear c25b0
              try clear c26
              try clear c26b0
              try clear c27
              try clear c27b0
              try clear c28
              try clear c28b0
              try clear c30
              try clear c30b0
              try clear c30b1
              try clear c31
              try clear c33
              try clear c33b0
              try clear c33b1
              try clear c34
              try clear c36
              try clear c36b0
              try clear c36b1
              try clear c37
              try clear c39
              try clear c41
              try clear c44
              try clear hcz10_0
              try clear hcz10_1
              try clear hcz21_0
              try clear hcz21_1
              try clear hcz21_2
              try clear hcz32_0
              try clear hcz32_1
              try clear hcz32_2
              try clear hcz35_0
              try clear hcz35_1
              try clear hcz35_2
              try clear hcz38_0
              try clear hcz38_1
              try clear hcz38_2
              try clear hcz42_0
              try clear hcz42_1
              try clear hcz42_2
              try clear hcz45_0
              try clear hcz45_1
              try clear hcz45_2
              try clear hfz10_0
              try clear hfz10_1
              try clear hfz21_0
              try clear hfz21_1
              try clear hfz21_2
              try clear hfz32_0
              try clear hfz32_1
              try clear hfz32_2
              try clear hfz35_0
              try clear hfz35_1
              try clear hfz35_2
              try clear hfz38_0
              try clear hfz38_1
              try clear hfz38_2
              try clear hfz42_0
              try clear hfz42_1
              try clear hfz42_2
              try clear hfz45_0
              try clear hfz45_1
              try clear hfz45_2
              try clear p2
              obtain ⟨kq, x11_28, rfl, HA, HJ28, BK166, BK175, HB⟩ := hcut
              cases kq with
              | zero => exact absurd HA.out (by simp [flywheelref02_Did.j2])
              | succ kj28 =>
                have H := HA.out
                clear HA
                simp only [flywheelref02_Did.j2] at H
                have HC46 := Aside0.mk H
                clear H
                have hnb47 := NB175_166.out
                have hnc47 := NB166_175.out
                have hcz48_0 : wc.cell? ⟨gb175, 0, none⟩ = some (.int .u64 t172) := (blk_cell BK175.out 0).trans rfl
                have hcz48_1 : wc.cell? ⟨gb175, 1, none⟩ = some (.bool t173) := (blk_cell BK175.out 1).trans rfl
                have hcz48_2 : wc.cell? ⟨gb175, 2, none⟩ = some (.int .u64 t174) := (blk_cell BK175.out 2).trans rfl
                have hfz48_0 := blk_frozen BK175.out 0
                have hfz48_1 := blk_frozen BK175.out 1
                have hfz48_2 := blk_frozen BK175.out 2
                go_upto_if 76 with (fail)
                repeat (go_quiet (fail); go_upto_if 76 with (fail))
                go_cut [12, 13] (fun v12 v13 wc => ∃ (kq : Nat) (x12_45 : Int) (x13_45 : Bool), v12 = .int .u64 x12_45 ∧ v13 = .bool x13_45 ∧ Aside0 (flywheelref02_Did.j3 kq x10_15 x12_45 x13_45 = some (r1, r2)) ∧ Aside0 (kq ≤ kj28) ∧ Aside0 (wc.heap[gb166]? = some (.cells #[.int .i64 0, .bool false] 91 (0, 0))) ∧ Aside0 (wc.heap[gb175]? = some (.cells #[.int .u64 t172, .bool t173, .int .u64 t174] 99 (0, 0))) ∧ Aside0 (Below w.heap.size w wc))
                case first =>
                  have H := HC46.out
                  clear HC46
                  by_cases c49 : x11_28 = true
                  · subst c49
                    have H1 : (if t173 = true then (flywheelref02_Did.j3 kj28 x10_15 (IntKind.u64.wrap (t172 + 1)) true) else (flywheelref02_Did.j3 kj28 x10_15 (IntKind.u64.wrap (t172 + 1)) ((IntKind.u64.wrap (t172 + 1)) == 0))) = some (r1, r2) := by rw [if_pos rfl] at H; exact H
                    clear H
                    have H := H1
                    clear H1
                    by_cases c50 : t173 = true
                    · subst c50
                      have H1 : (flywheelref02_Did.j3 kj28 x10_15 (IntKind.u64.wrap (t172 + 1)) true) = some (r1, r2) := by rw [if_pos rfl] at H; exact H
                      clear H
                      have H := H1
                      clear H1
                      have H' := Aside0.mk H
                      clear H
                      go_wp2
                      repeat (go_quiet (fail); try go_wp2)
                      go_meet
                      case rel => exact ⟨_, (IntKind.u64.wrap (t172 + 1)), (true), (by first | rfl | (simp; done) | (simp [*]; done)), (by first | rfl | (simp; done) | (simp [*]; done)), H', ⟨by have := HJ4.out; have := HJ15.out; have := HJ28.out; first | omega | exact Nat.le_refl _⟩, ⟨by (with_reducible repeat (first | refine blk_drewN ?_ _ | refine blk_drew ?_ | refine blk_alloc ?_ _)); exact BK166.out⟩, ⟨by (with_reducible repeat (first | refine blk_drewN ?_ _ | refine blk_drew ?_ | refine blk_alloc ?_ _)); exact BK175.out⟩, ⟨by repeat (first | (with_reducible first | exact HB.out | apply below_alloc | apply pw_below_drewN | apply below_drew1 | refine below_set ?_ GE166.out | refine below_set ?_ GE175.out) | exact HB.out)⟩⟩
                    · replace c50 := Bool.eq_false_iff.mpr c50
                      subst c50
                      have H1 : (flywheelref02_Did.j3 kj28 x10_15 (IntKind.u64.wrap (t172 + 1)) ((IntKind.u64.wrap (t172 + 1)) == 0)) = some (r1, r2) := by rw [if_neg (show ¬ (false = true) by decide)] at H; exact H
                      clear H
                      have H := H1
                      clear H1
                      have H' := Aside0.mk H
                      clear H
                      go_wp2
                      repeat (go_quiet (fail); try go_wp2)
                      go_meet
                      case rel => exact ⟨_, (IntKind.u64.wrap (t172 + 1)), (((IntKind.u64.wrap (t172 + 1)) == 0)), (by first | rfl | (simp; done) | (simp [*]; done)), (by first | rfl | (simp; done) | (simp [*]; done)), H', ⟨by have := HJ4.out; have := HJ15.out; have := HJ28.out; first | omega | exact Nat.le_refl _⟩, ⟨by (with_reducible repeat (first | refine blk_drewN ?_ _ | refine blk_drew ?_ | refine blk_alloc ?_ _)); exact BK166.out⟩, ⟨by (with_reducible repeat (first | refine blk_drewN ?_ _ | refine blk_drew ?_ | refine blk_alloc ?_ _)); exact BK175.out⟩, ⟨by repeat (first | (with_reducible first | exact HB.out | apply below_alloc | apply pw_below_drewN | apply below_drew1 | refine below_set ?_ GE166.out | refine below_set ?_ GE175.out) | exact HB.out)⟩⟩
                  · replace c49 := Bool.eq_false_iff.mpr c49
                    subst c49
                    have H1 : (flywheelref02_Did.j3 kj28 x10_15 t172 t173) = some (r1, r2) := by rw [if_neg (show ¬ (false = true) by decide)] at H; exact H
                    clear H
                    have H := H1
                    clear H1
                    have H' := Aside0.mk H
                    clear H
                    go_wp2
                    repeat (go_quiet (fail); try go_wp2)
                    go_meet
                    case rel => exact ⟨_, (t172), (t173), (by first | rfl | (simp; done) | (simp [*]; done)), (by first | rfl | (simp; done) | (simp [*]; done)), H', ⟨by have := HJ4.out; have := HJ15.out; have := HJ28.out; first | omega | exact Nat.le_refl _⟩, ⟨by (with_reducible repeat (first | refine blk_drewN ?_ _ | refine blk_drew ?_ | refine blk_alloc ?_ _)); exact BK166.out⟩, ⟨by (with_reducible repeat (first | refine blk_drewN ?_ _ | refine blk_drew ?_ | refine blk_alloc ?_ _)); exact BK175.out⟩, ⟨by repeat (first | (with_reducible first | exact HB.out | apply below_alloc | apply pw_below_drewN | apply below_drew1 | refine below_set ?_ GE166.out | refine below_set ?_ GE175.out) | exact HB.out)⟩⟩
                case rest =>
                  clear HC46
                  try clear c2
                  try clear p2
                  try clear c3
                  try clear c4
                  try clear c5
                  try clear c7
                  try clear c7b0
                  try clear c7b1
                  try clear c8
                  try clear c8b0
                  try clear c9
                  try clear c20
                  try clear c22
                  try clear c22b0
                  try clear c23
                  try clear c23b0
                  try clear c24
                  try clear c24b0
                  try clear c25
                  try clear c25b0
                  try clear c26
                  try clear c26b0
                  try clear c27
                  try clear c27b0
                  try clear c28
                  try clear c28b0
                  try clear c30
                  try clear c30b0
                  try clear c30b1
                  try clear c31
                  try clear c33
                  try clear c33b0
                  try clear c33b1
                  try clear c34
                  try clear c36
                  try clear c36b0
                  try clear c36b1
                  try clear c37
                  try clear c39
                  try clear c41
                  try clear c44
                  try clear c47
                  try clear c49
                  try clear c50
                  try clear hcz10_0
                  try clear hcz10_1
                  try clear hcz21_0
                  try clear hcz21_1
                  try clear hcz21_2
                  try clear hcz32_0
                  try clear hcz32_1
                  try clear hcz32_2
                  try clear hcz35_0
                  try clear hcz35_1
                  try clear hcz35_2
                  try clear hcz38_0
                  try clear hcz38_1
                  try clear hcz38_2
                  try clear hcz42_0
                  try clear hcz42_1
                  try clear hcz42_2
                  try clear hcz45_0
                  try clear hcz45_1
                  try clear hcz45_2
                  try clear hcz48_0
                  try clear hcz48_1
                  try clear hcz48_2
                  try clear hfz10_0
                  try clear hfz10_1
                  try clear hfz21_0
                  try clear hfz21_1
                  try clear hfz21_2
                  try clear hfz32_0
                  try clear hfz32_1
                  try clear hfz32_2
                  try clear hfz35_0
                  try clear hfz35_1
                  try clear hfz35_2
                  try clear hfz38_0
                  try clear hfz38_1
                  try clear hfz38_2
                  try clear hfz42_0
                  try clear hfz42_1
                  try clear hfz42_2
                  try clear hfz45_0
                  try clear hfz45_1
                  try clear hfz45_2
                  try clear hfz48_0
                  try clear hfz48_1
                  try clear hfz48_2
                  try clear p2
                  obtain ⟨kq, x12_45, x13_45, rfl, rfl, HA, HJ45, BK166, BK175, HB⟩ := hcut
                  cases kq with
                  | zero => exact absurd HA.out (by simp [flywheelref02_Did.j3])
                  | succ kj45 =>
                    have H := HA.out
                    clear HA
                    simp only [flywheelref02_Did.j3] at H
                    by_cases c51 : x10_15 = true
                    · subst c51
                      have H1 : (if x13_45 = true then (flywheelref02_Did.j4 kj45 x12_45 true) else (flywheelref02_Did.j4 kj45 x12_45 (decide (x12_45 > 9223372036854775808)))) = some (r1, r2) := by rw [if_pos rfl] at H; exact H
                      clear H
                      have H := H1
                      clear H1
                      have HC52 := Aside0.mk H
                      clear H
                      go_upto_region 19 with (fail)
                      repeat (go_quiet (fail); go_upto_region 19 with (fail))
                      go_cut [89] (fun v89 wc => ∃ (kq : Nat) (x89_51 : Bool), v89 = .bool x89_51 ∧ Aside0 (flywheelref02_Did.j4 kq x12_45 x89_51 = some (r1, r2)) ∧ Aside0 (kq ≤ kj45) ∧ Aside0 (wc.heap[gb166]? = some (.cells #[.int .i64 0, .bool false] 91 (0, 0))) ∧ Aside0 (wc.heap[gb175]? = some (.cells #[.int .u64 t172, .bool t173, .int .u64 t174] 99 (0, 0))) ∧ Aside0 (Below w.heap.size w wc))
                      case first =>
                        have H := HC52.out
                        clear HC52
                        by_cases c53 : x13_45 = true
                        · subst c53
                          have H1 : (flywheelref02_Did.j4 kj45 x12_45 true) = some (r1, r2) := by rw [if_pos rfl] at H; exact H
                          clear H
                          have H := H1
                          clear H1
                          have H' := Aside0.mk H
                          clear H
                          go_wp2
                          repeat (go_quiet (fail); try go_wp2)
                          go_meet
                          case rel => exact ⟨_, (true), (by first | rfl | (simp; done) | (simp [*]; done)), H', ⟨by have := HJ4.out; have := HJ15.out; have := HJ28.out; have := HJ45.out; first | omega | exact Nat.le_refl _⟩, ⟨by (with_reducible repeat (first | refine blk_drewN ?_ _ | refine blk_drew ?_ | refine blk_alloc ?_ _)); exact BK166.out⟩, ⟨by (with_reducible repeat (first | refine blk_drewN ?_ _ | refine blk_drew ?_ | refine blk_alloc ?_ _)); exact BK175.out⟩, ⟨by repeat (first | (with_reducible first | exact HB.out | apply below_alloc | apply pw_below_drewN | apply below_drew1 | refine below_set ?_ GE166.out | refine below_set ?_ GE175.out) | exact HB.out)⟩⟩
                        · replace c53 := Bool.eq_false_iff.mpr c53
                          subst c53
                          have H1 : (flywheelref02_Did.j4 kj45 x12_45 (decide (x12_45 > 9223372036854775808))) = some (r1, r2) := by rw [if_neg (show ¬ (false = true) by decide)] at H; exact H
                          clear H
                          have H := H1
                          clear H1
                          have H' := Aside0.mk H
                          clear H
                          go_wp2
                          repeat (go_quiet (fail); try go_wp2)
                          go_meet
                          case rel => exact ⟨_, (decide (x12_45 > 9223372036854775808)), (by first | rfl | (simp; done) | (simp [*]; done)), H', ⟨by have := HJ4.out; have := HJ15.out; have := HJ28.out; have := HJ45.out; first | omega | exact Nat.le_refl _⟩, ⟨by (with_reducible repeat (first | refine blk_drewN ?_ _ | refine blk_drew ?_ | refine blk_alloc ?_ _)); exact BK166.out⟩, ⟨by (with_reducible repeat (first | refine blk_drewN ?_ _ | refine blk_drew ?_ | refine blk_alloc ?_ _)); exact BK175.out⟩, ⟨by repeat (first | (with_reducible first | exact HB.out | apply below_alloc | apply pw_below_drewN | apply below_drew1 | refine below_set ?_ GE166.out | refine below_set ?_ GE175.out) | exact HB.out)⟩⟩
                      case rest =>
                        clear HC52
                        try clear c2
                        try clear p2
                        try clear c3
                        try clear c4
                        try clear c5
                        try clear c7
                        try clear c7b0
                        try clear c7b1
                        try clear c8
                        try clear c8b0
                        try clear c9
                        try clear c20
                        try clear c22
                        try clear c22b0
                        try clear c23
                        try clear c23b0
                        try clear c24
                        try clear c24b0
                        try clear c25
                        try clear c25b0
                        try clear c26
                        try clear c26b0
                        try clear c27
                        try clear c27b0
                        try clear c28
                        try clear c28b0
                        try clear c30
                        try clear c30b0
                        try clear c30b1
                        try clear c31
                        try clear c33
                        try clear c33b0
                        try clear c33b1
                        try clear c34
                        try clear c36
                        try clear c36b0
                        try clear c36b1
                        try clear c37
                        try clear c39
                        try clear c41
                        try clear c44
                        try clear c47
                        try clear c49
                        try clear c50
                        try clear c51
                        try clear c53
                        try clear hcz10_0
                        try clear hcz10_1
                        try clear hcz21_0
                        try clear hcz21_1
                        try clear hcz21_2
                        try clear hcz32_0
                        try clear hcz32_1
                        try clear hcz32_2
                        try clear hcz35_0
                        try clear hcz35_1
                        try clear hcz35_2
                        try clear hcz38_0
                        try clear hcz38_1
                        try clear hcz38_2
                        try clear hcz42_0
                        try clear hcz42_1
                        try clear hcz42_2
                        try clear hcz45_0
                        try clear hcz45_1
                        try clear hcz45_2
                        try clear hcz48_0
                        try clear hcz48_1
                        try clear hcz48_2
                        try clear hfz10_0
                        try clear hfz10_1
                        try clear hfz21_0
                        try clear hfz21_1
                        try clear hfz21_2
                        try clear hfz32_0
                        try clear hfz32_1
                        try clear hfz32_2
                        try clear hfz35_0
                        try clear hfz35_1
                        try clear hfz35_2
                        try clear hfz38_0
                        try clear hfz38_1
                        try clear hfz38_2
                        try clear hfz42_0
                        try clear hfz42_1
                        try clear hfz42_2
                        try clear hfz45_0
                        try clear hfz45_1
                        try clear hfz45_2
                        try clear hfz48_0
                        try clear hfz48_1
                        try clear hfz48_2
                        try clear p2
                        obtain ⟨kq, x89_51, rfl, HA, HJ51, BK166, BK175, HB⟩ := hcut
                        cases kq with
                        | zero => exact absurd HA.out (by simp [flywheelref02_Did.j4])
                        | succ kj51 =>
                          have H := HA.out
                          clear HA
                          simp only [flywheelref02_Did.j4] at H
                          by_cases c54 : x89_51 = true
                          · subst c54
                            have H1 : (some ((-9223372036854775808), false)) = some (r1, r2) := by rw [if_pos rfl] at H; exact H
                            clear H
                            have H := H1
                            clear H1
                            simp only [Option.some.injEq, Prod.mk.injEq] at H
                            obtain ⟨rfl, rfl⟩ := H
                            have hnb55 := NB166_175.out
                            have hnc55 := NB175_166.out
                            have hcz56_0 : wc.cell? ⟨gb166, 0, none⟩ = some (.int .i64 0) := (blk_cell BK166.out 0).trans rfl
                            have hcz56_1 : wc.cell? ⟨gb166, 1, none⟩ = some (.bool false) := (blk_cell BK166.out 1).trans rfl
                            have hfz56_0 := blk_frozen BK166.out 0
                            have hfz56_1 := blk_frozen BK166.out 1
                            go_wp2
                            repeat (go_quiet (fail); try go_wp2)
                            refine bodyPost_ret (results_cell_row rfl _ _ gb166 91 #[.int .i64 (-9223372036854775808), .bool false] (0, 0) _ rfl (by (with_reducible repeat (first | refine blk_drewN ?_ _ | refine blk_drew ?_ | refine blk_alloc ?_ _)); refine blk_put (cs := #[.int .i64 (-9223372036854775808), .bool false]) ?_ 1 _ rfl; (with_reducible repeat (first | refine blk_drewN ?_ _ | refine blk_drew ?_ | refine blk_alloc ?_ _)); refine blk_put (cs := #[.int .i64 0, .bool false]) ?_ 0 _ rfl; (with_reducible repeat (first | refine blk_drewN ?_ _ | refine blk_drew ?_ | refine blk_alloc ?_ _)); exact BK166.out) Try.underlying91 rfl (by kernel_rfl)) rfl ?_
                            exact ⟨by first | rfl | (simp [errW_none, errW_some] <;> rfl) | (simp [*, errW_none, errW_some] <;> rfl), by repeat (first | (with_reducible first | exact HB.out | apply below_alloc | apply pw_below_drewN | apply below_drew1 | refine below_set ?_ GE166.out | refine below_set ?_ GE175.out) | exact HB.out)⟩
                          · replace c54 := Bool.eq_false_iff.mpr c54
                            subst c54
                            have H1 : (some (wrap64 (-(wrap64 (x12_45))), true)) = some (r1, r2) := by rw [if_neg (show ¬ (false = true) by decide)] at H; exact H
                            clear H
                            have H := H1
                            clear H1
                            simp only [Option.some.injEq, Prod.mk.injEq] at H
                            obtain ⟨rfl, rfl⟩ := H
                            have hnb57 := NB166_175.out
                            have hnc57 := NB175_166.out
                            have hcz58_0 : wc.cell? ⟨gb166, 0, none⟩ = some (.int .i64 0) := (blk_cell BK166.out 0).trans rfl
                            have hcz58_1 : wc.cell? ⟨gb166, 1, none⟩ = some (.bool false) := (blk_cell BK166.out 1).trans rfl
                            have hfz58_0 := blk_frozen BK166.out 0
                            have hfz58_1 := blk_frozen BK166.out 1
                            go_wp2
                            repeat (go_quiet (fail); try go_wp2)
                            refine bodyPost_ret (results_cell_row rfl _ _ gb166 91 #[.int .i64 (wrap64 (-(wrap64 (x12_45)))), .bool true] (0, 0) _ rfl (by (with_reducible repeat (first | refine blk_drewN ?_ _ | refine blk_drew ?_ | refine blk_alloc ?_ _)); refine blk_put (cs := #[.int .i64 (wrap64 (-(wrap64 (x12_45)))), .bool false]) ?_ 1 _ rfl; (with_reducible repeat (first | refine blk_drewN ?_ _ | refine blk_drew ?_ | refine blk_alloc ?_ _)); refine blk_put (cs := #[.int .i64 0, .bool false]) ?_ 0 _ rfl; (with_reducible repeat (first | refine blk_drewN ?_ _ | refine blk_drew ?_ | refine blk_alloc ?_ _)); exact BK166.out) Try.underlying91 rfl (by kernel_rfl)) rfl ?_
                            exact ⟨by first | rfl | (simp [errW_none, errW_some] <;> rfl) | (simp [*, errW_none, errW_some] <;> rfl), by repeat (first | (with_reducible first | exact HB.out | apply below_alloc | apply pw_below_drewN | apply below_drew1 | refine below_set ?_ GE166.out | refine below_set ?_ GE175.out) | exact HB.out)⟩
                    · replace c51 := Bool.eq_false_iff.mpr c51
                      subst c51
                      have H1 : (if x13_45 = true then (some (9223372036854775807, false)) else (if x12_45 > 9223372036854775807 then (some (9223372036854775807, false)) else (some (wrap64 (x12_45), true)))) = some (r1, r2) := by rw [if_neg (show ¬ (false = true) by decide)] at H; exact H
                      clear H
                      have H := H1
                      clear H1
                      by_cases c59 : x13_45 = true
                      · subst c59
                        have H1 : (some (9223372036854775807, false)) = some (r1, r2) := by rw [if_pos rfl] at H; exact H
                        clear H
                        have H := H1
                        clear H1
                        simp only [Option.some.injEq, Prod.mk.injEq] at H
                        obtain ⟨rfl, rfl⟩ := H
                        have hnb60 := NB166_175.out
                        have hnc60 := NB175_166.out
                        have hcz61_0 : wc.cell? ⟨gb166, 0, none⟩ = some (.int .i64 0) := (blk_cell BK166.out 0).trans rfl
                        have hcz61_1 : wc.cell? ⟨gb166, 1, none⟩ = some (.bool false) := (blk_cell BK166.out 1).trans rfl
                        have hfz61_0 := blk_frozen BK166.out 0
                        have hfz61_1 := blk_frozen BK166.out 1
                        go_wp2
                        repeat (go_quiet (fail); try go_wp2)
                        refine bodyPost_ret (results_cell_row rfl _ _ gb166 91 #[.int .i64 9223372036854775807, .bool false] (0, 0) _ rfl (by (with_reducible repeat (first | refine blk_drewN ?_ _ | refine blk_drew ?_ | refine blk_alloc ?_ _)); refine blk_put (cs := #[.int .i64 9223372036854775807, .bool false]) ?_ 1 _ rfl; (with_reducible repeat (first | refine blk_drewN ?_ _ | refine blk_drew ?_ | refine blk_alloc ?_ _)); refine blk_put (cs := #[.int .i64 0, .bool false]) ?_ 0 _ rfl; (with_reducible repeat (first | refine blk_drewN ?_ _ | refine blk_drew ?_ | refine blk_alloc ?_ _)); exact BK166.out) Try.underlying91 rfl (by kernel_rfl)) rfl ?_
                        exact ⟨by first | rfl | (simp [errW_none, errW_some] <;> rfl) | (simp [*, errW_none, errW_some] <;> rfl), by repeat (first | (with_reducible first | exact HB.out | apply below_alloc | apply pw_below_drewN | apply below_drew1 | refine below_set ?_ GE166.out | refine below_set ?_ GE175.out) | exact HB.out)⟩
                      · replace c59 := Bool.eq_false_iff.mpr c59
                        subst c59
                        have H1 : (if x12_45 > 9223372036854775807 then (some (9223372036854775807, false)) else (some (wrap64 (x12_45), true))) = some (r1, r2) := by rw [if_neg (show ¬ (false = true) by decide)] at H; exact H
                        clear H
                        have H := H1
                        clear H1
                        by_cases c62 : x12_45 > 9223372036854775807
                        · rw [if_pos c62] at H
                          have c62b0 : decide (9223372036854775807 < x12_45) = true := decide_eq_true c62
                          clear c62
                          simp only [Option.some.injEq, Prod.mk.injEq] at H
                          obtain ⟨rfl, rfl⟩ := H
                          have hnb63 := NB166_175.out
                          have hnc63 := NB175_166.out
                          have hcz64_0 : wc.cell? ⟨gb166, 0, none⟩ = some (.int .i64 0) := (blk_cell BK166.out 0).trans rfl
                          have hcz64_1 : wc.cell? ⟨gb166, 1, none⟩ = some (.bool false) := (blk_cell BK166.out 1).trans rfl
                          have hfz64_0 := blk_frozen BK166.out 0
                          have hfz64_1 := blk_frozen BK166.out 1
                          go_wp2
                          repeat (go_quiet (fail); try go_wp2)
                          refine bodyPost_ret (results_cell_row rfl _ _ gb166 91 #[.int .i64 9223372036854775807, .bool false] (0, 0) _ rfl (by (with_reducible repeat (first | refine blk_drewN ?_ _ | refine blk_drew ?_ | refine blk_alloc ?_ _)); refine blk_put (cs := #[.int .i64 9223372036854775807, .bool false]) ?_ 1 _ rfl; (with_reducible repeat (first | refine blk_drewN ?_ _ | refine blk_drew ?_ | refine blk_alloc ?_ _)); refine blk_put (cs := #[.int .i64 0, .bool false]) ?_ 0 _ rfl; (with_reducible repeat (first | refine blk_drewN ?_ _ | refine blk_drew ?_ | refine blk_alloc ?_ _)); exact BK166.out) Try.underlying91 rfl (by kernel_rfl)) rfl ?_
                          exact ⟨by first | rfl | (simp [errW_none, errW_some] <;> rfl) | (simp [*, errW_none, errW_some] <;> rfl), by repeat (first | (with_reducible first | exact HB.out | apply below_alloc | apply pw_below_drewN | apply below_drew1 | refine below_set ?_ GE166.out | refine below_set ?_ GE175.out) | exact HB.out)⟩
                        · rw [if_neg c62] at H
                          have c62b0 : decide (9223372036854775807 < x12_45) = false := decide_eq_false c62
                          clear c62
                          simp only [Option.some.injEq, Prod.mk.injEq] at H
                          obtain ⟨rfl, rfl⟩ := H
                          have hnb65 := NB166_175.out
                          have hnc65 := NB175_166.out
                          have hcz66_0 : wc.cell? ⟨gb166, 0, none⟩ = some (.int .i64 0) := (blk_cell BK166.out 0).trans rfl
                          have hcz66_1 : wc.cell? ⟨gb166, 1, none⟩ = some (.bool false) := (blk_cell BK166.out 1).trans rfl
                          have hfz66_0 := blk_frozen BK166.out 0
                          have hfz66_1 := blk_frozen BK166.out 1
                          go_wp2
                          repeat (go_quiet (fail); try go_wp2)
                          refine bodyPost_ret (results_cell_row rfl _ _ gb166 91 #[.int .i64 (wrap64 (x12_45)), .bool true] (0, 0) _ rfl (by (with_reducible repeat (first | refine blk_drewN ?_ _ | refine blk_drew ?_ | refine blk_alloc ?_ _)); refine blk_put (cs := #[.int .i64 (wrap64 (x12_45)), .bool false]) ?_ 1 _ rfl; (with_reducible repeat (first | refine blk_drewN ?_ _ | refine blk_drew ?_ | refine blk_alloc ?_ _)); refine blk_put (cs := #[.int .i64 0, .bool false]) ?_ 0 _ rfl; (with_reducible repeat (first | refine blk_drewN ?_ _ | refine blk_drew ?_ | refine blk_alloc ?_ _)); exact BK166.out) Try.underlying91 rfl (by kernel_rfl)) rfl ?_
                          exact ⟨by first | rfl | (simp [errW_none, errW_some] <;> rfl) | (simp [*, errW_none, errW_some] <;> rfl), by repeat (first | (with_reducible first | exact HB.out | apply below_alloc | apply pw_below_drewN | apply below_drew1 | refine below_set ?_ GE166.out | refine below_set ?_ GE175.out) | exact HB.out)⟩
end Go.Proofs.Ytlgfnclgkhfhpaa.P
end

section
namespace Go.Proofs.Ytlgfnclgkhfhpaa.P
open Go.RowKit Go.Proofs.YtlgfnclgkhfhpaaW.PrintWords Go.Proofs.YtlgfnclgkhfhpaaW.PrintLast Go.Proofs.YtlgfnclgkhfhpaaW.PrintMore
attribute [local go_sem] max2_int min2_int max_two min_two max_three min_three max_four min_four   -- for this text's walks alone
set_option linter.unusedVariables false
set_option linter.unusedSimpArgs false
theorem rsize (a : Int) (h : isI64 a) : flywheelref02_size.f a = some (if a < 0 then -a else a) := by
  unfold isI64 at h
  unfold flywheelref02_size.f wrap64
  simp only [u64_mod]
  split
  · congr 1; omega
  · congr 1; omega
theorem times_ok (a b : Int) (ha : 0 ≤ a) (ha1 : a < 18446744073709551616) (hb : 0 ≤ b) (hb1 : b < 18446744073709551616) :
    flywheelref02_times.f a b = some (a * b / 18446744073709551616, a * b % 18446744073709551616) := by
  obtain ⟨x, rfl⟩ := Int.eq_ofNat_of_zero_le ha
  obtain ⟨y, rfl⟩ := Int.eq_ofNat_of_zero_le hb
  have hx : x < 18446744073709551616 := by omega
  have hy : y < 18446744073709551616 := by omega
  have e1 : Go.bits .and .u64 (x : Int) 4294967295 = ((x % 4294967296 : Nat) : Int) := by rw [and_low32 _ ha (by omega)]; omega
  have e2 : Go.bits .and .u64 (y : Int) 4294967295 = ((y % 4294967296 : Nat) : Int) := by rw [and_low32 _ hb (by omega)]; omega
  have d1 : (x : Int) / 4294967296 = ((x / 4294967296 : Nat) : Int) := by omega
  have d2 : (y : Int) / 4294967296 = ((y / 4294967296 : Nat) : Int) := by omega
  have sp : x * y = (x / 4294967296) * (y / 4294967296) * (4294967296 * 4294967296) + ((x / 4294967296) * (y % 4294967296) + (x % 4294967296) * (y / 4294967296)) * 4294967296 + (x % 4294967296) * (y % 4294967296) := by
    rw [← Lib.split_mul, Nat.div_add_mod' x 4294967296, Nat.div_add_mod' y 4294967296]
  unfold flywheelref02_times.f
  rw [e1, e2, d1, d2]
  simp only [← Int.natCast_mul]
  have b2 := Lib.half_mul_le (a := x % 4294967296) (b := y % 4294967296) (by omega) (by omega)
  have b3 := Lib.half_mul_le (a := x / 4294967296) (b := y % 4294967296) (by omega) (by omega)
  have b4 := Lib.half_mul_le (a := x % 4294967296) (b := y / 4294967296) (by omega) (by omega)
  have b5 := Lib.half_mul_le (a := x / 4294967296) (b := y / 4294967296) (by omega) (by omega)
  rw [sp]
  generalize (x % 4294967296) * (y % 4294967296) = w0 at *
  generalize (x / 4294967296) * (y % 4294967296) = p1 at *
  generalize (x % 4294967296) * (y / 4294967296) = p2 at *
  generalize (x / 4294967296) * (y / 4294967296) = p3 at *
  have w1 : IntKind.u64.wrap ((w0 : Nat) : Int) = (w0 : Int) := u64_id _ (by omega) (by omega)
  have w2 : IntKind.u64.wrap ((p1 : Nat) : Int) = (p1 : Int) := u64_id _ (by omega) (by omega)
  have w3 : IntKind.u64.wrap ((p2 : Nat) : Int) = (p2 : Int) := u64_id _ (by omega) (by omega)
  have w4 : IntKind.u64.wrap ((p3 : Nat) : Int) = (p3 : Int) := u64_id _ (by omega) (by omega)
  rw [w1, w2, w3, w4]
  have t : (p1 : Int) + (w0 : Int) / 4294967296 = ((p1 + w0 / 4294967296 : Nat) : Int) := by omega
  rw [t]
  generalize hT : p1 + w0 / 4294967296 = T at *
  have w5 : IntKind.u64.wrap ((T : Nat) : Int) = (T : Int) := u64_id _ (by omega) (by omega)
  have e3 : Go.bits .and .u64 (T : Int) 4294967295 = ((T % 4294967296 : Nat) : Int) := by rw [and_low32 _ (by omega) (by omega)]; omega
  have e4 : Go.bits .and .u64 (w0 : Int) 4294967295 = ((w0 % 4294967296 : Nat) : Int) := by rw [and_low32 _ (by omega) (by omega)]; omega
  rw [w5, e3, e4]
  rw [u64_id ((p2 : Int) + ((T % 4294967296 : Nat) : Int)) (by omega) (by omega), u64_id ((p3 : Int) + (T : Int) / 4294967296) (by omega) (by omega), u64_id _ (by omega) (by omega), u64_mod, u64_mod]
  congr 2
  · omega
  · omega
theorem part_loop (c : Int) (hc : 0 < c) (hc1 : c ≤ 9223372036854775808) (n : Nat) (hn : n ≤ 128) : ∀ (hi lo q : Int) (over : Bool) (left T U : Int), 0 ≤ hi → hi < 18446744073709551616 → 0 ≤ lo → lo < 18446744073709551616 → 0 ≤ q → q < 18446744073709551616 → 0 ≤ left → left < c →
    (hi * 18446744073709551616 + lo) * pw n = T * 340282366920938463463374607431768211456 + U → 0 ≤ U → U < 340282366920938463463374607431768211456 →
    flywheelref02_part.l0 (n + 1) c ((n : Int) - 1) hi lo q over left = some ((q * pw n + (left * pw n + T) / c) % 18446744073709551616, over || decide (18446744073709551616 ≤ q * pw n + (left * pw n + T) / c), (left * pw n + T) % c) := by
  induction n with
  | zero =>
    intro hi lo q over left T U h0 h1 l0 l1 q0 q1 f0 f1 e u0 u1
    have p0 : pw 0 = 1 := rfl
    rw [p0, Int.mul_one] at e
    have hT : T = 0 := by omega
    subst hT
    simp only [flywheelref02_part.l0]
    rw [if_neg (by omega), p0, Int.mul_one, Int.mul_one, Int.add_zero, Int.ediv_eq_zero_of_lt f0 f1, Int.emod_eq_of_lt f0 f1, Int.add_zero, Int.emod_eq_of_lt q0 q1, decide_eq_false (by omega), Bool.or_false]
  | succ n ih =>
    intro hi lo q over left T U h0 h1 l0 l1 q0 q1 f0 f1 e u0 u1
    have IH := ih (by omega)
    have pp := pw_pos n
    have w1 : IntKind.u64.wrap (IntKind.u64.wrap (left * 2) + hi / 9223372036854775808) = left * 2 + hi / 9223372036854775808 := by rw [u64_id (left * 2) (by omega) (by omega), u64_id _ (by omega) (by omega)]
    have w2 : wrap64 (((n + 1 : Nat) : Int) - 1 - 1) = (n : Int) - 1 := by unfold wrap64; omega
    rw [pw_succ] at e ⊢
    -- the shifted number
    have sh : IntKind.u64.wrap (IntKind.u64.wrap (hi * 2) + lo / 9223372036854775808) = hi * 2 + lo / 9223372036854775808 - hi / 9223372036854775808 * 18446744073709551616 := by simp only [u64_mod]; omega
    have sl : IntKind.u64.wrap (lo * 2) = lo * 2 - lo / 9223372036854775808 * 18446744073709551616 := by simp only [u64_mod]; omega
    have b01 : hi / 9223372036854775808 = 0 ∨ hi / 9223372036854775808 = 1 := by omega
    have e' : ((hi * 2 + lo / 9223372036854775808 - hi / 9223372036854775808 * 18446744073709551616) * 18446744073709551616 + (lo * 2 - lo / 9223372036854775808 * 18446744073709551616)) * pw n = (T - hi / 9223372036854775808 * pw n) * 340282366920938463463374607431768211456 + U := by
      have : (hi * 2 + lo / 9223372036854775808 - hi / 9223372036854775808 * 18446744073709551616) * 18446744073709551616 + (lo * 2 - lo / 9223372036854775808 * 18446744073709551616) = (hi * 18446744073709551616 + lo) * 2 - hi / 9223372036854775808 * 340282366920938463463374607431768211456 := by omega
      rw [this, Int.sub_mul, Int.mul_assoc, e, Int.sub_mul, Int.mul_right_comm]
      omega
    -- the two ways of a round
    have way : ∀ (ov : Bool), (if left * 2 + hi / 9223372036854775808 ≥ c then
          flywheelref02_part.l0 (n + 1) c ((n : Int) - 1) (hi * 2 + lo / 9223372036854775808 - hi / 9223372036854775808 * 18446744073709551616) (lo * 2 - lo / 9223372036854775808 * 18446744073709551616) (IntKind.u64.wrap (IntKind.u64.wrap (q * 2) + 1)) ov (IntKind.u64.wrap (left * 2 + hi / 9223372036854775808 - c))
        else flywheelref02_part.l0 (n + 1) c ((n : Int) - 1) (hi * 2 + lo / 9223372036854775808 - hi / 9223372036854775808 * 18446744073709551616) (lo * 2 - lo / 9223372036854775808 * 18446744073709551616) (IntKind.u64.wrap (q * 2)) ov (left * 2 + hi / 9223372036854775808)) =
        some ((q * (2 * pw n) + (left * (2 * pw n) + T) / c) % 18446744073709551616, ov || decide (18446744073709551616 ≤ (q * 2 - q / 9223372036854775808 * 18446744073709551616) * pw n + (left * (2 * pw n) + T) / c), (left * (2 * pw n) + T) % c) := by
      intro ov
      have W : left * (2 * pw n) + T = (left * 2 + hi / 9223372036854775808) * pw n + (T - hi / 9223372036854775808 * pw n) := by rw [Int.add_mul, Int.mul_assoc]; omega
      have s2 : IntKind.u64.wrap (q * 2) = q * 2 - q / 9223372036854775808 * 18446744073709551616 := by simp only [u64_mod]; omega
      have s1 : IntKind.u64.wrap (IntKind.u64.wrap (q * 2) + 1) = q * 2 - q / 9223372036854775808 * 18446744073709551616 + 1 := by simp only [u64_mod]; omega
      have Q2 : (q * (2 * pw n)) = (q * 2 - q / 9223372036854775808 * 18446744073709551616) * pw n + 18446744073709551616 * (q / 9223372036854775808 * pw n) := by rw [Int.sub_mul, Int.mul_assoc, Int.mul_right_comm]; omega
      by_cases hge : left * 2 + hi / 9223372036854775808 ≥ c
      · rw [if_pos hge, s1, u64_id (left * 2 + hi / 9223372036854775808 - c) (by omega) (by omega)]
        rw [IH _ _ _ ov _ _ U (by omega) (by omega) (by omega) (by omega) (by omega) (by omega) (by omega) (by omega) e' u0 u1]
        have X : (left * 2 + hi / 9223372036854775808 - c) * pw n + (T - hi / 9223372036854775808 * pw n) = left * (2 * pw n) + T + (-(pw n)) * c := by rw [W, Int.sub_mul, Int.neg_mul, Int.mul_comm c]; omega
        rw [X, Int.add_mul_ediv_right _ _ (by omega), Int.add_mul_emod_self_right, Q2]
        generalize (q * 2 - q / 9223372036854775808 * 18446744073709551616) = z at *
        have Z : (z + 1) * pw n + ((left * (2 * pw n) + T) / c + -pw n) = z * pw n + (left * (2 * pw n) + T) / c := by rw [Int.add_mul]; omega
        rw [Z]
        congr 2
        omega
      · rw [if_neg hge, s2, IH _ _ _ ov _ _ U (by omega) (by omega) (by omega) (by omega) (by omega) (by omega) (by omega) (by omega) e' u0 u1, ← W, Q2]
        generalize (q * 2 - q / 9223372036854775808 * 18446744073709551616) = z at *
        congr 2
        omega
    have T0 : 0 ≤ (left * (2 * pw n) + T) / c := by
      apply Int.ediv_nonneg _ (by omega)
      have a1 := Int.mul_nonneg f0 (show 0 ≤ 2 * pw n by omega)
      have a2 := Int.mul_nonneg (show 0 ≤ hi * 18446744073709551616 + lo by omega) (show 0 ≤ 2 * pw n by omega)
      omega
    have final : ∀ ov : Bool, ov = (over || ((q / 9223372036854775808) == 1)) → (ov || decide (18446744073709551616 ≤ (q * 2 - q / 9223372036854775808 * 18446744073709551616) * pw n + (left * (2 * pw n) + T) / c)) = (over || decide (18446744073709551616 ≤ q * (2 * pw n) + (left * (2 * pw n) + T) / c)) := by
      intro ov hov
      subst hov
      cases over with
      | true => rfl
      | false =>
        simp only [Bool.false_or]
        have q01 : q / 9223372036854775808 = 0 ∨ q / 9223372036854775808 = 1 := by omega
        rcases q01 with hq | hq
        · rw [hq, Int.zero_mul, Int.sub_zero, Int.mul_assoc]; simp
        · have a3 : 9223372036854775808 * (2 * pw n) ≤ q * (2 * pw n) := Int.mul_le_mul_of_nonneg_right (by omega) (by omega)
          rw [hq, decide_eq_true (show 18446744073709551616 ≤ q * (2 * pw n) + (left * (2 * pw n) + T) / c by omega)]
          rfl
    rw [flywheelref02_part.l0]
    rw [if_pos (by omega)]
    simp only [w1, w2, sh, sl]
    cases over with
    | true =>
      rw [if_pos rfl, way true, final true (by simp)]
    | false =>
      rw [if_neg (by simp), way _, final _ (by simp)]
theorem part_ok (N c : Int) (hN : 0 ≤ N) (hN1 : N < 340282366920938463463374607431768211456) (hc : 0 < c) (hc1 : c ≤ 9223372036854775808) :
    flywheelref02_part.f 129 (N / 18446744073709551616) (N % 18446744073709551616) c = some (N / c % 18446744073709551616, decide (18446744073709551616 ≤ N / c), N % c) := by
  unfold flywheelref02_part.f
  have p : pw 128 = 340282366920938463463374607431768211456 := rfl
  have h := part_loop c hc hc1 128 (Nat.le_refl _) (N / 18446744073709551616) (N % 18446744073709551616) 0 false 0 N 0 (by omega) (by omega) (by omega) (by omega) (by omega) (by omega) (by omega) hc (by rw [p]; omega) (by omega) (by omega)
  simp only [Int.zero_mul, Int.zero_add, Bool.false_or] at h
  exact h
theorem did_tail (below ov : Bool) (q V : Int) (k : Nat) (h0 : 0 ≤ V) (hq : q = V % 18446744073709551616) (hov : ov = decide (18446744073709551616 ≤ V)) :
    flywheelref02_Did.j3 (k + 2) below q ov = some (hold64 (if below = true then -V else V)) := by
  subst hq; subst hov
  by_cases hb : 18446744073709551616 ≤ V
  · rw [decide_eq_true hb]
    cases below with
    | true =>
      simp only [flywheelref02_Did.j3, flywheelref02_Did.j4, if_true]
      unfold hold64
      rw [if_pos (by omega)]
    | false =>
      simp only [flywheelref02_Did.j3, if_true, Bool.false_eq_true, if_false]
      unfold hold64
      rw [if_neg (by omega), if_pos (by omega)]
  · rw [decide_eq_false hb, Int.emod_eq_of_lt h0 (by omega)]
    cases below with
    | true =>
      simp only [flywheelref02_Did.j3, flywheelref02_Did.j4, if_true, Bool.false_eq_true, if_false]
      unfold hold64
      by_cases hl : V > 9223372036854775808
      · rw [decide_eq_true hl, if_pos rfl, if_pos (by omega)]
      · rw [decide_eq_false hl, if_neg (by simp), if_neg (by omega), if_neg (by omega)]
        congr 2
        unfold wrap64; omega
    | false =>
      simp only [flywheelref02_Did.j3, Bool.false_eq_true, if_false]
      unfold hold64
      by_cases hl : V > 9223372036854775807
      · rw [if_pos hl, if_neg (by omega), if_pos hl]
      · rw [if_neg hl, if_neg (by omega), if_neg hl]
        congr 2
        unfold wrap64; omega
theorem did_j2 (below up : Bool) (Q L : Int) (k : Nat) (h0 : 0 ≤ Q) :
    flywheelref02_Did.j2 (k + 3) below up (Q % 18446744073709551616) (decide (18446744073709551616 ≤ Q)) L = some (hold64 (if below = true then -(Q + if up = true then 1 else 0) else Q + if up = true then 1 else 0)) := by
  cases up with
  | false =>
    simp only [flywheelref02_Did.j2, Bool.false_eq_true, if_false, Int.add_zero]
    exact did_tail below _ _ Q k h0 rfl rfl
  | true =>
    simp only [flywheelref02_Did.j2, if_true]
    have e : IntKind.u64.wrap (Q % 18446744073709551616 + 1) = (Q + 1) % 18446744073709551616 := by rw [u64_mod]; omega
    by_cases hb : 18446744073709551616 ≤ Q
    · rw [decide_eq_true hb, if_pos rfl, e]
      exact did_tail below _ _ (Q + 1) k (by omega) rfl (decide_eq_true (by omega)).symm
    · rw [decide_eq_false hb, if_neg (by simp), e]
      refine did_tail below _ _ (Q + 1) k (by omega) rfl ?_
      by_cases hz : Q = 18446744073709551615
      · subst hz; rfl
      · rw [decide_eq_false (by omega), beq_eq_false_iff_ne]; omega
theorem did_j1 (x2 how N C : Int) (below : Bool) (k : Nat) (hx : isI64 x2) (hC : C = if x2 < 0 then -x2 else x2) (hC0 : 0 < C) (hN : 0 ≤ N) (hh : how = 1 ∨ how = 2 ∨ how = 3) :
    flywheelref02_Did.j1 (k + 4) x2 how below (N / C % 18446744073709551616) (decide (18446744073709551616 ≤ N / C)) (N % C) = some (hold64 (rnd (if below = true then -N else N) C how)) := by
  have rs := rsize x2 hx
  rw [← hC] at rs
  have hCu : C ≤ 9223372036854775808 := by unfold isI64 at hx; rw [hC]; split <;> omega
  have r0 := Int.emod_nonneg N (show C ≠ 0 by omega)
  have r1 := Int.emod_lt_of_pos N hC0
  have q0 : 0 ≤ N / C := Int.ediv_nonneg hN (by omega)
  simp only [flywheelref02_Did.j1, rs, Option.bind_some]
  rw [u64_id (C - N % C) (by omega) (by omega)]
  have J := fun up => did_j2 below up (N / C) (N % C) k q0
  simp only [J]
  have c1 : ¬ C < 0 := by omega
  have c2 : ¬ C ≤ 0 := by omega
  cases below with
  | true =>
    simp only [if_true]
    rw [rnd_neg N C how hC0]
    have e1 : decide (N % C > C - N % C) = decide (C < 2 * (N % C)) := by rw [Bool.eq_iff_iff]; simp only [decide_eq_true_eq]; omega
    simp only [e1]
    by_cases hz : N % C = 0
    · rcases hh with rfl | rfl | rfl <;> simp [hz, c1]
    · have hp : 0 < N % C := by omega
      by_cases h : C < 2 * (N % C) <;> rcases hh with rfl | rfl | rfl <;> simp [hz, hp, h]
  | false =>
    simp only [Bool.false_eq_true, if_false]
    rw [rnd_pos N C how hC0]
    have e1 : decide (N % C ≥ C - N % C) = decide (C ≤ 2 * (N % C)) := by rw [Bool.eq_iff_iff]; simp only [decide_eq_true_eq]; omega
    simp only [e1]
    by_cases hz : N % C = 0
    · rcases hh with rfl | rfl | rfl <;> simp [hz, c2]
    · have hp : 0 < N % C := by omega
      by_cases h : C ≤ 2 * (N % C) <;> rcases hh with rfl | rfl | rfl <;> simp [hz, hp, h]
theorem did_ok (a b c how : Int) (ha : isI64 a) (hb : isI64 b) (hc : isI64 c) : flywheelref02_Did.f 130 a b c how = some (mdq a b c how) := by
  unfold flywheelref02_Did.f mdq
  by_cases hz : c = 0
  · rw [if_pos hz, if_pos (Or.inl hz)]; rfl
  rw [if_neg hz]
  by_cases hl : how < 1
  · rw [if_pos hl, if_pos (Or.inr (Or.inl hl))]; rfl
  rw [if_neg hl]
  by_cases hg : how > 3
  · rw [decide_eq_true hg, if_pos (Or.inr (Or.inr hg))]; rfl
  rw [decide_eq_false hg, if_neg (by omega)]
  rw [flywheelref02_Did.j0, if_neg (by simp), rsize a ha, rsize b hb, rsize c hc]
  simp only [Option.bind_some]
  have ha' := ha; have hb' := hb; have hc' := hc
  unfold isI64 at ha' hb' hc'
  rw [times_ok _ _ (by split <;> omega) (by split <;> omega) (by split <;> omega) (by split <;> omega)]
  simp only [Option.bind_some]
  have hN := abs_mul_le (a := if a < 0 then -a else a) (b := if b < 0 then -b else b) (by split <;> omega) (by split <;> omega) (by split <;> omega) (by split <;> omega)
  have hN0 := Int.mul_nonneg (a := if a < 0 then -a else a) (b := if b < 0 then -b else b) (by split <;> omega) (by split <;> omega)
  rw [part_ok _ _ hN0 (by omega) (by split <;> omega) (by split <;> omega)]
  simp only [Option.bind_some]
  have J := fun bl => did_j1 c how ((if a < 0 then -a else a) * (if b < 0 then -b else b)) (if c < 0 then -c else c) bl 125 hc rfl (by split <;> omega) hN0 (by omega)
  simp only [J]
  by_cases h1 : a < 0 <;> by_cases h2 : b < 0 <;> by_cases h3 : c < 0 <;> simp [h1, h2, h3, Int.neg_mul, Int.mul_neg]
def flywheelref02_Did_s.f (a0 : Int) (a1 : Int) (a2 : Int) (a3 : Int) : Option (Int × Bool) := if isI64 a0 ∧ isI64 a1 ∧ isI64 a2 then some (mdq a0 a1 a2 a3) else none
theorem flywheelref02_Did_s.calls (a0 : Int) (a1 : Int) (a2 : Int) (a3 : Int) (r1 : Int) (r2 : Bool) (w : World) (h : flywheelref02_Did_s.f a0 a1 a2 a3 = some (r1, r2)) :
    Calls Try.prog 51 #[.int .i64 a0, .int .i64 a1, .int .i64 a2, .int .i64 a3] w fun e w' => e = .returned (.agg #[.int .i64 r1, .bool r2]) ∧ Below w.heap.size w w' := by
  unfold flywheelref02_Did_s.f at h
  split at h
  · rename_i hb
    exact flywheelref02_Did.calls 130 a0 a1 a2 a3 r1 r2 w ((did_ok a0 a1 a2 a3 hb.1 hb.2.1 hb.2.2).trans h)
  · cases h
def flywheelref02_Do.f (a0 : Int) (a1 : Int) (a2 : Int) (a3 : Int) : Option (Int) := (flywheelref02_Did_s.f a0 a1 a2 a3).bind fun bt178 => (some bt178.1)
set_option maxHeartbeats 8000000 in
set_option maxRecDepth 100000 in
theorem flywheelref02_Do.calls (a0 : Int) (a1 : Int) (a2 : Int) (a3 : Int) (r : Int) (w : World) (h : flywheelref02_Do.f a0 a1 a2 a3 = some r) :
    Calls Try.prog 42 #[.int .i64 a0, .int .i64 a1, .int .i64 a2, .int .i64 a3] w fun e w' => e = .returned (.int .i64 r) ∧ Below w.heap.size w w' := by
  have hfd91_0 : ∀ (v0 v1 : Value) (W : World), (Instr.field 91 (.agg #[v0, v1]) 0).run Try.prog W = .ok v0 W := fun _ _ _ => by kernel_rfl
  have HB := Aside0.mk (Below.refl w.heap.size w)
  have H : ((flywheelref02_Did_s.f a0 a1 a2 a3).bind fun bt178 => (some bt178.1)) = some r := h
  clear h
  replace H := Option.bind_eq_some_iff.mp H
  obtain ⟨⟨t178, t179⟩, A50, H⟩ := H
  replace H : (some t178) = some r := H
  have A5 := Aside0.mk A50
  clear A50
  obtain rfl := Option.some.inj H
  go_enter Try.func42, Try.ntmps42
  go_wp2_with (first | ((with_reducible refine gate_callee (f := 51) rfl ?_); refine goesL_ (some 13) rfl rfl Try.func51 (by kernel_rfl) rfl #[.int .i64 a0, .int .i64 a1, .int .i64 a2, .int .i64 a3] rfl (by (try simp only [List.map_toArray, List.map_cons, List.map_nil]); first | done | rfl | (simp only [List.length_drop, List.length_take]; rfl)) ?_; (with_reducible refine (flywheelref02_Did_s.calls a0 a1 a2 a3 t178 t179 _ A5.out).mono ?_); rintro e w6 ⟨rfl, hb⟩; refine ⟨_, rfl, ?_⟩; have n0_ := Aside0.mk (below_step (by repeat (first | (with_reducible first | exact HB.out | apply below_alloc | apply pw_below_drewN | apply below_drew1) | exact HB.out)) hb); clear HB; have HB := n0_; clear n0_; (try clear hb); (try clear hb2); (try clear hk); (try clear hi)))
  go_ret
  exact ⟨by first | rfl | (simp [errW_none, errW_some] <;> rfl) | (simp [*, errW_none, errW_some] <;> rfl), by repeat (first | (with_reducible first | exact HB.out | apply below_alloc | apply pw_below_drewN | apply below_drew1) | exact HB.out)⟩
end Go.Proofs.Ytlgfnclgkhfhpaa.P
end

section
namespace Go.Proofs.Ytlgfnclgkhfhpaa.P
open Go.RowKit Go.Proofs.YtlgfnclgkhfhpaaW.PrintWords Go.Proofs.YtlgfnclgkhfhpaaW.PrintLast Go.Proofs.YtlgfnclgkhfhpaaW.PrintMore
attribute [local go_sem] max2_int min2_int max_two min_two max_three min_three max_four min_four   -- for this text's walks alone
set_option linter.unusedVariables false
set_option linter.unusedSimpArgs false
mutual
def flywheelref27_Split.l0 : Nat → List (S31) → Int → List Int → Int → Option (List Int)
  | 0, _, _, _, _ => none
  | k + 1, x1, x5, x6, x7 => if x7 < (x1.length : Int) then (if 0 ≤ x7 then (if x6.length < 17592186044416 then (flywheelref27_Split.l0 k x1 (wrap64 (x5 - (mn ((rd_T31 x1 x7).f1) x5))) (x6 ++ [mn ((rd_T31 x1 x7).f1) x5]) (wrap64 (x7 + 1))) else (none)) else (none)) else (flywheelref27_Split.l1 k x1 x5 x6)
def flywheelref27_Split.l1 : Nat → List (S31) → Int → List Int → Option (List Int)
  | 0, _, _, _ => none
  | k + 1, x1, x5, x6 => if x5 > 0 then (flywheelref27_Split.l2 k x1 x5 x6 0 (-1) (wrap64 ((x1.length : Int) - 1))) else (some x6)
def flywheelref27_Split.l2 : Nat → List (S31) → Int → List Int → Int → Int → Int → Option (List Int)
  | 0, _, _, _, _, _, _ => none
  | k + 1, x1, x5, x6, x9, x10, x11 => if x11 ≥ 0 then (if 0 ≤ x11 then (if x11 < (x6.length : Int) then (if x11 < (x1.length : Int) then (if (rd x6 x11) < ((rd_T31 x1 x11).f2) then (flywheelref27_Split.l2 k x1 x5 x6 (wrap64 (x9 + ((rd_T31 x1 x11).f0))) x11 (wrap64 (x11 - 1))) else (flywheelref27_Split.l2 k x1 x5 x6 x9 x10 (wrap64 (x11 - 1)))) else (none)) else (none)) else (none)) else (if x10 < 0 then (some x6) else (flywheelref27_Split.l3 k x1 x5 x6 x9 x10 0 0))
def flywheelref27_Split.l3 : Nat → List (S31) → Int → List Int → Int → Int → Int → Int → Option (List Int)
  | 0, _, _, _, _, _, _, _ => none
  | k + 1, x1, x5, x6, x9, x10, x12, x13 => if x13 < (x1.length : Int) then (if 0 ≤ x13 then (if x13 < (x6.length : Int) then (if (rd x6 x13) < ((rd_T31 x1 x13).f2) then ((flywheelref02_Do.f x5 ((rd_T31 x1 x13).f0) x9 1).bind fun t192 => (flywheelref27_Split.l3 k x1 x5 (x6.set (x13 : Int).toNat (wrap64 ((rd x6 x13) + (mn t192 (wrap64 (((rd_T31 x1 x13).f2) - (rd x6 x13))))))) x9 x10 (wrap64 (x12 + (mn t192 (wrap64 (((rd_T31 x1 x13).f2) - (rd x6 x13)))))) (wrap64 (x13 + 1)))) else (flywheelref27_Split.l3 k x1 x5 x6 x9 x10 x12 (wrap64 (x13 + 1)))) else (none)) else (none)) else (if x12 = 0 then (if 0 ≤ x10 then (if x10 < (x6.length : Int) then (flywheelref27_Split.l1 k x1 (wrap64 (x5 - 1)) (x6.set (x10 : Int).toNat (wrap64 ((rd x6 x10) + 1)))) else (none)) else (none)) else (flywheelref27_Split.l1 k x1 (wrap64 (x5 - x12)) x6))
end
def flywheelref27_Split.f (k : Nat) (a0 : Int) (l1 : List (S31)) : Option (List Int) := (flywheelref27_Good.f k l1).bind fun t180 => (if t180 = true then ((flywheelref01_Clamp.f a0 0 17179869184).bind fun t181 => (flywheelref27_Split.l0 k l1 t181 ([] : List Int) 0)) else (some ([] : List Int)))
def flywheelref27_Split.T16 : Bool × List (List Nat × List Nat) := (true, [([], []), ([], []), ([0, 1], [0, 1]), ([2], [2]), ([], []), ([], []), ([4, 5], [4, 5]), ([6], [6]), ([7], [7]), ([3, 8], [3, 8])])
def flywheelref27_Split.B16 : List Nat := [0, 0, 3, 7, 0, 0, 48, 112, 240, 511]
theorem flywheelref27_Split.tab16 : rtab .any (opsOf Try.f19 16) = flywheelref27_Split.T16 := by kernel_rfl
theorem flywheelref27_Split.bits16 : waitsOk flywheelref27_Split.T16.2 flywheelref27_Split.B16 = true := by kernel_rfl
def flywheelref27_Split.T25 : Bool × List (List Nat × List Nat) := (true, [([], []), ([], []), ([0, 1], [0, 1]), ([2], [2]), ([], []), ([], []), ([4, 5], [4, 5]), ([6], [6]), ([7], [7]), ([3, 8], [3, 8])])
def flywheelref27_Split.B25 : List Nat := [0, 0, 3, 7, 0, 0, 48, 112, 240, 511]
theorem flywheelref27_Split.tab25 : rtab .any (opsOf Try.f19 25) = flywheelref27_Split.T25 := by kernel_rfl
theorem flywheelref27_Split.bits25 : waitsOk flywheelref27_Split.T25.2 flywheelref27_Split.B25 = true := by kernel_rfl
def flywheelref27_Split.T26 : Bool × List (List Nat × List Nat) := (true, [([], []), ([], []), ([], []), ([1, 2], [1, 2]), ([3], [3]), ([4], [4]), ([], []), ([0, 5, 6], [0, 5, 6]), ([], []), ([], []), ([8, 9], [8, 9]), ([10], [10]), ([11], [11]), ([], []), ([], []), ([13, 14], [13, 14]), ([15], [15]), ([12, 16], [12, 16]), ([7, 17], [7, 17]), ([18, 7, 0, 1, 2, 3, 4, 5, 6, 7, 8, 9, 10, 11, 12, 13, 14, 15, 16, 17, 18], [18])])
def flywheelref27_Split.B26 : List Nat := [0, 0, 0, 6, 14, 30, 0, 127, 0, 0, 768, 1792, 3840, 0, 0, 24576, 57344, 130816, 262143, 524287]
theorem flywheelref27_Split.tab26 : rtab .any (opsOf Try.f19 26) = flywheelref27_Split.T26 := by kernel_rfl
theorem flywheelref27_Split.bits26 : waitsOk flywheelref27_Split.T26.2 flywheelref27_Split.B26 = true := by kernel_rfl
set_option maxHeartbeats 8000000 in
set_option maxRecDepth 100000 in
theorem flywheelref27_Split.calls (k : Nat) (a0 : Int) (A1 : Option Addr) (c1 : Nat) (l1 : List (S31)) (r : List Int) (w : World) (hr1 : Kd.C k31 w A1 l1.length l1) (hc1 : l1.length ≤ c1) (h : flywheelref27_Split.f k a0 l1 = some r) :
    Calls Try.prog 19 #[.int .i64 a0, .slice A1 l1.length c1] w fun e w' => ∃ v0_ : Value, e = .returned (v0_) ∧ Kd.R (Kd.int .i64) 2 w' w.heap.size (fun _ => True) v0_ r ∧ Below w.heap.size w w' := by
  have HR1 := Aside0.mk hr1
  have HC1 := Aside0.mk hc1
  clear hr1 hc1
  have HB := Aside0.mk (Below.refl w.heap.size w)
  have H : ((flywheelref27_Good.f k l1).bind fun t180 => (if t180 = true then ((flywheelref01_Clamp.f a0 0 17179869184).bind fun t181 => (flywheelref27_Split.l0 k l1 t181 ([] : List Int) 0)) else (some ([] : List Int)))) = some r := h
  clear h
  replace H := Option.bind_eq_some_iff.mp H
  obtain ⟨t180, A30, H⟩ := H
  replace H : (if t180 = true then ((flywheelref01_Clamp.f a0 0 17179869184).bind fun t181 => (flywheelref27_Split.l0 k l1 t181 ([] : List Int) 0)) else (some ([] : List Int))) = some r := H
  have A3 := Aside0.mk A30
  clear A30
  by_cases c4 : t180 = true
  · subst c4
    have H1 : ((flywheelref01_Clamp.f a0 0 17179869184).bind fun t181 => (flywheelref27_Split.l0 k l1 t181 ([] : List Int) 0)) = some r := by rw [if_pos rfl] at H; exact H
    clear H
    have H := H1
    clear H1
    replace H := Option.bind_eq_some_iff.mp H
    obtain ⟨t181, A50, H⟩ := H
    replace H : (flywheelref27_Split.l0 k l1 t181 ([] : List Int) 0) = some r := H
    have A5 := Aside0.mk A50
    clear A50
    have H' := Aside0.mk H
    clear H
    go_enter Try.func19, Try.ntmps19
    go_wp2_with (first | ((with_reducible refine gate_callee (f := 16) rfl ?_); refine goesL_ (some 16) rfl rfl Try.func16 (by kernel_rfl) rfl #[.slice A1 l1.length c1] rfl (by (try simp only [List.map_toArray, List.map_cons, List.map_nil]); first | done | rfl | (simp only [List.length_drop, List.length_take]; rfl)) ?_; (with_reducible refine (flywheelref27_Good.calls k _ _ l1 true _ ?side1 ?side2 A3.out).mono ?_); (case side1 => repeat (first | exact HR1.out | (with_reducible refine Kd.C_alloc ?_ _) | (with_reducible refine Kd.C_drewN ?_ _) | (with_reducible refine Kd.C_drew ?_))); (case side2 => exact HC1.out); rintro e w' ⟨rfl, ⟨nd, rfl⟩⟩; refine ⟨_, rfl, ?_⟩) | ((with_reducible refine gate_callee (f := 41) rfl ?_); refine goesL_ (some 19) rfl rfl Try.func41 (by kernel_rfl) rfl #[.int .i64 a0, .int .i64 0, .int .i64 17179869184] rfl (by (try simp only [List.map_toArray, List.map_cons, List.map_nil]); first | done | rfl | (simp only [List.length_drop, List.length_take]; rfl)) ?_; (with_reducible refine (flywheelref01_Clamp.calls a0 0 17179869184 t181 _ A5.out).mono ?_); rintro e w' ⟨rfl, ⟨nd, rfl⟩⟩; refine ⟨_, rfl, ?_⟩))
    go_loopg [5, 6, 7] k (fun kq v5 v6 v7 w' => ∃ (x5_1 : Int) (x6_1 : List Int) (x7_1 : Int), v5 = .int .i64 x5_1 ∧ v7 = .int .i64 x7_1 ∧ Aside0 (flywheelref27_Split.l0 kq l1 x5_1 x6_1 x7_1 = some r) ∧ Aside0 (kq ≤ k) ∧ Aside0 (Kd.R (Kd.int .i64) 2 w' w.heap.size (fun _ => True) v6 x6_1) ∧ Aside0 (Below w.heap.size w w'))
    case atStart => exact ⟨(t181), (([] : List Int)), (0), (by first | rfl | (simp; done) | (simp [*]; done)), (by first | rfl | (simp; done) | (simp [*]; done)), H', ⟨Nat.le_refl _⟩, ⟨by first | exact Kd.R_nil _ _ _ _ _ | exact Kd.N_nil _ _ _ _ _ | exact Kd.V_nil _ _ _ _ _ | exact Kd.Q_nil _ _ _ _ _ | exact Kd.S_nil _ _ _ _ _⟩, ⟨by repeat (first | (with_reducible first | exact HB.out | apply below_alloc | apply pw_below_drewN | apply below_drew1) | exact HB.out)⟩⟩
    case round =>
      clear H'
      try clear c1
      try clear p2
      try clear c4
      obtain ⟨x5_1, x6_1, x7_1, rfl, rfl, HA, HK1, HO_6, HB⟩ := hrel
      cases gk with
      | zero => exact absurd HA.out (by simp [flywheelref27_Split.l0])
      | succ k1 =>
        have H := HA.out
        clear HA
        simp only [flywheelref27_Split.l0] at H
        by_cases c6 : x7_1 < (l1.length : Int)
        · rw [if_pos c6] at H
          have c6b0 : decide (x7_1 < (l1.length : Int)) = true := decide_eq_true c6
          clear c6
          by_cases c7 : 0 ≤ x7_1
          · rw [if_pos c7] at H
            have c7b0 : decide (0 ≤ x7_1) = true := decide_eq_true c7
            clear c7
            obtain ⟨ji8, hji8⟩ : ∃ j_ : Int, (mn ((rd_T31 l1 x7_1).f1) x5_1) = j_ := ⟨_, rfl⟩
            replace H : (if x6_1.length < 17592186044416 then (flywheelref27_Split.l0 k1 l1 (wrap64 (x5_1 - (ji8))) (x6_1 ++ [ji8]) (wrap64 (x7_1 + 1))) else (none)) = some r := by first | (rw [hji8] at H; exact H) | (simp only [hji8] at H ⊢; exact H)
            have hji8_ : (if x5_1 < ((rd_T31 l1 x7_1).f1) then x5_1 else ((rd_T31 l1 x7_1).f1)) = ji8 := hji8
            by_cases c9 : x6_1.length < 17592186044416
            · rw [if_pos c9] at H
              have LMc9 := Aside0.mk c9
              clear c9
              obtain ⟨y183, hy183⟩ : ∃ y_ : List Int, y_ = (x6_1 ++ [ji8]) := ⟨_, rfl⟩
              replace H : (flywheelref27_Split.l0 k1 l1 (wrap64 (x5_1 - (ji8))) y183 (wrap64 (x7_1 + 1))) = some r := by first | (rw [hy183]; with_reducible exact H) | (have H2_ := (Option.bind_some _ _).symm.trans H; rw [hy183]; with_reducible exact H2_) | (have H2_ := (Option.bind_some _ _).symm.trans H; with_reducible exact H2_) | with_reducible exact H | (rw [hy183]; exact H) | exact H
              have Ny183 := Aside0.mk hy183
              clear hy183
              have H' := Aside0.mk H
              clear H
              have p182 : 0 ≤ (x7_1 : Int) := of_decide_eq_true (by first | (with_reducible assumption) | assumption)
              have q182 : x7_1 < (l1.length : Int) := of_decide_eq_true (by first | (with_reducible assumption) | assumption)
              obtain ⟨ad182, e182, hx182_0, hx182_1, hx182_2⟩ := at_T31 HR1.out x7_1 p182 q182
              cases e182
              replace hx182_0 := (HB.out.cell (World.block_lt_of_cell? w _ hx182_0)).trans hx182_0
              replace hx182_1 := (HB.out.cell (World.block_lt_of_cell? w _ hx182_1)).trans hx182_1
              replace hx182_2 := (HB.out.cell (World.block_lt_of_cell? w _ hx182_2)).trans hx182_2
              replace p182 := eq_true p182
              replace q182 := eq_true q182
              go_wp2_with (first | ((with_reducible refine gate_builtin (b := .append) (xs := #[.tmp 33, .tmp 35]) rfl ?_); at_builtin; refine Kd.R_append (Kd.int .i64) (w0 := w) w.heap.size rfl (.tmp 33) (.tmp 35) 27 2 (.int .i64 0) 8 rfl Try.underlying27 info2 rfl (by decide) (by omega) u6 x6_1 ji8 [.int .i64 ji8] (fun _ => True) (fun _ => False) rfl rfl ?aP (fun _ hk => hk.elim) ?aF ?aO ?aB ?aS ?aL ?_; (case aP => exact rfl); (case aB => exact (by repeat (first | (with_reducible first | exact HB.out | apply below_alloc | apply pw_below_drewN | apply below_drew1) | exact HB.out))); (case aF => exact (fun _ _ => trivial)); (case aO => exact (by (with_reducible repeat (first | apply Kd.R_alloc | apply Kd.R_drewN | apply Kd.R_drew)); exact HO_6.out)); (case aS => exact (below_size (by repeat (first | (with_reducible first | exact HB.out | apply below_alloc | apply pw_below_drewN | apply below_drew1) | exact HB.out)))); (case aL => have := LMc9.out; omega); intro v184 w10 ho hb hg hat; rw [← Ny183.out] at ho; have n0_ := Aside0.mk (hb); have n1_ := Aside0.mk (ho); clear HB; clear HO_6; have HB := n0_; have HO185 := n1_; clear n0_ n1_; clear ho hb hg hat))
              go_roundg k1
              case measure => have := HK1.out; omega
              case rel => exact ⟨(wrap64 (x5_1 - (ji8))), (y183), (wrap64 (x7_1 + 1)), (by first | rfl | (simp; done) | (simp only [← hji8] <;> (first | rfl | simp)) | (simp [*]; done)), (by first | rfl | (simp; done) | (simp [*]; done)), H', ⟨by have := HK1.out; omega⟩, ⟨by (with_reducible repeat (first | apply Kd.R_alloc | apply Kd.R_drewN | apply Kd.R_drew)); exact HO185.out⟩, ⟨by repeat (first | (with_reducible first | exact HB.out | apply below_alloc | apply pw_below_drewN | apply below_drew1) | exact HB.out)⟩⟩
            · rw [if_neg c9] at H
              exact absurd H (by simp)
          · rw [if_neg c7] at H
            exact absurd H (by simp)
        · rw [if_neg c6] at H
          have c6b0 : decide (x7_1 < (l1.length : Int)) = false := decide_eq_false c6
          clear c6
          have H' := Aside0.mk H
          clear H
          go_wp2
          go_loopg [5] k1 (fun kq v5 w' => ∃ (x5_2 : Int) (x6_2 : List Int), v5 = .int .i64 x5_2 ∧ Aside0 (flywheelref27_Split.l1 kq l1 x5_2 x6_2 = some r) ∧ Aside0 (kq ≤ k1) ∧ Aside0 (Kd.R (Kd.int .i64) 2 w' w.heap.size (fun _ => True) u6 x6_2) ∧ Aside0 (Below w.heap.size w w'))
          case atStart => exact ⟨(x5_1), (x6_1), (by first | rfl | (simp; done) | (simp [*]; done)), H', ⟨Nat.le_refl _⟩, ⟨by (with_reducible repeat (first | apply Kd.R_alloc | apply Kd.R_drewN | apply Kd.R_drew)); exact HO_6.out⟩, ⟨by repeat (first | (with_reducible first | exact HB.out | apply below_alloc | apply pw_below_drewN | apply below_drew1) | exact HB.out)⟩⟩
          case round =>
            clear H'
            try clear c1
            try clear p1
            try clear q1
            try clear hx1
            try clear p2
            try clear c4
            try clear c6
            try clear c6b0
            try clear p6
            try clear c7
            try clear c7b0
            try clear c9
            try clear hx182_0
            try clear hx182_1
            try clear hx182_2
            try clear p182
            try clear p2
            try clear q182
            obtain ⟨x5_2, x6_2, rfl, HA, HK2, HO_6, HB⟩ := hrel
            cases gk with
            | zero => exact absurd HA.out (by simp [flywheelref27_Split.l1])
            | succ k2 =>
              have H := HA.out
              clear HA
              simp only [flywheelref27_Split.l1] at H
              by_cases c11 : x5_2 > 0
              · rw [if_pos c11] at H
                have c11b0 : decide (0 < x5_2) = true := decide_eq_true c11
                clear c11
                have H' := Aside0.mk H
                clear H
                go_wp2
                go_loopg [9, 10, 11] k2 (fun kq v9 v10 v11 w' => ∃ (x9_3 : Int) (x10_3 : Int) (x11_3 : Int), v9 = .int .i64 x9_3 ∧ v10 = .int .i64 x10_3 ∧ v11 = .int .i64 x11_3 ∧ Aside0 (flywheelref27_Split.l2 kq l1 x5_2 x6_2 x9_3 x10_3 x11_3 = some r) ∧ Aside0 (kq ≤ k2) ∧ Aside0 (Kd.R (Kd.int .i64) 2 w' w.heap.size (fun _ => True) u6 x6_2) ∧ Aside0 (Below w.heap.size w w'))
                case atStart => exact ⟨(0), ((-1)), (wrap64 ((l1.length : Int) - 1)), (by first | rfl | (simp; done) | (simp [*]; done)), (by first | rfl | (simp; done) | (simp [*]; done)), (by first | rfl | (simp; done) | (simp [*]; done)), H', ⟨Nat.le_refl _⟩, ⟨by (with_reducible repeat (first | apply Kd.R_alloc | apply Kd.R_drewN | apply Kd.R_drew)); exact HO_6.out⟩, ⟨by repeat (first | (with_reducible first | exact HB.out | apply below_alloc | apply pw_below_drewN | apply below_drew1) | exact HB.out)⟩⟩
                case round =>
                  clear H'
                  try clear c1
                  try clear p1
                  try clear q1
                  try clear hx1
                  try clear p2
                  try clear c4
                  try clear c6
                  try clear c6b0
                  try clear p6
                  try clear c7
                  try clear c7b0
                  try clear c9
                  try clear c11
                  try clear c11b0
                  try clear hx182_0
                  try clear hx182_1
                  try clear hx182_2
                  try clear p1
                  try clear p182
                  try clear p2
                  try clear p6
                  try clear q1
                  try clear q182
                  obtain ⟨x9_3, x10_3, x11_3, rfl, rfl, rfl, HA, HK3, HO_6, HB⟩ := hrel
                  cases gk with
                  | zero => exact absurd HA.out (by simp [flywheelref27_Split.l2])
                  | succ k3 =>
                    have H := HA.out
                    clear HA
                    simp only [flywheelref27_Split.l2] at H
                    by_cases c12 : x11_3 ≥ 0
                    · rw [if_pos c12] at H
                      have c12b0 : decide (0 ≤ x11_3) = true := decide_eq_true c12
                      clear c12
                      by_cases c13 : 0 ≤ x11_3
                      · rw [if_pos c13] at H
                        have c13b0 : decide (0 ≤ x11_3) = true := decide_eq_true c13
                        clear c13
                        by_cases c14 : x11_3 < (x6_2.length : Int)
                        · rw [if_pos c14] at H
                          have c14b0 : decide (x11_3 < (x6_2.length : Int)) = true := decide_eq_true c14
                          clear c14
                          by_cases c15 : x11_3 < (l1.length : Int)
                          · rw [if_pos c15] at H
                            have c15b0 : decide (x11_3 < (l1.length : Int)) = true := decide_eq_true c15
                            clear c15
                            by_cases c16 : (rd x6_2 x11_3) < ((rd_T31 l1 x11_3).f2)
                            · rw [if_pos c16] at H
                              have c16b0 : decide ((rd x6_2 x11_3) < ((rd_T31 l1 x11_3).f2)) = true := decide_eq_true c16
                              clear c16
                              have H' := Aside0.mk H
                              clear H
                              try go_wp2
                              have n0_ := Aside0.mk (Kd.R_drew HO_6.out)
                              have n1_ := Aside0.mk (below_drew1 HB.out)
                              clear HO_6
                              clear HB
                              have HO_6 := n0_
                              have HB := n1_
                              clear n0_ n1_
                              obtain ⟨Ao18, co18, eo18⟩ := Kd.R_slice HO_6.out
                              (first | subst eo18 | (injection eo18 with f1_ f2_ f3_; have f4_ := f1_.symm; have f5_ := f3_.symm; clear f1_ f2_ f3_; subst f4_; subst f5_))
                              have p186 : 0 ≤ (x11_3 : Int) := of_decide_eq_true (by first | (with_reducible assumption) | assumption)
                              have q186 : x11_3 < (x6_2.length : Int) := of_decide_eq_true (by first | (with_reducible assumption) | assumption)
                              obtain ⟨ad186, e186, hx186_0⟩ := Kd.at_int (Kd.R_reads' HO_6.out).2.2 x11_3 p186 q186
                              cases e186
                              replace p186 := eq_true p186
                              replace q186 := eq_true q186
                              have p187 : 0 ≤ (x11_3 : Int) := of_decide_eq_true (by first | (with_reducible assumption) | assumption)
                              have q187 : x11_3 < (l1.length : Int) := of_decide_eq_true (by first | (with_reducible assumption) | assumption)
                              obtain ⟨ad187, e187, hx187_0, hx187_1, hx187_2⟩ := at_T31 HR1.out x11_3 p187 q187
                              have hw187_2 := hx187_2
                              have hw187_1 := hx187_1
                              have hw187_0 := hx187_0
                              cases e187
                              replace hx187_0 := (HB.out.cell (World.block_lt_of_cell? w _ hx187_0)).trans hx187_0
                              replace hx187_1 := (HB.out.cell (World.block_lt_of_cell? w _ hx187_1)).trans hx187_1
                              replace hx187_2 := (HB.out.cell (World.block_lt_of_cell? w _ hx187_2)).trans hx187_2
                              replace p187 := eq_true p187
                              replace q187 := eq_true q187
                              refine start_ (n := 10) (S := fun w' => w'.cell? (ad186.add (x11_3).toNat) = some (.int .i64 (rd x6_2 x11_3)) ∧ w'.cell? (ad187.add ((x11_3).toNat * 3)) = some (.int .i64 ((rd_T31 l1 x11_3).f0)) ∧ w'.cell? ⟨(ad187.add ((x11_3).toNat * 3)).block, (ad187.add ((x11_3).toNat * 3)).off + 1, none⟩ = some (.int .i64 ((rd_T31 l1 x11_3).f1)) ∧ w'.cell? ⟨(ad187.add ((x11_3).toNat * 3)).block, (ad187.add ((x11_3).toNat * 3)).off + 2, none⟩ = some (.int .i64 ((rd_T31 l1 x11_3).f2))) (ds := []) #[false, false, false, false, false, false, false, false, false, false] (by kernel_rfl) rfl rfl ⟨hx186_0, ((HB.out.cell (World.block_lt_of_cell? w _ hw187_0)).trans hw187_0), ((HB.out.cell (World.block_lt_of_cell? w _ hw187_1)).trans hw187_1), ((HB.out.cell (World.block_lt_of_cell? w _ hw187_2)).trans hw187_2)⟩ (fun hHeld => ?_); refine with_tabW flywheelref27_Split.tab16 flywheelref27_Split.bits16 (fun HT_ HW_ => ?_)
                              generalize wr.drew = w17 at HO_6 HB hx186_0 hx187_0 hx187_1 hx187_2 hHeld ⊢
                              refine pure_ (i := 0) (N := some 49) (v := ?_) (a' := ?_) #[true, false, false, false, false, false, false, false, false, false] rfl rfl (any_of HT_.out (by kernel_rfl)) (fun _ _ _ h => h) (Or.inl ⟨by rfl, ?_⟩) ?_ ?_
                              rotate_left
                              · intro w'
                                go_simp
                                with_reducible rfl
                              rotate_left
                              · simp only [Act.put, List.setIfInBounds_toArray, List.set_cons_zero, List.set_cons_succ, i64_w, i32_w]
                                rfl
                              refine pure_ (i := 1) (N := some 50) (v := ?_) (a' := ?_) #[true, true, false, false, false, false, false, false, false, false] rfl rfl (any_of HT_.out (by kernel_rfl)) (fun _ _ _ h => h) (Or.inl ⟨by rfl, ?_⟩) ?_ ?_
                              rotate_left
                              · intro w'
                                go_simp
                                with_reducible rfl
                              rotate_left
                              · simp only [Act.put, List.setIfInBounds_toArray, List.set_cons_zero, List.set_cons_succ, i64_w, i32_w]
                                rfl
                              refine pure_ (i := 2) (N := some 51) (v := ?_) (a' := ?_) #[true, true, true, false, false, false, false, false, false, false] rfl rfl (any_of HT_.out (by kernel_rfl)) (fun _ _ _ h => h) (Or.inl ⟨by rfl, ?_⟩) ?_ ?_
                              rotate_left
                              · intro w'
                                go_simp
                                with_reducible rfl
                              rotate_left
                              · simp only [Act.put, List.setIfInBounds_toArray, List.set_cons_zero, List.set_cons_succ, i64_w, i32_w]
                                rfl
                              refine pure_ (i := 4) (N := some 53) (v := ?_) (a' := ?_) #[true, true, true, false, true, false, false, false, false, false] rfl rfl (any_of HT_.out (by kernel_rfl)) (fun _ _ _ h => h) (Or.inl ⟨by rfl, ?_⟩) ?_ ?_
                              rotate_left
                              · intro w'
                                go_simp
                                with_reducible rfl
                              rotate_left
                              · simp only [Act.put, List.setIfInBounds_toArray, List.set_cons_zero, List.set_cons_succ, i64_w, i32_w]
                                rfl
                              refine pure_ (i := 5) (N := some 54) (v := ?_) (a' := ?_) #[true, true, true, false, true, true, false, false, false, false] rfl rfl (any_of HT_.out (by kernel_rfl)) (fun _ _ _ h => h) (Or.inl ⟨by rfl, ?_⟩) ?_ ?_
                              rotate_left
                              · intro w'
                                go_simp
                                with_reducible rfl
                              rotate_left
                              · simp only [Act.put, List.setIfInBounds_toArray, List.set_cons_zero, List.set_cons_succ, i64_w, i32_w]
                                rfl
                              refine pure_ (i := 6) (N := some 55) (v := ?_) (a' := ?_) #[true, true, true, false, true, true, true, false, false, false] rfl rfl (any_of HT_.out (by kernel_rfl)) (fun _ _ _ h => h) (Or.inl ⟨by rfl, ?_⟩) ?_ ?_
                              rotate_left
                              · intro w'
                                go_simp
                                with_reducible rfl
                              rotate_left
                              · simp only [Act.put, List.setIfInBounds_toArray, List.set_cons_zero, List.set_cons_succ, i64_w, i32_w]
                                rfl
                              refine pure_ (i := 7) (N := some 56) (v := ?_) (a' := ?_) #[true, true, true, false, true, true, true, true, false, false] rfl rfl (any_of HT_.out (by kernel_rfl)) (fun _ _ _ h => h) (Or.inl ⟨by rfl, ?_⟩) ?_ ?_
                              rotate_left
                              · intro w'
                                go_simp
                                with_reducible rfl
                              rotate_left
                              · simp only [Act.put, List.setIfInBounds_toArray, List.set_cons_zero, List.set_cons_succ, i64_w, i32_w]
                                rfl
                              refine take_ (i := 3) (N := some 52) (v := ?_) (a' := ?_) #[true, true, true, true, true, true, true, true, false, false] rfl rfl (take_ofW HT_.out HW_.out (by kernel_rfl)) (fun _ _ _ h => h) (Or.inl ⟨by rfl, ?_⟩) hHeld ?_ ?_
                              rotate_left
                              · rintro w' ⟨s0, s1, s2, s3⟩
                                go_simp
                                with_reducible rfl
                              rotate_left
                              · simp only [Act.put, List.setIfInBounds_toArray, List.set_cons_zero, List.set_cons_succ, i64_w, i32_w]
                                rfl
                              refine take_ (i := 8) (N := some 57) (v := ?_) (a' := ?_) #[true, true, true, true, true, true, true, true, true, false] rfl rfl (take_ofW HT_.out HW_.out (by kernel_rfl)) (fun _ _ _ h => h) (Or.inl ⟨by rfl, ?_⟩) hHeld ?_ ?_
                              rotate_left
                              · rintro w' ⟨s0, s1, s2, s3⟩
                                go_simp
                                with_reducible rfl
                              rotate_left
                              · simp only [Act.put, List.setIfInBounds_toArray, List.set_cons_zero, List.set_cons_succ, i64_w, i32_w]
                                rfl
                              refine pure_ (i := 9) (N := some 58) (v := ?_) (a' := ?_) #[true, true, true, true, true, true, true, true, true, true] rfl rfl (any_of HT_.out (by kernel_rfl)) (fun _ _ _ h => h) (Or.inl ⟨by rfl, ?_⟩) ?_ ?_
                              rotate_left
                              · intro w'
                                go_simp
                                with_reducible rfl
                              rotate_left
                              · simp only [Act.put, List.setIfInBounds_toArray, List.set_cons_zero, List.set_cons_succ, i64_w, i32_w]
                                rfl
                              refine done_ (done_of HT_.out (by kernel_rfl)) ?_
                              have p188 : 0 ≤ (x11_3 : Int) := of_decide_eq_true (by first | (with_reducible assumption) | assumption)
                              have q188 : x11_3 < (l1.length : Int) := of_decide_eq_true (by first | (with_reducible assumption) | assumption)
                              obtain ⟨ad188, e188, hx188_0, hx188_1, hx188_2⟩ := at_T31 HR1.out x11_3 p188 q188
                              obtain rfl : ad187 = ad188 := (by injection e188)
                              replace hx188_0 := (HB.out.cell (World.block_lt_of_cell? w _ hx188_0)).trans hx188_0
                              replace hx188_1 := (HB.out.cell (World.block_lt_of_cell? w _ hx188_1)).trans hx188_1
                              replace hx188_2 := (HB.out.cell (World.block_lt_of_cell? w _ hx188_2)).trans hx188_2
                              replace p188 := eq_true p188
                              replace q188 := eq_true q188
                              try go_wp2
                              go_roundg k3
                              case measure => have := HK1.out; have := HK2.out; have := HK3.out; omega
                              case rel => exact ⟨(wrap64 (x9_3 + ((rd_T31 l1 x11_3).f0))), (x11_3), (wrap64 (x11_3 - 1)), (by first | rfl | (simp; done) | (simp [*]; done)), (by first | rfl | (simp; done) | (simp [*]; done)), (by first | rfl | (simp; done) | (simp [*]; done)), H', ⟨by have := HK1.out; have := HK2.out; have := HK3.out; omega⟩, ⟨by (with_reducible repeat (first | apply Kd.R_alloc | apply Kd.R_drewN | apply Kd.R_drew)); exact HO_6.out⟩, ⟨by repeat (first | (with_reducible first | exact HB.out | apply below_alloc | apply pw_below_drewN | apply below_drew1) | exact HB.out)⟩⟩
                            · rw [if_neg c16] at H
                              have c16b0 : decide ((rd x6_2 x11_3) < ((rd_T31 l1 x11_3).f2)) = false := decide_eq_false c16
                              clear c16
                              have H' := Aside0.mk H
                              clear H
                              try go_wp2
                              have n0_ := Aside0.mk (Kd.R_drew HO_6.out)
                              have n1_ := Aside0.mk (below_drew1 HB.out)
                              clear HO_6
                              clear HB
                              have HO_6 := n0_
                              have HB := n1_
                              clear n0_ n1_
                              obtain ⟨Ao20, co20, eo20⟩ := Kd.R_slice HO_6.out
                              (first | subst eo20 | (injection eo20 with f1_ f2_ f3_; have f4_ := f1_.symm; have f5_ := f3_.symm; clear f1_ f2_ f3_; subst f4_; subst f5_))
                              have p186 : 0 ≤ (x11_3 : Int) := of_decide_eq_true (by first | (with_reducible assumption) | assumption)
                              have q186 : x11_3 < (x6_2.length : Int) := of_decide_eq_true (by first | (with_reducible assumption) | assumption)
                              obtain ⟨ad186, e186, hx186_0⟩ := Kd.at_int (Kd.R_reads' HO_6.out).2.2 x11_3 p186 q186
                              cases e186
                              replace p186 := eq_true p186
                              replace q186 := eq_true q186
                              have p187 : 0 ≤ (x11_3 : Int) := of_decide_eq_true (by first | (with_reducible assumption) | assumption)
                              have q187 : x11_3 < (l1.length : Int) := of_decide_eq_true (by first | (with_reducible assumption) | assumption)
                              obtain ⟨ad187, e187, hx187_0, hx187_1, hx187_2⟩ := at_T31 HR1.out x11_3 p187 q187
                              have hw187_2 := hx187_2
                              have hw187_1 := hx187_1
                              have hw187_0 := hx187_0
                              cases e187
                              replace hx187_0 := (HB.out.cell (World.block_lt_of_cell? w _ hx187_0)).trans hx187_0
                              replace hx187_1 := (HB.out.cell (World.block_lt_of_cell? w _ hx187_1)).trans hx187_1
                              replace hx187_2 := (HB.out.cell (World.block_lt_of_cell? w _ hx187_2)).trans hx187_2
                              replace p187 := eq_true p187
                              replace q187 := eq_true q187
                              refine start_ (n := 10) (S := fun w' => w'.cell? (ad186.add (x11_3).toNat) = some (.int .i64 (rd x6_2 x11_3)) ∧ w'.cell? (ad187.add ((x11_3).toNat * 3)) = some (.int .i64 ((rd_T31 l1 x11_3).f0)) ∧ w'.cell? ⟨(ad187.add ((x11_3).toNat * 3)).block, (ad187.add ((x11_3).toNat * 3)).off + 1, none⟩ = some (.int .i64 ((rd_T31 l1 x11_3).f1)) ∧ w'.cell? ⟨(ad187.add ((x11_3).toNat * 3)).block, (ad187.add ((x11_3).toNat * 3)).off + 2, none⟩ = some (.int .i64 ((rd_T31 l1 x11_3).f2))) (ds := []) #[false, false, false, false, false, false, false, false, false, false] (by kernel_rfl) rfl rfl ⟨hx186_0, ((HB.out.cell (World.block_lt_of_cell? w _ hw187_0)).trans hw187_0), ((HB.out.cell (World.block_lt_of_cell? w _ hw187_1)).trans hw187_1), ((HB.out.cell (World.block_lt_of_cell? w _ hw187_2)).trans hw187_2)⟩ (fun hHeld => ?_); refine with_tabW flywheelref27_Split.tab16 flywheelref27_Split.bits16 (fun HT_ HW_ => ?_)
                              generalize wr.drew = w19 at HO_6 HB hx186_0 hx187_0 hx187_1 hx187_2 hHeld ⊢
                              refine pure_ (i := 0) (N := some 49) (v := ?_) (a' := ?_) #[true, false, false, false, false, false, false, false, false, false] rfl rfl (any_of HT_.out (by kernel_rfl)) (fun _ _ _ h => h) (Or.inl ⟨by rfl, ?_⟩) ?_ ?_
                              rotate_left
                              · intro w'
                                go_simp
                                with_reducible rfl
                              rotate_left
                              · simp only [Act.put, List.setIfInBounds_toArray, List.set_cons_zero, List.set_cons_succ, i64_w, i32_w]
                                rfl
                              refine pure_ (i := 1) (N := some 50) (v := ?_) (a' := ?_) #[true, true, false, false, false, false, false, false, false, false] rfl rfl (any_of HT_.out (by kernel_rfl)) (fun _ _ _ h => h) (Or.inl ⟨by rfl, ?_⟩) ?_ ?_
                              rotate_left
                              · intro w'
                                go_simp
                                with_reducible rfl
                              rotate_left
                              · simp only [Act.put, List.setIfInBounds_toArray, List.set_cons_zero, List.set_cons_succ, i64_w, i32_w]
                                rfl
                              refine pure_ (i := 2) (N := some 51) (v := ?_) (a' := ?_) #[true, true, true, false, false, false, false, false, false, false] rfl rfl (any_of HT_.out (by kernel_rfl)) (fun _ _ _ h => h) (Or.inl ⟨by rfl, ?_⟩) ?_ ?_
                              rotate_left
                              · intro w'
                                go_simp
                                with_reducible rfl
                              rotate_left
                              · simp only [Act.put, List.setIfInBounds_toArray, List.set_cons_zero, List.set_cons_succ, i64_w, i32_w]
                                rfl
                              refine pure_ (i := 4) (N := some 53) (v := ?_) (a' := ?_) #[true, true, true, false, true, false, false, false, false, false] rfl rfl (any_of HT_.out (by kernel_rfl)) (fun _ _ _ h => h) (Or.inl ⟨by rfl, ?_⟩) ?_ ?_
                              rotate_left
                              · intro w'
                                go_simp
                                with_reducible rfl
                              rotate_left
                              · simp only [Act.put, List.setIfInBounds_toArray, List.set_cons_zero, List.set_cons_succ, i64_w, i32_w]
                                rfl
                              refine pure_ (i := 5) (N := some 54) (v := ?_) (a' := ?_) #[true, true, true, false, true, true, false, false, false, false] rfl rfl (any_of HT_.out (by kernel_rfl)) (fun _ _ _ h => h) (Or.inl ⟨by rfl, ?_⟩) ?_ ?_
                              rotate_left
                              · intro w'
                                go_simp
                                with_reducible rfl
                              rotate_left
                              · simp only [Act.put, List.setIfInBounds_toArray, List.set_cons_zero, List.set_cons_succ, i64_w, i32_w]
                                rfl
                              refine pure_ (i := 6) (N := some 55) (v := ?_) (a' := ?_) #[true, true, true, false, true, true, true, false, false, false] rfl rfl (any_of HT_.out (by kernel_rfl)) (fun _ _ _ h => h) (Or.inl ⟨by rfl, ?_⟩) ?_ ?_
                              rotate_left
                              · intro w'
                                go_simp
                                with_reducible rfl
                              rotate_left
                              · simp only [Act.put, List.setIfInBounds_toArray, List.set_cons_zero, List.set_cons_succ, i64_w, i32_w]
                                rfl
                              refine pure_ (i := 7) (N := some 56) (v := ?_) (a' := ?_) #[true, true, true, false, true, true, true, true, false, false] rfl rfl (any_of HT_.out (by kernel_rfl)) (fun _ _ _ h => h) (Or.inl ⟨by rfl, ?_⟩) ?_ ?_
                              rotate_left
                              · intro w'
                                go_simp
                                with_reducible rfl
                              rotate_left
                              · simp only [Act.put, List.setIfInBounds_toArray, List.set_cons_zero, List.set_cons_succ, i64_w, i32_w]
                                rfl
                              refine take_ (i := 3) (N := some 52) (v := ?_) (a' := ?_) #[true, true, true, true, true, true, true, true, false, false] rfl rfl (take_ofW HT_.out HW_.out (by kernel_rfl)) (fun _ _ _ h => h) (Or.inl ⟨by rfl, ?_⟩) hHeld ?_ ?_
                              rotate_left
                              · rintro w' ⟨s0, s1, s2, s3⟩
                                go_simp
                                with_reducible rfl
                              rotate_left
                              · simp only [Act.put, List.setIfInBounds_toArray, List.set_cons_zero, List.set_cons_succ, i64_w, i32_w]
                                rfl
                              refine take_ (i := 8) (N := some 57) (v := ?_) (a' := ?_) #[true, true, true, true, true, true, true, true, true, false] rfl rfl (take_ofW HT_.out HW_.out (by kernel_rfl)) (fun _ _ _ h => h) (Or.inl ⟨by rfl, ?_⟩) hHeld ?_ ?_
                              rotate_left
                              · rintro w' ⟨s0, s1, s2, s3⟩
                                go_simp
                                with_reducible rfl
                              rotate_left
                              · simp only [Act.put, List.setIfInBounds_toArray, List.set_cons_zero, List.set_cons_succ, i64_w, i32_w]
                                rfl
                              refine pure_ (i := 9) (N := some 58) (v := ?_) (a' := ?_) #[true, true, true, true, true, true, true, true, true, true] rfl rfl (any_of HT_.out (by kernel_rfl)) (fun _ _ _ h => h) (Or.inl ⟨by rfl, ?_⟩) ?_ ?_
                              rotate_left
                              · intro w'
                                go_simp
                                with_reducible rfl
                              rotate_left
                              · simp only [Act.put, List.setIfInBounds_toArray, List.set_cons_zero, List.set_cons_succ, i64_w, i32_w]
                                rfl
                              refine done_ (done_of HT_.out (by kernel_rfl)) ?_
                              try go_wp2
                              go_roundg k3
                              case measure => have := HK1.out; have := HK2.out; have := HK3.out; omega
                              case rel => exact ⟨(x9_3), (x10_3), (wrap64 (x11_3 - 1)), (by first | rfl | (simp; done) | (simp [*]; done)), (by first | rfl | (simp; done) | (simp [*]; done)), (by first | rfl | (simp; done) | (simp [*]; done)), H', ⟨by have := HK1.out; have := HK2.out; have := HK3.out; omega⟩, ⟨by (with_reducible repeat (first | apply Kd.R_alloc | apply Kd.R_drewN | apply Kd.R_drew)); exact HO_6.out⟩, ⟨by repeat (first | (with_reducible first | exact HB.out | apply below_alloc | apply pw_below_drewN | apply below_drew1) | exact HB.out)⟩⟩
                          · rw [if_neg c15] at H
                            exact absurd H (by simp)
                        · rw [if_neg c14] at H
                          exact absurd H (by simp)
                      · rw [if_neg c13] at H
                        exact absurd H (by simp)
                    · rw [if_neg c12] at H
                      have c12b0 : decide (0 ≤ x11_3) = false := decide_eq_false c12
                      clear c12
                      by_cases c21 : x10_3 < 0
                      · rw [if_pos c21] at H
                        have c21b0 : decide (x10_3 < 0) = true := decide_eq_true c21
                        clear c21
                        obtain rfl := Option.some.inj H
                        go_wp2
                        go_ret
                        exact ⟨_, by first | rfl | (simp [errW_none, errW_some] <;> rfl) | (simp [*, errW_none, errW_some] <;> rfl), by (with_reducible repeat (first | apply Kd.R_alloc | apply Kd.R_drewN | apply Kd.R_drew)); exact HO_6.out, by repeat (first | (with_reducible first | exact HB.out | apply below_alloc | apply pw_below_drewN | apply below_drew1) | exact HB.out)⟩
                      · rw [if_neg c21] at H
                        have c21b0 : decide (x10_3 < 0) = false := decide_eq_false c21
                        clear c21
                        have H' := Aside0.mk H
                        clear H
                        go_wp2
                        go_loopg [12, 13] k3 (fun kq v12 v13 w' => ∃ (x6_4 : List Int) (x12_4 : Int) (x13_4 : Int), v12 = .int .i64 x12_4 ∧ v13 = .int .i64 x13_4 ∧ Aside0 (flywheelref27_Split.l3 kq l1 x5_2 x6_4 x9_3 x10_3 x12_4 x13_4 = some r) ∧ Aside0 (kq ≤ k3) ∧ Aside0 (Kd.R (Kd.int .i64) 2 w' w.heap.size (fun _ => True) u6 x6_4) ∧ Aside0 (Below w.heap.size w w'))
                        case atStart => exact ⟨(x6_2), (0), (0), (by first | rfl | (simp; done) | (simp [*]; done)), (by first | rfl | (simp; done) | (simp [*]; done)), H', ⟨Nat.le_refl _⟩, ⟨by (with_reducible repeat (first | apply Kd.R_alloc | apply Kd.R_drewN | apply Kd.R_drew)); exact HO_6.out⟩, ⟨by repeat (first | (with_reducible first | exact HB.out | apply below_alloc | apply pw_below_drewN | apply below_drew1) | exact HB.out)⟩⟩
                        case round =>
                          clear H'
                          try clear c1
                          try clear p1
                          try clear q1
                          try clear hx1
                          try clear c2
                          try clear p2
                          try clear c4
                          try clear c6
                          try clear c6b0
                          try clear p6
                          try clear c7
                          try clear c7b0
                          try clear c9
                          try clear c11
                          try clear c11b0
                          try clear c12
                          try clear c12b0
                          try clear c13
                          try clear c13b0
                          try clear c14
                          try clear c14b0
                          try clear c15
                          try clear c15b0
                          try clear c16
                          try clear c16b0
                          try clear p18
                          try clear q18
                          try clear hx18
                          try clear c19
                          try clear c21
                          try clear c21b0
                          try clear hx182_0
                          try clear hx182_1
                          try clear hx182_2
                          try clear hx186_0
                          try clear hx187_0
                          try clear hx187_1
                          try clear hx187_2
                          try clear hx188_0
                          try clear hx188_1
                          try clear hx188_2
                          try clear p1
                          try clear p182
                          try clear p186
                          try clear p187
                          try clear p188
                          try clear p2
                          try clear p6
                          try clear q1
                          try clear q182
                          try clear q186
                          try clear q187
                          try clear q188
                          obtain ⟨x6_4, x12_4, x13_4, rfl, rfl, HA, HK4, HO_6, HB⟩ := hrel
                          cases gk with
                          | zero => exact absurd HA.out (by simp [flywheelref27_Split.l3])
                          | succ k4 =>
                            have H := HA.out
                            clear HA
                            simp only [flywheelref27_Split.l3] at H
                            by_cases c22 : x13_4 < (l1.length : Int)
                            · rw [if_pos c22] at H
                              have c22b0 : decide (x13_4 < (l1.length : Int)) = true := decide_eq_true c22
                              clear c22
                              by_cases c23 : 0 ≤ x13_4
                              · rw [if_pos c23] at H
                                have c23b0 : decide (0 ≤ x13_4) = true := decide_eq_true c23
                                clear c23
                                by_cases c24 : x13_4 < (x6_4.length : Int)
                                · rw [if_pos c24] at H
                                  have c24b0 : decide (x13_4 < (x6_4.length : Int)) = true := decide_eq_true c24
                                  clear c24
                                  by_cases c25 : (rd x6_4 x13_4) < ((rd_T31 l1 x13_4).f2)
                                  · rw [if_pos c25] at H
                                    have c25b0 : decide ((rd x6_4 x13_4) < ((rd_T31 l1 x13_4).f2)) = true := decide_eq_true c25
                                    clear c25
                                    replace H := Option.bind_eq_some_iff.mp H
                                    obtain ⟨t192, A260, H⟩ := H
                                    replace H : (flywheelref27_Split.l3 k4 l1 x5_2 (x6_4.set (x13_4 : Int).toNat (wrap64 ((rd x6_4 x13_4) + (mn t192 (wrap64 (((rd_T31 l1 x13_4).f2) - (rd x6_4 x13_4))))))) x9_3 x10_3 (wrap64 (x12_4 + (mn t192 (wrap64 (((rd_T31 l1 x13_4).f2) - (rd x6_4 x13_4)))))) (wrap64 (x13_4 + 1))) = some r := H
                                    have A26 := Aside0.mk A260
                                    clear A260
                                    obtain ⟨ji27, hji27⟩ : ∃ j_ : Int, (mn t192 (wrap64 (((rd_T31 l1 x13_4).f2) - (rd x6_4 x13_4)))) = j_ := ⟨_, rfl⟩
                                    replace H : (flywheelref27_Split.l3 k4 l1 x5_2 (x6_4.set (x13_4 : Int).toNat (wrap64 ((rd x6_4 x13_4) + (ji27)))) x9_3 x10_3 (wrap64 (x12_4 + (ji27))) (wrap64 (x13_4 + 1))) = some r := by first | (rw [hji27] at H; exact H) | (simp only [hji27] at H ⊢; exact H)
                                    (try rw [hji27] at A26)
                                    have hji27_ : (if (wrap64 (((rd_T31 l1 x13_4).f2) - (rd x6_4 x13_4))) < t192 then (wrap64 (((rd_T31 l1 x13_4).f2) - (rd x6_4 x13_4))) else t192) = ji27 := hji27
                                    obtain ⟨y196, hy196⟩ : ∃ y_ : List Int, y_ = (x6_4.set (x13_4 : Int).toNat (wrap64 ((rd x6_4 x13_4) + (ji27)))) := ⟨_, rfl⟩
                                    replace H : (flywheelref27_Split.l3 k4 l1 x5_2 y196 x9_3 x10_3 (wrap64 (x12_4 + (ji27))) (wrap64 (x13_4 + 1))) = some r := by first | (rw [hy196]; with_reducible exact H) | (have H2_ := (Option.bind_some _ _).symm.trans H; rw [hy196]; with_reducible exact H2_) | (have H2_ := (Option.bind_some _ _).symm.trans H; with_reducible exact H2_) | with_reducible exact H | (rw [hy196]; exact H) | exact H
                                    have Ny196 := Aside0.mk hy196
                                    clear hy196
                                    have H' := Aside0.mk H
                                    clear H
                                    try go_wp2
                                    have n0_ := Aside0.mk (Kd.R_drew HO_6.out)
                                    have n1_ := Aside0.mk (below_drew1 HB.out)
                                    clear HO_6
                                    clear HB
                                    have HO_6 := n0_
                                    have HB := n1_
                                    clear n0_ n1_
                                    obtain ⟨Ao30, co30, eo30⟩ := Kd.R_slice HO_6.out
                                    (first | subst eo30 | (injection eo30 with f1_ f2_ f3_; have f4_ := f1_.symm; have f5_ := f3_.symm; clear f1_ f2_ f3_; subst f4_; subst f5_))
                                    have p189 : 0 ≤ (x13_4 : Int) := of_decide_eq_true (by first | (with_reducible assumption) | assumption)
                                    have q189 : x13_4 < (x6_4.length : Int) := of_decide_eq_true (by first | (with_reducible assumption) | assumption)
                                    obtain ⟨ad189, e189, hx189_0⟩ := Kd.at_int (Kd.R_reads' HO_6.out).2.2 x13_4 p189 q189
                                    cases e189
                                    replace p189 := eq_true p189
                                    replace q189 := eq_true q189
                                    have p190 : 0 ≤ (x13_4 : Int) := of_decide_eq_true (by first | (with_reducible assumption) | assumption)
                                    have q190 : x13_4 < (l1.length : Int) := of_decide_eq_true (by first | (with_reducible assumption) | assumption)
                                    obtain ⟨ad190, e190, hx190_0, hx190_1, hx190_2⟩ := at_T31 HR1.out x13_4 p190 q190
                                    have hw190_2 := hx190_2
                                    have hw190_1 := hx190_1
                                    have hw190_0 := hx190_0
                                    cases e190
                                    replace hx190_0 := (HB.out.cell (World.block_lt_of_cell? w _ hx190_0)).trans hx190_0
                                    replace hx190_1 := (HB.out.cell (World.block_lt_of_cell? w _ hx190_1)).trans hx190_1
                                    replace hx190_2 := (HB.out.cell (World.block_lt_of_cell? w _ hx190_2)).trans hx190_2
                                    replace p190 := eq_true p190
                                    replace q190 := eq_true q190
                                    refine start_ (n := 10) (S := fun w' => w'.cell? (ad189.add (x13_4).toNat) = some (.int .i64 (rd x6_4 x13_4)) ∧ w'.cell? (ad190.add ((x13_4).toNat * 3)) = some (.int .i64 ((rd_T31 l1 x13_4).f0)) ∧ w'.cell? ⟨(ad190.add ((x13_4).toNat * 3)).block, (ad190.add ((x13_4).toNat * 3)).off + 1, none⟩ = some (.int .i64 ((rd_T31 l1 x13_4).f1)) ∧ w'.cell? ⟨(ad190.add ((x13_4).toNat * 3)).block, (ad190.add ((x13_4).toNat * 3)).off + 2, none⟩ = some (.int .i64 ((rd_T31 l1 x13_4).f2))) (ds := []) #[false, false, false, false, false, false, false, false, false, false] (by kernel_rfl) rfl rfl ⟨hx189_0, ((HB.out.cell (World.block_lt_of_cell? w _ hw190_0)).trans hw190_0), ((HB.out.cell (World.block_lt_of_cell? w _ hw190_1)).trans hw190_1), ((HB.out.cell (World.block_lt_of_cell? w _ hw190_2)).trans hw190_2)⟩ (fun hHeld => ?_); refine with_tabW flywheelref27_Split.tab25 flywheelref27_Split.bits25 (fun HT_ HW_ => ?_)
                                    generalize wr.drew = w29 at HO_6 HB hx189_0 hx190_0 hx190_1 hx190_2 hHeld ⊢
                                    refine pure_ (i := 0) (N := some 76) (v := ?_) (a' := ?_) #[true, false, false, false, false, false, false, false, false, false] rfl rfl (any_of HT_.out (by kernel_rfl)) (fun _ _ _ h => h) (Or.inl ⟨by rfl, ?_⟩) ?_ ?_
                                    rotate_left
                                    · intro w'
                                      go_simp
                                      with_reducible rfl
                                    rotate_left
                                    · simp only [Act.put, List.setIfInBounds_toArray, List.set_cons_zero, List.set_cons_succ, i64_w, i32_w]
                                      rfl
                                    refine pure_ (i := 1) (N := some 77) (v := ?_) (a' := ?_) #[true, true, false, false, false, false, false, false, false, false] rfl rfl (any_of HT_.out (by kernel_rfl)) (fun _ _ _ h => h) (Or.inl ⟨by rfl, ?_⟩) ?_ ?_
                                    rotate_left
                                    · intro w'
                                      go_simp
                                      with_reducible rfl
                                    rotate_left
                                    · simp only [Act.put, List.setIfInBounds_toArray, List.set_cons_zero, List.set_cons_succ, i64_w, i32_w]
                                      rfl
                                    refine pure_ (i := 2) (N := some 78) (v := ?_) (a' := ?_) #[true, true, true, false, false, false, false, false, false, false] rfl rfl (any_of HT_.out (by kernel_rfl)) (fun _ _ _ h => h) (Or.inl ⟨by rfl, ?_⟩) ?_ ?_
                                    rotate_left
                                    · intro w'
                                      go_simp
                                      with_reducible rfl
                                    rotate_left
                                    · simp only [Act.put, List.setIfInBounds_toArray, List.set_cons_zero, List.set_cons_succ, i64_w, i32_w]
                                      rfl
                                    refine pure_ (i := 4) (N := some 80) (v := ?_) (a' := ?_) #[true, true, true, false, true, false, false, false, false, false] rfl rfl (any_of HT_.out (by kernel_rfl)) (fun _ _ _ h => h) (Or.inl ⟨by rfl, ?_⟩) ?_ ?_
                                    rotate_left
                                    · intro w'
                                      go_simp
                                      with_reducible rfl
                                    rotate_left
                                    · simp only [Act.put, List.setIfInBounds_toArray, List.set_cons_zero, List.set_cons_succ, i64_w, i32_w]
                                      rfl
                                    refine pure_ (i := 5) (N := some 81) (v := ?_) (a' := ?_) #[true, true, true, false, true, true, false, false, false, false] rfl rfl (any_of HT_.out (by kernel_rfl)) (fun _ _ _ h => h) (Or.inl ⟨by rfl, ?_⟩) ?_ ?_
                                    rotate_left
                                    · intro w'
                                      go_simp
                                      with_reducible rfl
                                    rotate_left
                                    · simp only [Act.put, List.setIfInBounds_toArray, List.set_cons_zero, List.set_cons_succ, i64_w, i32_w]
                                      rfl
                                    refine pure_ (i := 6) (N := some 82) (v := ?_) (a' := ?_) #[true, true, true, false, true, true, true, false, false, false] rfl rfl (any_of HT_.out (by kernel_rfl)) (fun _ _ _ h => h) (Or.inl ⟨by rfl, ?_⟩) ?_ ?_
                                    rotate_left
                                    · intro w'
                                      go_simp
                                      with_reducible rfl
                                    rotate_left
                                    · simp only [Act.put, List.setIfInBounds_toArray, List.set_cons_zero, List.set_cons_succ, i64_w, i32_w]
                                      rfl
                                    refine pure_ (i := 7) (N := some 83) (v := ?_) (a' := ?_) #[true, true, true, false, true, true, true, true, false, false] rfl rfl (any_of HT_.out (by kernel_rfl)) (fun _ _ _ h => h) (Or.inl ⟨by rfl, ?_⟩) ?_ ?_
                                    rotate_left
                                    · intro w'
                                      go_simp
                                      with_reducible rfl
                                    rotate_left
                                    · simp only [Act.put, List.setIfInBounds_toArray, List.set_cons_zero, List.set_cons_succ, i64_w, i32_w]
                                      rfl
                                    refine take_ (i := 3) (N := some 79) (v := ?_) (a' := ?_) #[true, true, true, true, true, true, true, true, false, false] rfl rfl (take_ofW HT_.out HW_.out (by kernel_rfl)) (fun _ _ _ h => h) (Or.inl ⟨by rfl, ?_⟩) hHeld ?_ ?_
                                    rotate_left
                                    · rintro w' ⟨s0, s1, s2, s3⟩
                                      go_simp
                                      with_reducible rfl
                                    rotate_left
                                    · simp only [Act.put, List.setIfInBounds_toArray, List.set_cons_zero, List.set_cons_succ, i64_w, i32_w]
                                      rfl
                                    refine take_ (i := 8) (N := some 84) (v := ?_) (a' := ?_) #[true, true, true, true, true, true, true, true, true, false] rfl rfl (take_ofW HT_.out HW_.out (by kernel_rfl)) (fun _ _ _ h => h) (Or.inl ⟨by rfl, ?_⟩) hHeld ?_ ?_
                                    rotate_left
                                    · rintro w' ⟨s0, s1, s2, s3⟩
                                      go_simp
                                      with_reducible rfl
                                    rotate_left
                                    · simp only [Act.put, List.setIfInBounds_toArray, List.set_cons_zero, List.set_cons_succ, i64_w, i32_w]
                                      rfl
                                    refine pure_ (i := 9) (N := some 85) (v := ?_) (a' := ?_) #[true, true, true, true, true, true, true, true, true, true] rfl rfl (any_of HT_.out (by kernel_rfl)) (fun _ _ _ h => h) (Or.inl ⟨by rfl, ?_⟩) ?_ ?_
                                    rotate_left
                                    · intro w'
                                      go_simp
                                      with_reducible rfl
                                    rotate_left
                                    · simp only [Act.put, List.setIfInBounds_toArray, List.set_cons_zero, List.set_cons_succ, i64_w, i32_w]
                                      rfl
                                    refine done_ (done_of HT_.out (by kernel_rfl)) ?_
                                    try go_wp2
                                    have n0_ := Aside0.mk (Kd.R_drew HO_6.out)
                                    have n1_ := Aside0.mk (below_drew1 HB.out)
                                    clear HO_6
                                    clear HB
                                    have HO_6 := n0_
                                    have HB := n1_
                                    clear n0_ n1_
                                    have p191 : 0 ≤ (x13_4 : Int) := of_decide_eq_true (by first | (with_reducible assumption) | assumption)
                                    have q191 : x13_4 < (l1.length : Int) := of_decide_eq_true (by first | (with_reducible assumption) | assumption)
                                    obtain ⟨ad191, e191, hx191_0, hx191_1, hx191_2⟩ := at_T31 HR1.out x13_4 p191 q191
                                    have hw191_2 := hx191_2
                                    have hw191_1 := hx191_1
                                    have hw191_0 := hx191_0
                                    obtain rfl : ad190 = ad191 := (by injection e191)
                                    replace hx191_0 := (HB.out.cell (World.block_lt_of_cell? w _ hx191_0)).trans hx191_0
                                    replace hx191_1 := (HB.out.cell (World.block_lt_of_cell? w _ hx191_1)).trans hx191_1
                                    replace hx191_2 := (HB.out.cell (World.block_lt_of_cell? w _ hx191_2)).trans hx191_2
                                    replace p191 := eq_true p191
                                    replace q191 := eq_true q191
                                    have p193 : 0 ≤ (x13_4 : Int) := of_decide_eq_true (by first | (with_reducible assumption) | assumption)
                                    have q193 : x13_4 < (l1.length : Int) := of_decide_eq_true (by first | (with_reducible assumption) | assumption)
                                    obtain ⟨ad193, e193, hx193_0, hx193_1, hx193_2⟩ := at_T31 HR1.out x13_4 p193 q193
                                    have hw193_2 := hx193_2
                                    have hw193_1 := hx193_1
                                    have hw193_0 := hx193_0
                                    obtain rfl : ad190 = ad193 := (by injection e193)
                                    replace hx193_0 := (HB.out.cell (World.block_lt_of_cell? w _ hx193_0)).trans hx193_0
                                    replace hx193_1 := (HB.out.cell (World.block_lt_of_cell? w _ hx193_1)).trans hx193_1
                                    replace hx193_2 := (HB.out.cell (World.block_lt_of_cell? w _ hx193_2)).trans hx193_2
                                    replace p193 := eq_true p193
                                    replace q193 := eq_true q193
                                    have p194 : 0 ≤ (x13_4 : Int) := of_decide_eq_true (by first | (with_reducible assumption) | assumption)
                                    have q194 : x13_4 < (x6_4.length : Int) := of_decide_eq_true (by first | (with_reducible assumption) | assumption)
                                    obtain ⟨ad194, e194, hx194_0⟩ := Kd.at_int (Kd.R_reads' HO_6.out).2.2 x13_4 p194 q194
                                    obtain rfl : ad189 = ad194 := (by injection e194)
                                    replace p194 := eq_true p194
                                    replace q194 := eq_true q194
                                    refine start_ (n := 20) (S := fun w' => w'.cell? (ad190.add ((x13_4).toNat * 3)) = some (.int .i64 ((rd_T31 l1 x13_4).f0)) ∧ w'.cell? ⟨(ad190.add ((x13_4).toNat * 3)).block, (ad190.add ((x13_4).toNat * 3)).off + 1, none⟩ = some (.int .i64 ((rd_T31 l1 x13_4).f1)) ∧ w'.cell? ⟨(ad190.add ((x13_4).toNat * 3)).block, (ad190.add ((x13_4).toNat * 3)).off + 2, none⟩ = some (.int .i64 ((rd_T31 l1 x13_4).f2)) ∧ w'.cell? (ad190.add ((x13_4).toNat * 3)) = some (.int .i64 ((rd_T31 l1 x13_4).f0)) ∧ w'.cell? ⟨(ad190.add ((x13_4).toNat * 3)).block, (ad190.add ((x13_4).toNat * 3)).off + 1, none⟩ = some (.int .i64 ((rd_T31 l1 x13_4).f1)) ∧ w'.cell? ⟨(ad190.add ((x13_4).toNat * 3)).block, (ad190.add ((x13_4).toNat * 3)).off + 2, none⟩ = some (.int .i64 ((rd_T31 l1 x13_4).f2)) ∧ w'.cell? (ad189.add (x13_4).toNat) = some (.int .i64 (rd x6_4 x13_4))) (ds := []) #[false, false, false, false, false, false, false, false, false, false, false, false, false, false, false, false, false, false, false, false] (by kernel_rfl) rfl rfl ⟨((HB.out.cell (World.block_lt_of_cell? w _ hw191_0)).trans hw191_0), ((HB.out.cell (World.block_lt_of_cell? w _ hw191_1)).trans hw191_1), ((HB.out.cell (World.block_lt_of_cell? w _ hw191_2)).trans hw191_2), ((HB.out.cell (World.block_lt_of_cell? w _ hw193_0)).trans hw193_0), ((HB.out.cell (World.block_lt_of_cell? w _ hw193_1)).trans hw193_1), ((HB.out.cell (World.block_lt_of_cell? w _ hw193_2)).trans hw193_2), hx194_0⟩ (fun hHeld => ?_); refine with_tabW flywheelref27_Split.tab26 flywheelref27_Split.bits26 (fun HT_ HW_ => ?_)
                                    generalize w29.drew = w31 at HO_6 HB hx191_0 hx191_1 hx191_2 hx193_0 hx193_1 hx193_2 hx194_0 hHeld ⊢
                                    refine pure_ (i := 0) (N := some 86) (v := ?_) (a' := ?_) #[true, false, false, false, false, false, false, false, false, false, false, false, false, false, false, false, false, false, false, false] rfl rfl (any_of HT_.out (by kernel_rfl)) (fun _ _ _ h => h) (Or.inl ⟨by rfl, ?_⟩) ?_ ?_
                                    rotate_left
                                    · intro w'
                                      go_simp
                                      with_reducible rfl
                                    rotate_left
                                    · simp only [Act.put, List.setIfInBounds_toArray, List.set_cons_zero, List.set_cons_succ, i64_w, i32_w]
                                      rfl
                                    refine pure_ (i := 1) (N := some 87) (v := ?_) (a' := ?_) #[true, true, false, false, false, false, false, false, false, false, false, false, false, false, false, false, false, false, false, false] rfl rfl (any_of HT_.out (by kernel_rfl)) (fun _ _ _ h => h) (Or.inl ⟨by rfl, ?_⟩) ?_ ?_
                                    rotate_left
                                    · intro w'
                                      go_simp
                                      with_reducible rfl
                                    rotate_left
                                    · simp only [Act.put, List.setIfInBounds_toArray, List.set_cons_zero, List.set_cons_succ, i64_w, i32_w]
                                      rfl
                                    refine pure_ (i := 2) (N := some 88) (v := ?_) (a' := ?_) #[true, true, true, false, false, false, false, false, false, false, false, false, false, false, false, false, false, false, false, false] rfl rfl (any_of HT_.out (by kernel_rfl)) (fun _ _ _ h => h) (Or.inl ⟨by rfl, ?_⟩) ?_ ?_
                                    rotate_left
                                    · intro w'
                                      go_simp
                                      with_reducible rfl
                                    rotate_left
                                    · simp only [Act.put, List.setIfInBounds_toArray, List.set_cons_zero, List.set_cons_succ, i64_w, i32_w]
                                      rfl
                                    refine pure_ (i := 3) (N := some 89) (v := ?_) (a' := ?_) #[true, true, true, true, false, false, false, false, false, false, false, false, false, false, false, false, false, false, false, false] rfl rfl (any_of HT_.out (by kernel_rfl)) (fun _ _ _ h => h) (Or.inl ⟨by rfl, ?_⟩) ?_ ?_
                                    rotate_left
                                    · intro w'
                                      go_simp
                                      with_reducible rfl
                                    rotate_left
                                    · simp only [Act.put, List.setIfInBounds_toArray, List.set_cons_zero, List.set_cons_succ, i64_w, i32_w]
                                      rfl
                                    refine pure_ (i := 4) (N := some 90) (v := ?_) (a' := ?_) #[true, true, true, true, true, false, false, false, false, false, false, false, false, false, false, false, false, false, false, false] rfl rfl (any_of HT_.out (by kernel_rfl)) (fun _ _ _ h => h) (Or.inl ⟨by rfl, ?_⟩) ?_ ?_
                                    rotate_left
                                    · intro w'
                                      go_simp
                                      with_reducible rfl
                                    rotate_left
                                    · simp only [Act.put, List.setIfInBounds_toArray, List.set_cons_zero, List.set_cons_succ, i64_w, i32_w]
                                      rfl
                                    refine pure_ (i := 6) (N := some 92) (v := ?_) (a' := ?_) #[true, true, true, true, true, false, true, false, false, false, false, false, false, false, false, false, false, false, false, false] rfl rfl (any_of HT_.out (by kernel_rfl)) (fun _ _ _ h => h) (Or.inl ⟨by rfl, ?_⟩) ?_ ?_
                                    rotate_left
                                    · intro w'
                                      go_simp
                                      with_reducible rfl
                                    rotate_left
                                    · simp only [Act.put, List.setIfInBounds_toArray, List.set_cons_zero, List.set_cons_succ, i64_w, i32_w]
                                      rfl
                                    refine pure_ (i := 8) (N := some 94) (v := ?_) (a' := ?_) #[true, true, true, true, true, false, true, false, true, false, false, false, false, false, false, false, false, false, false, false] rfl rfl (any_of HT_.out (by kernel_rfl)) (fun _ _ _ h => h) (Or.inl ⟨by rfl, ?_⟩) ?_ ?_
                                    rotate_left
                                    · intro w'
                                      go_simp
                                      with_reducible rfl
                                    rotate_left
                                    · simp only [Act.put, List.setIfInBounds_toArray, List.set_cons_zero, List.set_cons_succ, i64_w, i32_w]
                                      rfl
                                    refine pure_ (i := 9) (N := some 95) (v := ?_) (a' := ?_) #[true, true, true, true, true, false, true, false, true, true, false, false, false, false, false, false, false, false, false, false] rfl rfl (any_of HT_.out (by kernel_rfl)) (fun _ _ _ h => h) (Or.inl ⟨by rfl, ?_⟩) ?_ ?_
                                    rotate_left
                                    · intro w'
                                      go_simp
                                      with_reducible rfl
                                    rotate_left
                                    · simp only [Act.put, List.setIfInBounds_toArray, List.set_cons_zero, List.set_cons_succ, i64_w, i32_w]
                                      rfl
                                    refine pure_ (i := 10) (N := some 96) (v := ?_) (a' := ?_) #[true, true, true, true, true, false, true, false, true, true, true, false, false, false, false, false, false, false, false, false] rfl rfl (any_of HT_.out (by kernel_rfl)) (fun _ _ _ h => h) (Or.inl ⟨by rfl, ?_⟩) ?_ ?_
                                    rotate_left
                                    · intro w'
                                      go_simp
                                      with_reducible rfl
                                    rotate_left
                                    · simp only [Act.put, List.setIfInBounds_toArray, List.set_cons_zero, List.set_cons_succ, i64_w, i32_w]
                                      rfl
                                    refine pure_ (i := 11) (N := some 97) (v := ?_) (a' := ?_) #[true, true, true, true, true, false, true, false, true, true, true, true, false, false, false, false, false, false, false, false] rfl rfl (any_of HT_.out (by kernel_rfl)) (fun _ _ _ h => h) (Or.inl ⟨by rfl, ?_⟩) ?_ ?_
                                    rotate_left
                                    · intro w'
                                      go_simp
                                      with_reducible rfl
                                    rotate_left
                                    · simp only [Act.put, List.setIfInBounds_toArray, List.set_cons_zero, List.set_cons_succ, i64_w, i32_w]
                                      rfl
                                    refine pure_ (i := 13) (N := some 99) (v := ?_) (a' := ?_) #[true, true, true, true, true, false, true, false, true, true, true, true, false, true, false, false, false, false, false, false] rfl rfl (any_of HT_.out (by kernel_rfl)) (fun _ _ _ h => h) (Or.inl ⟨by rfl, ?_⟩) ?_ ?_
                                    rotate_left
                                    · intro w'
                                      go_simp
                                      with_reducible rfl
                                    rotate_left
                                    · simp only [Act.put, List.setIfInBounds_toArray, List.set_cons_zero, List.set_cons_succ, i64_w, i32_w]
                                      rfl
                                    refine pure_ (i := 14) (N := some 100) (v := ?_) (a' := ?_) #[true, true, true, true, true, false, true, false, true, true, true, true, false, true, true, false, false, false, false, false] rfl rfl (any_of HT_.out (by kernel_rfl)) (fun _ _ _ h => h) (Or.inl ⟨by rfl, ?_⟩) ?_ ?_
                                    rotate_left
                                    · intro w'
                                      go_simp
                                      with_reducible rfl
                                    rotate_left
                                    · simp only [Act.put, List.setIfInBounds_toArray, List.set_cons_zero, List.set_cons_succ, i64_w, i32_w]
                                      rfl
                                    refine pure_ (i := 15) (N := some 101) (v := ?_) (a' := ?_) #[true, true, true, true, true, false, true, false, true, true, true, true, false, true, true, true, false, false, false, false] rfl rfl (any_of HT_.out (by kernel_rfl)) (fun _ _ _ h => h) (Or.inl ⟨by rfl, ?_⟩) ?_ ?_
                                    rotate_left
                                    · intro w'
                                      go_simp
                                      with_reducible rfl
                                    rotate_left
                                    · simp only [Act.put, List.setIfInBounds_toArray, List.set_cons_zero, List.set_cons_succ, i64_w, i32_w]
                                      rfl
                                    refine take_ (i := 5) (N := some 91) (v := ?_) (a' := ?_) #[true, true, true, true, true, true, true, false, true, true, true, true, false, true, true, true, false, false, false, false] rfl rfl (take_ofW HT_.out HW_.out (by kernel_rfl)) (fun _ _ _ h => h) (Or.inl ⟨by rfl, ?_⟩) hHeld ?_ ?_
                                    rotate_left
                                    · rintro w' ⟨s0, s1, s2, s3, s4, s5, s6⟩
                                      go_simp
                                      with_reducible rfl
                                    rotate_left
                                    · simp only [Act.put, List.setIfInBounds_toArray, List.set_cons_zero, List.set_cons_succ, i64_w, i32_w]
                                      rfl
                                    refine take_ (i := 12) (N := some 98) (v := ?_) (a' := ?_) #[true, true, true, true, true, true, true, false, true, true, true, true, true, true, true, true, false, false, false, false] rfl rfl (take_ofW HT_.out HW_.out (by kernel_rfl)) (fun _ _ _ h => h) (Or.inl ⟨by rfl, ?_⟩) hHeld ?_ ?_
                                    rotate_left
                                    · rintro w' ⟨s0, s1, s2, s3, s4, s5, s6⟩
                                      go_simp
                                      with_reducible rfl
                                    rotate_left
                                    · simp only [Act.put, List.setIfInBounds_toArray, List.set_cons_zero, List.set_cons_succ, i64_w, i32_w]
                                      rfl
                                    refine take_ (i := 16) (N := some 102) (v := ?_) (a' := ?_) #[true, true, true, true, true, true, true, false, true, true, true, true, true, true, true, true, true, false, false, false] rfl rfl (take_ofW HT_.out HW_.out (by kernel_rfl)) (fun _ _ _ h => h) (Or.inl ⟨by rfl, ?_⟩) hHeld ?_ ?_
                                    rotate_left
                                    · rintro w' ⟨s0, s1, s2, s3, s4, s5, s6⟩
                                      go_simp
                                      with_reducible rfl
                                    rotate_left
                                    · simp only [Act.put, List.setIfInBounds_toArray, List.set_cons_zero, List.set_cons_succ, i64_w, i32_w]
                                      rfl
                                    refine pure_ (i := 17) (N := some 103) (v := ?_) (a' := ?_) #[true, true, true, true, true, true, true, false, true, true, true, true, true, true, true, true, true, true, false, false] rfl rfl (any_of HT_.out (by kernel_rfl)) (fun _ _ _ h => h) (Or.inl ⟨by rfl, ?_⟩) ?_ ?_
                                    rotate_left
                                    · intro w'
                                      go_simp
                                      with_reducible rfl
                                    rotate_left
                                    · simp only [Act.put, List.setIfInBounds_toArray, List.set_cons_zero, List.set_cons_succ, i64_w, i32_w]
                                      rfl
                                    refine one_ (i := 7) (N := some 93) #[true, true, true, true, true, true, true, true, true, true, true, true, true, true, true, true, true, true, false, false] rfl rfl (one_of HT_.out (by kernel_rfl)) (by decide) (fun K hK => ?_)
                                    refine goes_ Try.func42 (by kernel_rfl) rfl #[.int .i64 x5_2, .int .i64 ((rd_T31 l1 x13_4).f0), .int .i64 x9_3, .int .i64 1] (by rfl) rfl rfl (by (try simp only [List.map_toArray, List.map_cons, List.map_nil]); first | done | rfl | (simp only [List.length_drop, List.length_take]; rfl)) ?_
                                    with_reducible refine (flywheelref02_Do.calls x5_2 ((rd_T31 l1 x13_4).f0) x9_3 1 t192 _ A26.out).mono ?_
                                    rintro e w32 ⟨rfl, hb⟩
                                    have HS6_ := (hb.cell (World.block_lt_of_cell? _ _ (hHeld.2.2.2.2.2.2))).trans (hHeld.2.2.2.2.2.2)
                                    refine ⟨_, rfl, ?_⟩
                                    have n0_ := Aside0.mk (Kd.R_below (by (with_reducible repeat (first | apply Kd.R_alloc | apply Kd.R_drewN | apply Kd.R_drew)); exact HO_6.out) hb)
                                    have n1_ := Aside0.mk (below_step (by repeat (first | (with_reducible first | exact HB.out | apply below_alloc | apply pw_below_drewN | apply below_drew1) | exact HB.out)) hb)
                                    clear HO_6
                                    clear HB
                                    have HO_6 := n0_
                                    have HB := n1_
                                    clear n0_ n1_
                                    (try clear hb)
                                    (try clear hb2)
                                    (try clear hk)
                                    (try clear hi)
                                    refine hK.out _ _ ⟨((HB.out.cell (World.block_lt_of_cell? w _ hw191_0)).trans hw191_0), ((HB.out.cell (World.block_lt_of_cell? w _ hw191_1)).trans hw191_1), ((HB.out.cell (World.block_lt_of_cell? w _ hw191_2)).trans hw191_2), ((HB.out.cell (World.block_lt_of_cell? w _ hw193_0)).trans hw193_0), ((HB.out.cell (World.block_lt_of_cell? w _ hw193_1)).trans hw193_1), ((HB.out.cell (World.block_lt_of_cell? w _ hw193_2)).trans hw193_2), HS6_⟩ (fun hHeld => ?_)
                                    clear hK K
                                    refine norm_ (a' := ?_) ?_ ?_
                                    rotate_left
                                    · show Act.put _ (some 93) _ = _
                                      simp only [Act.put, List.setIfInBounds_toArray, List.set_cons_zero, List.set_cons_succ, i64_w, i32_w]
                                      rfl
                                    refine pure_ (i := 18) (N := some 104) (v := ?_) (a' := ?_) #[true, true, true, true, true, true, true, true, true, true, true, true, true, true, true, true, true, true, true, false] rfl rfl (any_of HT_.out (by kernel_rfl)) (fun _ _ _ h => h) (Or.inl ⟨by rfl, ?_⟩) ?_ ?_
                                    rotate_left
                                    · intro w'
                                      go_simp
                                      with_reducible rfl
                                    rotate_left
                                    · simp only [Act.put, List.setIfInBounds_toArray, List.set_cons_zero, List.set_cons_succ, i64_w, i32_w]
                                      rfl
                                    refine pure_ (i := 19) (N := some 14) (v := ?_) (a' := ?_) #[true, true, true, true, true, true, true, true, true, true, true, true, true, true, true, true, true, true, true, true] rfl rfl (any_of HT_.out (by kernel_rfl)) (fun _ _ _ h => h) (Or.inl ⟨by rfl, ?_⟩) ?_ ?_
                                    rotate_left
                                    · intro w'
                                      go_simp
                                      with_reducible rfl
                                    rotate_left
                                    · simp only [Act.put, List.setIfInBounds_toArray, List.set_cons_zero, List.set_cons_succ, i64_w, i32_w]
                                      rfl
                                    refine done_ (done_of HT_.out (by kernel_rfl)) ?_
                                    have p195 : 0 ≤ (x13_4 : Int) := of_decide_eq_true (by first | (with_reducible assumption) | assumption)
                                    have q195 : x13_4 < (x6_4.length : Int) := of_decide_eq_true (by first | (with_reducible assumption) | assumption)
                                    obtain ⟨ad195, e195, hx195_0⟩ := Kd.at_int (Kd.R_reads' HO_6.out).2.2 x13_4 p195 q195
                                    obtain rfl : ad189 = ad195 := (by injection e195)
                                    replace p195 := eq_true p195
                                    replace q195 := eq_true q195
                                    have p28 : 0 ≤ (x13_4 : Int) := of_decide_eq_true (by first | (with_reducible assumption) | assumption)
                                    have q28 : (x13_4 : Int) < ((x6_4.length : Int) : Int) := of_decide_eq_true (by first | (with_reducible assumption) | assumption)
                                    obtain ⟨go28, co28, eo28, gb28, gl28, cl28, HG28⟩ := Kd.R_form HO_6.out (by omega)
                                    (first | cases eo28 | (injection eo28 with ea_ en_ ec_; (first | subst ea_ | (injection ea_ with ea_; subst ea_)); subst ec_; clear en_))
                                    have GB28 := Aside0.mk gb28
                                    have GG28 := Aside0.mk HG28
                                    clear gb28 gl28 HG28
                                    (first | simp only [add_plain] at hx189_0 | skip)
                                    (first | simp only [add_plain] at hx194_0 | skip)
                                    (first | simp only [add_plain] at hx195_0 | skip)
                                    obtain ⟨hx28_0, hf28_0⟩ := Kd.R_celln 0 HO_6.out (x13_4 : Int) p28 q28
                                    replace p28 := eq_true p28
                                    replace q28 := eq_true q28
                                    obtain ⟨hy33_, hz33_⟩ := Kd.R_celln 0 HO_6.out (x13_4 : Int) (of_decide_eq_true (by first | (with_reducible assumption) | assumption)) (of_decide_eq_true (by first | (with_reducible assumption) | assumption))
                                    have HP33 := Kd.R_putg HO_6.out (x13_4 : Int) (wrap64 ((rd x6_4 x13_4) + (ji27)))
                                    try go_wp2_with (first | ((with_reducible refine gate_store (t := 2) (p := 111) rfl ?_); refine store_event (t := 2) (p := 111) (v := ?vo_w34) (w1 := (w32.setCell ⟨go28, (x13_4 : Int).toNat, none⟩ (.int .i64 (wrap64 ((rd x6_4 x13_4) + (ji27)))))) ?hg ?ho ?hn ?hr ?_; (case ho => rfl); (case hg => rfl); (case hn => rfl); (case hr => first | (go_simp; done) | (go_simp; rfl)); intro w34 hw; have hg : w32.grownBy w34 (some go28) := (by rw [hw]; exact HP33.2); have hp_ : Kd.R (Kd.int .i64) 2 w34 w.heap.size (fun _ => True) (.slice (some ⟨go28, 0, none⟩) x6_4.length co30) y196 := (by rw [hw, Ny196.out]; exact HP33.1); clear HP33; have n0_ := Aside0.mk (hp_); have n1_ := Aside0.mk ((by rw [hw]; exact below_set (HB.out) GB28.out : Below w.heap.size w w34)); clear HO_6; clear HB; have HO_6 := n0_; have HB := n1_; clear n0_ n1_; clear hg hw hp_))
                                    go_roundg k4
                                    case measure => have := HK1.out; have := HK2.out; have := HK3.out; have := HK4.out; omega
                                    case rel => exact ⟨(y196), (wrap64 (x12_4 + (ji27))), (wrap64 (x13_4 + 1)), (by first | rfl | (simp; done) | (simp only [← hji27] <;> (first | rfl | simp)) | (simp [*]; done)), (by first | rfl | (simp; done) | (simp [*]; done)), H', ⟨by have := HK1.out; have := HK2.out; have := HK3.out; have := HK4.out; omega⟩, ⟨by (with_reducible repeat (first | apply Kd.R_alloc | apply Kd.R_drewN | apply Kd.R_drew)); exact HO_6.out⟩, ⟨by repeat (first | (with_reducible first | exact HB.out | apply below_alloc | apply pw_below_drewN | apply below_drew1) | exact HB.out)⟩⟩
                                  · rw [if_neg c25] at H
                                    have c25b0 : decide ((rd x6_4 x13_4) < ((rd_T31 l1 x13_4).f2)) = false := decide_eq_false c25
                                    clear c25
                                    have H' := Aside0.mk H
                                    clear H
                                    try go_wp2
                                    have n0_ := Aside0.mk (Kd.R_drew HO_6.out)
                                    have n1_ := Aside0.mk (below_drew1 HB.out)
                                    clear HO_6
                                    clear HB
                                    have HO_6 := n0_
                                    have HB := n1_
                                    clear n0_ n1_
                                    obtain ⟨Ao36, co36, eo36⟩ := Kd.R_slice HO_6.out
                                    (first | subst eo36 | (injection eo36 with f1_ f2_ f3_; have f4_ := f1_.symm; have f5_ := f3_.symm; clear f1_ f2_ f3_; subst f4_; subst f5_))
                                    have p189 : 0 ≤ (x13_4 : Int) := of_decide_eq_true (by first | (with_reducible assumption) | assumption)
                                    have q189 : x13_4 < (x6_4.length : Int) := of_decide_eq_true (by first | (with_reducible assumption) | assumption)
                                    obtain ⟨ad189, e189, hx189_0⟩ := Kd.at_int (Kd.R_reads' HO_6.out).2.2 x13_4 p189 q189
                                    cases e189
                                    replace p189 := eq_true p189
                                    replace q189 := eq_true q189
                                    have p190 : 0 ≤ (x13_4 : Int) := of_decide_eq_true (by first | (with_reducible assumption) | assumption)
                                    have q190 : x13_4 < (l1.length : Int) := of_decide_eq_true (by first | (with_reducible assumption) | assumption)
                                    obtain ⟨ad190, e190, hx190_0, hx190_1, hx190_2⟩ := at_T31 HR1.out x13_4 p190 q190
                                    have hw190_2 := hx190_2
                                    have hw190_1 := hx190_1
                                    have hw190_0 := hx190_0
                                    cases e190
                                    replace hx190_0 := (HB.out.cell (World.block_lt_of_cell? w _ hx190_0)).trans hx190_0
                                    replace hx190_1 := (HB.out.cell (World.block_lt_of_cell? w _ hx190_1)).trans hx190_1
                                    replace hx190_2 := (HB.out.cell (World.block_lt_of_cell? w _ hx190_2)).trans hx190_2
                                    replace p190 := eq_true p190
                                    replace q190 := eq_true q190
                                    refine start_ (n := 10) (S := fun w' => w'.cell? (ad189.add (x13_4).toNat) = some (.int .i64 (rd x6_4 x13_4)) ∧ w'.cell? (ad190.add ((x13_4).toNat * 3)) = some (.int .i64 ((rd_T31 l1 x13_4).f0)) ∧ w'.cell? ⟨(ad190.add ((x13_4).toNat * 3)).block, (ad190.add ((x13_4).toNat * 3)).off + 1, none⟩ = some (.int .i64 ((rd_T31 l1 x13_4).f1)) ∧ w'.cell? ⟨(ad190.add ((x13_4).toNat * 3)).block, (ad190.add ((x13_4).toNat * 3)).off + 2, none⟩ = some (.int .i64 ((rd_T31 l1 x13_4).f2))) (ds := []) #[false, false, false, false, false, false, false, false, false, false] (by kernel_rfl) rfl rfl ⟨hx189_0, ((HB.out.cell (World.block_lt_of_cell? w _ hw190_0)).trans hw190_0), ((HB.out.cell (World.block_lt_of_cell? w _ hw190_1)).trans hw190_1), ((HB.out.cell (World.block_lt_of_cell? w _ hw190_2)).trans hw190_2)⟩ (fun hHeld => ?_); refine with_tabW flywheelref27_Split.tab25 flywheelref27_Split.bits25 (fun HT_ HW_ => ?_)
                                    generalize wr.drew = w35 at HO_6 HB hx189_0 hx190_0 hx190_1 hx190_2 hHeld ⊢
                                    refine pure_ (i := 0) (N := some 76) (v := ?_) (a' := ?_) #[true, false, false, false, false, false, false, false, false, false] rfl rfl (any_of HT_.out (by kernel_rfl)) (fun _ _ _ h => h) (Or.inl ⟨by rfl, ?_⟩) ?_ ?_
                                    rotate_left
                                    · intro w'
                                      go_simp
                                      with_reducible rfl
                                    rotate_left
                                    · simp only [Act.put, List.setIfInBounds_toArray, List.set_cons_zero, List.set_cons_succ, i64_w, i32_w]
                                      rfl
                                    refine pure_ (i := 1) (N := some 77) (v := ?_) (a' := ?_) #[true, true, false, false, false, false, false, false, false, false] rfl rfl (any_of HT_.out (by kernel_rfl)) (fun _ _ _ h => h) (Or.inl ⟨by rfl, ?_⟩) ?_ ?_
                                    rotate_left
                                    · intro w'
                                      go_simp
                                      with_reducible rfl
                                    rotate_left
                                    · simp only [Act.put, List.setIfInBounds_toArray, List.set_cons_zero, List.set_cons_succ, i64_w, i32_w]
                                      rfl
                                    refine pure_ (i := 2) (N := some 78) (v := ?_) (a' := ?_) #[true, true, true, false, false, false, false, false, false, false] rfl rfl (any_of HT_.out (by kernel_rfl)) (fun _ _ _ h => h) (Or.inl ⟨by rfl, ?_⟩) ?_ ?_
                                    rotate_left
                                    · intro w'
                                      go_simp
                                      with_reducible rfl
                                    rotate_left
                                    · simp only [Act.put, List.setIfInBounds_toArray, List.set_cons_zero, List.set_cons_succ, i64_w, i32_w]
                                      rfl
                                    refine pure_ (i := 4) (N := some 80) (v := ?_) (a' := ?_) #[true, true, true, false, true, false, false, false, false, false] rfl rfl (any_of HT_.out (by kernel_rfl)) (fun _ _ _ h => h) (Or.inl ⟨by rfl, ?_⟩) ?_ ?_
                                    rotate_left
                                    · intro w'
                                      go_simp
                                      with_reducible rfl
                                    rotate_left
                                    · simp only [Act.put, List.setIfInBounds_toArray, List.set_cons_zero, List.set_cons_succ, i64_w, i32_w]
                                      rfl
                                    refine pure_ (i := 5) (N := some 81) (v := ?_) (a' := ?_) #[true, true, true, false, true, true, false, false, false, false] rfl rfl (any_of HT_.out (by kernel_rfl)) (fun _ _ _ h => h) (Or.inl ⟨by rfl, ?_⟩) ?_ ?_
                                    rotate_left
                                    · intro w'
                                      go_simp
                                      with_reducible rfl
                                    rotate_left
                                    · simp only [Act.put, List.setIfInBounds_toArray, List.set_cons_zero, List.set_cons_succ, i64_w, i32_w]
                                      rfl
                                    refine pure_ (i := 6) (N := some 82) (v := ?_) (a' := ?_) #[true, true, true, false, true, true, true, false, false, false] rfl rfl (any_of HT_.out (by kernel_rfl)) (fun _ _ _ h => h) (Or.inl ⟨by rfl, ?_⟩) ?_ ?_
                                    rotate_left
                                    · intro w'
                                      go_simp
                                      with_reducible rfl
                                    rotate_left
                                    · simp only [Act.put, List.setIfInBounds_toArray, List.set_cons_zero, List.set_cons_succ, i64_w, i32_w]
                                      rfl
                                    refine pure_ (i := 7) (N := some 83) (v := ?_) (a' := ?_) #[true, true, true, false, true, true, true, true, false, false] rfl rfl (any_of HT_.out (by kernel_rfl)) (fun _ _ _ h => h) (Or.inl ⟨by rfl, ?_⟩) ?_ ?_
                                    rotate_left
                                    · intro w'
                                      go_simp
                                      with_reducible rfl
                                    rotate_left
                                    · simp only [Act.put, List.setIfInBounds_toArray, List.set_cons_zero, List.set_cons_succ, i64_w, i32_w]
                                      rfl
                                    refine take_ (i := 3) (N := some 79) (v := ?_) (a' := ?_) #[true, true, true, true, true, true, true, true, false, false] rfl rfl (take_ofW HT_.out HW_.out (by kernel_rfl)) (fun _ _ _ h => h) (Or.inl ⟨by rfl, ?_⟩) hHeld ?_ ?_
                                    rotate_left
                                    · rintro w' ⟨s0, s1, s2, s3⟩
                                      go_simp
                                      with_reducible rfl
                                    rotate_left
                                    · simp only [Act.put, List.setIfInBounds_toArray, List.set_cons_zero, List.set_cons_succ, i64_w, i32_w]
                                      rfl
                                    refine take_ (i := 8) (N := some 84) (v := ?_) (a' := ?_) #[true, true, true, true, true, true, true, true, true, false] rfl rfl (take_ofW HT_.out HW_.out (by kernel_rfl)) (fun _ _ _ h => h) (Or.inl ⟨by rfl, ?_⟩) hHeld ?_ ?_
                                    rotate_left
                                    · rintro w' ⟨s0, s1, s2, s3⟩
                                      go_simp
                                      with_reducible rfl
                                    rotate_left
                                    · simp only [Act.put, List.setIfInBounds_toArray, List.set_cons_zero, List.set_cons_succ, i64_w, i32_w]
                                      rfl
                                    refine pure_ (i := 9) (N := some 85) (v := ?_) (a' := ?_) #[true, true, true, true, true, true, true, true, true, true] rfl rfl (any_of HT_.out (by kernel_rfl)) (fun _ _ _ h => h) (Or.inl ⟨by rfl, ?_⟩) ?_ ?_
                                    rotate_left
                                    · intro w'
                                      go_simp
                                      with_reducible rfl
                                    rotate_left
                                    · simp only [Act.put, List.setIfInBounds_toArray, List.set_cons_zero, List.set_cons_succ, i64_w, i32_w]
                                      rfl
                                    refine done_ (done_of HT_.out (by kernel_rfl)) ?_
                                    try go_wp2
                                    go_roundg k4
                                    case measure => have := HK1.out; have := HK2.out; have := HK3.out; have := HK4.out; omega
                                    case rel => exact ⟨(x6_4), (x12_4), (wrap64 (x13_4 + 1)), (by first | rfl | (simp; done) | (simp [*]; done)), (by first | rfl | (simp; done) | (simp [*]; done)), H', ⟨by have := HK1.out; have := HK2.out; have := HK3.out; have := HK4.out; omega⟩, ⟨by (with_reducible repeat (first | apply Kd.R_alloc | apply Kd.R_drewN | apply Kd.R_drew)); exact HO_6.out⟩, ⟨by repeat (first | (with_reducible first | exact HB.out | apply below_alloc | apply pw_below_drewN | apply below_drew1) | exact HB.out)⟩⟩
                                · rw [if_neg c24] at H
                                  exact absurd H (by simp)
                              · rw [if_neg c23] at H
                                exact absurd H (by simp)
                            · rw [if_neg c22] at H
                              have c22b0 : decide (x13_4 < (l1.length : Int)) = false := decide_eq_false c22
                              clear c22
                              by_cases c37 : x12_4 = 0
                              · rw [if_pos c37] at H
                                have c37b0 : (x12_4 == 0) = true := beq_iff_eq.mpr c37
                                have c37b1 : (x12_4 != 0) = false := bne_eq_false_iff_eq.mpr c37
                                clear c37
                                by_cases c38 : 0 ≤ x10_3
                                · rw [if_pos c38] at H
                                  have c38b0 : decide (0 ≤ x10_3) = true := decide_eq_true c38
                                  clear c38
                                  by_cases c39 : x10_3 < (x6_4.length : Int)
                                  · rw [if_pos c39] at H
                                    have c39b0 : decide (x10_3 < (x6_4.length : Int)) = true := decide_eq_true c39
                                    clear c39
                                    obtain ⟨y198, hy198⟩ : ∃ y_ : List Int, y_ = (x6_4.set (x10_3 : Int).toNat (wrap64 ((rd x6_4 x10_3) + 1))) := ⟨_, rfl⟩
                                    replace H : (flywheelref27_Split.l1 k4 l1 (wrap64 (x5_2 - 1)) y198) = some r := by first | (rw [hy198]; with_reducible exact H) | (have H2_ := (Option.bind_some _ _).symm.trans H; rw [hy198]; with_reducible exact H2_) | (have H2_ := (Option.bind_some _ _).symm.trans H; with_reducible exact H2_) | with_reducible exact H | (rw [hy198]; exact H) | exact H
                                    have Ny198 := Aside0.mk hy198
                                    clear hy198
                                    have H' := Aside0.mk H
                                    clear H
                                    obtain ⟨Ao41, co41, eo41⟩ := Kd.R_slice HO_6.out
                                    subst eo41
                                    have p197 : 0 ≤ (x10_3 : Int) := of_decide_eq_true (by first | (with_reducible assumption) | assumption)
                                    have q197 : x10_3 < (x6_4.length : Int) := of_decide_eq_true (by first | (with_reducible assumption) | assumption)
                                    obtain ⟨ad197, e197, hx197_0⟩ := Kd.at_int (Kd.R_reads' HO_6.out).2.2 x10_3 p197 q197
                                    cases e197
                                    replace p197 := eq_true p197
                                    replace q197 := eq_true q197
                                    have p40 : 0 ≤ (x10_3 : Int) := of_decide_eq_true (by first | (with_reducible assumption) | assumption)
                                    have q40 : (x10_3 : Int) < ((x6_4.length : Int) : Int) := of_decide_eq_true (by first | (with_reducible assumption) | assumption)
                                    obtain ⟨go40, co40, eo40, gb40, gl40, cl40, HG40⟩ := Kd.R_form HO_6.out (by omega)
                                    (first | cases eo40 | (injection eo40 with ea_ en_ ec_; (first | subst ea_ | (injection ea_ with ea_; subst ea_)); subst ec_; clear en_))
                                    have GB40 := Aside0.mk gb40
                                    have GG40 := Aside0.mk HG40
                                    clear gb40 gl40 HG40
                                    (first | simp only [add_plain] at hx197_0 | skip)
                                    obtain ⟨hx40_0, hf40_0⟩ := Kd.R_celln 0 HO_6.out (x10_3 : Int) p40 q40
                                    replace p40 := eq_true p40
                                    replace q40 := eq_true q40
                                    have HP42 := Kd.R_putg HO_6.out (x10_3 : Int) (wrap64 ((rd x6_4 x10_3) + 1))
                                    go_wp2_with (first | ((with_reducible refine gate_store (t := 2) (p := 122) rfl ?_); refine store_event (t := 2) (p := 122) (v := ?vo_w43) (w1 := (wr.setCell ⟨go40, (x10_3 : Int).toNat, none⟩ (.int .i64 (wrap64 ((rd x6_4 x10_3) + 1))))) ?hg ?ho ?hn ?hr ?_; (case ho => rfl); (case hg => rfl); (case hn => rfl); (case hr => first | (go_simp; done) | (go_simp; rfl)); intro w43 hw; have hg : wr.grownBy w43 (some go40) := (by rw [hw]; exact HP42.2); have hp_ : Kd.R (Kd.int .i64) 2 w43 w.heap.size (fun _ => True) (.slice (some ⟨go40, 0, none⟩) x6_4.length co41) y198 := (by rw [hw, Ny198.out]; exact HP42.1); clear HP42; have n0_ := Aside0.mk (hp_); have n1_ := Aside0.mk ((by rw [hw]; exact below_set (HB.out) GB40.out : Below w.heap.size w w43)); clear HO_6; clear HB; have HO_6 := n0_; have HB := n1_; clear n0_ n1_; clear hg hw hp_))
                                    go_roundg k4
                                    case measure => have := HK1.out; have := HK2.out; have := HK3.out; have := HK4.out; omega
                                    case rel => exact ⟨(wrap64 (x5_2 - 1)), (y198), (by first | rfl | (simp; done) | (simp [*]; done)), H', ⟨by have := HK1.out; have := HK2.out; have := HK3.out; have := HK4.out; omega⟩, ⟨by (with_reducible repeat (first | apply Kd.R_alloc | apply Kd.R_drewN | apply Kd.R_drew)); exact HO_6.out⟩, ⟨by repeat (first | (with_reducible first | exact HB.out | apply below_alloc | apply pw_below_drewN | apply below_drew1) | exact HB.out)⟩⟩
                                  · rw [if_neg c39] at H
                                    exact absurd H (by simp)
                                · rw [if_neg c38] at H
                                  exact absurd H (by simp)
                              · rw [if_neg c37] at H
                                have c37b0 : (x12_4 == 0) = false := beq_eq_false_iff_ne.mpr c37
                                have c37b1 : (x12_4 != 0) = true := bne_iff_ne.mpr c37
                                have H' := Aside0.mk H
                                clear H
                                go_wp2
                                go_roundg k4
                                case measure => have := HK1.out; have := HK2.out; have := HK3.out; have := HK4.out; omega
                                case rel => exact ⟨(wrap64 (x5_2 - x12_4)), (x6_4), (by first | rfl | (simp; done) | (simp [*]; done)), H', ⟨by have := HK1.out; have := HK2.out; have := HK3.out; have := HK4.out; omega⟩, ⟨by (with_reducible repeat (first | apply Kd.R_alloc | apply Kd.R_drewN | apply Kd.R_drew)); exact HO_6.out⟩, ⟨by repeat (first | (with_reducible first | exact HB.out | apply below_alloc | apply pw_below_drewN | apply below_drew1) | exact HB.out)⟩⟩
              · rw [if_neg c11] at H
                have c11b0 : decide (0 < x5_2) = false := decide_eq_false c11
                clear c11
                obtain rfl := Option.some.inj H
                go_wp2
                go_ret
                exact ⟨_, by first | rfl | (simp [errW_none, errW_some] <;> rfl) | (simp [*, errW_none, errW_some] <;> rfl), by (with_reducible repeat (first | apply Kd.R_alloc | apply Kd.R_drewN | apply Kd.R_drew)); exact HO_6.out, by repeat (first | (with_reducible first | exact HB.out | apply below_alloc | apply pw_below_drewN | apply below_drew1) | exact HB.out)⟩
  · replace c4 := Bool.eq_false_iff.mpr c4
    subst c4
    have H1 : (some ([] : List Int)) = some r := by rw [if_neg (show ¬ (false = true) by decide)] at H; exact H
    clear H
    have H := H1
    clear H1
    obtain rfl := Option.some.inj H
    go_enter Try.func19, Try.ntmps19
    go_wp2_with (first | ((with_reducible refine gate_callee (f := 16) rfl ?_); refine goesL_ (some 16) rfl rfl Try.func16 (by kernel_rfl) rfl #[.slice A1 l1.length c1] rfl (by (try simp only [List.map_toArray, List.map_cons, List.map_nil]); first | done | rfl | (simp only [List.length_drop, List.length_take]; rfl)) ?_; (with_reducible refine (flywheelref27_Good.calls k _ _ l1 false _ ?side1 ?side2 A3.out).mono ?_); (case side1 => repeat (first | exact HR1.out | (with_reducible refine Kd.C_alloc ?_ _) | (with_reducible refine Kd.C_drewN ?_ _) | (with_reducible refine Kd.C_drew ?_))); (case side2 => exact HC1.out); rintro e w' ⟨rfl, ⟨nd, rfl⟩⟩; refine ⟨_, rfl, ?_⟩))
    go_ret
    exact ⟨_, by first | rfl | (simp [errW_none, errW_some] <;> rfl) | (simp [*, errW_none, errW_some] <;> rfl), by first | exact Kd.R_nil _ _ _ _ _ | exact Kd.N_nil _ _ _ _ _ | exact Kd.V_nil _ _ _ _ _ | exact Kd.Q_nil _ _ _ _ _ | exact Kd.S_nil _ _ _ _ _, by repeat (first | (with_reducible first | exact HB.out | apply below_alloc | apply pw_below_drewN | apply below_drew1) | exact HB.out)⟩
end Go.Proofs.Ytlgfnclgkhfhpaa.P
end

section
namespace Go.Proofs.Ytlgfnclgkhfhpaa.P
open Go.RowKit Go.Proofs.YtlgfnclgkhfhpaaW.PrintWords Go.Proofs.YtlgfnclgkhfhpaaW.PrintLast Go.Proofs.YtlgfnclgkhfhpaaW.PrintMore
attribute [local go_sem] max2_int min2_int max_two min_two max_three min_three max_four min_four   -- for this text's walks alone
set_option linter.unusedVariables false
set_option linter.unusedSimpArgs false
def alloc_Share.l0 : Nat → Int → Int → List (S67) → List Int → Int → Int → Option ((List (S67)) × Int)
  | 0, _, _, _, _, _, _ => none
  | k + 1, x3, x10, x11, x30, x31, x32 => if x32 < x31 then (if 0 ≤ x32 then (if x32 < (x30.length : Int) then ((muldiv_Do.f (rd x30 x32) x10 256 1).bind fun t287 => (if x11.length < 8796093022208 then (alloc_Share.l0 k x3 x10 (x11 ++ [(⟨wrap64 ((rd x30 x32) - t287), t287⟩ : S67)]) x30 x31 (wrap64 (x32 + 1))) else (none))) else (none)) else (none)) else (some (x11, x3))
def alloc_Share.f (k : Nat) (a0 : Int) (l1 : List (S31)) (a2 : Int) (a3 : Int) : Option ((List (S67)) × Int) := (alloc_Good.f k l1).bind fun t279 => (if t279 = true then ((sat_Clamp.f a0 0 17179869184).bind fun t280 => ((sat_Clamp.f a3 0 (wrap64 (Int.tdiv t280 4))).bind fun t281 => ((sat_Clamp.f a2 0 128).bind fun t282 => ((alloc_Split.f k (wrap64 (t280 - t281)) l1).bind fun t283 => (alloc_Share.l0 k t281 t282 ([] : List (S67)) t283 (t283.length : Int) 0))))) else (some (([] : List (S67)), 0)))
set_option maxHeartbeats 8000000 in
set_option maxRecDepth 100000 in
theorem alloc_Share.calls (k : Nat) (a0 : Int) (A1 : Option Addr) (c1 : Nat) (l1 : List (S31)) (a2 : Int) (a3 : Int) (r1 : List (S67)) (r2 : Int) (w : World) (hr1 : Kd.C k31 w A1 l1.length l1) (hc1 : l1.length ≤ c1) (h : alloc_Share.f k a0 l1 a2 a3 = some (r1, r2)) :
    Calls Try.prog 36 #[.int .i64 a0, .slice A1 l1.length c1, .int .i64 a2, .int .i64 a3] w fun e w' => ∃ v0_ : Value, e = .returned (.tuple #[v0_, .int .i64 r2]) ∧ Kd.R k67 67 w' w.heap.size (fun _ => True) v0_ r1 ∧ Below w.heap.size w w' := by
  have hu67 := Try.underlying67
  have HR1 := Aside0.mk hr1
  have HC1 := Aside0.mk hc1
  clear hr1 hc1
  have HB := Aside0.mk (Below.refl w.heap.size w)
  have H : ((alloc_Good.f k l1).bind fun t279 => (if t279 = true then ((sat_Clamp.f a0 0 17179869184).bind fun t280 => ((sat_Clamp.f a3 0 (wrap64 (Int.tdiv t280 4))).bind fun t281 => ((sat_Clamp.f a2 0 128).bind fun t282 => ((alloc_Split.f k (wrap64 (t280 - t281)) l1).bind fun t283 => (alloc_Share.l0 k t281 t282 ([] : List (S67)) t283 (t283.length : Int) 0))))) else (some (([] : List (S67)), 0)))) = some (r1, r2) := h
  clear h
  replace H := Option.bind_eq_some_iff.mp H
  obtain ⟨t279, A50, H⟩ := H
  replace H : (if t279 = true then ((sat_Clamp.f a0 0 17179869184).bind fun t280 => ((sat_Clamp.f a3 0 (wrap64 (Int.tdiv t280 4))).bind fun t281 => ((sat_Clamp.f a2 0 128).bind fun t282 => ((alloc_Split.f k (wrap64 (t280 - t281)) l1).bind fun t283 => (alloc_Share.l0 k t281 t282 ([] : List (S67)) t283 (t283.length : Int) 0))))) else (some (([] : List (S67)), 0))) = some (r1, r2) := H
  have A5 := Aside0.mk A50
  clear A50
  by_cases c6 : t279 = true
  · subst c6
    have H1 : ((sat_Clamp.f a0 0 17179869184).bind fun t280 => ((sat_Clamp.f a3 0 (wrap64 (Int.tdiv t280 4))).bind fun t281 => ((sat_Clamp.f a2 0 128).bind fun t282 => ((alloc_Split.f k (wrap64 (t280 - t281)) l1).bind fun t283 => (alloc_Share.l0 k t281 t282 ([] : List (S67)) t283 (t283.length : Int) 0))))) = some (r1, r2) := by rw [if_pos rfl] at H; exact H
    clear H
    have H := H1
    clear H1
    replace H := Option.bind_eq_some_iff.mp H
    obtain ⟨t280, A70, H⟩ := H
    replace H : ((sat_Clamp.f a3 0 (wrap64 (Int.tdiv t280 4))).bind fun t281 => ((sat_Clamp.f a2 0 128).bind fun t282 => ((alloc_Split.f k (wrap64 (t280 - t281)) l1).bind fun t283 => (alloc_Share.l0 k t281 t282 ([] : List (S67)) t283 (t283.length : Int) 0)))) = some (r1, r2) := H
    have A7 := Aside0.mk A70
    clear A70
    replace H := Option.bind_eq_some_iff.mp H
    obtain ⟨t281, A80, H⟩ := H
    replace H : ((sat_Clamp.f a2 0 128).bind fun t282 => ((alloc_Split.f k (wrap64 (t280 - t281)) l1).bind fun t283 => (alloc_Share.l0 k t281 t282 ([] : List (S67)) t283 (t283.length : Int) 0))) = some (r1, r2) := H
    have A8 := Aside0.mk A80
    clear A80
    replace H := Option.bind_eq_some_iff.mp H
    obtain ⟨t282, A90, H⟩ := H
    replace H : ((alloc_Split.f k (wrap64 (t280 - t281)) l1).bind fun t283 => (alloc_Share.l0 k t281 t282 ([] : List (S67)) t283 (t283.length : Int) 0)) = some (r1, r2) := H
    have A9 := Aside0.mk A90
    clear A90
    replace H := Option.bind_eq_some_iff.mp H
    obtain ⟨t283, A100, H⟩ := H
    replace H : (alloc_Share.l0 k t281 t282 ([] : List (S67)) t283 (t283.length : Int) 0) = some (r1, r2) := H
    have A10 := Aside0.mk A100
    clear A100
    have H' := Aside0.mk H
    clear H
    go_enter Try.func36, Try.ntmps36
    go_wp2_with (first | ((with_reducible refine gate_callee (f := 14) rfl ?_); refine goesL_ (some 16) rfl rfl Try.func14 (by kernel_rfl) rfl #[.slice A1 l1.length c1] rfl (by (try simp only [List.map_toArray, List.map_cons, List.map_nil]); first | done | rfl | (simp only [List.length_drop, List.length_take]; rfl)) ?_; (with_reducible refine (alloc_Good.calls k _ _ l1 true _ ?side1 ?side2 A5.out).mono ?_); (case side1 => repeat (first | exact HR1.out | (with_reducible refine Kd.C_alloc ?_ _) | (with_reducible refine Kd.C_drewN ?_ _) | (with_reducible refine Kd.C_drew ?_))); (case side2 => exact HC1.out); rintro e w11 ⟨rfl, hb⟩; refine ⟨_, rfl, ?_⟩; have n0_ := Aside0.mk (below_step (by repeat (first | (with_reducible first | exact HB.out | apply below_alloc | apply pw_below_drewN | apply below_drew1) | exact HB.out)) hb); clear HB; have HB := n0_; clear n0_; (try clear hb); (try clear hb2); (try clear hk); (try clear hi)) | ((with_reducible refine gate_callee (f := 39) rfl ?_); refine goesL_ (some 19) rfl rfl Try.func39 (by kernel_rfl) rfl #[.int .i64 a0, .int .i64 0, .int .i64 17179869184] rfl (by (try simp only [List.map_toArray, List.map_cons, List.map_nil]); first | done | rfl | (simp only [List.length_drop, List.length_take]; rfl)) ?_; (with_reducible refine (sat_Clamp.calls a0 0 17179869184 t280 _ A7.out).mono ?_); rintro e w' ⟨rfl, ⟨nd, rfl⟩⟩; refine ⟨_, rfl, ?_⟩) | ((with_reducible refine gate_callee (f := 39) rfl ?_); refine goesL_ (some 23) rfl rfl Try.func39 (by kernel_rfl) rfl #[.int .i64 a3, .int .i64 0, .int .i64 (wrap64 (Int.tdiv t280 4))] rfl (by (try simp only [List.map_toArray, List.map_cons, List.map_nil]); first | done | rfl | (simp only [List.length_drop, List.length_take]; rfl)) ?_; (with_reducible refine (sat_Clamp.calls a3 0 (wrap64 (Int.tdiv t280 4)) t281 _ A8.out).mono ?_); rintro e w' ⟨rfl, ⟨nd, rfl⟩⟩; refine ⟨_, rfl, ?_⟩) | ((with_reducible refine gate_callee (f := 39) rfl ?_); refine goesL_ (some 25) rfl rfl Try.func39 (by kernel_rfl) rfl #[.int .i64 a2, .int .i64 0, .int .i64 128] rfl (by (try simp only [List.map_toArray, List.map_cons, List.map_nil]); first | done | rfl | (simp only [List.length_drop, List.length_take]; rfl)) ?_; (with_reducible refine (sat_Clamp.calls a2 0 128 t282 _ A9.out).mono ?_); rintro e w' ⟨rfl, ⟨nd, rfl⟩⟩; refine ⟨_, rfl, ?_⟩) | ((with_reducible refine gate_callee (f := 18) rfl ?_); refine goesL_ (some 30) rfl rfl Try.func18 (by kernel_rfl) rfl #[.int .i64 (wrap64 (t280 - t281)), .slice A1 l1.length c1] rfl (by (try simp only [List.map_toArray, List.map_cons, List.map_nil]); first | done | rfl | (simp only [List.length_drop, List.length_take]; rfl)) ?_; (with_reducible refine (alloc_Split.calls k (wrap64 (t280 - t281)) _ _ l1 t283 _ ?side1 ?side2 A10.out).mono ?_); (case side1 => repeat (first | exact (Kd.C_below HR1.out (by repeat (first | (with_reducible first | exact HB.out | apply below_alloc | apply pw_below_drewN | apply below_drew1) | exact HB.out))) | (with_reducible refine Kd.C_alloc ?_ _) | (with_reducible refine Kd.C_drewN ?_ _) | (with_reducible refine Kd.C_drew ?_))); (case side2 => exact HC1.out); rintro e w12 ⟨v284, rfl, ho0, hb⟩; refine ⟨_, rfl, ?_⟩; have n0_ := Aside0.mk (Kd.R_lower ho0 (below_size (by repeat (first | (with_reducible first | exact HB.out | apply below_alloc | apply pw_below_drewN | apply below_drew1) | exact HB.out)))); have n1_ := Aside0.mk (below_step (by repeat (first | (with_reducible first | exact HB.out | apply below_alloc | apply pw_below_drewN | apply below_drew1) | exact HB.out)) hb); clear HB; have HO285 := n0_; have HB := n1_; clear n0_ n1_; (try clear hb); (try clear hb2); (try clear hk); (try clear hi); (try clear ho0); obtain ⟨Ao13, co13, eo13⟩ := Kd.R_slice HO285.out; subst eo13))
    go_loopg [11, 32] k (fun kq v11 v32 w' => ∃ (x11_1 : List (S67)) (x32_1 : Int), v32 = .int .i64 x32_1 ∧ Aside0 (alloc_Share.l0 kq t281 t282 x11_1 t283 (t283.length : Int) x32_1 = some (r1, r2)) ∧ Aside0 (kq ≤ k) ∧ Aside0 (Kd.R k67 67 w' w.heap.size (fun _ => True) v11 x11_1) ∧ Aside0 (Kd.R (Kd.int .i64) 2 w' w.heap.size (fun _ => True) (.slice Ao13 t283.length co13) t283) ∧ Aside0 (Below w.heap.size w w'))
    case atStart => exact ⟨(([] : List (S67))), (0), (by first | rfl | (simp; done) | (simp [*]; done)), H', ⟨Nat.le_refl _⟩, ⟨by first | exact Kd.R_nil _ _ _ _ _ | exact Kd.N_nil _ _ _ _ _ | exact Kd.V_nil _ _ _ _ _ | exact Kd.Q_nil _ _ _ _ _ | exact Kd.S_nil _ _ _ _ _⟩, ⟨by (with_reducible repeat (first | apply Kd.R_alloc | apply Kd.R_drewN | apply Kd.R_drew)); exact HO285.out⟩, ⟨by repeat (first | (with_reducible first | exact HB.out | apply below_alloc | apply pw_below_drewN | apply below_drew1) | exact HB.out)⟩⟩
    case round =>
      clear H'
      try clear c1
      try clear p2
      try clear c3
      try clear c6
      try clear p6
      obtain ⟨x11_1, x32_1, rfl, HA, HK1, HO_11, HO_30, HB⟩ := hrel
      cases gk with
      | zero => exact absurd HA.out (by simp [alloc_Share.l0])
      | succ k1 =>
        have H := HA.out
        clear HA
        simp only [alloc_Share.l0] at H
        by_cases c14 : x32_1 < (t283.length : Int)
        · rw [if_pos c14] at H
          have c14b0 : decide (x32_1 < (t283.length : Int)) = true := decide_eq_true c14
          clear c14
          by_cases c15 : 0 ≤ x32_1
          · rw [if_pos c15] at H
            have c15b0 : decide (0 ≤ x32_1) = true := decide_eq_true c15
            clear c15
            by_cases c16 : x32_1 < (t283.length : Int)
            · rw [if_pos c16] at H
              have c16b0 : decide (x32_1 < (t283.length : Int)) = true := decide_eq_true c16
              clear c16
              replace H := Option.bind_eq_some_iff.mp H
              obtain ⟨t287, A170, H⟩ := H
              replace H : (if x11_1.length < 8796093022208 then (alloc_Share.l0 k1 t281 t282 (x11_1 ++ [(⟨wrap64 ((rd t283 x32_1) - t287), t287⟩ : S67)]) t283 (t283.length : Int) (wrap64 (x32_1 + 1))) else (none)) = some (r1, r2) := H
              have A17 := Aside0.mk A170
              clear A170
              by_cases c18 : x11_1.length < 8796093022208
              · rw [if_pos c18] at H
                have LMc18 := Aside0.mk c18
                clear c18
                obtain ⟨y288, hy288⟩ : ∃ y_ : List (S67), y_ = (x11_1 ++ [(⟨wrap64 ((rd t283 x32_1) - t287), t287⟩ : S67)]) := ⟨_, rfl⟩
                replace H : (alloc_Share.l0 k1 t281 t282 y288 t283 (t283.length : Int) (wrap64 (x32_1 + 1))) = some (r1, r2) := by first | (rw [hy288]; with_reducible exact H) | (have H2_ := (Option.bind_some _ _).symm.trans H; rw [hy288]; with_reducible exact H2_) | (have H2_ := (Option.bind_some _ _).symm.trans H; with_reducible exact H2_) | with_reducible exact H | (rw [hy288]; exact H) | exact H
                have Ny288 := Aside0.mk hy288
                clear hy288
                have H' := Aside0.mk H
                clear H
                have p286 : 0 ≤ (x32_1 : Int) := of_decide_eq_true (by first | (with_reducible assumption) | assumption)
                have q286 : x32_1 < (t283.length : Int) := of_decide_eq_true (by first | (with_reducible assumption) | assumption)
                obtain ⟨ad286, e286, hx286_0⟩ := Kd.at_int (Kd.R_reads' HO_30.out).2.2 x32_1 p286 q286
                cases e286
                replace p286 := eq_true p286
                replace q286 := eq_true q286
                go_wp2_with (first | ((with_reducible refine gate_callee (f := 50) rfl ?_); refine goesL_ (some 38) rfl rfl Try.func50 (by kernel_rfl) rfl #[.int .i64 (rd t283 x32_1), .int .i64 t282, .int .i64 256, .int .i64 1] rfl (by (try simp only [List.map_toArray, List.map_cons, List.map_nil]); first | done | rfl | (simp only [List.length_drop, List.length_take]; rfl)) ?_; (with_reducible refine (muldiv_Do.calls (rd t283 x32_1) t282 256 1 t287 _ A17.out).mono ?_); rintro e w19 ⟨rfl, hb⟩; refine ⟨_, rfl, ?_⟩; have n0_ := Aside0.mk (Kd.R_below (by (with_reducible repeat (first | apply Kd.R_alloc | apply Kd.R_drewN | apply Kd.R_drew)); exact HO_11.out) hb); have n1_ := Aside0.mk (Kd.R_below (by (with_reducible repeat (first | apply Kd.R_alloc | apply Kd.R_drewN | apply Kd.R_drew)); exact HO_30.out) hb); have n2_ := Aside0.mk (below_step (by repeat (first | (with_reducible first | exact HB.out | apply below_alloc | apply pw_below_drewN | apply below_drew1) | exact HB.out)) hb); clear HO_11; clear HO_30; clear HB; have HO_11 := n0_; have HO_30 := n1_; have HB := n2_; clear n0_ n1_ n2_; (try clear hb); (try clear hb2); (try clear hk); (try clear hi)) | ((with_reducible refine gate_builtin (b := .append) (xs := #[.tmp 39, .tmp 45]) rfl ?_); at_builtin; refine Kd.R_append k67 (w0 := w) w.heap.size rfl (.tmp 39) (.tmp 45) 58 67 (.agg #[(.int .i64 0), (.int .i64 0)]) 16 rfl Try.underlying58 info67 rfl (by decide) (by omega) u11 x11_1 (⟨wrap64 ((rd t283 x32_1) - t287), t287⟩ : S67) [.int .i64 (wrap64 ((rd t283 x32_1) - t287)), .int .i64 t287] (fun _ => True) (fun _ => False) rfl rfl ?aP (fun _ hk => hk.elim) ?aF ?aO ?aB ?aS ?aL ?_; (case aP => exact k67_mkM _ _ _ (⟨wrap64 ((rd t283 x32_1) - t287), t287⟩ : S67)); (case aB => exact (by repeat (first | (with_reducible first | exact HB.out | apply below_alloc | apply pw_below_drewN | apply below_drew1) | exact HB.out))); (case aF => exact (fun _ _ => trivial)); (case aO => exact (by (with_reducible repeat (first | apply Kd.R_alloc | apply Kd.R_drewN | apply Kd.R_drew)); exact HO_11.out)); (case aS => exact (below_size (by repeat (first | (with_reducible first | exact HB.out | apply below_alloc | apply pw_below_drewN | apply below_drew1) | exact HB.out)))); (case aL => have := LMc18.out; omega); intro v289 w20 ho hb hg hat; rw [← Ny288.out] at ho; have n0_ := Aside0.mk (Kd.R_over' (by (with_reducible repeat (first | apply Kd.R_alloc | apply Kd.R_drewN | apply Kd.R_drew)); exact HO_30.out) (Kd.R_typed (by (with_reducible repeat (first | apply Kd.R_alloc | apply Kd.R_drewN | apply Kd.R_drew)); exact HO_11.out)) (by decide) hg); have n1_ := Aside0.mk (hb); have n2_ := Aside0.mk (ho); clear HO_30; clear HB; clear HO_11; have HO_30 := n0_; have HB := n1_; have HO290 := n2_; clear n0_ n1_ n2_; clear ho hb hg hat))
                go_roundg k1
                case measure => have := HK1.out; omega
                case rel => exact ⟨(y288), (wrap64 (x32_1 + 1)), (by first | rfl | (simp; done) | (simp [*]; done)), H', ⟨by have := HK1.out; omega⟩, ⟨by (with_reducible repeat (first | apply Kd.R_alloc | apply Kd.R_drewN | apply Kd.R_drew)); exact HO290.out⟩, ⟨by (with_reducible repeat (first | apply Kd.R_alloc | apply Kd.R_drewN | apply Kd.R_drew)); exact HO_30.out⟩, ⟨by repeat (first | (with_reducible first | exact HB.out | apply below_alloc | apply pw_below_drewN | apply below_drew1) | exact HB.out)⟩⟩
              · rw [if_neg c18] at H
                exact absurd H (by simp)
            · rw [if_neg c16] at H
              exact absurd H (by simp)
          · rw [if_neg c15] at H
            exact absurd H (by simp)
        · rw [if_neg c14] at H
          have c14b0 : decide (x32_1 < (t283.length : Int)) = false := decide_eq_false c14
          clear c14
          simp only [Option.some.injEq, Prod.mk.injEq] at H
          obtain ⟨rfl, rfl⟩ := H
          go_wp2
          go_ret2
          exact ⟨_, by first | rfl | (simp [errW_none, errW_some] <;> rfl) | (simp [*, errW_none, errW_some] <;> rfl), by (with_reducible repeat (first | apply Kd.R_alloc | apply Kd.R_drewN | apply Kd.R_drew)); exact HO_11.out, by repeat (first | (with_reducible first | exact HB.out | apply below_alloc | apply pw_below_drewN | apply below_drew1) | exact HB.out)⟩
  · replace c6 := Bool.eq_false_iff.mpr c6
    subst c6
    have H1 : (some (([] : List (S67)), 0)) = some (r1, r2) := by rw [if_neg (show ¬ (false = true) by decide)] at H; exact H
    clear H
    have H := H1
    clear H1
    simp only [Option.some.injEq, Prod.mk.injEq] at H
    obtain ⟨rfl, rfl⟩ := H
    go_enter Try.func36, Try.ntmps36
    go_wp2_with (first | ((with_reducible refine gate_callee (f := 14) rfl ?_); refine goesL_ (some 16) rfl rfl Try.func14 (by kernel_rfl) rfl #[.slice A1 l1.length c1] rfl (by (try simp only [List.map_toArray, List.map_cons, List.map_nil]); first | done | rfl | (simp only [List.length_drop, List.length_take]; rfl)) ?_; (with_reducible refine (alloc_Good.calls k _ _ l1 false _ ?side1 ?side2 A5.out).mono ?_); (case side1 => repeat (first | exact HR1.out | (with_reducible refine Kd.C_alloc ?_ _) | (with_reducible refine Kd.C_drewN ?_ _) | (with_reducible refine Kd.C_drew ?_))); (case side2 => exact HC1.out); rintro e w21 ⟨rfl, hb⟩; refine ⟨_, rfl, ?_⟩; have n0_ := Aside0.mk (below_step (by repeat (first | (with_reducible first | exact HB.out | apply below_alloc | apply pw_below_drewN | apply below_drew1) | exact HB.out)) hb); clear HB; have HB := n0_; clear n0_; (try clear hb); (try clear hb2); (try clear hk); (try clear hi)))
    go_ret2
    exact ⟨_, by first | rfl | (simp [errW_none, errW_some] <;> rfl) | (simp [*, errW_none, errW_some] <;> rfl), by first | exact Kd.R_nil _ _ _ _ _ | exact Kd.N_nil _ _ _ _ _ | exact Kd.V_nil _ _ _ _ _ | exact Kd.Q_nil _ _ _ _ _ | exact Kd.S_nil _ _ _ _ _, by repeat (first | (with_reducible first | exact HB.out | apply below_alloc | apply pw_below_drewN | apply below_drew1) | exact HB.out)⟩
def flywheelref27_Share.l0 : Nat → Int → List Int → Int → List (S67) → Int → Option ((List (S67)) × Int)
  | 0, _, _, _, _, _ => none
  | k + 1, x9, x11, x12, x296000, x296001 => if x12 < (x11.length : Int) then (if 0 ≤ x12 then ((flywheelref02_Do.f (rd x11 x12) x9 256 1).bind fun t300 => (if x296000.length < 8796093022208 then (flywheelref27_Share.l0 k x9 x11 (wrap64 (x12 + 1)) (x296000 ++ [(⟨wrap64 ((rd x11 x12) - t300), t300⟩ : S67)]) x296001) else (none))) else (none)) else (some (x296000, x296001))
def flywheelref27_Share.f (k : Nat) (a0 : Int) (l1 : List (S31)) (a2 : Int) (a3 : Int) : Option ((List (S67)) × Int) := (flywheelref27_Good.f k l1).bind fun t292 => (if t292 = true then ((flywheelref01_Clamp.f a0 0 17179869184).bind fun t293 => ((flywheelref01_Clamp.f a3 0 (wrap64 (Int.tdiv t293 4))).bind fun t294 => ((flywheelref27_Split.f k (wrap64 (t293 - t294)) l1).bind fun t296 => (flywheelref27_Share.l0 k (mx 0 (mn a2 128)) t296 0 ([] : List (S67)) t294)))) else (some (([] : List (S67)), 0)))
def flywheelref27_Share.T11 : Bool × List (List Nat × List Nat) := (true, [([], []), ([0], [0]), ([], []), ([], []), ([2, 3], [2, 3]), ([4], [4]), ([], []), ([5, 6], [5, 6]), ([], []), ([7, 8], [7, 8]), ([9], [9]), ([1, 10], [1, 10]), ([0, 1, 2, 3, 4, 5, 6, 7, 8, 9, 10, 11], []), ([12, 11, 11, 0, 1, 2, 3, 4, 5, 6, 7, 8, 9, 10, 11], [11, 12])])
def flywheelref27_Share.B11 : List Nat := [0, 1, 0, 0, 12, 28, 0, 124, 0, 508, 1020, 2047, 4095, 8191]
theorem flywheelref27_Share.tab11 : rtab .any (opsOf Try.f37 11) = flywheelref27_Share.T11 := by kernel_rfl
theorem flywheelref27_Share.bits11 : waitsOk flywheelref27_Share.T11.2 flywheelref27_Share.B11 = true := by kernel_rfl
set_option maxHeartbeats 8000000 in
set_option maxRecDepth 100000 in
theorem flywheelref27_Share.calls (k : Nat) (a0 : Int) (A1 : Option Addr) (c1 : Nat) (l1 : List (S31)) (a2 : Int) (a3 : Int) (r1 : List (S67)) (r2 : Int) (w : World) (hr1 : Kd.C k31 w A1 l1.length l1) (hc1 : l1.length ≤ c1) (h : flywheelref27_Share.f k a0 l1 a2 a3 = some (r1, r2)) :
    Calls Try.prog 37 #[.int .i64 a0, .slice A1 l1.length c1, .int .i64 a2, .int .i64 a3] w fun e w' => ∃ v0_ : Value, e = .returned (.agg #[v0_, .int .i64 r2]) ∧ Kd.R k67 67 w' w.heap.size (fun _ => True) v0_ r1 ∧ Below w.heap.size w w' := by
  have hu62 := Try.underlying62
  have hu67 := Try.underlying67
  have HR1 := Aside0.mk hr1
  have HC1 := Aside0.mk hc1
  clear hr1 hc1
  have HB := Aside0.mk (Below.refl w.heap.size w)
  have H : ((flywheelref27_Good.f k l1).bind fun t292 => (if t292 = true then ((flywheelref01_Clamp.f a0 0 17179869184).bind fun t293 => ((flywheelref01_Clamp.f a3 0 (wrap64 (Int.tdiv t293 4))).bind fun t294 => ((flywheelref27_Split.f k (wrap64 (t293 - t294)) l1).bind fun t296 => (flywheelref27_Share.l0 k (mx 0 (mn a2 128)) t296 0 ([] : List (S67)) t294)))) else (some (([] : List (S67)), 0)))) = some (r1, r2) := h
  clear h
  replace H := Option.bind_eq_some_iff.mp H
  obtain ⟨t292, A50, H⟩ := H
  replace H : (if t292 = true then ((flywheelref01_Clamp.f a0 0 17179869184).bind fun t293 => ((flywheelref01_Clamp.f a3 0 (wrap64 (Int.tdiv t293 4))).bind fun t294 => ((flywheelref27_Split.f k (wrap64 (t293 - t294)) l1).bind fun t296 => (flywheelref27_Share.l0 k (mx 0 (mn a2 128)) t296 0 ([] : List (S67)) t294)))) else (some (([] : List (S67)), 0))) = some (r1, r2) := H
  have A5 := Aside0.mk A50
  clear A50
  by_cases c6 : t292 = true
  · subst c6
    have H1 : ((flywheelref01_Clamp.f a0 0 17179869184).bind fun t293 => ((flywheelref01_Clamp.f a3 0 (wrap64 (Int.tdiv t293 4))).bind fun t294 => ((flywheelref27_Split.f k (wrap64 (t293 - t294)) l1).bind fun t296 => (flywheelref27_Share.l0 k (mx 0 (mn a2 128)) t296 0 ([] : List (S67)) t294)))) = some (r1, r2) := by rw [if_pos rfl] at H; exact H
    clear H
    have H := H1
    clear H1
    replace H := Option.bind_eq_some_iff.mp H
    obtain ⟨t293, A70, H⟩ := H
    replace H : ((flywheelref01_Clamp.f a3 0 (wrap64 (Int.tdiv t293 4))).bind fun t294 => ((flywheelref27_Split.f k (wrap64 (t293 - t294)) l1).bind fun t296 => (flywheelref27_Share.l0 k (mx 0 (mn a2 128)) t296 0 ([] : List (S67)) t294))) = some (r1, r2) := H
    have A7 := Aside0.mk A70
    clear A70
    obtain ⟨ji8, hji8⟩ : ∃ j_ : Int, (mn a2 128) = j_ := ⟨_, rfl⟩
    replace H : ((flywheelref01_Clamp.f a3 0 (wrap64 (Int.tdiv t293 4))).bind fun t294 => ((flywheelref27_Split.f k (wrap64 (t293 - t294)) l1).bind fun t296 => (flywheelref27_Share.l0 k (mx 0 (ji8)) t296 0 ([] : List (S67)) t294))) = some (r1, r2) := by first | (rw [hji8] at H; exact H) | (simp only [hji8] at H ⊢; exact H)
    (try rw [hji8] at A5)
    (try rw [hji8] at A7)
    (try (have hji8h : ji8 ≤ 128 := by (rw [← hji8]; unfold mn; (repeat' split) <;> omega)))
    (try (have hji8g : ji8 ≤ 64 := by omega))
    have hji8_ : (if 128 < a2 then 128 else a2) = ji8 := hji8
    obtain ⟨ji9, hji9⟩ : ∃ j_ : Int, (mx 0 (ji8)) = j_ := ⟨_, rfl⟩
    replace H : ((flywheelref01_Clamp.f a3 0 (wrap64 (Int.tdiv t293 4))).bind fun t294 => ((flywheelref27_Split.f k (wrap64 (t293 - t294)) l1).bind fun t296 => (flywheelref27_Share.l0 k ji9 t296 0 ([] : List (S67)) t294))) = some (r1, r2) := by first | (rw [hji9] at H; exact H) | (simp only [hji9] at H ⊢; exact H)
    (try rw [hji9] at A5)
    (try rw [hji9] at A7)
    have hji9_ : (if 0 < (ji8) then (ji8) else 0) = ji9 := hji9
    replace H := Option.bind_eq_some_iff.mp H
    obtain ⟨t294, A100, H⟩ := H
    replace H : ((flywheelref27_Split.f k (wrap64 (t293 - t294)) l1).bind fun t296 => (flywheelref27_Share.l0 k ji9 t296 0 ([] : List (S67)) t294)) = some (r1, r2) := H
    have A10 := Aside0.mk A100
    clear A100
    replace H := Option.bind_eq_some_iff.mp H
    obtain ⟨t296, A110, H⟩ := H
    replace H : (flywheelref27_Share.l0 k ji9 t296 0 ([] : List (S67)) t294) = some (r1, r2) := H
    have A11 := Aside0.mk A110
    clear A110
    have H' := Aside0.mk H
    clear H
    go_enter Try.func37, Try.ntmps37
    go_wp2_with (first | ((with_reducible refine gate_dst (N := 8) rfl ?_); refine box_event ?hg (N := 8) ?hd (cs := #[.slice none 0 0, .int .i64 0]) (t := 62) ?hr ?_; (case hd => rfl); (case hg => rfl); (case hr => first | (go_simp; done) | (go_simp; rfl)); intro gb291 hg w12 hbox hb; have n0_ := Aside0.mk (below_step (by repeat (first | (with_reducible first | exact HB.out | apply below_alloc | apply pw_below_drewN | apply below_drew1) | exact HB.out)) hb); have n1_ := Aside0.mk (hbox); have n2_ := Aside0.mk ((by rw [hg]; exact (below_size (by repeat (first | (with_reducible first | exact HB.out | apply below_alloc | apply pw_below_drewN | apply below_drew1) | exact HB.out))) : w.heap.size ≤ gb291)); have n3_ := Aside0.mk ((by rw [hg]; exact (below_size (by repeat (first | (with_reducible first | exact HB.out | apply below_alloc | apply pw_below_drewN | apply below_drew1) | exact HB.out))) : w.heap.size ≤ gb291)); clear HB; have HB := n0_; have BK291 := n1_; have GW291 := n2_; have GE291 := n3_; clear n0_ n1_ n2_ n3_; clear hb hbox hg) | ((with_reducible refine gate_callee (f := 16) rfl ?_); refine goesL_ (some 15) rfl rfl Try.func16 (by kernel_rfl) rfl #[.slice A1 l1.length c1] rfl (by (try simp only [List.map_toArray, List.map_cons, List.map_nil]); first | done | rfl | (simp only [List.length_drop, List.length_take]; rfl)) ?_; (with_reducible refine (flywheelref27_Good.calls k _ _ l1 true _ ?side1 ?side2 A5.out).mono ?_); (case side1 => repeat (first | exact (Kd.C_below HR1.out HB.out) | (with_reducible refine Kd.C_alloc ?_ _) | (with_reducible refine Kd.C_drewN ?_ _) | (with_reducible refine Kd.C_drew ?_))); (case side2 => exact HC1.out); rintro e w' ⟨rfl, ⟨nd, rfl⟩⟩; refine ⟨_, rfl, ?_⟩; (try (rw [drewN_self w12]; generalize hq_ : World.drewN w12 _ = w12; have n0_ : Aside0 (w12.heap[gb291]? = some (.cells #[.slice none 0 0, .int .i64 0] 62 (0, 0))) := ⟨by rw [← hq_]; exact (by (with_reducible repeat (first | refine blk_drewN ?_ _ | refine blk_drew ?_ | refine blk_alloc ?_ _)); exact BK291.out)⟩; have n1_ : Aside0 (Below w.heap.size w w12) := ⟨by rw [← hq_]; exact (by repeat (first | (with_reducible first | exact HB.out | apply below_alloc | apply pw_below_drewN | apply below_drew1 | refine below_set ?_ GE291.out) | exact HB.out))⟩; clear BK291 HB hq_; have BK291 := n0_; have HB := n1_; clear n0_ n1_))) | ((with_reducible refine gate_callee (f := 41) rfl ?_); refine goesL_ (some 19) rfl rfl Try.func41 (by kernel_rfl) rfl #[.int .i64 a0, .int .i64 0, .int .i64 17179869184] rfl (by (try simp only [List.map_toArray, List.map_cons, List.map_nil]); first | done | rfl | (simp only [List.length_drop, List.length_take]; rfl)) ?_; (with_reducible refine (flywheelref01_Clamp.calls a0 0 17179869184 t293 _ A7.out).mono ?_); rintro e w' ⟨rfl, ⟨nd, rfl⟩⟩; refine ⟨_, rfl, ?_⟩; (try (rw [drewN_self w12]; generalize hq_ : World.drewN w12 _ = w12; have n0_ : Aside0 (w12.heap[gb291]? = some (.cells #[.slice none 0 0, .int .i64 0] 62 (0, 0))) := ⟨by rw [← hq_]; exact (by (with_reducible repeat (first | refine blk_drewN ?_ _ | refine blk_drew ?_ | refine blk_alloc ?_ _)); exact BK291.out)⟩; have n1_ : Aside0 (Below w.heap.size w w12) := ⟨by rw [← hq_]; exact (by repeat (first | (with_reducible first | exact HB.out | apply below_alloc | apply pw_below_drewN | apply below_drew1 | refine below_set ?_ GE291.out) | exact HB.out))⟩; clear BK291 HB hq_; have BK291 := n0_; have HB := n1_; clear n0_ n1_))) | ((with_reducible refine gate_callee (f := 41) rfl ?_); refine goesL_ (some 26) rfl rfl Try.func41 (by kernel_rfl) rfl #[.int .i64 a3, .int .i64 0, .int .i64 (wrap64 (Int.tdiv t293 4))] rfl (by (try simp only [List.map_toArray, List.map_cons, List.map_nil]); first | done | rfl | (simp only [List.length_drop, List.length_take]; rfl)) ?_; (with_reducible refine (flywheelref01_Clamp.calls a3 0 (wrap64 (Int.tdiv t293 4)) t294 _ A10.out).mono ?_); rintro e w' ⟨rfl, ⟨nd, rfl⟩⟩; refine ⟨_, rfl, ?_⟩; (try (rw [drewN_self w12]; generalize hq_ : World.drewN w12 _ = w12; have n0_ : Aside0 (w12.heap[gb291]? = some (.cells #[.slice none 0 0, .int .i64 0] 62 (0, 0))) := ⟨by rw [← hq_]; exact (by (with_reducible repeat (first | refine blk_drewN ?_ _ | refine blk_drew ?_ | refine blk_alloc ?_ _)); exact BK291.out)⟩; have n1_ : Aside0 (Below w.heap.size w w12) := ⟨by rw [← hq_]; exact (by repeat (first | (with_reducible first | exact HB.out | apply below_alloc | apply pw_below_drewN | apply below_drew1 | refine below_set ?_ GE291.out) | exact HB.out))⟩; clear BK291 HB hq_; have BK291 := n0_; have HB := n1_; clear n0_ n1_))) | ((with_reducible refine gate_dst (N := 10) rfl ?_); refine box_event ?hg (N := 10) ?hd (cs := #[.slice none 0 0, .int .i64 0]) (t := 62) ?hr ?_; (case hd => rfl); (case hg => rfl); (case hr => first | (go_simp; done) | (go_simp; rfl)); intro gb295 hg w13 hbox hb; have n0_ := Aside0.mk (blk_below (g := gb291) (o := .cells #[.slice none 0 0, .int .i64 0] 62 (0, 0)) (by (with_reducible repeat (first | refine blk_drewN ?_ _ | refine blk_drew ?_ | refine blk_alloc ?_ _)); exact BK291.out) hb); have n1_ := Aside0.mk (below_step (by repeat (first | (with_reducible first | exact HB.out | apply below_alloc | apply pw_below_drewN | apply below_drew1 | refine below_set ?_ GE291.out) | exact HB.out)) hb); have n2_ := Aside0.mk (hbox); have n3_ := Aside0.mk ((by rw [hg]; exact (below_size (by repeat (first | (with_reducible first | exact HB.out | apply below_alloc | apply pw_below_drewN | apply below_drew1 | refine below_set ?_ GE291.out) | exact HB.out))) : w.heap.size ≤ gb295)); have n4_ := Aside0.mk ((by rw [hg]; exact (below_size (by repeat (first | (with_reducible first | exact HB.out | apply below_alloc | apply pw_below_drewN | apply below_drew1 | refine below_set ?_ GE291.out) | exact HB.out))) : w.heap.size ≤ gb295)); have n5_ := Aside0.mk ((by rw [hg]; exact Nat.ne_of_lt (blk_lt (g := gb291) (o := .cells #[.slice none 0 0, .int .i64 0] 62 (0, 0)) (by (with_reducible repeat (first | refine blk_drewN ?_ _ | refine blk_drew ?_ | refine blk_alloc ?_ _)); exact BK291.out)) : gb291 ≠ gb295)); have n6_ := Aside0.mk ((by rw [hg]; exact Nat.ne_of_gt (blk_lt (g := gb291) (o := .cells #[.slice none 0 0, .int .i64 0] 62 (0, 0)) (by (with_reducible repeat (first | refine blk_drewN ?_ _ | refine blk_drew ?_ | refine blk_alloc ?_ _)); exact BK291.out)) : gb295 ≠ gb291)); clear BK291; clear HB; have BK291 := n0_; have HB := n1_; have BK295 := n2_; have GW295 := n3_; have GE295 := n4_; have NB291_295 := n5_; have NB295_291 := n6_; clear n0_ n1_ n2_ n3_ n4_ n5_ n6_; clear hb hbox hg; have hnb14 := NB295_291.out; have hnc14 := NB291_295.out; have hcz15_0 : w13.cell? ⟨gb295, 0, none⟩ = some (.slice none 0 0) := (blk_cell BK295.out 0).trans rfl; have hcz15_1 : w13.cell? ⟨gb295, 1, none⟩ = some (.int .i64 0) := (blk_cell BK295.out 1).trans rfl; have hfz15_0 := blk_frozen BK295.out 0; have hfz15_1 := blk_frozen BK295.out 1) | ((with_reducible refine gate_callee (f := 19) rfl ?_); refine goesL_ (some 33) rfl rfl Try.func19 (by kernel_rfl) rfl #[.int .i64 (wrap64 (t293 - t294)), .slice A1 l1.length c1] rfl (by (try simp only [List.map_toArray, List.map_cons, List.map_nil]); first | done | rfl | (simp only [List.length_drop, List.length_take]; rfl)) ?_; (with_reducible refine (flywheelref27_Split.calls k (wrap64 (t293 - t294)) _ _ l1 t296 _ ?side1 ?side2 A11.out).mono ?_); (case side1 => exact Kd.C_below HR1.out (by repeat (first | (with_reducible first | exact HB.out | apply below_alloc | apply pw_below_drewN | apply below_drew1 | refine below_set ?_ GE291.out | refine below_set ?_ GE295.out) | exact HB.out))); (case side2 => exact HC1.out); rintro e w16 ⟨v297, rfl, ho0, hb⟩; refine ⟨_, rfl, ?_⟩; have n0_ := Aside0.mk (Kd.R_lower ho0 (below_size (by repeat (first | (with_reducible first | exact HB.out | apply below_alloc | apply pw_below_drewN | apply below_drew1 | refine below_set ?_ GE291.out | refine below_set ?_ GE295.out) | exact HB.out)))); have n1_ := Aside0.mk (blk_below (g := gb291) (o := .cells #[.slice none 0 0, .int .i64 0] 62 (0, 0)) (by (with_reducible repeat (first | refine blk_drewN ?_ _ | refine blk_drew ?_ | refine blk_alloc ?_ _)); refine blk_far ?_ NB291_295.out _; (with_reducible repeat (first | refine blk_drewN ?_ _ | refine blk_drew ?_ | refine blk_alloc ?_ _)); refine blk_far ?_ NB291_295.out _; (with_reducible repeat (first | refine blk_drewN ?_ _ | refine blk_drew ?_ | refine blk_alloc ?_ _)); exact BK291.out) hb); have n2_ := Aside0.mk (blk_below (g := gb295) (o := .cells #[.slice none 0 0, .int .i64 t294] 62 (0, 0)) (by (with_reducible repeat (first | refine blk_drewN ?_ _ | refine blk_drew ?_ | refine blk_alloc ?_ _)); refine blk_put (cs := #[.slice none 0 0, .int .i64 0]) ?_ 1 _ rfl; (with_reducible repeat (first | refine blk_drewN ?_ _ | refine blk_drew ?_ | refine blk_alloc ?_ _)); refine blk_put (cs := #[.slice none 0 0, .int .i64 0]) ?_ 0 _ rfl; (with_reducible repeat (first | refine blk_drewN ?_ _ | refine blk_drew ?_ | refine blk_alloc ?_ _)); exact BK295.out) hb); have n3_ := Aside0.mk (below_step (by repeat (first | (with_reducible first | exact HB.out | apply below_alloc | apply pw_below_drewN | apply below_drew1 | refine below_set ?_ GE291.out | refine below_set ?_ GE295.out) | exact HB.out)) hb); clear BK291; clear BK295; clear HB; have HO298 := n0_; have BK291 := n1_; have BK295 := n2_; have HB := n3_; clear n0_ n1_ n2_ n3_; (try clear hb); (try clear hb2); (try clear hk); (try clear hi); (try clear ho0)))
    go_loopg [12] k (fun kq v12 w' => ∃ (x12_1 : Int) (x296000_1 : List (S67)) (u296000 : Value), v12 = .int .i64 x12_1 ∧ Aside0 (flywheelref27_Share.l0 kq ji9 t296 x12_1 x296000_1 t294 = some (r1, r2)) ∧ Aside0 (kq ≤ k) ∧ Aside0 (Kd.R (Kd.int .i64) 2 w' w.heap.size (fun _ => True) v297 t296) ∧ Aside0 (Kd.R k67 67 w' w.heap.size (fun _ => True) u296000 x296000_1) ∧ Aside0 (w'.heap[gb291]? = some (.cells #[(.slice none 0 0), .int .i64 0] 62 (0, 0))) ∧ Aside0 (w'.heap[gb295]? = some (.cells #[u296000, .int .i64 t294] 62 (0, 0))) ∧ Aside0 (Below w.heap.size w w'))
    case atStart => exact ⟨(0), (([] : List (S67))), (.slice none 0 0), (by first | rfl | (simp; done) | (simp [*]; done)), H', ⟨Nat.le_refl _⟩, ⟨by (with_reducible repeat (first | apply Kd.R_alloc | apply Kd.R_drewN | apply Kd.R_drew)); exact HO298.out⟩, ⟨by first | exact Kd.R_nil _ _ _ _ _ | exact Kd.N_nil _ _ _ _ _ | exact Kd.V_nil _ _ _ _ _ | exact Kd.Q_nil _ _ _ _ _ | exact Kd.S_nil _ _ _ _ _⟩, ⟨by (with_reducible repeat (first | refine blk_drewN ?_ _ | refine blk_drew ?_ | refine blk_alloc ?_ _)); exact BK291.out⟩, ⟨by (with_reducible repeat (first | refine blk_drewN ?_ _ | refine blk_drew ?_ | refine blk_alloc ?_ _)); exact BK295.out⟩, ⟨by repeat (first | (with_reducible first | exact HB.out | apply below_alloc | apply pw_below_drewN | apply below_drew1 | refine below_set ?_ GE291.out | refine below_set ?_ GE295.out) | exact HB.out)⟩⟩
    case round =>
      clear H'
      try clear c1
      try clear p2
      try clear c3
      try clear c4
      try clear c6
      try clear p6
      try clear c14
      try clear c16
      try clear hcz15_0
      try clear hcz15_1
      try clear hfz15_0
      try clear hfz15_1
      obtain ⟨x12_1, x296000_1, u296000, rfl, HA, HK1, HO_11, HO_296000, BK291, BK295, HB⟩ := hrel
      cases gk with
      | zero => exact absurd HA.out (by simp [flywheelref27_Share.l0])
      | succ k1 =>
        have H := HA.out
        clear HA
        simp only [flywheelref27_Share.l0] at H
        by_cases c17 : x12_1 < (t296.length : Int)
        · rw [if_pos c17] at H
          have c17b0 : decide (x12_1 < (t296.length : Int)) = true := decide_eq_true c17
          clear c17
          by_cases c18 : 0 ≤ x12_1
          · rw [if_pos c18] at H
            have c18b0 : decide (0 ≤ x12_1) = true := decide_eq_true c18
            clear c18
            replace H := Option.bind_eq_some_iff.mp H
            obtain ⟨t300, A190, H⟩ := H
            replace H : (if x296000_1.length < 8796093022208 then (flywheelref27_Share.l0 k1 ji9 t296 (wrap64 (x12_1 + 1)) (x296000_1 ++ [(⟨wrap64 ((rd t296 x12_1) - t300), t300⟩ : S67)]) t294) else (none)) = some (r1, r2) := H
            have A19 := Aside0.mk A190
            clear A190
            by_cases c20 : x296000_1.length < 8796093022208
            · rw [if_pos c20] at H
              have LMc20 := Aside0.mk c20
              clear c20
              obtain ⟨y302, hy302⟩ : ∃ y_ : List (S67), y_ = (x296000_1 ++ [(⟨wrap64 ((rd t296 x12_1) - t300), t300⟩ : S67)]) := ⟨_, rfl⟩
              replace H : (flywheelref27_Share.l0 k1 ji9 t296 (wrap64 (x12_1 + 1)) y302 t294) = some (r1, r2) := by first | (rw [hy302]; with_reducible exact H) | (have H2_ := (Option.bind_some _ _).symm.trans H; rw [hy302]; with_reducible exact H2_) | (have H2_ := (Option.bind_some _ _).symm.trans H; with_reducible exact H2_) | with_reducible exact H | (rw [hy302]; exact H) | exact H
              have Ny302 := Aside0.mk hy302
              clear hy302
              have H' := Aside0.mk H
              clear H
              obtain ⟨Ao21, co21, eo21⟩ := Kd.R_slice HO_11.out
              subst eo21
              have p299 : 0 ≤ (x12_1 : Int) := of_decide_eq_true (by first | (with_reducible assumption) | assumption)
              have q299 : x12_1 < (t296.length : Int) := of_decide_eq_true (by first | (with_reducible assumption) | assumption)
              obtain ⟨ad299, e299, hx299_0⟩ := Kd.at_int (Kd.R_reads' HO_11.out).2.2 x12_1 p299 q299
              cases e299
              replace p299 := eq_true p299
              replace q299 := eq_true q299
              try go_wp2_with (first | ((with_reducible refine gate_callee (f := 42) rfl ?_); refine goesL_ (some 45) rfl rfl Try.func42 (by kernel_rfl) rfl #[.int .i64 (rd t296 x12_1), .int .i64 ji9, .int .i64 256, .int .i64 1] rfl (by (try simp only [List.map_toArray, List.map_cons, List.map_nil]); first | done | (simp only [hji9]; rfl) | rfl | (simp only [List.length_drop, List.length_take]; rfl)) ?_; (with_reducible refine (flywheelref02_Do.calls (rd t296 x12_1) ji9 256 1 t300 _ A19.out).mono ?_); rintro e w22 ⟨rfl, hb⟩; refine ⟨_, rfl, ?_⟩; have n0_ := Aside0.mk (Kd.R_below (by (with_reducible repeat (first | apply Kd.R_alloc | apply Kd.R_drewN | apply Kd.R_drew)); exact HO_11.out) hb); have n1_ := Aside0.mk (Kd.R_below (by (with_reducible repeat (first | apply Kd.R_alloc | apply Kd.R_drewN | apply Kd.R_drew)); exact HO_296000.out) hb); have n2_ := Aside0.mk (blk_below (g := gb291) (o := .cells #[.slice none 0 0, .int .i64 0] 62 (0, 0)) (by (with_reducible repeat (first | refine blk_drewN ?_ _ | refine blk_drew ?_ | refine blk_alloc ?_ _)); exact BK291.out) hb); have n3_ := Aside0.mk (blk_below (g := gb295) (o := .cells #[u296000, .int .i64 t294] 62 (0, 0)) (by (with_reducible repeat (first | refine blk_drewN ?_ _ | refine blk_drew ?_ | refine blk_alloc ?_ _)); exact BK295.out) hb); have n4_ := Aside0.mk (below_step (by repeat (first | (with_reducible first | exact HB.out | apply below_alloc | apply pw_below_drewN | apply below_drew1 | refine below_set ?_ GE291.out | refine below_set ?_ GE295.out) | exact HB.out)) hb); clear HO_11; clear HO_296000; clear BK291; clear BK295; clear HB; have HO_11 := n0_; have HO_296000 := n1_; have BK291 := n2_; have BK295 := n3_; have HB := n4_; clear n0_ n1_ n2_ n3_ n4_; (try clear hb); (try clear hb2); (try clear hk); (try clear hi)))
              have n0_ := Aside0.mk (Kd.R_drew HO_11.out)
              have n1_ := Aside0.mk (Kd.R_drew HO_296000.out)
              have n2_ := Aside0.mk (blk_drew BK291.out)
              have n3_ := Aside0.mk (blk_drew BK295.out)
              have n4_ := Aside0.mk (below_drew1 HB.out)
              clear HO_11
              clear HO_296000
              clear BK291
              clear BK295
              clear HB
              have HO_11 := n0_
              have HO_296000 := n1_
              have BK291 := n2_
              have BK295 := n3_
              have HB := n4_
              clear n0_ n1_ n2_ n3_ n4_
              have p301 : 0 ≤ (x12_1 : Int) := of_decide_eq_true (by first | (with_reducible assumption) | assumption)
              have q301 : x12_1 < (t296.length : Int) := of_decide_eq_true (by first | (with_reducible assumption) | assumption)
              obtain ⟨ad301, e301, hx301_0⟩ := Kd.at_int (Kd.R_reads' HO_11.out).2.2 x12_1 p301 q301
              obtain rfl : ad299 = ad301 := (by injection e301)
              replace p301 := eq_true p301
              replace q301 := eq_true q301
              refine start_ (n := 14) (S := fun w' => w'.cell? ⟨gb295, 0, none⟩ = some (u296000) ∧ w'.cell? ⟨gb295, 1, none⟩ = some (.int .i64 t294) ∧ w'.cell? (ad299.add (x12_1).toNat) = some (.int .i64 (rd t296 x12_1))) (ds := [11, 13]) #[false, false, false, false, false, false, false, false, false, false, false, false, false, false] (by kernel_rfl) rfl rfl ⟨(blk_cell BK295.out 0).trans rfl, (blk_cell BK295.out 1).trans rfl, hx301_0⟩ (fun hHeld => ?_); refine with_tabW flywheelref27_Share.tab11 flywheelref27_Share.bits11 (fun HT_ HW_ => ?_)
              generalize w22.drew = w23 at HO_11 HO_296000 BK291 BK295 HB hx301_0 hHeld ⊢
              refine pure_ (i := 0) (N := some 46) (v := ?_) (a' := ?_) #[true, false, false, false, false, false, false, false, false, false, false, false, false, false] rfl rfl (any_of HT_.out (by kernel_rfl)) (fun _ _ _ h => h) (Or.inl ⟨by rfl, ?_⟩) ?_ ?_
              rotate_left
              · intro w'
                go_simp
                with_reducible rfl
              rotate_left
              · simp only [Act.put, List.setIfInBounds_toArray, List.set_cons_zero, List.set_cons_succ, i64_w, i32_w]
                rfl
              refine pure_ (i := 2) (N := some 48) (v := ?_) (a' := ?_) #[true, false, true, false, false, false, false, false, false, false, false, false, false, false] rfl rfl (any_of HT_.out (by kernel_rfl)) (fun _ _ _ h => h) (Or.inl ⟨by rfl, ?_⟩) ?_ ?_
              rotate_left
              · intro w'
                go_simp
                with_reducible rfl
              rotate_left
              · simp only [Act.put, List.setIfInBounds_toArray, List.set_cons_zero, List.set_cons_succ, i64_w, i32_w]
                rfl
              refine pure_ (i := 3) (N := some 49) (v := ?_) (a' := ?_) #[true, false, true, true, false, false, false, false, false, false, false, false, false, false] rfl rfl (any_of HT_.out (by kernel_rfl)) (fun _ _ _ h => h) (Or.inl ⟨by rfl, ?_⟩) ?_ ?_
              rotate_left
              · intro w'
                go_simp
                with_reducible rfl
              rotate_left
              · simp only [Act.put, List.setIfInBounds_toArray, List.set_cons_zero, List.set_cons_succ, i64_w, i32_w]
                rfl
              refine pure_ (i := 4) (N := some 50) (v := ?_) (a' := ?_) #[true, false, true, true, true, false, false, false, false, false, false, false, false, false] rfl rfl (any_of HT_.out (by kernel_rfl)) (fun _ _ _ h => h) (Or.inl ⟨by rfl, ?_⟩) ?_ ?_
              rotate_left
              · intro w'
                go_simp
                with_reducible rfl
              rotate_left
              · simp only [Act.put, List.setIfInBounds_toArray, List.set_cons_zero, List.set_cons_succ, i64_w, i32_w]
                rfl
              refine pure_ (i := 6) (N := some 52) (v := ?_) (a' := ?_) #[true, false, true, true, true, false, true, false, false, false, false, false, false, false] rfl rfl (any_of HT_.out (by kernel_rfl)) (fun _ _ _ h => h) (Or.inl ⟨by rfl, ?_⟩) ?_ ?_
              rotate_left
              · intro w'
                go_simp
                with_reducible rfl
              rotate_left
              · simp only [Act.put, List.setIfInBounds_toArray, List.set_cons_zero, List.set_cons_succ, i64_w, i32_w]
                rfl
              refine pure_ (i := 8) (N := some 54) (v := ?_) (a' := ?_) #[true, false, true, true, true, false, true, false, true, false, false, false, false, false] rfl rfl (any_of HT_.out (by kernel_rfl)) (fun _ _ _ h => h) (Or.inl ⟨by rfl, ?_⟩) ?_ ?_
              rotate_left
              · intro w'
                go_simp
                with_reducible rfl
              rotate_left
              · simp only [Act.put, List.setIfInBounds_toArray, List.set_cons_zero, List.set_cons_succ, i64_w, i32_w]
                rfl
              refine take_ (i := 1) (N := some 47) (v := ?_) (a' := ?_) #[true, true, true, true, true, false, true, false, true, false, false, false, false, false] rfl rfl (take_ofW HT_.out HW_.out (by kernel_rfl)) (fun _ _ _ h => h) (Or.inl ⟨by rfl, ?_⟩) hHeld ?_ ?_
              rotate_left
              · rintro w' ⟨s0, s1, s2⟩
                go_simp
                with_reducible rfl
              rotate_left
              · simp only [Act.put, List.setIfInBounds_toArray, List.set_cons_zero, List.set_cons_succ, i64_w, i32_w]
                rfl
              refine take_ (i := 5) (N := some 51) (v := ?_) (a' := ?_) #[true, true, true, true, true, true, true, false, true, false, false, false, false, false] rfl rfl (take_ofW HT_.out HW_.out (by kernel_rfl)) (fun _ _ _ h => h) (Or.inl ⟨by rfl, ?_⟩) hHeld ?_ ?_
              rotate_left
              · rintro w' ⟨s0, s1, s2⟩
                go_simp
                with_reducible rfl
              rotate_left
              · simp only [Act.put, List.setIfInBounds_toArray, List.set_cons_zero, List.set_cons_succ, i64_w, i32_w]
                rfl
              refine pure_ (i := 7) (N := some 53) (v := ?_) (a' := ?_) #[true, true, true, true, true, true, true, true, true, false, false, false, false, false] rfl rfl (any_of HT_.out (by kernel_rfl)) (fun _ _ _ h => h) (Or.inl ⟨by rfl, ?_⟩) ?_ ?_
              rotate_left
              · intro w'
                go_simp
                with_reducible rfl
              rotate_left
              · simp only [Act.put, List.setIfInBounds_toArray, List.set_cons_zero, List.set_cons_succ, i64_w, i32_w]
                rfl
              refine pure_ (i := 9) (N := some 55) (v := ?_) (a' := ?_) #[true, true, true, true, true, true, true, true, true, true, false, false, false, false] rfl rfl (any_of HT_.out (by kernel_rfl)) (fun _ _ _ h => h) (Or.inl ⟨by rfl, ?_⟩) ?_ ?_
              rotate_left
              · intro w'
                go_simp
                with_reducible rfl
              rotate_left
              · simp only [Act.put, List.setIfInBounds_toArray, List.set_cons_zero, List.set_cons_succ, i64_w, i32_w]
                rfl
              refine one_ (i := 10) (N := some 56) #[true, true, true, true, true, true, true, true, true, true, true, false, false, false] rfl rfl (one_of HT_.out (by kernel_rfl)) (by decide) (fun K hK => ?_)
              refine value_ (w1 := ?_) (v := ?_) (by rfl) rfl ?_ ?_
              rotate_left 2
              · go_simp
                constructor
                · rfl
                · rfl
              refine hK.out _ _ ⟨(blk_cell (blk_alloc BK295.out _) 0).trans rfl, (blk_cell (blk_alloc BK295.out _) 1).trans rfl, (World.cell?_alloc_lt _ _ _ (World.block_lt_of_cell? _ _ (hHeld.2.2))).trans (hHeld.2.2)⟩ (fun hHeld => ?_)
              clear hK K
              refine norm_ (a' := ?_) ?_ ?_
              rotate_left
              · show Act.put _ (some 56) _ = _
                simp only [Act.put, List.setIfInBounds_toArray, List.set_cons_zero, List.set_cons_succ, i64_w, i32_w]
                rfl
              refine last_ (i := 11) (N := some 57) #[true, true, true, true, true, true, true, true, true, true, true, true, false, false] rfl rfl (one_of HT_.out (by kernel_rfl)) (by decide) (fun K hK => ?_)
              refine Kd.R_append_step k67 (w0 := w) w.heap.size (by rfl) (.tmp 47) (.tmp 56) 58 67 (.agg #[(.int .i64 0), (.int .i64 0)]) 16 rfl Try.underlying58 info67 rfl (by decide) (by omega) u296000 x296000_1 (⟨wrap64 ((rd t296 x12_1) - t300), t300⟩ : S67) [.int .i64 (wrap64 ((rd t296 x12_1) - t300)), .int .i64 t300] (fun _ => True) (fun _ => False) rfl rfl ?aP (fun _ hk => hk.elim) ?aF ?aO ?aB ?aS ?aL ?_
              (case aP => exact k67_mkM _ _ _ (⟨wrap64 ((rd t296 x12_1) - t300), t300⟩ : S67))
              (case aB => exact (by repeat (first | (with_reducible first | exact HB.out | apply below_alloc | apply pw_below_drewN | apply below_drew1 | refine below_set ?_ GE291.out | refine below_set ?_ GE295.out) | exact HB.out)))
              (case aF => exact (fun _ _ => trivial))
              (case aO => exact (by (with_reducible repeat (first | apply Kd.R_alloc | apply Kd.R_drewN | apply Kd.R_drew)); exact HO_296000.out))
              (case aS => exact (below_size (by repeat (first | (with_reducible first | exact HB.out | apply below_alloc | apply pw_below_drewN | apply below_drew1 | refine below_set ?_ GE291.out | refine below_set ?_ GE295.out) | exact HB.out))))
              (case aL => have := LMc20.out; omega)
              intro v303 w24 ho hb hg hat
              rw [← Ny302.out] at ho
              have n0_ := Aside0.mk (Kd.R_over' (by (with_reducible repeat (first | apply Kd.R_alloc | apply Kd.R_drewN | apply Kd.R_drew)); exact HO_11.out) (Kd.R_typed (by (with_reducible repeat (first | apply Kd.R_alloc | apply Kd.R_drewN | apply Kd.R_drew)); exact HO_296000.out)) (by decide) hg)
              have n1_ := Aside0.mk (blk_grown (g := gb291) (o := .cells #[.slice none 0 0, .int .i64 0] 62 (0, 0)) (by (with_reducible repeat (first | refine blk_drewN ?_ _ | refine blk_drew ?_ | refine blk_alloc ?_ _)); exact BK291.out) hg (Kd.R_ne HO_296000.out BK291.out (by decide)))
              have n2_ := Aside0.mk (blk_grown (g := gb295) (o := .cells #[u296000, .int .i64 t294] 62 (0, 0)) (by (with_reducible repeat (first | refine blk_drewN ?_ _ | refine blk_drew ?_ | refine blk_alloc ?_ _)); exact BK295.out) hg (Kd.R_ne HO_296000.out BK295.out (by decide)))
              have n3_ := Aside0.mk (hb)
              have n4_ := Aside0.mk (ho)
              clear HO_11
              clear BK291
              clear BK295
              clear HB
              clear HO_296000
              have HO_11 := n0_
              have BK291 := n1_
              have BK295 := n2_
              have HB := n3_
              have HO304 := n4_
              clear n0_ n1_ n2_ n3_ n4_
              clear ho hb hg hat
              obtain ⟨Ao25, co25, eo25⟩ := Kd.R_slice HO304.out
              (first | subst eo25 | (injection eo25 with f1_ f2_ f3_; have f4_ := f1_.symm; have f5_ := f3_.symm; clear f1_ f2_ f3_; subst f4_; subst f5_))
              refine hK.out _ _ ?_
              clear hK K
              refine norm_ (a' := ?_) ?_ ?_
              rotate_left
              · show Act.put _ (some 57) _ = _
                simp only [Act.put, List.setIfInBounds_toArray, List.set_cons_zero, List.set_cons_succ, i64_w, i32_w]
                rfl
              refine pure_ (i := 12) (N := some 58) (v := ?_) (a' := ?_) #[true, true, true, true, true, true, true, true, true, true, true, true, true, false] rfl rfl (any_of HT_.out (by kernel_rfl)) (fun _ _ _ h => h) (Or.inl ⟨by rfl, ?_⟩) ?_ ?_
              rotate_left
              · intro w'
                go_simp
                with_reducible rfl
              rotate_left
              · simp only [Act.put, List.setIfInBounds_toArray, List.set_cons_zero, List.set_cons_succ, i64_w, i32_w]
                rfl
              refine last_ (i := 13) (N := none) #[true, true, true, true, true, true, true, true, true, true, true, true, true, true] rfl rfl (one_of HT_.out (by kernel_rfl)) (by decide) (fun K hK => ?_)
              have hs26 : w24.cell? ⟨gb295, 0, none⟩ = some (u296000) := (blk_cell BK295.out 0).trans rfl
              have hfs26 := blk_frozen BK295.out 0
              have hns26_0 := NB291_295.out
              have hms26_0 := NB295_291.out
              refine skip_ (w1 := ?_) (by rfl) rfl ?_ ?_
              rotate_left
              · go_simp
                rfl
              refine hK.out _ _ ?_
              clear hK K
              refine done_ (done_of HT_.out (by kernel_rfl)) ?_
              try go_wp2
              go_roundg k1
              case measure => have := HK1.out; omega
              case rel => exact ⟨(wrap64 (x12_1 + 1)), (y302), (.slice Ao25 y302.length co25), (by first | rfl | (simp; done) | (simp [*]; done)), H', ⟨by have := HK1.out; omega⟩, ⟨by (with_reducible repeat (first | apply Kd.R_alloc | apply Kd.R_drewN | apply Kd.R_drew)); exact Kd.R_mono (Kd.R_far (p := ⟨gb295, 0, none⟩) (Kd.R_types HO_11.out BK295.out (by decide)) (fun _ hk => hk.2) (.slice Ao25 y302.length co25)) (fun _ hk => trivial)⟩, ⟨by (with_reducible repeat (first | apply Kd.R_alloc | apply Kd.R_drewN | apply Kd.R_drew)); exact Kd.R_mono (Kd.R_far (p := ⟨gb295, 0, none⟩) (Kd.R_types HO304.out BK295.out (by decide)) (fun _ hk => hk.2) (.slice Ao25 y302.length co25)) (fun _ hk => trivial)⟩, ⟨by (with_reducible repeat (first | refine blk_drewN ?_ _ | refine blk_drew ?_ | refine blk_alloc ?_ _)); refine blk_far ?_ NB291_295.out _; (with_reducible repeat (first | refine blk_drewN ?_ _ | refine blk_drew ?_ | refine blk_alloc ?_ _)); exact BK291.out⟩, ⟨by (with_reducible repeat (first | refine blk_drewN ?_ _ | refine blk_drew ?_ | refine blk_alloc ?_ _)); refine blk_put (cs := #[u296000, .int .i64 t294]) ?_ 0 _ rfl; (with_reducible repeat (first | refine blk_drewN ?_ _ | refine blk_drew ?_ | refine blk_alloc ?_ _)); exact BK295.out⟩, ⟨by repeat (first | (with_reducible first | exact HB.out | apply below_alloc | apply pw_below_drewN | apply below_drew1 | refine below_set ?_ GE291.out | refine below_set ?_ GE295.out) | exact HB.out)⟩⟩
            · rw [if_neg c20] at H
              exact absurd H (by simp)
          · rw [if_neg c18] at H
            exact absurd H (by simp)
        · rw [if_neg c17] at H
          have c17b0 : decide (x12_1 < (t296.length : Int)) = false := decide_eq_false c17
          clear c17
          simp only [Option.some.injEq, Prod.mk.injEq] at H
          obtain ⟨rfl, rfl⟩ := H
          obtain ⟨Ao27, co27, eo27⟩ := Kd.R_slice HO_11.out
          subst eo27
          have hnb28 := NB295_291.out
          have hnc28 := NB291_295.out
          have hcz29_0 : wr.cell? ⟨gb295, 0, none⟩ = some (u296000) := (blk_cell BK295.out 0).trans rfl
          have hcz29_1 : wr.cell? ⟨gb295, 1, none⟩ = some (.int .i64 t294) := (blk_cell BK295.out 1).trans rfl
          have hfz29_0 := blk_frozen BK295.out 0
          have hfz29_1 := blk_frozen BK295.out 1
          obtain ⟨Ao30, co30, eo30⟩ := Kd.R_slice HO_296000.out
          subst eo30
          have hcz31_0 : wr.cell? ⟨gb291, 0, none⟩ = some (.slice none 0 0) := (blk_cell BK291.out 0).trans rfl
          have hcz31_1 : wr.cell? ⟨gb291, 1, none⟩ = some (.int .i64 0) := (blk_cell BK291.out 1).trans rfl
          have hfz31_0 := blk_frozen BK291.out 0
          have hfz31_1 := blk_frozen BK291.out 1
          go_wp2
          refine bodyPost_ret (results_cell_row rfl _ _ gb291 62 #[.slice Ao30 x296000_1.length co30, .int .i64 t294] (0, 0) _ rfl (by (with_reducible repeat (first | refine blk_drewN ?_ _ | refine blk_drew ?_ | refine blk_alloc ?_ _)); refine blk_put (cs := #[.slice Ao30 x296000_1.length co30, .int .i64 0]) ?_ 1 _ rfl; (with_reducible repeat (first | refine blk_drewN ?_ _ | refine blk_drew ?_ | refine blk_alloc ?_ _)); refine blk_put (cs := #[.slice none 0 0, .int .i64 0]) ?_ 0 _ rfl; (with_reducible repeat (first | refine blk_drewN ?_ _ | refine blk_drew ?_ | refine blk_alloc ?_ _)); exact BK291.out) Try.underlying62 rfl (by kernel_rfl)) rfl ?_
          exact ⟨_, by first | rfl | (simp [errW_none, errW_some] <;> rfl) | (simp only [← hji8, ← hji9]; first | rfl | (simp [errW_none, errW_some] <;> rfl)) | (simp [*, errW_none, errW_some] <;> rfl), by (with_reducible repeat (first | apply Kd.R_alloc | apply Kd.R_drewN | apply Kd.R_drew)); exact Kd.R_mono (Kd.R_far (p := ⟨gb291, 1, none⟩) (Kd.R_far (p := ⟨gb291, 0, none⟩) (Kd.R_types HO_296000.out BK291.out (by decide)) (fun _ hk => hk.2) (.slice Ao30 x296000_1.length co30)) (fun _ hk => hk.2) (.int .i64 t294)) (fun _ hk => trivial), by repeat (first | (with_reducible first | exact HB.out | apply below_alloc | apply pw_below_drewN | apply below_drew1 | refine below_set ?_ GE291.out | refine below_set ?_ GE295.out) | exact HB.out)⟩
  · replace c6 := Bool.eq_false_iff.mpr c6
    subst c6
    have H1 : (some (([] : List (S67)), 0)) = some (r1, r2) := by rw [if_neg (show ¬ (false = true) by decide)] at H; exact H
    clear H
    have H := H1
    clear H1
    simp only [Option.some.injEq, Prod.mk.injEq] at H
    obtain ⟨rfl, rfl⟩ := H
    go_enter Try.func37, Try.ntmps37
    go_wp2_with (first | ((with_reducible refine gate_dst (N := 8) rfl ?_); refine box_event ?hg (N := 8) ?hd (cs := #[.slice none 0 0, .int .i64 0]) (t := 62) ?hr ?_; (case hd => rfl); (case hg => rfl); (case hr => first | (go_simp; done) | (go_simp; rfl)); intro gb291 hg w32 hbox hb; have n0_ := Aside0.mk (below_step (by repeat (first | (with_reducible first | exact HB.out | apply below_alloc | apply pw_below_drewN | apply below_drew1) | exact HB.out)) hb); have n1_ := Aside0.mk (hbox); have n2_ := Aside0.mk ((by rw [hg]; exact (below_size (by repeat (first | (with_reducible first | exact HB.out | apply below_alloc | apply pw_below_drewN | apply below_drew1) | exact HB.out))) : w.heap.size ≤ gb291)); have n3_ := Aside0.mk ((by rw [hg]; exact (below_size (by repeat (first | (with_reducible first | exact HB.out | apply below_alloc | apply pw_below_drewN | apply below_drew1) | exact HB.out))) : w.heap.size ≤ gb291)); clear HB; have HB := n0_; have BK291 := n1_; have GW291 := n2_; have GE291 := n3_; clear n0_ n1_ n2_ n3_; clear hb hbox hg) | ((with_reducible refine gate_callee (f := 16) rfl ?_); refine goesL_ (some 15) rfl rfl Try.func16 (by kernel_rfl) rfl #[.slice A1 l1.length c1] rfl (by (try simp only [List.map_toArray, List.map_cons, List.map_nil]); first | done | rfl | (simp only [List.length_drop, List.length_take]; rfl)) ?_; (with_reducible refine (flywheelref27_Good.calls k _ _ l1 false _ ?side1 ?side2 A5.out).mono ?_); (case side1 => repeat (first | exact (Kd.C_below HR1.out HB.out) | (with_reducible refine Kd.C_alloc ?_ _) | (with_reducible refine Kd.C_drewN ?_ _) | (with_reducible refine Kd.C_drew ?_))); (case side2 => exact HC1.out); rintro e w' ⟨rfl, ⟨nd, rfl⟩⟩; refine ⟨_, rfl, ?_⟩; (try (rw [drewN_self w32]; generalize hq_ : World.drewN w32 _ = w32; have n0_ : Aside0 (w32.heap[gb291]? = some (.cells #[.slice none 0 0, .int .i64 0] 62 (0, 0))) := ⟨by rw [← hq_]; exact (by (with_reducible repeat (first | refine blk_drewN ?_ _ | refine blk_drew ?_ | refine blk_alloc ?_ _)); exact BK291.out)⟩; have n1_ : Aside0 (Below w.heap.size w w32) := ⟨by rw [← hq_]; exact (by repeat (first | (with_reducible first | exact HB.out | apply below_alloc | apply pw_below_drewN | apply below_drew1 | refine below_set ?_ GE291.out) | exact HB.out))⟩; clear BK291 HB hq_; have BK291 := n0_; have HB := n1_; clear n0_ n1_)); have hcz33_0 : w32.cell? ⟨gb291, 0, none⟩ = some (.slice none 0 0) := (blk_cell BK291.out 0).trans rfl; have hcz33_1 : w32.cell? ⟨gb291, 1, none⟩ = some (.int .i64 0) := (blk_cell BK291.out 1).trans rfl; have hfz33_0 := blk_frozen BK291.out 0; have hfz33_1 := blk_frozen BK291.out 1))
    refine bodyPost_ret (results_cell_row rfl _ _ gb291 62 #[.slice none 0 0, .int .i64 0] (0, 0) _ rfl (by (with_reducible repeat (first | refine blk_drewN ?_ _ | refine blk_drew ?_ | refine blk_alloc ?_ _)); refine blk_put (cs := #[.slice none 0 0, .int .i64 0]) ?_ 1 _ rfl; (with_reducible repeat (first | refine blk_drewN ?_ _ | refine blk_drew ?_ | refine blk_alloc ?_ _)); refine blk_put (cs := #[.slice none 0 0, .int .i64 0]) ?_ 0 _ rfl; (with_reducible repeat (first | refine blk_drewN ?_ _ | refine blk_drew ?_ | refine blk_alloc ?_ _)); exact BK291.out) Try.underlying62 rfl (by kernel_rfl)) rfl ?_
    exact ⟨_, by first | rfl | (simp [errW_none, errW_some] <;> rfl) | (simp [*, errW_none, errW_some] <;> rfl), by first | exact Kd.R_nil _ _ _ _ _ | exact Kd.N_nil _ _ _ _ _ | exact Kd.V_nil _ _ _ _ _ | exact Kd.Q_nil _ _ _ _ _ | exact Kd.S_nil _ _ _ _ _, by repeat (first | (with_reducible first | exact HB.out | apply below_alloc | apply pw_below_drewN | apply below_drew1 | refine below_set ?_ GE291.out) | exact HB.out)⟩
end Go.Proofs.Ytlgfnclgkhfhpaa.P
end

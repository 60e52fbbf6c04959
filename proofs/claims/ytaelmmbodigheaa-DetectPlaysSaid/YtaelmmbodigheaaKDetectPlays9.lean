-- PUT TOGETHER by a program of this session: of the claim's texts, what is used
import Derived.Test.YtaelmmbodigheaaKDetectPlays7
import Derived.Test.YtaelmmbodigheaaKDetectPlays8
section
namespace Go.Proofs.Ytaelmmbodigheaa.P
open Go.RowKit Go.Proofs.YtaelmmbodigheaaW.PrintWords Go.Proofs.YtaelmmbodigheaaW.PrintLast Go.Proofs.YtaelmmbodigheaaW.PrintMore
attribute [local go_sem] max2_int min2_int max_two min_two max_three min_three max_four min_four   -- for this text's walks alone
set_option linter.unusedVariables false
set_option linter.unusedSimpArgs false
mutual
def flywheelref02_Did.j0 : Nat → Int → Int → Int → Int → Bool → Option (Int × Bool)
  | 0, _, _, _, _, _ => none
  | k + 1, x0, x1, x2, x3, x23 => if x23 = true then (some (0, false)) else ((flywheelref02_size.f x0).bind fun t183 => ((flywheelref02_size.f x1).bind fun t184 => ((flywheelref02_times.f t183 t184).bind fun bt185 => ((flywheelref02_size.f x2).bind fun t187 => ((flywheelref02_part.f k bt185.1 bt185.2 t187).bind fun bt188 => (if x0 < 0 then (if x1 < 0 then (if x2 < 0 then (flywheelref02_Did.j1 k x2 x3 true bt188.1 bt188.2.1 bt188.2.2) else (flywheelref02_Did.j1 k x2 x3 false bt188.1 bt188.2.1 bt188.2.2)) else (if x2 < 0 then (flywheelref02_Did.j1 k x2 x3 false bt188.1 bt188.2.1 bt188.2.2) else (flywheelref02_Did.j1 k x2 x3 true bt188.1 bt188.2.1 bt188.2.2))) else (if x1 < 0 then (if x2 < 0 then (flywheelref02_Did.j1 k x2 x3 false bt188.1 bt188.2.1 bt188.2.2) else (flywheelref02_Did.j1 k x2 x3 true bt188.1 bt188.2.1 bt188.2.2)) else (if x2 < 0 then (flywheelref02_Did.j1 k x2 x3 true bt188.1 bt188.2.1 bt188.2.2) else (flywheelref02_Did.j1 k x2 x3 false bt188.1 bt188.2.1 bt188.2.2)))))))))
def flywheelref02_Did.j1 : Nat → Int → Int → Bool → Int → Bool → Int → Option (Int × Bool)
  | 0, _, _, _, _, _, _ => none
  | k + 1, x2, x3, x10, x192000, x192001, x192002 => if x192002 = 0 then (flywheelref02_Did.j2 k x10 false x192000 x192001 x192002) else (if x3 = 1 then (flywheelref02_Did.j2 k x10 x10 x192000 x192001 x192002) else (if x3 = 3 then (flywheelref02_Did.j2 k x10 (!x10) x192000 x192001 x192002) else (if x10 = true then ((flywheelref02_size.f x2).bind fun t192 => (flywheelref02_Did.j2 k x10 (decide (x192002 > (IntKind.u64.wrap (t192 - x192002)))) x192000 x192001 x192002)) else ((flywheelref02_size.f x2).bind fun t193 => (flywheelref02_Did.j2 k x10 (decide (x192002 ≥ (IntKind.u64.wrap (t193 - x192002)))) x192000 x192001 x192002)))))
def flywheelref02_Did.j2 : Nat → Bool → Bool → Int → Bool → Int → Option (Int × Bool)
  | 0, _, _, _, _, _ => none
  | k + 1, x10, x11, x192000, x192001, x192002 => if x11 = true then (if x192001 = true then (flywheelref02_Did.j3 k x10 (IntKind.u64.wrap (x192000 + 1)) true) else (flywheelref02_Did.j3 k x10 (IntKind.u64.wrap (x192000 + 1)) ((IntKind.u64.wrap (x192000 + 1)) == 0))) else (flywheelref02_Did.j3 k x10 x192000 x192001)
def flywheelref02_Did.j3 : Nat → Bool → Int → Bool → Option (Int × Bool)
  | 0, _, _, _ => none
  | k + 1, x10, x12, x13 => if x10 = true then (if x13 = true then (flywheelref02_Did.j4 k x12 true) else (flywheelref02_Did.j4 k x12 (decide (x12 > 9223372036854775808)))) else (if x13 = true then (some (9223372036854775807, false)) else (if x12 > 9223372036854775807 then (some (9223372036854775807, false)) else (some (wrap64 (x12), true))))
def flywheelref02_Did.j4 : Nat → Int → Bool → Option (Int × Bool)
  | 0, _, _ => none
  | k + 1, x12, x89 => if x89 = true then (some ((-9223372036854775808), false)) else (some (wrap64 (-(wrap64 (x12))), true))
end
def flywheelref02_Did.f (k : Nat) (a0 : Int) (a1 : Int) (a2 : Int) (a3 : Int) : Option (Int × Bool) := if a2 = 0 then (flywheelref02_Did.j0 k a0 a1 a2 a3 true) else (if a3 < 1 then (flywheelref02_Did.j0 k a0 a1 a2 a3 true) else (flywheelref02_Did.j0 k a0 a1 a2 a3 (decide (a3 > 3))))
set_option maxHeartbeats 8000000 in
set_option maxRecDepth 100000 in
theorem flywheelref02_Did.calls (k : Nat) (a0 : Int) (a1 : Int) (a2 : Int) (a3 : Int) (r1 : Int) (r2 : Bool) (w : World) (h : flywheelref02_Did.f k a0 a1 a2 a3 = some (r1, r2)) :
    Calls Try.prog 56 #[.int .i64 a0, .int .i64 a1, .int .i64 a2, .int .i64 a3] w fun e w' => e = .returned (.agg #[.int .i64 r1, .bool r2]) ∧ Below w.heap.size w w' := by
  have hu87 := Try.underlying87
  have hu94 := Try.underlying94
  have HB := Aside0.mk (Below.refl w.heap.size w)
  have H : (if a2 = 0 then (flywheelref02_Did.j0 k a0 a1 a2 a3 true) else (if a3 < 1 then (flywheelref02_Did.j0 k a0 a1 a2 a3 true) else (flywheelref02_Did.j0 k a0 a1 a2 a3 (decide (a3 > 3))))) = some (r1, r2) := h
  clear h
  have HC5 := Aside0.mk H
  clear H
  go_enter Try.func56, Try.ntmps56
  go_upto_region 1 with (first | ((with_reducible refine gate_dst (N := 8) rfl ?_); refine box_event ?hg (N := 8) ?hd (cs := #[.int .i64 0, .bool false]) (t := 87) ?hr ?_; (case hd => rfl); (case hg => rfl); (case hr => first | (go_simp; done) | (go_simp; rfl)); intro gb182 hg w6 hbox hb; have n0_ := Aside0.mk (below_step (by repeat (first | (with_reducible first | exact HB.out | apply below_alloc | apply pw_below_drewN | apply below_drew1) | exact HB.out)) hb); have n1_ := Aside0.mk (hbox); have n2_ := Aside0.mk ((by rw [hg]; exact (below_size (by repeat (first | (with_reducible first | exact HB.out | apply below_alloc | apply pw_below_drewN | apply below_drew1) | exact HB.out))) : w.heap.size ≤ gb182)); have n3_ := Aside0.mk ((by rw [hg]; exact (below_size (by repeat (first | (with_reducible first | exact HB.out | apply below_alloc | apply pw_below_drewN | apply below_drew1) | exact HB.out))) : w.heap.size ≤ gb182)); clear HB; have HB := n0_; have BK182 := n1_; have GW182 := n2_; have GE182 := n3_; clear n0_ n1_ n2_ n3_; clear hb hbox hg))
  repeat (go_quiet (first | ((with_reducible refine gate_dst (N := 8) rfl ?_); refine box_event ?hg (N := 8) ?hd (cs := #[.int .i64 0, .bool false]) (t := 87) ?hr ?_; (case hd => rfl); (case hg => rfl); (case hr => first | (go_simp; done) | (go_simp; rfl)); intro gb182 hg w6 hbox hb; have n0_ := Aside0.mk (below_step (by repeat (first | (with_reducible first | exact HB.out | apply below_alloc | apply pw_below_drewN | apply below_drew1) | exact HB.out)) hb); have n1_ := Aside0.mk (hbox); have n2_ := Aside0.mk ((by rw [hg]; exact (below_size (by repeat (first | (with_reducible first | exact HB.out | apply below_alloc | apply pw_below_drewN | apply below_drew1) | exact HB.out))) : w.heap.size ≤ gb182)); have n3_ := Aside0.mk ((by rw [hg]; exact (below_size (by repeat (first | (with_reducible first | exact HB.out | apply below_alloc | apply pw_below_drewN | apply below_drew1) | exact HB.out))) : w.heap.size ≤ gb182)); clear HB; have HB := n0_; have BK182 := n1_; have GW182 := n2_; have GE182 := n3_; clear n0_ n1_ n2_ n3_; clear hb hbox hg)); go_upto_region 1 with (first | ((with_reducible refine gate_dst (N := 8) rfl ?_); refine box_event ?hg (N := 8) ?hd (cs := #[.int .i64 0, .bool false]) (t := 87) ?hr ?_; (case hd => rfl); (case hg => rfl); (case hr => first | (go_simp; done) | (go_simp; rfl)); intro gb182 hg w6 hbox hb; have n0_ := Aside0.mk (below_step (by repeat (first | (with_reducible first | exact HB.out | apply below_alloc | apply pw_below_drewN | apply below_drew1) | exact HB.out)) hb); have n1_ := Aside0.mk (hbox); have n2_ := Aside0.mk ((by rw [hg]; exact (below_size (by repeat (first | (with_reducible first | exact HB.out | apply below_alloc | apply pw_below_drewN | apply below_drew1) | exact HB.out))) : w.heap.size ≤ gb182)); have n3_ := Aside0.mk ((by rw [hg]; exact (below_size (by repeat (first | (with_reducible first | exact HB.out | apply below_alloc | apply pw_below_drewN | apply below_drew1) | exact HB.out))) : w.heap.size ≤ gb182)); clear HB; have HB := n0_; have BK182 := n1_; have GW182 := n2_; have GE182 := n3_; clear n0_ n1_ n2_ n3_; clear hb hbox hg)))
  (try simp only [Act.put, List.setIfInBounds_toArray, List.set_cons_zero, List.set_cons_succ])
  go_cut [23] (fun v23 wc => ∃ (kq : Nat) (x23_4 : Bool), v23 = .bool x23_4 ∧ Aside0 (flywheelref02_Did.j0 kq a0 a1 a2 a3 x23_4 = some (r1, r2)) ∧ Aside0 (kq ≤ k) ∧ Aside0 (wc.heap[gb182]? = some (.cells #[.int .i64 0, .bool false] 87 (0, 0))) ∧ Aside0 (Below w.heap.size w wc))
  case first =>
    have H := HC5.out
    clear HC5
    by_cases c7 : a2 = 0
    · rw [if_pos c7] at H
      have c7b0 : (a2 == 0) = true := beq_iff_eq.mpr c7
      have c7b1 : (a2 != 0) = false := bne_eq_false_iff_eq.mpr c7
      clear c7
      (first | rw [c7b0] | (simp only [i64_w, i32_w]; rw [c7b0]) | skip)
      have H' := Aside0.mk H
      clear H
      go_wp2
      repeat (go_quiet (fail); try go_wp2)
      go_meet
      case rel => exact ⟨_, (true), (by first | rfl | (simp; done) | (simp [*]; done)), H', ⟨by first | omega | exact Nat.le_refl _⟩, ⟨by (with_reducible repeat (first | refine blk_drewN ?_ _ | refine blk_drew ?_ | refine blk_alloc ?_ _)); exact BK182.out⟩, ⟨by repeat (first | (with_reducible first | exact HB.out | apply below_alloc | apply pw_below_drewN | apply below_drew1 | refine below_set ?_ GE182.out) | exact HB.out)⟩⟩
    · rw [if_neg c7] at H
      have c7b0 : (a2 == 0) = false := beq_eq_false_iff_ne.mpr c7
      have c7b1 : (a2 != 0) = true := bne_iff_ne.mpr c7
      (first | rw [c7b0] | (simp only [i64_w, i32_w]; rw [c7b0]) | skip)
      by_cases c8 : a3 < 1
      · rw [if_pos c8] at H
        have c8b0 : decide (a3 < 1) = true := decide_eq_true c8
        clear c8
        have H' := Aside0.mk H
        clear H
        go_wp2
        repeat (go_quiet (fail); try go_wp2)
        go_meet
        case rel => exact ⟨_, (true), (by first | rfl | (simp; done) | (simp [*]; done)), H', ⟨by first | omega | exact Nat.le_refl _⟩, ⟨by (with_reducible repeat (first | refine blk_drewN ?_ _ | refine blk_drew ?_ | refine blk_alloc ?_ _)); exact BK182.out⟩, ⟨by repeat (first | (with_reducible first | exact HB.out | apply below_alloc | apply pw_below_drewN | apply below_drew1 | refine below_set ?_ GE182.out) | exact HB.out)⟩⟩
      · rw [if_neg c8] at H
        have c8b0 : decide (a3 < 1) = false := decide_eq_false c8
        clear c8
        have H' := Aside0.mk H
        clear H
        go_wp2
        repeat (go_quiet (fail); try go_wp2)
        go_meet
        case rel => exact ⟨_, (decide (a3 > 3)), (by first | rfl | (simp; done) | (simp [*]; done)), H', ⟨by first | omega | exact Nat.le_refl _⟩, ⟨by (with_reducible repeat (first | refine blk_drewN ?_ _ | refine blk_drew ?_ | refine blk_alloc ?_ _)); exact BK182.out⟩, ⟨by repeat (first | (with_reducible first | exact HB.out | apply below_alloc | apply pw_below_drewN | apply below_drew1 | refine below_set ?_ GE182.out) | exact HB.out)⟩⟩
  case rest =>
    clear HC5
    try clear p2
    try clear c5
    try clear c7
    try clear c7b0
    try clear c7b1
    try clear c8
    try clear c8b0
    obtain ⟨kq, x23_4, rfl, HA, HJ4, BK182, HB⟩ := hcut
    cases kq with
    | zero => exact absurd HA.out (by simp [flywheelref02_Did.j0])
    | succ kj4 =>
      have H := HA.out
      clear HA
      simp only [flywheelref02_Did.j0] at H
      by_cases c9 : x23_4 = true
      · subst c9
        have H1 : (some (0, false)) = some (r1, r2) := by rw [if_pos rfl] at H; exact H
        clear H
        have H := H1
        clear H1
        simp only [Option.some.injEq, Prod.mk.injEq] at H
        obtain ⟨rfl, rfl⟩ := H
        have hcz10_0 : wc.cell? ⟨gb182, 0, none⟩ = some (.int .i64 0) := (blk_cell BK182.out 0).trans rfl
        have hcz10_1 : wc.cell? ⟨gb182, 1, none⟩ = some (.bool false) := (blk_cell BK182.out 1).trans rfl
        have hfz10_0 := blk_frozen BK182.out 0
        have hfz10_1 := blk_frozen BK182.out 1
        go_wp2
        repeat (go_quiet (fail); try go_wp2)
        refine bodyPost_ret (results_cell_row rfl _ _ gb182 87 #[.int .i64 0, .bool false] (0, 0) _ rfl (by (with_reducible repeat (first | refine blk_drewN ?_ _ | refine blk_drew ?_ | refine blk_alloc ?_ _)); refine blk_put (cs := #[.int .i64 0, .bool false]) ?_ 1 _ rfl; (with_reducible repeat (first | refine blk_drewN ?_ _ | refine blk_drew ?_ | refine blk_alloc ?_ _)); refine blk_put (cs := #[.int .i64 0, .bool false]) ?_ 0 _ rfl; (with_reducible repeat (first | refine blk_drewN ?_ _ | refine blk_drew ?_ | refine blk_alloc ?_ _)); exact BK182.out) Try.underlying87 rfl (by kernel_rfl)) rfl ?_
        exact ⟨by first | rfl | (simp [errW_none, errW_some] <;> rfl) | (simp [*, errW_none, errW_some] <;> rfl), by repeat (first | (with_reducible first | exact HB.out | apply below_alloc | apply pw_below_drewN | apply below_drew1 | refine below_set ?_ GE182.out) | exact HB.out)⟩
      · replace c9 := Bool.eq_false_iff.mpr c9
        subst c9
        have H1 : ((flywheelref02_size.f a0).bind fun t183 => ((flywheelref02_size.f a1).bind fun t184 => ((flywheelref02_times.f t183 t184).bind fun bt185 => ((flywheelref02_size.f a2).bind fun t187 => ((flywheelref02_part.f kj4 bt185.1 bt185.2 t187).bind fun bt188 => (if a0 < 0 then (if a1 < 0 then (if a2 < 0 then (flywheelref02_Did.j1 kj4 a2 a3 true bt188.1 bt188.2.1 bt188.2.2) else (flywheelref02_Did.j1 kj4 a2 a3 false bt188.1 bt188.2.1 bt188.2.2)) else (if a2 < 0 then (flywheelref02_Did.j1 kj4 a2 a3 false bt188.1 bt188.2.1 bt188.2.2) else (flywheelref02_Did.j1 kj4 a2 a3 true bt188.1 bt188.2.1 bt188.2.2))) else (if a1 < 0 then (if a2 < 0 then (flywheelref02_Did.j1 kj4 a2 a3 false bt188.1 bt188.2.1 bt188.2.2) else (flywheelref02_Did.j1 kj4 a2 a3 true bt188.1 bt188.2.1 bt188.2.2)) else (if a2 < 0 then (flywheelref02_Did.j1 kj4 a2 a3 true bt188.1 bt188.2.1 bt188.2.2) else (flywheelref02_Did.j1 kj4 a2 a3 false bt188.1 bt188.2.1 bt188.2.2))))))))) = some (r1, r2) := by rw [if_neg (show ¬ (false = true) by decide)] at H; exact H
        clear H
        have H := H1
        clear H1
        replace H := Option.bind_eq_some_iff.mp H
        obtain ⟨t183, A110, H⟩ := H
        replace H : ((flywheelref02_size.f a1).bind fun t184 => ((flywheelref02_times.f t183 t184).bind fun bt185 => ((flywheelref02_size.f a2).bind fun t187 => ((flywheelref02_part.f kj4 bt185.1 bt185.2 t187).bind fun bt188 => (if a0 < 0 then (if a1 < 0 then (if a2 < 0 then (flywheelref02_Did.j1 kj4 a2 a3 true bt188.1 bt188.2.1 bt188.2.2) else (flywheelref02_Did.j1 kj4 a2 a3 false bt188.1 bt188.2.1 bt188.2.2)) else (if a2 < 0 then (flywheelref02_Did.j1 kj4 a2 a3 false bt188.1 bt188.2.1 bt188.2.2) else (flywheelref02_Did.j1 kj4 a2 a3 true bt188.1 bt188.2.1 bt188.2.2))) else (if a1 < 0 then (if a2 < 0 then (flywheelref02_Did.j1 kj4 a2 a3 false bt188.1 bt188.2.1 bt188.2.2) else (flywheelref02_Did.j1 kj4 a2 a3 true bt188.1 bt188.2.1 bt188.2.2)) else (if a2 < 0 then (flywheelref02_Did.j1 kj4 a2 a3 true bt188.1 bt188.2.1 bt188.2.2) else (flywheelref02_Did.j1 kj4 a2 a3 false bt188.1 bt188.2.1 bt188.2.2)))))))) = some (r1, r2) := H
        have A11 := Aside0.mk A110
        clear A110
        replace H := Option.bind_eq_some_iff.mp H
        obtain ⟨t184, A120, H⟩ := H
        replace H : ((flywheelref02_times.f t183 t184).bind fun bt185 => ((flywheelref02_size.f a2).bind fun t187 => ((flywheelref02_part.f kj4 bt185.1 bt185.2 t187).bind fun bt188 => (if a0 < 0 then (if a1 < 0 then (if a2 < 0 then (flywheelref02_Did.j1 kj4 a2 a3 true bt188.1 bt188.2.1 bt188.2.2) else (flywheelref02_Did.j1 kj4 a2 a3 false bt188.1 bt188.2.1 bt188.2.2)) else (if a2 < 0 then (flywheelref02_Did.j1 kj4 a2 a3 false bt188.1 bt188.2.1 bt188.2.2) else (flywheelref02_Did.j1 kj4 a2 a3 true bt188.1 bt188.2.1 bt188.2.2))) else (if a1 < 0 then (if a2 < 0 then (flywheelref02_Did.j1 kj4 a2 a3 false bt188.1 bt188.2.1 bt188.2.2) else (flywheelref02_Did.j1 kj4 a2 a3 true bt188.1 bt188.2.1 bt188.2.2)) else (if a2 < 0 then (flywheelref02_Did.j1 kj4 a2 a3 true bt188.1 bt188.2.1 bt188.2.2) else (flywheelref02_Did.j1 kj4 a2 a3 false bt188.1 bt188.2.1 bt188.2.2))))))) = some (r1, r2) := H
        have A12 := Aside0.mk A120
        clear A120
        replace H := Option.bind_eq_some_iff.mp H
        obtain ⟨⟨t185, t186⟩, A130, H⟩ := H
        replace H : ((flywheelref02_size.f a2).bind fun t187 => ((flywheelref02_part.f kj4 t185 t186 t187).bind fun bt188 => (if a0 < 0 then (if a1 < 0 then (if a2 < 0 then (flywheelref02_Did.j1 kj4 a2 a3 true bt188.1 bt188.2.1 bt188.2.2) else (flywheelref02_Did.j1 kj4 a2 a3 false bt188.1 bt188.2.1 bt188.2.2)) else (if a2 < 0 then (flywheelref02_Did.j1 kj4 a2 a3 false bt188.1 bt188.2.1 bt188.2.2) else (flywheelref02_Did.j1 kj4 a2 a3 true bt188.1 bt188.2.1 bt188.2.2))) else (if a1 < 0 then (if a2 < 0 then (flywheelref02_Did.j1 kj4 a2 a3 false bt188.1 bt188.2.1 bt188.2.2) else (flywheelref02_Did.j1 kj4 a2 a3 true bt188.1 bt188.2.1 bt188.2.2)) else (if a2 < 0 then (flywheelref02_Did.j1 kj4 a2 a3 true bt188.1 bt188.2.1 bt188.2.2) else (flywheelref02_Did.j1 kj4 a2 a3 false bt188.1 bt188.2.1 bt188.2.2)))))) = some (r1, r2) := H
        have A13 := Aside0.mk A130
        clear A130
        replace H := Option.bind_eq_some_iff.mp H
        obtain ⟨t187, A140, H⟩ := H
        replace H : ((flywheelref02_part.f kj4 t185 t186 t187).bind fun bt188 => (if a0 < 0 then (if a1 < 0 then (if a2 < 0 then (flywheelref02_Did.j1 kj4 a2 a3 true bt188.1 bt188.2.1 bt188.2.2) else (flywheelref02_Did.j1 kj4 a2 a3 false bt188.1 bt188.2.1 bt188.2.2)) else (if a2 < 0 then (flywheelref02_Did.j1 kj4 a2 a3 false bt188.1 bt188.2.1 bt188.2.2) else (flywheelref02_Did.j1 kj4 a2 a3 true bt188.1 bt188.2.1 bt188.2.2))) else (if a1 < 0 then (if a2 < 0 then (flywheelref02_Did.j1 kj4 a2 a3 false bt188.1 bt188.2.1 bt188.2.2) else (flywheelref02_Did.j1 kj4 a2 a3 true bt188.1 bt188.2.1 bt188.2.2)) else (if a2 < 0 then (flywheelref02_Did.j1 kj4 a2 a3 true bt188.1 bt188.2.1 bt188.2.2) else (flywheelref02_Did.j1 kj4 a2 a3 false bt188.1 bt188.2.1 bt188.2.2))))) = some (r1, r2) := H
        have A14 := Aside0.mk A140
        clear A140
        replace H := Option.bind_eq_some_iff.mp H
        obtain ⟨⟨t188, t189, t190⟩, A150, H⟩ := H
        replace H : (if a0 < 0 then (if a1 < 0 then (if a2 < 0 then (flywheelref02_Did.j1 kj4 a2 a3 true t188 t189 t190) else (flywheelref02_Did.j1 kj4 a2 a3 false t188 t189 t190)) else (if a2 < 0 then (flywheelref02_Did.j1 kj4 a2 a3 false t188 t189 t190) else (flywheelref02_Did.j1 kj4 a2 a3 true t188 t189 t190))) else (if a1 < 0 then (if a2 < 0 then (flywheelref02_Did.j1 kj4 a2 a3 false t188 t189 t190) else (flywheelref02_Did.j1 kj4 a2 a3 true t188 t189 t190)) else (if a2 < 0 then (flywheelref02_Did.j1 kj4 a2 a3 true t188 t189 t190) else (flywheelref02_Did.j1 kj4 a2 a3 false t188 t189 t190)))) = some (r1, r2) := H
        have A15 := Aside0.mk A150
        clear A150
        have HC16 := Aside0.mk H
        clear H
        go_upto_region 4 with (first | (go_at_call 63; (with_reducible refine (flywheelref02_size.calls a0 t183 _ A11.out).mono ?_); rintro e w' ⟨rfl, ⟨nd, rfl⟩⟩; (try first | exact ⟨rfl, _, World.drewN_drewN _ _ _⟩ | exact ⟨rfl, _, Eq.trans (World.drewN_drewN _ _ _) (congrArg (World.drewN _) (Nat.add_assoc _ _ _))⟩)) | (go_at_call 63; (with_reducible refine (flywheelref02_size.calls a1 t184 _ A12.out).mono ?_); rintro e w' ⟨rfl, ⟨nd, rfl⟩⟩; (try first | exact ⟨rfl, _, World.drewN_drewN _ _ _⟩ | exact ⟨rfl, _, Eq.trans (World.drewN_drewN _ _ _) (congrArg (World.drewN _) (Nat.add_assoc _ _ _))⟩)) | (go_at_call 62; (with_reducible refine (flywheelref02_times.calls t183 t184 t185 t186 _ A13.out).mono ?_); rintro e w17 ⟨rfl, hb⟩; have n0_ := Aside0.mk (blk_below (g := gb182) (o := .cells #[.int .i64 0, .bool false] 87 (0, 0)) (by (with_reducible repeat (first | refine blk_drewN ?_ _ | refine blk_drew ?_ | refine blk_alloc ?_ _)); exact BK182.out) hb); have n1_ := Aside0.mk (below_step (by repeat (first | (with_reducible first | exact HB.out | apply below_alloc | apply pw_below_drewN | apply below_drew1 | refine below_set ?_ GE182.out) | exact HB.out)) hb); clear BK182; clear HB; have BK182 := n0_; have HB := n1_; clear n0_ n1_; (try clear hb); (try clear hb2); (try clear hk); (try clear hi)) | (go_at_call 63; (with_reducible refine (flywheelref02_size.calls a2 t187 _ A14.out).mono ?_); rintro e w' ⟨rfl, ⟨nd, rfl⟩⟩; (try first | exact ⟨rfl, _, World.drewN_drewN _ _ _⟩ | exact ⟨rfl, _, Eq.trans (World.drewN_drewN _ _ _) (congrArg (World.drewN _) (Nat.add_assoc _ _ _))⟩)) | (go_at_call 61; (with_reducible refine (flywheelref02_part.calls kj4 t185 t186 t187 t188 t189 t190 _ A15.out).mono ?_); rintro e w18 ⟨rfl, hb⟩; have n0_ := Aside0.mk (blk_below (g := gb182) (o := .cells #[.int .i64 0, .bool false] 87 (0, 0)) (by (with_reducible repeat (first | refine blk_drewN ?_ _ | refine blk_drew ?_ | refine blk_alloc ?_ _)); exact BK182.out) hb); have n1_ := Aside0.mk (below_step (by repeat (first | (with_reducible first | exact HB.out | apply below_alloc | apply pw_below_drewN | apply below_drew1 | refine below_set ?_ GE182.out) | exact HB.out)) hb); clear BK182; clear HB; have BK182 := n0_; have HB := n1_; clear n0_ n1_; (try clear hb); (try clear hb2); (try clear hk); (try clear hi)) | ((with_reducible refine gate_dst (N := 9) rfl ?_); refine box_event ?hg (N := 9) ?hd (cs := #[.int .u64 0, .bool false, .int .u64 0]) (t := 94) ?hr ?_; (case hd => rfl); (case hg => rfl); (case hr => first | (go_simp; done) | (go_simp; rfl)); intro gb191 hg w19 hbox hb; have n0_ := Aside0.mk (blk_below (g := gb182) (o := .cells #[.int .i64 0, .bool false] 87 (0, 0)) (by (with_reducible repeat (first | refine blk_drewN ?_ _ | refine blk_drew ?_ | refine blk_alloc ?_ _)); exact BK182.out) hb); have n1_ := Aside0.mk (below_step (by repeat (first | (with_reducible first | exact HB.out | apply below_alloc | apply pw_below_drewN | apply below_drew1 | refine below_set ?_ GE182.out) | exact HB.out)) hb); have n2_ := Aside0.mk (hbox); have n3_ := Aside0.mk ((by rw [hg]; exact (below_size (by repeat (first | (with_reducible first | exact HB.out | apply below_alloc | apply pw_below_drewN | apply below_drew1 | refine below_set ?_ GE182.out) | exact HB.out))) : w.heap.size ≤ gb191)); have n4_ := Aside0.mk ((by rw [hg]; exact (below_size (by repeat (first | (with_reducible first | exact HB.out | apply below_alloc | apply pw_below_drewN | apply below_drew1 | refine below_set ?_ GE182.out) | exact HB.out))) : w.heap.size ≤ gb191)); have n5_ := Aside0.mk ((by rw [hg]; exact Nat.ne_of_lt (blk_lt (g := gb182) (o := .cells #[.int .i64 0, .bool false] 87 (0, 0)) (by (with_reducible repeat (first | refine blk_drewN ?_ _ | refine blk_drew ?_ | refine blk_alloc ?_ _)); exact BK182.out)) : gb182 ≠ gb191)); have n6_ := Aside0.mk ((by rw [hg]; exact Nat.ne_of_gt (blk_lt (g := gb182) (o := .cells #[.int .i64 0, .bool false] 87 (0, 0)) (by (with_reducible repeat (first | refine blk_drewN ?_ _ | refine blk_drew ?_ | refine blk_alloc ?_ _)); exact BK182.out)) : gb191 ≠ gb182)); clear BK182; clear HB; have BK182 := n0_; have HB := n1_; have BK191 := n2_; have GW191 := n3_; have GE191 := n4_; have NB182_191 := n5_; have NB191_182 := n6_; clear n0_ n1_ n2_ n3_ n4_ n5_ n6_; clear hb hbox hg; have hnb20 := NB191_182.out; have hnc20 := NB182_191.out; have hcz21_0 : w19.cell? ⟨gb191, 0, none⟩ = some (.int .u64 0) := (blk_cell BK191.out 0).trans rfl; have hcz21_1 : w19.cell? ⟨gb191, 1, none⟩ = some (.bool false) := (blk_cell BK191.out 1).trans rfl; have hcz21_2 : w19.cell? ⟨gb191, 2, none⟩ = some (.int .u64 0) := (blk_cell BK191.out 2).trans rfl; have hfz21_0 := blk_frozen BK191.out 0; have hfz21_1 := blk_frozen BK191.out 1; have hfz21_2 := blk_frozen BK191.out 2))
        repeat (go_quiet (first | (go_at_call 63; (with_reducible refine (flywheelref02_size.calls a0 t183 _ A11.out).mono ?_); rintro e w' ⟨rfl, ⟨nd, rfl⟩⟩; (try first | exact ⟨rfl, _, World.drewN_drewN _ _ _⟩ | exact ⟨rfl, _, Eq.trans (World.drewN_drewN _ _ _) (congrArg (World.drewN _) (Nat.add_assoc _ _ _))⟩)) | (go_at_call 63; (with_reducible refine (flywheelref02_size.calls a1 t184 _ A12.out).mono ?_); rintro e w' ⟨rfl, ⟨nd, rfl⟩⟩; (try first | exact ⟨rfl, _, World.drewN_drewN _ _ _⟩ | exact ⟨rfl, _, Eq.trans (World.drewN_drewN _ _ _) (congrArg (World.drewN _) (Nat.add_assoc _ _ _))⟩)) | (go_at_call 62; (with_reducible refine (flywheelref02_times.calls t183 t184 t185 t186 _ A13.out).mono ?_); rintro e w17 ⟨rfl, hb⟩; have n0_ := Aside0.mk (blk_below (g := gb182) (o := .cells #[.int .i64 0, .bool false] 87 (0, 0)) (by (with_reducible repeat (first | refine blk_drewN ?_ _ | refine blk_drew ?_ | refine blk_alloc ?_ _)); exact BK182.out) hb); have n1_ := Aside0.mk (below_step (by repeat (first | (with_reducible first | exact HB.out | apply below_alloc | apply pw_below_drewN | apply below_drew1 | refine below_set ?_ GE182.out) | exact HB.out)) hb); clear BK182; clear HB; have BK182 := n0_; have HB := n1_; clear n0_ n1_; (try clear hb); (try clear hb2); (try clear hk); (try clear hi)) | (go_at_call 63; (with_reducible refine (flywheelref02_size.calls a2 t187 _ A14.out).mono ?_); rintro e w' ⟨rfl, ⟨nd, rfl⟩⟩; (try first | exact ⟨rfl, _, World.drewN_drewN _ _ _⟩ | exact ⟨rfl, _, Eq.trans (World.drewN_drewN _ _ _) (congrArg (World.drewN _) (Nat.add_assoc _ _ _))⟩)) | (go_at_call 61; (with_reducible refine (flywheelref02_part.calls kj4 t185 t186 t187 t188 t189 t190 _ A15.out).mono ?_); rintro e w18 ⟨rfl, hb⟩; have n0_ := Aside0.mk (blk_below (g := gb182) (o := .cells #[.int .i64 0, .bool false] 87 (0, 0)) (by (with_reducible repeat (first | refine blk_drewN ?_ _ | refine blk_drew ?_ | refine blk_alloc ?_ _)); exact BK182.out) hb); have n1_ := Aside0.mk (below_step (by repeat (first | (with_reducible first | exact HB.out | apply below_alloc | apply pw_below_drewN | apply below_drew1 | refine below_set ?_ GE182.out) | exact HB.out)) hb); clear BK182; clear HB; have BK182 := n0_; have HB := n1_; clear n0_ n1_; (try clear hb); (try clear hb2); (try clear hk); (try clear hi)) | ((with_reducible refine gate_dst (N := 9) rfl ?_); refine box_event ?hg (N := 9) ?hd (cs := #[.int .u64 0, .bool false, .int .u64 0]) (t := 94) ?hr ?_; (case hd => rfl); (case hg => rfl); (case hr => first | (go_simp; done) | (go_simp; rfl)); intro gb191 hg w19 hbox hb; have n0_ := Aside0.mk (blk_below (g := gb182) (o := .cells #[.int .i64 0, .bool false] 87 (0, 0)) (by (with_reducible repeat (first | refine blk_drewN ?_ _ | refine blk_drew ?_ | refine blk_alloc ?_ _)); exact BK182.out) hb); have n1_ := Aside0.mk (below_step (by repeat (first | (with_reducible first | exact HB.out | apply below_alloc | apply pw_below_drewN | apply below_drew1 | refine below_set ?_ GE182.out) | exact HB.out)) hb); have n2_ := Aside0.mk (hbox); have n3_ := Aside0.mk ((by rw [hg]; exact (below_size (by repeat (first | (with_reducible first | exact HB.out | apply below_alloc | apply pw_below_drewN | apply below_drew1 | refine below_set ?_ GE182.out) | exact HB.out))) : w.heap.size ≤ gb191)); have n4_ := Aside0.mk ((by rw [hg]; exact (below_size (by repeat (first | (with_reducible first | exact HB.out | apply below_alloc | apply pw_below_drewN | apply below_drew1 | refine below_set ?_ GE182.out) | exact HB.out))) : w.heap.size ≤ gb191)); have n5_ := Aside0.mk ((by rw [hg]; exact Nat.ne_of_lt (blk_lt (g := gb182) (o := .cells #[.int .i64 0, .bool false] 87 (0, 0)) (by (with_reducible repeat (first | refine blk_drewN ?_ _ | refine blk_drew ?_ | refine blk_alloc ?_ _)); exact BK182.out)) : gb182 ≠ gb191)); have n6_ := Aside0.mk ((by rw [hg]; exact Nat.ne_of_gt (blk_lt (g := gb182) (o := .cells #[.int .i64 0, .bool false] 87 (0, 0)) (by (with_reducible repeat (first | refine blk_drewN ?_ _ | refine blk_drew ?_ | refine blk_alloc ?_ _)); exact BK182.out)) : gb191 ≠ gb182)); clear BK182; clear HB; have BK182 := n0_; have HB := n1_; have BK191 := n2_; have GW191 := n3_; have GE191 := n4_; have NB182_191 := n5_; have NB191_182 := n6_; clear n0_ n1_ n2_ n3_ n4_ n5_ n6_; clear hb hbox hg; have hnb20 := NB191_182.out; have hnc20 := NB182_191.out; have hcz21_0 : w19.cell? ⟨gb191, 0, none⟩ = some (.int .u64 0) := (blk_cell BK191.out 0).trans rfl; have hcz21_1 : w19.cell? ⟨gb191, 1, none⟩ = some (.bool false) := (blk_cell BK191.out 1).trans rfl; have hcz21_2 : w19.cell? ⟨gb191, 2, none⟩ = some (.int .u64 0) := (blk_cell BK191.out 2).trans rfl; have hfz21_0 := blk_frozen BK191.out 0; have hfz21_1 := blk_frozen BK191.out 1; have hfz21_2 := blk_frozen BK191.out 2)); go_upto_region 4 with (first | (go_at_call 63; (with_reducible refine (flywheelref02_size.calls a0 t183 _ A11.out).mono ?_); rintro e w' ⟨rfl, ⟨nd, rfl⟩⟩; (try first | exact ⟨rfl, _, World.drewN_drewN _ _ _⟩ | exact ⟨rfl, _, Eq.trans (World.drewN_drewN _ _ _) (congrArg (World.drewN _) (Nat.add_assoc _ _ _))⟩)) | (go_at_call 63; (with_reducible refine (flywheelref02_size.calls a1 t184 _ A12.out).mono ?_); rintro e w' ⟨rfl, ⟨nd, rfl⟩⟩; (try first | exact ⟨rfl, _, World.drewN_drewN _ _ _⟩ | exact ⟨rfl, _, Eq.trans (World.drewN_drewN _ _ _) (congrArg (World.drewN _) (Nat.add_assoc _ _ _))⟩)) | (go_at_call 62; (with_reducible refine (flywheelref02_times.calls t183 t184 t185 t186 _ A13.out).mono ?_); rintro e w17 ⟨rfl, hb⟩; have n0_ := Aside0.mk (blk_below (g := gb182) (o := .cells #[.int .i64 0, .bool false] 87 (0, 0)) (by (with_reducible repeat (first | refine blk_drewN ?_ _ | refine blk_drew ?_ | refine blk_alloc ?_ _)); exact BK182.out) hb); have n1_ := Aside0.mk (below_step (by repeat (first | (with_reducible first | exact HB.out | apply below_alloc | apply pw_below_drewN | apply below_drew1 | refine below_set ?_ GE182.out) | exact HB.out)) hb); clear BK182; clear HB; have BK182 := n0_; have HB := n1_; clear n0_ n1_; (try clear hb); (try clear hb2); (try clear hk); (try clear hi)) | (go_at_call 63; (with_reducible refine (flywheelref02_size.calls a2 t187 _ A14.out).mono ?_); rintro e w' ⟨rfl, ⟨nd, rfl⟩⟩; (try first | exact ⟨rfl, _, World.drewN_drewN _ _ _⟩ | exact ⟨rfl, _, Eq.trans (World.drewN_drewN _ _ _) (congrArg (World.drewN _) (Nat.add_assoc _ _ _))⟩)) | (go_at_call 61; (with_reducible refine (flywheelref02_part.calls kj4 t185 t186 t187 t188 t189 t190 _ A15.out).mono ?_); rintro e w18 ⟨rfl, hb⟩; have n0_ := Aside0.mk (blk_below (g := gb182) (o := .cells #[.int .i64 0, .bool false] 87 (0, 0)) (by (with_reducible repeat (first | refine blk_drewN ?_ _ | refine blk_drew ?_ | refine blk_alloc ?_ _)); exact BK182.out) hb); have n1_ := Aside0.mk (below_step (by repeat (first | (with_reducible first | exact HB.out | apply below_alloc | apply pw_below_drewN | apply below_drew1 | refine below_set ?_ GE182.out) | exact HB.out)) hb); clear BK182; clear HB; have BK182 := n0_; have HB := n1_; clear n0_ n1_; (try clear hb); (try clear hb2); (try clear hk); (try clear hi)) | ((with_reducible refine gate_dst (N := 9) rfl ?_); refine box_event ?hg (N := 9) ?hd (cs := #[.int .u64 0, .bool false, .int .u64 0]) (t := 94) ?hr ?_; (case hd => rfl); (case hg => rfl); (case hr => first | (go_simp; done) | (go_simp; rfl)); intro gb191 hg w19 hbox hb; have n0_ := Aside0.mk (blk_below (g := gb182) (o := .cells #[.int .i64 0, .bool false] 87 (0, 0)) (by (with_reducible repeat (first | refine blk_drewN ?_ _ | refine blk_drew ?_ | refine blk_alloc ?_ _)); exact BK182.out) hb); have n1_ := Aside0.mk (below_step (by repeat (first | (with_reducible first | exact HB.out | apply below_alloc | apply pw_below_drewN | apply below_drew1 | refine below_set ?_ GE182.out) | exact HB.out)) hb); have n2_ := Aside0.mk (hbox); have n3_ := Aside0.mk ((by rw [hg]; exact (below_size (by repeat (first | (with_reducible first | exact HB.out | apply below_alloc | apply pw_below_drewN | apply below_drew1 | refine below_set ?_ GE182.out) | exact HB.out))) : w.heap.size ≤ gb191)); have n4_ := Aside0.mk ((by rw [hg]; exact (below_size (by repeat (first | (with_reducible first | exact HB.out | apply below_alloc | apply pw_below_drewN | apply below_drew1 | refine below_set ?_ GE182.out) | exact HB.out))) : w.heap.size ≤ gb191)); have n5_ := Aside0.mk ((by rw [hg]; exact Nat.ne_of_lt (blk_lt (g := gb182) (o := .cells #[.int .i64 0, .bool false] 87 (0, 0)) (by (with_reducible repeat (first | refine blk_drewN ?_ _ | refine blk_drew ?_ | refine blk_alloc ?_ _)); exact BK182.out)) : gb182 ≠ gb191)); have n6_ := Aside0.mk ((by rw [hg]; exact Nat.ne_of_gt (blk_lt (g := gb182) (o := .cells #[.int .i64 0, .bool false] 87 (0, 0)) (by (with_reducible repeat (first | refine blk_drewN ?_ _ | refine blk_drew ?_ | refine blk_alloc ?_ _)); exact BK182.out)) : gb191 ≠ gb182)); clear BK182; clear HB; have BK182 := n0_; have HB := n1_; have BK191 := n2_; have GW191 := n3_; have GE191 := n4_; have NB182_191 := n5_; have NB191_182 := n6_; clear n0_ n1_ n2_ n3_ n4_ n5_ n6_; clear hb hbox hg; have hnb20 := NB191_182.out; have hnc20 := NB182_191.out; have hcz21_0 : w19.cell? ⟨gb191, 0, none⟩ = some (.int .u64 0) := (blk_cell BK191.out 0).trans rfl; have hcz21_1 : w19.cell? ⟨gb191, 1, none⟩ = some (.bool false) := (blk_cell BK191.out 1).trans rfl; have hcz21_2 : w19.cell? ⟨gb191, 2, none⟩ = some (.int .u64 0) := (blk_cell BK191.out 2).trans rfl; have hfz21_0 := blk_frozen BK191.out 0; have hfz21_1 := blk_frozen BK191.out 1; have hfz21_2 := blk_frozen BK191.out 2)))
        (try simp only [Act.put, List.setIfInBounds_toArray, List.set_cons_zero, List.set_cons_succ])
        go_cut [10] (fun v10 wc => ∃ (kq : Nat) (x10_15 : Bool), v10 = .bool x10_15 ∧ Aside0 (flywheelref02_Did.j1 kq a2 a3 x10_15 t188 t189 t190 = some (r1, r2)) ∧ Aside0 (kq ≤ kj4) ∧ Aside0 (wc.heap[gb182]? = some (.cells #[.int .i64 0, .bool false] 87 (0, 0))) ∧ Aside0 (wc.heap[gb191]? = some (.cells #[.int .u64 t188, .bool t189, .int .u64 t190] 94 (0, 0))) ∧ Aside0 (Below w.heap.size w wc))
        case first =>
          have H := HC16.out
          clear HC16
          by_cases c22 : a0 < 0
          · rw [if_pos c22] at H
            have c22b0 : decide (a0 < 0) = true := decide_eq_true c22
            clear c22
            (first | rw [c22b0] | (simp only [i64_w, i32_w]; rw [c22b0]) | skip)
            by_cases c23 : a1 < 0
            · rw [if_pos c23] at H
              have c23b0 : decide (a1 < 0) = true := decide_eq_true c23
              clear c23
              by_cases c24 : a2 < 0
              · rw [if_pos c24] at H
                have c24b0 : decide (a2 < 0) = true := decide_eq_true c24
                clear c24
                have H' := Aside0.mk H
                clear H
                go_wp2
                repeat (go_quiet (fail); try go_wp2)
                go_meet
                case rel => exact ⟨_, (true), (by first | rfl | (simp; done) | (simp [*]; done)), H', ⟨by have := HJ4.out; first | omega | exact Nat.le_refl _⟩, ⟨by (with_reducible repeat (first | refine blk_drewN ?_ _ | refine blk_drew ?_ | refine blk_alloc ?_ _)); refine blk_far ?_ NB182_191.out _; (with_reducible repeat (first | refine blk_drewN ?_ _ | refine blk_drew ?_ | refine blk_alloc ?_ _)); refine blk_far ?_ NB182_191.out _; (with_reducible repeat (first | refine blk_drewN ?_ _ | refine blk_drew ?_ | refine blk_alloc ?_ _)); refine blk_far ?_ NB182_191.out _; (with_reducible repeat (first | refine blk_drewN ?_ _ | refine blk_drew ?_ | refine blk_alloc ?_ _)); exact BK182.out⟩, ⟨by (with_reducible repeat (first | refine blk_drewN ?_ _ | refine blk_drew ?_ | refine blk_alloc ?_ _)); refine blk_put (cs := #[.int .u64 t188, .bool t189, .int .u64 0]) ?_ 2 _ rfl; (with_reducible repeat (first | refine blk_drewN ?_ _ | refine blk_drew ?_ | refine blk_alloc ?_ _)); refine blk_put (cs := #[.int .u64 t188, .bool false, .int .u64 0]) ?_ 1 _ rfl; (with_reducible repeat (first | refine blk_drewN ?_ _ | refine blk_drew ?_ | refine blk_alloc ?_ _)); refine blk_put (cs := #[.int .u64 0, .bool false, .int .u64 0]) ?_ 0 _ rfl; (with_reducible repeat (first | refine blk_drewN ?_ _ | refine blk_drew ?_ | refine blk_alloc ?_ _)); exact BK191.out⟩, ⟨by repeat (first | (with_reducible first | exact HB.out | apply below_alloc | apply pw_below_drewN | apply below_drew1 | refine below_set ?_ GE182.out | refine below_set ?_ GE191.out) | exact HB.out)⟩⟩
              · rw [if_neg c24] at H
                have c24b0 : decide (a2 < 0) = false := decide_eq_false c24
                clear c24
                have H' := Aside0.mk H
                clear H
                go_wp2
                repeat (go_quiet (fail); try go_wp2)
                go_meet
                case rel => exact ⟨_, (false), (by first | rfl | (simp; done) | (simp [*]; done)), H', ⟨by have := HJ4.out; first | omega | exact Nat.le_refl _⟩, ⟨by (with_reducible repeat (first | refine blk_drewN ?_ _ | refine blk_drew ?_ | refine blk_alloc ?_ _)); refine blk_far ?_ NB182_191.out _; (with_reducible repeat (first | refine blk_drewN ?_ _ | refine blk_drew ?_ | refine blk_alloc ?_ _)); refine blk_far ?_ NB182_191.out _; (with_reducible repeat (first | refine blk_drewN ?_ _ | refine blk_drew ?_ | refine blk_alloc ?_ _)); refine blk_far ?_ NB182_191.out _; (with_reducible repeat (first | refine blk_drewN ?_ _ | refine blk_drew ?_ | refine blk_alloc ?_ _)); exact BK182.out⟩, ⟨by (with_reducible repeat (first | refine blk_drewN ?_ _ | refine blk_drew ?_ | refine blk_alloc ?_ _)); refine blk_put (cs := #[.int .u64 t188, .bool t189, .int .u64 0]) ?_ 2 _ rfl; (with_reducible repeat (first | refine blk_drewN ?_ _ | refine blk_drew ?_ | refine blk_alloc ?_ _)); refine blk_put (cs := #[.int .u64 t188, .bool false, .int .u64 0]) ?_ 1 _ rfl; (with_reducible repeat (first | refine blk_drewN ?_ _ | refine blk_drew ?_ | refine blk_alloc ?_ _)); refine blk_put (cs := #[.int .u64 0, .bool false, .int .u64 0]) ?_ 0 _ rfl; (with_reducible repeat (first | refine blk_drewN ?_ _ | refine blk_drew ?_ | refine blk_alloc ?_ _)); exact BK191.out⟩, ⟨by repeat (first | (with_reducible first | exact HB.out | apply below_alloc | apply pw_below_drewN | apply below_drew1 | refine below_set ?_ GE182.out | refine below_set ?_ GE191.out) | exact HB.out)⟩⟩
            · rw [if_neg c23] at H
              have c23b0 : decide (a1 < 0) = false := decide_eq_false c23
              clear c23
              by_cases c25 : a2 < 0
              · rw [if_pos c25] at H
                have c25b0 : decide (a2 < 0) = true := decide_eq_true c25
                clear c25
                have H' := Aside0.mk H
                clear H
                go_wp2
                repeat (go_quiet (fail); try go_wp2)
                go_meet
                case rel => exact ⟨_, (false), (by first | rfl | (simp; done) | (simp [*]; done)), H', ⟨by have := HJ4.out; first | omega | exact Nat.le_refl _⟩, ⟨by (with_reducible repeat (first | refine blk_drewN ?_ _ | refine blk_drew ?_ | refine blk_alloc ?_ _)); refine blk_far ?_ NB182_191.out _; (with_reducible repeat (first | refine blk_drewN ?_ _ | refine blk_drew ?_ | refine blk_alloc ?_ _)); refine blk_far ?_ NB182_191.out _; (with_reducible repeat (first | refine blk_drewN ?_ _ | refine blk_drew ?_ | refine blk_alloc ?_ _)); refine blk_far ?_ NB182_191.out _; (with_reducible repeat (first | refine blk_drewN ?_ _ | refine blk_drew ?_ | refine blk_alloc ?_ _)); exact BK182.out⟩, ⟨by (with_reducible repeat (first | refine blk_drewN ?_ _ | refine blk_drew ?_ | refine blk_alloc ?_ _)); refine blk_put (cs := #[.int .u64 t188, .bool t189, .int .u64 0]) ?_ 2 _ rfl; (with_reducible repeat (first | refine blk_drewN ?_ _ | refine blk_drew ?_ | refine blk_alloc ?_ _)); refine blk_put (cs := #[.int .u64 t188, .bool false, .int .u64 0]) ?_ 1 _ rfl; (with_reducible repeat (first | refine blk_drewN ?_ _ | refine blk_drew ?_ | refine blk_alloc ?_ _)); refine blk_put (cs := #[.int .u64 0, .bool false, .int .u64 0]) ?_ 0 _ rfl; (with_reducible repeat (first | refine blk_drewN ?_ _ | refine blk_drew ?_ | refine blk_alloc ?_ _)); exact BK191.out⟩, ⟨by repeat (first | (with_reducible first | exact HB.out | apply below_alloc | apply pw_below_drewN | apply below_drew1 | refine below_set ?_ GE182.out | refine below_set ?_ GE191.out) | exact HB.out)⟩⟩
              · rw [if_neg c25] at H
                have c25b0 : decide (a2 < 0) = false := decide_eq_false c25
                clear c25
                have H' := Aside0.mk H
                clear H
                go_wp2
                repeat (go_quiet (fail); try go_wp2)
                go_meet
                case rel => exact ⟨_, (true), (by first | rfl | (simp; done) | (simp [*]; done)), H', ⟨by have := HJ4.out; first | omega | exact Nat.le_refl _⟩, ⟨by (with_reducible repeat (first | refine blk_drewN ?_ _ | refine blk_drew ?_ | refine blk_alloc ?_ _)); refine blk_far ?_ NB182_191.out _; (with_reducible repeat (first | refine blk_drewN ?_ _ | refine blk_drew ?_ | refine blk_alloc ?_ _)); refine blk_far ?_ NB182_191.out _; (with_reducible repeat (first | refine blk_drewN ?_ _ | refine blk_drew ?_ | refine blk_alloc ?_ _)); refine blk_far ?_ NB182_191.out _; (with_reducible repeat (first | refine blk_drewN ?_ _ | refine blk_drew ?_ | refine blk_alloc ?_ _)); exact BK182.out⟩, ⟨by (with_reducible repeat (first | refine blk_drewN ?_ _ | refine blk_drew ?_ | refine blk_alloc ?_ _)); refine blk_put (cs := #[.int .u64 t188, .bool t189, .int .u64 0]) ?_ 2 _ rfl; (with_reducible repeat (first | refine blk_drewN ?_ _ | refine blk_drew ?_ | refine blk_alloc ?_ _)); refine blk_put (cs := #[.int .u64 t188, .bool false, .int .u64 0]) ?_ 1 _ rfl; (with_reducible repeat (first | refine blk_drewN ?_ _ | refine blk_drew ?_ | refine blk_alloc ?_ _)); refine blk_put (cs := #[.int .u64 0, .bool false, .int .u64 0]) ?_ 0 _ rfl; (with_reducible repeat (first | refine blk_drewN ?_ _ | refine blk_drew ?_ | refine blk_alloc ?_ _)); exact BK191.out⟩, ⟨by repeat (first | (with_reducible first | exact HB.out | apply below_alloc | apply pw_below_drewN | apply below_drew1 | refine below_set ?_ GE182.out | refine below_set ?_ GE191.out) | exact HB.out)⟩⟩
          · rw [if_neg c22] at H
            have c22b0 : decide (a0 < 0) = false := decide_eq_false c22
            clear c22
            (first | rw [c22b0] | (simp only [i64_w, i32_w]; rw [c22b0]) | skip)
            by_cases c26 : a1 < 0
            · rw [if_pos c26] at H
              have c26b0 : decide (a1 < 0) = true := decide_eq_true c26
              clear c26
              by_cases c27 : a2 < 0
              · rw [if_pos c27] at H
                have c27b0 : decide (a2 < 0) = true := decide_eq_true c27
                clear c27
                have H' := Aside0.mk H
                clear H
                go_wp2
                repeat (go_quiet (fail); try go_wp2)
                go_meet
                case rel => exact ⟨_, (false), (by first | rfl | (simp; done) | (simp [*]; done)), H', ⟨by have := HJ4.out; first | omega | exact Nat.le_refl _⟩, ⟨by (with_reducible repeat (first | refine blk_drewN ?_ _ | refine blk_drew ?_ | refine blk_alloc ?_ _)); refine blk_far ?_ NB182_191.out _; (with_reducible repeat (first | refine blk_drewN ?_ _ | refine blk_drew ?_ | refine blk_alloc ?_ _)); refine blk_far ?_ NB182_191.out _; (with_reducible repeat (first | refine blk_drewN ?_ _ | refine blk_drew ?_ | refine blk_alloc ?_ _)); refine blk_far ?_ NB182_191.out _; (with_reducible repeat (first | refine blk_drewN ?_ _ | refine blk_drew ?_ | refine blk_alloc ?_ _)); exact BK182.out⟩, ⟨by (with_reducible repeat (first | refine blk_drewN ?_ _ | refine blk_drew ?_ | refine blk_alloc ?_ _)); refine blk_put (cs := #[.int .u64 t188, .bool t189, .int .u64 0]) ?_ 2 _ rfl; (with_reducible repeat (first | refine blk_drewN ?_ _ | refine blk_drew ?_ | refine blk_alloc ?_ _)); refine blk_put (cs := #[.int .u64 t188, .bool false, .int .u64 0]) ?_ 1 _ rfl; (with_reducible repeat (first | refine blk_drewN ?_ _ | refine blk_drew ?_ | refine blk_alloc ?_ _)); refine blk_put (cs := #[.int .u64 0, .bool false, .int .u64 0]) ?_ 0 _ rfl; (with_reducible repeat (first | refine blk_drewN ?_ _ | refine blk_drew ?_ | refine blk_alloc ?_ _)); exact BK191.out⟩, ⟨by repeat (first | (with_reducible first | exact HB.out | apply below_alloc | apply pw_below_drewN | apply below_drew1 | refine below_set ?_ GE182.out | refine below_set ?_ GE191.out) | exact HB.out)⟩⟩
              · rw [if_neg c27] at H
                have c27b0 : decide (a2 < 0) = false := decide_eq_false c27
                clear c27
                have H' := Aside0.mk H
                clear H
                go_wp2
                repeat (go_quiet (fail); try go_wp2)
                go_meet
                case rel => exact ⟨_, (true), (by first | rfl | (simp; done) | (simp [*]; done)), H', ⟨by have := HJ4.out; first | omega | exact Nat.le_refl _⟩, ⟨by (with_reducible repeat (first | refine blk_drewN ?_ _ | refine blk_drew ?_ | refine blk_alloc ?_ _)); refine blk_far ?_ NB182_191.out _; (with_reducible repeat (first | refine blk_drewN ?_ _ | refine blk_drew ?_ | refine blk_alloc ?_ _)); refine blk_far ?_ NB182_191.out _; (with_reducible repeat (first | refine blk_drewN ?_ _ | refine blk_drew ?_ | refine blk_alloc ?_ _)); refine blk_far ?_ NB182_191.out _; (with_reducible repeat (first | refine blk_drewN ?_ _ | refine blk_drew ?_ | refine blk_alloc ?_ _)); exact BK182.out⟩, ⟨by (with_reducible repeat (first | refine blk_drewN ?_ _ | refine blk_drew ?_ | refine blk_alloc ?_ _)); refine blk_put (cs := #[.int .u64 t188, .bool t189, .int .u64 0]) ?_ 2 _ rfl; (with_reducible repeat (first | refine blk_drewN ?_ _ | refine blk_drew ?_ | refine blk_alloc ?_ _)); refine blk_put (cs := #[.int .u64 t188, .bool false, .int .u64 0]) ?_ 1 _ rfl; (with_reducible repeat (first | refine blk_drewN ?_ _ | refine blk_drew ?_ | refine blk_alloc ?_ _)); refine blk_put (cs := #[.int .u64 0, .bool false, .int .u64 0]) ?_ 0 _ rfl; (with_reducible repeat (first | refine blk_drewN ?_ _ | refine blk_drew ?_ | refine blk_alloc ?_ _)); exact BK191.out⟩, ⟨by repeat (first | (with_reducible first | exact HB.out | apply below_alloc | apply pw_below_drewN | apply below_drew1 | refine below_set ?_ GE182.out | refine below_set ?_ GE191.out) | exact HB.out)⟩⟩
            · rw [if_neg c26] at H
              have c26b0 : decide (a1 < 0) = false := decide_eq_false c26
              clear c26
              by_cases c28 : a2 < 0
              · rw [if_pos c28] at H
                have c28b0 : decide (a2 < 0) = true := decide_eq_true c28
                clear c28
                have H' := Aside0.mk H
                clear H
                go_wp2
                repeat (go_quiet (fail); try go_wp2)
                go_meet
                case rel => exact ⟨_, (true), (by first | rfl | (simp; done) | (simp [*]; done)), H', ⟨by have := HJ4.out; first | omega | exact Nat.le_refl _⟩, ⟨by (with_reducible repeat (first | refine blk_drewN ?_ _ | refine blk_drew ?_ | refine blk_alloc ?_ _)); refine blk_far ?_ NB182_191.out _; (with_reducible repeat (first | refine blk_drewN ?_ _ | refine blk_drew ?_ | refine blk_alloc ?_ _)); refine blk_far ?_ NB182_191.out _; (with_reducible repeat (first | refine blk_drewN ?_ _ | refine blk_drew ?_ | refine blk_alloc ?_ _)); refine blk_far ?_ NB182_191.out _; (with_reducible repeat (first | refine blk_drewN ?_ _ | refine blk_drew ?_ | refine blk_alloc ?_ _)); exact BK182.out⟩, ⟨by (with_reducible repeat (first | refine blk_drewN ?_ _ | refine blk_drew ?_ | refine blk_alloc ?_ _)); refine blk_put (cs := #[.int .u64 t188, .bool t189, .int .u64 0]) ?_ 2 _ rfl; (with_reducible repeat (first | refine blk_drewN ?_ _ | refine blk_drew ?_ | refine blk_alloc ?_ _)); refine blk_put (cs := #[.int .u64 t188, .bool false, .int .u64 0]) ?_ 1 _ rfl; (with_reducible repeat (first | refine blk_drewN ?_ _ | refine blk_drew ?_ | refine blk_alloc ?_ _)); refine blk_put (cs := #[.int .u64 0, .bool false, .int .u64 0]) ?_ 0 _ rfl; (with_reducible repeat (first | refine blk_drewN ?_ _ | refine blk_drew ?_ | refine blk_alloc ?_ _)); exact BK191.out⟩, ⟨by repeat (first | (with_reducible first | exact HB.out | apply below_alloc | apply pw_below_drewN | apply below_drew1 | refine below_set ?_ GE182.out | refine below_set ?_ GE191.out) | exact HB.out)⟩⟩
              · rw [if_neg c28] at H
                have c28b0 : decide (a2 < 0) = false := decide_eq_false c28
                clear c28
                have H' := Aside0.mk H
                clear H
                go_wp2
                repeat (go_quiet (fail); try go_wp2)
                go_meet
                case rel => exact ⟨_, (false), (by first | rfl | (simp; done) | (simp [*]; done)), H', ⟨by have := HJ4.out; first | omega | exact Nat.le_refl _⟩, ⟨by (with_reducible repeat (first | refine blk_drewN ?_ _ | refine blk_drew ?_ | refine blk_alloc ?_ _)); refine blk_far ?_ NB182_191.out _; (with_reducible repeat (first | refine blk_drewN ?_ _ | refine blk_drew ?_ | refine blk_alloc ?_ _)); refine blk_far ?_ NB182_191.out _; (with_reducible repeat (first | refine blk_drewN ?_ _ | refine blk_drew ?_ | refine blk_alloc ?_ _)); refine blk_far ?_ NB182_191.out _; (with_reducible repeat (first | refine blk_drewN ?_ _ | refine blk_drew ?_ | refine blk_alloc ?_ _)); exact BK182.out⟩, ⟨by (with_reducible repeat (first | refine blk_drewN ?_ _ | refine blk_drew ?_ | refine blk_alloc ?_ _)); refine blk_put (cs := #[.int .u64 t188, .bool t189, .int .u64 0]) ?_ 2 _ rfl; (with_reducible repeat (first | refine blk_drewN ?_ _ | refine blk_drew ?_ | refine blk_alloc ?_ _)); refine blk_put (cs := #[.int .u64 t188, .bool false, .int .u64 0]) ?_ 1 _ rfl; (with_reducible repeat (first | refine blk_drewN ?_ _ | refine blk_drew ?_ | refine blk_alloc ?_ _)); refine blk_put (cs := #[.int .u64 0, .bool false, .int .u64 0]) ?_ 0 _ rfl; (with_reducible repeat (first | refine blk_drewN ?_ _ | refine blk_drew ?_ | refine blk_alloc ?_ _)); exact BK191.out⟩, ⟨by repeat (first | (with_reducible first | exact HB.out | apply below_alloc | apply pw_below_drewN | apply below_drew1 | refine below_set ?_ GE182.out | refine below_set ?_ GE191.out) | exact HB.out)⟩⟩
        case rest =>
          clear HC16
          try clear c2
          try clear p2
          try clear c5
          try clear c7
          try clear c7b0
          try clear c7b1
          try clear c8
          try clear c8b0
          try clear c9
          try clear c20
          try clear c22
          try clear c22b0
          try clear c23
          try clear c23b0
          try clear c24
          try clear c24b0
          try clear c25
          try clear c25b0
          try clear c26
          try clear c26b0
          try clear c27
          try clear c27b0
          try clear c28
          try clear c28b0
          try clear hcz10_0
          try clear hcz10_1
          try clear hcz21_0
          try clear hcz21_1
          try clear hcz21_2
          try clear hfz10_0
          try clear hfz10_1
          try clear hfz21_0
          try clear hfz21_1
          try clear hfz21_2
          try clear p2
          obtain ⟨kq, x10_15, rfl, HA, HJ15, BK182, BK191, HB⟩ := hcut
          cases kq with
          | zero => exact absurd HA.out (by simp [flywheelref02_Did.j1])
          | succ kj15 =>
            have H := HA.out
            clear HA
            simp only [flywheelref02_Did.j1] at H
            have HC29 := Aside0.mk H
            clear H
            go_upto_block 0 with (fail)
            repeat (go_quiet (fail); go_upto_block 0 with (fail))
            go_cut [11] (fun v11 wc => ∃ (kq : Nat) (x11_28 : Bool), v11 = .bool x11_28 ∧ Aside0 (flywheelref02_Did.j2 kq x10_15 x11_28 t188 t189 t190 = some (r1, r2)) ∧ Aside0 (kq ≤ kj15) ∧ Aside0 (wc.heap[gb182]? = some (.cells #[.int .i64 0, .bool false] 87 (0, 0))) ∧ Aside0 (wc.heap[gb191]? = some (.cells #[.int .u64 t188, .bool t189, .int .u64 t190] 94 (0, 0))) ∧ Aside0 (Below w.heap.size w wc))
            case first =>
              have H := HC29.out
              clear HC29
              by_cases c30 : t190 = 0
              · rw [if_pos c30] at H
                have c30b0 : (t190 == 0) = true := beq_iff_eq.mpr c30
                have c30b1 : (t190 != 0) = false := bne_eq_false_iff_eq.mpr c30
                clear c30
                (first | rw [c30b0] | (simp only [i64_w, i32_w]; rw [c30b0]) | skip)
                have H' := Aside0.mk H
                clear H
                have hnb31 := NB191_182.out
                have hnc31 := NB182_191.out
                have hcz32_0 : wc.cell? ⟨gb191, 0, none⟩ = some (.int .u64 t188) := (blk_cell BK191.out 0).trans rfl
                have hcz32_1 : wc.cell? ⟨gb191, 1, none⟩ = some (.bool t189) := (blk_cell BK191.out 1).trans rfl
                have hcz32_2 : wc.cell? ⟨gb191, 2, none⟩ = some (.int .u64 t190) := (blk_cell BK191.out 2).trans rfl
                have hfz32_0 := blk_frozen BK191.out 0
                have hfz32_1 := blk_frozen BK191.out 1
                have hfz32_2 := blk_frozen BK191.out 2
                go_wp2
                repeat (go_quiet (fail); try go_wp2)
                go_meet
                case rel => exact ⟨_, (false), (by first | rfl | (simp; done) | (simp [*]; done)), H', ⟨by have := HJ4.out; have := HJ15.out; first | omega | exact Nat.le_refl _⟩, ⟨by (with_reducible repeat (first | refine blk_drewN ?_ _ | refine blk_drew ?_ | refine blk_alloc ?_ _)); exact BK182.out⟩, ⟨by (with_reducible repeat (first | refine blk_drewN ?_ _ | refine blk_drew ?_ | refine blk_alloc ?_ _)); exact BK191.out⟩, ⟨by repeat (first | (with_reducible first | exact HB.out | apply below_alloc | apply pw_below_drewN | apply below_drew1 | refine below_set ?_ GE182.out | refine below_set ?_ GE191.out) | exact HB.out)⟩⟩
              · rw [if_neg c30] at H
                have c30b0 : (t190 == 0) = false := beq_eq_false_iff_ne.mpr c30
                have c30b1 : (t190 != 0) = true := bne_iff_ne.mpr c30
                (first | rw [c30b0] | (simp only [i64_w, i32_w]; rw [c30b0]) | skip)
                by_cases c33 : a3 = 1
                · rw [if_pos c33] at H
                  have c33b0 : (a3 == 1) = true := beq_iff_eq.mpr c33
                  have c33b1 : (a3 != 1) = false := bne_eq_false_iff_eq.mpr c33
                  clear c33
                  have H' := Aside0.mk H
                  clear H
                  have hnb34 := NB191_182.out
                  have hnc34 := NB182_191.out
                  have hcz35_0 : wc.cell? ⟨gb191, 0, none⟩ = some (.int .u64 t188) := (blk_cell BK191.out 0).trans rfl
                  have hcz35_1 : wc.cell? ⟨gb191, 1, none⟩ = some (.bool t189) := (blk_cell BK191.out 1).trans rfl
                  have hcz35_2 : wc.cell? ⟨gb191, 2, none⟩ = some (.int .u64 t190) := (blk_cell BK191.out 2).trans rfl
                  have hfz35_0 := blk_frozen BK191.out 0
                  have hfz35_1 := blk_frozen BK191.out 1
                  have hfz35_2 := blk_frozen BK191.out 2
                  go_wp2
                  repeat (go_quiet (fail); try go_wp2)
                  go_meet
                  case rel => exact ⟨_, (x10_15), (by first | rfl | (simp; done) | (simp [*]; done)), H', ⟨by have := HJ4.out; have := HJ15.out; first | omega | exact Nat.le_refl _⟩, ⟨by (with_reducible repeat (first | refine blk_drewN ?_ _ | refine blk_drew ?_ | refine blk_alloc ?_ _)); exact BK182.out⟩, ⟨by (with_reducible repeat (first | refine blk_drewN ?_ _ | refine blk_drew ?_ | refine blk_alloc ?_ _)); exact BK191.out⟩, ⟨by repeat (first | (with_reducible first | exact HB.out | apply below_alloc | apply pw_below_drewN | apply below_drew1 | refine below_set ?_ GE182.out | refine below_set ?_ GE191.out) | exact HB.out)⟩⟩
                · rw [if_neg c33] at H
                  have c33b0 : (a3 == 1) = false := beq_eq_false_iff_ne.mpr c33
                  have c33b1 : (a3 != 1) = true := bne_iff_ne.mpr c33
                  by_cases c36 : a3 = 3
                  · rw [if_pos c36] at H
                    have c36b0 : (a3 == 3) = true := beq_iff_eq.mpr c36
                    have c36b1 : (a3 != 3) = false := bne_eq_false_iff_eq.mpr c36
                    clear c36
                    have H' := Aside0.mk H
                    clear H
                    have hnb37 := NB191_182.out
                    have hnc37 := NB182_191.out
                    have hcz38_0 : wc.cell? ⟨gb191, 0, none⟩ = some (.int .u64 t188) := (blk_cell BK191.out 0).trans rfl
                    have hcz38_1 : wc.cell? ⟨gb191, 1, none⟩ = some (.bool t189) := (blk_cell BK191.out 1).trans rfl
                    have hcz38_2 : wc.cell? ⟨gb191, 2, none⟩ = some (.int .u64 t190) := (blk_cell BK191.out 2).trans rfl
                    have hfz38_0 := blk_frozen BK191.out 0
                    have hfz38_1 := blk_frozen BK191.out 1
                    have hfz38_2 := blk_frozen BK191.out 2
                    go_wp2
                    repeat (go_quiet (fail); try go_wp2)
                    go_meet
                    case rel => exact ⟨_, (!x10_15), (by first | rfl | (simp; done) | (simp [*]; done)), H', ⟨by have := HJ4.out; have := HJ15.out; first | omega | exact Nat.le_refl _⟩, ⟨by (with_reducible repeat (first | refine blk_drewN ?_ _ | refine blk_drew ?_ | refine blk_alloc ?_ _)); exact BK182.out⟩, ⟨by (with_reducible repeat (first | refine blk_drewN ?_ _ | refine blk_drew ?_ | refine blk_alloc ?_ _)); exact BK191.out⟩, ⟨by repeat (first | (with_reducible first | exact HB.out | apply below_alloc | apply pw_below_drewN | apply below_drew1 | refine below_set ?_ GE182.out | refine below_set ?_ GE191.out) | exact HB.out)⟩⟩
                  · rw [if_neg c36] at H
                    have c36b0 : (a3 == 3) = false := beq_eq_false_iff_ne.mpr c36
                    have c36b1 : (a3 != 3) = true := bne_iff_ne.mpr c36
                    by_cases c39 : x10_15 = true
                    · subst c39
                      have H1 : ((flywheelref02_size.f a2).bind fun t192 => (flywheelref02_Did.j2 kj15 true (decide (t190 > (IntKind.u64.wrap (t192 - t190)))) t188 t189 t190)) = some (r1, r2) := by rw [if_pos rfl] at H; exact H
                      clear H
                      have H := H1
                      clear H1
                      replace H := Option.bind_eq_some_iff.mp H
                      obtain ⟨t192, A400, H⟩ := H
                      replace H : (flywheelref02_Did.j2 kj15 true (decide (t190 > (IntKind.u64.wrap (t192 - t190)))) t188 t189 t190) = some (r1, r2) := H
                      have A40 := Aside0.mk A400
                      clear A400
                      have H' := Aside0.mk H
                      clear H
                      have hnb41 := NB191_182.out
                      have hnc41 := NB182_191.out
                      have hcz42_0 : wc.cell? ⟨gb191, 0, none⟩ = some (.int .u64 t188) := (blk_cell BK191.out 0).trans rfl
                      have hcz42_1 : wc.cell? ⟨gb191, 1, none⟩ = some (.bool t189) := (blk_cell BK191.out 1).trans rfl
                      have hcz42_2 : wc.cell? ⟨gb191, 2, none⟩ = some (.int .u64 t190) := (blk_cell BK191.out 2).trans rfl
                      have hfz42_0 := blk_frozen BK191.out 0
                      have hfz42_1 := blk_frozen BK191.out 1
                      have hfz42_2 := blk_frozen BK191.out 2
                      go_wp2_with (first | (go_at_call 63; (with_reducible refine (flywheelref02_size.calls a2 t192 _ A40.out).mono ?_); rintro e w' ⟨rfl, ⟨nd, rfl⟩⟩; (try first | exact ⟨rfl, _, World.drewN_drewN _ _ _⟩ | exact ⟨rfl, _, Eq.trans (World.drewN_drewN _ _ _) (congrArg (World.drewN _) (Nat.add_assoc _ _ _))⟩)))
                      repeat (go_quiet (first | (go_at_call 63; (with_reducible refine (flywheelref02_size.calls a2 t192 _ A40.out).mono ?_); rintro e w' ⟨rfl, ⟨nd, rfl⟩⟩; (try first | exact ⟨rfl, _, World.drewN_drewN _ _ _⟩ | exact ⟨rfl, _, Eq.trans (World.drewN_drewN _ _ _) (congrArg (World.drewN _) (Nat.add_assoc _ _ _))⟩))); try go_wp2_with (first | (go_at_call 63; (with_reducible refine (flywheelref02_size.calls a2 t192 _ A40.out).mono ?_); rintro e w' ⟨rfl, ⟨nd, rfl⟩⟩; (try first | exact ⟨rfl, _, World.drewN_drewN _ _ _⟩ | exact ⟨rfl, _, Eq.trans (World.drewN_drewN _ _ _) (congrArg (World.drewN _) (Nat.add_assoc _ _ _))⟩))))
                      go_meet
                      case rel => exact ⟨_, (decide (t190 > (IntKind.u64.wrap (t192 - t190)))), (by first | rfl | (simp; done) | (simp [*]; done)), H', ⟨by have := HJ4.out; have := HJ15.out; first | omega | exact Nat.le_refl _⟩, ⟨by (with_reducible repeat (first | refine blk_drewN ?_ _ | refine blk_drew ?_ | refine blk_alloc ?_ _)); exact BK182.out⟩, ⟨by (with_reducible repeat (first | refine blk_drewN ?_ _ | refine blk_drew ?_ | refine blk_alloc ?_ _)); exact BK191.out⟩, ⟨by repeat (first | (with_reducible first | exact HB.out | apply below_alloc | apply pw_below_drewN | apply below_drew1 | refine below_set ?_ GE182.out | refine below_set ?_ GE191.out) | exact HB.out)⟩⟩
                    · replace c39 := Bool.eq_false_iff.mpr c39
                      subst c39
                      have H1 : ((flywheelref02_size.f a2).bind fun t193 => (flywheelref02_Did.j2 kj15 false (decide (t190 ≥ (IntKind.u64.wrap (t193 - t190)))) t188 t189 t190)) = some (r1, r2) := by rw [if_neg (show ¬ (false = true) by decide)] at H; exact H
                      clear H
                      have H := H1
                      clear H1
                      replace H := Option.bind_eq_some_iff.mp H
                      obtain ⟨t193, A430, H⟩ := H
                      replace H : (flywheelref02_Did.j2 kj15 false (decide (t190 ≥ (IntKind.u64.wrap (t193 - t190)))) t188 t189 t190) = some (r1, r2) := H
                      have A43 := Aside0.mk A430
                      clear A430
                      have H' := Aside0.mk H
                      clear H
                      have hnb44 := NB191_182.out
                      have hnc44 := NB182_191.out
                      have hcz45_0 : wc.cell? ⟨gb191, 0, none⟩ = some (.int .u64 t188) := (blk_cell BK191.out 0).trans rfl
                      have hcz45_1 : wc.cell? ⟨gb191, 1, none⟩ = some (.bool t189) := (blk_cell BK191.out 1).trans rfl
                      have hcz45_2 : wc.cell? ⟨gb191, 2, none⟩ = some (.int .u64 t190) := (blk_cell BK191.out 2).trans rfl
                      have hfz45_0 := blk_frozen BK191.out 0
                      have hfz45_1 := blk_frozen BK191.out 1
                      have hfz45_2 := blk_frozen BK191.out 2
                      go_wp2_with (first | (go_at_call 63; (with_reducible refine (flywheelref02_size.calls a2 t193 _ A43.out).mono ?_); rintro e w' ⟨rfl, ⟨nd, rfl⟩⟩; (try first | exact ⟨rfl, _, World.drewN_drewN _ _ _⟩ | exact ⟨rfl, _, Eq.trans (World.drewN_drewN _ _ _) (congrArg (World.drewN _) (Nat.add_assoc _ _ _))⟩)))
                      repeat (go_quiet (first | (go_at_call 63; (with_reducible refine (flywheelref02_size.calls a2 t193 _ A43.out).mono ?_); rintro e w' ⟨rfl, ⟨nd, rfl⟩⟩; (try first | exact ⟨rfl, _, World.drewN_drewN _ _ _⟩ | exact ⟨rfl, _, Eq.trans (World.drewN_drewN _ _ _) (congrArg (World.drewN _) (Nat.add_assoc _ _ _))⟩))); try go_wp2_with (first | (go_at_call 63; (with_reducible refine (flywheelref02_size.calls a2 t193 _ A43.out).mono ?_); rintro e w' ⟨rfl, ⟨nd, rfl⟩⟩; (try first | exact ⟨rfl, _, World.drewN_drewN _ _ _⟩ | exact ⟨rfl, _, Eq.trans (World.drewN_drewN _ _ _) (congrArg (World.drewN _) (Nat.add_assoc _ _ _))⟩))))
                      go_meet
                      case rel => exact ⟨_, (decide (t190 ≥ (IntKind.u64.wrap (t193 - t190)))), (by first | rfl | (simp; done) | (simp [*]; done)), H', ⟨by have := HJ4.out; have := HJ15.out; first | omega | exact Nat.le_refl _⟩, ⟨by (with_reducible repeat (first | refine blk_drewN ?_ _ | refine blk_drew ?_ | refine blk_alloc ?_ _)); exact BK182.out⟩, ⟨by (with_reducible repeat (first | refine blk_drewN ?_ _ | refine blk_drew ?_ | refine blk_alloc ?_ _)); exact BK191.out⟩, ⟨by repeat (first | (with_reducible first | exact HB.out | apply below_alloc | apply pw_below_drewN | apply below_drew1 | refine below_set ?_ GE182.out | refine below_set ?_ GE191.out) | exact HB.out)⟩⟩
            case rest =>
              clear HC29
              try clear c2
              try clear p2
              try clear c3
              try clear c4
              try clear c5
              try clear c7
              try clear c7b0
              try clear c7b1
              try clear c8
              try clear c8b0
              try clear c9
              try clear c20
              try clear c22
              try clear c22b0
              try clear c23
              try clear c23b0
              try clear c24
              try clear c24b0
              try clear c25
              try clear c25b0
              try clear c26
              try clear c26b0
              try clear c27
              try clear c27b0
              try clear c28
              try clear c28b0
              try clear c30
              try clear c30b0
              try clear c30b1
              try clear c31
              try clear c33
              try clear c33b0
              try clear c33b1
              try clear c34
              try clear c36
              try clear c36b0
              try clear c36b1
              try clear c37
              try clear c39
              try clear c41
              try clear c44
              try clear hcz10_0
              try clear hcz10_1
              try clear hcz21_0
              try clear hcz21_1
              try clear hcz21_2
              try clear hcz32_0
              try clear hcz32_1
              try clear hcz32_2
              try clear hcz35_0
              try clear hcz35_1
              try clear hcz35_2
              try clear hcz38_0
              try clear hcz38_1
              try clear hcz38_2
              try clear hcz42_0
              try clear hcz42_1
              try clear hcz42_2
              try clear hcz45_0
              try clear hcz45_1
              try clear hcz45_2
              try clear hfz10_0
              try clear hfz10_1
              try clear hfz21_0
              try clear hfz21_1
              try clear hfz21_2
              try clear hfz32_0
              try clear hfz32_1
              try clear hfz32_2
              try clear hfz35_0
              try clear hfz35_1
              try clear hfz35_2
              try clear hfz38_0
              try clear hfz38_1
              try clear hfz38_2
              try clear hfz42_0
              try clear hfz42_1
              try clear hfz42_2
              try clear hfz45_0
              try clear hfz45_1
              try clear hfz45_2
              try clear p2
              obtain ⟨kq, x11_28, rfl, HA, HJ28, BK182, BK191, HB⟩ := hcut
              cases kq with
              | zero => exact absurd HA.out (by simp [flywheelref02_Did.j2])
              | succ kj28 =>
                have H := HA.out
                clear HA
                simp only [flywheelref02_Did.j2] at H
                have HC46 := Aside0.mk H
                clear H
                have hnb47 := NB191_182.out
                have hnc47 := NB182_191.out
                have hcz48_0 : wc.cell? ⟨gb191, 0, none⟩ = some (.int .u64 t188) := (blk_cell BK191.out 0).trans rfl
                have hcz48_1 : wc.cell? ⟨gb191, 1, none⟩ = some (.bool t189) := (blk_cell BK191.out 1).trans rfl
                have hcz48_2 : wc.cell? ⟨gb191, 2, none⟩ = some (.int .u64 t190) := (blk_cell BK191.out 2).trans rfl
                have hfz48_0 := blk_frozen BK191.out 0
                have hfz48_1 := blk_frozen BK191.out 1
                have hfz48_2 := blk_frozen BK191.out 2
                go_upto_if 76 with (fail)
                repeat (go_quiet (fail); go_upto_if 76 with (fail))
                go_cut [12, 13] (fun v12 v13 wc => ∃ (kq : Nat) (x12_45 : Int) (x13_45 : Bool), v12 = .int .u64 x12_45 ∧ v13 = .bool x13_45 ∧ Aside0 (flywheelref02_Did.j3 kq x10_15 x12_45 x13_45 = some (r1, r2)) ∧ Aside0 (kq ≤ kj28) ∧ Aside0 (wc.heap[gb182]? = some (.cells #[.int .i64 0, .bool false] 87 (0, 0))) ∧ Aside0 (wc.heap[gb191]? = some (.cells #[.int .u64 t188, .bool t189, .int .u64 t190] 94 (0, 0))) ∧ Aside0 (Below w.heap.size w wc))
                case first =>
                  have H := HC46.out
                  clear HC46
                  by_cases c49 : x11_28 = true
                  · subst c49
                    have H1 : (if t189 = true then (flywheelref02_Did.j3 kj28 x10_15 (IntKind.u64.wrap (t188 + 1)) true) else (flywheelref02_Did.j3 kj28 x10_15 (IntKind.u64.wrap (t188 + 1)) ((IntKind.u64.wrap (t188 + 1)) == 0))) = some (r1, r2) := by rw [if_pos rfl] at H; exact H
                    clear H
                    have H := H1
                    clear H1
                    by_cases c50 : t189 = true
                    · subst c50
                      have H1 : (flywheelref02_Did.j3 kj28 x10_15 (IntKind.u64.wrap (t188 + 1)) true) = some (r1, r2) := by rw [if_pos rfl] at H; exact H
                      clear H
                      have H := H1
                      clear H1
                      have H' := Aside0.mk H
                      clear H
                      go_wp2
                      repeat (go_quiet (fail); try go_wp2)
                      go_meet
                      case rel => exact ⟨_, (IntKind.u64.wrap (t188 + 1)), (true), (by first | rfl | (simp; done) | (simp [*]; done)), (by first | rfl | (simp; done) | (simp [*]; done)), H', ⟨by have := HJ4.out; have := HJ15.out; have := HJ28.out; first | omega | exact Nat.le_refl _⟩, ⟨by (with_reducible repeat (first | refine blk_drewN ?_ _ | refine blk_drew ?_ | refine blk_alloc ?_ _)); exact BK182.out⟩, ⟨by (with_reducible repeat (first | refine blk_drewN ?_ _ | refine blk_drew ?_ | refine blk_alloc ?_ _)); exact BK191.out⟩, ⟨by repeat (first | (with_reducible first | exact HB.out | apply below_alloc | apply pw_below_drewN | apply below_drew1 | refine below_set ?_ GE182.out | refine below_set ?_ GE191.out) | exact HB.out)⟩⟩
                    · replace c50 := Bool.eq_false_iff.mpr c50
                      subst c50
                      have H1 : (flywheelref02_Did.j3 kj28 x10_15 (IntKind.u64.wrap (t188 + 1)) ((IntKind.u64.wrap (t188 + 1)) == 0)) = some (r1, r2) := by rw [if_neg (show ¬ (false = true) by decide)] at H; exact H
                      clear H
                      have H := H1
                      clear H1
                      have H' := Aside0.mk H
                      clear H
                      go_wp2
                      repeat (go_quiet (fail); try go_wp2)
                      go_meet
                      case rel => exact ⟨_, (IntKind.u64.wrap (t188 + 1)), (((IntKind.u64.wrap (t188 + 1)) == 0)), (by first | rfl | (simp; done) | (simp [*]; done)), (by first | rfl | (simp; done) | (simp [*]; done)), H', ⟨by have := HJ4.out; have := HJ15.out; have := HJ28.out; first | omega | exact Nat.le_refl _⟩, ⟨by (with_reducible repeat (first | refine blk_drewN ?_ _ | refine blk_drew ?_ | refine blk_alloc ?_ _)); exact BK182.out⟩, ⟨by (with_reducible repeat (first | refine blk_drewN ?_ _ | refine blk_drew ?_ | refine blk_alloc ?_ _)); exact BK191.out⟩, ⟨by repeat (first | (with_reducible first | exact HB.out | apply below_alloc | apply pw_below_drewN | apply below_drew1 | refine below_set ?_ GE182.out | refine below_set ?_ GE191.out) | exact HB.out)⟩⟩
                  · replace c49 := Bool.eq_false_iff.mpr c49
                    subst c49
                    have H1 : (flywheelref02_Did.j3 kj28 x10_15 t188 t189) = some (r1, r2) := by rw [if_neg (show ¬ (false = true) by decide)] at H; exact H
                    clear H
                    have H := H1
                    clear H1
                    have H' := Aside0.mk H
                    clear H
                    go_wp2
                    repeat (go_quiet (fail); try go_wp2)
                    go_meet
                    case rel => exact ⟨_, (t188), (t189), (by first | rfl | (simp; done) | (simp [*]; done)), (by first | rfl | (simp; done) | (simp [*]; done)), H', ⟨by have := HJ4.out; have := HJ15.out; have := HJ28.out; first | omega | exact Nat.le_refl _⟩, ⟨by (with_reducible repeat (first | refine blk_drewN ?_ _ | refine blk_drew ?_ | refine blk_alloc ?_ _)); exact BK182.out⟩, ⟨by (with_reducible repeat (first | refine blk_drewN ?_ _ | refine blk_drew ?_ | refine blk_alloc ?_ _)); exact BK191.out⟩, ⟨by repeat (first | (with_reducible first | exact HB.out | apply below_alloc | apply pw_below_drewN | apply below_drew1 | refine below_set ?_ GE182.out | refine below_set ?_ GE191.out) | exact HB.out)⟩⟩
                case rest =>
                  clear HC46
                  try clear c2
                  try clear p2
                  try clear c3
                  try clear c4
                  try clear c5
                  try clear c7
                  try clear c7b0
                  try clear c7b1
                  try clear c8
                  try clear c8b0
                  try clear c9
                  try clear c20
                  try clear c22
                  try clear c22b0
                  try clear c23
                  try clear c23b0
                  try clear c24
                  try clear c24b0
                  try clear c25
                  try clear c25b0
                  try clear c26
                  try clear c26b0
                  try clear c27
                  try clear c27b0
                  try clear c28
                  try clear c28b0
                  try clear c30
                  try clear c30b0
                  try clear c30b1
                  try clear c31
                  try clear c33
                  try clear c33b0
                  try clear c33b1
                  try clear c34
                  try clear c36
                  try clear c36b0
                  try clear c36b1
                  try clear c37
                  try clear c39
                  try clear c41
                  try clear c44
                  try clear c47
                  try clear c49
                  try clear c50
                  try clear hcz10_0
                  try clear hcz10_1
                  try clear hcz21_0
                  try clear hcz21_1
                  try clear hcz21_2
                  try clear hcz32_0
                  try clear hcz32_1
                  try clear hcz32_2
                  try clear hcz35_0
                  try clear hcz35_1
                  try clear hcz35_2
                  try clear hcz38_0
                  try clear hcz38_1
                  try clear hcz38_2
                  try clear hcz42_0
                  try clear hcz42_1
                  try clear hcz42_2
                  try clear hcz45_0
                  try clear hcz45_1
                  try clear hcz45_2
                  try clear hcz48_0
                  try clear hcz48_1
                  try clear hcz48_2
                  try clear hfz10_0
                  try clear hfz10_1
                  try clear hfz21_0
                  try clear hfz21_1
                  try clear hfz21_2
                  try clear hfz32_0
                  try clear hfz32_1
                  try clear hfz32_2
                  try clear hfz35_0
                  try clear hfz35_1
                  try clear hfz35_2
                  try clear hfz38_0
                  try clear hfz38_1
                  try clear hfz38_2
                  try clear hfz42_0
                  try clear hfz42_1
                  try clear hfz42_2
                  try clear hfz45_0
                  try clear hfz45_1
                  try clear hfz45_2
                  try clear hfz48_0
                  try clear hfz48_1
                  try clear hfz48_2
                  try clear p2
                  obtain ⟨kq, x12_45, x13_45, rfl, rfl, HA, HJ45, BK182, BK191, HB⟩ := hcut
                  cases kq with
                  | zero => exact absurd HA.out (by simp [flywheelref02_Did.j3])
                  | succ kj45 =>
                    have H := HA.out
                    clear HA
                    simp only [flywheelref02_Did.j3] at H
                    by_cases c51 : x10_15 = true
                    · subst c51
                      have H1 : (if x13_45 = true then (flywheelref02_Did.j4 kj45 x12_45 true) else (flywheelref02_Did.j4 kj45 x12_45 (decide (x12_45 > 9223372036854775808)))) = some (r1, r2) := by rw [if_pos rfl] at H; exact H
                      clear H
                      have H := H1
                      clear H1
                      have HC52 := Aside0.mk H
                      clear H
                      go_upto_region 19 with (fail)
                      repeat (go_quiet (fail); go_upto_region 19 with (fail))
                      go_cut [89] (fun v89 wc => ∃ (kq : Nat) (x89_51 : Bool), v89 = .bool x89_51 ∧ Aside0 (flywheelref02_Did.j4 kq x12_45 x89_51 = some (r1, r2)) ∧ Aside0 (kq ≤ kj45) ∧ Aside0 (wc.heap[gb182]? = some (.cells #[.int .i64 0, .bool false] 87 (0, 0))) ∧ Aside0 (wc.heap[gb191]? = some (.cells #[.int .u64 t188, .bool t189, .int .u64 t190] 94 (0, 0))) ∧ Aside0 (Below w.heap.size w wc))
                      case first =>
                        have H := HC52.out
                        clear HC52
                        by_cases c53 : x13_45 = true
                        · subst c53
                          have H1 : (flywheelref02_Did.j4 kj45 x12_45 true) = some (r1, r2) := by rw [if_pos rfl] at H; exact H
                          clear H
                          have H := H1
                          clear H1
                          have H' := Aside0.mk H
                          clear H
                          go_wp2
                          repeat (go_quiet (fail); try go_wp2)
                          go_meet
                          case rel => exact ⟨_, (true), (by first | rfl | (simp; done) | (simp [*]; done)), H', ⟨by have := HJ4.out; have := HJ15.out; have := HJ28.out; have := HJ45.out; first | omega | exact Nat.le_refl _⟩, ⟨by (with_reducible repeat (first | refine blk_drewN ?_ _ | refine blk_drew ?_ | refine blk_alloc ?_ _)); exact BK182.out⟩, ⟨by (with_reducible repeat (first | refine blk_drewN ?_ _ | refine blk_drew ?_ | refine blk_alloc ?_ _)); exact BK191.out⟩, ⟨by repeat (first | (with_reducible first | exact HB.out | apply below_alloc | apply pw_below_drewN | apply below_drew1 | refine below_set ?_ GE182.out | refine below_set ?_ GE191.out) | exact HB.out)⟩⟩
                        · replace c53 := Bool.eq_false_iff.mpr c53
                          subst c53
                          have H1 : (flywheelref02_Did.j4 kj45 x12_45 (decide (x12_45 > 9223372036854775808))) = some (r1, r2) := by rw [if_neg (show ¬ (false = true) by decide)] at H; exact H
                          clear H
                          have H := H1
                          clear H1
                          have H' := Aside0.mk H
                          clear H
                          go_wp2
                          repeat (go_quiet (fail); try go_wp2)
                          go_meet
                          case rel => exact ⟨_, (decide (x12_45 > 9223372036854775808)), (by first | rfl | (simp; done) | (simp [*]; done)), H', ⟨by have := HJ4.out; have := HJ15.out; have := HJ28.out; have := HJ45.out; first | omega | exact Nat.le_refl _⟩, ⟨by (with_reducible repeat (first | refine blk_drewN ?_ _ | refine blk_drew ?_ | refine blk_alloc ?_ _)); exact BK182.out⟩, ⟨by (with_reducible repeat (first | refine blk_drewN ?_ _ | refine blk_drew ?_ | refine blk_alloc ?_ _)); exact BK191.out⟩, ⟨by repeat (first | (with_reducible first | exact HB.out | apply below_alloc | apply pw_below_drewN | apply below_drew1 | refine below_set ?_ GE182.out | refine below_set ?_ GE191.out) | exact HB.out)⟩⟩
                      case rest =>
                        clear HC52
                        try clear c2
                        try clear p2
                        try clear c3
                        try clear c4
                        try clear c5
                        try clear c7
                        try clear c7b0
                        try clear c7b1
                        try clear c8
                        try clear c8b0
                        try clear c9
                        try clear c20
                        try clear c22
                        try clear c22b0
                        try clear c23
                        try clear c23b0
                        try clear c24
                        try clear c24b0
                        try clear c25
                        try clear c25b0
                        try clear c26
                        try clear c26b0
                        try clear c27
                        try clear c27b0
                        try clear c28
                        try clear c28b0
                        try clear c30
                        try clear c30b0
                        try clear c30b1
                        try clear c31
                        try clear c33
                        try clear c33b0
                        try clear c33b1
                        try clear c34
                        try clear c36
                        try clear c36b0
                        try clear c36b1
                        try clear c37
                        try clear c39
                        try clear c41
                        try clear c44
                        try clear c47
                        try clear c49
                        try clear c50
                        try clear c51
                        try clear c53
                        try clear hcz10_0
                        try clear hcz10_1
                        try clear hcz21_0
                        try clear hcz21_1
                        try clear hcz21_2
                        try clear hcz32_0
                        try clear hcz32_1
                        try clear hcz32_2
                        try clear hcz35_0
                        try clear hcz35_1
                        try clear hcz35_2
                        try clear hcz38_0
                        try clear hcz38_1
                        try clear hcz38_2
                        try clear hcz42_0
                        try clear hcz42_1
                        try clear hcz42_2
                        try clear hcz45_0
                        try clear hcz45_1
                        try clear hcz45_2
                        try clear hcz48_0
                        try clear hcz48_1
                        try clear hcz48_2
                        try clear hfz10_0
                        try clear hfz10_1
                        try clear hfz21_0
                        try clear hfz21_1
                        try clear hfz21_2
                        try clear hfz32_0
                        try clear hfz32_1
                        try clear hfz32_2
                        try clear hfz35_0
                        try clear hfz35_1
                        try clear hfz35_2
                        try clear hfz38_0
                        try clear hfz38_1
                        try clear hfz38_2
                        try clear hfz42_0
                        try clear hfz42_1
                        try clear hfz42_2
                        try clear hfz45_0
                        try clear hfz45_1
                        try clear hfz45_2
                        try clear hfz48_0
                        try clear hfz48_1
                        try clear hfz48_2
                        try clear p2
                        obtain ⟨kq, x89_51, rfl, HA, HJ51, BK182, BK191, HB⟩ := hcut
                        cases kq with
                        | zero => exact absurd HA.out (by simp [flywheelref02_Did.j4])
                        | succ kj51 =>
                          have H := HA.out
                          clear HA
                          simp only [flywheelref02_Did.j4] at H
                          by_cases c54 : x89_51 = true
                          · subst c54
                            have H1 : (some ((-9223372036854775808), false)) = some (r1, r2) := by rw [if_pos rfl] at H; exact H
                            clear H
                            have H := H1
                            clear H1
                            simp only [Option.some.injEq, Prod.mk.injEq] at H
                            obtain ⟨rfl, rfl⟩ := H
                            have hnb55 := NB182_191.out
                            have hnc55 := NB191_182.out
                            have hcz56_0 : wc.cell? ⟨gb182, 0, none⟩ = some (.int .i64 0) := (blk_cell BK182.out 0).trans rfl
                            have hcz56_1 : wc.cell? ⟨gb182, 1, none⟩ = some (.bool false) := (blk_cell BK182.out 1).trans rfl
                            have hfz56_0 := blk_frozen BK182.out 0
                            have hfz56_1 := blk_frozen BK182.out 1
                            go_wp2
                            repeat (go_quiet (fail); try go_wp2)
                            refine bodyPost_ret (results_cell_row rfl _ _ gb182 87 #[.int .i64 (-9223372036854775808), .bool false] (0, 0) _ rfl (by (with_reducible repeat (first | refine blk_drewN ?_ _ | refine blk_drew ?_ | refine blk_alloc ?_ _)); refine blk_put (cs := #[.int .i64 (-9223372036854775808), .bool false]) ?_ 1 _ rfl; (with_reducible repeat (first | refine blk_drewN ?_ _ | refine blk_drew ?_ | refine blk_alloc ?_ _)); refine blk_put (cs := #[.int .i64 0, .bool false]) ?_ 0 _ rfl; (with_reducible repeat (first | refine blk_drewN ?_ _ | refine blk_drew ?_ | refine blk_alloc ?_ _)); exact BK182.out) Try.underlying87 rfl (by kernel_rfl)) rfl ?_
                            exact ⟨by first | rfl | (simp [errW_none, errW_some] <;> rfl) | (simp [*, errW_none, errW_some] <;> rfl), by repeat (first | (with_reducible first | exact HB.out | apply below_alloc | apply pw_below_drewN | apply below_drew1 | refine below_set ?_ GE182.out | refine below_set ?_ GE191.out) | exact HB.out)⟩
                          · replace c54 := Bool.eq_false_iff.mpr c54
                            subst c54
                            have H1 : (some (wrap64 (-(wrap64 (x12_45))), true)) = some (r1, r2) := by rw [if_neg (show ¬ (false = true) by decide)] at H; exact H
                            clear H
                            have H := H1
                            clear H1
                            simp only [Option.some.injEq, Prod.mk.injEq] at H
                            obtain ⟨rfl, rfl⟩ := H
                            have hnb57 := NB182_191.out
                            have hnc57 := NB191_182.out
                            have hcz58_0 : wc.cell? ⟨gb182, 0, none⟩ = some (.int .i64 0) := (blk_cell BK182.out 0).trans rfl
                            have hcz58_1 : wc.cell? ⟨gb182, 1, none⟩ = some (.bool false) := (blk_cell BK182.out 1).trans rfl
                            have hfz58_0 := blk_frozen BK182.out 0
                            have hfz58_1 := blk_frozen BK182.out 1
                            go_wp2
                            repeat (go_quiet (fail); try go_wp2)
                            refine bodyPost_ret (results_cell_row rfl _ _ gb182 87 #[.int .i64 (wrap64 (-(wrap64 (x12_45)))), .bool true] (0, 0) _ rfl (by (with_reducible repeat (first | refine blk_drewN ?_ _ | refine blk_drew ?_ | refine blk_alloc ?_ _)); refine blk_put (cs := #[.int .i64 (wrap64 (-(wrap64 (x12_45)))), .bool false]) ?_ 1 _ rfl; (with_reducible repeat (first | refine blk_drewN ?_ _ | refine blk_drew ?_ | refine blk_alloc ?_ _)); refine blk_put (cs := #[.int .i64 0, .bool false]) ?_ 0 _ rfl; (with_reducible repeat (first | refine blk_drewN ?_ _ | refine blk_drew ?_ | refine blk_alloc ?_ _)); exact BK182.out) Try.underlying87 rfl (by kernel_rfl)) rfl ?_
                            exact ⟨by first | rfl | (simp [errW_none, errW_some] <;> rfl) | (simp [*, errW_none, errW_some] <;> rfl), by repeat (first | (with_reducible first | exact HB.out | apply below_alloc | apply pw_below_drewN | apply below_drew1 | refine below_set ?_ GE182.out | refine below_set ?_ GE191.out) | exact HB.out)⟩
                    · replace c51 := Bool.eq_false_iff.mpr c51
                      subst c51
                      have H1 : (if x13_45 = true then (some (9223372036854775807, false)) else (if x12_45 > 9223372036854775807 then (some (9223372036854775807, false)) else (some (wrap64 (x12_45), true)))) = some (r1, r2) := by rw [if_neg (show ¬ (false = true) by decide)] at H; exact H
                      clear H
                      have H := H1
                      clear H1
                      by_cases c59 : x13_45 = true
                      · subst c59
                        have H1 : (some (9223372036854775807, false)) = some (r1, r2) := by rw [if_pos rfl] at H; exact H
                        clear H
                        have H := H1
                        clear H1
                        simp only [Option.some.injEq, Prod.mk.injEq] at H
                        obtain ⟨rfl, rfl⟩ := H
                        have hnb60 := NB182_191.out
                        have hnc60 := NB191_182.out
                        have hcz61_0 : wc.cell? ⟨gb182, 0, none⟩ = some (.int .i64 0) := (blk_cell BK182.out 0).trans rfl
                        have hcz61_1 : wc.cell? ⟨gb182, 1, none⟩ = some (.bool false) := (blk_cell BK182.out 1).trans rfl
                        have hfz61_0 := blk_frozen BK182.out 0
                        have hfz61_1 := blk_frozen BK182.out 1
                        go_wp2
                        repeat (go_quiet (fail); try go_wp2)
                        refine bodyPost_ret (results_cell_row rfl _ _ gb182 87 #[.int .i64 9223372036854775807, .bool false] (0, 0) _ rfl (by (with_reducible repeat (first | refine blk_drewN ?_ _ | refine blk_drew ?_ | refine blk_alloc ?_ _)); refine blk_put (cs := #[.int .i64 9223372036854775807, .bool false]) ?_ 1 _ rfl; (with_reducible repeat (first | refine blk_drewN ?_ _ | refine blk_drew ?_ | refine blk_alloc ?_ _)); refine blk_put (cs := #[.int .i64 0, .bool false]) ?_ 0 _ rfl; (with_reducible repeat (first | refine blk_drewN ?_ _ | refine blk_drew ?_ | refine blk_alloc ?_ _)); exact BK182.out) Try.underlying87 rfl (by kernel_rfl)) rfl ?_
                        exact ⟨by first | rfl | (simp [errW_none, errW_some] <;> rfl) | (simp [*, errW_none, errW_some] <;> rfl), by repeat (first | (with_reducible first | exact HB.out | apply below_alloc | apply pw_below_drewN | apply below_drew1 | refine below_set ?_ GE182.out | refine below_set ?_ GE191.out) | exact HB.out)⟩
                      · replace c59 := Bool.eq_false_iff.mpr c59
                        subst c59
                        have H1 : (if x12_45 > 9223372036854775807 then (some (9223372036854775807, false)) else (some (wrap64 (x12_45), true))) = some (r1, r2) := by rw [if_neg (show ¬ (false = true) by decide)] at H; exact H
                        clear H
                        have H := H1
                        clear H1
                        by_cases c62 : x12_45 > 9223372036854775807
                        · rw [if_pos c62] at H
                          have c62b0 : decide (9223372036854775807 < x12_45) = true := decide_eq_true c62
                          clear c62
                          simp only [Option.some.injEq, Prod.mk.injEq] at H
                          obtain ⟨rfl, rfl⟩ := H
                          have hnb63 := NB182_191.out
                          have hnc63 := NB191_182.out
                          have hcz64_0 : wc.cell? ⟨gb182, 0, none⟩ = some (.int .i64 0) := (blk_cell BK182.out 0).trans rfl
                          have hcz64_1 : wc.cell? ⟨gb182, 1, none⟩ = some (.bool false) := (blk_cell BK182.out 1).trans rfl
                          have hfz64_0 := blk_frozen BK182.out 0
                          have hfz64_1 := blk_frozen BK182.out 1
                          go_wp2
                          repeat (go_quiet (fail); try go_wp2)
                          refine bodyPost_ret (results_cell_row rfl _ _ gb182 87 #[.int .i64 9223372036854775807, .bool false] (0, 0) _ rfl (by (with_reducible repeat (first | refine blk_drewN ?_ _ | refine blk_drew ?_ | refine blk_alloc ?_ _)); refine blk_put (cs := #[.int .i64 9223372036854775807, .bool false]) ?_ 1 _ rfl; (with_reducible repeat (first | refine blk_drewN ?_ _ | refine blk_drew ?_ | refine blk_alloc ?_ _)); refine blk_put (cs := #[.int .i64 0, .bool false]) ?_ 0 _ rfl; (with_reducible repeat (first | refine blk_drewN ?_ _ | refine blk_drew ?_ | refine blk_alloc ?_ _)); exact BK182.out) Try.underlying87 rfl (by kernel_rfl)) rfl ?_
                          exact ⟨by first | rfl | (simp [errW_none, errW_some] <;> rfl) | (simp [*, errW_none, errW_some] <;> rfl), by repeat (first | (with_reducible first | exact HB.out | apply below_alloc | apply pw_below_drewN | apply below_drew1 | refine below_set ?_ GE182.out | refine below_set ?_ GE191.out) | exact HB.out)⟩
                        · rw [if_neg c62] at H
                          have c62b0 : decide (9223372036854775807 < x12_45) = false := decide_eq_false c62
                          clear c62
                          simp only [Option.some.injEq, Prod.mk.injEq] at H
                          obtain ⟨rfl, rfl⟩ := H
                          have hnb65 := NB182_191.out
                          have hnc65 := NB191_182.out
                          have hcz66_0 : wc.cell? ⟨gb182, 0, none⟩ = some (.int .i64 0) := (blk_cell BK182.out 0).trans rfl
                          have hcz66_1 : wc.cell? ⟨gb182, 1, none⟩ = some (.bool false) := (blk_cell BK182.out 1).trans rfl
                          have hfz66_0 := blk_frozen BK182.out 0
                          have hfz66_1 := blk_frozen BK182.out 1
                          go_wp2
                          repeat (go_quiet (fail); try go_wp2)
                          refine bodyPost_ret (results_cell_row rfl _ _ gb182 87 #[.int .i64 (wrap64 (x12_45)), .bool true] (0, 0) _ rfl (by (with_reducible repeat (first | refine blk_drewN ?_ _ | refine blk_drew ?_ | refine blk_alloc ?_ _)); refine blk_put (cs := #[.int .i64 (wrap64 (x12_45)), .bool false]) ?_ 1 _ rfl; (with_reducible repeat (first | refine blk_drewN ?_ _ | refine blk_drew ?_ | refine blk_alloc ?_ _)); refine blk_put (cs := #[.int .i64 0, .bool false]) ?_ 0 _ rfl; (with_reducible repeat (first | refine blk_drewN ?_ _ | refine blk_drew ?_ | refine blk_alloc ?_ _)); exact BK182.out) Try.underlying87 rfl (by kernel_rfl)) rfl ?_
                          exact ⟨by first | rfl | (simp [errW_none, errW_some] <;> rfl) | (simp [*, errW_none, errW_some] <;> rfl), by repeat (first | (with_reducible first | exact HB.out | apply below_alloc | apply pw_below_drewN | apply below_drew1 | refine below_set ?_ GE182.out | refine below_set ?_ GE191.out) | exact HB.out)⟩
end Go.Proofs.Ytaelmmbodigheaa.P
end

section
namespace Go.Proofs.Ytaelmmbodigheaa.P
open Go.RowKit Go.Proofs.YtaelmmbodigheaaW.PrintWords Go.Proofs.YtaelmmbodigheaaW.PrintLast Go.Proofs.YtaelmmbodigheaaW.PrintMore
attribute [local go_sem] max2_int min2_int max_two min_two max_three min_three max_four min_four   -- for this text's walks alone
set_option linter.unusedVariables false
set_option linter.unusedSimpArgs false
theorem rsize (a : Int) (h : isI64 a) : flywheelref02_size.f a = some (if a < 0 then -a else a) := by
  unfold isI64 at h
  unfold flywheelref02_size.f wrap64
  simp only [u64_mod]
  split
  · congr 1; omega
  · congr 1; omega
theorem times_ok (a b : Int) (ha : 0 ≤ a) (ha1 : a < 18446744073709551616) (hb : 0 ≤ b) (hb1 : b < 18446744073709551616) :
    flywheelref02_times.f a b = some (a * b / 18446744073709551616, a * b % 18446744073709551616) := by
  obtain ⟨x, rfl⟩ := Int.eq_ofNat_of_zero_le ha
  obtain ⟨y, rfl⟩ := Int.eq_ofNat_of_zero_le hb
  have hx : x < 18446744073709551616 := by omega
  have hy : y < 18446744073709551616 := by omega
  have e1 : Go.bits .and .u64 (x : Int) 4294967295 = ((x % 4294967296 : Nat) : Int) := by rw [and_low32 _ ha (by omega)]; omega
  have e2 : Go.bits .and .u64 (y : Int) 4294967295 = ((y % 4294967296 : Nat) : Int) := by rw [and_low32 _ hb (by omega)]; omega
  have d1 : (x : Int) / 4294967296 = ((x / 4294967296 : Nat) : Int) := by omega
  have d2 : (y : Int) / 4294967296 = ((y / 4294967296 : Nat) : Int) := by omega
  have sp : x * y = (x / 4294967296) * (y / 4294967296) * (4294967296 * 4294967296) + ((x / 4294967296) * (y % 4294967296) + (x % 4294967296) * (y / 4294967296)) * 4294967296 + (x % 4294967296) * (y % 4294967296) := by
    rw [← Lib.split_mul, Nat.div_add_mod' x 4294967296, Nat.div_add_mod' y 4294967296]
  unfold flywheelref02_times.f
  rw [e1, e2, d1, d2]
  simp only [← Int.natCast_mul]
  have b2 := Lib.half_mul_le (a := x % 4294967296) (b := y % 4294967296) (by omega) (by omega)
  have b3 := Lib.half_mul_le (a := x / 4294967296) (b := y % 4294967296) (by omega) (by omega)
  have b4 := Lib.half_mul_le (a := x % 4294967296) (b := y / 4294967296) (by omega) (by omega)
  have b5 := Lib.half_mul_le (a := x / 4294967296) (b := y / 4294967296) (by omega) (by omega)
  rw [sp]
  generalize (x % 4294967296) * (y % 4294967296) = w0 at *
  generalize (x / 4294967296) * (y % 4294967296) = p1 at *
  generalize (x % 4294967296) * (y / 4294967296) = p2 at *
  generalize (x / 4294967296) * (y / 4294967296) = p3 at *
  have w1 : IntKind.u64.wrap ((w0 : Nat) : Int) = (w0 : Int) := u64_id _ (by omega) (by omega)
  have w2 : IntKind.u64.wrap ((p1 : Nat) : Int) = (p1 : Int) := u64_id _ (by omega) (by omega)
  have w3 : IntKind.u64.wrap ((p2 : Nat) : Int) = (p2 : Int) := u64_id _ (by omega) (by omega)
  have w4 : IntKind.u64.wrap ((p3 : Nat) : Int) = (p3 : Int) := u64_id _ (by omega) (by omega)
  rw [w1, w2, w3, w4]
  have t : (p1 : Int) + (w0 : Int) / 4294967296 = ((p1 + w0 / 4294967296 : Nat) : Int) := by omega
  rw [t]
  generalize hT : p1 + w0 / 4294967296 = T at *
  have w5 : IntKind.u64.wrap ((T : Nat) : Int) = (T : Int) := u64_id _ (by omega) (by omega)
  have e3 : Go.bits .and .u64 (T : Int) 4294967295 = ((T % 4294967296 : Nat) : Int) := by rw [and_low32 _ (by omega) (by omega)]; omega
  have e4 : Go.bits .and .u64 (w0 : Int) 4294967295 = ((w0 % 4294967296 : Nat) : Int) := by rw [and_low32 _ (by omega) (by omega)]; omega
  rw [w5, e3, e4]
  rw [u64_id ((p2 : Int) + ((T % 4294967296 : Nat) : Int)) (by omega) (by omega), u64_id ((p3 : Int) + (T : Int) / 4294967296) (by omega) (by omega), u64_id _ (by omega) (by omega), u64_mod, u64_mod]
  congr 2
  · omega
  · omega
theorem part_loop (c : Int) (hc : 0 < c) (hc1 : c ≤ 9223372036854775808) (n : Nat) (hn : n ≤ 128) : ∀ (hi lo q : Int) (over : Bool) (left T U : Int), 0 ≤ hi → hi < 18446744073709551616 → 0 ≤ lo → lo < 18446744073709551616 → 0 ≤ q → q < 18446744073709551616 → 0 ≤ left → left < c →
    (hi * 18446744073709551616 + lo) * pw n = T * 340282366920938463463374607431768211456 + U → 0 ≤ U → U < 340282366920938463463374607431768211456 →
    flywheelref02_part.l0 (n + 1) c ((n : Int) - 1) hi lo q over left = some ((q * pw n + (left * pw n + T) / c) % 18446744073709551616, over || decide (18446744073709551616 ≤ q * pw n + (left * pw n + T) / c), (left * pw n + T) % c) := by
  induction n with
  | zero =>
    intro hi lo q over left T U h0 h1 l0 l1 q0 q1 f0 f1 e u0 u1
    have p0 : pw 0 = 1 := rfl
    rw [p0, Int.mul_one] at e
    have hT : T = 0 := by omega
    subst hT
    simp only [flywheelref02_part.l0]
    rw [if_neg (by omega), p0, Int.mul_one, Int.mul_one, Int.add_zero, Int.ediv_eq_zero_of_lt f0 f1, Int.emod_eq_of_lt f0 f1, Int.add_zero, Int.emod_eq_of_lt q0 q1, decide_eq_false (by omega), Bool.or_false]
  | succ n ih =>
    intro hi lo q over left T U h0 h1 l0 l1 q0 q1 f0 f1 e u0 u1
    have IH := ih (by omega)
    have pp := pw_pos n
    have w1 : IntKind.u64.wrap (IntKind.u64.wrap (left * 2) + hi / 9223372036854775808) = left * 2 + hi / 9223372036854775808 := by rw [u64_id (left * 2) (by omega) (by omega), u64_id _ (by omega) (by omega)]
    have w2 : wrap64 (((n + 1 : Nat) : Int) - 1 - 1) = (n : Int) - 1 := by unfold wrap64; omega
    rw [pw_succ] at e ⊢
    -- the shifted number
    have sh : IntKind.u64.wrap (IntKind.u64.wrap (hi * 2) + lo / 9223372036854775808) = hi * 2 + lo / 9223372036854775808 - hi / 9223372036854775808 * 18446744073709551616 := by simp only [u64_mod]; omega
    have sl : IntKind.u64.wrap (lo * 2) = lo * 2 - lo / 9223372036854775808 * 18446744073709551616 := by simp only [u64_mod]; omega
    have b01 : hi / 9223372036854775808 = 0 ∨ hi / 9223372036854775808 = 1 := by omega
    have e' : ((hi * 2 + lo / 9223372036854775808 - hi / 9223372036854775808 * 18446744073709551616) * 18446744073709551616 + (lo * 2 - lo / 9223372036854775808 * 18446744073709551616)) * pw n = (T - hi / 9223372036854775808 * pw n) * 340282366920938463463374607431768211456 + U := by
      have : (hi * 2 + lo / 9223372036854775808 - hi / 9223372036854775808 * 18446744073709551616) * 18446744073709551616 + (lo * 2 - lo / 9223372036854775808 * 18446744073709551616) = (hi * 18446744073709551616 + lo) * 2 - hi / 9223372036854775808 * 340282366920938463463374607431768211456 := by omega
      rw [this, Int.sub_mul, Int.mul_assoc, e, Int.sub_mul, Int.mul_right_comm]
      omega
    -- the two ways of a round
    have way : ∀ (ov : Bool), (if left * 2 + hi / 9223372036854775808 ≥ c then
          flywheelref02_part.l0 (n + 1) c ((n : Int) - 1) (hi * 2 + lo / 9223372036854775808 - hi / 9223372036854775808 * 18446744073709551616) (lo * 2 - lo / 9223372036854775808 * 18446744073709551616) (IntKind.u64.wrap (IntKind.u64.wrap (q * 2) + 1)) ov (IntKind.u64.wrap (left * 2 + hi / 9223372036854775808 - c))
        else flywheelref02_part.l0 (n + 1) c ((n : Int) - 1) (hi * 2 + lo / 9223372036854775808 - hi / 9223372036854775808 * 18446744073709551616) (lo * 2 - lo / 9223372036854775808 * 18446744073709551616) (IntKind.u64.wrap (q * 2)) ov (left * 2 + hi / 9223372036854775808)) =
        some ((q * (2 * pw n) + (left * (2 * pw n) + T) / c) % 18446744073709551616, ov || decide (18446744073709551616 ≤ (q * 2 - q / 9223372036854775808 * 18446744073709551616) * pw n + (left * (2 * pw n) + T) / c), (left * (2 * pw n) + T) % c) := by
      intro ov
      have W : left * (2 * pw n) + T = (left * 2 + hi / 9223372036854775808) * pw n + (T - hi / 9223372036854775808 * pw n) := by rw [Int.add_mul, Int.mul_assoc]; omega
      have s2 : IntKind.u64.wrap (q * 2) = q * 2 - q / 9223372036854775808 * 18446744073709551616 := by simp only [u64_mod]; omega
      have s1 : IntKind.u64.wrap (IntKind.u64.wrap (q * 2) + 1) = q * 2 - q / 9223372036854775808 * 18446744073709551616 + 1 := by simp only [u64_mod]; omega
      have Q2 : (q * (2 * pw n)) = (q * 2 - q / 9223372036854775808 * 18446744073709551616) * pw n + 18446744073709551616 * (q / 9223372036854775808 * pw n) := by rw [Int.sub_mul, Int.mul_assoc, Int.mul_right_comm]; omega
      by_cases hge : left * 2 + hi / 9223372036854775808 ≥ c
      · rw [if_pos hge, s1, u64_id (left * 2 + hi / 9223372036854775808 - c) (by omega) (by omega)]
        rw [IH _ _ _ ov _ _ U (by omega) (by omega) (by omega) (by omega) (by omega) (by omega) (by omega) (by omega) e' u0 u1]
        have X : (left * 2 + hi / 9223372036854775808 - c) * pw n + (T - hi / 9223372036854775808 * pw n) = left * (2 * pw n) + T + (-(pw n)) * c := by rw [W, Int.sub_mul, Int.neg_mul, Int.mul_comm c]; omega
        rw [X, Int.add_mul_ediv_right _ _ (by omega), Int.add_mul_emod_self_right, Q2]
        generalize (q * 2 - q / 9223372036854775808 * 18446744073709551616) = z at *
        have Z : (z + 1) * pw n + ((left * (2 * pw n) + T) / c + -pw n) = z * pw n + (left * (2 * pw n) + T) / c := by rw [Int.add_mul]; omega
        rw [Z]
        congr 2
        omega
      · rw [if_neg hge, s2, IH _ _ _ ov _ _ U (by omega) (by omega) (by omega) (by omega) (by omega) (by omega) (by omega) (by omega) e' u0 u1, ← W, Q2]
        generalize (q * 2 - q / 9223372036854775808 * 18446744073709551616) = z at *
        congr 2
        omega
    have T0 : 0 ≤ (left * (2 * pw n) + T) / c := by
      apply Int.ediv_nonneg _ (by omega)
      have a1 := Int.mul_nonneg f0 (show 0 ≤ 2 * pw n by omega)
      have a2 := Int.mul_nonneg (show 0 ≤ hi * 18446744073709551616 + lo by omega) (show 0 ≤ 2 * pw n by omega)
      omega
    have final : ∀ ov : Bool, ov = (over || ((q / 9223372036854775808) == 1)) → (ov || decide (18446744073709551616 ≤ (q * 2 - q / 9223372036854775808 * 18446744073709551616) * pw n + (left * (2 * pw n) + T) / c)) = (over || decide (18446744073709551616 ≤ q * (2 * pw n) + (left * (2 * pw n) + T) / c)) := by
      intro ov hov
      subst hov
      cases over with
      | true => rfl
      | false =>
        simp only [Bool.false_or]
        have q01 : q / 9223372036854775808 = 0 ∨ q / 9223372036854775808 = 1 := by omega
        rcases q01 with hq | hq
        · rw [hq, Int.zero_mul, Int.sub_zero, Int.mul_assoc]; simp
        · have a3 : 9223372036854775808 * (2 * pw n) ≤ q * (2 * pw n) := Int.mul_le_mul_of_nonneg_right (by omega) (by omega)
          rw [hq, decide_eq_true (show 18446744073709551616 ≤ q * (2 * pw n) + (left * (2 * pw n) + T) / c by omega)]
          rfl
    rw [flywheelref02_part.l0]
    rw [if_pos (by omega)]
    simp only [w1, w2, sh, sl]
    cases over with
    | true =>
      rw [if_pos rfl, way true, final true (by simp)]
    | false =>
      rw [if_neg (by simp), way _, final _ (by simp)]
theorem part_ok (N c : Int) (hN : 0 ≤ N) (hN1 : N < 340282366920938463463374607431768211456) (hc : 0 < c) (hc1 : c ≤ 9223372036854775808) :
    flywheelref02_part.f 129 (N / 18446744073709551616) (N % 18446744073709551616) c = some (N / c % 18446744073709551616, decide (18446744073709551616 ≤ N / c), N % c) := by
  unfold flywheelref02_part.f
  have p : pw 128 = 340282366920938463463374607431768211456 := rfl
  have h := part_loop c hc hc1 128 (Nat.le_refl _) (N / 18446744073709551616) (N % 18446744073709551616) 0 false 0 N 0 (by omega) (by omega) (by omega) (by omega) (by omega) (by omega) (by omega) hc (by rw [p]; omega) (by omega) (by omega)
  simp only [Int.zero_mul, Int.zero_add, Bool.false_or] at h
  exact h
theorem did_tail (below ov : Bool) (q V : Int) (k : Nat) (h0 : 0 ≤ V) (hq : q = V % 18446744073709551616) (hov : ov = decide (18446744073709551616 ≤ V)) :
    flywheelref02_Did.j3 (k + 2) below q ov = some (hold64 (if below = true then -V else V)) := by
  subst hq; subst hov
  by_cases hb : 18446744073709551616 ≤ V
  · rw [decide_eq_true hb]
    cases below with
    | true =>
      simp only [flywheelref02_Did.j3, flywheelref02_Did.j4, if_true]
      unfold hold64
      rw [if_pos (by omega)]
    | false =>
      simp only [flywheelref02_Did.j3, if_true, Bool.false_eq_true, if_false]
      unfold hold64
      rw [if_neg (by omega), if_pos (by omega)]
  · rw [decide_eq_false hb, Int.emod_eq_of_lt h0 (by omega)]
    cases below with
    | true =>
      simp only [flywheelref02_Did.j3, flywheelref02_Did.j4, if_true, Bool.false_eq_true, if_false]
      unfold hold64
      by_cases hl : V > 9223372036854775808
      · rw [decide_eq_true hl, if_pos rfl, if_pos (by omega)]
      · rw [decide_eq_false hl, if_neg (by simp), if_neg (by omega), if_neg (by omega)]
        congr 2
        unfold wrap64; omega
    | false =>
      simp only [flywheelref02_Did.j3, Bool.false_eq_true, if_false]
      unfold hold64
      by_cases hl : V > 9223372036854775807
      · rw [if_pos hl, if_neg (by omega), if_pos hl]
      · rw [if_neg hl, if_neg (by omega), if_neg hl]
        congr 2
        unfold wrap64; omega
theorem did_j2 (below up : Bool) (Q L : Int) (k : Nat) (h0 : 0 ≤ Q) :
    flywheelref02_Did.j2 (k + 3) below up (Q % 18446744073709551616) (decide (18446744073709551616 ≤ Q)) L = some (hold64 (if below = true then -(Q + if up = true then 1 else 0) else Q + if up = true then 1 else 0)) := by
  cases up with
  | false =>
    simp only [flywheelref02_Did.j2, Bool.false_eq_true, if_false, Int.add_zero]
    exact did_tail below _ _ Q k h0 rfl rfl
  | true =>
    simp only [flywheelref02_Did.j2, if_true]
    have e : IntKind.u64.wrap (Q % 18446744073709551616 + 1) = (Q + 1) % 18446744073709551616 := by rw [u64_mod]; omega
    by_cases hb : 18446744073709551616 ≤ Q
    · rw [decide_eq_true hb, if_pos rfl, e]
      exact did_tail below _ _ (Q + 1) k (by omega) rfl (decide_eq_true (by omega)).symm
    · rw [decide_eq_false hb, if_neg (by simp), e]
      refine did_tail below _ _ (Q + 1) k (by omega) rfl ?_
      by_cases hz : Q = 18446744073709551615
      · subst hz; rfl
      · rw [decide_eq_false (by omega), beq_eq_false_iff_ne]; omega
theorem did_j1 (x2 how N C : Int) (below : Bool) (k : Nat) (hx : isI64 x2) (hC : C = if x2 < 0 then -x2 else x2) (hC0 : 0 < C) (hN : 0 ≤ N) (hh : how = 1 ∨ how = 2 ∨ how = 3) :
    flywheelref02_Did.j1 (k + 4) x2 how below (N / C % 18446744073709551616) (decide (18446744073709551616 ≤ N / C)) (N % C) = some (hold64 (rnd (if below = true then -N else N) C how)) := by
  have rs := rsize x2 hx
  rw [← hC] at rs
  have hCu : C ≤ 9223372036854775808 := by unfold isI64 at hx; rw [hC]; split <;> omega
  have r0 := Int.emod_nonneg N (show C ≠ 0 by omega)
  have r1 := Int.emod_lt_of_pos N hC0
  have q0 : 0 ≤ N / C := Int.ediv_nonneg hN (by omega)
  simp only [flywheelref02_Did.j1, rs, Option.bind_some]
  rw [u64_id (C - N % C) (by omega) (by omega)]
  have J := fun up => did_j2 below up (N / C) (N % C) k q0
  simp only [J]
  have c1 : ¬ C < 0 := by omega
  have c2 : ¬ C ≤ 0 := by omega
  cases below with
  | true =>
    simp only [if_true]
    rw [rnd_neg N C how hC0]
    have e1 : decide (N % C > C - N % C) = decide (C < 2 * (N % C)) := by rw [Bool.eq_iff_iff]; simp only [decide_eq_true_eq]; omega
    simp only [e1]
    by_cases hz : N % C = 0
    · rcases hh with rfl | rfl | rfl <;> simp [hz, c1]
    · have hp : 0 < N % C := by omega
      by_cases h : C < 2 * (N % C) <;> rcases hh with rfl | rfl | rfl <;> simp [hz, hp, h]
  | false =>
    simp only [Bool.false_eq_true, if_false]
    rw [rnd_pos N C how hC0]
    have e1 : decide (N % C ≥ C - N % C) = decide (C ≤ 2 * (N % C)) := by rw [Bool.eq_iff_iff]; simp only [decide_eq_true_eq]; omega
    simp only [e1]
    by_cases hz : N % C = 0
    · rcases hh with rfl | rfl | rfl <;> simp [hz, c2]
    · have hp : 0 < N % C := by omega
      by_cases h : C ≤ 2 * (N % C) <;> rcases hh with rfl | rfl | rfl <;> simp [hz, hp, h]
theorem did_ok (a b c how : Int) (ha : isI64 a) (hb : isI64 b) (hc : isI64 c) : flywheelref02_Did.f 130 a b c how = some (mdq a b c how) := by
  unfold flywheelref02_Did.f mdq
  by_cases hz : c = 0
  · rw [if_pos hz, if_pos (Or.inl hz)]; rfl
  rw [if_neg hz]
  by_cases hl : how < 1
  · rw [if_pos hl, if_pos (Or.inr (Or.inl hl))]; rfl
  rw [if_neg hl]
  by_cases hg : how > 3
  · rw [decide_eq_true hg, if_pos (Or.inr (Or.inr hg))]; rfl
  rw [decide_eq_false hg, if_neg (by omega)]
  rw [flywheelref02_Did.j0, if_neg (by simp), rsize a ha, rsize b hb, rsize c hc]
  simp only [Option.bind_some]
  have ha' := ha; have hb' := hb; have hc' := hc
  unfold isI64 at ha' hb' hc'
  rw [times_ok _ _ (by split <;> omega) (by split <;> omega) (by split <;> omega) (by split <;> omega)]
  simp only [Option.bind_some]
  have hN := abs_mul_le (a := if a < 0 then -a else a) (b := if b < 0 then -b else b) (by split <;> omega) (by split <;> omega) (by split <;> omega) (by split <;> omega)
  have hN0 := Int.mul_nonneg (a := if a < 0 then -a else a) (b := if b < 0 then -b else b) (by split <;> omega) (by split <;> omega)
  rw [part_ok _ _ hN0 (by omega) (by split <;> omega) (by split <;> omega)]
  simp only [Option.bind_some]
  have J := fun bl => did_j1 c how ((if a < 0 then -a else a) * (if b < 0 then -b else b)) (if c < 0 then -c else c) bl 125 hc rfl (by split <;> omega) hN0 (by omega)
  simp only [J]
  by_cases h1 : a < 0 <;> by_cases h2 : b < 0 <;> by_cases h3 : c < 0 <;> simp [h1, h2, h3, Int.neg_mul, Int.mul_neg]
def flywheelref02_Did_s.f (a0 : Int) (a1 : Int) (a2 : Int) (a3 : Int) : Option (Int × Bool) := if isI64 a0 ∧ isI64 a1 ∧ isI64 a2 then some (mdq a0 a1 a2 a3) else none
theorem flywheelref02_Did_s.calls (a0 : Int) (a1 : Int) (a2 : Int) (a3 : Int) (r1 : Int) (r2 : Bool) (w : World) (h : flywheelref02_Did_s.f a0 a1 a2 a3 = some (r1, r2)) :
    Calls Try.prog 56 #[.int .i64 a0, .int .i64 a1, .int .i64 a2, .int .i64 a3] w fun e w' => e = .returned (.agg #[.int .i64 r1, .bool r2]) ∧ Below w.heap.size w w' := by
  unfold flywheelref02_Did_s.f at h
  split at h
  · rename_i hb
    exact flywheelref02_Did.calls 130 a0 a1 a2 a3 r1 r2 w ((did_ok a0 a1 a2 a3 hb.1 hb.2.1 hb.2.2).trans h)
  · cases h
def flywheelref02_Do.f (a0 : Int) (a1 : Int) (a2 : Int) (a3 : Int) : Option (Int) := (flywheelref02_Did_s.f a0 a1 a2 a3).bind fun bt194 => (some bt194.1)
set_option maxHeartbeats 8000000 in
set_option maxRecDepth 100000 in
theorem flywheelref02_Do.calls (a0 : Int) (a1 : Int) (a2 : Int) (a3 : Int) (r : Int) (w : World) (h : flywheelref02_Do.f a0 a1 a2 a3 = some r) :
    Calls Try.prog 49 #[.int .i64 a0, .int .i64 a1, .int .i64 a2, .int .i64 a3] w fun e w' => e = .returned (.int .i64 r) ∧ Below w.heap.size w w' := by
  have hfd87_0 : ∀ (v0 v1 : Value) (W : World), (Instr.field 87 (.agg #[v0, v1]) 0).run Try.prog W = .ok v0 W := fun _ _ _ => by kernel_rfl
  have HB := Aside0.mk (Below.refl w.heap.size w)
  have H : ((flywheelref02_Did_s.f a0 a1 a2 a3).bind fun bt194 => (some bt194.1)) = some r := h
  clear h
  replace H := Option.bind_eq_some_iff.mp H
  obtain ⟨⟨t194, t195⟩, A50, H⟩ := H
  replace H : (some t194) = some r := H
  have A5 := Aside0.mk A50
  clear A50
  obtain rfl := Option.some.inj H
  go_enter Try.func49, Try.ntmps49
  go_wp2_with (first | ((with_reducible refine gate_callee (f := 56) rfl ?_); refine goesL_ (some 13) rfl rfl Try.func56 (by kernel_rfl) rfl #[.int .i64 a0, .int .i64 a1, .int .i64 a2, .int .i64 a3] rfl (by (try simp only [List.map_toArray, List.map_cons, List.map_nil]); first | done | rfl | (simp only [List.length_drop, List.length_take]; rfl)) ?_; (with_reducible refine (flywheelref02_Did_s.calls a0 a1 a2 a3 t194 t195 _ A5.out).mono ?_); rintro e w6 ⟨rfl, hb⟩; refine ⟨_, rfl, ?_⟩; have n0_ := Aside0.mk (below_step (by repeat (first | (with_reducible first | exact HB.out | apply below_alloc | apply pw_below_drewN | apply below_drew1) | exact HB.out)) hb); clear HB; have HB := n0_; clear n0_; (try clear hb); (try clear hb2); (try clear hk); (try clear hi)))
  go_ret
  exact ⟨by first | rfl | (simp [errW_none, errW_some] <;> rfl) | (simp [*, errW_none, errW_some] <;> rfl), by repeat (first | (with_reducible first | exact HB.out | apply below_alloc | apply pw_below_drewN | apply below_drew1) | exact HB.out)⟩
end Go.Proofs.Ytaelmmbodigheaa.P
end

section
namespace Go.Proofs.Ytaelmmbodigheaa.P
open Go.RowKit Go.Proofs.YtaelmmbodigheaaW.PrintWords Go.Proofs.YtaelmmbodigheaaW.PrintLast Go.Proofs.YtaelmmbodigheaaW.PrintMore
attribute [local go_sem] max2_int min2_int max_two min_two max_three min_three max_four min_four   -- for this text's walks alone
set_option linter.unusedVariables false
set_option linter.unusedSimpArgs false
mutual
def flywheelref18_Detector_Add.j0 : Nat → Int → Int → Int → Int → Int → Int → Int → Option (Int × Int × Int × Int × Int × Int)
  | 0, _, _, _, _, _, _, _ => none
  | k + 1, x3, x9, x1000, x1001, x1002, x1003, x1004 => (flywheelref01_Abs.f k x9).bind fun t373 => ((flywheelref03_Of.f k 15).bind fun t374 => (if t373 ≤ (wrap64 (x1000 + t374)) then (if t373 < x1000 then (flywheelref18_Detector_Add.j1 k x3 x9 t373 168 x1000 x1001 x1002 x1003 x1004) else (flywheelref18_Detector_Add.j1 k x3 x9 t373 43 x1000 x1001 x1002 x1003 x1004)) else ((flywheelref03_Of.f k 6).bind fun t379 => ((flywheelref03_Of.f k 600).bind fun t380 => ((flywheelref01_Clamp.f x1000 t379 t380).bind fun t381 => (some (x1004, t381, x1001, x9, x1003, x1004)))))))
def flywheelref18_Detector_Add.j1 : Nat → Int → Int → Int → Int → Int → Int → Int → Int → Int → Option (Int × Int × Int × Int × Int × Int)
  | 0, _, _, _, _, _, _, _, _, _ => none
  | k + 1, x3, x9, x10, x11, x1000, x1001, x1002, x1003, x1004 => (flywheelref02_Do.f (wrap64 (x10 - x1000)) (wrap64 (x11 * (mn x3 100000))) 4294967296 1).bind fun t375 => ((flywheelref03_Of.f k 6).bind fun t376 => ((flywheelref03_Of.f k 600).bind fun t377 => ((flywheelref01_Clamp.f (wrap64 (x1000 + t375)) t376 t377).bind fun t378 => (some (x1004, t378, x1001, x9, x1003, x1004)))))
end
def flywheelref18_Detector_Add.f (k : Nat) (s0_0 : Int) (s0_1 : Int) (s0_2 : Int) (s0_3 : Int) (s0_4 : Int) (a1 : Int) (a2 : Int) (a3 : Int) : Option (Int × Int × Int × Int × Int × Int) := (flywheelref01_Clamp.f a3 0 1000000).bind fun t371 => ((flywheelref01_Mul.f k (4 * (mn (mx 0 (mn a2 1000)) 60)) a1).bind fun t372 => (if t372 > s0_0 then (if s0_1 > 0 then (if (wrap64 (s0_1 + t371)) > 10000 then (if (wrap64 (s0_3 + 1)) > 1 then (if t372 ≥ s0_2 then (flywheelref18_Detector_Add.j0 k t371 t372 s0_0 0 s0_2 0 1) else (flywheelref18_Detector_Add.j0 k t371 t372 s0_0 (wrap64 (s0_1 + t371)) s0_2 (wrap64 (s0_3 + 1)) s0_4)) else (flywheelref18_Detector_Add.j0 k t371 t372 s0_0 (wrap64 (s0_1 + t371)) s0_2 (wrap64 (s0_3 + 1)) s0_4)) else (flywheelref18_Detector_Add.j0 k t371 t372 s0_0 (wrap64 (s0_1 + t371)) s0_2 (wrap64 (s0_3 + 1)) s0_4)) else (if (mx 1 (wrap64 (Int.tdiv t371 2))) > 10000 then (if (wrap64 (s0_3 + 1)) > 1 then (if t372 ≥ s0_2 then (flywheelref18_Detector_Add.j0 k t371 t372 s0_0 0 s0_2 0 1) else (flywheelref18_Detector_Add.j0 k t371 t372 s0_0 (mx 1 (wrap64 (Int.tdiv t371 2))) s0_2 (wrap64 (s0_3 + 1)) s0_4)) else (flywheelref18_Detector_Add.j0 k t371 t372 s0_0 (mx 1 (wrap64 (Int.tdiv t371 2))) s0_2 (wrap64 (s0_3 + 1)) s0_4)) else (flywheelref18_Detector_Add.j0 k t371 t372 s0_0 (mx 1 (wrap64 (Int.tdiv t371 2))) s0_2 (wrap64 (s0_3 + 1)) s0_4))) else (if t372 < (wrap64 (-s0_0)) then (flywheelref18_Detector_Add.j0 k t371 t372 s0_0 0 s0_2 0 2) else (flywheelref18_Detector_Add.j0 k t371 t372 s0_0 0 s0_2 0 0))))
def flywheelref18_Detector_Add.T15 : Bool × List (List Nat × List Nat) := (true, [([], []), ([], []), ([1], [1]), ([2], [2]), ([3], [3]), ([], []), ([4, 5], [4, 5]), ([0, 6], [0, 6])])
def flywheelref18_Detector_Add.B15 : List Nat := [0, 0, 2, 6, 14, 0, 62, 127]
theorem flywheelref18_Detector_Add.tab15 : rtab .any (opsOf Try.f29 15) = flywheelref18_Detector_Add.T15 := by kernel_rfl
theorem flywheelref18_Detector_Add.bits15 : waitsOk flywheelref18_Detector_Add.T15.2 flywheelref18_Detector_Add.B15 = true := by kernel_rfl
def flywheelref18_Detector_Add.T19 : Bool × List (List Nat × List Nat) := (true, [([], []), ([0], [0]), ([1], [1]), ([2], [2]), ([], []), ([], []), ([5], [5]), ([6], [6]), ([7], [7]), ([4, 8], [4, 8]), ([], []), ([], []), ([11], [11]), ([10, 12], [10, 12]), ([9, 13], [9, 13]), ([3, 14], [3, 14]), ([0, 0, 1, 2, 3, 4, 5, 6, 7, 8, 9, 10, 11, 12, 13, 14, 15], [0]), ([16, 0, 1, 2, 3, 4, 5, 6, 7, 8, 9, 10, 11, 12, 13, 14, 15], [16]), ([17, 15, 14, 0, 1, 2, 3, 4, 5, 6, 7, 8, 9, 10, 11, 12, 13, 14, 15], [15, 17])])
def flywheelref18_Detector_Add.B19 : List Nat := [0, 1, 3, 7, 0, 0, 32, 96, 224, 496, 0, 0, 2048, 7168, 16368, 32767, 65535, 131071, 262143]
theorem flywheelref18_Detector_Add.tab19 : rtab .any (opsOf Try.f29 19) = flywheelref18_Detector_Add.T19 := by kernel_rfl
theorem flywheelref18_Detector_Add.bits19 : waitsOk flywheelref18_Detector_Add.T19.2 flywheelref18_Detector_Add.B19 = true := by kernel_rfl
def flywheelref18_Detector_Add.T20 : Bool × List (List Nat × List Nat) := (true, [([], []), ([], []), ([1], [1]), ([2], [2]), ([3], [3]), ([], []), ([5], []), ([4, 5, 6, 6], [4, 5, 6]), ([0, 0, 1, 2, 3, 4, 5, 6, 7], [0]), ([8, 0, 1, 2, 3, 4, 5, 6, 7], [8]), ([9, 7, 7, 0, 1, 2, 3, 4, 5, 6, 7], [7, 9])])
def flywheelref18_Detector_Add.B20 : List Nat := [0, 0, 2, 6, 14, 0, 32, 126, 255, 511, 1023]
theorem flywheelref18_Detector_Add.tab20 : rtab .any (opsOf Try.f29 20) = flywheelref18_Detector_Add.T20 := by kernel_rfl
theorem flywheelref18_Detector_Add.bits20 : waitsOk flywheelref18_Detector_Add.T20.2 flywheelref18_Detector_Add.B20 = true := by kernel_rfl
set_option maxHeartbeats 8000000 in
set_option maxRecDepth 100000 in
theorem flywheelref18_Detector_Add.calls (k : Nat) (g : Nat) (s0_0 : Int) (s0_1 : Int) (s0_2 : Int) (s0_3 : Int) (s0_4 : Int) (a1 : Int) (a2 : Int) (a3 : Int) (r1 : Int) (r2 : Int) (r3 : Int) (r4 : Int) (r5 : Int) (r6 : Int) (w0 w : World) (hI : IsS77 w0 w g s0_0 s0_1 s0_2 s0_3 s0_4) (hB : Below w0.heap.size w0 w) (h : flywheelref18_Detector_Add.f k s0_0 s0_1 s0_2 s0_3 s0_4 a1 a2 a3 = some (r1, r2, r3, r4, r5, r6)) :
    Calls Try.prog 29 #[.pointer (some ⟨g, 0, none⟩), .int .i64 a1, .int .i64 a2, .int .i64 a3] w fun e w' => e = .returned (.int .i64 r1) ∧ IsS77 w0 w' g r2 r3 r4 r5 r6 ∧ Below w0.heap.size w0 w' ∧ KeepBut w w' g none := by
  have HI0 := Aside0.mk hI
  have HK := Aside0.mk (KeepBut.refl w g none)
  have HL := Aside0.mk hB.size
  clear hI
  have HW0 := Aside0.mk hB.size
  have HB := Aside0.mk hB
  clear hB
  have H : ((flywheelref01_Clamp.f a3 0 1000000).bind fun t371 => ((flywheelref01_Mul.f k (4 * (mn (mx 0 (mn a2 1000)) 60)) a1).bind fun t372 => (if t372 > s0_0 then (if s0_1 > 0 then (if (wrap64 (s0_1 + t371)) > 10000 then (if (wrap64 (s0_3 + 1)) > 1 then (if t372 ≥ s0_2 then (flywheelref18_Detector_Add.j0 k t371 t372 s0_0 0 s0_2 0 1) else (flywheelref18_Detector_Add.j0 k t371 t372 s0_0 (wrap64 (s0_1 + t371)) s0_2 (wrap64 (s0_3 + 1)) s0_4)) else (flywheelref18_Detector_Add.j0 k t371 t372 s0_0 (wrap64 (s0_1 + t371)) s0_2 (wrap64 (s0_3 + 1)) s0_4)) else (flywheelref18_Detector_Add.j0 k t371 t372 s0_0 (wrap64 (s0_1 + t371)) s0_2 (wrap64 (s0_3 + 1)) s0_4)) else (if (mx 1 (wrap64 (Int.tdiv t371 2))) > 10000 then (if (wrap64 (s0_3 + 1)) > 1 then (if t372 ≥ s0_2 then (flywheelref18_Detector_Add.j0 k t371 t372 s0_0 0 s0_2 0 1) else (flywheelref18_Detector_Add.j0 k t371 t372 s0_0 (mx 1 (wrap64 (Int.tdiv t371 2))) s0_2 (wrap64 (s0_3 + 1)) s0_4)) else (flywheelref18_Detector_Add.j0 k t371 t372 s0_0 (mx 1 (wrap64 (Int.tdiv t371 2))) s0_2 (wrap64 (s0_3 + 1)) s0_4)) else (flywheelref18_Detector_Add.j0 k t371 t372 s0_0 (mx 1 (wrap64 (Int.tdiv t371 2))) s0_2 (wrap64 (s0_3 + 1)) s0_4))) else (if t372 < (wrap64 (-s0_0)) then (flywheelref18_Detector_Add.j0 k t371 t372 s0_0 0 s0_2 0 2) else (flywheelref18_Detector_Add.j0 k t371 t372 s0_0 0 s0_2 0 0))))) = some (r1, r2, r3, r4, r5, r6) := h
  clear h
  obtain ⟨ji5, hji5⟩ : ∃ j_ : Int, (mn a2 1000) = j_ := ⟨_, rfl⟩
  replace H : ((flywheelref01_Clamp.f a3 0 1000000).bind fun t371 => ((flywheelref01_Mul.f k (4 * (mn (mx 0 (ji5)) 60)) a1).bind fun t372 => (if t372 > s0_0 then (if s0_1 > 0 then (if (wrap64 (s0_1 + t371)) > 10000 then (if (wrap64 (s0_3 + 1)) > 1 then (if t372 ≥ s0_2 then (flywheelref18_Detector_Add.j0 k t371 t372 s0_0 0 s0_2 0 1) else (flywheelref18_Detector_Add.j0 k t371 t372 s0_0 (wrap64 (s0_1 + t371)) s0_2 (wrap64 (s0_3 + 1)) s0_4)) else (flywheelref18_Detector_Add.j0 k t371 t372 s0_0 (wrap64 (s0_1 + t371)) s0_2 (wrap64 (s0_3 + 1)) s0_4)) else (flywheelref18_Detector_Add.j0 k t371 t372 s0_0 (wrap64 (s0_1 + t371)) s0_2 (wrap64 (s0_3 + 1)) s0_4)) else (if (mx 1 (wrap64 (Int.tdiv t371 2))) > 10000 then (if (wrap64 (s0_3 + 1)) > 1 then (if t372 ≥ s0_2 then (flywheelref18_Detector_Add.j0 k t371 t372 s0_0 0 s0_2 0 1) else (flywheelref18_Detector_Add.j0 k t371 t372 s0_0 (mx 1 (wrap64 (Int.tdiv t371 2))) s0_2 (wrap64 (s0_3 + 1)) s0_4)) else (flywheelref18_Detector_Add.j0 k t371 t372 s0_0 (mx 1 (wrap64 (Int.tdiv t371 2))) s0_2 (wrap64 (s0_3 + 1)) s0_4)) else (flywheelref18_Detector_Add.j0 k t371 t372 s0_0 (mx 1 (wrap64 (Int.tdiv t371 2))) s0_2 (wrap64 (s0_3 + 1)) s0_4))) else (if t372 < (wrap64 (-s0_0)) then (flywheelref18_Detector_Add.j0 k t371 t372 s0_0 0 s0_2 0 2) else (flywheelref18_Detector_Add.j0 k t371 t372 s0_0 0 s0_2 0 0))))) = some (r1, r2, r3, r4, r5, r6) := by first | (rw [hji5] at H; exact H) | (simp only [hji5] at H ⊢; exact H)
  (try (have hji5h : ji5 ≤ 1000 := by (rw [← hji5]; unfold mn; (repeat' split) <;> omega)))
  (try (have hji5g : ji5 ≤ 64 := by omega))
  have hji5_ : (if 1000 < a2 then 1000 else a2) = ji5 := hji5
  obtain ⟨ji6, hji6⟩ : ∃ j_ : Int, (mx 0 (ji5)) = j_ := ⟨_, rfl⟩
  replace H : ((flywheelref01_Clamp.f a3 0 1000000).bind fun t371 => ((flywheelref01_Mul.f k (4 * (mn (ji6) 60)) a1).bind fun t372 => (if t372 > s0_0 then (if s0_1 > 0 then (if (wrap64 (s0_1 + t371)) > 10000 then (if (wrap64 (s0_3 + 1)) > 1 then (if t372 ≥ s0_2 then (flywheelref18_Detector_Add.j0 k t371 t372 s0_0 0 s0_2 0 1) else (flywheelref18_Detector_Add.j0 k t371 t372 s0_0 (wrap64 (s0_1 + t371)) s0_2 (wrap64 (s0_3 + 1)) s0_4)) else (flywheelref18_Detector_Add.j0 k t371 t372 s0_0 (wrap64 (s0_1 + t371)) s0_2 (wrap64 (s0_3 + 1)) s0_4)) else (flywheelref18_Detector_Add.j0 k t371 t372 s0_0 (wrap64 (s0_1 + t371)) s0_2 (wrap64 (s0_3 + 1)) s0_4)) else (if (mx 1 (wrap64 (Int.tdiv t371 2))) > 10000 then (if (wrap64 (s0_3 + 1)) > 1 then (if t372 ≥ s0_2 then (flywheelref18_Detector_Add.j0 k t371 t372 s0_0 0 s0_2 0 1) else (flywheelref18_Detector_Add.j0 k t371 t372 s0_0 (mx 1 (wrap64 (Int.tdiv t371 2))) s0_2 (wrap64 (s0_3 + 1)) s0_4)) else (flywheelref18_Detector_Add.j0 k t371 t372 s0_0 (mx 1 (wrap64 (Int.tdiv t371 2))) s0_2 (wrap64 (s0_3 + 1)) s0_4)) else (flywheelref18_Detector_Add.j0 k t371 t372 s0_0 (mx 1 (wrap64 (Int.tdiv t371 2))) s0_2 (wrap64 (s0_3 + 1)) s0_4))) else (if t372 < (wrap64 (-s0_0)) then (flywheelref18_Detector_Add.j0 k t371 t372 s0_0 0 s0_2 0 2) else (flywheelref18_Detector_Add.j0 k t371 t372 s0_0 0 s0_2 0 0))))) = some (r1, r2, r3, r4, r5, r6) := by first | (rw [hji6] at H; exact H) | (simp only [hji6] at H ⊢; exact H)
  have hji6_ : (if 0 < (ji5) then (ji5) else 0) = ji6 := hji6
  replace H := Option.bind_eq_some_iff.mp H
  obtain ⟨t371, A70, H⟩ := H
  replace H : ((flywheelref01_Mul.f k (4 * (mn (ji6) 60)) a1).bind fun t372 => (if t372 > s0_0 then (if s0_1 > 0 then (if (wrap64 (s0_1 + t371)) > 10000 then (if (wrap64 (s0_3 + 1)) > 1 then (if t372 ≥ s0_2 then (flywheelref18_Detector_Add.j0 k t371 t372 s0_0 0 s0_2 0 1) else (flywheelref18_Detector_Add.j0 k t371 t372 s0_0 (wrap64 (s0_1 + t371)) s0_2 (wrap64 (s0_3 + 1)) s0_4)) else (flywheelref18_Detector_Add.j0 k t371 t372 s0_0 (wrap64 (s0_1 + t371)) s0_2 (wrap64 (s0_3 + 1)) s0_4)) else (flywheelref18_Detector_Add.j0 k t371 t372 s0_0 (wrap64 (s0_1 + t371)) s0_2 (wrap64 (s0_3 + 1)) s0_4)) else (if (mx 1 (wrap64 (Int.tdiv t371 2))) > 10000 then (if (wrap64 (s0_3 + 1)) > 1 then (if t372 ≥ s0_2 then (flywheelref18_Detector_Add.j0 k t371 t372 s0_0 0 s0_2 0 1) else (flywheelref18_Detector_Add.j0 k t371 t372 s0_0 (mx 1 (wrap64 (Int.tdiv t371 2))) s0_2 (wrap64 (s0_3 + 1)) s0_4)) else (flywheelref18_Detector_Add.j0 k t371 t372 s0_0 (mx 1 (wrap64 (Int.tdiv t371 2))) s0_2 (wrap64 (s0_3 + 1)) s0_4)) else (flywheelref18_Detector_Add.j0 k t371 t372 s0_0 (mx 1 (wrap64 (Int.tdiv t371 2))) s0_2 (wrap64 (s0_3 + 1)) s0_4))) else (if t372 < (wrap64 (-s0_0)) then (flywheelref18_Detector_Add.j0 k t371 t372 s0_0 0 s0_2 0 2) else (flywheelref18_Detector_Add.j0 k t371 t372 s0_0 0 s0_2 0 0)))) = some (r1, r2, r3, r4, r5, r6) := H
  have A7 := Aside0.mk A70
  clear A70
  obtain ⟨ji8, hji8⟩ : ∃ j_ : Int, (mn (ji6) 60) = j_ := ⟨_, rfl⟩
  replace H : ((flywheelref01_Mul.f k (4 * (ji8)) a1).bind fun t372 => (if t372 > s0_0 then (if s0_1 > 0 then (if (wrap64 (s0_1 + t371)) > 10000 then (if (wrap64 (s0_3 + 1)) > 1 then (if t372 ≥ s0_2 then (flywheelref18_Detector_Add.j0 k t371 t372 s0_0 0 s0_2 0 1) else (flywheelref18_Detector_Add.j0 k t371 t372 s0_0 (wrap64 (s0_1 + t371)) s0_2 (wrap64 (s0_3 + 1)) s0_4)) else (flywheelref18_Detector_Add.j0 k t371 t372 s0_0 (wrap64 (s0_1 + t371)) s0_2 (wrap64 (s0_3 + 1)) s0_4)) else (flywheelref18_Detector_Add.j0 k t371 t372 s0_0 (wrap64 (s0_1 + t371)) s0_2 (wrap64 (s0_3 + 1)) s0_4)) else (if (mx 1 (wrap64 (Int.tdiv t371 2))) > 10000 then (if (wrap64 (s0_3 + 1)) > 1 then (if t372 ≥ s0_2 then (flywheelref18_Detector_Add.j0 k t371 t372 s0_0 0 s0_2 0 1) else (flywheelref18_Detector_Add.j0 k t371 t372 s0_0 (mx 1 (wrap64 (Int.tdiv t371 2))) s0_2 (wrap64 (s0_3 + 1)) s0_4)) else (flywheelref18_Detector_Add.j0 k t371 t372 s0_0 (mx 1 (wrap64 (Int.tdiv t371 2))) s0_2 (wrap64 (s0_3 + 1)) s0_4)) else (flywheelref18_Detector_Add.j0 k t371 t372 s0_0 (mx 1 (wrap64 (Int.tdiv t371 2))) s0_2 (wrap64 (s0_3 + 1)) s0_4))) else (if t372 < (wrap64 (-s0_0)) then (flywheelref18_Detector_Add.j0 k t371 t372 s0_0 0 s0_2 0 2) else (flywheelref18_Detector_Add.j0 k t371 t372 s0_0 0 s0_2 0 0)))) = some (r1, r2, r3, r4, r5, r6) := by first | (rw [hji8] at H; exact H) | (simp only [hji8] at H ⊢; exact H)
  (try rw [hji8] at A7)
  have hji8_ : (if 60 < (ji6) then 60 else (ji6)) = ji8 := hji8
  replace H := Option.bind_eq_some_iff.mp H
  obtain ⟨t372, A90, H⟩ := H
  replace H : (if t372 > s0_0 then (if s0_1 > 0 then (if (wrap64 (s0_1 + t371)) > 10000 then (if (wrap64 (s0_3 + 1)) > 1 then (if t372 ≥ s0_2 then (flywheelref18_Detector_Add.j0 k t371 t372 s0_0 0 s0_2 0 1) else (flywheelref18_Detector_Add.j0 k t371 t372 s0_0 (wrap64 (s0_1 + t371)) s0_2 (wrap64 (s0_3 + 1)) s0_4)) else (flywheelref18_Detector_Add.j0 k t371 t372 s0_0 (wrap64 (s0_1 + t371)) s0_2 (wrap64 (s0_3 + 1)) s0_4)) else (flywheelref18_Detector_Add.j0 k t371 t372 s0_0 (wrap64 (s0_1 + t371)) s0_2 (wrap64 (s0_3 + 1)) s0_4)) else (if (mx 1 (wrap64 (Int.tdiv t371 2))) > 10000 then (if (wrap64 (s0_3 + 1)) > 1 then (if t372 ≥ s0_2 then (flywheelref18_Detector_Add.j0 k t371 t372 s0_0 0 s0_2 0 1) else (flywheelref18_Detector_Add.j0 k t371 t372 s0_0 (mx 1 (wrap64 (Int.tdiv t371 2))) s0_2 (wrap64 (s0_3 + 1)) s0_4)) else (flywheelref18_Detector_Add.j0 k t371 t372 s0_0 (mx 1 (wrap64 (Int.tdiv t371 2))) s0_2 (wrap64 (s0_3 + 1)) s0_4)) else (flywheelref18_Detector_Add.j0 k t371 t372 s0_0 (mx 1 (wrap64 (Int.tdiv t371 2))) s0_2 (wrap64 (s0_3 + 1)) s0_4))) else (if t372 < (wrap64 (-s0_0)) then (flywheelref18_Detector_Add.j0 k t371 t372 s0_0 0 s0_2 0 2) else (flywheelref18_Detector_Add.j0 k t371 t372 s0_0 0 s0_2 0 0))) = some (r1, r2, r3, r4, r5, r6) := H
  have A9 := Aside0.mk A90
  clear A90
  have HC10 := Aside0.mk H
  clear H
  go_enter Try.func29, Try.ntmps29
  go_upto_block 0 with (first | ((with_reducible refine gate_callee (f := 40) rfl ?_); refine goesL_ (some 16) rfl rfl Try.func40 (by kernel_rfl) rfl #[.int .i64 a3, .int .i64 0, .int .i64 1000000] rfl (by (try simp only [List.map_toArray, List.map_cons, List.map_nil]); first | done | rfl | (simp only [List.length_drop, List.length_take]; rfl)) ?_; (with_reducible refine (flywheelref01_Clamp.calls a3 0 1000000 t371 _ A7.out).mono ?_); rintro e w' ⟨rfl, ⟨nd, rfl⟩⟩; refine ⟨_, rfl, ?_⟩) | ((with_reducible refine gate_callee (f := 47) rfl ?_); refine goesL_ (some 21) rfl rfl Try.func47 (by kernel_rfl) rfl #[.int .i64 (4 * (ji8)), .int .i64 a1] rfl (by (try simp only [List.map_toArray, List.map_cons, List.map_nil]); first | done | (simp only [hji8]; rfl) | rfl | (simp only [List.length_drop, List.length_take]; rfl)) ?_; (with_reducible refine (flywheelref01_Mul.calls k (4 * (ji8)) a1 t372 _ A9.out).mono ?_); rintro e w' ⟨rfl, ⟨nd, rfl⟩⟩; refine ⟨_, rfl, ?_⟩))
  (try simp only [Act.put, List.setIfInBounds_toArray, List.set_cons_zero, List.set_cons_succ])
  go_cut [] (fun wc => ∃ (kq : Nat) (x1001_9 : Int) (x1003_9 : Int) (x1004_9 : Int), Aside0 (flywheelref18_Detector_Add.j0 kq t371 t372 s0_0 x1001_9 s0_2 x1003_9 x1004_9 = some (r1, r2, r3, r4, r5, r6)) ∧ Aside0 (kq ≤ k) ∧ Aside0 (IsS77 w0 wc g s0_0 x1001_9 s0_2 x1003_9 x1004_9) ∧ Aside0 (KeepBut w wc g none) ∧ Aside0 (Below w0.heap.size w0 wc))
  case first =>
    have H := HC10.out
    clear HC10
    by_cases c11 : t372 > s0_0
    · rw [if_pos c11] at H
      have c11b0 : decide (s0_0 < t372) = true := decide_eq_true c11
      clear c11
      (first | rw [c11b0] | (simp only [i64_w, i32_w]; rw [c11b0]) | skip)
      by_cases c12 : s0_1 > 0
      · rw [if_pos c12] at H
        have c12b0 : decide (0 < s0_1) = true := decide_eq_true c12
        clear c12
        by_cases c13 : (wrap64 (s0_1 + t371)) > 10000
        · rw [if_pos c13] at H
          have c13b0 : decide (10000 < (wrap64 (s0_1 + t371))) = true := decide_eq_true c13
          clear c13
          by_cases c14 : (wrap64 (s0_3 + 1)) > 1
          · rw [if_pos c14] at H
            have c14b0 : decide (1 < (wrap64 (s0_3 + 1))) = true := decide_eq_true c14
            clear c14
            by_cases c15 : t372 ≥ s0_2
            · rw [if_pos c15] at H
              have c15b0 : decide (s0_2 ≤ t372) = true := decide_eq_true c15
              clear c15
              have H' := Aside0.mk H
              clear H
              obtain ⟨HGz16, hgz16⟩ := HI0.out
              have hcz16_0 := cellS77_0 HGz16
              have hcz16_1 := cellS77_1 HGz16
              have hcz16_2 := cellS77_2 HGz16
              have hcz16_3 := cellS77_3 HGz16
              have hcz16_4 := cellS77_4 HGz16
              have hfz16_0 := blk_frozen HGz16 0
              have hfz16_1 := blk_frozen HGz16 1
              have hfz16_2 := blk_frozen HGz16 2
              have hfz16_3 := blk_frozen HGz16 3
              have hfz16_4 := blk_frozen HGz16 4
              clear HGz16 hgz16
              go_wp2
              go_meet
              case rel => exact ⟨_, (0), (0), (1), H', ⟨by first | omega | exact Nat.le_refl _⟩, ⟨by repeat (first | (with_reducible first | exact HI0.out | apply IsS77.alloc | apply IsS77.drewN | apply IsS77.drew | apply IsS77.set_0 | apply IsS77.set_1 | apply IsS77.set_2 | apply IsS77.set_3 | apply IsS77.set_4) | exact HI0.out)⟩, ⟨by repeat (first | (with_reducible first | exact HK.out | apply KeepBut.set_ | apply keep_drewN | apply keep_drew | apply keep_alloc) | exact HK.out)⟩, ⟨by repeat (first | (with_reducible first | exact HB.out | apply below_alloc | apply pw_below_drewN | apply below_drew1 | refine below_set ?_ (IsS77.ge HI0.out)) | exact HB.out)⟩⟩
            · rw [if_neg c15] at H
              have c15b0 : decide (s0_2 ≤ t372) = false := decide_eq_false c15
              clear c15
              have H' := Aside0.mk H
              clear H
              obtain ⟨HGz17, hgz17⟩ := HI0.out
              have hcz17_0 := cellS77_0 HGz17
              have hcz17_1 := cellS77_1 HGz17
              have hcz17_2 := cellS77_2 HGz17
              have hcz17_3 := cellS77_3 HGz17
              have hcz17_4 := cellS77_4 HGz17
              have hfz17_0 := blk_frozen HGz17 0
              have hfz17_1 := blk_frozen HGz17 1
              have hfz17_2 := blk_frozen HGz17 2
              have hfz17_3 := blk_frozen HGz17 3
              have hfz17_4 := blk_frozen HGz17 4
              clear HGz17 hgz17
              go_wp2
              go_meet
              case rel => exact ⟨_, (wrap64 (s0_1 + t371)), (wrap64 (s0_3 + 1)), (s0_4), H', ⟨by first | omega | exact Nat.le_refl _⟩, ⟨by repeat (first | (with_reducible first | exact HI0.out | apply IsS77.alloc | apply IsS77.drewN | apply IsS77.drew | apply IsS77.set_0 | apply IsS77.set_1 | apply IsS77.set_2 | apply IsS77.set_3 | apply IsS77.set_4) | exact HI0.out)⟩, ⟨by repeat (first | (with_reducible first | exact HK.out | apply KeepBut.set_ | apply keep_drewN | apply keep_drew | apply keep_alloc) | exact HK.out)⟩, ⟨by repeat (first | (with_reducible first | exact HB.out | apply below_alloc | apply pw_below_drewN | apply below_drew1 | refine below_set ?_ (IsS77.ge HI0.out)) | exact HB.out)⟩⟩
          · rw [if_neg c14] at H
            have c14b0 : decide (1 < (wrap64 (s0_3 + 1))) = false := decide_eq_false c14
            clear c14
            have H' := Aside0.mk H
            clear H
            obtain ⟨HGz18, hgz18⟩ := HI0.out
            have hcz18_0 := cellS77_0 HGz18
            have hcz18_1 := cellS77_1 HGz18
            have hcz18_2 := cellS77_2 HGz18
            have hcz18_3 := cellS77_3 HGz18
            have hcz18_4 := cellS77_4 HGz18
            have hfz18_0 := blk_frozen HGz18 0
            have hfz18_1 := blk_frozen HGz18 1
            have hfz18_2 := blk_frozen HGz18 2
            have hfz18_3 := blk_frozen HGz18 3
            have hfz18_4 := blk_frozen HGz18 4
            clear HGz18 hgz18
            go_wp2
            go_meet
            case rel => exact ⟨_, (wrap64 (s0_1 + t371)), (wrap64 (s0_3 + 1)), (s0_4), H', ⟨by first | omega | exact Nat.le_refl _⟩, ⟨by repeat (first | (with_reducible first | exact HI0.out | apply IsS77.alloc | apply IsS77.drewN | apply IsS77.drew | apply IsS77.set_0 | apply IsS77.set_1 | apply IsS77.set_2 | apply IsS77.set_3 | apply IsS77.set_4) | exact HI0.out)⟩, ⟨by repeat (first | (with_reducible first | exact HK.out | apply KeepBut.set_ | apply keep_drewN | apply keep_drew | apply keep_alloc) | exact HK.out)⟩, ⟨by repeat (first | (with_reducible first | exact HB.out | apply below_alloc | apply pw_below_drewN | apply below_drew1 | refine below_set ?_ (IsS77.ge HI0.out)) | exact HB.out)⟩⟩
        · rw [if_neg c13] at H
          have c13b0 : decide (10000 < (wrap64 (s0_1 + t371))) = false := decide_eq_false c13
          clear c13
          have H' := Aside0.mk H
          clear H
          obtain ⟨HGz19, hgz19⟩ := HI0.out
          have hcz19_0 := cellS77_0 HGz19
          have hcz19_1 := cellS77_1 HGz19
          have hcz19_2 := cellS77_2 HGz19
          have hcz19_3 := cellS77_3 HGz19
          have hcz19_4 := cellS77_4 HGz19
          have hfz19_0 := blk_frozen HGz19 0
          have hfz19_1 := blk_frozen HGz19 1
          have hfz19_2 := blk_frozen HGz19 2
          have hfz19_3 := blk_frozen HGz19 3
          have hfz19_4 := blk_frozen HGz19 4
          clear HGz19 hgz19
          go_wp2
          go_meet
          case rel => exact ⟨_, (wrap64 (s0_1 + t371)), (wrap64 (s0_3 + 1)), (s0_4), H', ⟨by first | omega | exact Nat.le_refl _⟩, ⟨by repeat (first | (with_reducible first | exact HI0.out | apply IsS77.alloc | apply IsS77.drewN | apply IsS77.drew | apply IsS77.set_0 | apply IsS77.set_1 | apply IsS77.set_2 | apply IsS77.set_3 | apply IsS77.set_4) | exact HI0.out)⟩, ⟨by repeat (first | (with_reducible first | exact HK.out | apply KeepBut.set_ | apply keep_drewN | apply keep_drew | apply keep_alloc) | exact HK.out)⟩, ⟨by repeat (first | (with_reducible first | exact HB.out | apply below_alloc | apply pw_below_drewN | apply below_drew1 | refine below_set ?_ (IsS77.ge HI0.out)) | exact HB.out)⟩⟩
      · rw [if_neg c12] at H
        have c12b0 : decide (0 < s0_1) = false := decide_eq_false c12
        clear c12
        obtain ⟨ji20, hji20⟩ : ∃ j_ : Int, (mx 1 (wrap64 (Int.tdiv t371 2))) = j_ := ⟨_, rfl⟩
        replace H : (if (ji20) > 10000 then (if (wrap64 (s0_3 + 1)) > 1 then (if t372 ≥ s0_2 then (flywheelref18_Detector_Add.j0 k t371 t372 s0_0 0 s0_2 0 1) else (flywheelref18_Detector_Add.j0 k t371 t372 s0_0 ji20 s0_2 (wrap64 (s0_3 + 1)) s0_4)) else (flywheelref18_Detector_Add.j0 k t371 t372 s0_0 ji20 s0_2 (wrap64 (s0_3 + 1)) s0_4)) else (flywheelref18_Detector_Add.j0 k t371 t372 s0_0 ji20 s0_2 (wrap64 (s0_3 + 1)) s0_4)) = some (r1, r2, r3, r4, r5, r6) := by first | (rw [hji20] at H; exact H) | (simp only [hji20] at H ⊢; exact H)
        (try (have hji20l : 1 ≤ ji20 := by (rw [← hji20]; unfold mx; (repeat' split) <;> omega)))
        (try (have hji20m : 0 ≤ ji20 := by omega))
        have hji20_ : (if 1 < (wrap64 (Int.tdiv t371 2)) then (wrap64 (Int.tdiv t371 2)) else 1) = ji20 := hji20
        by_cases c21 : (ji20) > 10000
        · rw [if_pos c21] at H
          have c21b0 : decide (10000 < (ji20)) = true := decide_eq_true c21
          clear c21
          by_cases c22 : (wrap64 (s0_3 + 1)) > 1
          · rw [if_pos c22] at H
            have c22b0 : decide (1 < (wrap64 (s0_3 + 1))) = true := decide_eq_true c22
            clear c22
            by_cases c23 : t372 ≥ s0_2
            · rw [if_pos c23] at H
              have c23b0 : decide (s0_2 ≤ t372) = true := decide_eq_true c23
              clear c23
              have H' := Aside0.mk H
              clear H
              obtain ⟨HGz24, hgz24⟩ := HI0.out
              have hcz24_0 := cellS77_0 HGz24
              have hcz24_1 := cellS77_1 HGz24
              have hcz24_2 := cellS77_2 HGz24
              have hcz24_3 := cellS77_3 HGz24
              have hcz24_4 := cellS77_4 HGz24
              have hfz24_0 := blk_frozen HGz24 0
              have hfz24_1 := blk_frozen HGz24 1
              have hfz24_2 := blk_frozen HGz24 2
              have hfz24_3 := blk_frozen HGz24 3
              have hfz24_4 := blk_frozen HGz24 4
              clear HGz24 hgz24
              go_wp2
              go_meet
              case rel => exact ⟨_, (0), (0), (1), H', ⟨by first | omega | exact Nat.le_refl _⟩, ⟨by repeat (first | (with_reducible first | exact HI0.out | apply IsS77.alloc | apply IsS77.drewN | apply IsS77.drew | apply IsS77.set_0 | apply IsS77.set_1 | apply IsS77.set_2 | apply IsS77.set_3 | apply IsS77.set_4) | exact HI0.out)⟩, ⟨by repeat (first | (with_reducible first | exact HK.out | apply KeepBut.set_ | apply keep_drewN | apply keep_drew | apply keep_alloc) | exact HK.out)⟩, ⟨by repeat (first | (with_reducible first | exact HB.out | apply below_alloc | apply pw_below_drewN | apply below_drew1 | refine below_set ?_ (IsS77.ge HI0.out)) | exact HB.out)⟩⟩
            · rw [if_neg c23] at H
              have c23b0 : decide (s0_2 ≤ t372) = false := decide_eq_false c23
              clear c23
              have H' := Aside0.mk H
              clear H
              obtain ⟨HGz25, hgz25⟩ := HI0.out
              have hcz25_0 := cellS77_0 HGz25
              have hcz25_1 := cellS77_1 HGz25
              have hcz25_2 := cellS77_2 HGz25
              have hcz25_3 := cellS77_3 HGz25
              have hcz25_4 := cellS77_4 HGz25
              have hfz25_0 := blk_frozen HGz25 0
              have hfz25_1 := blk_frozen HGz25 1
              have hfz25_2 := blk_frozen HGz25 2
              have hfz25_3 := blk_frozen HGz25 3
              have hfz25_4 := blk_frozen HGz25 4
              clear HGz25 hgz25
              go_wp2
              go_meet
              case rel => exact ⟨_, (ji20), (wrap64 (s0_3 + 1)), (s0_4), H', ⟨by first | omega | exact Nat.le_refl _⟩, ⟨by repeat (first | (with_reducible first | exact HI0.out | apply IsS77.alloc | apply IsS77.drewN | apply IsS77.drew | apply IsS77.set_0 | apply IsS77.set_1 | apply IsS77.set_2 | apply IsS77.set_3 | apply IsS77.set_4) | exact HI0.out)⟩, ⟨by repeat (first | (with_reducible first | exact HK.out | apply KeepBut.set_ | apply keep_drewN | apply keep_drew | apply keep_alloc) | exact HK.out)⟩, ⟨by repeat (first | (with_reducible first | exact HB.out | apply below_alloc | apply pw_below_drewN | apply below_drew1 | refine below_set ?_ (IsS77.ge HI0.out)) | exact HB.out)⟩⟩
          · rw [if_neg c22] at H
            have c22b0 : decide (1 < (wrap64 (s0_3 + 1))) = false := decide_eq_false c22
            clear c22
            have H' := Aside0.mk H
            clear H
            obtain ⟨HGz26, hgz26⟩ := HI0.out
            have hcz26_0 := cellS77_0 HGz26
            have hcz26_1 := cellS77_1 HGz26
            have hcz26_2 := cellS77_2 HGz26
            have hcz26_3 := cellS77_3 HGz26
            have hcz26_4 := cellS77_4 HGz26
            have hfz26_0 := blk_frozen HGz26 0
            have hfz26_1 := blk_frozen HGz26 1
            have hfz26_2 := blk_frozen HGz26 2
            have hfz26_3 := blk_frozen HGz26 3
            have hfz26_4 := blk_frozen HGz26 4
            clear HGz26 hgz26
            go_wp2
            go_meet
            case rel => exact ⟨_, (ji20), (wrap64 (s0_3 + 1)), (s0_4), H', ⟨by first | omega | exact Nat.le_refl _⟩, ⟨by repeat (first | (with_reducible first | exact HI0.out | apply IsS77.alloc | apply IsS77.drewN | apply IsS77.drew | apply IsS77.set_0 | apply IsS77.set_1 | apply IsS77.set_2 | apply IsS77.set_3 | apply IsS77.set_4) | exact HI0.out)⟩, ⟨by repeat (first | (with_reducible first | exact HK.out | apply KeepBut.set_ | apply keep_drewN | apply keep_drew | apply keep_alloc) | exact HK.out)⟩, ⟨by repeat (first | (with_reducible first | exact HB.out | apply below_alloc | apply pw_below_drewN | apply below_drew1 | refine below_set ?_ (IsS77.ge HI0.out)) | exact HB.out)⟩⟩
        · rw [if_neg c21] at H
          have c21b0 : decide (10000 < (ji20)) = false := decide_eq_false c21
          clear c21
          have H' := Aside0.mk H
          clear H
          obtain ⟨HGz27, hgz27⟩ := HI0.out
          have hcz27_0 := cellS77_0 HGz27
          have hcz27_1 := cellS77_1 HGz27
          have hcz27_2 := cellS77_2 HGz27
          have hcz27_3 := cellS77_3 HGz27
          have hcz27_4 := cellS77_4 HGz27
          have hfz27_0 := blk_frozen HGz27 0
          have hfz27_1 := blk_frozen HGz27 1
          have hfz27_2 := blk_frozen HGz27 2
          have hfz27_3 := blk_frozen HGz27 3
          have hfz27_4 := blk_frozen HGz27 4
          clear HGz27 hgz27
          go_wp2
          go_meet
          case rel => exact ⟨_, (ji20), (wrap64 (s0_3 + 1)), (s0_4), H', ⟨by first | omega | exact Nat.le_refl _⟩, ⟨by repeat (first | (with_reducible first | exact HI0.out | apply IsS77.alloc | apply IsS77.drewN | apply IsS77.drew | apply IsS77.set_0 | apply IsS77.set_1 | apply IsS77.set_2 | apply IsS77.set_3 | apply IsS77.set_4) | exact HI0.out)⟩, ⟨by repeat (first | (with_reducible first | exact HK.out | apply KeepBut.set_ | apply keep_drewN | apply keep_drew | apply keep_alloc) | exact HK.out)⟩, ⟨by repeat (first | (with_reducible first | exact HB.out | apply below_alloc | apply pw_below_drewN | apply below_drew1 | refine below_set ?_ (IsS77.ge HI0.out)) | exact HB.out)⟩⟩
    · rw [if_neg c11] at H
      have c11b0 : decide (s0_0 < t372) = false := decide_eq_false c11
      clear c11
      (first | rw [c11b0] | (simp only [i64_w, i32_w]; rw [c11b0]) | skip)
      by_cases c28 : t372 < (wrap64 (-s0_0))
      · rw [if_pos c28] at H
        have c28b0 : decide (t372 < (wrap64 (-s0_0))) = true := decide_eq_true c28
        clear c28
        have H' := Aside0.mk H
        clear H
        obtain ⟨HGz29, hgz29⟩ := HI0.out
        have hcz29_0 := cellS77_0 HGz29
        have hcz29_1 := cellS77_1 HGz29
        have hcz29_2 := cellS77_2 HGz29
        have hcz29_3 := cellS77_3 HGz29
        have hcz29_4 := cellS77_4 HGz29
        have hfz29_0 := blk_frozen HGz29 0
        have hfz29_1 := blk_frozen HGz29 1
        have hfz29_2 := blk_frozen HGz29 2
        have hfz29_3 := blk_frozen HGz29 3
        have hfz29_4 := blk_frozen HGz29 4
        clear HGz29 hgz29
        go_wp2
        go_meet
        case rel => exact ⟨_, (0), (0), (2), H', ⟨by first | omega | exact Nat.le_refl _⟩, ⟨by repeat (first | (with_reducible first | exact HI0.out | apply IsS77.alloc | apply IsS77.drewN | apply IsS77.drew | apply IsS77.set_0 | apply IsS77.set_1 | apply IsS77.set_2 | apply IsS77.set_3 | apply IsS77.set_4) | exact HI0.out)⟩, ⟨by repeat (first | (with_reducible first | exact HK.out | apply KeepBut.set_ | apply keep_drewN | apply keep_drew | apply keep_alloc) | exact HK.out)⟩, ⟨by repeat (first | (with_reducible first | exact HB.out | apply below_alloc | apply pw_below_drewN | apply below_drew1 | refine below_set ?_ (IsS77.ge HI0.out)) | exact HB.out)⟩⟩
      · rw [if_neg c28] at H
        have c28b0 : decide (t372 < (wrap64 (-s0_0))) = false := decide_eq_false c28
        clear c28
        have H' := Aside0.mk H
        clear H
        obtain ⟨HGz30, hgz30⟩ := HI0.out
        have hcz30_0 := cellS77_0 HGz30
        have hcz30_1 := cellS77_1 HGz30
        have hcz30_2 := cellS77_2 HGz30
        have hcz30_3 := cellS77_3 HGz30
        have hcz30_4 := cellS77_4 HGz30
        have hfz30_0 := blk_frozen HGz30 0
        have hfz30_1 := blk_frozen HGz30 1
        have hfz30_2 := blk_frozen HGz30 2
        have hfz30_3 := blk_frozen HGz30 3
        have hfz30_4 := blk_frozen HGz30 4
        clear HGz30 hgz30
        go_wp2
        go_meet
        case rel => exact ⟨_, (0), (0), (0), H', ⟨by first | omega | exact Nat.le_refl _⟩, ⟨by repeat (first | (with_reducible first | exact HI0.out | apply IsS77.alloc | apply IsS77.drewN | apply IsS77.drew | apply IsS77.set_0 | apply IsS77.set_1 | apply IsS77.set_2 | apply IsS77.set_3 | apply IsS77.set_4) | exact HI0.out)⟩, ⟨by repeat (first | (with_reducible first | exact HK.out | apply KeepBut.set_ | apply keep_drewN | apply keep_drew | apply keep_alloc) | exact HK.out)⟩, ⟨by repeat (first | (with_reducible first | exact HB.out | apply below_alloc | apply pw_below_drewN | apply below_drew1 | refine below_set ?_ (IsS77.ge HI0.out)) | exact HB.out)⟩⟩
  case rest =>
    clear HC10
    try clear c1
    try clear c2
    try clear p2
    try clear c4
    try clear p6
    try clear c11
    try clear c11b0
    try clear c12
    try clear c12b0
    try clear c13
    try clear c13b0
    try clear c14
    try clear c14b0
    try clear c15
    try clear c15b0
    try clear c21
    try clear c21b0
    try clear c22
    try clear c22b0
    try clear c23
    try clear c23b0
    try clear c28
    try clear c28b0
    try clear c29
    try clear hcz16_0
    try clear hcz16_1
    try clear hcz16_2
    try clear hcz16_3
    try clear hcz16_4
    try clear hcz17_0
    try clear hcz17_1
    try clear hcz17_2
    try clear hcz17_3
    try clear hcz17_4
    try clear hcz18_0
    try clear hcz18_1
    try clear hcz18_2
    try clear hcz18_3
    try clear hcz18_4
    try clear hcz19_0
    try clear hcz19_1
    try clear hcz19_2
    try clear hcz19_3
    try clear hcz19_4
    try clear hcz24_0
    try clear hcz24_1
    try clear hcz24_2
    try clear hcz24_3
    try clear hcz24_4
    try clear hcz25_0
    try clear hcz25_1
    try clear hcz25_2
    try clear hcz25_3
    try clear hcz25_4
    try clear hcz26_0
    try clear hcz26_1
    try clear hcz26_2
    try clear hcz26_3
    try clear hcz26_4
    try clear hcz27_0
    try clear hcz27_1
    try clear hcz27_2
    try clear hcz27_3
    try clear hcz27_4
    try clear hcz29_0
    try clear hcz29_1
    try clear hcz29_2
    try clear hcz29_3
    try clear hcz29_4
    try clear hcz30_0
    try clear hcz30_1
    try clear hcz30_2
    try clear hcz30_3
    try clear hcz30_4
    try clear hfz16_0
    try clear hfz16_1
    try clear hfz16_2
    try clear hfz16_3
    try clear hfz16_4
    try clear hfz17_0
    try clear hfz17_1
    try clear hfz17_2
    try clear hfz17_3
    try clear hfz17_4
    try clear hfz18_0
    try clear hfz18_1
    try clear hfz18_2
    try clear hfz18_3
    try clear hfz18_4
    try clear hfz19_0
    try clear hfz19_1
    try clear hfz19_2
    try clear hfz19_3
    try clear hfz19_4
    try clear hfz24_0
    try clear hfz24_1
    try clear hfz24_2
    try clear hfz24_3
    try clear hfz24_4
    try clear hfz25_0
    try clear hfz25_1
    try clear hfz25_2
    try clear hfz25_3
    try clear hfz25_4
    try clear hfz26_0
    try clear hfz26_1
    try clear hfz26_2
    try clear hfz26_3
    try clear hfz26_4
    try clear hfz27_0
    try clear hfz27_1
    try clear hfz27_2
    try clear hfz27_3
    try clear hfz27_4
    try clear hfz29_0
    try clear hfz29_1
    try clear hfz29_2
    try clear hfz29_3
    try clear hfz29_4
    try clear hfz30_0
    try clear hfz30_1
    try clear hfz30_2
    try clear hfz30_3
    try clear hfz30_4
    obtain ⟨kq, x1001_9, x1003_9, x1004_9, HA, HJ9, HI0, HK, HB⟩ := hcut
    cases kq with
    | zero => exact absurd HA.out (by simp [flywheelref18_Detector_Add.j0])
    | succ kj9 =>
      have H := HA.out
      clear HA
      simp only [flywheelref18_Detector_Add.j0] at H
      replace H := Option.bind_eq_some_iff.mp H
      obtain ⟨t373, A310, H⟩ := H
      replace H : ((flywheelref03_Of.f kj9 15).bind fun t374 => (if t373 ≤ (wrap64 (s0_0 + t374)) then (if t373 < s0_0 then (flywheelref18_Detector_Add.j1 kj9 t371 t372 t373 168 s0_0 x1001_9 s0_2 x1003_9 x1004_9) else (flywheelref18_Detector_Add.j1 kj9 t371 t372 t373 43 s0_0 x1001_9 s0_2 x1003_9 x1004_9)) else ((flywheelref03_Of.f kj9 6).bind fun t379 => ((flywheelref03_Of.f kj9 600).bind fun t380 => ((flywheelref01_Clamp.f s0_0 t379 t380).bind fun t381 => (some (x1004_9, t381, x1001_9, t372, x1003_9, x1004_9))))))) = some (r1, r2, r3, r4, r5, r6) := H
      have A31 := Aside0.mk A310
      clear A310
      replace H := Option.bind_eq_some_iff.mp H
      obtain ⟨t374, A320, H⟩ := H
      replace H : (if t373 ≤ (wrap64 (s0_0 + t374)) then (if t373 < s0_0 then (flywheelref18_Detector_Add.j1 kj9 t371 t372 t373 168 s0_0 x1001_9 s0_2 x1003_9 x1004_9) else (flywheelref18_Detector_Add.j1 kj9 t371 t372 t373 43 s0_0 x1001_9 s0_2 x1003_9 x1004_9)) else ((flywheelref03_Of.f kj9 6).bind fun t379 => ((flywheelref03_Of.f kj9 600).bind fun t380 => ((flywheelref01_Clamp.f s0_0 t379 t380).bind fun t381 => (some (x1004_9, t381, x1001_9, t372, x1003_9, x1004_9)))))) = some (r1, r2, r3, r4, r5, r6) := H
      have A32 := Aside0.mk A320
      clear A320
      by_cases c33 : t373 ≤ (wrap64 (s0_0 + t374))
      · rw [if_pos c33] at H
        have c33b0 : decide (t373 ≤ (wrap64 (s0_0 + t374))) = true := decide_eq_true c33
        clear c33
        have HC34 := Aside0.mk H
        clear H
        try go_wp2_with (first | ((with_reducible refine gate_callee (f := 48) rfl ?_); refine goesL_ (some 111) rfl rfl Try.func48 (by kernel_rfl) rfl #[.int .i64 t372] rfl (by (try simp only [List.map_toArray, List.map_cons, List.map_nil]); first | done | rfl | (simp only [List.length_drop, List.length_take]; rfl)) ?_; (with_reducible refine (flywheelref01_Abs.calls kj9 t372 t373 _ A31.out).mono ?_); rintro e w' ⟨rfl, ⟨nd, rfl⟩⟩; refine ⟨_, rfl, ?_⟩))
        (try (rw [drewN_self wc]; generalize hq_ : World.drewN wc _ = wc; have n0_ : Aside0 (IsS77 w0 wc g s0_0 x1001_9 s0_2 x1003_9 x1004_9) := ⟨by rw [← hq_]; exact (by repeat (first | (with_reducible first | exact HI0.out | apply IsS77.alloc | apply IsS77.drewN | apply IsS77.drew | apply IsS77.set_0 | apply IsS77.set_1 | apply IsS77.set_2 | apply IsS77.set_3 | apply IsS77.set_4) | exact HI0.out))⟩; have n1_ : Aside0 (KeepBut w wc g none) := ⟨by rw [← hq_]; exact (by repeat (first | (with_reducible first | exact HK.out | apply KeepBut.set_ | apply keep_drewN | apply keep_drew | apply keep_alloc) | exact HK.out))⟩; have n2_ : Aside0 (Below w0.heap.size w0 wc) := ⟨by rw [← hq_]; exact (by repeat (first | (with_reducible first | exact HB.out | apply below_alloc | apply pw_below_drewN | apply below_drew1 | refine below_set ?_ (IsS77.ge HI0.out)) | exact HB.out))⟩; clear HI0 HK HB hq_; have HI0 := n0_; have HK := n1_; have HB := n2_; clear n0_ n1_ n2_))
        have n0_ := Aside0.mk (IsS77.drew HI0.out)
        have n1_ := Aside0.mk (keep_drew HK.out)
        have n2_ := Aside0.mk (below_drew1 HB.out)
        clear HI0
        clear HK
        clear HB
        have HI0 := n0_
        have HK := n1_
        have HB := n2_
        clear n0_ n1_ n2_
        refine start_ (n := 8) (S := fun w' => w'.cell? ⟨g, 0, none⟩ = some (.int .i64 s0_0) ∧ w'.cell? ⟨g, 1, none⟩ = some (.int .i64 x1001_9) ∧ w'.cell? ⟨g, 2, none⟩ = some (.int .i64 s0_2) ∧ w'.cell? ⟨g, 3, none⟩ = some (.int .i64 x1003_9) ∧ w'.cell? ⟨g, 4, none⟩ = some (.int .i64 x1004_9)) (ds := []) #[false, false, false, false, false, false, false, false] (by kernel_rfl) rfl rfl ⟨(IsS77.cell_0 HI0.out), (IsS77.cell_1 HI0.out), (IsS77.cell_2 HI0.out), (IsS77.cell_3 HI0.out), (IsS77.cell_4 HI0.out)⟩ (fun hHeld => ?_); refine with_tabW flywheelref18_Detector_Add.tab15 flywheelref18_Detector_Add.bits15 (fun HT_ HW_ => ?_)
        generalize wc.drew = w35 at HI0 HK HB hHeld ⊢
        refine pure_ (i := 0) (N := some 112) (v := ?_) (a' := ?_) #[true, false, false, false, false, false, false, false] rfl rfl (any_of HT_.out (by kernel_rfl)) (fun _ _ _ h => h) (Or.inl ⟨by rfl, ?_⟩) ?_ ?_
        rotate_left
        · intro w'
          go_simp
          with_reducible rfl
        rotate_left
        · simp only [Act.put, List.setIfInBounds_toArray, List.set_cons_zero, List.set_cons_succ, i64_w, i32_w]
          rfl
        refine pure_ (i := 1) (N := some 113) (v := ?_) (a' := ?_) #[true, true, false, false, false, false, false, false] rfl rfl (any_of HT_.out (by kernel_rfl)) (fun _ _ _ h => h) (Or.inl ⟨by rfl, ?_⟩) ?_ ?_
        rotate_left
        · intro w'
          go_simp
          with_reducible rfl
        rotate_left
        · simp only [Act.put, List.setIfInBounds_toArray, List.set_cons_zero, List.set_cons_succ, i64_w, i32_w]
          rfl
        refine pure_ (i := 2) (N := some 114) (v := ?_) (a' := ?_) #[true, true, true, false, false, false, false, false] rfl rfl (any_of HT_.out (by kernel_rfl)) (fun _ _ _ h => h) (Or.inl ⟨by rfl, ?_⟩) ?_ ?_
        rotate_left
        · intro w'
          go_simp
          with_reducible rfl
        rotate_left
        · simp only [Act.put, List.setIfInBounds_toArray, List.set_cons_zero, List.set_cons_succ, i64_w, i32_w]
          rfl
        refine pure_ (i := 3) (N := some 115) (v := ?_) (a' := ?_) #[true, true, true, true, false, false, false, false] rfl rfl (any_of HT_.out (by kernel_rfl)) (fun _ _ _ h => h) (Or.inl ⟨by rfl, ?_⟩) ?_ ?_
        rotate_left
        · intro w'
          go_simp
          with_reducible rfl
        rotate_left
        · simp only [Act.put, List.setIfInBounds_toArray, List.set_cons_zero, List.set_cons_succ, i64_w, i32_w]
          rfl
        refine take_ (i := 4) (N := some 116) (v := ?_) (a' := ?_) #[true, true, true, true, true, false, false, false] rfl rfl (take_ofW HT_.out HW_.out (by kernel_rfl)) (fun _ _ _ h => h) (Or.inl ⟨by rfl, ?_⟩) hHeld ?_ ?_
        rotate_left
        · rintro w' ⟨s0, s1, s2, s3, s4⟩
          go_simp
          with_reducible rfl
        rotate_left
        · simp only [Act.put, List.setIfInBounds_toArray, List.set_cons_zero, List.set_cons_succ, i64_w, i32_w]
          rfl
        refine one_ (i := 5) (N := some 117) #[true, true, true, true, true, true, false, false] rfl rfl (one_of HT_.out (by kernel_rfl)) (by decide) (fun K hK => ?_)
        refine goes_ Try.func43 (by kernel_rfl) rfl #[.int .i64 15] (by rfl) rfl rfl (by (try simp only [List.map_toArray, List.map_cons, List.map_nil]); first | done | rfl | (simp only [List.length_drop, List.length_take]; rfl)) ?_
        with_reducible refine (flywheelref03_Of.calls kj9 15 t374 _ A32.out).mono ?_
        rintro e w' ⟨rfl, ⟨nd, rfl⟩⟩
        refine ⟨_, rfl, ?_⟩
        refine hK.out _ _ ⟨(IsS77.cell_0 HI0.out), (IsS77.cell_1 HI0.out), (IsS77.cell_2 HI0.out), (IsS77.cell_3 HI0.out), (IsS77.cell_4 HI0.out)⟩ (fun hHeld => ?_)
        clear hK K
        refine norm_ (a' := ?_) ?_ ?_
        rotate_left
        · show Act.put _ (some 117) _ = _
          simp only [Act.put, List.setIfInBounds_toArray, List.set_cons_zero, List.set_cons_succ, i64_w, i32_w]
          rfl
        refine pure_ (i := 6) (N := some 118) (v := ?_) (a' := ?_) #[true, true, true, true, true, true, true, false] rfl rfl (any_of HT_.out (by kernel_rfl)) (fun _ _ _ h => h) (Or.inl ⟨by rfl, ?_⟩) ?_ ?_
        rotate_left
        · intro w'
          go_simp
          with_reducible rfl
        rotate_left
        · simp only [Act.put, List.setIfInBounds_toArray, List.set_cons_zero, List.set_cons_succ, i64_w, i32_w]
          rfl
        refine pure_ (i := 7) (N := some 119) (v := ?_) (a' := ?_) #[true, true, true, true, true, true, true, true] rfl rfl (any_of HT_.out (by kernel_rfl)) (fun _ _ _ h => h) (Or.inl ⟨by rfl, ?_⟩) ?_ ?_
        rotate_left
        · intro w'
          go_simp
          with_reducible rfl
        rotate_left
        · simp only [Act.put, List.setIfInBounds_toArray, List.set_cons_zero, List.set_cons_succ, i64_w, i32_w]
          rfl
        refine done_ (done_of HT_.out (by kernel_rfl)) ?_
        obtain ⟨HGz36, hgz36⟩ := HI0.out
        have hcz36_0 := cellS77_0 HGz36
        have hcz36_1 := cellS77_1 HGz36
        have hcz36_2 := cellS77_2 HGz36
        have hcz36_3 := cellS77_3 HGz36
        have hcz36_4 := cellS77_4 HGz36
        have hfz36_0 := blk_frozen HGz36 0
        have hfz36_1 := blk_frozen HGz36 1
        have hfz36_2 := blk_frozen HGz36 2
        have hfz36_3 := blk_frozen HGz36 3
        have hfz36_4 := blk_frozen HGz36 4
        clear HGz36 hgz36
        go_upto_if 125 with (fail)
        go_cut [11] (fun v11 wc => ∃ (kq : Nat) (x11_33 : Int), v11 = .int .i64 x11_33 ∧ Aside0 (flywheelref18_Detector_Add.j1 kq t371 t372 t373 x11_33 s0_0 x1001_9 s0_2 x1003_9 x1004_9 = some (r1, r2, r3, r4, r5, r6)) ∧ Aside0 (kq ≤ kj9) ∧ Aside0 (IsS77 w0 wc g s0_0 x1001_9 s0_2 x1003_9 x1004_9) ∧ Aside0 (KeepBut w wc g none) ∧ Aside0 (Below w0.heap.size w0 wc))
        case first =>
          have H := HC34.out
          clear HC34
          by_cases c37 : t373 < s0_0
          · rw [if_pos c37] at H
            have c37b0 : decide (t373 < s0_0) = true := decide_eq_true c37
            clear c37
            (first | rw [c37b0] | (simp only [i64_w, i32_w]; rw [c37b0]) | skip)
            have H' := Aside0.mk H
            clear H
            go_wp2
            go_meet
            case rel => exact ⟨_, (168), (by first | rfl | (simp; done) | (simp [*]; done)), H', ⟨by have := HJ9.out; first | omega | exact Nat.le_refl _⟩, ⟨by repeat (first | (with_reducible first | exact HI0.out | apply IsS77.alloc | apply IsS77.drewN | apply IsS77.drew | apply IsS77.set_0 | apply IsS77.set_1 | apply IsS77.set_2 | apply IsS77.set_3 | apply IsS77.set_4) | exact HI0.out)⟩, ⟨by repeat (first | (with_reducible first | exact HK.out | apply KeepBut.set_ | apply keep_drewN | apply keep_drew | apply keep_alloc) | exact HK.out)⟩, ⟨by repeat (first | (with_reducible first | exact HB.out | apply below_alloc | apply pw_below_drewN | apply below_drew1 | refine below_set ?_ (IsS77.ge HI0.out)) | exact HB.out)⟩⟩
          · rw [if_neg c37] at H
            have c37b0 : decide (t373 < s0_0) = false := decide_eq_false c37
            clear c37
            (first | rw [c37b0] | (simp only [i64_w, i32_w]; rw [c37b0]) | skip)
            have H' := Aside0.mk H
            clear H
            go_wp2
            go_meet
            case rel => exact ⟨_, (43), (by first | rfl | (simp; done) | (simp [*]; done)), H', ⟨by have := HJ9.out; first | omega | exact Nat.le_refl _⟩, ⟨by repeat (first | (with_reducible first | exact HI0.out | apply IsS77.alloc | apply IsS77.drewN | apply IsS77.drew | apply IsS77.set_0 | apply IsS77.set_1 | apply IsS77.set_2 | apply IsS77.set_3 | apply IsS77.set_4) | exact HI0.out)⟩, ⟨by repeat (first | (with_reducible first | exact HK.out | apply KeepBut.set_ | apply keep_drewN | apply keep_drew | apply keep_alloc) | exact HK.out)⟩, ⟨by repeat (first | (with_reducible first | exact HB.out | apply below_alloc | apply pw_below_drewN | apply below_drew1 | refine below_set ?_ (IsS77.ge HI0.out)) | exact HB.out)⟩⟩
        case rest =>
          clear HC34
          try clear c1
          try clear c2
          try clear p2
          try clear c3
          try clear c4
          try clear p6
          try clear c11
          try clear c11b0
          try clear c12
          try clear c12b0
          try clear c13
          try clear c13b0
          try clear c14
          try clear c14b0
          try clear c15
          try clear c15b0
          try clear c21
          try clear c21b0
          try clear c22
          try clear c22b0
          try clear c23
          try clear c23b0
          try clear c28
          try clear c28b0
          try clear c29
          try clear c33
          try clear c33b0
          try clear c37
          try clear c37b0
          try clear hcz16_0
          try clear hcz16_1
          try clear hcz16_2
          try clear hcz16_3
          try clear hcz16_4
          try clear hcz17_0
          try clear hcz17_1
          try clear hcz17_2
          try clear hcz17_3
          try clear hcz17_4
          try clear hcz18_0
          try clear hcz18_1
          try clear hcz18_2
          try clear hcz18_3
          try clear hcz18_4
          try clear hcz19_0
          try clear hcz19_1
          try clear hcz19_2
          try clear hcz19_3
          try clear hcz19_4
          try clear hcz24_0
          try clear hcz24_1
          try clear hcz24_2
          try clear hcz24_3
          try clear hcz24_4
          try clear hcz25_0
          try clear hcz25_1
          try clear hcz25_2
          try clear hcz25_3
          try clear hcz25_4
          try clear hcz26_0
          try clear hcz26_1
          try clear hcz26_2
          try clear hcz26_3
          try clear hcz26_4
          try clear hcz27_0
          try clear hcz27_1
          try clear hcz27_2
          try clear hcz27_3
          try clear hcz27_4
          try clear hcz29_0
          try clear hcz29_1
          try clear hcz29_2
          try clear hcz29_3
          try clear hcz29_4
          try clear hcz30_0
          try clear hcz30_1
          try clear hcz30_2
          try clear hcz30_3
          try clear hcz30_4
          try clear hcz36_0
          try clear hcz36_1
          try clear hcz36_2
          try clear hcz36_3
          try clear hcz36_4
          try clear hfz16_0
          try clear hfz16_1
          try clear hfz16_2
          try clear hfz16_3
          try clear hfz16_4
          try clear hfz17_0
          try clear hfz17_1
          try clear hfz17_2
          try clear hfz17_3
          try clear hfz17_4
          try clear hfz18_0
          try clear hfz18_1
          try clear hfz18_2
          try clear hfz18_3
          try clear hfz18_4
          try clear hfz19_0
          try clear hfz19_1
          try clear hfz19_2
          try clear hfz19_3
          try clear hfz19_4
          try clear hfz24_0
          try clear hfz24_1
          try clear hfz24_2
          try clear hfz24_3
          try clear hfz24_4
          try clear hfz25_0
          try clear hfz25_1
          try clear hfz25_2
          try clear hfz25_3
          try clear hfz25_4
          try clear hfz26_0
          try clear hfz26_1
          try clear hfz26_2
          try clear hfz26_3
          try clear hfz26_4
          try clear hfz27_0
          try clear hfz27_1
          try clear hfz27_2
          try clear hfz27_3
          try clear hfz27_4
          try clear hfz29_0
          try clear hfz29_1
          try clear hfz29_2
          try clear hfz29_3
          try clear hfz29_4
          try clear hfz30_0
          try clear hfz30_1
          try clear hfz30_2
          try clear hfz30_3
          try clear hfz30_4
          try clear hfz36_0
          try clear hfz36_1
          try clear hfz36_2
          try clear hfz36_3
          try clear hfz36_4
          try clear p2
          try clear p6
          obtain ⟨kq, x11_33, rfl, HA, HJ33, HI0, HK, HB⟩ := hcut
          cases kq with
          | zero => exact absurd HA.out (by simp [flywheelref18_Detector_Add.j1])
          | succ kj33 =>
            have H := HA.out
            clear HA
            simp only [flywheelref18_Detector_Add.j1] at H
            obtain ⟨ji38, hji38⟩ : ∃ j_ : Int, (mn t371 100000) = j_ := ⟨_, rfl⟩
            replace H : ((flywheelref02_Do.f (wrap64 (t373 - s0_0)) (wrap64 (x11_33 * (ji38))) 4294967296 1).bind fun t375 => ((flywheelref03_Of.f kj33 6).bind fun t376 => ((flywheelref03_Of.f kj33 600).bind fun t377 => ((flywheelref01_Clamp.f (wrap64 (s0_0 + t375)) t376 t377).bind fun t378 => (some (x1004_9, t378, x1001_9, t372, x1003_9, x1004_9)))))) = some (r1, r2, r3, r4, r5, r6) := by first | (rw [hji38] at H; exact H) | (simp only [hji38] at H ⊢; exact H)
            have hji38_ : (if 100000 < t371 then 100000 else t371) = ji38 := hji38
            replace H := Option.bind_eq_some_iff.mp H
            obtain ⟨t375, A390, H⟩ := H
            replace H : ((flywheelref03_Of.f kj33 6).bind fun t376 => ((flywheelref03_Of.f kj33 600).bind fun t377 => ((flywheelref01_Clamp.f (wrap64 (s0_0 + t375)) t376 t377).bind fun t378 => (some (x1004_9, t378, x1001_9, t372, x1003_9, x1004_9))))) = some (r1, r2, r3, r4, r5, r6) := H
            have A39 := Aside0.mk A390
            clear A390
            replace H := Option.bind_eq_some_iff.mp H
            obtain ⟨t376, A400, H⟩ := H
            replace H : ((flywheelref03_Of.f kj33 600).bind fun t377 => ((flywheelref01_Clamp.f (wrap64 (s0_0 + t375)) t376 t377).bind fun t378 => (some (x1004_9, t378, x1001_9, t372, x1003_9, x1004_9)))) = some (r1, r2, r3, r4, r5, r6) := H
            have A40 := Aside0.mk A400
            clear A400
            replace H := Option.bind_eq_some_iff.mp H
            obtain ⟨t377, A410, H⟩ := H
            replace H : ((flywheelref01_Clamp.f (wrap64 (s0_0 + t375)) t376 t377).bind fun t378 => (some (x1004_9, t378, x1001_9, t372, x1003_9, x1004_9))) = some (r1, r2, r3, r4, r5, r6) := H
            have A41 := Aside0.mk A410
            clear A410
            replace H := Option.bind_eq_some_iff.mp H
            obtain ⟨t378, A420, H⟩ := H
            replace H : (some (x1004_9, t378, x1001_9, t372, x1003_9, x1004_9)) = some (r1, r2, r3, r4, r5, r6) := H
            have A42 := Aside0.mk A420
            clear A420
            simp only [Option.some.injEq, Prod.mk.injEq] at H
            obtain ⟨rfl, rfl, rfl, rfl, rfl, rfl⟩ := H
            try go_wp2
            have n0_ := Aside0.mk (IsS77.drew HI0.out)
            have n1_ := Aside0.mk (keep_drew HK.out)
            have n2_ := Aside0.mk (below_drew1 HB.out)
            clear HI0
            clear HK
            clear HB
            have HI0 := n0_
            have HK := n1_
            have HB := n2_
            clear n0_ n1_ n2_
            refine start_ (n := 19) (S := fun w' => w'.cell? ⟨g, 0, none⟩ = some (.int .i64 s0_0) ∧ w'.cell? ⟨g, 1, none⟩ = some (.int .i64 x1001_9) ∧ w'.cell? ⟨g, 2, none⟩ = some (.int .i64 s0_2) ∧ w'.cell? ⟨g, 3, none⟩ = some (.int .i64 x1003_9) ∧ w'.cell? ⟨g, 4, none⟩ = some (.int .i64 x1004_9)) (ds := [18]) #[false, false, false, false, false, false, false, false, false, false, false, false, false, false, false, false, false, false, false] (by kernel_rfl) rfl rfl ⟨(IsS77.cell_0 HI0.out), (IsS77.cell_1 HI0.out), (IsS77.cell_2 HI0.out), (IsS77.cell_3 HI0.out), (IsS77.cell_4 HI0.out)⟩ (fun hHeld => ?_); refine with_tabW flywheelref18_Detector_Add.tab19 flywheelref18_Detector_Add.bits19 (fun HT_ HW_ => ?_)
            generalize wc.drew = w43 at HI0 HK HB hHeld ⊢
            refine pure_ (i := 0) (N := some 126) (v := ?_) (a' := ?_) #[true, false, false, false, false, false, false, false, false, false, false, false, false, false, false, false, false, false, false] rfl rfl (any_of HT_.out (by kernel_rfl)) (fun _ _ _ h => h) (Or.inl ⟨by rfl, ?_⟩) ?_ ?_
            rotate_left
            · intro w'
              go_simp
              with_reducible rfl
            rotate_left
            · simp only [Act.put, List.setIfInBounds_toArray, List.set_cons_zero, List.set_cons_succ, i64_w, i32_w]
              rfl
            refine pure_ (i := 1) (N := some 127) (v := ?_) (a' := ?_) #[true, true, false, false, false, false, false, false, false, false, false, false, false, false, false, false, false, false, false] rfl rfl (any_of HT_.out (by kernel_rfl)) (fun _ _ _ h => h) (Or.inl ⟨by rfl, ?_⟩) ?_ ?_
            rotate_left
            · intro w'
              go_simp
              with_reducible rfl
            rotate_left
            · simp only [Act.put, List.setIfInBounds_toArray, List.set_cons_zero, List.set_cons_succ, i64_w, i32_w]
              rfl
            refine pure_ (i := 2) (N := some 128) (v := ?_) (a' := ?_) #[true, true, true, false, false, false, false, false, false, false, false, false, false, false, false, false, false, false, false] rfl rfl (any_of HT_.out (by kernel_rfl)) (fun _ _ _ h => h) (Or.inl ⟨by rfl, ?_⟩) ?_ ?_
            rotate_left
            · intro w'
              go_simp
              with_reducible rfl
            rotate_left
            · simp only [Act.put, List.setIfInBounds_toArray, List.set_cons_zero, List.set_cons_succ, i64_w, i32_w]
              rfl
            refine pure_ (i := 4) (N := some 130) (v := ?_) (a' := ?_) #[true, true, true, false, true, false, false, false, false, false, false, false, false, false, false, false, false, false, false] rfl rfl (any_of HT_.out (by kernel_rfl)) (fun _ _ _ h => h) (Or.inl ⟨by rfl, ?_⟩) ?_ ?_
            rotate_left
            · intro w'
              go_simp
              with_reducible rfl
            rotate_left
            · simp only [Act.put, List.setIfInBounds_toArray, List.set_cons_zero, List.set_cons_succ, i64_w, i32_w]
              rfl
            refine pure_ (i := 5) (N := some 131) (v := ?_) (a' := ?_) #[true, true, true, false, true, true, false, false, false, false, false, false, false, false, false, false, false, false, false] rfl rfl (any_of HT_.out (by kernel_rfl)) (fun _ _ _ h => h) (Or.inl ⟨by rfl, ?_⟩) ?_ ?_
            rotate_left
            · intro w'
              go_simp
              with_reducible rfl
            rotate_left
            · simp only [Act.put, List.setIfInBounds_toArray, List.set_cons_zero, List.set_cons_succ, i64_w, i32_w]
              rfl
            refine pure_ (i := 6) (N := some 132) (v := ?_) (a' := ?_) #[true, true, true, false, true, true, true, false, false, false, false, false, false, false, false, false, false, false, false] rfl rfl (any_of HT_.out (by kernel_rfl)) (fun _ _ _ h => h) (Or.inl ⟨by rfl, ?_⟩) ?_ ?_
            rotate_left
            · intro w'
              go_simp
              with_reducible rfl
            rotate_left
            · simp only [Act.put, List.setIfInBounds_toArray, List.set_cons_zero, List.set_cons_succ, i64_w, i32_w]
              rfl
            refine pure_ (i := 7) (N := some 133) (v := ?_) (a' := ?_) #[true, true, true, false, true, true, true, true, false, false, false, false, false, false, false, false, false, false, false] rfl rfl (any_of HT_.out (by kernel_rfl)) (fun _ _ _ h => h) (Or.inl ⟨by rfl, ?_⟩) ?_ ?_
            rotate_left
            · intro w'
              go_simp
              with_reducible rfl
            rotate_left
            · simp only [Act.put, List.setIfInBounds_toArray, List.set_cons_zero, List.set_cons_succ, i64_w, i32_w]
              rfl
            refine pure_ (i := 10) (N := some 136) (v := ?_) (a' := ?_) #[true, true, true, false, true, true, true, true, false, false, true, false, false, false, false, false, false, false, false] rfl rfl (any_of HT_.out (by kernel_rfl)) (fun _ _ _ h => h) (Or.inl ⟨by rfl, ?_⟩) ?_ ?_
            rotate_left
            · intro w'
              go_simp
              with_reducible rfl
            rotate_left
            · simp only [Act.put, List.setIfInBounds_toArray, List.set_cons_zero, List.set_cons_succ, i64_w, i32_w]
              rfl
            refine pure_ (i := 11) (N := some 137) (v := ?_) (a' := ?_) #[true, true, true, false, true, true, true, true, false, false, true, true, false, false, false, false, false, false, false] rfl rfl (any_of HT_.out (by kernel_rfl)) (fun _ _ _ h => h) (Or.inl ⟨by rfl, ?_⟩) ?_ ?_
            rotate_left
            · intro w'
              go_simp
              with_reducible rfl
            rotate_left
            · simp only [Act.put, List.setIfInBounds_toArray, List.set_cons_zero, List.set_cons_succ, i64_w, i32_w]
              rfl
            refine pure_ (i := 12) (N := some 138) (v := ?_) (a' := ?_) #[true, true, true, false, true, true, true, true, false, false, true, true, true, false, false, false, false, false, false] rfl rfl (any_of HT_.out (by kernel_rfl)) (fun _ _ _ h => h) (Or.inl ⟨by rfl, ?_⟩) ?_ ?_
            rotate_left
            · intro w'
              go_simp
              with_reducible rfl
            rotate_left
            · simp only [Act.put, List.setIfInBounds_toArray, List.set_cons_zero, List.set_cons_succ, i64_w, i32_w]
              rfl
            refine pure_ (i := 13) (N := some 139) (v := ?_) (a' := ?_) #[true, true, true, false, true, true, true, true, false, false, true, true, true, true, false, false, false, false, false] rfl rfl (any_of HT_.out (by kernel_rfl)) (fun _ _ _ h => h) (Or.inl ⟨by rfl, ?_⟩) ?_ ?_
            rotate_left
            · intro w'
              go_simp
              with_reducible rfl
            rotate_left
            · simp only [Act.put, List.setIfInBounds_toArray, List.set_cons_zero, List.set_cons_succ, i64_w, i32_w]
              rfl
            refine take_ (i := 3) (N := some 129) (v := ?_) (a' := ?_) #[true, true, true, true, true, true, true, true, false, false, true, true, true, true, false, false, false, false, false] rfl rfl (take_ofW HT_.out HW_.out (by kernel_rfl)) (fun _ _ _ h => h) (Or.inl ⟨by rfl, ?_⟩) hHeld ?_ ?_
            rotate_left
            · rintro w' ⟨s0, s1, s2, s3, s4⟩
              go_simp
              with_reducible rfl
            rotate_left
            · simp only [Act.put, List.setIfInBounds_toArray, List.set_cons_zero, List.set_cons_succ, i64_w, i32_w]
              rfl
            refine take_ (i := 8) (N := some 134) (v := ?_) (a' := ?_) #[true, true, true, true, true, true, true, true, true, false, true, true, true, true, false, false, false, false, false] rfl rfl (take_ofW HT_.out HW_.out (by kernel_rfl)) (fun _ _ _ h => h) (Or.inl ⟨by rfl, ?_⟩) hHeld ?_ ?_
            rotate_left
            · rintro w' ⟨s0, s1, s2, s3, s4⟩
              go_simp
              with_reducible rfl
            rotate_left
            · simp only [Act.put, List.setIfInBounds_toArray, List.set_cons_zero, List.set_cons_succ, i64_w, i32_w]
              rfl
            refine pure_ (i := 9) (N := some 135) (v := ?_) (a' := ?_) #[true, true, true, true, true, true, true, true, true, true, true, true, true, true, false, false, false, false, false] rfl rfl (any_of HT_.out (by kernel_rfl)) (fun _ _ _ h => h) (Or.inl ⟨by rfl, ?_⟩) ?_ ?_
            rotate_left
            · intro w'
              go_simp
              with_reducible rfl
            rotate_left
            · simp only [Act.put, List.setIfInBounds_toArray, List.set_cons_zero, List.set_cons_succ, i64_w, i32_w]
              rfl
            refine one_ (i := 14) (N := some 140) #[true, true, true, true, true, true, true, true, true, true, true, true, true, true, true, false, false, false, false] rfl rfl (one_of HT_.out (by kernel_rfl)) (by decide) (fun K hK => ?_)
            refine goes_ Try.func49 (by kernel_rfl) rfl #[.int .i64 (wrap64 (t373 - s0_0)), .int .i64 (wrap64 (x11_33 * (ji38))), .int .i64 4294967296, .int .i64 1] (by rfl) rfl rfl (by (try simp only [List.map_toArray, List.map_cons, List.map_nil]); first | done | (simp only [hji38]; rfl) | rfl | (simp only [List.length_drop, List.length_take]; rfl)) ?_
            with_reducible refine (flywheelref02_Do.calls (wrap64 (t373 - s0_0)) (wrap64 (x11_33 * (ji38))) 4294967296 1 t375 _ A39.out).mono ?_
            rintro e w44 ⟨rfl, hb⟩
            refine ⟨_, rfl, ?_⟩
            have n0_ := Aside0.mk (IsS77.below (by repeat (first | (with_reducible first | exact HI0.out | apply IsS77.alloc | apply IsS77.drewN | apply IsS77.drew | apply IsS77.set_0 | apply IsS77.set_1 | apply IsS77.set_2 | apply IsS77.set_3 | apply IsS77.set_4) | exact HI0.out)) hb)
            have n1_ := Aside0.mk (KeepBut.trans (by repeat (first | (with_reducible first | exact HK.out | apply KeepBut.set_ | apply keep_drewN | apply keep_drew | apply keep_alloc) | exact HK.out)) (KeepBut.of_below hb g none) (.inl rfl))
            have n2_ := Aside0.mk (below_step (by repeat (first | (with_reducible first | exact HB.out | apply below_alloc | apply pw_below_drewN | apply below_drew1 | refine below_set ?_ (IsS77.ge HI0.out)) | exact HB.out)) hb)
            clear HI0
            clear HK
            clear HB
            have HI0 := n0_
            have HK := n1_
            have HB := n2_
            clear n0_ n1_ n2_
            (try clear hb)
            (try clear hb2)
            (try clear hk)
            (try clear hi)
            refine hK.out _ _ ⟨(IsS77.cell_0 HI0.out), (IsS77.cell_1 HI0.out), (IsS77.cell_2 HI0.out), (IsS77.cell_3 HI0.out), (IsS77.cell_4 HI0.out)⟩ (fun hHeld => ?_)
            clear hK K
            refine norm_ (a' := ?_) ?_ ?_
            rotate_left
            · show Act.put _ (some 140) _ = _
              simp only [Act.put, List.setIfInBounds_toArray, List.set_cons_zero, List.set_cons_succ, i64_w, i32_w]
              rfl
            refine pure_ (i := 15) (N := some 141) (v := ?_) (a' := ?_) #[true, true, true, true, true, true, true, true, true, true, true, true, true, true, true, true, false, false, false] rfl rfl (any_of HT_.out (by kernel_rfl)) (fun _ _ _ h => h) (Or.inl ⟨by rfl, ?_⟩) ?_ ?_
            rotate_left
            · intro w'
              go_simp
              with_reducible rfl
            rotate_left
            · simp only [Act.put, List.setIfInBounds_toArray, List.set_cons_zero, List.set_cons_succ, i64_w, i32_w]
              rfl
            refine pure_ (i := 16) (N := some 142) (v := ?_) (a' := ?_) #[true, true, true, true, true, true, true, true, true, true, true, true, true, true, true, true, true, false, false] rfl rfl (any_of HT_.out (by kernel_rfl)) (fun _ _ _ h => h) (Or.inl ⟨by rfl, ?_⟩) ?_ ?_
            rotate_left
            · intro w'
              go_simp
              with_reducible rfl
            rotate_left
            · simp only [Act.put, List.setIfInBounds_toArray, List.set_cons_zero, List.set_cons_succ, i64_w, i32_w]
              rfl
            refine pure_ (i := 17) (N := some 143) (v := ?_) (a' := ?_) #[true, true, true, true, true, true, true, true, true, true, true, true, true, true, true, true, true, true, false] rfl rfl (any_of HT_.out (by kernel_rfl)) (fun _ _ _ h => h) (Or.inl ⟨by rfl, ?_⟩) ?_ ?_
            rotate_left
            · intro w'
              go_simp
              with_reducible rfl
            rotate_left
            · simp only [Act.put, List.setIfInBounds_toArray, List.set_cons_zero, List.set_cons_succ, i64_w, i32_w]
              rfl
            refine last_ (i := 18) (N := none) #[true, true, true, true, true, true, true, true, true, true, true, true, true, true, true, true, true, true, true] rfl rfl (one_of HT_.out (by kernel_rfl)) (by decide) (fun K hK => ?_)
            have hs45 : w44.cell? ⟨g, 0, none⟩ = some (.int .i64 s0_0) := IsS77.cell_0 HI0.out
            have hfs45 := IsS77.froz_0 HI0.out
            refine skip_ (w1 := ?_) (by rfl) rfl ?_ ?_
            rotate_left
            · go_simp
              rfl
            refine hK.out _ _ ?_
            clear hK K
            refine done_ (done_of HT_.out (by kernel_rfl)) ?_
            try go_wp2
            have n0_ : Aside0 (IsS77 w0 (w44.setCell ⟨g, 0, none⟩ (.int .i64 (wrap64 (s0_0 + t375)))) g (wrap64 (s0_0 + t375)) x1001_9 s0_2 x1003_9 x1004_9) := ⟨by repeat (first | (with_reducible first | exact HI0.out | apply IsS77.alloc | apply IsS77.drewN | apply IsS77.drew | apply IsS77.set_0 | apply IsS77.set_1 | apply IsS77.set_2 | apply IsS77.set_3 | apply IsS77.set_4) | exact HI0.out)⟩
            have n1_ : Aside0 (KeepBut w (w44.setCell ⟨g, 0, none⟩ (.int .i64 (wrap64 (s0_0 + t375)))) g none) := ⟨by repeat (first | (with_reducible first | exact HK.out | apply KeepBut.set_ | apply keep_drewN | apply keep_drew | apply keep_alloc) | exact HK.out)⟩
            have n2_ : Aside0 (Below w0.heap.size w0 (w44.setCell ⟨g, 0, none⟩ (.int .i64 (wrap64 (s0_0 + t375))))) := ⟨by repeat (first | (with_reducible first | exact HB.out | apply below_alloc | apply pw_below_drewN | apply below_drew1 | refine below_set ?_ (IsS77.ge HI0.out)) | exact HB.out)⟩
            (try clear HI0)
            (try clear HK)
            (try clear HB)
            generalize (w44.setCell ⟨g, 0, none⟩ (.int .i64 (wrap64 (s0_0 + t375)))) = w46 at n0_ n1_ n2_ ⊢
            have HI0 := n0_
            have HK := n1_
            have HB := n2_
            clear n0_ n1_ n2_
            have n0_ := Aside0.mk (IsS77.drew HI0.out)
            have n1_ := Aside0.mk (keep_drew HK.out)
            have n2_ := Aside0.mk (below_drew1 HB.out)
            clear HI0
            clear HK
            clear HB
            have HI0 := n0_
            have HK := n1_
            have HB := n2_
            clear n0_ n1_ n2_
            refine start_ (n := 11) (S := fun w' => w'.cell? ⟨g, 0, none⟩ = some (.int .i64 (wrap64 (s0_0 + t375))) ∧ w'.cell? ⟨g, 1, none⟩ = some (.int .i64 x1001_9) ∧ w'.cell? ⟨g, 2, none⟩ = some (.int .i64 s0_2) ∧ w'.cell? ⟨g, 3, none⟩ = some (.int .i64 x1003_9) ∧ w'.cell? ⟨g, 4, none⟩ = some (.int .i64 x1004_9)) (ds := [10]) #[false, false, false, false, false, false, false, false, false, false, false] (by kernel_rfl) rfl rfl ⟨(IsS77.cell_0 HI0.out), (IsS77.cell_1 HI0.out), (IsS77.cell_2 HI0.out), (IsS77.cell_3 HI0.out), (IsS77.cell_4 HI0.out)⟩ (fun hHeld => ?_); refine with_tabW flywheelref18_Detector_Add.tab20 flywheelref18_Detector_Add.bits20 (fun HT_ HW_ => ?_)
            generalize w46.drew = w47 at HI0 HK HB hHeld ⊢
            refine pure_ (i := 0) (N := some 144) (v := ?_) (a' := ?_) #[true, false, false, false, false, false, false, false, false, false, false] rfl rfl (any_of HT_.out (by kernel_rfl)) (fun _ _ _ h => h) (Or.inl ⟨by rfl, ?_⟩) ?_ ?_
            rotate_left
            · intro w'
              go_simp
              with_reducible rfl
            rotate_left
            · simp only [Act.put, List.setIfInBounds_toArray, List.set_cons_zero, List.set_cons_succ, i64_w, i32_w]
              rfl
            refine pure_ (i := 1) (N := some 145) (v := ?_) (a' := ?_) #[true, true, false, false, false, false, false, false, false, false, false] rfl rfl (any_of HT_.out (by kernel_rfl)) (fun _ _ _ h => h) (Or.inl ⟨by rfl, ?_⟩) ?_ ?_
            rotate_left
            · intro w'
              go_simp
              with_reducible rfl
            rotate_left
            · simp only [Act.put, List.setIfInBounds_toArray, List.set_cons_zero, List.set_cons_succ, i64_w, i32_w]
              rfl
            refine pure_ (i := 2) (N := some 146) (v := ?_) (a' := ?_) #[true, true, true, false, false, false, false, false, false, false, false] rfl rfl (any_of HT_.out (by kernel_rfl)) (fun _ _ _ h => h) (Or.inl ⟨by rfl, ?_⟩) ?_ ?_
            rotate_left
            · intro w'
              go_simp
              with_reducible rfl
            rotate_left
            · simp only [Act.put, List.setIfInBounds_toArray, List.set_cons_zero, List.set_cons_succ, i64_w, i32_w]
              rfl
            refine pure_ (i := 3) (N := some 147) (v := ?_) (a' := ?_) #[true, true, true, true, false, false, false, false, false, false, false] rfl rfl (any_of HT_.out (by kernel_rfl)) (fun _ _ _ h => h) (Or.inl ⟨by rfl, ?_⟩) ?_ ?_
            rotate_left
            · intro w'
              go_simp
              with_reducible rfl
            rotate_left
            · simp only [Act.put, List.setIfInBounds_toArray, List.set_cons_zero, List.set_cons_succ, i64_w, i32_w]
              rfl
            refine take_ (i := 4) (N := some 148) (v := ?_) (a' := ?_) #[true, true, true, true, true, false, false, false, false, false, false] rfl rfl (take_ofW HT_.out HW_.out (by kernel_rfl)) (fun _ _ _ h => h) (Or.inl ⟨by rfl, ?_⟩) hHeld ?_ ?_
            rotate_left
            · rintro w' ⟨s0, s1, s2, s3, s4⟩
              go_simp
              with_reducible rfl
            rotate_left
            · simp only [Act.put, List.setIfInBounds_toArray, List.set_cons_zero, List.set_cons_succ, i64_w, i32_w]
              rfl
            refine one_ (i := 5) (N := some 149) #[true, true, true, true, true, true, false, false, false, false, false] rfl rfl (one_of HT_.out (by kernel_rfl)) (by decide) (fun K hK => ?_)
            refine goes_ Try.func43 (by kernel_rfl) rfl #[.int .i64 6] (by rfl) rfl rfl (by (try simp only [List.map_toArray, List.map_cons, List.map_nil]); first | done | rfl | (simp only [List.length_drop, List.length_take]; rfl)) ?_
            with_reducible refine (flywheelref03_Of.calls kj33 6 t376 _ A40.out).mono ?_
            rintro e w' ⟨rfl, ⟨nd, rfl⟩⟩
            refine ⟨_, rfl, ?_⟩
            refine hK.out _ _ ⟨(IsS77.cell_0 HI0.out), (IsS77.cell_1 HI0.out), (IsS77.cell_2 HI0.out), (IsS77.cell_3 HI0.out), (IsS77.cell_4 HI0.out)⟩ (fun hHeld => ?_)
            clear hK K
            refine norm_ (a' := ?_) ?_ ?_
            rotate_left
            · show Act.put _ (some 149) _ = _
              simp only [Act.put, List.setIfInBounds_toArray, List.set_cons_zero, List.set_cons_succ, i64_w, i32_w]
              rfl
            refine one_ (i := 6) (N := some 150) #[true, true, true, true, true, true, true, false, false, false, false] rfl rfl (one_of HT_.out (by kernel_rfl)) (by decide) (fun K hK => ?_)
            refine goes_ Try.func43 (by kernel_rfl) rfl #[.int .i64 600] (by rfl) rfl rfl (by (try simp only [List.map_toArray, List.map_cons, List.map_nil]); first | done | rfl | (simp only [List.length_drop, List.length_take]; rfl)) ?_
            with_reducible refine (flywheelref03_Of.calls kj33 600 t377 _ A41.out).mono ?_
            rintro e w' ⟨rfl, ⟨nd, rfl⟩⟩
            refine ⟨_, rfl, ?_⟩
            refine hK.out _ _ ⟨(IsS77.cell_0 HI0.out), (IsS77.cell_1 HI0.out), (IsS77.cell_2 HI0.out), (IsS77.cell_3 HI0.out), (IsS77.cell_4 HI0.out)⟩ (fun hHeld => ?_)
            clear hK K
            refine norm_ (a' := ?_) ?_ ?_
            rotate_left
            · show Act.put _ (some 150) _ = _
              simp only [Act.put, List.setIfInBounds_toArray, List.set_cons_zero, List.set_cons_succ, i64_w, i32_w]
              rfl
            refine one_ (i := 7) (N := some 151) #[true, true, true, true, true, true, true, true, false, false, false] rfl rfl (one_of HT_.out (by kernel_rfl)) (by decide) (fun K hK => ?_)
            refine goes_ Try.func40 (by kernel_rfl) rfl #[.int .i64 (wrap64 (s0_0 + t375)), .int .i64 t376, .int .i64 t377] (by rfl) rfl rfl (by (try simp only [List.map_toArray, List.map_cons, List.map_nil]); first | done | rfl | (simp only [List.length_drop, List.length_take]; rfl)) ?_
            with_reducible refine (flywheelref01_Clamp.calls (wrap64 (s0_0 + t375)) t376 t377 t378 _ A42.out).mono ?_
            rintro e w' ⟨rfl, ⟨nd, rfl⟩⟩
            refine ⟨_, rfl, ?_⟩
            refine hK.out _ _ ⟨(IsS77.cell_0 HI0.out), (IsS77.cell_1 HI0.out), (IsS77.cell_2 HI0.out), (IsS77.cell_3 HI0.out), (IsS77.cell_4 HI0.out)⟩ (fun hHeld => ?_)
            clear hK K
            refine norm_ (a' := ?_) ?_ ?_
            rotate_left
            · show Act.put _ (some 151) _ = _
              simp only [Act.put, List.setIfInBounds_toArray, List.set_cons_zero, List.set_cons_succ, i64_w, i32_w]
              rfl
            refine pure_ (i := 8) (N := some 152) (v := ?_) (a' := ?_) #[true, true, true, true, true, true, true, true, true, false, false] rfl rfl (any_of HT_.out (by kernel_rfl)) (fun _ _ _ h => h) (Or.inl ⟨by rfl, ?_⟩) ?_ ?_
            rotate_left
            · intro w'
              go_simp
              with_reducible rfl
            rotate_left
            · simp only [Act.put, List.setIfInBounds_toArray, List.set_cons_zero, List.set_cons_succ, i64_w, i32_w]
              rfl
            refine pure_ (i := 9) (N := some 153) (v := ?_) (a' := ?_) #[true, true, true, true, true, true, true, true, true, true, false] rfl rfl (any_of HT_.out (by kernel_rfl)) (fun _ _ _ h => h) (Or.inl ⟨by rfl, ?_⟩) ?_ ?_
            rotate_left
            · intro w'
              go_simp
              with_reducible rfl
            rotate_left
            · simp only [Act.put, List.setIfInBounds_toArray, List.set_cons_zero, List.set_cons_succ, i64_w, i32_w]
              rfl
            refine last_ (i := 10) (N := none) #[true, true, true, true, true, true, true, true, true, true, true] rfl rfl (one_of HT_.out (by kernel_rfl)) (by decide) (fun K hK => ?_)
            have hs48 : w47.cell? ⟨g, 0, none⟩ = some (.int .i64 (wrap64 (s0_0 + t375))) := IsS77.cell_0 HI0.out
            have hfs48 := IsS77.froz_0 HI0.out
            refine skip_ (w1 := ?_) (by rfl) rfl ?_ ?_
            rotate_left
            · go_simp
              rfl
            refine hK.out _ _ ?_
            clear hK K
            refine done_ (done_of HT_.out (by kernel_rfl)) ?_
            obtain ⟨HGz49, hgz49⟩ := HI0.out
            have hcz49_0 := cellS77_0 HGz49
            have hcz49_1 := cellS77_1 HGz49
            have hcz49_2 := cellS77_2 HGz49
            have hcz49_3 := cellS77_3 HGz49
            have hcz49_4 := cellS77_4 HGz49
            have hfz49_0 := blk_frozen HGz49 0
            have hfz49_1 := blk_frozen HGz49 1
            have hfz49_2 := blk_frozen HGz49 2
            have hfz49_3 := blk_frozen HGz49 3
            have hfz49_4 := blk_frozen HGz49 4
            clear HGz49 hgz49
            try go_wp2
            go_ret
            exact ⟨by first | rfl | (simp [errW_none, errW_some] <;> rfl) | (simp only [← hji5, ← hji6, ← hji8, ← hji38]; first | rfl | (simp [errW_none, errW_some] <;> rfl)) | (simp [*, errW_none, errW_some] <;> rfl), by repeat (first | (with_reducible first | exact HI0.out | apply IsS77.alloc | apply IsS77.drewN | apply IsS77.drew | apply IsS77.set_0 | apply IsS77.set_1 | apply IsS77.set_2 | apply IsS77.set_3 | apply IsS77.set_4) | exact HI0.out), by repeat (first | (with_reducible first | exact HB.out | apply below_alloc | apply pw_below_drewN | apply below_drew1 | refine below_set ?_ (IsS77.ge HI0.out)) | exact HB.out), by repeat (first | (with_reducible first | exact HK.out | apply KeepBut.set_ | apply keep_drewN | apply keep_drew | apply keep_alloc) | exact HK.out)⟩
      · rw [if_neg c33] at H
        have c33b0 : decide (t373 ≤ (wrap64 (s0_0 + t374))) = false := decide_eq_false c33
        clear c33
        replace H := Option.bind_eq_some_iff.mp H
        obtain ⟨t379, A500, H⟩ := H
        replace H : ((flywheelref03_Of.f kj9 600).bind fun t380 => ((flywheelref01_Clamp.f s0_0 t379 t380).bind fun t381 => (some (x1004_9, t381, x1001_9, t372, x1003_9, x1004_9)))) = some (r1, r2, r3, r4, r5, r6) := H
        have A50 := Aside0.mk A500
        clear A500
        replace H := Option.bind_eq_some_iff.mp H
        obtain ⟨t380, A510, H⟩ := H
        replace H : ((flywheelref01_Clamp.f s0_0 t379 t380).bind fun t381 => (some (x1004_9, t381, x1001_9, t372, x1003_9, x1004_9))) = some (r1, r2, r3, r4, r5, r6) := H
        have A51 := Aside0.mk A510
        clear A510
        replace H := Option.bind_eq_some_iff.mp H
        obtain ⟨t381, A520, H⟩ := H
        replace H : (some (x1004_9, t381, x1001_9, t372, x1003_9, x1004_9)) = some (r1, r2, r3, r4, r5, r6) := H
        have A52 := Aside0.mk A520
        clear A520
        simp only [Option.some.injEq, Prod.mk.injEq] at H
        obtain ⟨rfl, rfl, rfl, rfl, rfl, rfl⟩ := H
        try go_wp2_with (first | ((with_reducible refine gate_callee (f := 48) rfl ?_); refine goesL_ (some 111) rfl rfl Try.func48 (by kernel_rfl) rfl #[.int .i64 t372] rfl (by (try simp only [List.map_toArray, List.map_cons, List.map_nil]); first | done | rfl | (simp only [List.length_drop, List.length_take]; rfl)) ?_; (with_reducible refine (flywheelref01_Abs.calls kj9 t372 t373 _ A31.out).mono ?_); rintro e w' ⟨rfl, ⟨nd, rfl⟩⟩; refine ⟨_, rfl, ?_⟩; (try (rw [drewN_self wc]; generalize hq_ : World.drewN wc _ = wc; have n0_ : Aside0 (IsS77 w0 wc g s0_0 x1001_9 s0_2 x1003_9 x1004_9) := ⟨by rw [← hq_]; exact (by repeat (first | (with_reducible first | exact HI0.out | apply IsS77.alloc | apply IsS77.drewN | apply IsS77.drew | apply IsS77.set_0 | apply IsS77.set_1 | apply IsS77.set_2 | apply IsS77.set_3 | apply IsS77.set_4) | exact HI0.out))⟩; have n1_ : Aside0 (KeepBut w wc g none) := ⟨by rw [← hq_]; exact (by repeat (first | (with_reducible first | exact HK.out | apply KeepBut.set_ | apply keep_drewN | apply keep_drew | apply keep_alloc) | exact HK.out))⟩; have n2_ : Aside0 (Below w0.heap.size w0 wc) := ⟨by rw [← hq_]; exact (by repeat (first | (with_reducible first | exact HB.out | apply below_alloc | apply pw_below_drewN | apply below_drew1 | refine below_set ?_ (IsS77.ge HI0.out)) | exact HB.out))⟩; clear HI0 HK HB hq_; have HI0 := n0_; have HK := n1_; have HB := n2_; clear n0_ n1_ n2_))))
        have n0_ := Aside0.mk (IsS77.drew HI0.out)
        have n1_ := Aside0.mk (keep_drew HK.out)
        have n2_ := Aside0.mk (below_drew1 HB.out)
        clear HI0
        clear HK
        clear HB
        have HI0 := n0_
        have HK := n1_
        have HB := n2_
        clear n0_ n1_ n2_
        refine start_ (n := 8) (S := fun w' => w'.cell? ⟨g, 0, none⟩ = some (.int .i64 s0_0) ∧ w'.cell? ⟨g, 1, none⟩ = some (.int .i64 x1001_9) ∧ w'.cell? ⟨g, 2, none⟩ = some (.int .i64 s0_2) ∧ w'.cell? ⟨g, 3, none⟩ = some (.int .i64 x1003_9) ∧ w'.cell? ⟨g, 4, none⟩ = some (.int .i64 x1004_9)) (ds := []) #[false, false, false, false, false, false, false, false] (by kernel_rfl) rfl rfl ⟨(IsS77.cell_0 HI0.out), (IsS77.cell_1 HI0.out), (IsS77.cell_2 HI0.out), (IsS77.cell_3 HI0.out), (IsS77.cell_4 HI0.out)⟩ (fun hHeld => ?_); refine with_tabW flywheelref18_Detector_Add.tab15 flywheelref18_Detector_Add.bits15 (fun HT_ HW_ => ?_)
        generalize wc.drew = w53 at HI0 HK HB hHeld ⊢
        refine pure_ (i := 0) (N := some 112) (v := ?_) (a' := ?_) #[true, false, false, false, false, false, false, false] rfl rfl (any_of HT_.out (by kernel_rfl)) (fun _ _ _ h => h) (Or.inl ⟨by rfl, ?_⟩) ?_ ?_
        rotate_left
        · intro w'
          go_simp
          with_reducible rfl
        rotate_left
        · simp only [Act.put, List.setIfInBounds_toArray, List.set_cons_zero, List.set_cons_succ, i64_w, i32_w]
          rfl
        refine pure_ (i := 1) (N := some 113) (v := ?_) (a' := ?_) #[true, true, false, false, false, false, false, false] rfl rfl (any_of HT_.out (by kernel_rfl)) (fun _ _ _ h => h) (Or.inl ⟨by rfl, ?_⟩) ?_ ?_
        rotate_left
        · intro w'
          go_simp
          with_reducible rfl
        rotate_left
        · simp only [Act.put, List.setIfInBounds_toArray, List.set_cons_zero, List.set_cons_succ, i64_w, i32_w]
          rfl
        refine pure_ (i := 2) (N := some 114) (v := ?_) (a' := ?_) #[true, true, true, false, false, false, false, false] rfl rfl (any_of HT_.out (by kernel_rfl)) (fun _ _ _ h => h) (Or.inl ⟨by rfl, ?_⟩) ?_ ?_
        rotate_left
        · intro w'
          go_simp
          with_reducible rfl
        rotate_left
        · simp only [Act.put, List.setIfInBounds_toArray, List.set_cons_zero, List.set_cons_succ, i64_w, i32_w]
          rfl
        refine pure_ (i := 3) (N := some 115) (v := ?_) (a' := ?_) #[true, true, true, true, false, false, false, false] rfl rfl (any_of HT_.out (by kernel_rfl)) (fun _ _ _ h => h) (Or.inl ⟨by rfl, ?_⟩) ?_ ?_
        rotate_left
        · intro w'
          go_simp
          with_reducible rfl
        rotate_left
        · simp only [Act.put, List.setIfInBounds_toArray, List.set_cons_zero, List.set_cons_succ, i64_w, i32_w]
          rfl
        refine take_ (i := 4) (N := some 116) (v := ?_) (a' := ?_) #[true, true, true, true, true, false, false, false] rfl rfl (take_ofW HT_.out HW_.out (by kernel_rfl)) (fun _ _ _ h => h) (Or.inl ⟨by rfl, ?_⟩) hHeld ?_ ?_
        rotate_left
        · rintro w' ⟨s0, s1, s2, s3, s4⟩
          go_simp
          with_reducible rfl
        rotate_left
        · simp only [Act.put, List.setIfInBounds_toArray, List.set_cons_zero, List.set_cons_succ, i64_w, i32_w]
          rfl
        refine one_ (i := 5) (N := some 117) #[true, true, true, true, true, true, false, false] rfl rfl (one_of HT_.out (by kernel_rfl)) (by decide) (fun K hK => ?_)
        refine goes_ Try.func43 (by kernel_rfl) rfl #[.int .i64 15] (by rfl) rfl rfl (by (try simp only [List.map_toArray, List.map_cons, List.map_nil]); first | done | rfl | (simp only [List.length_drop, List.length_take]; rfl)) ?_
        with_reducible refine (flywheelref03_Of.calls kj9 15 t374 _ A32.out).mono ?_
        rintro e w' ⟨rfl, ⟨nd, rfl⟩⟩
        refine ⟨_, rfl, ?_⟩
        refine hK.out _ _ ⟨(IsS77.cell_0 HI0.out), (IsS77.cell_1 HI0.out), (IsS77.cell_2 HI0.out), (IsS77.cell_3 HI0.out), (IsS77.cell_4 HI0.out)⟩ (fun hHeld => ?_)
        clear hK K
        refine norm_ (a' := ?_) ?_ ?_
        rotate_left
        · show Act.put _ (some 117) _ = _
          simp only [Act.put, List.setIfInBounds_toArray, List.set_cons_zero, List.set_cons_succ, i64_w, i32_w]
          rfl
        refine pure_ (i := 6) (N := some 118) (v := ?_) (a' := ?_) #[true, true, true, true, true, true, true, false] rfl rfl (any_of HT_.out (by kernel_rfl)) (fun _ _ _ h => h) (Or.inl ⟨by rfl, ?_⟩) ?_ ?_
        rotate_left
        · intro w'
          go_simp
          with_reducible rfl
        rotate_left
        · simp only [Act.put, List.setIfInBounds_toArray, List.set_cons_zero, List.set_cons_succ, i64_w, i32_w]
          rfl
        refine pure_ (i := 7) (N := some 119) (v := ?_) (a' := ?_) #[true, true, true, true, true, true, true, true] rfl rfl (any_of HT_.out (by kernel_rfl)) (fun _ _ _ h => h) (Or.inl ⟨by rfl, ?_⟩) ?_ ?_
        rotate_left
        · intro w'
          go_simp
          with_reducible rfl
        rotate_left
        · simp only [Act.put, List.setIfInBounds_toArray, List.set_cons_zero, List.set_cons_succ, i64_w, i32_w]
          rfl
        refine done_ (done_of HT_.out (by kernel_rfl)) ?_
        try go_wp2
        (try (rw [drewN_self w53]; generalize hq_ : World.drewN w53 _ = w53; have n0_ : Aside0 (IsS77 w0 w53 g s0_0 x1001_9 s0_2 x1003_9 x1004_9) := ⟨by rw [← hq_]; exact (by repeat (first | (with_reducible first | exact HI0.out | apply IsS77.alloc | apply IsS77.drewN | apply IsS77.drew | apply IsS77.set_0 | apply IsS77.set_1 | apply IsS77.set_2 | apply IsS77.set_3 | apply IsS77.set_4) | exact HI0.out))⟩; have n1_ : Aside0 (KeepBut w w53 g none) := ⟨by rw [← hq_]; exact (by repeat (first | (with_reducible first | exact HK.out | apply KeepBut.set_ | apply keep_drewN | apply keep_drew | apply keep_alloc) | exact HK.out))⟩; have n2_ : Aside0 (Below w0.heap.size w0 w53) := ⟨by rw [← hq_]; exact (by repeat (first | (with_reducible first | exact HB.out | apply below_alloc | apply pw_below_drewN | apply below_drew1 | refine below_set ?_ (IsS77.ge HI0.out)) | exact HB.out))⟩; clear HI0 HK HB hq_; have HI0 := n0_; have HK := n1_; have HB := n2_; clear n0_ n1_ n2_))
        have n0_ := Aside0.mk (IsS77.drew HI0.out)
        have n1_ := Aside0.mk (keep_drew HK.out)
        have n2_ := Aside0.mk (below_drew1 HB.out)
        clear HI0
        clear HK
        clear HB
        have HI0 := n0_
        have HK := n1_
        have HB := n2_
        clear n0_ n1_ n2_
        refine start_ (n := 11) (S := fun w' => w'.cell? ⟨g, 0, none⟩ = some (.int .i64 s0_0) ∧ w'.cell? ⟨g, 1, none⟩ = some (.int .i64 x1001_9) ∧ w'.cell? ⟨g, 2, none⟩ = some (.int .i64 s0_2) ∧ w'.cell? ⟨g, 3, none⟩ = some (.int .i64 x1003_9) ∧ w'.cell? ⟨g, 4, none⟩ = some (.int .i64 x1004_9)) (ds := [10]) #[false, false, false, false, false, false, false, false, false, false, false] (by kernel_rfl) rfl rfl ⟨(IsS77.cell_0 HI0.out), (IsS77.cell_1 HI0.out), (IsS77.cell_2 HI0.out), (IsS77.cell_3 HI0.out), (IsS77.cell_4 HI0.out)⟩ (fun hHeld => ?_); refine with_tabW flywheelref18_Detector_Add.tab20 flywheelref18_Detector_Add.bits20 (fun HT_ HW_ => ?_)
        generalize w53.drew = w54 at HI0 HK HB hHeld ⊢
        refine pure_ (i := 0) (N := some 144) (v := ?_) (a' := ?_) #[true, false, false, false, false, false, false, false, false, false, false] rfl rfl (any_of HT_.out (by kernel_rfl)) (fun _ _ _ h => h) (Or.inl ⟨by rfl, ?_⟩) ?_ ?_
        rotate_left
        · intro w'
          go_simp
          with_reducible rfl
        rotate_left
        · simp only [Act.put, List.setIfInBounds_toArray, List.set_cons_zero, List.set_cons_succ, i64_w, i32_w]
          rfl
        refine pure_ (i := 1) (N := some 145) (v := ?_) (a' := ?_) #[true, true, false, false, false, false, false, false, false, false, false] rfl rfl (any_of HT_.out (by kernel_rfl)) (fun _ _ _ h => h) (Or.inl ⟨by rfl, ?_⟩) ?_ ?_
        rotate_left
        · intro w'
          go_simp
          with_reducible rfl
        rotate_left
        · simp only [Act.put, List.setIfInBounds_toArray, List.set_cons_zero, List.set_cons_succ, i64_w, i32_w]
          rfl
        refine pure_ (i := 2) (N := some 146) (v := ?_) (a' := ?_) #[true, true, true, false, false, false, false, false, false, false, false] rfl rfl (any_of HT_.out (by kernel_rfl)) (fun _ _ _ h => h) (Or.inl ⟨by rfl, ?_⟩) ?_ ?_
        rotate_left
        · intro w'
          go_simp
          with_reducible rfl
        rotate_left
        · simp only [Act.put, List.setIfInBounds_toArray, List.set_cons_zero, List.set_cons_succ, i64_w, i32_w]
          rfl
        refine pure_ (i := 3) (N := some 147) (v := ?_) (a' := ?_) #[true, true, true, true, false, false, false, false, false, false, false] rfl rfl (any_of HT_.out (by kernel_rfl)) (fun _ _ _ h => h) (Or.inl ⟨by rfl, ?_⟩) ?_ ?_
        rotate_left
        · intro w'
          go_simp
          with_reducible rfl
        rotate_left
        · simp only [Act.put, List.setIfInBounds_toArray, List.set_cons_zero, List.set_cons_succ, i64_w, i32_w]
          rfl
        refine take_ (i := 4) (N := some 148) (v := ?_) (a' := ?_) #[true, true, true, true, true, false, false, false, false, false, false] rfl rfl (take_ofW HT_.out HW_.out (by kernel_rfl)) (fun _ _ _ h => h) (Or.inl ⟨by rfl, ?_⟩) hHeld ?_ ?_
        rotate_left
        · rintro w' ⟨s0, s1, s2, s3, s4⟩
          go_simp
          with_reducible rfl
        rotate_left
        · simp only [Act.put, List.setIfInBounds_toArray, List.set_cons_zero, List.set_cons_succ, i64_w, i32_w]
          rfl
        refine one_ (i := 5) (N := some 149) #[true, true, true, true, true, true, false, false, false, false, false] rfl rfl (one_of HT_.out (by kernel_rfl)) (by decide) (fun K hK => ?_)
        refine goes_ Try.func43 (by kernel_rfl) rfl #[.int .i64 6] (by rfl) rfl rfl (by (try simp only [List.map_toArray, List.map_cons, List.map_nil]); first | done | rfl | (simp only [List.length_drop, List.length_take]; rfl)) ?_
        with_reducible refine (flywheelref03_Of.calls kj9 6 t379 _ A50.out).mono ?_
        rintro e w' ⟨rfl, ⟨nd, rfl⟩⟩
        refine ⟨_, rfl, ?_⟩
        refine hK.out _ _ ⟨(IsS77.cell_0 HI0.out), (IsS77.cell_1 HI0.out), (IsS77.cell_2 HI0.out), (IsS77.cell_3 HI0.out), (IsS77.cell_4 HI0.out)⟩ (fun hHeld => ?_)
        clear hK K
        refine norm_ (a' := ?_) ?_ ?_
        rotate_left
        · show Act.put _ (some 149) _ = _
          simp only [Act.put, List.setIfInBounds_toArray, List.set_cons_zero, List.set_cons_succ, i64_w, i32_w]
          rfl
        refine one_ (i := 6) (N := some 150) #[true, true, true, true, true, true, true, false, false, false, false] rfl rfl (one_of HT_.out (by kernel_rfl)) (by decide) (fun K hK => ?_)
        refine goes_ Try.func43 (by kernel_rfl) rfl #[.int .i64 600] (by rfl) rfl rfl (by (try simp only [List.map_toArray, List.map_cons, List.map_nil]); first | done | rfl | (simp only [List.length_drop, List.length_take]; rfl)) ?_
        with_reducible refine (flywheelref03_Of.calls kj9 600 t380 _ A51.out).mono ?_
        rintro e w' ⟨rfl, ⟨nd, rfl⟩⟩
        refine ⟨_, rfl, ?_⟩
        refine hK.out _ _ ⟨(IsS77.cell_0 HI0.out), (IsS77.cell_1 HI0.out), (IsS77.cell_2 HI0.out), (IsS77.cell_3 HI0.out), (IsS77.cell_4 HI0.out)⟩ (fun hHeld => ?_)
        clear hK K
        refine norm_ (a' := ?_) ?_ ?_
        rotate_left
        · show Act.put _ (some 150) _ = _
          simp only [Act.put, List.setIfInBounds_toArray, List.set_cons_zero, List.set_cons_succ, i64_w, i32_w]
          rfl
        refine one_ (i := 7) (N := some 151) #[true, true, true, true, true, true, true, true, false, false, false] rfl rfl (one_of HT_.out (by kernel_rfl)) (by decide) (fun K hK => ?_)
        refine goes_ Try.func40 (by kernel_rfl) rfl #[.int .i64 s0_0, .int .i64 t379, .int .i64 t380] (by rfl) rfl rfl (by (try simp only [List.map_toArray, List.map_cons, List.map_nil]); first | done | rfl | (simp only [List.length_drop, List.length_take]; rfl)) ?_
        with_reducible refine (flywheelref01_Clamp.calls s0_0 t379 t380 t381 _ A52.out).mono ?_
        rintro e w' ⟨rfl, ⟨nd, rfl⟩⟩
        refine ⟨_, rfl, ?_⟩
        refine hK.out _ _ ⟨(IsS77.cell_0 HI0.out), (IsS77.cell_1 HI0.out), (IsS77.cell_2 HI0.out), (IsS77.cell_3 HI0.out), (IsS77.cell_4 HI0.out)⟩ (fun hHeld => ?_)
        clear hK K
        refine norm_ (a' := ?_) ?_ ?_
        rotate_left
        · show Act.put _ (some 151) _ = _
          simp only [Act.put, List.setIfInBounds_toArray, List.set_cons_zero, List.set_cons_succ, i64_w, i32_w]
          rfl
        refine pure_ (i := 8) (N := some 152) (v := ?_) (a' := ?_) #[true, true, true, true, true, true, true, true, true, false, false] rfl rfl (any_of HT_.out (by kernel_rfl)) (fun _ _ _ h => h) (Or.inl ⟨by rfl, ?_⟩) ?_ ?_
        rotate_left
        · intro w'
          go_simp
          with_reducible rfl
        rotate_left
        · simp only [Act.put, List.setIfInBounds_toArray, List.set_cons_zero, List.set_cons_succ, i64_w, i32_w]
          rfl
        refine pure_ (i := 9) (N := some 153) (v := ?_) (a' := ?_) #[true, true, true, true, true, true, true, true, true, true, false] rfl rfl (any_of HT_.out (by kernel_rfl)) (fun _ _ _ h => h) (Or.inl ⟨by rfl, ?_⟩) ?_ ?_
        rotate_left
        · intro w'
          go_simp
          with_reducible rfl
        rotate_left
        · simp only [Act.put, List.setIfInBounds_toArray, List.set_cons_zero, List.set_cons_succ, i64_w, i32_w]
          rfl
        refine last_ (i := 10) (N := none) #[true, true, true, true, true, true, true, true, true, true, true] rfl rfl (one_of HT_.out (by kernel_rfl)) (by decide) (fun K hK => ?_)
        have hs55 : w54.cell? ⟨g, 0, none⟩ = some (.int .i64 s0_0) := IsS77.cell_0 HI0.out
        have hfs55 := IsS77.froz_0 HI0.out
        refine skip_ (w1 := ?_) (by rfl) rfl ?_ ?_
        rotate_left
        · go_simp
          rfl
        refine hK.out _ _ ?_
        clear hK K
        refine done_ (done_of HT_.out (by kernel_rfl)) ?_
        obtain ⟨HGz56, hgz56⟩ := HI0.out
        have hcz56_0 := cellS77_0 HGz56
        have hcz56_1 := cellS77_1 HGz56
        have hcz56_2 := cellS77_2 HGz56
        have hcz56_3 := cellS77_3 HGz56
        have hcz56_4 := cellS77_4 HGz56
        have hfz56_0 := blk_frozen HGz56 0
        have hfz56_1 := blk_frozen HGz56 1
        have hfz56_2 := blk_frozen HGz56 2
        have hfz56_3 := blk_frozen HGz56 3
        have hfz56_4 := blk_frozen HGz56 4
        clear HGz56 hgz56
        try go_wp2
        go_ret
        exact ⟨by first | rfl | (simp [errW_none, errW_some] <;> rfl) | (simp only [← hji5, ← hji6, ← hji8]; first | rfl | (simp [errW_none, errW_some] <;> rfl)) | (simp [*, errW_none, errW_some] <;> rfl), by repeat (first | (with_reducible first | exact HI0.out | apply IsS77.alloc | apply IsS77.drewN | apply IsS77.drew | apply IsS77.set_0 | apply IsS77.set_1 | apply IsS77.set_2 | apply IsS77.set_3 | apply IsS77.set_4) | exact HI0.out), by repeat (first | (with_reducible first | exact HB.out | apply below_alloc | apply pw_below_drewN | apply below_drew1 | refine below_set ?_ (IsS77.ge HI0.out)) | exact HB.out), by repeat (first | (with_reducible first | exact HK.out | apply KeepBut.set_ | apply keep_drewN | apply keep_drew | apply keep_alloc) | exact HK.out)⟩
end Go.Proofs.Ytaelmmbodigheaa.P
end

section
namespace Go.Proofs.Ytaelmmbodigheaa.P
open Go.RowKit Go.Proofs.YtaelmmbodigheaaW.PrintWords Go.Proofs.YtaelmmbodigheaaW.PrintLast Go.Proofs.YtaelmmbodigheaaW.PrintMore
attribute [local go_sem] max2_int min2_int max_two min_two max_three min_three max_four min_four   -- for this text's walks alone
set_option linter.unusedVariables false
set_option linter.unusedSimpArgs false
def detect_Detector_Usage.f (s0_0 : Int) (s0_1 : Int) (s0_2 : Int) (s0_3 : Int) (s0_4 : Int) (s0_5 : Int) : Option (Int × Int × Int × Int × Int × Int × Int) := some (s0_0, s0_0, s0_1, s0_2, s0_3, s0_4, s0_5)
set_option maxHeartbeats 8000000 in
set_option maxRecDepth 100000 in
theorem detect_Detector_Usage.calls (g : Nat) (s0_0 : Int) (s0_1 : Int) (s0_2 : Int) (s0_3 : Int) (s0_4 : Int) (s0_5 : Int) (r1 : Int) (r2 : Int) (r3 : Int) (r4 : Int) (r5 : Int) (r6 : Int) (r7 : Int) (w0 w : World) (hI : IsS75 w0 w g s0_0 s0_1 s0_2 s0_3 s0_4 s0_5) (hB : Below w0.heap.size w0 w) (h : detect_Detector_Usage.f s0_0 s0_1 s0_2 s0_3 s0_4 s0_5 = some (r1, r2, r3, r4, r5, r6, r7)) :
    Calls Try.prog 30 #[.pointer (some ⟨g, 0, none⟩)] w fun e w' => e = .returned (.int .i64 r1) ∧ IsS75 w0 w' g r2 r3 r4 r5 r6 r7 ∧ Below w0.heap.size w0 w' ∧ KeepBut w w' g none := by
  have hpn46_eql : ∀ (a_ : Addr) (W_ : World), (Go.binOp .eql 46 (.pointer (some a_)) (.pointer none)).run Try.prog W_ = .ok (.bool false) W_ := fun _ _ => by kernel_rfl
  have hnn46_eql : ∀ (W_ : World), (Go.binOp .eql 46 (.pointer none) (.pointer none)).run Try.prog W_ = .ok (.bool true) W_ := fun _ => by kernel_rfl
  have HI0 := Aside0.mk hI
  have HK := Aside0.mk (KeepBut.refl w g none)
  have HL := Aside0.mk hB.size
  clear hI
  have HW0 := Aside0.mk hB.size
  have HB := Aside0.mk hB
  clear hB
  have H : (some (s0_0, s0_0, s0_1, s0_2, s0_3, s0_4, s0_5)) = some (r1, r2, r3, r4, r5, r6, r7) := h
  clear h
  simp only [Option.some.injEq, Prod.mk.injEq] at H
  obtain ⟨rfl, rfl, rfl, rfl, rfl, rfl, rfl⟩ := H
  obtain ⟨HGz2, hgz2⟩ := HI0.out
  have hcz2_0 := cellS75_0 HGz2
  have hcz2_1 := cellS75_1 HGz2
  have hcz2_2 := cellS75_2 HGz2
  have hcz2_3 := cellS75_3 HGz2
  have hcz2_4 := cellS75_4 HGz2
  have hcz2_5 := cellS75_5 HGz2
  have hfz2_0 := blk_frozen HGz2 0
  have hfz2_1 := blk_frozen HGz2 1
  have hfz2_2 := blk_frozen HGz2 2
  have hfz2_3 := blk_frozen HGz2 3
  have hfz2_4 := blk_frozen HGz2 4
  have hfz2_5 := blk_frozen HGz2 5
  clear HGz2 hgz2
  go_enter Try.func30, Try.ntmps30
  go_wp2
  go_ret
  exact ⟨by first | rfl | (simp [errW_none, errW_some] <;> rfl) | (simp [*, errW_none, errW_some] <;> rfl), by repeat (first | (with_reducible first | exact HI0.out | apply IsS75.alloc | apply IsS75.drewN | apply IsS75.drew | apply IsS75.set_0 | apply IsS75.set_1 | apply IsS75.set_2 | apply IsS75.set_3 | apply IsS75.set_4 | apply IsS75.set_5) | exact HI0.out), by repeat (first | (with_reducible first | exact HB.out | apply below_alloc | apply pw_below_drewN | apply below_drew1 | refine below_set ?_ (IsS75.ge HI0.out)) | exact HB.out), by repeat (first | (with_reducible first | exact HK.out | apply KeepBut.set_ | apply keep_drewN | apply keep_drew | apply keep_alloc) | exact HK.out)⟩
def flywheelref18_Detector_Usage.f (s0_0 : Int) (s0_1 : Int) (s0_2 : Int) (s0_3 : Int) (s0_4 : Int) : Option (Int × Int × Int × Int × Int × Int) := some (s0_4, s0_0, s0_1, s0_2, s0_3, s0_4)
set_option maxHeartbeats 8000000 in
set_option maxRecDepth 100000 in
theorem flywheelref18_Detector_Usage.calls (g : Nat) (s0_0 : Int) (s0_1 : Int) (s0_2 : Int) (s0_3 : Int) (s0_4 : Int) (r1 : Int) (r2 : Int) (r3 : Int) (r4 : Int) (r5 : Int) (r6 : Int) (w0 w : World) (hI : IsS77 w0 w g s0_0 s0_1 s0_2 s0_3 s0_4) (hB : Below w0.heap.size w0 w) (h : flywheelref18_Detector_Usage.f s0_0 s0_1 s0_2 s0_3 s0_4 = some (r1, r2, r3, r4, r5, r6)) :
    Calls Try.prog 31 #[.pointer (some ⟨g, 0, none⟩)] w fun e w' => e = .returned (.int .i64 r1) ∧ IsS77 w0 w' g r2 r3 r4 r5 r6 ∧ Below w0.heap.size w0 w' ∧ KeepBut w w' g none := by
  have HI0 := Aside0.mk hI
  have HK := Aside0.mk (KeepBut.refl w g none)
  have HL := Aside0.mk hB.size
  clear hI
  have HW0 := Aside0.mk hB.size
  have HB := Aside0.mk hB
  clear hB
  have H : (some (s0_4, s0_0, s0_1, s0_2, s0_3, s0_4)) = some (r1, r2, r3, r4, r5, r6) := h
  clear h
  simp only [Option.some.injEq, Prod.mk.injEq] at H
  obtain ⟨rfl, rfl, rfl, rfl, rfl, rfl⟩ := H
  obtain ⟨HGz2, hgz2⟩ := HI0.out
  have hcz2_0 := cellS77_0 HGz2
  have hcz2_1 := cellS77_1 HGz2
  have hcz2_2 := cellS77_2 HGz2
  have hcz2_3 := cellS77_3 HGz2
  have hcz2_4 := cellS77_4 HGz2
  have hfz2_0 := blk_frozen HGz2 0
  have hfz2_1 := blk_frozen HGz2 1
  have hfz2_2 := blk_frozen HGz2 2
  have hfz2_3 := blk_frozen HGz2 3
  have hfz2_4 := blk_frozen HGz2 4
  clear HGz2 hgz2
  go_enter Try.func31, Try.ntmps31
  go_wp2
  go_ret
  exact ⟨by first | rfl | (simp [errW_none, errW_some] <;> rfl) | (simp [*, errW_none, errW_some] <;> rfl), by repeat (first | (with_reducible first | exact HI0.out | apply IsS77.alloc | apply IsS77.drewN | apply IsS77.drew | apply IsS77.set_0 | apply IsS77.set_1 | apply IsS77.set_2 | apply IsS77.set_3 | apply IsS77.set_4) | exact HI0.out), by repeat (first | (with_reducible first | exact HB.out | apply below_alloc | apply pw_below_drewN | apply below_drew1 | refine below_set ?_ (IsS77.ge HI0.out)) | exact HB.out), by repeat (first | (with_reducible first | exact HK.out | apply KeepBut.set_ | apply keep_drewN | apply keep_drew | apply keep_alloc) | exact HK.out)⟩
def detect_Detector_Threshold.f (s0_0 : Int) (s0_1 : Int) (s0_2 : Int) (s0_3 : Int) (s0_4 : Int) (s0_5 : Int) : Option (Int × Int × Int × Int × Int × Int × Int) := some (s0_1, s0_0, s0_1, s0_2, s0_3, s0_4, s0_5)
set_option maxHeartbeats 8000000 in
set_option maxRecDepth 100000 in
theorem detect_Detector_Threshold.calls (g : Nat) (s0_0 : Int) (s0_1 : Int) (s0_2 : Int) (s0_3 : Int) (s0_4 : Int) (s0_5 : Int) (r1 : Int) (r2 : Int) (r3 : Int) (r4 : Int) (r5 : Int) (r6 : Int) (r7 : Int) (w0 w : World) (hI : IsS75 w0 w g s0_0 s0_1 s0_2 s0_3 s0_4 s0_5) (hB : Below w0.heap.size w0 w) (h : detect_Detector_Threshold.f s0_0 s0_1 s0_2 s0_3 s0_4 s0_5 = some (r1, r2, r3, r4, r5, r6, r7)) :
    Calls Try.prog 32 #[.pointer (some ⟨g, 0, none⟩)] w fun e w' => e = .returned (.int .i64 r1) ∧ IsS75 w0 w' g r2 r3 r4 r5 r6 r7 ∧ Below w0.heap.size w0 w' ∧ KeepBut w w' g none := by
  have hpn46_eql : ∀ (a_ : Addr) (W_ : World), (Go.binOp .eql 46 (.pointer (some a_)) (.pointer none)).run Try.prog W_ = .ok (.bool false) W_ := fun _ _ => by kernel_rfl
  have hnn46_eql : ∀ (W_ : World), (Go.binOp .eql 46 (.pointer none) (.pointer none)).run Try.prog W_ = .ok (.bool true) W_ := fun _ => by kernel_rfl
  have HI0 := Aside0.mk hI
  have HK := Aside0.mk (KeepBut.refl w g none)
  have HL := Aside0.mk hB.size
  clear hI
  have HW0 := Aside0.mk hB.size
  have HB := Aside0.mk hB
  clear hB
  have H : (some (s0_1, s0_0, s0_1, s0_2, s0_3, s0_4, s0_5)) = some (r1, r2, r3, r4, r5, r6, r7) := h
  clear h
  simp only [Option.some.injEq, Prod.mk.injEq] at H
  obtain ⟨rfl, rfl, rfl, rfl, rfl, rfl, rfl⟩ := H
  obtain ⟨HGz2, hgz2⟩ := HI0.out
  have hcz2_0 := cellS75_0 HGz2
  have hcz2_1 := cellS75_1 HGz2
  have hcz2_2 := cellS75_2 HGz2
  have hcz2_3 := cellS75_3 HGz2
  have hcz2_4 := cellS75_4 HGz2
  have hcz2_5 := cellS75_5 HGz2
  have hfz2_0 := blk_frozen HGz2 0
  have hfz2_1 := blk_frozen HGz2 1
  have hfz2_2 := blk_frozen HGz2 2
  have hfz2_3 := blk_frozen HGz2 3
  have hfz2_4 := blk_frozen HGz2 4
  have hfz2_5 := blk_frozen HGz2 5
  clear HGz2 hgz2
  go_enter Try.func32, Try.ntmps32
  go_wp2
  go_ret
  exact ⟨by first | rfl | (simp [errW_none, errW_some] <;> rfl) | (simp [*, errW_none, errW_some] <;> rfl), by repeat (first | (with_reducible first | exact HI0.out | apply IsS75.alloc | apply IsS75.drewN | apply IsS75.drew | apply IsS75.set_0 | apply IsS75.set_1 | apply IsS75.set_2 | apply IsS75.set_3 | apply IsS75.set_4 | apply IsS75.set_5) | exact HI0.out), by repeat (first | (with_reducible first | exact HB.out | apply below_alloc | apply pw_below_drewN | apply below_drew1 | refine below_set ?_ (IsS75.ge HI0.out)) | exact HB.out), by repeat (first | (with_reducible first | exact HK.out | apply KeepBut.set_ | apply keep_drewN | apply keep_drew | apply keep_alloc) | exact HK.out)⟩
def flywheelref18_Detector_Threshold.f (s0_0 : Int) (s0_1 : Int) (s0_2 : Int) (s0_3 : Int) (s0_4 : Int) : Option (Int × Int × Int × Int × Int × Int) := some (s0_0, s0_0, s0_1, s0_2, s0_3, s0_4)
set_option maxHeartbeats 8000000 in
set_option maxRecDepth 100000 in
theorem flywheelref18_Detector_Threshold.calls (g : Nat) (s0_0 : Int) (s0_1 : Int) (s0_2 : Int) (s0_3 : Int) (s0_4 : Int) (r1 : Int) (r2 : Int) (r3 : Int) (r4 : Int) (r5 : Int) (r6 : Int) (w0 w : World) (hI : IsS77 w0 w g s0_0 s0_1 s0_2 s0_3 s0_4) (hB : Below w0.heap.size w0 w) (h : flywheelref18_Detector_Threshold.f s0_0 s0_1 s0_2 s0_3 s0_4 = some (r1, r2, r3, r4, r5, r6)) :
    Calls Try.prog 33 #[.pointer (some ⟨g, 0, none⟩)] w fun e w' => e = .returned (.int .i64 r1) ∧ IsS77 w0 w' g r2 r3 r4 r5 r6 ∧ Below w0.heap.size w0 w' ∧ KeepBut w w' g none := by
  have HI0 := Aside0.mk hI
  have HK := Aside0.mk (KeepBut.refl w g none)
  have HL := Aside0.mk hB.size
  clear hI
  have HW0 := Aside0.mk hB.size
  have HB := Aside0.mk hB
  clear hB
  have H : (some (s0_0, s0_0, s0_1, s0_2, s0_3, s0_4)) = some (r1, r2, r3, r4, r5, r6) := h
  clear h
  simp only [Option.some.injEq, Prod.mk.injEq] at H
  obtain ⟨rfl, rfl, rfl, rfl, rfl, rfl⟩ := H
  obtain ⟨HGz2, hgz2⟩ := HI0.out
  have hcz2_0 := cellS77_0 HGz2
  have hcz2_1 := cellS77_1 HGz2
  have hcz2_2 := cellS77_2 HGz2
  have hcz2_3 := cellS77_3 HGz2
  have hcz2_4 := cellS77_4 HGz2
  have hfz2_0 := blk_frozen HGz2 0
  have hfz2_1 := blk_frozen HGz2 1
  have hfz2_2 := blk_frozen HGz2 2
  have hfz2_3 := blk_frozen HGz2 3
  have hfz2_4 := blk_frozen HGz2 4
  clear HGz2 hgz2
  go_enter Try.func33, Try.ntmps33
  go_wp2
  go_ret
  exact ⟨by first | rfl | (simp [errW_none, errW_some] <;> rfl) | (simp [*, errW_none, errW_some] <;> rfl), by repeat (first | (with_reducible first | exact HI0.out | apply IsS77.alloc | apply IsS77.drewN | apply IsS77.drew | apply IsS77.set_0 | apply IsS77.set_1 | apply IsS77.set_2 | apply IsS77.set_3 | apply IsS77.set_4) | exact HI0.out), by repeat (first | (with_reducible first | exact HB.out | apply below_alloc | apply pw_below_drewN | apply below_drew1 | refine below_set ?_ (IsS77.ge HI0.out)) | exact HB.out), by repeat (first | (with_reducible first | exact HK.out | apply KeepBut.set_ | apply keep_drewN | apply keep_drew | apply keep_alloc) | exact HK.out)⟩
def flywheellaw18_wakes.j0 : Nat → Bool → Int → Int → Int → Int → Int → Int → Option (Bool)
  | 0, _, _, _, _, _, _, _ => none
  | k + 1, x14, x389000, x389001, x389002, x389003, x389004, x389005 => if x14 = true then (some false) else ((fixed_Of.f 1).bind fun t403 => ((detect_Detector_Add.f k x389000 x389001 x389002 x389003 x389004 x389005 t403 60 10000 0).bind fun bt404 => ((fixed_Of.f 1).bind fun t411 => ((detect_Detector_Add.f k bt404.2.1 bt404.2.2.1 bt404.2.2.2.1 bt404.2.2.2.2.1 bt404.2.2.2.2.2.1 bt404.2.2.2.2.2.2 t411 60 10000 10000).bind fun bt412 => (if bt412.1 = 1 then ((fixed_Of.f (-1)).bind fun t419 => ((detect_Detector_Add.f k bt412.2.1 bt412.2.2.1 bt412.2.2.2.1 bt412.2.2.2.2.1 bt412.2.2.2.2.2.1 bt412.2.2.2.2.2.2 t419 60 10000 20000).bind fun bt420 => (some (bt420.1 == 2)))) else (some false))))))
def flywheellaw18_wakes.f (k : Nat)  : Option (Bool) := (detect_New.f).bind fun bt382 => ((detect_Detector_Threshold.f bt382.1 bt382.2.1 bt382.2.2.1 bt382.2.2.2.1 bt382.2.2.2.2.1 bt382.2.2.2.2.2).bind fun bt389 => (if bt389.1 = 53687091200 then ((detect_Detector_Usage.f bt389.2.1 bt389.2.2.1 bt389.2.2.2.1 bt389.2.2.2.2.1 bt389.2.2.2.2.2.1 bt389.2.2.2.2.2.2).bind fun bt396 => (flywheellaw18_wakes.j0 k (bt396.1 != 0) bt396.2.1 bt396.2.2.1 bt396.2.2.2.1 bt396.2.2.2.2.1 bt396.2.2.2.2.2.1 bt396.2.2.2.2.2.2)) else (flywheellaw18_wakes.j0 k true bt389.2.1 bt389.2.2.1 bt389.2.2.2.1 bt389.2.2.2.2.1 bt389.2.2.2.2.2.1 bt389.2.2.2.2.2.2)))
theorem flywheellaw18_wakes.mono_l : ∀ k, (∀ y0 y1 y2 y3 y4 y5 y6, LeO (flywheellaw18_wakes.j0 k y0 y1 y2 y3 y4 y5 y6) (flywheellaw18_wakes.j0 (k + 1) y0 y1 y2 y3 y4 y5 y6))
  | 0 => fun _ _ _ _ _ _ _ r h => by simp [flywheellaw18_wakes.j0] at h
  | k + 1 => by
    have ih0 := flywheellaw18_wakes.mono_l k
    · intro y0 y1 y2 y3 y4 y5 y6
      unfold flywheellaw18_wakes.j0
      repeat' first
      | (with_reducible exact ih0 _ _ _ _ _ _ _)
      | (with_reducible exact detect_Detector_Add.mono _ _ _ _ _ _ _ _ _ _ _)
      | (with_reducible exact LeO.refl _)
      | (with_reducible exact LeO.none _)
      | (with_reducible refine LeO.ite ?_ ?_)
      | (with_reducible refine LeO.bind ?_ (fun _ => ?_))
      | exact ih0 _ _ _ _ _ _ _
      | exact detect_Detector_Add.mono _ _ _ _ _ _ _ _ _ _ _
      | exact LeO.none _
      | refine LeO.ite ?_ ?_
      | refine LeO.bind ?_ (fun _ => ?_)
theorem flywheellaw18_wakes.mono : ∀ k, LeO (flywheellaw18_wakes.f k ) (flywheellaw18_wakes.f (k + 1) ) := by
  intro  k
  have ih0 := flywheellaw18_wakes.mono_l k
  unfold flywheellaw18_wakes.f
  repeat' first
      | (with_reducible exact ih0 _ _ _ _ _ _ _)
      | (with_reducible exact detect_Detector_Add.mono _ _ _ _ _ _ _ _ _ _ _)
      | (with_reducible exact LeO.refl _)
      | (with_reducible exact LeO.none _)
      | (with_reducible refine LeO.ite ?_ ?_)
      | (with_reducible refine LeO.bind ?_ (fun _ => ?_))
      | exact ih0 _ _ _ _ _ _ _
      | exact detect_Detector_Add.mono _ _ _ _ _ _ _ _ _ _ _
      | exact LeO.none _
      | refine LeO.ite ?_ ?_
      | refine LeO.bind ?_ (fun _ => ?_)
set_option maxHeartbeats 8000000 in
set_option maxRecDepth 100000 in
theorem flywheellaw18_wakes.calls (k : Nat)  (r : Bool) (w : World) (h : flywheellaw18_wakes.f k  = some r) :
    Calls Try.prog 34 #[] w fun e w' => e = .returned (.bool r) ∧ Below w.heap.size w w' := by
  have hpn46_eql : ∀ (a_ : Addr) (W_ : World), (Go.binOp .eql 46 (.pointer (some a_)) (.pointer none)).run Try.prog W_ = .ok (.bool false) W_ := fun _ _ => by kernel_rfl
  have hnn46_eql : ∀ (W_ : World), (Go.binOp .eql 46 (.pointer none) (.pointer none)).run Try.prog W_ = .ok (.bool true) W_ := fun _ => by kernel_rfl
  have HB := Aside0.mk (Below.refl w.heap.size w)
  have H : ((detect_New.f).bind fun bt382 => ((detect_Detector_Threshold.f bt382.1 bt382.2.1 bt382.2.2.1 bt382.2.2.2.1 bt382.2.2.2.2.1 bt382.2.2.2.2.2).bind fun bt389 => (if bt389.1 = 53687091200 then ((detect_Detector_Usage.f bt389.2.1 bt389.2.2.1 bt389.2.2.2.1 bt389.2.2.2.2.1 bt389.2.2.2.2.2.1 bt389.2.2.2.2.2.2).bind fun bt396 => (flywheellaw18_wakes.j0 k (bt396.1 != 0) bt396.2.1 bt396.2.2.1 bt396.2.2.2.1 bt396.2.2.2.2.1 bt396.2.2.2.2.2.1 bt396.2.2.2.2.2.2)) else (flywheellaw18_wakes.j0 k true bt389.2.1 bt389.2.2.1 bt389.2.2.2.1 bt389.2.2.2.2.1 bt389.2.2.2.2.2.1 bt389.2.2.2.2.2.2)))) = some r := h
  clear h
  replace H := Option.bind_eq_some_iff.mp H
  obtain ⟨⟨t382, t383, t384, t385, t386, t387⟩, A10, H⟩ := H
  replace H : ((detect_Detector_Threshold.f t382 t383 t384 t385 t386 t387).bind fun bt389 => (if bt389.1 = 53687091200 then ((detect_Detector_Usage.f bt389.2.1 bt389.2.2.1 bt389.2.2.2.1 bt389.2.2.2.2.1 bt389.2.2.2.2.2.1 bt389.2.2.2.2.2.2).bind fun bt396 => (flywheellaw18_wakes.j0 k (bt396.1 != 0) bt396.2.1 bt396.2.2.1 bt396.2.2.2.1 bt396.2.2.2.2.1 bt396.2.2.2.2.2.1 bt396.2.2.2.2.2.2)) else (flywheellaw18_wakes.j0 k true bt389.2.1 bt389.2.2.1 bt389.2.2.2.1 bt389.2.2.2.2.1 bt389.2.2.2.2.2.1 bt389.2.2.2.2.2.2))) = some r := H
  have A1 := Aside0.mk A10
  clear A10
  have HC2 := Aside0.mk H
  clear H
  go_enter Try.func34, Try.ntmps34
  go_upto_region 2 with (first | ((with_reducible refine gate_callee (f := 26) rfl ?_); refine goesL_ (some 2) rfl rfl Try.func26 (by kernel_rfl) rfl #[] rfl (by (try simp only [List.map_toArray, List.map_cons, List.map_nil]); first | done | rfl | (simp only [List.length_drop, List.length_take]; rfl)) ?_; (with_reducible refine (detect_New.calls  t382 t383 t384 t385 t386 t387 _ _ (Below.refl _ _) A1.out).mono ?_); rintro e w3 ⟨g388, rfl, hi, hb, hb2⟩; refine ⟨_, rfl, ?_⟩; have n0_ := Aside0.mk (below_step (by repeat (first | (with_reducible first | exact HB.out | apply below_alloc | apply pw_below_drewN | apply below_drew1) | exact HB.out)) hb2); have n1_ := Aside0.mk ((IsS75.rebase hi (below_size (by repeat (first | (with_reducible first | exact HB.out | apply below_alloc | apply pw_below_drewN | apply below_drew1) | exact HB.out))))); clear HB; have HB := n0_; have HI388 := n1_; clear n0_ n1_; (try clear hb); (try clear hb2); (try clear hk); (try clear hi)))
  (try simp only [Act.put, List.setIfInBounds_toArray, List.set_cons_zero, List.set_cons_succ])
  go_cut [14] (fun v14 wc => ∃ (kq : Nat) (x14_1 : Bool) (x389000_1 : Int) (x389001_1 : Int) (x389002_1 : Int) (x389003_1 : Int) (x389004_1 : Int) (x389005_1 : Int), v14 = .bool x14_1 ∧ Aside0 (flywheellaw18_wakes.j0 kq x14_1 x389000_1 x389001_1 x389002_1 x389003_1 x389004_1 x389005_1 = some r) ∧ Aside0 (kq ≤ k) ∧ Aside0 (IsS75 w wc g388 x389000_1 x389001_1 x389002_1 x389003_1 x389004_1 x389005_1) ∧ Aside0 (Below w.heap.size w wc))
  case first =>
    have H := HC2.out
    clear HC2
    replace H := Option.bind_eq_some_iff.mp H
    obtain ⟨⟨t389, t390, t391, t392, t393, t394, t395⟩, A40, H⟩ := H
    replace H : (if t389 = 53687091200 then ((detect_Detector_Usage.f t390 t391 t392 t393 t394 t395).bind fun bt396 => (flywheellaw18_wakes.j0 k (bt396.1 != 0) bt396.2.1 bt396.2.2.1 bt396.2.2.2.1 bt396.2.2.2.2.1 bt396.2.2.2.2.2.1 bt396.2.2.2.2.2.2)) else (flywheellaw18_wakes.j0 k true t390 t391 t392 t393 t394 t395)) = some r := H
    have A4 := Aside0.mk A40
    clear A40
    by_cases c5 : t389 = 53687091200
    · rw [if_pos c5] at H
      have c5b0 : (t389 == 53687091200) = true := beq_iff_eq.mpr c5
      have c5b1 : (t389 != 53687091200) = false := bne_eq_false_iff_eq.mpr c5
      clear c5
      (first | rw [c5b0] | (simp only [i64_w, i32_w]; rw [c5b0]) | skip)
      replace H := Option.bind_eq_some_iff.mp H
      obtain ⟨⟨t396, t397, t398, t399, t400, t401, t402⟩, A60, H⟩ := H
      replace H : (flywheellaw18_wakes.j0 k (t396 != 0) t397 t398 t399 t400 t401 t402) = some r := H
      have A6 := Aside0.mk A60
      clear A60
      have H' := Aside0.mk H
      clear H
      go_wp2_with (first | (go_at_call 32; (with_reducible refine (detect_Detector_Threshold.calls g388 t382 t383 t384 t385 t386 t387 t389 t390 t391 t392 t393 t394 t395 w _ ?side1 ?side2 A4.out).mono ?_); (case side1 => repeat (first | (with_reducible first | exact HI388.out | apply IsS75.alloc | apply IsS75.drewN | apply IsS75.drew | apply IsS75.set_0 | apply IsS75.set_1 | apply IsS75.set_2 | apply IsS75.set_3 | apply IsS75.set_4 | apply IsS75.set_5) | exact HI388.out)); (case side2 => repeat (first | (with_reducible first | exact HB.out | apply below_alloc | apply pw_below_drewN | apply below_drew1 | refine below_set ?_ (IsS75.ge HI388.out)) | exact HB.out)); rintro e w7 ⟨rfl, hi, hb, hk⟩; have n0_ := Aside0.mk (hb); have n1_ := Aside0.mk (hi); clear HB; clear HI388; have HB := n0_; have HI388 := n1_; clear n0_ n1_; (try clear hb); (try clear hb2); (try clear hk); (try clear hi)) | (go_at_call 30; (with_reducible refine (detect_Detector_Usage.calls g388 t390 t391 t392 t393 t394 t395 t396 t397 t398 t399 t400 t401 t402 w _ ?side1 ?side2 A6.out).mono ?_); (case side1 => repeat (first | (with_reducible first | exact HI388.out | apply IsS75.alloc | apply IsS75.drewN | apply IsS75.drew | apply IsS75.set_0 | apply IsS75.set_1 | apply IsS75.set_2 | apply IsS75.set_3 | apply IsS75.set_4 | apply IsS75.set_5) | exact HI388.out)); (case side2 => repeat (first | (with_reducible first | exact HB.out | apply below_alloc | apply pw_below_drewN | apply below_drew1 | refine below_set ?_ (IsS75.ge HI388.out)) | exact HB.out)); rintro e w8 ⟨rfl, hi, hb, hk⟩; have n0_ := Aside0.mk (hb); have n1_ := Aside0.mk (hi); clear HB; clear HI388; have HB := n0_; have HI388 := n1_; clear n0_ n1_; (try clear hb); (try clear hb2); (try clear hk); (try clear hi)))
      go_meet
      case rel => exact ⟨_, ((t396 != 0)), (t397), (t398), (t399), (t400), (t401), (t402), (by first | rfl | (simp; done) | (simp [*]; done)), H', ⟨by first | omega | exact Nat.le_refl _⟩, ⟨by repeat (first | (with_reducible first | exact HI388.out | apply IsS75.alloc | apply IsS75.drewN | apply IsS75.drew | apply IsS75.set_0 | apply IsS75.set_1 | apply IsS75.set_2 | apply IsS75.set_3 | apply IsS75.set_4 | apply IsS75.set_5) | exact HI388.out)⟩, ⟨by repeat (first | (with_reducible first | exact HB.out | apply below_alloc | apply pw_below_drewN | apply below_drew1 | refine below_set ?_ (IsS75.ge HI388.out)) | exact HB.out)⟩⟩
    · rw [if_neg c5] at H
      have c5b0 : (t389 == 53687091200) = false := beq_eq_false_iff_ne.mpr c5
      have c5b1 : (t389 != 53687091200) = true := bne_iff_ne.mpr c5
      (first | rw [c5b0] | (simp only [i64_w, i32_w]; rw [c5b0]) | skip)
      have H' := Aside0.mk H
      clear H
      go_wp2_with (first | (go_at_call 32; (with_reducible refine (detect_Detector_Threshold.calls g388 t382 t383 t384 t385 t386 t387 t389 t390 t391 t392 t393 t394 t395 w _ ?side1 ?side2 A4.out).mono ?_); (case side1 => repeat (first | (with_reducible first | exact HI388.out | apply IsS75.alloc | apply IsS75.drewN | apply IsS75.drew | apply IsS75.set_0 | apply IsS75.set_1 | apply IsS75.set_2 | apply IsS75.set_3 | apply IsS75.set_4 | apply IsS75.set_5) | exact HI388.out)); (case side2 => repeat (first | (with_reducible first | exact HB.out | apply below_alloc | apply pw_below_drewN | apply below_drew1 | refine below_set ?_ (IsS75.ge HI388.out)) | exact HB.out)); rintro e w9 ⟨rfl, hi, hb, hk⟩; have n0_ := Aside0.mk (hb); have n1_ := Aside0.mk (hi); clear HB; clear HI388; have HB := n0_; have HI388 := n1_; clear n0_ n1_; (try clear hb); (try clear hb2); (try clear hk); (try clear hi)))
      go_meet
      case rel => exact ⟨_, (true), (t390), (t391), (t392), (t393), (t394), (t395), (by first | rfl | (simp; done) | (simp [*]; done)), H', ⟨by first | omega | exact Nat.le_refl _⟩, ⟨by repeat (first | (with_reducible first | exact HI388.out | apply IsS75.alloc | apply IsS75.drewN | apply IsS75.drew | apply IsS75.set_0 | apply IsS75.set_1 | apply IsS75.set_2 | apply IsS75.set_3 | apply IsS75.set_4 | apply IsS75.set_5) | exact HI388.out)⟩, ⟨by repeat (first | (with_reducible first | exact HB.out | apply below_alloc | apply pw_below_drewN | apply below_drew1 | refine below_set ?_ (IsS75.ge HI388.out)) | exact HB.out)⟩⟩
  case rest =>
    clear HC2
    try clear c2
    try clear p2
    try clear c3
    try clear c5
    try clear c5b0
    try clear c5b1
    obtain ⟨kq, x14_1, x389000_1, x389001_1, x389002_1, x389003_1, x389004_1, x389005_1, rfl, HA, HJ1, HI388, HB⟩ := hcut
    cases kq with
    | zero => exact absurd HA.out (by simp [flywheellaw18_wakes.j0])
    | succ kj1 =>
      have H := HA.out
      clear HA
      simp only [flywheellaw18_wakes.j0] at H
      by_cases c10 : x14_1 = true
      · subst c10
        have H1 : (some false) = some r := by rw [if_pos rfl] at H; exact H
        clear H
        have H := H1
        clear H1
        obtain rfl := Option.some.inj H
        go_wp2
        go_ret
        exact ⟨by first | rfl | (simp [errW_none, errW_some] <;> rfl) | (simp [*, errW_none, errW_some] <;> rfl), by repeat (first | (with_reducible first | exact HB.out | apply below_alloc | apply pw_below_drewN | apply below_drew1 | refine below_set ?_ (IsS75.ge HI388.out)) | exact HB.out)⟩
      · replace c10 := Bool.eq_false_iff.mpr c10
        subst c10
        have H1 : ((fixed_Of.f 1).bind fun t403 => ((detect_Detector_Add.f kj1 x389000_1 x389001_1 x389002_1 x389003_1 x389004_1 x389005_1 t403 60 10000 0).bind fun bt404 => ((fixed_Of.f 1).bind fun t411 => ((detect_Detector_Add.f kj1 bt404.2.1 bt404.2.2.1 bt404.2.2.2.1 bt404.2.2.2.2.1 bt404.2.2.2.2.2.1 bt404.2.2.2.2.2.2 t411 60 10000 10000).bind fun bt412 => (if bt412.1 = 1 then ((fixed_Of.f (-1)).bind fun t419 => ((detect_Detector_Add.f kj1 bt412.2.1 bt412.2.2.1 bt412.2.2.2.1 bt412.2.2.2.2.1 bt412.2.2.2.2.2.1 bt412.2.2.2.2.2.2 t419 60 10000 20000).bind fun bt420 => (some (bt420.1 == 2)))) else (some false)))))) = some r := by rw [if_neg (show ¬ (false = true) by decide)] at H; exact H
        clear H
        have H := H1
        clear H1
        replace H := Option.bind_eq_some_iff.mp H
        obtain ⟨t403, A110, H⟩ := H
        replace H : ((detect_Detector_Add.f kj1 x389000_1 x389001_1 x389002_1 x389003_1 x389004_1 x389005_1 t403 60 10000 0).bind fun bt404 => ((fixed_Of.f 1).bind fun t411 => ((detect_Detector_Add.f kj1 bt404.2.1 bt404.2.2.1 bt404.2.2.2.1 bt404.2.2.2.2.1 bt404.2.2.2.2.2.1 bt404.2.2.2.2.2.2 t411 60 10000 10000).bind fun bt412 => (if bt412.1 = 1 then ((fixed_Of.f (-1)).bind fun t419 => ((detect_Detector_Add.f kj1 bt412.2.1 bt412.2.2.1 bt412.2.2.2.1 bt412.2.2.2.2.1 bt412.2.2.2.2.2.1 bt412.2.2.2.2.2.2 t419 60 10000 20000).bind fun bt420 => (some (bt420.1 == 2)))) else (some false))))) = some r := H
        have A11 := Aside0.mk A110
        clear A110
        replace H := Option.bind_eq_some_iff.mp H
        obtain ⟨⟨t404, t405, t406, t407, t408, t409, t410⟩, A120, H⟩ := H
        replace H : ((fixed_Of.f 1).bind fun t411 => ((detect_Detector_Add.f kj1 t405 t406 t407 t408 t409 t410 t411 60 10000 10000).bind fun bt412 => (if bt412.1 = 1 then ((fixed_Of.f (-1)).bind fun t419 => ((detect_Detector_Add.f kj1 bt412.2.1 bt412.2.2.1 bt412.2.2.2.1 bt412.2.2.2.2.1 bt412.2.2.2.2.2.1 bt412.2.2.2.2.2.2 t419 60 10000 20000).bind fun bt420 => (some (bt420.1 == 2)))) else (some false)))) = some r := H
        have A12 := Aside0.mk A120
        clear A120
        replace H := Option.bind_eq_some_iff.mp H
        obtain ⟨t411, A130, H⟩ := H
        replace H : ((detect_Detector_Add.f kj1 t405 t406 t407 t408 t409 t410 t411 60 10000 10000).bind fun bt412 => (if bt412.1 = 1 then ((fixed_Of.f (-1)).bind fun t419 => ((detect_Detector_Add.f kj1 bt412.2.1 bt412.2.2.1 bt412.2.2.2.1 bt412.2.2.2.2.1 bt412.2.2.2.2.2.1 bt412.2.2.2.2.2.2 t419 60 10000 20000).bind fun bt420 => (some (bt420.1 == 2)))) else (some false))) = some r := H
        have A13 := Aside0.mk A130
        clear A130
        replace H := Option.bind_eq_some_iff.mp H
        obtain ⟨⟨t412, t413, t414, t415, t416, t417, t418⟩, A140, H⟩ := H
        replace H : (if t412 = 1 then ((fixed_Of.f (-1)).bind fun t419 => ((detect_Detector_Add.f kj1 t413 t414 t415 t416 t417 t418 t419 60 10000 20000).bind fun bt420 => (some (bt420.1 == 2)))) else (some false)) = some r := H
        have A14 := Aside0.mk A140
        clear A140
        by_cases c15 : t412 = 1
        · rw [if_pos c15] at H
          have c15b0 : (t412 == 1) = true := beq_iff_eq.mpr c15
          have c15b1 : (t412 != 1) = false := bne_eq_false_iff_eq.mpr c15
          clear c15
          replace H := Option.bind_eq_some_iff.mp H
          obtain ⟨t419, A160, H⟩ := H
          replace H : ((detect_Detector_Add.f kj1 t413 t414 t415 t416 t417 t418 t419 60 10000 20000).bind fun bt420 => (some (bt420.1 == 2))) = some r := H
          have A16 := Aside0.mk A160
          clear A160
          replace H := Option.bind_eq_some_iff.mp H
          obtain ⟨⟨t420, t421, t422, t423, t424, t425, t426⟩, A170, H⟩ := H
          replace H : (some (t420 == 2)) = some r := H
          have A17 := Aside0.mk A170
          clear A170
          obtain rfl := Option.some.inj H
          go_wp2_with (first | ((with_reducible refine gate_callee (f := 35) rfl ?_); refine goesL_ (some 16) rfl rfl Try.func35 (by kernel_rfl) rfl #[.int .i64 1] rfl (by (try simp only [List.map_toArray, List.map_cons, List.map_nil]); first | done | rfl | (simp only [List.length_drop, List.length_take]; rfl)) ?_; (with_reducible refine (fixed_Of.calls 1 t403 _ A11.out).mono ?_); rintro e w18 ⟨rfl, hb⟩; refine ⟨_, rfl, ?_⟩; have n0_ := Aside0.mk (IsS75.below (by repeat (first | (with_reducible first | exact HI388.out | apply IsS75.alloc | apply IsS75.drewN | apply IsS75.drew | apply IsS75.set_0 | apply IsS75.set_1 | apply IsS75.set_2 | apply IsS75.set_3 | apply IsS75.set_4 | apply IsS75.set_5) | exact HI388.out)) hb); have n1_ := Aside0.mk (below_step (by repeat (first | (with_reducible first | exact HB.out | apply below_alloc | apply pw_below_drewN | apply below_drew1 | refine below_set ?_ (IsS75.ge HI388.out)) | exact HB.out)) hb); clear HI388; clear HB; have HI388 := n0_; have HB := n1_; clear n0_ n1_; (try clear hb); (try clear hb2); (try clear hk); (try clear hi)) | ((with_reducible refine gate_callee (f := 28) rfl ?_); refine goesL_ (some 17) rfl rfl Try.func28 (by kernel_rfl) rfl #[.pointer (some ⟨g388, 0, none⟩), .int .i64 t403, .int .i64 60, .int .i64 10000, .int .i64 0] rfl (by (try simp only [List.map_toArray, List.map_cons, List.map_nil]); first | done | rfl | (simp only [List.length_drop, List.length_take]; rfl)) ?_; (with_reducible refine (detect_Detector_Add.calls kj1 g388 x389000_1 x389001_1 x389002_1 x389003_1 x389004_1 x389005_1 t403 60 10000 0 t404 t405 t406 t407 t408 t409 t410 w _ ?side1 ?side2 A12.out).mono ?_); (case side1 => repeat (first | (with_reducible first | exact HI388.out | apply IsS75.alloc | apply IsS75.drewN | apply IsS75.drew | apply IsS75.set_0 | apply IsS75.set_1 | apply IsS75.set_2 | apply IsS75.set_3 | apply IsS75.set_4 | apply IsS75.set_5) | exact HI388.out)); (case side2 => repeat (first | (with_reducible first | exact HB.out | apply below_alloc | apply pw_below_drewN | apply below_drew1 | refine below_set ?_ (IsS75.ge HI388.out)) | exact HB.out)); rintro e w19 ⟨rfl, hi, hb, hk⟩; refine ⟨_, rfl, ?_⟩; have n0_ := Aside0.mk (hb); have n1_ := Aside0.mk (hi); clear HB; clear HI388; have HB := n0_; have HI388 := n1_; clear n0_ n1_; (try clear hb); (try clear hb2); (try clear hk); (try clear hi)) | ((with_reducible refine gate_callee (f := 35) rfl ?_); refine goesL_ (some 19) rfl rfl Try.func35 (by kernel_rfl) rfl #[.int .i64 1] rfl (by (try simp only [List.map_toArray, List.map_cons, List.map_nil]); first | done | rfl | (simp only [List.length_drop, List.length_take]; rfl)) ?_; (with_reducible refine (fixed_Of.calls 1 t411 _ A13.out).mono ?_); rintro e w20 ⟨rfl, hb⟩; refine ⟨_, rfl, ?_⟩; have n0_ := Aside0.mk (IsS75.below (by repeat (first | (with_reducible first | exact HI388.out | apply IsS75.alloc | apply IsS75.drewN | apply IsS75.drew | apply IsS75.set_0 | apply IsS75.set_1 | apply IsS75.set_2 | apply IsS75.set_3 | apply IsS75.set_4 | apply IsS75.set_5) | exact HI388.out)) hb); have n1_ := Aside0.mk (below_step (by repeat (first | (with_reducible first | exact HB.out | apply below_alloc | apply pw_below_drewN | apply below_drew1 | refine below_set ?_ (IsS75.ge HI388.out)) | exact HB.out)) hb); clear HI388; clear HB; have HI388 := n0_; have HB := n1_; clear n0_ n1_; (try clear hb); (try clear hb2); (try clear hk); (try clear hi)) | ((with_reducible refine gate_callee (f := 28) rfl ?_); refine goesL_ (some 20) rfl rfl Try.func28 (by kernel_rfl) rfl #[.pointer (some ⟨g388, 0, none⟩), .int .i64 t411, .int .i64 60, .int .i64 10000, .int .i64 10000] rfl (by (try simp only [List.map_toArray, List.map_cons, List.map_nil]); first | done | rfl | (simp only [List.length_drop, List.length_take]; rfl)) ?_; (with_reducible refine (detect_Detector_Add.calls kj1 g388 t405 t406 t407 t408 t409 t410 t411 60 10000 10000 t412 t413 t414 t415 t416 t417 t418 w _ ?side1 ?side2 A14.out).mono ?_); (case side1 => repeat (first | (with_reducible first | exact HI388.out | apply IsS75.alloc | apply IsS75.drewN | apply IsS75.drew | apply IsS75.set_0 | apply IsS75.set_1 | apply IsS75.set_2 | apply IsS75.set_3 | apply IsS75.set_4 | apply IsS75.set_5) | exact HI388.out)); (case side2 => repeat (first | (with_reducible first | exact HB.out | apply below_alloc | apply pw_below_drewN | apply below_drew1 | refine below_set ?_ (IsS75.ge HI388.out)) | exact HB.out)); rintro e w21 ⟨rfl, hi, hb, hk⟩; refine ⟨_, rfl, ?_⟩; have n0_ := Aside0.mk (hb); have n1_ := Aside0.mk (hi); clear HB; clear HI388; have HB := n0_; have HI388 := n1_; clear n0_ n1_; (try clear hb); (try clear hb2); (try clear hk); (try clear hi)) | (go_at_call 35; (with_reducible refine (fixed_Of.calls (-1) t419 _ A16.out).mono ?_); rintro e w22 ⟨rfl, hb⟩; have n0_ := Aside0.mk (IsS75.below (by repeat (first | (with_reducible first | exact HI388.out | apply IsS75.alloc | apply IsS75.drewN | apply IsS75.drew | apply IsS75.set_0 | apply IsS75.set_1 | apply IsS75.set_2 | apply IsS75.set_3 | apply IsS75.set_4 | apply IsS75.set_5) | exact HI388.out)) hb); have n1_ := Aside0.mk (below_step (by repeat (first | (with_reducible first | exact HB.out | apply below_alloc | apply pw_below_drewN | apply below_drew1 | refine below_set ?_ (IsS75.ge HI388.out)) | exact HB.out)) hb); clear HI388; clear HB; have HI388 := n0_; have HB := n1_; clear n0_ n1_; (try clear hb); (try clear hb2); (try clear hk); (try clear hi)) | (go_at_call 28; (with_reducible refine (detect_Detector_Add.calls kj1 g388 t413 t414 t415 t416 t417 t418 t419 60 10000 20000 t420 t421 t422 t423 t424 t425 t426 w _ ?side1 ?side2 A17.out).mono ?_); (case side1 => repeat (first | (with_reducible first | exact HI388.out | apply IsS75.alloc | apply IsS75.drewN | apply IsS75.drew | apply IsS75.set_0 | apply IsS75.set_1 | apply IsS75.set_2 | apply IsS75.set_3 | apply IsS75.set_4 | apply IsS75.set_5) | exact HI388.out)); (case side2 => repeat (first | (with_reducible first | exact HB.out | apply below_alloc | apply pw_below_drewN | apply below_drew1 | refine below_set ?_ (IsS75.ge HI388.out)) | exact HB.out)); rintro e w23 ⟨rfl, hi, hb, hk⟩; have n0_ := Aside0.mk (hb); have n1_ := Aside0.mk (hi); clear HB; clear HI388; have HB := n0_; have HI388 := n1_; clear n0_ n1_; (try clear hb); (try clear hb2); (try clear hk); (try clear hi)))
          go_ret
          exact ⟨by first | rfl | (simp [errW_none, errW_some] <;> rfl) | (simp [*, errW_none, errW_some] <;> rfl), by repeat (first | (with_reducible first | exact HB.out | apply below_alloc | apply pw_below_drewN | apply below_drew1 | refine below_set ?_ (IsS75.ge HI388.out)) | exact HB.out)⟩
        · rw [if_neg c15] at H
          have c15b0 : (t412 == 1) = false := beq_eq_false_iff_ne.mpr c15
          have c15b1 : (t412 != 1) = true := bne_iff_ne.mpr c15
          obtain rfl := Option.some.inj H
          go_wp2_with (first | ((with_reducible refine gate_callee (f := 35) rfl ?_); refine goesL_ (some 16) rfl rfl Try.func35 (by kernel_rfl) rfl #[.int .i64 1] rfl (by (try simp only [List.map_toArray, List.map_cons, List.map_nil]); first | done | rfl | (simp only [List.length_drop, List.length_take]; rfl)) ?_; (with_reducible refine (fixed_Of.calls 1 t403 _ A11.out).mono ?_); rintro e w24 ⟨rfl, hb⟩; refine ⟨_, rfl, ?_⟩; have n0_ := Aside0.mk (IsS75.below (by repeat (first | (with_reducible first | exact HI388.out | apply IsS75.alloc | apply IsS75.drewN | apply IsS75.drew | apply IsS75.set_0 | apply IsS75.set_1 | apply IsS75.set_2 | apply IsS75.set_3 | apply IsS75.set_4 | apply IsS75.set_5) | exact HI388.out)) hb); have n1_ := Aside0.mk (below_step (by repeat (first | (with_reducible first | exact HB.out | apply below_alloc | apply pw_below_drewN | apply below_drew1 | refine below_set ?_ (IsS75.ge HI388.out)) | exact HB.out)) hb); clear HI388; clear HB; have HI388 := n0_; have HB := n1_; clear n0_ n1_; (try clear hb); (try clear hb2); (try clear hk); (try clear hi)) | ((with_reducible refine gate_callee (f := 28) rfl ?_); refine goesL_ (some 17) rfl rfl Try.func28 (by kernel_rfl) rfl #[.pointer (some ⟨g388, 0, none⟩), .int .i64 t403, .int .i64 60, .int .i64 10000, .int .i64 0] rfl (by (try simp only [List.map_toArray, List.map_cons, List.map_nil]); first | done | rfl | (simp only [List.length_drop, List.length_take]; rfl)) ?_; (with_reducible refine (detect_Detector_Add.calls kj1 g388 x389000_1 x389001_1 x389002_1 x389003_1 x389004_1 x389005_1 t403 60 10000 0 t404 t405 t406 t407 t408 t409 t410 w _ ?side1 ?side2 A12.out).mono ?_); (case side1 => repeat (first | (with_reducible first | exact HI388.out | apply IsS75.alloc | apply IsS75.drewN | apply IsS75.drew | apply IsS75.set_0 | apply IsS75.set_1 | apply IsS75.set_2 | apply IsS75.set_3 | apply IsS75.set_4 | apply IsS75.set_5) | exact HI388.out)); (case side2 => repeat (first | (with_reducible first | exact HB.out | apply below_alloc | apply pw_below_drewN | apply below_drew1 | refine below_set ?_ (IsS75.ge HI388.out)) | exact HB.out)); rintro e w25 ⟨rfl, hi, hb, hk⟩; refine ⟨_, rfl, ?_⟩; have n0_ := Aside0.mk (hb); have n1_ := Aside0.mk (hi); clear HB; clear HI388; have HB := n0_; have HI388 := n1_; clear n0_ n1_; (try clear hb); (try clear hb2); (try clear hk); (try clear hi)) | ((with_reducible refine gate_callee (f := 35) rfl ?_); refine goesL_ (some 19) rfl rfl Try.func35 (by kernel_rfl) rfl #[.int .i64 1] rfl (by (try simp only [List.map_toArray, List.map_cons, List.map_nil]); first | done | rfl | (simp only [List.length_drop, List.length_take]; rfl)) ?_; (with_reducible refine (fixed_Of.calls 1 t411 _ A13.out).mono ?_); rintro e w26 ⟨rfl, hb⟩; refine ⟨_, rfl, ?_⟩; have n0_ := Aside0.mk (IsS75.below (by repeat (first | (with_reducible first | exact HI388.out | apply IsS75.alloc | apply IsS75.drewN | apply IsS75.drew | apply IsS75.set_0 | apply IsS75.set_1 | apply IsS75.set_2 | apply IsS75.set_3 | apply IsS75.set_4 | apply IsS75.set_5) | exact HI388.out)) hb); have n1_ := Aside0.mk (below_step (by repeat (first | (with_reducible first | exact HB.out | apply below_alloc | apply pw_below_drewN | apply below_drew1 | refine below_set ?_ (IsS75.ge HI388.out)) | exact HB.out)) hb); clear HI388; clear HB; have HI388 := n0_; have HB := n1_; clear n0_ n1_; (try clear hb); (try clear hb2); (try clear hk); (try clear hi)) | ((with_reducible refine gate_callee (f := 28) rfl ?_); refine goesL_ (some 20) rfl rfl Try.func28 (by kernel_rfl) rfl #[.pointer (some ⟨g388, 0, none⟩), .int .i64 t411, .int .i64 60, .int .i64 10000, .int .i64 10000] rfl (by (try simp only [List.map_toArray, List.map_cons, List.map_nil]); first | done | rfl | (simp only [List.length_drop, List.length_take]; rfl)) ?_; (with_reducible refine (detect_Detector_Add.calls kj1 g388 t405 t406 t407 t408 t409 t410 t411 60 10000 10000 t412 t413 t414 t415 t416 t417 t418 w _ ?side1 ?side2 A14.out).mono ?_); (case side1 => repeat (first | (with_reducible first | exact HI388.out | apply IsS75.alloc | apply IsS75.drewN | apply IsS75.drew | apply IsS75.set_0 | apply IsS75.set_1 | apply IsS75.set_2 | apply IsS75.set_3 | apply IsS75.set_4 | apply IsS75.set_5) | exact HI388.out)); (case side2 => repeat (first | (with_reducible first | exact HB.out | apply below_alloc | apply pw_below_drewN | apply below_drew1 | refine below_set ?_ (IsS75.ge HI388.out)) | exact HB.out)); rintro e w27 ⟨rfl, hi, hb, hk⟩; refine ⟨_, rfl, ?_⟩; have n0_ := Aside0.mk (hb); have n1_ := Aside0.mk (hi); clear HB; clear HI388; have HB := n0_; have HI388 := n1_; clear n0_ n1_; (try clear hb); (try clear hb2); (try clear hk); (try clear hi)))
          go_ret
          exact ⟨by first | rfl | (simp [errW_none, errW_some] <;> rfl) | (simp [*, errW_none, errW_some] <;> rfl), by repeat (first | (with_reducible first | exact HB.out | apply below_alloc | apply pw_below_drewN | apply below_drew1 | refine below_set ?_ (IsS75.ge HI388.out)) | exact HB.out)⟩
end Go.Proofs.Ytaelmmbodigheaa.P
end

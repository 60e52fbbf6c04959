-- WRITTEN by a program of this session over the kit's print (hprint.py): functions proved by hand stand among the printed ones
import Derived.Test.YtipdmihaidpnpaaPx0
import Derived.Test.YtipdmihaidpnpaaPx4
namespace Go.Proofs.Ytipdmihaidpnpaa.P
open Go.RowKit Go.Proofs.YtipdmihaidpnpaaW.PrintWords Go.Proofs.YtipdmihaidpnpaaW.PrintLast Go.Proofs.YtipdmihaidpnpaaW.PrintMore
attribute [local go_sem] max2_int min2_int max_two min_two max_three min_three max_four min_four   -- for this text's walks alone
set_option linter.unusedVariables false
set_option linter.unusedSimpArgs false

/-! ### flywheelref02_Did: function 25 -/
mutual
def flywheelref02_Did.j0 : Nat → Int → Int → Int → Int → Bool → Option (Int × Bool)
  | 0, _, _, _, _, _ => none
  | k + 1, x0, x1, x2, x3, x23 => if x23 = true then (some (0, false)) else ((flywheelref02_size.f x0).bind fun t123 => ((flywheelref02_size.f x1).bind fun t124 => ((flywheelref02_times.f t123 t124).bind fun bt125 => ((flywheelref02_size.f x2).bind fun t127 => ((flywheelref02_part.f k bt125.1 bt125.2 t127).bind fun bt128 => (if x0 < 0 then (if x1 < 0 then (if x2 < 0 then (flywheelref02_Did.j1 k x2 x3 true bt128.1 bt128.2.1 bt128.2.2) else (flywheelref02_Did.j1 k x2 x3 false bt128.1 bt128.2.1 bt128.2.2)) else (if x2 < 0 then (flywheelref02_Did.j1 k x2 x3 false bt128.1 bt128.2.1 bt128.2.2) else (flywheelref02_Did.j1 k x2 x3 true bt128.1 bt128.2.1 bt128.2.2))) else (if x1 < 0 then (if x2 < 0 then (flywheelref02_Did.j1 k x2 x3 false bt128.1 bt128.2.1 bt128.2.2) else (flywheelref02_Did.j1 k x2 x3 true bt128.1 bt128.2.1 bt128.2.2)) else (if x2 < 0 then (flywheelref02_Did.j1 k x2 x3 true bt128.1 bt128.2.1 bt128.2.2) else (flywheelref02_Did.j1 k x2 x3 false bt128.1 bt128.2.1 bt128.2.2)))))))))
def flywheelref02_Did.j1 : Nat → Int → Int → Bool → Int → Bool → Int → Option (Int × Bool)
  | 0, _, _, _, _, _, _ => none
  | k + 1, x2, x3, x10, x132000, x132001, x132002 => if x132002 = 0 then (flywheelref02_Did.j2 k x10 false x132000 x132001 x132002) else (if x3 = 1 then (flywheelref02_Did.j2 k x10 x10 x132000 x132001 x132002) else (if x3 = 3 then (flywheelref02_Did.j2 k x10 (!x10) x132000 x132001 x132002) else (if x10 = true then ((flywheelref02_size.f x2).bind fun t132 => (flywheelref02_Did.j2 k x10 (decide (x132002 > (IntKind.u64.wrap (t132 - x132002)))) x132000 x132001 x132002)) else ((flywheelref02_size.f x2).bind fun t133 => (flywheelref02_Did.j2 k x10 (decide (x132002 ≥ (IntKind.u64.wrap (t133 - x132002)))) x132000 x132001 x132002)))))
def flywheelref02_Did.j2 : Nat → Bool → Bool → Int → Bool → Int → Option (Int × Bool)
  | 0, _, _, _, _, _ => none
  | k + 1, x10, x11, x132000, x132001, x132002 => if x11 = true then (if x132001 = true then (flywheelref02_Did.j3 k x10 (IntKind.u64.wrap (x132000 + 1)) true) else (flywheelref02_Did.j3 k x10 (IntKind.u64.wrap (x132000 + 1)) ((IntKind.u64.wrap (x132000 + 1)) == 0))) else (flywheelref02_Did.j3 k x10 x132000 x132001)
def flywheelref02_Did.j3 : Nat → Bool → Int → Bool → Option (Int × Bool)
  | 0, _, _, _ => none
  | k + 1, x10, x12, x13 => if x10 = true then (if x13 = true then (flywheelref02_Did.j4 k x12 true) else (flywheelref02_Did.j4 k x12 (decide (x12 > 9223372036854775808)))) else (if x13 = true then (some (9223372036854775807, false)) else (if x12 > 9223372036854775807 then (some (9223372036854775807, false)) else (some (wrap64 (x12), true))))
def flywheelref02_Did.j4 : Nat → Int → Bool → Option (Int × Bool)
  | 0, _, _ => none
  | k + 1, x12, x89 => if x89 = true then (some ((-9223372036854775808), false)) else (some (wrap64 (-(wrap64 (x12))), true))
end
def flywheelref02_Did.f (k : Nat) (a0 : Int) (a1 : Int) (a2 : Int) (a3 : Int) : Option (Int × Bool) := if a2 = 0 then (flywheelref02_Did.j0 k a0 a1 a2 a3 true) else (if a3 < 1 then (flywheelref02_Did.j0 k a0 a1 a2 a3 true) else (flywheelref02_Did.j0 k a0 a1 a2 a3 (decide (a3 > 3))))
theorem flywheelref02_Did.mono_l : ∀ k, (∀ y0 y1 y2 y3 y4, LeO (flywheelref02_Did.j0 k y0 y1 y2 y3 y4) (flywheelref02_Did.j0 (k + 1) y0 y1 y2 y3 y4)) ∧ (∀ y0 y1 y2 y3 y4 y5, LeO (flywheelref02_Did.j1 k y0 y1 y2 y3 y4 y5) (flywheelref02_Did.j1 (k + 1) y0 y1 y2 y3 y4 y5)) ∧ (∀ y0 y1 y2 y3 y4, LeO (flywheelref02_Did.j2 k y0 y1 y2 y3 y4) (flywheelref02_Did.j2 (k + 1) y0 y1 y2 y3 y4)) ∧ (∀ y0 y1 y2, LeO (flywheelref02_Did.j3 k y0 y1 y2) (flywheelref02_Did.j3 (k + 1) y0 y1 y2)) ∧ (∀ y0 y1, LeO (flywheelref02_Did.j4 k y0 y1) (flywheelref02_Did.j4 (k + 1) y0 y1))
  | 0 => ⟨fun _ _ _ _ _ r h => by simp [flywheelref02_Did.j0] at h, fun _ _ _ _ _ _ r h => by simp [flywheelref02_Did.j1] at h, fun _ _ _ _ _ r h => by simp [flywheelref02_Did.j2] at h, fun _ _ _ r h => by simp [flywheelref02_Did.j3] at h, fun _ _ r h => by simp [flywheelref02_Did.j4] at h⟩
  | k + 1 => by
    obtain ⟨ih0, ih1, ih2, ih3, ih4⟩ := flywheelref02_Did.mono_l k
    refine ⟨?_, ?_, ?_, ?_, ?_⟩
    · intro y0 y1 y2 y3 y4
      unfold flywheelref02_Did.j0
      repeat' first
      | (with_reducible exact ih0 _ _ _ _ _)
      | (with_reducible exact ih1 _ _ _ _ _ _)
      | (with_reducible exact ih2 _ _ _ _ _)
      | (with_reducible exact ih3 _ _ _)
      | (with_reducible exact ih4 _ _)
      | (with_reducible exact flywheelref02_part.mono _ _ _ _)
      | (with_reducible exact LeO.refl _)
      | (with_reducible exact LeO.none _)
      | (with_reducible refine LeO.ite ?_ ?_)
      | (with_reducible refine LeO.bind ?_ (fun _ => ?_))
      | exact ih0 _ _ _ _ _
      | exact ih1 _ _ _ _ _ _
      | exact ih2 _ _ _ _ _
      | exact ih3 _ _ _
      | exact ih4 _ _
      | exact flywheelref02_part.mono _ _ _ _
      | exact LeO.none _
      | refine LeO.ite ?_ ?_
      | refine LeO.bind ?_ (fun _ => ?_)
    · intro y0 y1 y2 y3 y4 y5
      unfold flywheelref02_Did.j1
      repeat' first
      | (with_reducible exact ih0 _ _ _ _ _)
      | (with_reducible exact ih1 _ _ _ _ _ _)
      | (with_reducible exact ih2 _ _ _ _ _)
      | (with_reducible exact ih3 _ _ _)
      | (with_reducible exact ih4 _ _)
      | (with_reducible exact flywheelref02_part.mono _ _ _ _)
      | (with_reducible exact LeO.refl _)
      | (with_reducible exact LeO.none _)
      | (with_reducible refine LeO.ite ?_ ?_)
      | (with_reducible refine LeO.bind ?_ (fun _ => ?_))
      | exact ih0 _ _ _ _ _
      | exact ih1 _ _ _ _ _ _
      | exact ih2 _ _ _ _ _
      | exact ih3 _ _ _
      | exact ih4 _ _
      | exact flywheelref02_part.mono _ _ _ _
      | exact LeO.none _
      | refine LeO.ite ?_ ?_
      | refine LeO.bind ?_ (fun _ => ?_)
    · intro y0 y1 y2 y3 y4
      unfold flywheelref02_Did.j2
      repeat' first
      | (with_reducible exact ih0 _ _ _ _ _)
      | (with_reducible exact ih1 _ _ _ _ _ _)
      | (with_reducible exact ih2 _ _ _ _ _)
      | (with_reducible exact ih3 _ _ _)
      | (with_reducible exact ih4 _ _)
      | (with_reducible exact flywheelref02_part.mono _ _ _ _)
      | (with_reducible exact LeO.refl _)
      | (with_reducible exact LeO.none _)
      | (with_reducible refine LeO.ite ?_ ?_)
      | (with_reducible refine LeO.bind ?_ (fun _ => ?_))
      | exact ih0 _ _ _ _ _
      | exact ih1 _ _ _ _ _ _
      | exact ih2 _ _ _ _ _
      | exact ih3 _ _ _
      | exact ih4 _ _
      | exact flywheelref02_part.mono _ _ _ _
      | exact LeO.none _
      | refine LeO.ite ?_ ?_
      | refine LeO.bind ?_ (fun _ => ?_)
    · intro y0 y1 y2
      unfold flywheelref02_Did.j3
      repeat' first
      | (with_reducible exact ih0 _ _ _ _ _)
      | (with_reducible exact ih1 _ _ _ _ _ _)
      | (with_reducible exact ih2 _ _ _ _ _)
      | (with_reducible exact ih3 _ _ _)
      | (with_reducible exact ih4 _ _)
      | (with_reducible exact flywheelref02_part.mono _ _ _ _)
      | (with_reducible exact LeO.refl _)
      | (with_reducible exact LeO.none _)
      | (with_reducible refine LeO.ite ?_ ?_)
      | (with_reducible refine LeO.bind ?_ (fun _ => ?_))
      | exact ih0 _ _ _ _ _
      | exact ih1 _ _ _ _ _ _
      | exact ih2 _ _ _ _ _
      | exact ih3 _ _ _
      | exact ih4 _ _
      | exact flywheelref02_part.mono _ _ _ _
      | exact LeO.none _
      | refine LeO.ite ?_ ?_
      | refine LeO.bind ?_ (fun _ => ?_)
    · intro y0 y1
      unfold flywheelref02_Did.j4
      repeat' first
      | (with_reducible exact ih0 _ _ _ _ _)
      | (with_reducible exact ih1 _ _ _ _ _ _)
      | (with_reducible exact ih2 _ _ _ _ _)
      | (with_reducible exact ih3 _ _ _)
      | (with_reducible exact ih4 _ _)
      | (with_reducible exact flywheelref02_part.mono _ _ _ _)
      | (with_reducible exact LeO.refl _)
      | (with_reducible exact LeO.none _)
      | (with_reducible refine LeO.ite ?_ ?_)
      | (with_reducible refine LeO.bind ?_ (fun _ => ?_))
      | exact ih0 _ _ _ _ _
      | exact ih1 _ _ _ _ _ _
      | exact ih2 _ _ _ _ _
      | exact ih3 _ _ _
      | exact ih4 _ _
      | exact flywheelref02_part.mono _ _ _ _
      | exact LeO.none _
      | refine LeO.ite ?_ ?_
      | refine LeO.bind ?_ (fun _ => ?_)
theorem flywheelref02_Did.mono : ∀ a0 a1 a2 a3 k, LeO (flywheelref02_Did.f k a0 a1 a2 a3) (flywheelref02_Did.f (k + 1) a0 a1 a2 a3) := by
  intro a0 a1 a2 a3 k
  obtain ⟨ih0, ih1, ih2, ih3, ih4⟩ := flywheelref02_Did.mono_l k
  unfold flywheelref02_Did.f
  repeat' first
      | (with_reducible exact ih0 _ _ _ _ _)
      | (with_reducible exact ih1 _ _ _ _ _ _)
      | (with_reducible exact ih2 _ _ _ _ _)
      | (with_reducible exact ih3 _ _ _)
      | (with_reducible exact ih4 _ _)
      | (with_reducible exact flywheelref02_part.mono _ _ _ _)
      | (with_reducible exact LeO.refl _)
      | (with_reducible exact LeO.none _)
      | (with_reducible refine LeO.ite ?_ ?_)
      | (with_reducible refine LeO.bind ?_ (fun _ => ?_))
      | exact ih0 _ _ _ _ _
      | exact ih1 _ _ _ _ _ _
      | exact ih2 _ _ _ _ _
      | exact ih3 _ _ _
      | exact ih4 _ _
      | exact flywheelref02_part.mono _ _ _ _
      | exact LeO.none _
      | refine LeO.ite ?_ ?_
      | refine LeO.bind ?_ (fun _ => ?_)
set_option maxHeartbeats 8000000 in
set_option maxRecDepth 100000 in
theorem flywheelref02_Did.calls (k : Nat) (a0 : Int) (a1 : Int) (a2 : Int) (a3 : Int) (r1 : Int) (r2 : Bool) (w : World) (h : flywheelref02_Did.f k a0 a1 a2 a3 = some (r1, r2)) :
    Calls Try.prog 25 #[.int .i64 a0, .int .i64 a1, .int .i64 a2, .int .i64 a3] w fun e w' => e = .returned (.agg #[.int .i64 r1, .bool r2]) ∧ Below w.heap.size w w' := by
  have hu37 := Try.underlying37
  have hu53 := Try.underlying53
  have HB := Aside0.mk (Below.refl w.heap.size w)
  have H : (if a2 = 0 then (flywheelref02_Did.j0 k a0 a1 a2 a3 true) else (if a3 < 1 then (flywheelref02_Did.j0 k a0 a1 a2 a3 true) else (flywheelref02_Did.j0 k a0 a1 a2 a3 (decide (a3 > 3))))) = some (r1, r2) := h
  clear h
  have HC5 := Aside0.mk H
  clear H
  go_enter Try.func25, Try.ntmps25
  go_upto_region 1 with (first | ((with_reducible refine gate_dst (N := 8) rfl ?_); refine box_event ?hg (N := 8) ?hd (cs := #[.int .i64 0, .bool false]) (t := 37) ?hr ?_; (case hd => rfl); (case hg => rfl); (case hr => first | (go_simp; done) | (go_simp; rfl)); intro gb122 hg w6 hbox hb; have n0_ := Aside0.mk (below_step (by repeat (first | (with_reducible first | exact HB.out | apply below_alloc | apply pw_below_drewN | apply below_drew1) | exact HB.out)) hb); have n1_ := Aside0.mk (hbox); have n2_ := Aside0.mk ((by rw [hg]; exact (below_size (by repeat (first | (with_reducible first | exact HB.out | apply below_alloc | apply pw_below_drewN | apply below_drew1) | exact HB.out))) : w.heap.size ≤ gb122)); have n3_ := Aside0.mk ((by rw [hg]; exact (below_size (by repeat (first | (with_reducible first | exact HB.out | apply below_alloc | apply pw_below_drewN | apply below_drew1) | exact HB.out))) : w.heap.size ≤ gb122)); clear HB; have HB := n0_; have BK122 := n1_; have GW122 := n2_; have GE122 := n3_; clear n0_ n1_ n2_ n3_; clear hb hbox hg))
  repeat (go_quiet (first | ((with_reducible refine gate_dst (N := 8) rfl ?_); refine box_event ?hg (N := 8) ?hd (cs := #[.int .i64 0, .bool false]) (t := 37) ?hr ?_; (case hd => rfl); (case hg => rfl); (case hr => first | (go_simp; done) | (go_simp; rfl)); intro gb122 hg w6 hbox hb; have n0_ := Aside0.mk (below_step (by repeat (first | (with_reducible first | exact HB.out | apply below_alloc | apply pw_below_drewN | apply below_drew1) | exact HB.out)) hb); have n1_ := Aside0.mk (hbox); have n2_ := Aside0.mk ((by rw [hg]; exact (below_size (by repeat (first | (with_reducible first | exact HB.out | apply below_alloc | apply pw_below_drewN | apply below_drew1) | exact HB.out))) : w.heap.size ≤ gb122)); have n3_ := Aside0.mk ((by rw [hg]; exact (below_size (by repeat (first | (with_reducible first | exact HB.out | apply below_alloc | apply pw_below_drewN | apply below_drew1) | exact HB.out))) : w.heap.size ≤ gb122)); clear HB; have HB := n0_; have BK122 := n1_; have GW122 := n2_; have GE122 := n3_; clear n0_ n1_ n2_ n3_; clear hb hbox hg)); go_upto_region 1 with (first | ((with_reducible refine gate_dst (N := 8) rfl ?_); refine box_event ?hg (N := 8) ?hd (cs := #[.int .i64 0, .bool false]) (t := 37) ?hr ?_; (case hd => rfl); (case hg => rfl); (case hr => first | (go_simp; done) | (go_simp; rfl)); intro gb122 hg w6 hbox hb; have n0_ := Aside0.mk (below_step (by repeat (first | (with_reducible first | exact HB.out | apply below_alloc | apply pw_below_drewN | apply below_drew1) | exact HB.out)) hb); have n1_ := Aside0.mk (hbox); have n2_ := Aside0.mk ((by rw [hg]; exact (below_size (by repeat (first | (with_reducible first | exact HB.out | apply below_alloc | apply pw_below_drewN | apply below_drew1) | exact HB.out))) : w.heap.size ≤ gb122)); have n3_ := Aside0.mk ((by rw [hg]; exact (below_size (by repeat (first | (with_reducible first | exact HB.out | apply below_alloc | apply pw_below_drewN | apply below_drew1) | exact HB.out))) : w.heap.size ≤ gb122)); clear HB; have HB := n0_; have BK122 := n1_; have GW122 := n2_; have GE122 := n3_; clear n0_ n1_ n2_ n3_; clear hb hbox hg)))
  (try simp only [Act.put, List.setIfInBounds_toArray, List.set_cons_zero, List.set_cons_succ])
  go_cut [23] (fun v23 wc => ∃ (kq : Nat) (x23_4 : Bool), v23 = .bool x23_4 ∧ Aside0 (flywheelref02_Did.j0 kq a0 a1 a2 a3 x23_4 = some (r1, r2)) ∧ Aside0 (kq ≤ k) ∧ Aside0 (wc.heap[gb122]? = some (.cells #[.int .i64 0, .bool false] 37 (0, 0))) ∧ Aside0 (Below w.heap.size w wc))
  case first =>
    have H := HC5.out
    clear HC5
    by_cases c7 : a2 = 0
    · rw [if_pos c7] at H
      have c7b0 : (a2 == 0) = true := beq_iff_eq.mpr c7
      have c7b1 : (a2 != 0) = false := bne_eq_false_iff_eq.mpr c7
      clear c7
      (first | rw [c7b0] | (simp only [i64_w, i32_w]; rw [c7b0]) | skip)
      have H' := Aside0.mk H
      clear H
      go_wp2
      repeat (go_quiet (fail); try go_wp2)
      go_meet
      case rel => exact ⟨_, (true), (by first | rfl | (simp; done) | (simp [*]; done)), H', ⟨by first | omega | exact Nat.le_refl _⟩, ⟨by (with_reducible repeat (first | refine blk_drewN ?_ _ | refine blk_drew ?_ | refine blk_alloc ?_ _)); exact BK122.out⟩, ⟨by repeat (first | (with_reducible first | exact HB.out | apply below_alloc | apply pw_below_drewN | apply below_drew1 | refine below_set ?_ GE122.out) | exact HB.out)⟩⟩
    · rw [if_neg c7] at H
      have c7b0 : (a2 == 0) = false := beq_eq_false_iff_ne.mpr c7
      have c7b1 : (a2 != 0) = true := bne_iff_ne.mpr c7
      (first | rw [c7b0] | (simp only [i64_w, i32_w]; rw [c7b0]) | skip)
      by_cases c8 : a3 < 1
      · rw [if_pos c8] at H
        have c8b0 : decide (a3 < 1) = true := decide_eq_true c8
        clear c8
        have H' := Aside0.mk H
        clear H
        go_wp2
        repeat (go_quiet (fail); try go_wp2)
        go_meet
        case rel => exact ⟨_, (true), (by first | rfl | (simp; done) | (simp [*]; done)), H', ⟨by first | omega | exact Nat.le_refl _⟩, ⟨by (with_reducible repeat (first | refine blk_drewN ?_ _ | refine blk_drew ?_ | refine blk_alloc ?_ _)); exact BK122.out⟩, ⟨by repeat (first | (with_reducible first | exact HB.out | apply below_alloc | apply pw_below_drewN | apply below_drew1 | refine below_set ?_ GE122.out) | exact HB.out)⟩⟩
      · rw [if_neg c8] at H
        have c8b0 : decide (a3 < 1) = false := decide_eq_false c8
        clear c8
        have H' := Aside0.mk H
        clear H
        go_wp2
        repeat (go_quiet (fail); try go_wp2)
        go_meet
        case rel => exact ⟨_, (decide (a3 > 3)), (by first | rfl | (simp; done) | (simp [*]; done)), H', ⟨by first | omega | exact Nat.le_refl _⟩, ⟨by (with_reducible repeat (first | refine blk_drewN ?_ _ | refine blk_drew ?_ | refine blk_alloc ?_ _)); exact BK122.out⟩, ⟨by repeat (first | (with_reducible first | exact HB.out | apply below_alloc | apply pw_below_drewN | apply below_drew1 | refine below_set ?_ GE122.out) | exact HB.out)⟩⟩
  case rest =>
    clear HC5
    try clear c2
    try clear p2
    try clear c7
    try clear c7b0
    try clear c7b1
    try clear c8
    try clear c8b0
    obtain ⟨kq, x23_4, rfl, HA, HJ4, BK122, HB⟩ := hcut
    cases kq with
    | zero => exact absurd HA.out (by simp [flywheelref02_Did.j0])
    | succ kj4 =>
      have H := HA.out
      clear HA
      simp only [flywheelref02_Did.j0] at H
      by_cases c9 : x23_4 = true
      · subst c9
        have H1 : (some (0, false)) = some (r1, r2) := by rw [if_pos rfl] at H; exact H
        clear H
        have H := H1
        clear H1
        simp only [Option.some.injEq, Prod.mk.injEq] at H
        obtain ⟨rfl, rfl⟩ := H
        have hcz10_0 : wc.cell? ⟨gb122, 0, none⟩ = some (.int .i64 0) := (blk_cell BK122.out 0).trans rfl
        have hcz10_1 : wc.cell? ⟨gb122, 1, none⟩ = some (.bool false) := (blk_cell BK122.out 1).trans rfl
        have hfz10_0 := blk_frozen BK122.out 0
        have hfz10_1 := blk_frozen BK122.out 1
        go_wp2
        repeat (go_quiet (fail); try go_wp2)
        refine bodyPost_ret (results_cell_row rfl _ _ gb122 37 #[.int .i64 0, .bool false] (0, 0) _ rfl (by (with_reducible repeat (first | refine blk_drewN ?_ _ | refine blk_drew ?_ | refine blk_alloc ?_ _)); refine blk_put (cs := #[.int .i64 0, .bool false]) ?_ 1 _ rfl; (with_reducible repeat (first | refine blk_drewN ?_ _ | refine blk_drew ?_ | refine blk_alloc ?_ _)); refine blk_put (cs := #[.int .i64 0, .bool false]) ?_ 0 _ rfl; (with_reducible repeat (first | refine blk_drewN ?_ _ | refine blk_drew ?_ | refine blk_alloc ?_ _)); exact BK122.out) Try.underlying37 rfl (by kernel_rfl)) rfl ?_
        exact ⟨by first | rfl | (simp [errW_none, errW_some] <;> rfl) | (simp [*, errW_none, errW_some] <;> rfl), by repeat (first | (with_reducible first | exact HB.out | apply below_alloc | apply pw_below_drewN | apply below_drew1 | refine below_set ?_ GE122.out) | exact HB.out)⟩
      · replace c9 := Bool.eq_false_iff.mpr c9
        subst c9
        have H1 : ((flywheelref02_size.f a0).bind fun t123 => ((flywheelref02_size.f a1).bind fun t124 => ((flywheelref02_times.f t123 t124).bind fun bt125 => ((flywheelref02_size.f a2).bind fun t127 => ((flywheelref02_part.f kj4 bt125.1 bt125.2 t127).bind fun bt128 => (if a0 < 0 then (if a1 < 0 then (if a2 < 0 then (flywheelref02_Did.j1 kj4 a2 a3 true bt128.1 bt128.2.1 bt128.2.2) else (flywheelref02_Did.j1 kj4 a2 a3 false bt128.1 bt128.2.1 bt128.2.2)) else (if a2 < 0 then (flywheelref02_Did.j1 kj4 a2 a3 false bt128.1 bt128.2.1 bt128.2.2) else (flywheelref02_Did.j1 kj4 a2 a3 true bt128.1 bt128.2.1 bt128.2.2))) else (if a1 < 0 then (if a2 < 0 then (flywheelref02_Did.j1 kj4 a2 a3 false bt128.1 bt128.2.1 bt128.2.2) else (flywheelref02_Did.j1 kj4 a2 a3 true bt128.1 bt128.2.1 bt128.2.2)) else (if a2 < 0 then (flywheelref02_Did.j1 kj4 a2 a3 true bt128.1 bt128.2.1 bt128.2.2) else (flywheelref02_Did.j1 kj4 a2 a3 false bt128.1 bt128.2.1 bt128.2.2))))))))) = some (r1, r2) := by rw [if_neg (show ¬ (false = true) by decide)] at H; exact H
        clear H
        have H := H1
        clear H1
        replace H := Option.bind_eq_some_iff.mp H
        obtain ⟨t123, A110, H⟩ := H
        replace H : ((flywheelref02_size.f a1).bind fun t124 => ((flywheelref02_times.f t123 t124).bind fun bt125 => ((flywheelref02_size.f a2).bind fun t127 => ((flywheelref02_part.f kj4 bt125.1 bt125.2 t127).bind fun bt128 => (if a0 < 0 then (if a1 < 0 then (if a2 < 0 then (flywheelref02_Did.j1 kj4 a2 a3 true bt128.1 bt128.2.1 bt128.2.2) else (flywheelref02_Did.j1 kj4 a2 a3 false bt128.1 bt128.2.1 bt128.2.2)) else (if a2 < 0 then (flywheelref02_Did.j1 kj4 a2 a3 false bt128.1 bt128.2.1 bt128.2.2) else (flywheelref02_Did.j1 kj4 a2 a3 true bt128.1 bt128.2.1 bt128.2.2))) else (if a1 < 0 then (if a2 < 0 then (flywheelref02_Did.j1 kj4 a2 a3 false bt128.1 bt128.2.1 bt128.2.2) else (flywheelref02_Did.j1 kj4 a2 a3 true bt128.1 bt128.2.1 bt128.2.2)) else (if a2 < 0 then (flywheelref02_Did.j1 kj4 a2 a3 true bt128.1 bt128.2.1 bt128.2.2) else (flywheelref02_Did.j1 kj4 a2 a3 false bt128.1 bt128.2.1 bt128.2.2)))))))) = some (r1, r2) := H
        have A11 := Aside0.mk A110
        clear A110
        replace H := Option.bind_eq_some_iff.mp H
        obtain ⟨t124, A120, H⟩ := H
        replace H : ((flywheelref02_times.f t123 t124).bind fun bt125 => ((flywheelref02_size.f a2).bind fun t127 => ((flywheelref02_part.f kj4 bt125.1 bt125.2 t127).bind fun bt128 => (if a0 < 0 then (if a1 < 0 then (if a2 < 0 then (flywheelref02_Did.j1 kj4 a2 a3 true bt128.1 bt128.2.1 bt128.2.2) else (flywheelref02_Did.j1 kj4 a2 a3 false bt128.1 bt128.2.1 bt128.2.2)) else (if a2 < 0 then (flywheelref02_Did.j1 kj4 a2 a3 false bt128.1 bt128.2.1 bt128.2.2) else (flywheelref02_Did.j1 kj4 a2 a3 true bt128.1 bt128.2.1 bt128.2.2))) else (if a1 < 0 then (if a2 < 0 then (flywheelref02_Did.j1 kj4 a2 a3 false bt128.1 bt128.2.1 bt128.2.2) else (flywheelref02_Did.j1 kj4 a2 a3 true bt128.1 bt128.2.1 bt128.2.2)) else (if a2 < 0 then (flywheelref02_Did.j1 kj4 a2 a3 true bt128.1 bt128.2.1 bt128.2.2) else (flywheelref02_Did.j1 kj4 a2 a3 false bt128.1 bt128.2.1 bt128.2.2))))))) = some (r1, r2) := H
        have A12 := Aside0.mk A120
        clear A120
        replace H := Option.bind_eq_some_iff.mp H
        obtain ⟨⟨t125, t126⟩, A130, H⟩ := H
        replace H : ((flywheelref02_size.f a2).bind fun t127 => ((flywheelref02_part.f kj4 t125 t126 t127).bind fun bt128 => (if a0 < 0 then (if a1 < 0 then (if a2 < 0 then (flywheelref02_Did.j1 kj4 a2 a3 true bt128.1 bt128.2.1 bt128.2.2) else (flywheelref02_Did.j1 kj4 a2 a3 false bt128.1 bt128.2.1 bt128.2.2)) else (if a2 < 0 then (flywheelref02_Did.j1 kj4 a2 a3 false bt128.1 bt128.2.1 bt128.2.2) else (flywheelref02_Did.j1 kj4 a2 a3 true bt128.1 bt128.2.1 bt128.2.2))) else (if a1 < 0 then (if a2 < 0 then (flywheelref02_Did.j1 kj4 a2 a3 false bt128.1 bt128.2.1 bt128.2.2) else (flywheelref02_Did.j1 kj4 a2 a3 true bt128.1 bt128.2.1 bt128.2.2)) else (if a2 < 0 then (flywheelref02_Did.j1 kj4 a2 a3 true bt128.1 bt128.2.1 bt128.2.2) else (flywheelref02_Did.j1 kj4 a2 a3 false bt128.1 bt128.2.1 bt128.2.2)))))) = some (r1, r2) := H
        have A13 := Aside0.mk A130
        clear A130
        replace H := Option.bind_eq_some_iff.mp H
        obtain ⟨t127, A140, H⟩ := H
        replace H : ((flywheelref02_part.f kj4 t125 t126 t127).bind fun bt128 => (if a0 < 0 then (if a1 < 0 then (if a2 < 0 then (flywheelref02_Did.j1 kj4 a2 a3 true bt128.1 bt128.2.1 bt128.2.2) else (flywheelref02_Did.j1 kj4 a2 a3 false bt128.1 bt128.2.1 bt128.2.2)) else (if a2 < 0 then (flywheelref02_Did.j1 kj4 a2 a3 false bt128.1 bt128.2.1 bt128.2.2) else (flywheelref02_Did.j1 kj4 a2 a3 true bt128.1 bt128.2.1 bt128.2.2))) else (if a1 < 0 then (if a2 < 0 then (flywheelref02_Did.j1 kj4 a2 a3 false bt128.1 bt128.2.1 bt128.2.2) else (flywheelref02_Did.j1 kj4 a2 a3 true bt128.1 bt128.2.1 bt128.2.2)) else (if a2 < 0 then (flywheelref02_Did.j1 kj4 a2 a3 true bt128.1 bt128.2.1 bt128.2.2) else (flywheelref02_Did.j1 kj4 a2 a3 false bt128.1 bt128.2.1 bt128.2.2))))) = some (r1, r2) := H
        have A14 := Aside0.mk A140
        clear A140
        replace H := Option.bind_eq_some_iff.mp H
        obtain ⟨⟨t128, t129, t130⟩, A150, H⟩ := H
        replace H : (if a0 < 0 then (if a1 < 0 then (if a2 < 0 then (flywheelref02_Did.j1 kj4 a2 a3 true t128 t129 t130) else (flywheelref02_Did.j1 kj4 a2 a3 false t128 t129 t130)) else (if a2 < 0 then (flywheelref02_Did.j1 kj4 a2 a3 false t128 t129 t130) else (flywheelref02_Did.j1 kj4 a2 a3 true t128 t129 t130))) else (if a1 < 0 then (if a2 < 0 then (flywheelref02_Did.j1 kj4 a2 a3 false t128 t129 t130) else (flywheelref02_Did.j1 kj4 a2 a3 true t128 t129 t130)) else (if a2 < 0 then (flywheelref02_Did.j1 kj4 a2 a3 true t128 t129 t130) else (flywheelref02_Did.j1 kj4 a2 a3 false t128 t129 t130)))) = some (r1, r2) := H
        have A15 := Aside0.mk A150
        clear A150
        have HC16 := Aside0.mk H
        clear H
        go_upto_region 4 with (first | (go_at_call 38; (with_reducible refine (flywheelref02_size.calls a0 t123 _ A11.out).mono ?_); rintro e w' ⟨rfl, ⟨nd, rfl⟩⟩; (try first | exact ⟨rfl, _, World.drewN_drewN _ _ _⟩ | exact ⟨rfl, _, Eq.trans (World.drewN_drewN _ _ _) (congrArg (World.drewN _) (Nat.add_assoc _ _ _))⟩)) | (go_at_call 38; (with_reducible refine (flywheelref02_size.calls a1 t124 _ A12.out).mono ?_); rintro e w' ⟨rfl, ⟨nd, rfl⟩⟩; (try first | exact ⟨rfl, _, World.drewN_drewN _ _ _⟩ | exact ⟨rfl, _, Eq.trans (World.drewN_drewN _ _ _) (congrArg (World.drewN _) (Nat.add_assoc _ _ _))⟩)) | (go_at_call 37; (with_reducible refine (flywheelref02_times.calls t123 t124 t125 t126 _ A13.out).mono ?_); rintro e w17 ⟨rfl, hb⟩; have n0_ := Aside0.mk (blk_below (g := gb122) (o := .cells #[.int .i64 0, .bool false] 37 (0, 0)) (by (with_reducible repeat (first | refine blk_drewN ?_ _ | refine blk_drew ?_ | refine blk_alloc ?_ _)); exact BK122.out) hb); have n1_ := Aside0.mk (below_step (by repeat (first | (with_reducible first | exact HB.out | apply below_alloc | apply pw_below_drewN | apply below_drew1 | refine below_set ?_ GE122.out) | exact HB.out)) hb); clear BK122; clear HB; have BK122 := n0_; have HB := n1_; clear n0_ n1_; (try clear hb); (try clear hb2); (try clear hk); (try clear hi)) | (go_at_call 38; (with_reducible refine (flywheelref02_size.calls a2 t127 _ A14.out).mono ?_); rintro e w' ⟨rfl, ⟨nd, rfl⟩⟩; (try first | exact ⟨rfl, _, World.drewN_drewN _ _ _⟩ | exact ⟨rfl, _, Eq.trans (World.drewN_drewN _ _ _) (congrArg (World.drewN _) (Nat.add_assoc _ _ _))⟩)) | (go_at_call 36; (with_reducible refine (flywheelref02_part.calls kj4 t125 t126 t127 t128 t129 t130 _ A15.out).mono ?_); rintro e w18 ⟨rfl, hb⟩; have n0_ := Aside0.mk (blk_below (g := gb122) (o := .cells #[.int .i64 0, .bool false] 37 (0, 0)) (by (with_reducible repeat (first | refine blk_drewN ?_ _ | refine blk_drew ?_ | refine blk_alloc ?_ _)); exact BK122.out) hb); have n1_ := Aside0.mk (below_step (by repeat (first | (with_reducible first | exact HB.out | apply below_alloc | apply pw_below_drewN | apply below_drew1 | refine below_set ?_ GE122.out) | exact HB.out)) hb); clear BK122; clear HB; have BK122 := n0_; have HB := n1_; clear n0_ n1_; (try clear hb); (try clear hb2); (try clear hk); (try clear hi)) | ((with_reducible refine gate_dst (N := 9) rfl ?_); refine box_event ?hg (N := 9) ?hd (cs := #[.int .u64 0, .bool false, .int .u64 0]) (t := 53) ?hr ?_; (case hd => rfl); (case hg => rfl); (case hr => first | (go_simp; done) | (go_simp; rfl)); intro gb131 hg w19 hbox hb; have n0_ := Aside0.mk (blk_below (g := gb122) (o := .cells #[.int .i64 0, .bool false] 37 (0, 0)) (by (with_reducible repeat (first | refine blk_drewN ?_ _ | refine blk_drew ?_ | refine blk_alloc ?_ _)); exact BK122.out) hb); have n1_ := Aside0.mk (below_step (by repeat (first | (with_reducible first | exact HB.out | apply below_alloc | apply pw_below_drewN | apply below_drew1 | refine below_set ?_ GE122.out) | exact HB.out)) hb); have n2_ := Aside0.mk (hbox); have n3_ := Aside0.mk ((by rw [hg]; exact (below_size (by repeat (first | (with_reducible first | exact HB.out | apply below_alloc | apply pw_below_drewN | apply below_drew1 | refine below_set ?_ GE122.out) | exact HB.out))) : w.heap.size ≤ gb131)); have n4_ := Aside0.mk ((by rw [hg]; exact (below_size (by repeat (first | (with_reducible first | exact HB.out | apply below_alloc | apply pw_below_drewN | apply below_drew1 | refine below_set ?_ GE122.out) | exact HB.out))) : w.heap.size ≤ gb131)); have n5_ := Aside0.mk ((by rw [hg]; exact Nat.ne_of_lt (blk_lt (g := gb122) (o := .cells #[.int .i64 0, .bool false] 37 (0, 0)) (by (with_reducible repeat (first | refine blk_drewN ?_ _ | refine blk_drew ?_ | refine blk_alloc ?_ _)); exact BK122.out)) : gb122 ≠ gb131)); have n6_ := Aside0.mk ((by rw [hg]; exact Nat.ne_of_gt (blk_lt (g := gb122) (o := .cells #[.int .i64 0, .bool false] 37 (0, 0)) (by (with_reducible repeat (first | refine blk_drewN ?_ _ | refine blk_drew ?_ | refine blk_alloc ?_ _)); exact BK122.out)) : gb131 ≠ gb122)); clear BK122; clear HB; have BK122 := n0_; have HB := n1_; have BK131 := n2_; have GW131 := n3_; have GE131 := n4_; have NB122_131 := n5_; have NB131_122 := n6_; clear n0_ n1_ n2_ n3_ n4_ n5_ n6_; clear hb hbox hg; have hnb20 := NB131_122.out; have hnc20 := NB122_131.out; have hcz21_0 : w19.cell? ⟨gb131, 0, none⟩ = some (.int .u64 0) := (blk_cell BK131.out 0).trans rfl; have hcz21_1 : w19.cell? ⟨gb131, 1, none⟩ = some (.bool false) := (blk_cell BK131.out 1).trans rfl; have hcz21_2 : w19.cell? ⟨gb131, 2, none⟩ = some (.int .u64 0) := (blk_cell BK131.out 2).trans rfl; have hfz21_0 := blk_frozen BK131.out 0; have hfz21_1 := blk_frozen BK131.out 1; have hfz21_2 := blk_frozen BK131.out 2))
        repeat (go_quiet (first | (go_at_call 38; (with_reducible refine (flywheelref02_size.calls a0 t123 _ A11.out).mono ?_); rintro e w' ⟨rfl, ⟨nd, rfl⟩⟩; (try first | exact ⟨rfl, _, World.drewN_drewN _ _ _⟩ | exact ⟨rfl, _, Eq.trans (World.drewN_drewN _ _ _) (congrArg (World.drewN _) (Nat.add_assoc _ _ _))⟩)) | (go_at_call 38; (with_reducible refine (flywheelref02_size.calls a1 t124 _ A12.out).mono ?_); rintro e w' ⟨rfl, ⟨nd, rfl⟩⟩; (try first | exact ⟨rfl, _, World.drewN_drewN _ _ _⟩ | exact ⟨rfl, _, Eq.trans (World.drewN_drewN _ _ _) (congrArg (World.drewN _) (Nat.add_assoc _ _ _))⟩)) | (go_at_call 37; (with_reducible refine (flywheelref02_times.calls t123 t124 t125 t126 _ A13.out).mono ?_); rintro e w17 ⟨rfl, hb⟩; have n0_ := Aside0.mk (blk_below (g := gb122) (o := .cells #[.int .i64 0, .bool false] 37 (0, 0)) (by (with_reducible repeat (first | refine blk_drewN ?_ _ | refine blk_drew ?_ | refine blk_alloc ?_ _)); exact BK122.out) hb); have n1_ := Aside0.mk (below_step (by repeat (first | (with_reducible first | exact HB.out | apply below_alloc | apply pw_below_drewN | apply below_drew1 | refine below_set ?_ GE122.out) | exact HB.out)) hb); clear BK122; clear HB; have BK122 := n0_; have HB := n1_; clear n0_ n1_; (try clear hb); (try clear hb2); (try clear hk); (try clear hi)) | (go_at_call 38; (with_reducible refine (flywheelref02_size.calls a2 t127 _ A14.out).mono ?_); rintro e w' ⟨rfl, ⟨nd, rfl⟩⟩; (try first | exact ⟨rfl, _, World.drewN_drewN _ _ _⟩ | exact ⟨rfl, _, Eq.trans (World.drewN_drewN _ _ _) (congrArg (World.drewN _) (Nat.add_assoc _ _ _))⟩)) | (go_at_call 36; (with_reducible refine (flywheelref02_part.calls kj4 t125 t126 t127 t128 t129 t130 _ A15.out).mono ?_); rintro e w18 ⟨rfl, hb⟩; have n0_ := Aside0.mk (blk_below (g := gb122) (o := .cells #[.int .i64 0, .bool false] 37 (0, 0)) (by (with_reducible repeat (first | refine blk_drewN ?_ _ | refine blk_drew ?_ | refine blk_alloc ?_ _)); exact BK122.out) hb); have n1_ := Aside0.mk (below_step (by repeat (first | (with_reducible first | exact HB.out | apply below_alloc | apply pw_below_drewN | apply below_drew1 | refine below_set ?_ GE122.out) | exact HB.out)) hb); clear BK122; clear HB; have BK122 := n0_; have HB := n1_; clear n0_ n1_; (try clear hb); (try clear hb2); (try clear hk); (try clear hi)) | ((with_reducible refine gate_dst (N := 9) rfl ?_); refine box_event ?hg (N := 9) ?hd (cs := #[.int .u64 0, .bool false, .int .u64 0]) (t := 53) ?hr ?_; (case hd => rfl); (case hg => rfl); (case hr => first | (go_simp; done) | (go_simp; rfl)); intro gb131 hg w19 hbox hb; have n0_ := Aside0.mk (blk_below (g := gb122) (o := .cells #[.int .i64 0, .bool false] 37 (0, 0)) (by (with_reducible repeat (first | refine blk_drewN ?_ _ | refine blk_drew ?_ | refine blk_alloc ?_ _)); exact BK122.out) hb); have n1_ := Aside0.mk (below_step (by repeat (first | (with_reducible first | exact HB.out | apply below_alloc | apply pw_below_drewN | apply below_drew1 | refine below_set ?_ GE122.out) | exact HB.out)) hb); have n2_ := Aside0.mk (hbox); have n3_ := Aside0.mk ((by rw [hg]; exact (below_size (by repeat (first | (with_reducible first | exact HB.out | apply below_alloc | apply pw_below_drewN | apply below_drew1 | refine below_set ?_ GE122.out) | exact HB.out))) : w.heap.size ≤ gb131)); have n4_ := Aside0.mk ((by rw [hg]; exact (below_size (by repeat (first | (with_reducible first | exact HB.out | apply below_alloc | apply pw_below_drewN | apply below_drew1 | refine below_set ?_ GE122.out) | exact HB.out))) : w.heap.size ≤ gb131)); have n5_ := Aside0.mk ((by rw [hg]; exact Nat.ne_of_lt (blk_lt (g := gb122) (o := .cells #[.int .i64 0, .bool false] 37 (0, 0)) (by (with_reducible repeat (first | refine blk_drewN ?_ _ | refine blk_drew ?_ | refine blk_alloc ?_ _)); exact BK122.out)) : gb122 ≠ gb131)); have n6_ := Aside0.mk ((by rw [hg]; exact Nat.ne_of_gt (blk_lt (g := gb122) (o := .cells #[.int .i64 0, .bool false] 37 (0, 0)) (by (with_reducible repeat (first | refine blk_drewN ?_ _ | refine blk_drew ?_ | refine blk_alloc ?_ _)); exact BK122.out)) : gb131 ≠ gb122)); clear BK122; clear HB; have BK122 := n0_; have HB := n1_; have BK131 := n2_; have GW131 := n3_; have GE131 := n4_; have NB122_131 := n5_; have NB131_122 := n6_; clear n0_ n1_ n2_ n3_ n4_ n5_ n6_; clear hb hbox hg; have hnb20 := NB131_122.out; have hnc20 := NB122_131.out; have hcz21_0 : w19.cell? ⟨gb131, 0, none⟩ = some (.int .u64 0) := (blk_cell BK131.out 0).trans rfl; have hcz21_1 : w19.cell? ⟨gb131, 1, none⟩ = some (.bool false) := (blk_cell BK131.out 1).trans rfl; have hcz21_2 : w19.cell? ⟨gb131, 2, none⟩ = some (.int .u64 0) := (blk_cell BK131.out 2).trans rfl; have hfz21_0 := blk_frozen BK131.out 0; have hfz21_1 := blk_frozen BK131.out 1; have hfz21_2 := blk_frozen BK131.out 2)); go_upto_region 4 with (first | (go_at_call 38; (with_reducible refine (flywheelref02_size.calls a0 t123 _ A11.out).mono ?_); rintro e w' ⟨rfl, ⟨nd, rfl⟩⟩; (try first | exact ⟨rfl, _, World.drewN_drewN _ _ _⟩ | exact ⟨rfl, _, Eq.trans (World.drewN_drewN _ _ _) (congrArg (World.drewN _) (Nat.add_assoc _ _ _))⟩)) | (go_at_call 38; (with_reducible refine (flywheelref02_size.calls a1 t124 _ A12.out).mono ?_); rintro e w' ⟨rfl, ⟨nd, rfl⟩⟩; (try first | exact ⟨rfl, _, World.drewN_drewN _ _ _⟩ | exact ⟨rfl, _, Eq.trans (World.drewN_drewN _ _ _) (congrArg (World.drewN _) (Nat.add_assoc _ _ _))⟩)) | (go_at_call 37; (with_reducible refine (flywheelref02_times.calls t123 t124 t125 t126 _ A13.out).mono ?_); rintro e w17 ⟨rfl, hb⟩; have n0_ := Aside0.mk (blk_below (g := gb122) (o := .cells #[.int .i64 0, .bool false] 37 (0, 0)) (by (with_reducible repeat (first | refine blk_drewN ?_ _ | refine blk_drew ?_ | refine blk_alloc ?_ _)); exact BK122.out) hb); have n1_ := Aside0.mk (below_step (by repeat (first | (with_reducible first | exact HB.out | apply below_alloc | apply pw_below_drewN | apply below_drew1 | refine below_set ?_ GE122.out) | exact HB.out)) hb); clear BK122; clear HB; have BK122 := n0_; have HB := n1_; clear n0_ n1_; (try clear hb); (try clear hb2); (try clear hk); (try clear hi)) | (go_at_call 38; (with_reducible refine (flywheelref02_size.calls a2 t127 _ A14.out).mono ?_); rintro e w' ⟨rfl, ⟨nd, rfl⟩⟩; (try first | exact ⟨rfl, _, World.drewN_drewN _ _ _⟩ | exact ⟨rfl, _, Eq.trans (World.drewN_drewN _ _ _) (congrArg (World.drewN _) (Nat.add_assoc _ _ _))⟩)) | (go_at_call 36; (with_reducible refine (flywheelref02_part.calls kj4 t125 t126 t127 t128 t129 t130 _ A15.out).mono ?_); rintro e w18 ⟨rfl, hb⟩; have n0_ := Aside0.mk (blk_below (g := gb122) (o := .cells #[.int .i64 0, .bool false] 37 (0, 0)) (by (with_reducible repeat (first | refine blk_drewN ?_ _ | refine blk_drew ?_ | refine blk_alloc ?_ _)); exact BK122.out) hb); have n1_ := Aside0.mk (below_step (by repeat (first | (with_reducible first | exact HB.out | apply below_alloc | apply pw_below_drewN | apply below_drew1 | refine below_set ?_ GE122.out) | exact HB.out)) hb); clear BK122; clear HB; have BK122 := n0_; have HB := n1_; clear n0_ n1_; (try clear hb); (try clear hb2); (try clear hk); (try clear hi)) | ((with_reducible refine gate_dst (N := 9) rfl ?_); refine box_event ?hg (N := 9) ?hd (cs := #[.int .u64 0, .bool false, .int .u64 0]) (t := 53) ?hr ?_; (case hd => rfl); (case hg => rfl); (case hr => first | (go_simp; done) | (go_simp; rfl)); intro gb131 hg w19 hbox hb; have n0_ := Aside0.mk (blk_below (g := gb122) (o := .cells #[.int .i64 0, .bool false] 37 (0, 0)) (by (with_reducible repeat (first | refine blk_drewN ?_ _ | refine blk_drew ?_ | refine blk_alloc ?_ _)); exact BK122.out) hb); have n1_ := Aside0.mk (below_step (by repeat (first | (with_reducible first | exact HB.out | apply below_alloc | apply pw_below_drewN | apply below_drew1 | refine below_set ?_ GE122.out) | exact HB.out)) hb); have n2_ := Aside0.mk (hbox); have n3_ := Aside0.mk ((by rw [hg]; exact (below_size (by repeat (first | (with_reducible first | exact HB.out | apply below_alloc | apply pw_below_drewN | apply below_drew1 | refine below_set ?_ GE122.out) | exact HB.out))) : w.heap.size ≤ gb131)); have n4_ := Aside0.mk ((by rw [hg]; exact (below_size (by repeat (first | (with_reducible first | exact HB.out | apply below_alloc | apply pw_below_drewN | apply below_drew1 | refine below_set ?_ GE122.out) | exact HB.out))) : w.heap.size ≤ gb131)); have n5_ := Aside0.mk ((by rw [hg]; exact Nat.ne_of_lt (blk_lt (g := gb122) (o := .cells #[.int .i64 0, .bool false] 37 (0, 0)) (by (with_reducible repeat (first | refine blk_drewN ?_ _ | refine blk_drew ?_ | refine blk_alloc ?_ _)); exact BK122.out)) : gb122 ≠ gb131)); have n6_ := Aside0.mk ((by rw [hg]; exact Nat.ne_of_gt (blk_lt (g := gb122) (o := .cells #[.int .i64 0, .bool false] 37 (0, 0)) (by (with_reducible repeat (first | refine blk_drewN ?_ _ | refine blk_drew ?_ | refine blk_alloc ?_ _)); exact BK122.out)) : gb131 ≠ gb122)); clear BK122; clear HB; have BK122 := n0_; have HB := n1_; have BK131 := n2_; have GW131 := n3_; have GE131 := n4_; have NB122_131 := n5_; have NB131_122 := n6_; clear n0_ n1_ n2_ n3_ n4_ n5_ n6_; clear hb hbox hg; have hnb20 := NB131_122.out; have hnc20 := NB122_131.out; have hcz21_0 : w19.cell? ⟨gb131, 0, none⟩ = some (.int .u64 0) := (blk_cell BK131.out 0).trans rfl; have hcz21_1 : w19.cell? ⟨gb131, 1, none⟩ = some (.bool false) := (blk_cell BK131.out 1).trans rfl; have hcz21_2 : w19.cell? ⟨gb131, 2, none⟩ = some (.int .u64 0) := (blk_cell BK131.out 2).trans rfl; have hfz21_0 := blk_frozen BK131.out 0; have hfz21_1 := blk_frozen BK131.out 1; have hfz21_2 := blk_frozen BK131.out 2)))
        (try simp only [Act.put, List.setIfInBounds_toArray, List.set_cons_zero, List.set_cons_succ])
        go_cut [10] (fun v10 wc => ∃ (kq : Nat) (x10_15 : Bool), v10 = .bool x10_15 ∧ Aside0 (flywheelref02_Did.j1 kq a2 a3 x10_15 t128 t129 t130 = some (r1, r2)) ∧ Aside0 (kq ≤ kj4) ∧ Aside0 (wc.heap[gb122]? = some (.cells #[.int .i64 0, .bool false] 37 (0, 0))) ∧ Aside0 (wc.heap[gb131]? = some (.cells #[.int .u64 t128, .bool t129, .int .u64 t130] 53 (0, 0))) ∧ Aside0 (Below w.heap.size w wc))
        case first =>
          have H := HC16.out
          clear HC16
          by_cases c22 : a0 < 0
          · rw [if_pos c22] at H
            have c22b0 : decide (a0 < 0) = true := decide_eq_true c22
            clear c22
            (first | rw [c22b0] | (simp only [i64_w, i32_w]; rw [c22b0]) | skip)
            by_cases c23 : a1 < 0
            · rw [if_pos c23] at H
              have c23b0 : decide (a1 < 0) = true := decide_eq_true c23
              clear c23
              by_cases c24 : a2 < 0
              · rw [if_pos c24] at H
                have c24b0 : decide (a2 < 0) = true := decide_eq_true c24
                clear c24
                have H' := Aside0.mk H
                clear H
                go_wp2
                repeat (go_quiet (fail); try go_wp2)
                go_meet
                case rel => exact ⟨_, (true), (by first | rfl | (simp; done) | (simp [*]; done)), H', ⟨by have := HJ4.out; first | omega | exact Nat.le_refl _⟩, ⟨by (with_reducible repeat (first | refine blk_drewN ?_ _ | refine blk_drew ?_ | refine blk_alloc ?_ _)); refine blk_far ?_ NB122_131.out _; (with_reducible repeat (first | refine blk_drewN ?_ _ | refine blk_drew ?_ | refine blk_alloc ?_ _)); refine blk_far ?_ NB122_131.out _; (with_reducible repeat (first | refine blk_drewN ?_ _ | refine blk_drew ?_ | refine blk_alloc ?_ _)); refine blk_far ?_ NB122_131.out _; (with_reducible repeat (first | refine blk_drewN ?_ _ | refine blk_drew ?_ | refine blk_alloc ?_ _)); exact BK122.out⟩, ⟨by (with_reducible repeat (first | refine blk_drewN ?_ _ | refine blk_drew ?_ | refine blk_alloc ?_ _)); refine blk_put (cs := #[.int .u64 t128, .bool t129, .int .u64 0]) ?_ 2 _ rfl; (with_reducible repeat (first | refine blk_drewN ?_ _ | refine blk_drew ?_ | refine blk_alloc ?_ _)); refine blk_put (cs := #[.int .u64 t128, .bool false, .int .u64 0]) ?_ 1 _ rfl; (with_reducible repeat (first | refine blk_drewN ?_ _ | refine blk_drew ?_ | refine blk_alloc ?_ _)); refine blk_put (cs := #[.int .u64 0, .bool false, .int .u64 0]) ?_ 0 _ rfl; (with_reducible repeat (first | refine blk_drewN ?_ _ | refine blk_drew ?_ | refine blk_alloc ?_ _)); exact BK131.out⟩, ⟨by repeat (first | (with_reducible first | exact HB.out | apply below_alloc | apply pw_below_drewN | apply below_drew1 | refine below_set ?_ GE122.out | refine below_set ?_ GE131.out) | exact HB.out)⟩⟩
              · rw [if_neg c24] at H
                have c24b0 : decide (a2 < 0) = false := decide_eq_false c24
                clear c24
                have H' := Aside0.mk H
                clear H
                go_wp2
                repeat (go_quiet (fail); try go_wp2)
                go_meet
                case rel => exact ⟨_, (false), (by first | rfl | (simp; done) | (simp [*]; done)), H', ⟨by have := HJ4.out; first | omega | exact Nat.le_refl _⟩, ⟨by (with_reducible repeat (first | refine blk_drewN ?_ _ | refine blk_drew ?_ | refine blk_alloc ?_ _)); refine blk_far ?_ NB122_131.out _; (with_reducible repeat (first | refine blk_drewN ?_ _ | refine blk_drew ?_ | refine blk_alloc ?_ _)); refine blk_far ?_ NB122_131.out _; (with_reducible repeat (first | refine blk_drewN ?_ _ | refine blk_drew ?_ | refine blk_alloc ?_ _)); refine blk_far ?_ NB122_131.out _; (with_reducible repeat (first | refine blk_drewN ?_ _ | refine blk_drew ?_ | refine blk_alloc ?_ _)); exact BK122.out⟩, ⟨by (with_reducible repeat (first | refine blk_drewN ?_ _ | refine blk_drew ?_ | refine blk_alloc ?_ _)); refine blk_put (cs := #[.int .u64 t128, .bool t129, .int .u64 0]) ?_ 2 _ rfl; (with_reducible repeat (first | refine blk_drewN ?_ _ | refine blk_drew ?_ | refine blk_alloc ?_ _)); refine blk_put (cs := #[.int .u64 t128, .bool false, .int .u64 0]) ?_ 1 _ rfl; (with_reducible repeat (first | refine blk_drewN ?_ _ | refine blk_drew ?_ | refine blk_alloc ?_ _)); refine blk_put (cs := #[.int .u64 0, .bool false, .int .u64 0]) ?_ 0 _ rfl; (with_reducible repeat (first | refine blk_drewN ?_ _ | refine blk_drew ?_ | refine blk_alloc ?_ _)); exact BK131.out⟩, ⟨by repeat (first | (with_reducible first | exact HB.out | apply below_alloc | apply pw_below_drewN | apply below_drew1 | refine below_set ?_ GE122.out | refine below_set ?_ GE131.out) | exact HB.out)⟩⟩
            · rw [if_neg c23] at H
              have c23b0 : decide (a1 < 0) = false := decide_eq_false c23
              clear c23
              by_cases c25 : a2 < 0
              · rw [if_pos c25] at H
                have c25b0 : decide (a2 < 0) = true := decide_eq_true c25
                clear c25
                have H' := Aside0.mk H
                clear H
                go_wp2
                repeat (go_quiet (fail); try go_wp2)
                go_meet
                case rel => exact ⟨_, (false), (by first | rfl | (simp; done) | (simp [*]; done)), H', ⟨by have := HJ4.out; first | omega | exact Nat.le_refl _⟩, ⟨by (with_reducible repeat (first | refine blk_drewN ?_ _ | refine blk_drew ?_ | refine blk_alloc ?_ _)); refine blk_far ?_ NB122_131.out _; (with_reducible repeat (first | refine blk_drewN ?_ _ | refine blk_drew ?_ | refine blk_alloc ?_ _)); refine blk_far ?_ NB122_131.out _; (with_reducible repeat (first | refine blk_drewN ?_ _ | refine blk_drew ?_ | refine blk_alloc ?_ _)); refine blk_far ?_ NB122_131.out _; (with_reducible repeat (first | refine blk_drewN ?_ _ | refine blk_drew ?_ | refine blk_alloc ?_ _)); exact BK122.out⟩, ⟨by (with_reducible repeat (first | refine blk_drewN ?_ _ | refine blk_drew ?_ | refine blk_alloc ?_ _)); refine blk_put (cs := #[.int .u64 t128, .bool t129, .int .u64 0]) ?_ 2 _ rfl; (with_reducible repeat (first | refine blk_drewN ?_ _ | refine blk_drew ?_ | refine blk_alloc ?_ _)); refine blk_put (cs := #[.int .u64 t128, .bool false, .int .u64 0]) ?_ 1 _ rfl; (with_reducible repeat (first | refine blk_drewN ?_ _ | refine blk_drew ?_ | refine blk_alloc ?_ _)); refine blk_put (cs := #[.int .u64 0, .bool false, .int .u64 0]) ?_ 0 _ rfl; (with_reducible repeat (first | refine blk_drewN ?_ _ | refine blk_drew ?_ | refine blk_alloc ?_ _)); exact BK131.out⟩, ⟨by repeat (first | (with_reducible first | exact HB.out | apply below_alloc | apply pw_below_drewN | apply below_drew1 | refine below_set ?_ GE122.out | refine below_set ?_ GE131.out) | exact HB.out)⟩⟩
              · rw [if_neg c25] at H
                have c25b0 : decide (a2 < 0) = false := decide_eq_false c25
                clear c25
                have H' := Aside0.mk H
                clear H
                go_wp2
                repeat (go_quiet (fail); try go_wp2)
                go_meet
                case rel => exact ⟨_, (true), (by first | rfl | (simp; done) | (simp [*]; done)), H', ⟨by have := HJ4.out; first | omega | exact Nat.le_refl _⟩, ⟨by (with_reducible repeat (first | refine blk_drewN ?_ _ | refine blk_drew ?_ | refine blk_alloc ?_ _)); refine blk_far ?_ NB122_131.out _; (with_reducible repeat (first | refine blk_drewN ?_ _ | refine blk_drew ?_ | refine blk_alloc ?_ _)); refine blk_far ?_ NB122_131.out _; (with_reducible repeat (first | refine blk_drewN ?_ _ | refine blk_drew ?_ | refine blk_alloc ?_ _)); refine blk_far ?_ NB122_131.out _; (with_reducible repeat (first | refine blk_drewN ?_ _ | refine blk_drew ?_ | refine blk_alloc ?_ _)); exact BK122.out⟩, ⟨by (with_reducible repeat (first | refine blk_drewN ?_ _ | refine blk_drew ?_ | refine blk_alloc ?_ _)); refine blk_put (cs := #[.int .u64 t128, .bool t129, .int .u64 0]) ?_ 2 _ rfl; (with_reducible repeat (first | refine blk_drewN ?_ _ | refine blk_drew ?_ | refine blk_alloc ?_ _)); refine blk_put (cs := #[.int .u64 t128, .bool false, .int .u64 0]) ?_ 1 _ rfl; (with_reducible repeat (first | refine blk_drewN ?_ _ | refine blk_drew ?_ | refine blk_alloc ?_ _)); refine blk_put (cs := #[.int .u64 0, .bool false, .int .u64 0]) ?_ 0 _ rfl; (with_reducible repeat (first | refine blk_drewN ?_ _ | refine blk_drew ?_ | refine blk_alloc ?_ _)); exact BK131.out⟩, ⟨by repeat (first | (with_reducible first | exact HB.out | apply below_alloc | apply pw_below_drewN | apply below_drew1 | refine below_set ?_ GE122.out | refine below_set ?_ GE131.out) | exact HB.out)⟩⟩
          · rw [if_neg c22] at H
            have c22b0 : decide (a0 < 0) = false := decide_eq_false c22
            clear c22
            (first | rw [c22b0] | (simp only [i64_w, i32_w]; rw [c22b0]) | skip)
            by_cases c26 : a1 < 0
            · rw [if_pos c26] at H
              have c26b0 : decide (a1 < 0) = true := decide_eq_true c26
              clear c26
              by_cases c27 : a2 < 0
              · rw [if_pos c27] at H
                have c27b0 : decide (a2 < 0) = true := decide_eq_true c27
                clear c27
                have H' := Aside0.mk H
                clear H
                go_wp2
                repeat (go_quiet (fail); try go_wp2)
                go_meet
                case rel => exact ⟨_, (false), (by first | rfl | (simp; done) | (simp [*]; done)), H', ⟨by have := HJ4.out; first | omega | exact Nat.le_refl _⟩, ⟨by (with_reducible repeat (first | refine blk_drewN ?_ _ | refine blk_drew ?_ | refine blk_alloc ?_ _)); refine blk_far ?_ NB122_131.out _; (with_reducible repeat (first | refine blk_drewN ?_ _ | refine blk_drew ?_ | refine blk_alloc ?_ _)); refine blk_far ?_ NB122_131.out _; (with_reducible repeat (first | refine blk_drewN ?_ _ | refine blk_drew ?_ | refine blk_alloc ?_ _)); refine blk_far ?_ NB122_131.out _; (with_reducible repeat (first | refine blk_drewN ?_ _ | refine blk_drew ?_ | refine blk_alloc ?_ _)); exact BK122.out⟩, ⟨by (with_reducible repeat (first | refine blk_drewN ?_ _ | refine blk_drew ?_ | refine blk_alloc ?_ _)); refine blk_put (cs := #[.int .u64 t128, .bool t129, .int .u64 0]) ?_ 2 _ rfl; (with_reducible repeat (first | refine blk_drewN ?_ _ | refine blk_drew ?_ | refine blk_alloc ?_ _)); refine blk_put (cs := #[.int .u64 t128, .bool false, .int .u64 0]) ?_ 1 _ rfl; (with_reducible repeat (first | refine blk_drewN ?_ _ | refine blk_drew ?_ | refine blk_alloc ?_ _)); refine blk_put (cs := #[.int .u64 0, .bool false, .int .u64 0]) ?_ 0 _ rfl; (with_reducible repeat (first | refine blk_drewN ?_ _ | refine blk_drew ?_ | refine blk_alloc ?_ _)); exact BK131.out⟩, ⟨by repeat (first | (with_reducible first | exact HB.out | apply below_alloc | apply pw_below_drewN | apply below_drew1 | refine below_set ?_ GE122.out | refine below_set ?_ GE131.out) | exact HB.out)⟩⟩
              · rw [if_neg c27] at H
                have c27b0 : decide (a2 < 0) = false := decide_eq_false c27
                clear c27
                have H' := Aside0.mk H
                clear H
                go_wp2
                repeat (go_quiet (fail); try go_wp2)
                go_meet
                case rel => exact ⟨_, (true), (by first | rfl | (simp; done) | (simp [*]; done)), H', ⟨by have := HJ4.out; first | omega | exact Nat.le_refl _⟩, ⟨by (with_reducible repeat (first | refine blk_drewN ?_ _ | refine blk_drew ?_ | refine blk_alloc ?_ _)); refine blk_far ?_ NB122_131.out _; (with_reducible repeat (first | refine blk_drewN ?_ _ | refine blk_drew ?_ | refine blk_alloc ?_ _)); refine blk_far ?_ NB122_131.out _; (with_reducible repeat (first | refine blk_drewN ?_ _ | refine blk_drew ?_ | refine blk_alloc ?_ _)); refine blk_far ?_ NB122_131.out _; (with_reducible repeat (first | refine blk_drewN ?_ _ | refine blk_drew ?_ | refine blk_alloc ?_ _)); exact BK122.out⟩, ⟨by (with_reducible repeat (first | refine blk_drewN ?_ _ | refine blk_drew ?_ | refine blk_alloc ?_ _)); refine blk_put (cs := #[.int .u64 t128, .bool t129, .int .u64 0]) ?_ 2 _ rfl; (with_reducible repeat (first | refine blk_drewN ?_ _ | refine blk_drew ?_ | refine blk_alloc ?_ _)); refine blk_put (cs := #[.int .u64 t128, .bool false, .int .u64 0]) ?_ 1 _ rfl; (with_reducible repeat (first | refine blk_drewN ?_ _ | refine blk_drew ?_ | refine blk_alloc ?_ _)); refine blk_put (cs := #[.int .u64 0, .bool false, .int .u64 0]) ?_ 0 _ rfl; (with_reducible repeat (first | refine blk_drewN ?_ _ | refine blk_drew ?_ | refine blk_alloc ?_ _)); exact BK131.out⟩, ⟨by repeat (first | (with_reducible first | exact HB.out | apply below_alloc | apply pw_below_drewN | apply below_drew1 | refine below_set ?_ GE122.out | refine below_set ?_ GE131.out) | exact HB.out)⟩⟩
            · rw [if_neg c26] at H
              have c26b0 : decide (a1 < 0) = false := decide_eq_false c26
              clear c26
              by_cases c28 : a2 < 0
              · rw [if_pos c28] at H
                have c28b0 : decide (a2 < 0) = true := decide_eq_true c28
                clear c28
                have H' := Aside0.mk H
                clear H
                go_wp2
                repeat (go_quiet (fail); try go_wp2)
                go_meet
                case rel => exact ⟨_, (true), (by first | rfl | (simp; done) | (simp [*]; done)), H', ⟨by have := HJ4.out; first | omega | exact Nat.le_refl _⟩, ⟨by (with_reducible repeat (first | refine blk_drewN ?_ _ | refine blk_drew ?_ | refine blk_alloc ?_ _)); refine blk_far ?_ NB122_131.out _; (with_reducible repeat (first | refine blk_drewN ?_ _ | refine blk_drew ?_ | refine blk_alloc ?_ _)); refine blk_far ?_ NB122_131.out _; (with_reducible repeat (first | refine blk_drewN ?_ _ | refine blk_drew ?_ | refine blk_alloc ?_ _)); refine blk_far ?_ NB122_131.out _; (with_reducible repeat (first | refine blk_drewN ?_ _ | refine blk_drew ?_ | refine blk_alloc ?_ _)); exact BK122.out⟩, ⟨by (with_reducible repeat (first | refine blk_drewN ?_ _ | refine blk_drew ?_ | refine blk_alloc ?_ _)); refine blk_put (cs := #[.int .u64 t128, .bool t129, .int .u64 0]) ?_ 2 _ rfl; (with_reducible repeat (first | refine blk_drewN ?_ _ | refine blk_drew ?_ | refine blk_alloc ?_ _)); refine blk_put (cs := #[.int .u64 t128, .bool false, .int .u64 0]) ?_ 1 _ rfl; (with_reducible repeat (first | refine blk_drewN ?_ _ | refine blk_drew ?_ | refine blk_alloc ?_ _)); refine blk_put (cs := #[.int .u64 0, .bool false, .int .u64 0]) ?_ 0 _ rfl; (with_reducible repeat (first | refine blk_drewN ?_ _ | refine blk_drew ?_ | refine blk_alloc ?_ _)); exact BK131.out⟩, ⟨by repeat (first | (with_reducible first | exact HB.out | apply below_alloc | apply pw_below_drewN | apply below_drew1 | refine below_set ?_ GE122.out | refine below_set ?_ GE131.out) | exact HB.out)⟩⟩
              · rw [if_neg c28] at H
                have c28b0 : decide (a2 < 0) = false := decide_eq_false c28
                clear c28
                have H' := Aside0.mk H
                clear H
                go_wp2
                repeat (go_quiet (fail); try go_wp2)
                go_meet
                case rel => exact ⟨_, (false), (by first | rfl | (simp; done) | (simp [*]; done)), H', ⟨by have := HJ4.out; first | omega | exact Nat.le_refl _⟩, ⟨by (with_reducible repeat (first | refine blk_drewN ?_ _ | refine blk_drew ?_ | refine blk_alloc ?_ _)); refine blk_far ?_ NB122_131.out _; (with_reducible repeat (first | refine blk_drewN ?_ _ | refine blk_drew ?_ | refine blk_alloc ?_ _)); refine blk_far ?_ NB122_131.out _; (with_reducible repeat (first | refine blk_drewN ?_ _ | refine blk_drew ?_ | refine blk_alloc ?_ _)); refine blk_far ?_ NB122_131.out _; (with_reducible repeat (first | refine blk_drewN ?_ _ | refine blk_drew ?_ | refine blk_alloc ?_ _)); exact BK122.out⟩, ⟨by (with_reducible repeat (first | refine blk_drewN ?_ _ | refine blk_drew ?_ | refine blk_alloc ?_ _)); refine blk_put (cs := #[.int .u64 t128, .bool t129, .int .u64 0]) ?_ 2 _ rfl; (with_reducible repeat (first | refine blk_drewN ?_ _ | refine blk_drew ?_ | refine blk_alloc ?_ _)); refine blk_put (cs := #[.int .u64 t128, .bool false, .int .u64 0]) ?_ 1 _ rfl; (with_reducible repeat (first | refine blk_drewN ?_ _ | refine blk_drew ?_ | refine blk_alloc ?_ _)); refine blk_put (cs := #[.int .u64 0, .bool false, .int .u64 0]) ?_ 0 _ rfl; (with_reducible repeat (first | refine blk_drewN ?_ _ | refine blk_drew ?_ | refine blk_alloc ?_ _)); exact BK131.out⟩, ⟨by repeat (first | (with_reducible first | exact HB.out | apply below_alloc | apply pw_below_drewN | apply below_drew1 | refine below_set ?_ GE122.out | refine below_set ?_ GE131.out) | exact HB.out)⟩⟩
        case rest =>
          clear HC16
          try clear c2
          try clear p2
          try clear c7
          try clear c7b0
          try clear c7b1
          try clear c8
          try clear c8b0
          try clear c9
          try clear c20
          try clear c22
          try clear c22b0
          try clear c23
          try clear c23b0
          try clear c24
          try clear c24b0
          try clear c25
          try clear c25b0
          try clear c26
          try clear c26b0
          try clear c27
          try clear c27b0
          try clear c28
          try clear c28b0
          try clear hcz10_0
          try clear hcz10_1
          try clear hcz21_0
          try clear hcz21_1
          try clear hcz21_2
          try clear hfz10_0
          try clear hfz10_1
          try clear hfz21_0
          try clear hfz21_1
          try clear hfz21_2
          try clear p2
          obtain ⟨kq, x10_15, rfl, HA, HJ15, BK122, BK131, HB⟩ := hcut
          cases kq with
          | zero => exact absurd HA.out (by simp [flywheelref02_Did.j1])
          | succ kj15 =>
            have H := HA.out
            clear HA
            simp only [flywheelref02_Did.j1] at H
            have HC29 := Aside0.mk H
            clear H
            go_upto_block 0 with (fail)
            repeat (go_quiet (fail); go_upto_block 0 with (fail))
            go_cut [11] (fun v11 wc => ∃ (kq : Nat) (x11_28 : Bool), v11 = .bool x11_28 ∧ Aside0 (flywheelref02_Did.j2 kq x10_15 x11_28 t128 t129 t130 = some (r1, r2)) ∧ Aside0 (kq ≤ kj15) ∧ Aside0 (wc.heap[gb122]? = some (.cells #[.int .i64 0, .bool false] 37 (0, 0))) ∧ Aside0 (wc.heap[gb131]? = some (.cells #[.int .u64 t128, .bool t129, .int .u64 t130] 53 (0, 0))) ∧ Aside0 (Below w.heap.size w wc))
            case first =>
              have H := HC29.out
              clear HC29
              by_cases c30 : t130 = 0
              · rw [if_pos c30] at H
                have c30b0 : (t130 == 0) = true := beq_iff_eq.mpr c30
                have c30b1 : (t130 != 0) = false := bne_eq_false_iff_eq.mpr c30
                clear c30
                (first | rw [c30b0] | (simp only [i64_w, i32_w]; rw [c30b0]) | skip)
                have H' := Aside0.mk H
                clear H
                have hnb31 := NB131_122.out
                have hnc31 := NB122_131.out
                have hcz32_0 : wc.cell? ⟨gb131, 0, none⟩ = some (.int .u64 t128) := (blk_cell BK131.out 0).trans rfl
                have hcz32_1 : wc.cell? ⟨gb131, 1, none⟩ = some (.bool t129) := (blk_cell BK131.out 1).trans rfl
                have hcz32_2 : wc.cell? ⟨gb131, 2, none⟩ = some (.int .u64 t130) := (blk_cell BK131.out 2).trans rfl
                have hfz32_0 := blk_frozen BK131.out 0
                have hfz32_1 := blk_frozen BK131.out 1
                have hfz32_2 := blk_frozen BK131.out 2
                go_wp2
                repeat (go_quiet (fail); try go_wp2)
                go_meet
                case rel => exact ⟨_, (false), (by first | rfl | (simp; done) | (simp [*]; done)), H', ⟨by have := HJ4.out; have := HJ15.out; first | omega | exact Nat.le_refl _⟩, ⟨by (with_reducible repeat (first | refine blk_drewN ?_ _ | refine blk_drew ?_ | refine blk_alloc ?_ _)); exact BK122.out⟩, ⟨by (with_reducible repeat (first | refine blk_drewN ?_ _ | refine blk_drew ?_ | refine blk_alloc ?_ _)); exact BK131.out⟩, ⟨by repeat (first | (with_reducible first | exact HB.out | apply below_alloc | apply pw_below_drewN | apply below_drew1 | refine below_set ?_ GE122.out | refine below_set ?_ GE131.out) | exact HB.out)⟩⟩
              · rw [if_neg c30] at H
                have c30b0 : (t130 == 0) = false := beq_eq_false_iff_ne.mpr c30
                have c30b1 : (t130 != 0) = true := bne_iff_ne.mpr c30
                (first | rw [c30b0] | (simp only [i64_w, i32_w]; rw [c30b0]) | skip)
                by_cases c33 : a3 = 1
                · rw [if_pos c33] at H
                  have c33b0 : (a3 == 1) = true := beq_iff_eq.mpr c33
                  have c33b1 : (a3 != 1) = false := bne_eq_false_iff_eq.mpr c33
                  clear c33
                  have H' := Aside0.mk H
                  clear H
                  have hnb34 := NB131_122.out
                  have hnc34 := NB122_131.out
                  have hcz35_0 : wc.cell? ⟨gb131, 0, none⟩ = some (.int .u64 t128) := (blk_cell BK131.out 0).trans rfl
                  have hcz35_1 : wc.cell? ⟨gb131, 1, none⟩ = some (.bool t129) := (blk_cell BK131.out 1).trans rfl
                  have hcz35_2 : wc.cell? ⟨gb131, 2, none⟩ = some (.int .u64 t130) := (blk_cell BK131.out 2).trans rfl
                  have hfz35_0 := blk_frozen BK131.out 0
                  have hfz35_1 := blk_frozen BK131.out 1
                  have hfz35_2 := blk_frozen BK131.out 2
                  go_wp2
                  repeat (go_quiet (fail); try go_wp2)
                  go_meet
                  case rel => exact ⟨_, (x10_15), (by first | rfl | (simp; done) | (simp [*]; done)), H', ⟨by have := HJ4.out; have := HJ15.out; first | omega | exact Nat.le_refl _⟩, ⟨by (with_reducible repeat (first | refine blk_drewN ?_ _ | refine blk_drew ?_ | refine blk_alloc ?_ _)); exact BK122.out⟩, ⟨by (with_reducible repeat (first | refine blk_drewN ?_ _ | refine blk_drew ?_ | refine blk_alloc ?_ _)); exact BK131.out⟩, ⟨by repeat (first | (with_reducible first | exact HB.out | apply below_alloc | apply pw_below_drewN | apply below_drew1 | refine below_set ?_ GE122.out | refine below_set ?_ GE131.out) | exact HB.out)⟩⟩
                · rw [if_neg c33] at H
                  have c33b0 : (a3 == 1) = false := beq_eq_false_iff_ne.mpr c33
                  have c33b1 : (a3 != 1) = true := bne_iff_ne.mpr c33
                  by_cases c36 : a3 = 3
                  · rw [if_pos c36] at H
                    have c36b0 : (a3 == 3) = true := beq_iff_eq.mpr c36
                    have c36b1 : (a3 != 3) = false := bne_eq_false_iff_eq.mpr c36
                    clear c36
                    have H' := Aside0.mk H
                    clear H
                    have hnb37 := NB131_122.out
                    have hnc37 := NB122_131.out
                    have hcz38_0 : wc.cell? ⟨gb131, 0, none⟩ = some (.int .u64 t128) := (blk_cell BK131.out 0).trans rfl
                    have hcz38_1 : wc.cell? ⟨gb131, 1, none⟩ = some (.bool t129) := (blk_cell BK131.out 1).trans rfl
                    have hcz38_2 : wc.cell? ⟨gb131, 2, none⟩ = some (.int .u64 t130) := (blk_cell BK131.out 2).trans rfl
                    have hfz38_0 := blk_frozen BK131.out 0
                    have hfz38_1 := blk_frozen BK131.out 1
                    have hfz38_2 := blk_frozen BK131.out 2
                    go_wp2
                    repeat (go_quiet (fail); try go_wp2)
                    go_meet
                    case rel => exact ⟨_, (!x10_15), (by first | rfl | (simp; done) | (simp [*]; done)), H', ⟨by have := HJ4.out; have := HJ15.out; first | omega | exact Nat.le_refl _⟩, ⟨by (with_reducible repeat (first | refine blk_drewN ?_ _ | refine blk_drew ?_ | refine blk_alloc ?_ _)); exact BK122.out⟩, ⟨by (with_reducible repeat (first | refine blk_drewN ?_ _ | refine blk_drew ?_ | refine blk_alloc ?_ _)); exact BK131.out⟩, ⟨by repeat (first | (with_reducible first | exact HB.out | apply below_alloc | apply pw_below_drewN | apply below_drew1 | refine below_set ?_ GE122.out | refine below_set ?_ GE131.out) | exact HB.out)⟩⟩
                  · rw [if_neg c36] at H
                    have c36b0 : (a3 == 3) = false := beq_eq_false_iff_ne.mpr c36
                    have c36b1 : (a3 != 3) = true := bne_iff_ne.mpr c36
                    by_cases c39 : x10_15 = true
                    · subst c39
                      have H1 : ((flywheelref02_size.f a2).bind fun t132 => (flywheelref02_Did.j2 kj15 true (decide (t130 > (IntKind.u64.wrap (t132 - t130)))) t128 t129 t130)) = some (r1, r2) := by rw [if_pos rfl] at H; exact H
                      clear H
                      have H := H1
                      clear H1
                      replace H := Option.bind_eq_some_iff.mp H
                      obtain ⟨t132, A400, H⟩ := H
                      replace H : (flywheelref02_Did.j2 kj15 true (decide (t130 > (IntKind.u64.wrap (t132 - t130)))) t128 t129 t130) = some (r1, r2) := H
                      have A40 := Aside0.mk A400
                      clear A400
                      have H' := Aside0.mk H
                      clear H
                      have hnb41 := NB131_122.out
                      have hnc41 := NB122_131.out
                      have hcz42_0 : wc.cell? ⟨gb131, 0, none⟩ = some (.int .u64 t128) := (blk_cell BK131.out 0).trans rfl
                      have hcz42_1 : wc.cell? ⟨gb131, 1, none⟩ = some (.bool t129) := (blk_cell BK131.out 1).trans rfl
                      have hcz42_2 : wc.cell? ⟨gb131, 2, none⟩ = some (.int .u64 t130) := (blk_cell BK131.out 2).trans rfl
                      have hfz42_0 := blk_frozen BK131.out 0
                      have hfz42_1 := blk_frozen BK131.out 1
                      have hfz42_2 := blk_frozen BK131.out 2
                      go_wp2_with (first | (go_at_call 38; (with_reducible refine (flywheelref02_size.calls a2 t132 _ A40.out).mono ?_); rintro e w' ⟨rfl, ⟨nd, rfl⟩⟩; (try first | exact ⟨rfl, _, World.drewN_drewN _ _ _⟩ | exact ⟨rfl, _, Eq.trans (World.drewN_drewN _ _ _) (congrArg (World.drewN _) (Nat.add_assoc _ _ _))⟩)))
                      repeat (go_quiet (first | (go_at_call 38; (with_reducible refine (flywheelref02_size.calls a2 t132 _ A40.out).mono ?_); rintro e w' ⟨rfl, ⟨nd, rfl⟩⟩; (try first | exact ⟨rfl, _, World.drewN_drewN _ _ _⟩ | exact ⟨rfl, _, Eq.trans (World.drewN_drewN _ _ _) (congrArg (World.drewN _) (Nat.add_assoc _ _ _))⟩))); try go_wp2_with (first | (go_at_call 38; (with_reducible refine (flywheelref02_size.calls a2 t132 _ A40.out).mono ?_); rintro e w' ⟨rfl, ⟨nd, rfl⟩⟩; (try first | exact ⟨rfl, _, World.drewN_drewN _ _ _⟩ | exact ⟨rfl, _, Eq.trans (World.drewN_drewN _ _ _) (congrArg (World.drewN _) (Nat.add_assoc _ _ _))⟩))))
                      go_meet
                      case rel => exact ⟨_, (decide (t130 > (IntKind.u64.wrap (t132 - t130)))), (by first | rfl | (simp; done) | (simp [*]; done)), H', ⟨by have := HJ4.out; have := HJ15.out; first | omega | exact Nat.le_refl _⟩, ⟨by (with_reducible repeat (first | refine blk_drewN ?_ _ | refine blk_drew ?_ | refine blk_alloc ?_ _)); exact BK122.out⟩, ⟨by (with_reducible repeat (first | refine blk_drewN ?_ _ | refine blk_drew ?_ | refine blk_alloc ?_ _)); exact BK131.out⟩, ⟨by repeat (first | (with_reducible first | exact HB.out | apply below_alloc | apply pw_below_drewN | apply below_drew1 | refine below_set ?_ GE122.out | refine below_set ?_ GE131.out) | exact HB.out)⟩⟩
                    · replace c39 := Bool.eq_false_iff.mpr c39
                      subst c39
                      have H1 : ((flywheelref02_size.f a2).bind fun t133 => (flywheelref02_Did.j2 kj15 false (decide (t130 ≥ (IntKind.u64.wrap (t133 - t130)))) t128 t129 t130)) = some (r1, r2) := by rw [if_neg (show ¬ (false = true) by decide)] at H; exact H
                      clear H
                      have H := H1
                      clear H1
                      replace H := Option.bind_eq_some_iff.mp H
                      obtain ⟨t133, A430, H⟩ := H
                      replace H : (flywheelref02_Did.j2 kj15 false (decide (t130 ≥ (IntKind.u64.wrap (t133 - t130)))) t128 t129 t130) = some (r1, r2) := H
                      have A43 := Aside0.mk A430
                      clear A430
                      have H' := Aside0.mk H
                      clear H
                      have hnb44 := NB131_122.out
                      have hnc44 := NB122_131.out
                      have hcz45_0 : wc.cell? ⟨gb131, 0, none⟩ = some (.int .u64 t128) := (blk_cell BK131.out 0).trans rfl
                      have hcz45_1 : wc.cell? ⟨gb131, 1, none⟩ = some (.bool t129) := (blk_cell BK131.out 1).trans rfl
                      have hcz45_2 : wc.cell? ⟨gb131, 2, none⟩ = some (.int .u64 t130) := (blk_cell BK131.out 2).trans rfl
                      have hfz45_0 := blk_frozen BK131.out 0
                      have hfz45_1 := blk_frozen BK131.out 1
                      have hfz45_2 := blk_frozen BK131.out 2
                      go_wp2_with (first | (go_at_call 38; (with_reducible refine (flywheelref02_size.calls a2 t133 _ A43.out).mono ?_); rintro e w' ⟨rfl, ⟨nd, rfl⟩⟩; (try first | exact ⟨rfl, _, World.drewN_drewN _ _ _⟩ | exact ⟨rfl, _, Eq.trans (World.drewN_drewN _ _ _) (congrArg (World.drewN _) (Nat.add_assoc _ _ _))⟩)))
                      repeat (go_quiet (first | (go_at_call 38; (with_reducible refine (flywheelref02_size.calls a2 t133 _ A43.out).mono ?_); rintro e w' ⟨rfl, ⟨nd, rfl⟩⟩; (try first | exact ⟨rfl, _, World.drewN_drewN _ _ _⟩ | exact ⟨rfl, _, Eq.trans (World.drewN_drewN _ _ _) (congrArg (World.drewN _) (Nat.add_assoc _ _ _))⟩))); try go_wp2_with (first | (go_at_call 38; (with_reducible refine (flywheelref02_size.calls a2 t133 _ A43.out).mono ?_); rintro e w' ⟨rfl, ⟨nd, rfl⟩⟩; (try first | exact ⟨rfl, _, World.drewN_drewN _ _ _⟩ | exact ⟨rfl, _, Eq.trans (World.drewN_drewN _ _ _) (congrArg (World.drewN _) (Nat.add_assoc _ _ _))⟩))))
                      go_meet
                      case rel => exact ⟨_, (decide (t130 ≥ (IntKind.u64.wrap (t133 - t130)))), (by first | rfl | (simp; done) | (simp [*]; done)), H', ⟨by have := HJ4.out; have := HJ15.out; first | omega | exact Nat.le_refl _⟩, ⟨by (with_reducible repeat (first | refine blk_drewN ?_ _ | refine blk_drew ?_ | refine blk_alloc ?_ _)); exact BK122.out⟩, ⟨by (with_reducible repeat (first | refine blk_drewN ?_ _ | refine blk_drew ?_ | refine blk_alloc ?_ _)); exact BK131.out⟩, ⟨by repeat (first | (with_reducible first | exact HB.out | apply below_alloc | apply pw_below_drewN | apply below_drew1 | refine below_set ?_ GE122.out | refine below_set ?_ GE131.out) | exact HB.out)⟩⟩
            case rest =>
              clear HC29
              try clear c2
              try clear p2
              try clear c3
              try clear c4
              try clear c7
              try clear c7b0
              try clear c7b1
              try clear c8
              try clear c8b0
              try clear c9
              try clear c20
              try clear c22
              try clear c22b0
              try clear c23
              try clear c23b0
              try clear c24
              try clear c24b0
              try clear c25
              try clear c25b0
              try clear c26
              try clear c26b0
              try clear c27
              try clear c27b0
              try clear c28
              try clear c28b0
              try clear c30
              try clear c30b0
              try clear c30b1
              try clear c31
              try clear c33
              try clear c33b0
              try clear c33b1
              try clear c34
              try clear c36
              try clear c36b0
              try clear c36b1
              try clear c37
              try clear c39
              try clear c41
              try clear c44
              try clear hcz10_0
              try clear hcz10_1
              try clear hcz21_0
              try clear hcz21_1
              try clear hcz21_2
              try clear hcz32_0
              try clear hcz32_1
              try clear hcz32_2
              try clear hcz35_0
              try clear hcz35_1
              try clear hcz35_2
              try clear hcz38_0
              try clear hcz38_1
              try clear hcz38_2
              try clear hcz42_0
              try clear hcz42_1
              try clear hcz42_2
              try clear hcz45_0
              try clear hcz45_1
              try clear hcz45_2
              try clear hfz10_0
              try clear hfz10_1
              try clear hfz21_0
              try clear hfz21_1
              try clear hfz21_2
              try clear hfz32_0
              try clear hfz32_1
              try clear hfz32_2
              try clear hfz35_0
              try clear hfz35_1
              try clear hfz35_2
              try clear hfz38_0
              try clear hfz38_1
              try clear hfz38_2
              try clear hfz42_0
              try clear hfz42_1
              try clear hfz42_2
              try clear hfz45_0
              try clear hfz45_1
              try clear hfz45_2
              try clear p2
              obtain ⟨kq, x11_28, rfl, HA, HJ28, BK122, BK131, HB⟩ := hcut
              cases kq with
              | zero => exact absurd HA.out (by simp [flywheelref02_Did.j2])
              | succ kj28 =>
                have H := HA.out
                clear HA
                simp only [flywheelref02_Did.j2] at H
                have HC46 := Aside0.mk H
                clear H
                have hnb47 := NB131_122.out
                have hnc47 := NB122_131.out
                have hcz48_0 : wc.cell? ⟨gb131, 0, none⟩ = some (.int .u64 t128) := (blk_cell BK131.out 0).trans rfl
                have hcz48_1 : wc.cell? ⟨gb131, 1, none⟩ = some (.bool t129) := (blk_cell BK131.out 1).trans rfl
                have hcz48_2 : wc.cell? ⟨gb131, 2, none⟩ = some (.int .u64 t130) := (blk_cell BK131.out 2).trans rfl
                have hfz48_0 := blk_frozen BK131.out 0
                have hfz48_1 := blk_frozen BK131.out 1
                have hfz48_2 := blk_frozen BK131.out 2
                go_upto_if 76 with (fail)
                repeat (go_quiet (fail); go_upto_if 76 with (fail))
                go_cut [12, 13] (fun v12 v13 wc => ∃ (kq : Nat) (x12_45 : Int) (x13_45 : Bool), v12 = .int .u64 x12_45 ∧ v13 = .bool x13_45 ∧ Aside0 (flywheelref02_Did.j3 kq x10_15 x12_45 x13_45 = some (r1, r2)) ∧ Aside0 (kq ≤ kj28) ∧ Aside0 (wc.heap[gb122]? = some (.cells #[.int .i64 0, .bool false] 37 (0, 0))) ∧ Aside0 (wc.heap[gb131]? = some (.cells #[.int .u64 t128, .bool t129, .int .u64 t130] 53 (0, 0))) ∧ Aside0 (Below w.heap.size w wc))
                case first =>
                  have H := HC46.out
                  clear HC46
                  by_cases c49 : x11_28 = true
                  · subst c49
                    have H1 : (if t129 = true then (flywheelref02_Did.j3 kj28 x10_15 (IntKind.u64.wrap (t128 + 1)) true) else (flywheelref02_Did.j3 kj28 x10_15 (IntKind.u64.wrap (t128 + 1)) ((IntKind.u64.wrap (t128 + 1)) == 0))) = some (r1, r2) := by rw [if_pos rfl] at H; exact H
                    clear H
                    have H := H1
                    clear H1
                    by_cases c50 : t129 = true
                    · subst c50
                      have H1 : (flywheelref02_Did.j3 kj28 x10_15 (IntKind.u64.wrap (t128 + 1)) true) = some (r1, r2) := by rw [if_pos rfl] at H; exact H
                      clear H
                      have H := H1
                      clear H1
                      have H' := Aside0.mk H
                      clear H
                      go_wp2
                      repeat (go_quiet (fail); try go_wp2)
                      go_meet
                      case rel => exact ⟨_, (IntKind.u64.wrap (t128 + 1)), (true), (by first | rfl | (simp; done) | (simp [*]; done)), (by first | rfl | (simp; done) | (simp [*]; done)), H', ⟨by have := HJ4.out; have := HJ15.out; have := HJ28.out; first | omega | exact Nat.le_refl _⟩, ⟨by (with_reducible repeat (first | refine blk_drewN ?_ _ | refine blk_drew ?_ | refine blk_alloc ?_ _)); exact BK122.out⟩, ⟨by (with_reducible repeat (first | refine blk_drewN ?_ _ | refine blk_drew ?_ | refine blk_alloc ?_ _)); exact BK131.out⟩, ⟨by repeat (first | (with_reducible first | exact HB.out | apply below_alloc | apply pw_below_drewN | apply below_drew1 | refine below_set ?_ GE122.out | refine below_set ?_ GE131.out) | exact HB.out)⟩⟩
                    · replace c50 := Bool.eq_false_iff.mpr c50
                      subst c50
                      have H1 : (flywheelref02_Did.j3 kj28 x10_15 (IntKind.u64.wrap (t128 + 1)) ((IntKind.u64.wrap (t128 + 1)) == 0)) = some (r1, r2) := by rw [if_neg (show ¬ (false = true) by decide)] at H; exact H
                      clear H
                      have H := H1
                      clear H1
                      have H' := Aside0.mk H
                      clear H
                      go_wp2
                      repeat (go_quiet (fail); try go_wp2)
                      go_meet
                      case rel => exact ⟨_, (IntKind.u64.wrap (t128 + 1)), (((IntKind.u64.wrap (t128 + 1)) == 0)), (by first | rfl | (simp; done) | (simp [*]; done)), (by first | rfl | (simp; done) | (simp [*]; done)), H', ⟨by have := HJ4.out; have := HJ15.out; have := HJ28.out; first | omega | exact Nat.le_refl _⟩, ⟨by (with_reducible repeat (first | refine blk_drewN ?_ _ | refine blk_drew ?_ | refine blk_alloc ?_ _)); exact BK122.out⟩, ⟨by (with_reducible repeat (first | refine blk_drewN ?_ _ | refine blk_drew ?_ | refine blk_alloc ?_ _)); exact BK131.out⟩, ⟨by repeat (first | (with_reducible first | exact HB.out | apply below_alloc | apply pw_below_drewN | apply below_drew1 | refine below_set ?_ GE122.out | refine below_set ?_ GE131.out) | exact HB.out)⟩⟩
                  · replace c49 := Bool.eq_false_iff.mpr c49
                    subst c49
                    have H1 : (flywheelref02_Did.j3 kj28 x10_15 t128 t129) = some (r1, r2) := by rw [if_neg (show ¬ (false = true) by decide)] at H; exact H
                    clear H
                    have H := H1
                    clear H1
                    have H' := Aside0.mk H
                    clear H
                    go_wp2
                    repeat (go_quiet (fail); try go_wp2)
                    go_meet
                    case rel => exact ⟨_, (t128), (t129), (by first | rfl | (simp; done) | (simp [*]; done)), (by first | rfl | (simp; done) | (simp [*]; done)), H', ⟨by have := HJ4.out; have := HJ15.out; have := HJ28.out; first | omega | exact Nat.le_refl _⟩, ⟨by (with_reducible repeat (first | refine blk_drewN ?_ _ | refine blk_drew ?_ | refine blk_alloc ?_ _)); exact BK122.out⟩, ⟨by (with_reducible repeat (first | refine blk_drewN ?_ _ | refine blk_drew ?_ | refine blk_alloc ?_ _)); exact BK131.out⟩, ⟨by repeat (first | (with_reducible first | exact HB.out | apply below_alloc | apply pw_below_drewN | apply below_drew1 | refine below_set ?_ GE122.out | refine below_set ?_ GE131.out) | exact HB.out)⟩⟩
                case rest =>
                  clear HC46
                  try clear c2
                  try clear p2
                  try clear c3
                  try clear c4
                  try clear c5
                  try clear c7
                  try clear c7b0
                  try clear c7b1
                  try clear c8
                  try clear c8b0
                  try clear c9
                  try clear c20
                  try clear c22
                  try clear c22b0
                  try clear c23
                  try clear c23b0
                  try clear c24
                  try clear c24b0
                  try clear c25
                  try clear c25b0
                  try clear c26
                  try clear c26b0
                  try clear c27
                  try clear c27b0
                  try clear c28
                  try clear c28b0
                  try clear c30
                  try clear c30b0
                  try clear c30b1
                  try clear c31
                  try clear c33
                  try clear c33b0
                  try clear c33b1
                  try clear c34
                  try clear c36
                  try clear c36b0
                  try clear c36b1
                  try clear c37
                  try clear c39
                  try clear c41
                  try clear c44
                  try clear c47
                  try clear c49
                  try clear c50
                  try clear hcz10_0
                  try clear hcz10_1
                  try clear hcz21_0
                  try clear hcz21_1
                  try clear hcz21_2
                  try clear hcz32_0
                  try clear hcz32_1
                  try clear hcz32_2
                  try clear hcz35_0
                  try clear hcz35_1
                  try clear hcz35_2
                  try clear hcz38_0
                  try clear hcz38_1
                  try clear hcz38_2
                  try clear hcz42_0
                  try clear hcz42_1
                  try clear hcz42_2
                  try clear hcz45_0
                  try clear hcz45_1
                  try clear hcz45_2
                  try clear hcz48_0
                  try clear hcz48_1
                  try clear hcz48_2
                  try clear hfz10_0
                  try clear hfz10_1
                  try clear hfz21_0
                  try clear hfz21_1
                  try clear hfz21_2
                  try clear hfz32_0
                  try clear hfz32_1
                  try clear hfz32_2
                  try clear hfz35_0
                  try clear hfz35_1
                  try clear hfz35_2
                  try clear hfz38_0
                  try clear hfz38_1
                  try clear hfz38_2
                  try clear hfz42_0
                  try clear hfz42_1
                  try clear hfz42_2
                  try clear hfz45_0
                  try clear hfz45_1
                  try clear hfz45_2
                  try clear hfz48_0
                  try clear hfz48_1
                  try clear hfz48_2
                  try clear p2
                  obtain ⟨kq, x12_45, x13_45, rfl, rfl, HA, HJ45, BK122, BK131, HB⟩ := hcut
                  cases kq with
                  | zero => exact absurd HA.out (by simp [flywheelref02_Did.j3])
                  | succ kj45 =>
                    have H := HA.out
                    clear HA
                    simp only [flywheelref02_Did.j3] at H
                    by_cases c51 : x10_15 = true
                    · subst c51
                      have H1 : (if x13_45 = true then (flywheelref02_Did.j4 kj45 x12_45 true) else (flywheelref02_Did.j4 kj45 x12_45 (decide (x12_45 > 9223372036854775808)))) = some (r1, r2) := by rw [if_pos rfl] at H; exact H
                      clear H
                      have H := H1
                      clear H1
                      have HC52 := Aside0.mk H
                      clear H
                      go_upto_region 19 with (fail)
                      repeat (go_quiet (fail); go_upto_region 19 with (fail))
                      go_cut [89] (fun v89 wc => ∃ (kq : Nat) (x89_51 : Bool), v89 = .bool x89_51 ∧ Aside0 (flywheelref02_Did.j4 kq x12_45 x89_51 = some (r1, r2)) ∧ Aside0 (kq ≤ kj45) ∧ Aside0 (wc.heap[gb122]? = some (.cells #[.int .i64 0, .bool false] 37 (0, 0))) ∧ Aside0 (wc.heap[gb131]? = some (.cells #[.int .u64 t128, .bool t129, .int .u64 t130] 53 (0, 0))) ∧ Aside0 (Below w.heap.size w wc))
                      case first =>
                        have H := HC52.out
                        clear HC52
                        by_cases c53 : x13_45 = true
                        · subst c53
                          have H1 : (flywheelref02_Did.j4 kj45 x12_45 true) = some (r1, r2) := by rw [if_pos rfl] at H; exact H
                          clear H
                          have H := H1
                          clear H1
                          have H' := Aside0.mk H
                          clear H
                          go_wp2
                          repeat (go_quiet (fail); try go_wp2)
                          go_meet
                          case rel => exact ⟨_, (true), (by first | rfl | (simp; done) | (simp [*]; done)), H', ⟨by have := HJ4.out; have := HJ15.out; have := HJ28.out; have := HJ45.out; first | omega | exact Nat.le_refl _⟩, ⟨by (with_reducible repeat (first | refine blk_drewN ?_ _ | refine blk_drew ?_ | refine blk_alloc ?_ _)); exact BK122.out⟩, ⟨by (with_reducible repeat (first | refine blk_drewN ?_ _ | refine blk_drew ?_ | refine blk_alloc ?_ _)); exact BK131.out⟩, ⟨by repeat (first | (with_reducible first | exact HB.out | apply below_alloc | apply pw_below_drewN | apply below_drew1 | refine below_set ?_ GE122.out | refine below_set ?_ GE131.out) | exact HB.out)⟩⟩
                        · replace c53 := Bool.eq_false_iff.mpr c53
                          subst c53
                          have H1 : (flywheelref02_Did.j4 kj45 x12_45 (decide (x12_45 > 9223372036854775808))) = some (r1, r2) := by rw [if_neg (show ¬ (false = true) by decide)] at H; exact H
                          clear H
                          have H := H1
                          clear H1
                          have H' := Aside0.mk H
                          clear H
                          go_wp2
                          repeat (go_quiet (fail); try go_wp2)
                          go_meet
                          case rel => exact ⟨_, (decide (x12_45 > 9223372036854775808)), (by first | rfl | (simp; done) | (simp [*]; done)), H', ⟨by have := HJ4.out; have := HJ15.out; have := HJ28.out; have := HJ45.out; first | omega | exact Nat.le_refl _⟩, ⟨by (with_reducible repeat (first | refine blk_drewN ?_ _ | refine blk_drew ?_ | refine blk_alloc ?_ _)); exact BK122.out⟩, ⟨by (with_reducible repeat (first | refine blk_drewN ?_ _ | refine blk_drew ?_ | refine blk_alloc ?_ _)); exact BK131.out⟩, ⟨by repeat (first | (with_reducible first | exact HB.out | apply below_alloc | apply pw_below_drewN | apply below_drew1 | refine below_set ?_ GE122.out | refine below_set ?_ GE131.out) | exact HB.out)⟩⟩
                      case rest =>
                        clear HC52
                        try clear c2
                        try clear p2
                        try clear c3
                        try clear c4
                        try clear c5
                        try clear c7
                        try clear c7b0
                        try clear c7b1
                        try clear c8
                        try clear c8b0
                        try clear c9
                        try clear c20
                        try clear c22
                        try clear c22b0
                        try clear c23
                        try clear c23b0
                        try clear c24
                        try clear c24b0
                        try clear c25
                        try clear c25b0
                        try clear c26
                        try clear c26b0
                        try clear c27
                        try clear c27b0
                        try clear c28
                        try clear c28b0
                        try clear c30
                        try clear c30b0
                        try clear c30b1
                        try clear c31
                        try clear c33
                        try clear c33b0
                        try clear c33b1
                        try clear c34
                        try clear c36
                        try clear c36b0
                        try clear c36b1
                        try clear c37
                        try clear c39
                        try clear c41
                        try clear c44
                        try clear c47
                        try clear c49
                        try clear c50
                        try clear c51
                        try clear c53
                        try clear hcz10_0
                        try clear hcz10_1
                        try clear hcz21_0
                        try clear hcz21_1
                        try clear hcz21_2
                        try clear hcz32_0
                        try clear hcz32_1
                        try clear hcz32_2
                        try clear hcz35_0
                        try clear hcz35_1
                        try clear hcz35_2
                        try clear hcz38_0
                        try clear hcz38_1
                        try clear hcz38_2
                        try clear hcz42_0
                        try clear hcz42_1
                        try clear hcz42_2
                        try clear hcz45_0
                        try clear hcz45_1
                        try clear hcz45_2
                        try clear hcz48_0
                        try clear hcz48_1
                        try clear hcz48_2
                        try clear hfz10_0
                        try clear hfz10_1
                        try clear hfz21_0
                        try clear hfz21_1
                        try clear hfz21_2
                        try clear hfz32_0
                        try clear hfz32_1
                        try clear hfz32_2
                        try clear hfz35_0
                        try clear hfz35_1
                        try clear hfz35_2
                        try clear hfz38_0
                        try clear hfz38_1
                        try clear hfz38_2
                        try clear hfz42_0
                        try clear hfz42_1
                        try clear hfz42_2
                        try clear hfz45_0
                        try clear hfz45_1
                        try clear hfz45_2
                        try clear hfz48_0
                        try clear hfz48_1
                        try clear hfz48_2
                        try clear p2
                        obtain ⟨kq, x89_51, rfl, HA, HJ51, BK122, BK131, HB⟩ := hcut
                        cases kq with
                        | zero => exact absurd HA.out (by simp [flywheelref02_Did.j4])
                        | succ kj51 =>
                          have H := HA.out
                          clear HA
                          simp only [flywheelref02_Did.j4] at H
                          by_cases c54 : x89_51 = true
                          · subst c54
                            have H1 : (some ((-9223372036854775808), false)) = some (r1, r2) := by rw [if_pos rfl] at H; exact H
                            clear H
                            have H := H1
                            clear H1
                            simp only [Option.some.injEq, Prod.mk.injEq] at H
                            obtain ⟨rfl, rfl⟩ := H
                            have hnb55 := NB122_131.out
                            have hnc55 := NB131_122.out
                            have hcz56_0 : wc.cell? ⟨gb122, 0, none⟩ = some (.int .i64 0) := (blk_cell BK122.out 0).trans rfl
                            have hcz56_1 : wc.cell? ⟨gb122, 1, none⟩ = some (.bool false) := (blk_cell BK122.out 1).trans rfl
                            have hfz56_0 := blk_frozen BK122.out 0
                            have hfz56_1 := blk_frozen BK122.out 1
                            go_wp2
                            repeat (go_quiet (fail); try go_wp2)
                            refine bodyPost_ret (results_cell_row rfl _ _ gb122 37 #[.int .i64 (-9223372036854775808), .bool false] (0, 0) _ rfl (by (with_reducible repeat (first | refine blk_drewN ?_ _ | refine blk_drew ?_ | refine blk_alloc ?_ _)); refine blk_put (cs := #[.int .i64 (-9223372036854775808), .bool false]) ?_ 1 _ rfl; (with_reducible repeat (first | refine blk_drewN ?_ _ | refine blk_drew ?_ | refine blk_alloc ?_ _)); refine blk_put (cs := #[.int .i64 0, .bool false]) ?_ 0 _ rfl; (with_reducible repeat (first | refine blk_drewN ?_ _ | refine blk_drew ?_ | refine blk_alloc ?_ _)); exact BK122.out) Try.underlying37 rfl (by kernel_rfl)) rfl ?_
                            exact ⟨by first | rfl | (simp [errW_none, errW_some] <;> rfl) | (simp [*, errW_none, errW_some] <;> rfl), by repeat (first | (with_reducible first | exact HB.out | apply below_alloc | apply pw_below_drewN | apply below_drew1 | refine below_set ?_ GE122.out | refine below_set ?_ GE131.out) | exact HB.out)⟩
                          · replace c54 := Bool.eq_false_iff.mpr c54
                            subst c54
                            have H1 : (some (wrap64 (-(wrap64 (x12_45))), true)) = some (r1, r2) := by rw [if_neg (show ¬ (false = true) by decide)] at H; exact H
                            clear H
                            have H := H1
                            clear H1
                            simp only [Option.some.injEq, Prod.mk.injEq] at H
                            obtain ⟨rfl, rfl⟩ := H
                            have hnb57 := NB122_131.out
                            have hnc57 := NB131_122.out
                            have hcz58_0 : wc.cell? ⟨gb122, 0, none⟩ = some (.int .i64 0) := (blk_cell BK122.out 0).trans rfl
                            have hcz58_1 : wc.cell? ⟨gb122, 1, none⟩ = some (.bool false) := (blk_cell BK122.out 1).trans rfl
                            have hfz58_0 := blk_frozen BK122.out 0
                            have hfz58_1 := blk_frozen BK122.out 1
                            go_wp2
                            repeat (go_quiet (fail); try go_wp2)
                            refine bodyPost_ret (results_cell_row rfl _ _ gb122 37 #[.int .i64 (wrap64 (-(wrap64 (x12_45)))), .bool true] (0, 0) _ rfl (by (with_reducible repeat (first | refine blk_drewN ?_ _ | refine blk_drew ?_ | refine blk_alloc ?_ _)); refine blk_put (cs := #[.int .i64 (wrap64 (-(wrap64 (x12_45)))), .bool false]) ?_ 1 _ rfl; (with_reducible repeat (first | refine blk_drewN ?_ _ | refine blk_drew ?_ | refine blk_alloc ?_ _)); refine blk_put (cs := #[.int .i64 0, .bool false]) ?_ 0 _ rfl; (with_reducible repeat (first | refine blk_drewN ?_ _ | refine blk_drew ?_ | refine blk_alloc ?_ _)); exact BK122.out) Try.underlying37 rfl (by kernel_rfl)) rfl ?_
                            exact ⟨by first | rfl | (simp [errW_none, errW_some] <;> rfl) | (simp [*, errW_none, errW_some] <;> rfl), by repeat (first | (with_reducible first | exact HB.out | apply below_alloc | apply pw_below_drewN | apply below_drew1 | refine below_set ?_ GE122.out | refine below_set ?_ GE131.out) | exact HB.out)⟩
                    · replace c51 := Bool.eq_false_iff.mpr c51
                      subst c51
                      have H1 : (if x13_45 = true then (some (9223372036854775807, false)) else (if x12_45 > 9223372036854775807 then (some (9223372036854775807, false)) else (some (wrap64 (x12_45), true)))) = some (r1, r2) := by rw [if_neg (show ¬ (false = true) by decide)] at H; exact H
                      clear H
                      have H := H1
                      clear H1
                      by_cases c59 : x13_45 = true
                      · subst c59
                        have H1 : (some (9223372036854775807, false)) = some (r1, r2) := by rw [if_pos rfl] at H; exact H
                        clear H
                        have H := H1
                        clear H1
                        simp only [Option.some.injEq, Prod.mk.injEq] at H
                        obtain ⟨rfl, rfl⟩ := H
                        have hnb60 := NB122_131.out
                        have hnc60 := NB131_122.out
                        have hcz61_0 : wc.cell? ⟨gb122, 0, none⟩ = some (.int .i64 0) := (blk_cell BK122.out 0).trans rfl
                        have hcz61_1 : wc.cell? ⟨gb122, 1, none⟩ = some (.bool false) := (blk_cell BK122.out 1).trans rfl
                        have hfz61_0 := blk_frozen BK122.out 0
                        have hfz61_1 := blk_frozen BK122.out 1
                        go_wp2
                        repeat (go_quiet (fail); try go_wp2)
                        refine bodyPost_ret (results_cell_row rfl _ _ gb122 37 #[.int .i64 9223372036854775807, .bool false] (0, 0) _ rfl (by (with_reducible repeat (first | refine blk_drewN ?_ _ | refine blk_drew ?_ | refine blk_alloc ?_ _)); refine blk_put (cs := #[.int .i64 9223372036854775807, .bool false]) ?_ 1 _ rfl; (with_reducible repeat (first | refine blk_drewN ?_ _ | refine blk_drew ?_ | refine blk_alloc ?_ _)); refine blk_put (cs := #[.int .i64 0, .bool false]) ?_ 0 _ rfl; (with_reducible repeat (first | refine blk_drewN ?_ _ | refine blk_drew ?_ | refine blk_alloc ?_ _)); exact BK122.out) Try.underlying37 rfl (by kernel_rfl)) rfl ?_
                        exact ⟨by first | rfl | (simp [errW_none, errW_some] <;> rfl) | (simp [*, errW_none, errW_some] <;> rfl), by repeat (first | (with_reducible first | exact HB.out | apply below_alloc | apply pw_below_drewN | apply below_drew1 | refine below_set ?_ GE122.out | refine below_set ?_ GE131.out) | exact HB.out)⟩
                      · replace c59 := Bool.eq_false_iff.mpr c59
                        subst c59
                        have H1 : (if x12_45 > 9223372036854775807 then (some (9223372036854775807, false)) else (some (wrap64 (x12_45), true))) = some (r1, r2) := by rw [if_neg (show ¬ (false = true) by decide)] at H; exact H
                        clear H
                        have H := H1
                        clear H1
                        by_cases c62 : x12_45 > 9223372036854775807
                        · rw [if_pos c62] at H
                          have c62b0 : decide (9223372036854775807 < x12_45) = true := decide_eq_true c62
                          clear c62
                          simp only [Option.some.injEq, Prod.mk.injEq] at H
                          obtain ⟨rfl, rfl⟩ := H
                          have hnb63 := NB122_131.out
                          have hnc63 := NB131_122.out
                          have hcz64_0 : wc.cell? ⟨gb122, 0, none⟩ = some (.int .i64 0) := (blk_cell BK122.out 0).trans rfl
                          have hcz64_1 : wc.cell? ⟨gb122, 1, none⟩ = some (.bool false) := (blk_cell BK122.out 1).trans rfl
                          have hfz64_0 := blk_frozen BK122.out 0
                          have hfz64_1 := blk_frozen BK122.out 1
                          go_wp2
                          repeat (go_quiet (fail); try go_wp2)
                          refine bodyPost_ret (results_cell_row rfl _ _ gb122 37 #[.int .i64 9223372036854775807, .bool false] (0, 0) _ rfl (by (with_reducible repeat (first | refine blk_drewN ?_ _ | refine blk_drew ?_ | refine blk_alloc ?_ _)); refine blk_put (cs := #[.int .i64 9223372036854775807, .bool false]) ?_ 1 _ rfl; (with_reducible repeat (first | refine blk_drewN ?_ _ | refine blk_drew ?_ | refine blk_alloc ?_ _)); refine blk_put (cs := #[.int .i64 0, .bool false]) ?_ 0 _ rfl; (with_reducible repeat (first | refine blk_drewN ?_ _ | refine blk_drew ?_ | refine blk_alloc ?_ _)); exact BK122.out) Try.underlying37 rfl (by kernel_rfl)) rfl ?_
                          exact ⟨by first | rfl | (simp [errW_none, errW_some] <;> rfl) | (simp [*, errW_none, errW_some] <;> rfl), by repeat (first | (with_reducible first | exact HB.out | apply below_alloc | apply pw_below_drewN | apply below_drew1 | refine below_set ?_ GE122.out | refine below_set ?_ GE131.out) | exact HB.out)⟩
                        · rw [if_neg c62] at H
                          have c62b0 : decide (9223372036854775807 < x12_45) = false := decide_eq_false c62
                          clear c62
                          simp only [Option.some.injEq, Prod.mk.injEq] at H
                          obtain ⟨rfl, rfl⟩ := H
                          have hnb65 := NB122_131.out
                          have hnc65 := NB131_122.out
                          have hcz66_0 : wc.cell? ⟨gb122, 0, none⟩ = some (.int .i64 0) := (blk_cell BK122.out 0).trans rfl
                          have hcz66_1 : wc.cell? ⟨gb122, 1, none⟩ = some (.bool false) := (blk_cell BK122.out 1).trans rfl
                          have hfz66_0 := blk_frozen BK122.out 0
                          have hfz66_1 := blk_frozen BK122.out 1
                          go_wp2
                          repeat (go_quiet (fail); try go_wp2)
                          refine bodyPost_ret (results_cell_row rfl _ _ gb122 37 #[.int .i64 (wrap64 (x12_45)), .bool true] (0, 0) _ rfl (by (with_reducible repeat (first | refine blk_drewN ?_ _ | refine blk_drew ?_ | refine blk_alloc ?_ _)); refine blk_put (cs := #[.int .i64 (wrap64 (x12_45)), .bool false]) ?_ 1 _ rfl; (with_reducible repeat (first | refine blk_drewN ?_ _ | refine blk_drew ?_ | refine blk_alloc ?_ _)); refine blk_put (cs := #[.int .i64 0, .bool false]) ?_ 0 _ rfl; (with_reducible repeat (first | refine blk_drewN ?_ _ | refine blk_drew ?_ | refine blk_alloc ?_ _)); exact BK122.out) Try.underlying37 rfl (by kernel_rfl)) rfl ?_
                          exact ⟨by first | rfl | (simp [errW_none, errW_some] <;> rfl) | (simp [*, errW_none, errW_some] <;> rfl), by repeat (first | (with_reducible first | exact HB.out | apply below_alloc | apply pw_below_drewN | apply below_drew1 | refine below_set ?_ GE122.out | refine below_set ?_ GE131.out) | exact HB.out)⟩

end Go.Proofs.Ytipdmihaidpnpaa.P

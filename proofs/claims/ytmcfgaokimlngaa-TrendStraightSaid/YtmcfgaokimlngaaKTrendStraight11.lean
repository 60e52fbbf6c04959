-- PUT TOGETHER by a program of this session: of the claim's texts, what is used
import Derived.Test.YtmcfgaokimlngaaKTrendStraight5
import Derived.Test.YtmcfgaokimlngaaKTrendStraight7
import Derived.Test.YtmcfgaokimlngaaKTrendStraight10
section
namespace Go.Proofs.Ytmcfgaokimlngaa.P
open Go.RowKit Go.Proofs.YtmcfgaokimlngaaW.PrintWords Go.Proofs.YtmcfgaokimlngaaW.PrintLast Go.Proofs.YtmcfgaokimlngaaW.PrintMore
attribute [local go_sem] max2_int min2_int max_two min_two max_three min_three max_four min_four   -- for this text's walks alone
set_option linter.unusedVariables false
set_option linter.unusedSimpArgs false
mutual
def flywheellaw17_TrendStraight.j1 : Nat → Int → List Int → List Int → Bool → Option (Bool)
 | 0, _, _, _, _ => none
 | k + 1, x2, x7, x8, x9 => (fixed_Of.f (wrap64 (x2))).bind fun t402 => (if x9 = true then ((trend_Line.f k x7 x8).bind fun t403 => (if t403 = 0 then ((flywheellaw17_wakes.f k).bind fun t404 => (some t404)) else (some false))) else ((trend_Line.f k x7 x8).bind fun t405 => (if t405 = t402 then ((flywheellaw17_wakes.f k).bind fun t406 => (some t406)) else (some false))))
def flywheellaw17_TrendStraight.l0 : Nat → List Int → Int → List Int → List Int → Bool → Int → Int → Int → Option (Bool)
 | 0, _, _, _, _, _, _, _, _ => none
 | k + 1, x0, x2, x7, x8, x9, x10, x391000, x391001 => if x10 < (x0.length : Int) then (if x10 < 64 then (if 0 ≤ x10 then (if x7.length < 17592186044416 then ((some (x7 ++ [wrap64 ((wrap64 (x391000)) + (wrap64 (rd x0 x10)))] : List Int)).bind fun y393 => (if x8.length < 17592186044416 then ((some (x8 ++ [wrap64 ((wrap64 (x391001)) + (wrap64 ((wrap64 (rd x0 x10)) * (wrap64 (x2)))))] : List Int)).bind fun y397 => (if x9 = true then (if 0 < (x0.length : Int) then (flywheellaw17_TrendStraight.l0 k x0 x2 y393 y397 ((rd x0 x10) == (rd x0 0)) (wrap64 (x10 + 1)) x391000 x391001) else (none)) else (flywheellaw17_TrendStraight.l0 k x0 x2 y393 y397 false (wrap64 (x10 + 1)) x391000 x391001))) else (none))) else (none)) else (none)) else (flywheellaw17_TrendStraight.j1 k x2 x7 x8 x9)) else (flywheellaw17_TrendStraight.j1 k x2 x7 x8 x9)
end
def flywheellaw17_TrendStraight.f (k : Nat) (l0 : List Int) (a1_0 : Int) (a1_1 : Int) (a2 : Int) : Option (Bool) := if (l0.length : Int) < 2 then ((flywheellaw17_wakes.f k).bind fun t391 => (some t391)) else (flywheellaw17_TrendStraight.l0 k l0 a2 ([] : List Int) ([] : List Int) true 0 a1_0 a1_1)
def flywheellaw17_TrendStraight.T8 : Bool × List (List Nat × List Nat) := (true, [([], []), ([], []), ([1], [1]), ([2], [2]), ([], []), ([], []), ([4, 5], [4, 5]), ([6], [6]), ([7], [7]), ([3, 8], [3, 8]), ([9], [9]), ([0, 10], [0, 10]), ([11, 11, 0, 1, 2, 3, 4, 5, 6, 7, 8, 9, 10, 11], [0, 11])])
def flywheellaw17_TrendStraight.B8 : List Nat := [0, 0, 2, 6, 0, 0, 48, 112, 240, 510, 1022, 2047, 4095]
theorem flywheellaw17_TrendStraight.tab8 : rtab .any (opsOf Try.f5 8) = flywheellaw17_TrendStraight.T8 := by kernel_rfl
theorem flywheellaw17_TrendStraight.bits8 : waitsOk flywheellaw17_TrendStraight.T8.2 flywheellaw17_TrendStraight.B8 = true := by kernel_rfl
def flywheellaw17_TrendStraight.T9 : Bool × List (List Nat × List Nat) := (true, [([], []), ([], []), ([1], [1]), ([2], [2]), ([], []), ([], []), ([4, 5], [4, 5]), ([6], [6]), ([7], [7]), ([], []), ([9], [9]), ([8, 10], [8, 10]), ([3, 11], [3, 11]), ([12], [12]), ([0, 13], [0, 13]), ([14, 14, 0, 1, 2, 3, 4, 5, 6, 7, 8, 9, 10, 11, 12, 13, 14], [0, 14])])
def flywheellaw17_TrendStraight.B9 : List Nat := [0, 0, 2, 6, 0, 0, 48, 112, 240, 0, 512, 2032, 4094, 8190, 16383, 32767]
theorem flywheellaw17_TrendStraight.tab9 : rtab .any (opsOf Try.f5 9) = flywheellaw17_TrendStraight.T9 := by kernel_rfl
theorem flywheellaw17_TrendStraight.bits9 : waitsOk flywheellaw17_TrendStraight.T9.2 flywheellaw17_TrendStraight.B9 = true := by kernel_rfl
def flywheellaw17_TrendStraight.T10 : Bool × List (List Nat × List Nat) := (true, [([], []), ([0], [0]), ([1], [1]), ([1], [1]), ([2, 3, 1], [1, 2, 3]), ([4, 1], [1, 4]), ([1], [1]), ([6, 1], [1, 6]), ([7, 1], [1, 7]), ([5, 8, 1], [1, 5, 8]), ([1, 9], [1, 9]), ([10, 1, 0, 1, 2, 3, 4, 5, 6, 7, 8, 9, 10], [0, 10])])
def flywheellaw17_TrendStraight.B10 : List Nat := [0, 1, 3, 3, 15, 31, 3, 67, 195, 511, 1023, 2047]
theorem flywheellaw17_TrendStraight.tab10 : rtab .any (opsOf Try.f5 10) = flywheellaw17_TrendStraight.T10 := by kernel_rfl
theorem flywheellaw17_TrendStraight.bits10 : waitsOk flywheellaw17_TrendStraight.T10.2 flywheellaw17_TrendStraight.B10 = true := by kernel_rfl
set_option maxHeartbeats 8000000 in
set_option maxRecDepth 100000 in
theorem flywheellaw17_TrendStraight.calls (k : Nat) (A0 : Option Addr) (c0 : Nat) (l0 : List Int) (a1_0 : Int) (a1_1 : Int) (a2 : Int) (r : Bool) (w : World) (hr0 : Kd.C (Kd.int .i16) w A0 l0.length l0) (hc0 : l0.length ≤ c0) (h : flywheellaw17_TrendStraight.f k l0 a1_0 a1_1 a2 = some r) :
  Calls Try.prog 5 #[.slice A0 l0.length c0, .agg #[.int .i32 a1_0, .int .i32 a1_1], .int .i8 a2] w fun e w' => e = .returned (.bool r) ∧ Below w.heap.size w w' := by
 have hu41 := Try.underlying41
 have HR0 := Aside0.mk hr0
 have HC0 := Aside0.mk hc0
 clear hr0 hc0
 have HB := Aside0.mk (Below.refl w.heap.size w)
 have H : (if (l0.length : Int) < 2 then ((flywheellaw17_wakes.f k).bind fun t391 => (some t391)) else (flywheellaw17_TrendStraight.l0 k l0 a2 ([] : List Int) ([] : List Int) true 0 a1_0 a1_1)) = some r := h
 clear h
 by_cases c4 : (l0.length : Int) < 2
 ·rw [if_pos c4] at H
  have c4b0 : decide ((l0.length : Int) < 2) = true := decide_eq_true c4
  have c4b1 : decide (l0.length < 2) = true := decide_eq_true (by omega)
  clear c4
  replace H := Option.bind_eq_some_iff.mp H
  obtain ⟨t391, A50, H⟩ := H
  replace H : (some t391) = some r := H
  have A5 := Aside0.mk A50
  clear A50
  obtain rfl := Option.some.inj H
  go_enter Try.func5, Try.ntmps5
  go_wp2_with (first | ((with_reducible refine gate_dst (N := 4) rfl ?_); refine box_event ?hg (N := 4) ?hd (cs := #[.int .i32 a1_0, .int .i32 a1_1]) (t := 41) ?hr ?_; (case hd => rfl); (case hg => rfl); (case hr => first | (go_simp; done) | (go_simp; rfl)); intro gb390 hg w6 hbox hb; have n0_ := Aside0.mk (below_step (by repeat (first | (with_reducible first | exact HB.out | apply below_alloc | apply pw_below_drewN | apply below_drew1) | exact HB.out)) hb); have n1_ := Aside0.mk (hbox); have n2_ := Aside0.mk ((by rw [hg]; exact (below_size (by repeat (first | (with_reducible first | exact HB.out | apply below_alloc | apply pw_below_drewN | apply below_drew1) | exact HB.out))) : w.heap.size ≤ gb390)); have n3_ := Aside0.mk ((by rw [hg]; exact (below_size (by repeat (first | (with_reducible first | exact HB.out | apply below_alloc | apply pw_below_drewN | apply below_drew1) | exact HB.out))) : w.heap.size ≤ gb390)); clear HB; have HB := n0_; have BK390 := n1_; have GW390 := n2_; have GE390 := n3_; clear n0_ n1_ n2_ n3_; clear hb hbox hg) | ((with_reducible refine gate_callee (f := 10) rfl ?_); refine goesL_ (some 15) rfl rfl Try.func10 (by kernel_rfl) rfl #[] rfl (by (try simp only [List.map_toArray, List.map_cons, List.map_nil]); first | done | rfl | (simp only [List.length_drop, List.length_take]; rfl)) ?_; (with_reducible refine (flywheellaw17_wakes.calls k  t391 _ A5.out).mono ?_); rintro e w7 ⟨rfl, hb⟩; refine ⟨_, rfl, ?_⟩; have n0_ := Aside0.mk (blk_below (g := gb390) (o := .cells #[.int .i32 a1_0, .int .i32 a1_1] 41 (0, 0)) (by (with_reducible repeat (first | refine blk_drewN ?_ _ | refine blk_drew ?_ | refine blk_alloc ?_ _)); exact BK390.out) hb); have n1_ := Aside0.mk (below_step (by repeat (first | (with_reducible first | exact HB.out | apply below_alloc | apply pw_below_drewN | apply below_drew1 | refine below_set ?_ GE390.out) | exact HB.out)) hb); clear BK390; clear HB; have BK390 := n0_; have HB := n1_; clear n0_ n1_; (try clear hb); (try clear hb2); (try clear hk); (try clear hi)))
  go_ret
  exact ⟨by first | rfl | (simp [errW_none, errW_some] <;> rfl) | (simp [*, errW_none, errW_some] <;> rfl), by repeat (first | (with_reducible first | exact HB.out | apply below_alloc | apply pw_below_drewN | apply below_drew1 | refine below_set ?_ GE390.out) | exact HB.out)⟩
 ·rw [if_neg c4] at H
  have c4b0 : decide ((l0.length : Int) < 2) = false := decide_eq_false c4
  have c4b1 : decide (l0.length < 2) = false := decide_eq_false (by omega)
  clear c4
  have HC8 := Aside0.mk H
  clear H
  go_enter Try.func5, Try.ntmps5
  go_upto_block 0 with (first | ((with_reducible refine gate_dst (N := 4) rfl ?_); refine box_event ?hg (N := 4) ?hd (cs := #[.int .i32 a1_0, .int .i32 a1_1]) (t := 41) ?hr ?_; (case hd => rfl); (case hg => rfl); (case hr => first | (go_simp; done) | (go_simp; rfl)); intro gb390 hg w9 hbox hb; have n0_ := Aside0.mk (below_step (by repeat (first | (with_reducible first | exact HB.out | apply below_alloc | apply pw_below_drewN | apply below_drew1) | exact HB.out)) hb); have n1_ := Aside0.mk (hbox); have n2_ := Aside0.mk ((by rw [hg]; exact (below_size (by repeat (first | (with_reducible first | exact HB.out | apply below_alloc | apply pw_below_drewN | apply below_drew1) | exact HB.out))) : w.heap.size ≤ gb390)); have n3_ := Aside0.mk ((by rw [hg]; exact (below_size (by repeat (first | (with_reducible first | exact HB.out | apply below_alloc | apply pw_below_drewN | apply below_drew1) | exact HB.out))) : w.heap.size ≤ gb390)); clear HB; have HB := n0_; have BK390 := n1_; have GW390 := n2_; have GE390 := n3_; clear n0_ n1_ n2_ n3_; clear hb hbox hg))
  (try simp only [Act.put, List.setIfInBounds_toArray, List.set_cons_zero, List.set_cons_succ])
  go_cut [7, 8, 9] (fun v7 v8 v9 wc => ∃ (kq : Nat) (x7_7 : List Int) (x8_7 : List Int) (x9_7 : Bool), v9 = .bool x9_7 ∧ Aside0 (flywheellaw17_TrendStraight.j1 kq a2 x7_7 x8_7 x9_7 = some r) ∧ Aside0 (kq ≤ k) ∧ Aside0 (Kd.R (Kd.int .i64) 2 wc w.heap.size (fun k_ => some k_ ≠ (v8 : Value).ownBlock) v7 x7_7) ∧ Aside0 (Kd.R (Kd.int .i64) 2 wc w.heap.size (fun k_ => some k_ ≠ (v7 : Value).ownBlock) v8 x8_7) ∧ Aside0 (wc.heap[gb390]? = some (.cells #[.int .i32 a1_0, .int .i32 a1_1] 41 (0, 0))) ∧ Aside0 (Below w.heap.size w wc))
  case first =>
   have H := HC8.out
   clear HC8
   have H' := Aside0.mk H
   clear H
   go_wp2
   go_loopg [7, 8, 9, 10] k (fun kq v7 v8 v9 v10 w' => ∃ (x7_1 : List Int) (x8_1 : List Int) (x9_1 : Bool) (x10_1 : Int), v9 = .bool x9_1 ∧ v10 = .int .i64 x10_1 ∧ Aside0 (flywheellaw17_TrendStraight.l0 kq l0 a2 x7_1 x8_1 x9_1 x10_1 a1_0 a1_1 = some r) ∧ Aside0 (kq ≤ k) ∧ Aside0 (Kd.R (Kd.int .i64) 2 w' w.heap.size (fun k_ => some k_ ≠ (v8 : Value).ownBlock) v7 x7_1) ∧ Aside0 (Kd.R (Kd.int .i64) 2 w' w.heap.size (fun k_ => some k_ ≠ (v7 : Value).ownBlock) v8 x8_1) ∧ Aside0 (w'.heap[gb390]? = some (.cells #[.int .i32 a1_0, .int .i32 a1_1] 41 (0, 0))) ∧ Aside0 (Below w.heap.size w w'))
   case atStart => exact ⟨(([] : List Int)), (([] : List Int)), (true), (0), (by first | rfl | (simp; done) | (simp [*]; done)), (by first | rfl | (simp; done) | (simp [*]; done)), H', ⟨Nat.le_refl _⟩, ⟨by first | exact Kd.R_nil _ _ _ _ _ | exact Kd.N_nil _ _ _ _ _ | exact Kd.V_nil _ _ _ _ _ | exact Kd.Q_nil _ _ _ _ _ | exact Kd.S_nil _ _ _ _ _⟩, ⟨by first | exact Kd.R_nil _ _ _ _ _ | exact Kd.N_nil _ _ _ _ _ | exact Kd.V_nil _ _ _ _ _ | exact Kd.Q_nil _ _ _ _ _ | exact Kd.S_nil _ _ _ _ _⟩, ⟨by (with_reducible repeat (first | refine blk_drewN ?_ _ | refine blk_drew ?_ | refine blk_alloc ?_ _)); exact BK390.out⟩, ⟨by repeat (first | (with_reducible first | exact HB.out | apply below_alloc | apply pw_below_drewN | apply below_drew1 | refine below_set ?_ GE390.out) | exact HB.out)⟩⟩
   case round =>
    clear H'
    try clear c1
    try clear p2
    try clear c4
    try clear c4b0
    try clear c4b1
    try clear c5
    obtain ⟨x7_1, x8_1, x9_1, x10_1, rfl, rfl, HA, HK1, HO_7, HO_8, BK390, HB⟩ := hrel
    cases gk with
    | zero => exact absurd HA.out (by simp [flywheellaw17_TrendStraight.l0])
    | succ k1 =>
     have H := HA.out
     clear HA
     simp only [flywheellaw17_TrendStraight.l0] at H
     by_cases c10 : x10_1 < (l0.length : Int)
     ·rw [if_pos c10] at H
      have c10b0 : decide (x10_1 < (l0.length : Int)) = true := decide_eq_true c10
      clear c10
      (first | rw [c10b0] | (simp only [i64_w, i32_w]; rw [c10b0]) | skip)
      by_cases c11 : x10_1 < 64
      ·rw [if_pos c11] at H
       have c11b0 : decide (x10_1 < 64) = true := decide_eq_true c11
       clear c11
       by_cases c12 : 0 ≤ x10_1
       ·rw [if_pos c12] at H
        have c12b0 : decide (0 ≤ x10_1) = true := decide_eq_true c12
        clear c12
        by_cases c13 : x7_1.length < 17592186044416
        ·rw [if_pos c13] at H
         have LMc13 := Aside0.mk c13
         clear c13
         obtain ⟨y393, hy393⟩ : ∃ y_ : List Int, y_ = (x7_1 ++ [wrap64 ((wrap64 (a1_0)) + (wrap64 (rd l0 x10_1)))]) := ⟨_, rfl⟩
         replace H : (if x8_1.length < 17592186044416 then ((some (x8_1 ++ [wrap64 ((wrap64 (a1_1)) + (wrap64 ((wrap64 (rd l0 x10_1)) * (wrap64 (a2)))))] : List Int)).bind fun y397 => (if x9_1 = true then (if 0 < (l0.length : Int) then (flywheellaw17_TrendStraight.l0 k1 l0 a2 y393 y397 ((rd l0 x10_1) == (rd l0 0)) (wrap64 (x10_1 + 1)) a1_0 a1_1) else (none)) else (flywheellaw17_TrendStraight.l0 k1 l0 a2 y393 y397 false (wrap64 (x10_1 + 1)) a1_0 a1_1))) else (none)) = some r := by first | (rw [hy393]; with_reducible exact H) | (have H2_ := (Option.bind_some _ _).symm.trans H; rw [hy393]; with_reducible exact H2_) | (have H2_ := (Option.bind_some _ _).symm.trans H; with_reducible exact H2_) | with_reducible exact H | (rw [hy393]; exact H) | exact H
         have Ny393 := Aside0.mk hy393
         clear hy393
         by_cases c14 : x8_1.length < 17592186044416
         ·rw [if_pos c14] at H
          have LMc14 := Aside0.mk c14
          clear c14
          obtain ⟨y397, hy397⟩ : ∃ y_ : List Int, y_ = (x8_1 ++ [wrap64 ((wrap64 (a1_1)) + (wrap64 ((wrap64 (rd l0 x10_1)) * (wrap64 (a2)))))]) := ⟨_, rfl⟩
          replace H : (if x9_1 = true then (if 0 < (l0.length : Int) then (flywheellaw17_TrendStraight.l0 k1 l0 a2 y393 y397 ((rd l0 x10_1) == (rd l0 0)) (wrap64 (x10_1 + 1)) a1_0 a1_1) else (none)) else (flywheellaw17_TrendStraight.l0 k1 l0 a2 y393 y397 false (wrap64 (x10_1 + 1)) a1_0 a1_1)) = some r := by first | (rw [hy397]; with_reducible exact H) | (have H2_ := (Option.bind_some _ _).symm.trans H; rw [hy397]; with_reducible exact H2_) | (have H2_ := (Option.bind_some _ _).symm.trans H; with_reducible exact H2_) | with_reducible exact H | (rw [hy397]; exact H) | exact H
          have Ny397 := Aside0.mk hy397
          clear hy397
          by_cases c15 : x9_1 = true
          ·subst c15
           have H1 : (if 0 < (l0.length : Int) then (flywheellaw17_TrendStraight.l0 k1 l0 a2 y393 y397 ((rd l0 x10_1) == (rd l0 0)) (wrap64 (x10_1 + 1)) a1_0 a1_1) else (none)) = some r := by rw [if_pos rfl] at H; exact H
           clear H
           have H := H1
           clear H1
           by_cases c16 : 0 < (l0.length : Int)
           ·rw [if_pos c16] at H
            have c16b0 : decide (0 < (l0.length : Int)) = true := decide_eq_true c16
            have c16b1 : decide (0 < l0.length) = true := decide_eq_true (by omega)
            clear c16
            have H' := Aside0.mk H
            clear H
            try go_wp2
            have n0_ := Aside0.mk (Kd.R_drew HO_7.out)
            have n1_ := Aside0.mk (Kd.R_drew HO_8.out)
            have n2_ := Aside0.mk (blk_drew BK390.out)
            have n3_ := Aside0.mk (below_drew1 HB.out)
            clear HO_7
            clear HO_8
            clear BK390
            clear HB
            have HO_7 := n0_
            have HO_8 := n1_
            have BK390 := n2_
            have HB := n3_
            clear n0_ n1_ n2_ n3_
            have p392 : 0 ≤ (x10_1 : Int) := of_decide_eq_true (by first | (with_reducible assumption) | assumption)
            have q392 : x10_1 < (l0.length : Int) := of_decide_eq_true (by first | (with_reducible assumption) | assumption)
            obtain ⟨ad392, e392, hx392_0⟩ := Kd.at_int HR0.out x10_1 p392 q392
            have hw392_0 := hx392_0
            cases e392
            replace hx392_0 := (HB.out.cell (World.block_lt_of_cell? w _ hx392_0)).trans hx392_0
            replace p392 := eq_true p392
            replace q392 := eq_true q392
            refine start_ (n := 13) (S := fun w' => w'.cell? ⟨gb390, 0, none⟩ = some (.int .i32 a1_0) ∧ w'.cell? ⟨gb390, 1, none⟩ = some (.int .i32 a1_1) ∧ w'.cell? (ad392.add (x10_1).toNat) = some (.int .i16 (rd l0 x10_1))) (ds := []) #[false, false, false, false, false, false, false, false, false, false, false, false, false] (by kernel_rfl) rfl rfl ⟨(blk_cell BK390.out 0).trans rfl, (blk_cell BK390.out 1).trans rfl, ((HB.out.cell (World.block_lt_of_cell? w _ hw392_0)).trans hw392_0)⟩ (fun hHeld => ?_); refine with_tabW flywheellaw17_TrendStraight.tab8 flywheellaw17_TrendStraight.bits8 (fun HT_ HW_ => ?_)
            generalize wr.drew = w17 at HO_7 HO_8 BK390 HB hx392_0 hHeld ⊢
            refine pure_ (i := 0) (N := some 26) (v := ?_) (a' := ?_) (bl 13 1) rfl rfl (any_of HT_.out (by kernel_rfl)) (fun _ _ _ h => h) (Or.inl ⟨by rfl, ?_⟩) ?_ ?_
            rotate_left
            ·intro w'
             go_simp
             with_reducible rfl
            rotate_left
            ·simp only [puts_]
             rfl
            refine pure_ (i := 1) (N := some 27) (v := ?_) (a' := ?_) (bl 13 3) rfl rfl (any_of HT_.out (by kernel_rfl)) (fun _ _ _ h => h) (Or.inl ⟨by rfl, ?_⟩) ?_ ?_
            rotate_left
            ·intro w'
             go_simp
             with_reducible rfl
            rotate_left
            ·simp only [puts_]
             rfl
            refine pure_ (i := 4) (N := some 30) (v := ?_) (a' := ?_) (bl 13 19) rfl rfl (any_of HT_.out (by kernel_rfl)) (fun _ _ _ h => h) (Or.inl ⟨by rfl, ?_⟩) ?_ ?_
            rotate_left
            ·intro w'
             go_simp
             with_reducible rfl
            rotate_left
            ·simp only [puts_]
             rfl
            refine pure_ (i := 5) (N := some 31) (v := ?_) (a' := ?_) (bl 13 51) rfl rfl (any_of HT_.out (by kernel_rfl)) (fun _ _ _ h => h) (Or.inl ⟨by rfl, ?_⟩) ?_ ?_
            rotate_left
            ·intro w'
             go_simp
             with_reducible rfl
            rotate_left
            ·simp only [puts_]
             rfl
            refine pure_ (i := 6) (N := some 32) (v := ?_) (a' := ?_) (bl 13 115) rfl rfl (any_of HT_.out (by kernel_rfl)) (fun _ _ _ h => h) (Or.inl ⟨by rfl, ?_⟩) ?_ ?_
            rotate_left
            ·intro w'
             go_simp
             with_reducible rfl
            rotate_left
            ·simp only [puts_]
             rfl
            refine take_ (i := 2) (N := some 28) (v := ?_) (a' := ?_) (bl 13 119) rfl rfl (take_ofW HT_.out HW_.out (by kernel_rfl)) (fun _ _ _ h => h) (Or.inl ⟨by rfl, ?_⟩) hHeld ?_ ?_
            rotate_left
            ·rintro w' ⟨s0, s1, s2⟩
             go_simp
             with_reducible rfl
            rotate_left
            ·simp only [puts_]
             rfl
            refine pure_ (i := 3) (N := some 29) (v := ?_) (a' := ?_) (bl 13 127) rfl rfl (any_of HT_.out (by kernel_rfl)) (fun _ _ _ h => h) (Or.inl ⟨by rfl, ?_⟩) ?_ ?_
            rotate_left
            ·intro w'
             go_simp
             with_reducible rfl
            rotate_left
            ·simp only [puts_]
             rfl
            refine take_ (i := 7) (N := some 33) (v := ?_) (a' := ?_) (bl 13 255) rfl rfl (take_ofW HT_.out HW_.out (by kernel_rfl)) (fun _ _ _ h => h) (Or.inl ⟨by rfl, ?_⟩) hHeld ?_ ?_
            rotate_left
            ·rintro w' ⟨s0, s1, s2⟩
             go_simp
             with_reducible rfl
            rotate_left
            ·simp only [puts_]
             rfl
            refine pure_ (i := 8) (N := some 34) (v := ?_) (a' := ?_) (bl 13 511) rfl rfl (any_of HT_.out (by kernel_rfl)) (fun _ _ _ h => h) (Or.inl ⟨by rfl, ?_⟩) ?_ ?_
            rotate_left
            ·intro w'
             go_simp
             with_reducible rfl
            rotate_left
            ·simp only [puts_]
             rfl
            refine pure_ (i := 9) (N := some 35) (v := ?_) (a' := ?_) (bl 13 1023) rfl rfl (any_of HT_.out (by kernel_rfl)) (fun _ _ _ h => h) (Or.inl ⟨by rfl, ?_⟩) ?_ ?_
            rotate_left
            ·intro w'
             go_simp
             with_reducible rfl
            rotate_left
            ·simp only [puts_]
             rfl
            refine one_ (i := 10) (N := some 36) (bl 13 2047) rfl rfl (one_of HT_.out (by kernel_rfl)) (by decide) (fun K hK => ?_)
            refine value_ (w1 := ?_) (v := ?_) (by rfl) rfl ?_ ?_
            rotate_left 2
            ·go_simp
             constructor
             ·rfl
             ·rfl
            refine hK.out _ _ ⟨(blk_cell (blk_alloc BK390.out _) 0).trans rfl, (blk_cell (blk_alloc BK390.out _) 1).trans rfl, (World.cell?_alloc_lt _ _ _ (World.block_lt_of_cell? _ _ (((HB.out.cell (World.block_lt_of_cell? w _ hw392_0)).trans hw392_0)))).trans (((HB.out.cell (World.block_lt_of_cell? w _ hw392_0)).trans hw392_0))⟩ (fun hHeld => ?_)
            clear hK K
            refine norm_ (a' := ?_) ?_ ?_
            rotate_left
            ·show Act.put _ (some 36) _ = _
             simp only [puts_]
             rfl
            refine one_ (i := 11) (N := some 37) (bl 13 4095) rfl rfl (one_of HT_.out (by kernel_rfl)) (by decide) (fun K hK => ?_)
            refine Kd.R_append_step (Kd.int .i64) (w0 := w) w.heap.size (by rfl) (.tmp 26) (.tmp 36) 22 2 (.int .i64 0) 8 rfl Try.underlying22 info2 rfl (by decide) (by omega) u7 x7_1 (wrap64 ((wrap64 (a1_0)) + (wrap64 (rd l0 x10_1)))) [.int .i64 (wrap64 ((wrap64 (a1_0)) + (wrap64 (rd l0 x10_1))))] (fun k_ => some k_ ≠ (u8 : Value).ownBlock) (fun _ => False) rfl rfl ?aP (fun _ hk => hk.elim) ?aF ?aO ?aB ?aS ?aL ?_
            (case aP => exact rfl)
            (case aB => exact (by repeat (first | (with_reducible first | exact HB.out | apply below_alloc | apply pw_below_drewN | apply below_drew1 | refine below_set ?_ GE390.out) | exact HB.out)))
            (case aF => exact (fun k_ hk => Kd.fresh' (Kd.R_lt (by (with_reducible repeat (first | apply Kd.R_alloc | apply Kd.R_drewN | apply Kd.R_drew)); exact HO_8.out)) k_ hk))
            (case aO => exact (by (with_reducible repeat (first | apply Kd.R_alloc | apply Kd.R_drewN | apply Kd.R_drew)); exact HO_7.out))
            (case aS => exact (below_size (by repeat (first | (with_reducible first | exact HB.out | apply below_alloc | apply pw_below_drewN | apply below_drew1 | refine below_set ?_ GE390.out) | exact HB.out))))
            (case aL => have := LMc13.out; omega)
            intro v394 w18 ho hb hg hat
            rw [← Ny393.out] at ho
            have n0_ := Aside0.mk (Kd.R_after (ok := (fun _ => True)) (by (with_reducible repeat (first | apply Kd.R_alloc | apply Kd.R_drewN | apply Kd.R_drew)); exact Kd.R_mono HO_8.out (fun _ hk => ⟨trivial, hk⟩)) hg hat)
            have n1_ := Aside0.mk (blk_grown (g := gb390) (o := .cells #[.int .i32 a1_0, .int .i32 a1_1] 41 (0, 0)) (by (with_reducible repeat (first | refine blk_drewN ?_ _ | refine blk_drew ?_ | refine blk_alloc ?_ _)); exact BK390.out) hg (Kd.R_ne HO_7.out BK390.out (by decide)))
            have n2_ := Aside0.mk (hb)
            have n3_ := Aside0.mk (ho)
            clear HO_8
            clear BK390
            clear HB
            clear HO_7
            have HO_8 := n0_
            have BK390 := n1_
            have HB := n2_
            have HO395 := n3_
            clear n0_ n1_ n2_ n3_
            clear ho hb hg hat
            refine hK.out _ _ ⟨(blk_cell BK390.out 0).trans rfl, (blk_cell BK390.out 1).trans rfl, ((HB.out.cell (World.block_lt_of_cell? w _ hw392_0)).trans hw392_0)⟩ (fun hHeld => ?_)
            clear hK K
            refine norm_ (a' := ?_) ?_ ?_
            rotate_left
            ·show Act.put _ (some 37) _ = _
             simp only [puts_]
             rfl
            refine pure_ (i := 12) (N := some 7) (v := ?_) (a' := ?_) (bl 13 8191) rfl rfl (any_of HT_.out (by kernel_rfl)) (fun _ _ _ h => h) (Or.inl ⟨by rfl, ?_⟩) ?_ ?_
            rotate_left
            ·intro w'
             go_simp
             with_reducible rfl
            rotate_left
            ·simp only [puts_]
             rfl
            refine done_ (done_of HT_.out (by kernel_rfl)) ?_
            try go_wp2
            have n0_ := Aside0.mk (Kd.R_drew HO_8.out)
            have n1_ := Aside0.mk (Kd.R_drew HO395.out)
            have n2_ := Aside0.mk (blk_drew BK390.out)
            have n3_ := Aside0.mk (below_drew1 HB.out)
            clear HO_8
            clear HO395
            clear BK390
            clear HB
            have HO_8 := n0_
            have HO395 := n1_
            have BK390 := n2_
            have HB := n3_
            clear n0_ n1_ n2_ n3_
            have p396 : 0 ≤ (x10_1 : Int) := of_decide_eq_true (by first | (with_reducible assumption) | assumption)
            have q396 : x10_1 < (l0.length : Int) := of_decide_eq_true (by first | (with_reducible assumption) | assumption)
            obtain ⟨ad396, e396, hx396_0⟩ := Kd.at_int HR0.out x10_1 p396 q396
            have hw396_0 := hx396_0
            obtain rfl : ad392 = ad396 := (by injection e396)
            replace hx396_0 := (HB.out.cell (World.block_lt_of_cell? w _ hx396_0)).trans hx396_0
            replace p396 := eq_true p396
            replace q396 := eq_true q396
            refine start_ (n := 16) (S := fun w' => w'.cell? ⟨gb390, 0, none⟩ = some (.int .i32 a1_0) ∧ w'.cell? ⟨gb390, 1, none⟩ = some (.int .i32 a1_1) ∧ w'.cell? (ad392.add (x10_1).toNat) = some (.int .i16 (rd l0 x10_1))) (ds := []) #[false, false, false, false, false, false, false, false, false, false, false, false, false, false, false, false] (by kernel_rfl) rfl rfl ⟨(blk_cell BK390.out 0).trans rfl, (blk_cell BK390.out 1).trans rfl, ((HB.out.cell (World.block_lt_of_cell? w _ hw396_0)).trans hw396_0)⟩ (fun hHeld => ?_); refine with_tabW flywheellaw17_TrendStraight.tab9 flywheellaw17_TrendStraight.bits9 (fun HT_ HW_ => ?_)
            generalize w18.drew = w19 at HO_8 HO395 BK390 HB hx396_0 hHeld ⊢
            refine pure_ (i := 0) (N := some 38) (v := ?_) (a' := ?_) (bl 16 1) rfl rfl (any_of HT_.out (by kernel_rfl)) (fun _ _ _ h => h) (Or.inl ⟨by rfl, ?_⟩) ?_ ?_
            rotate_left
            ·intro w'
             go_simp
             with_reducible rfl
            rotate_left
            ·simp only [puts_]
             rfl
            refine pure_ (i := 1) (N := some 39) (v := ?_) (a' := ?_) (bl 16 3) rfl rfl (any_of HT_.out (by kernel_rfl)) (fun _ _ _ h => h) (Or.inl ⟨by rfl, ?_⟩) ?_ ?_
            rotate_left
            ·intro w'
             go_simp
             with_reducible rfl
            rotate_left
            ·simp only [puts_]
             rfl
            refine pure_ (i := 4) (N := some 42) (v := ?_) (a' := ?_) (bl 16 19) rfl rfl (any_of HT_.out (by kernel_rfl)) (fun _ _ _ h => h) (Or.inl ⟨by rfl, ?_⟩) ?_ ?_
            rotate_left
            ·intro w'
             go_simp
             with_reducible rfl
            rotate_left
            ·simp only [puts_]
             rfl
            refine pure_ (i := 5) (N := some 43) (v := ?_) (a' := ?_) (bl 16 51) rfl rfl (any_of HT_.out (by kernel_rfl)) (fun _ _ _ h => h) (Or.inl ⟨by rfl, ?_⟩) ?_ ?_
            rotate_left
            ·intro w'
             go_simp
             with_reducible rfl
            rotate_left
            ·simp only [puts_]
             rfl
            refine pure_ (i := 6) (N := some 44) (v := ?_) (a' := ?_) (bl 16 115) rfl rfl (any_of HT_.out (by kernel_rfl)) (fun _ _ _ h => h) (Or.inl ⟨by rfl, ?_⟩) ?_ ?_
            rotate_left
            ·intro w'
             go_simp
             with_reducible rfl
            rotate_left
            ·simp only [puts_]
             rfl
            refine pure_ (i := 9) (N := some 47) (v := ?_) (a' := ?_) (bl 16 627) rfl rfl (any_of HT_.out (by kernel_rfl)) (fun _ _ _ h => h) (Or.inl ⟨by rfl, ?_⟩) ?_ ?_
            rotate_left
            ·intro w'
             go_simp
             with_reducible rfl
            rotate_left
            ·simp only [puts_]
             rfl
            refine pure_ (i := 10) (N := some 48) (v := ?_) (a' := ?_) (bl 16 1651) rfl rfl (any_of HT_.out (by kernel_rfl)) (fun _ _ _ h => h) (Or.inl ⟨by rfl, ?_⟩) ?_ ?_
            rotate_left
            ·intro w'
             go_simp
             with_reducible rfl
            rotate_left
            ·simp only [puts_]
             rfl
            refine take_ (i := 2) (N := some 40) (v := ?_) (a' := ?_) (bl 16 1655) rfl rfl (take_ofW HT_.out HW_.out (by kernel_rfl)) (fun _ _ _ h => h) (Or.inl ⟨by rfl, ?_⟩) hHeld ?_ ?_
            rotate_left
            ·rintro w' ⟨s0, s1, s2⟩
             go_simp
             with_reducible rfl
            rotate_left
            ·simp only [puts_]
             rfl
            refine pure_ (i := 3) (N := some 41) (v := ?_) (a' := ?_) (bl 16 1663) rfl rfl (any_of HT_.out (by kernel_rfl)) (fun _ _ _ h => h) (Or.inl ⟨by rfl, ?_⟩) ?_ ?_
            rotate_left
            ·intro w'
             go_simp
             with_reducible rfl
            rotate_left
            ·simp only [puts_]
             rfl
            refine take_ (i := 7) (N := some 45) (v := ?_) (a' := ?_) (bl 16 1791) rfl rfl (take_ofW HT_.out HW_.out (by kernel_rfl)) (fun _ _ _ h => h) (Or.inl ⟨by rfl, ?_⟩) hHeld ?_ ?_
            rotate_left
            ·rintro w' ⟨s0, s1, s2⟩
             go_simp
             with_reducible rfl
            rotate_left
            ·simp only [puts_]
             rfl
            refine pure_ (i := 8) (N := some 46) (v := ?_) (a' := ?_) (bl 16 2047) rfl rfl (any_of HT_.out (by kernel_rfl)) (fun _ _ _ h => h) (Or.inl ⟨by rfl, ?_⟩) ?_ ?_
            rotate_left
            ·intro w'
             go_simp
             with_reducible rfl
            rotate_left
            ·simp only [puts_]
             rfl
            refine pure_ (i := 11) (N := some 49) (v := ?_) (a' := ?_) (bl 16 4095) rfl rfl (any_of HT_.out (by kernel_rfl)) (fun _ _ _ h => h) (Or.inl ⟨by rfl, ?_⟩) ?_ ?_
            rotate_left
            ·intro w'
             go_simp
             with_reducible rfl
            rotate_left
            ·simp only [puts_]
             rfl
            refine pure_ (i := 12) (N := some 50) (v := ?_) (a' := ?_) (bl 16 8191) rfl rfl (any_of HT_.out (by kernel_rfl)) (fun _ _ _ h => h) (Or.inl ⟨by rfl, ?_⟩) ?_ ?_
            rotate_left
            ·intro w'
             go_simp
             with_reducible rfl
            rotate_left
            ·simp only [puts_]
             rfl
            refine one_ (i := 13) (N := some 51) (bl 16 16383) rfl rfl (one_of HT_.out (by kernel_rfl)) (by decide) (fun K hK => ?_)
            refine value_ (w1 := ?_) (v := ?_) (by rfl) rfl ?_ ?_
            rotate_left 2
            ·go_simp
             constructor
             ·rfl
             ·rfl
            refine hK.out _ _ ⟨(blk_cell (blk_alloc BK390.out _) 0).trans rfl, (blk_cell (blk_alloc BK390.out _) 1).trans rfl, (World.cell?_alloc_lt _ _ _ (World.block_lt_of_cell? _ _ (((HB.out.cell (World.block_lt_of_cell? w _ hw396_0)).trans hw396_0)))).trans (((HB.out.cell (World.block_lt_of_cell? w _ hw396_0)).trans hw396_0))⟩ (fun hHeld => ?_)
            clear hK K
            refine norm_ (a' := ?_) ?_ ?_
            rotate_left
            ·show Act.put _ (some 51) _ = _
             simp only [puts_]
             rfl
            refine one_ (i := 14) (N := some 52) (bl 16 32767) rfl rfl (one_of HT_.out (by kernel_rfl)) (by decide) (fun K hK => ?_)
            refine Kd.R_append_step (Kd.int .i64) (w0 := w) w.heap.size (by rfl) (.tmp 38) (.tmp 51) 22 2 (.int .i64 0) 8 rfl Try.underlying22 info2 rfl (by decide) (by omega) u8 x8_1 (wrap64 ((wrap64 (a1_1)) + (wrap64 ((wrap64 (rd l0 x10_1)) * (wrap64 (a2)))))) [.int .i64 (wrap64 ((wrap64 (a1_1)) + (wrap64 ((wrap64 (rd l0 x10_1)) * (wrap64 (a2))))))] (fun k_ => some k_ ≠ (v394 : Value).ownBlock) (fun _ => False) rfl rfl ?aP (fun _ hk => hk.elim) ?aF ?aO ?aB ?aS ?aL ?_
            (case aP => exact rfl)
            (case aB => exact (by repeat (first | (with_reducible first | exact HB.out | apply below_alloc | apply pw_below_drewN | apply below_drew1 | refine below_set ?_ GE390.out) | exact HB.out)))
            (case aF => exact (fun k_ hk => Kd.fresh' (Kd.R_lt (by (with_reducible repeat (first | apply Kd.R_alloc | apply Kd.R_drewN | apply Kd.R_drew)); exact HO395.out)) k_ hk))
            (case aO => exact (by (with_reducible repeat (first | apply Kd.R_alloc | apply Kd.R_drewN | apply Kd.R_drew)); exact Kd.R_mono HO_8.out (fun _ hk => hk.2)))
            (case aS => exact (below_size (by repeat (first | (with_reducible first | exact HB.out | apply below_alloc | apply pw_below_drewN | apply below_drew1 | refine below_set ?_ GE390.out) | exact HB.out))))
            (case aL => have := LMc14.out; omega)
            intro v398 w20 ho hb hg hat
            rw [← Ny397.out] at ho
            have n0_ := Aside0.mk (blk_grown (g := gb390) (o := .cells #[.int .i32 a1_0, .int .i32 a1_1] 41 (0, 0)) (by (with_reducible repeat (first | refine blk_drewN ?_ _ | refine blk_drew ?_ | refine blk_alloc ?_ _)); exact BK390.out) hg (Kd.R_ne HO_8.out BK390.out (by decide)))
            have n1_ := Aside0.mk (Kd.R_after (ok := (fun _ => True)) (by (with_reducible repeat (first | apply Kd.R_alloc | apply Kd.R_drewN | apply Kd.R_drew)); exact Kd.R_mono HO395.out (fun _ hk => ⟨trivial, hk⟩)) hg hat)
            have n2_ := Aside0.mk (hb)
            have n3_ := Aside0.mk (ho)
            clear BK390
            clear HO395
            clear HB
            clear HO_8
            have BK390 := n0_
            have HO395 := n1_
            have HB := n2_
            have HO399 := n3_
            clear n0_ n1_ n2_ n3_
            clear ho hb hg hat
            refine hK.out _ _ ⟨(blk_cell BK390.out 0).trans rfl, (blk_cell BK390.out 1).trans rfl, ((HB.out.cell (World.block_lt_of_cell? w _ hw396_0)).trans hw396_0)⟩ (fun hHeld => ?_)
            clear hK K
            refine norm_ (a' := ?_) ?_ ?_
            rotate_left
            ·show Act.put _ (some 52) _ = _
             simp only [puts_]
             rfl
            refine pure_ (i := 15) (N := some 8) (v := ?_) (a' := ?_) (bl 16 65535) rfl rfl (any_of HT_.out (by kernel_rfl)) (fun _ _ _ h => h) (Or.inl ⟨by rfl, ?_⟩) ?_ ?_
            rotate_left
            ·intro w'
             go_simp
             with_reducible rfl
            rotate_left
            ·simp only [puts_]
             rfl
            refine done_ (done_of HT_.out (by kernel_rfl)) ?_
            try go_wp2
            have n0_ := Aside0.mk (Kd.R_drew HO395.out)
            have n1_ := Aside0.mk (Kd.R_drew HO399.out)
            have n2_ := Aside0.mk (blk_drew BK390.out)
            have n3_ := Aside0.mk (below_drew1 HB.out)
            clear HO395
            clear HO399
            clear BK390
            clear HB
            have HO395 := n0_
            have HO399 := n1_
            have BK390 := n2_
            have HB := n3_
            clear n0_ n1_ n2_ n3_
            have p400 : 0 ≤ (x10_1 : Int) := of_decide_eq_true (by first | (with_reducible assumption) | assumption)
            have q400 : x10_1 < (l0.length : Int) := of_decide_eq_true (by first | (with_reducible assumption) | assumption)
            obtain ⟨ad400, e400, hx400_0⟩ := Kd.at_int HR0.out x10_1 p400 q400
            have hw400_0 := hx400_0
            obtain rfl : ad392 = ad400 := (by injection e400)
            replace hx400_0 := (HB.out.cell (World.block_lt_of_cell? w _ hx400_0)).trans hx400_0
            replace p400 := eq_true p400
            replace q400 := eq_true q400
            have p401 : 0 ≤ (0 : Int) := (by omega)
            have q401 : 0 < (l0.length : Int) := of_decide_eq_true (by first | (with_reducible assumption) | assumption)
            obtain ⟨ad401, e401, hx401_0⟩ := Kd.at_int HR0.out 0 p401 q401
            have hw401_0 := hx401_0
            (try rw [show ((0 : Int)).toNat = 0 from rfl] at hw401_0)
            (try rw [show 0 * 1 = 0 from rfl] at hw401_0)
            (try rw [Addr.add_zero'] at hw401_0)
            obtain rfl : ad392 = ad401 := (by injection e401)
            have qi401 : (0 < l0.length) = True := eq_true (by omega)
            (try rw [show ((0 : Int)).toNat = 0 from rfl] at hx401_0)
            (try rw [Addr.add_zero'] at hx401_0)
            replace hx401_0 := (HB.out.cell (World.block_lt_of_cell? w _ hx401_0)).trans hx401_0
            replace p401 := eq_true p401
            replace q401 := eq_true q401
            refine start_ (n := 12) (S := fun w' => w'.cell? (ad392.add (x10_1).toNat) = some (.int .i16 (rd l0 x10_1)) ∧ w'.cell? ad392 = some (.int .i16 (rd l0 0))) (ds := []) #[false, false, false, false, false, false, false, false, false, false, false, false] (by kernel_rfl) rfl rfl ⟨((HB.out.cell (World.block_lt_of_cell? w _ hw400_0)).trans hw400_0), ((HB.out.cell (World.block_lt_of_cell? w _ hw401_0)).trans hw401_0)⟩ (fun hHeld => ?_); refine with_tabW flywheellaw17_TrendStraight.tab10 flywheellaw17_TrendStraight.bits10 (fun HT_ HW_ => ?_)
            generalize w20.drew = w21 at HO395 HO399 BK390 HB hx400_0 hx401_0 hHeld ⊢
            refine pure_ (i := 0) (N := some 53) (v := ?_) (a' := ?_) (bl 12 1) rfl rfl (any_of HT_.out (by kernel_rfl)) (fun _ _ _ h => h) (Or.inl ⟨by rfl, ?_⟩) ?_ ?_
            rotate_left
            ·intro w'
             go_simp
             with_reducible rfl
            rotate_left
            ·simp only [puts_]
             rfl
            refine pure_ (i := 1) (N := some 54) (v := ?_) (a' := ?_) (bl 12 3) rfl rfl (any_of HT_.out (by kernel_rfl)) (fun _ _ _ h => h) (Or.inl ⟨by rfl, ?_⟩) ?_ ?_
            rotate_left
            ·intro w'
             go_simp
             with_reducible rfl
            rotate_left
            ·simp only [puts_]
             rfl
            refine pure_ (i := 2) (N := some 55) (v := ?_) (a' := ?_) (bl 12 7) rfl rfl (any_of HT_.out (by kernel_rfl)) (fun _ _ _ h => h) (Or.inl ⟨by rfl, ?_⟩) ?_ ?_
            rotate_left
            ·intro w'
             go_simp
             with_reducible rfl
            rotate_left
            ·simp only [puts_]
             rfl
            refine pure_ (i := 3) (N := some 56) (v := ?_) (a' := ?_) (bl 12 15) rfl rfl (any_of HT_.out (by kernel_rfl)) (fun _ _ _ h => h) (Or.inl ⟨by rfl, ?_⟩) ?_ ?_
            rotate_left
            ·intro w'
             go_simp
             with_reducible rfl
            rotate_left
            ·simp only [puts_]
             rfl
            refine pure_ (i := 4) (N := some 57) (v := ?_) (a' := ?_) (bl 12 31) rfl rfl (any_of HT_.out (by kernel_rfl)) (fun _ _ _ h => h) (Or.inl ⟨by rfl, ?_⟩) ?_ ?_
            rotate_left
            ·intro w'
             go_simp
             with_reducible rfl
            rotate_left
            ·simp only [puts_]
             rfl
            refine pure_ (i := 6) (N := some 59) (v := ?_) (a' := ?_) (bl 12 95) rfl rfl (any_of HT_.out (by kernel_rfl)) (fun _ _ _ h => h) (Or.inl ⟨by rfl, ?_⟩) ?_ ?_
            rotate_left
            ·intro w'
             go_simp
             with_reducible rfl
            rotate_left
            ·simp only [puts_]
             rfl
            refine pure_ (i := 7) (N := some 60) (v := ?_) (a' := ?_) (bl 12 223) rfl rfl (any_of HT_.out (by kernel_rfl)) (fun _ _ _ h => h) (Or.inl ⟨by rfl, ?_⟩) ?_ ?_
            rotate_left
            ·intro w'
             go_simp
             with_reducible rfl
            rotate_left
            ·simp only [puts_]
             rfl
            refine take_ (i := 5) (N := some 58) (v := ?_) (a' := ?_) (bl 12 255) rfl rfl (take_ofW HT_.out HW_.out (by kernel_rfl)) (fun _ _ _ h => h) (Or.inl ⟨by rfl, ?_⟩) hHeld ?_ ?_
            rotate_left
            ·rintro w' ⟨s0, s1⟩
             go_simp
             with_reducible rfl
            rotate_left
            ·simp only [puts_]
             rfl
            refine take_ (i := 8) (N := some 61) (v := ?_) (a' := ?_) (bl 12 511) rfl rfl (take_ofW HT_.out HW_.out (by kernel_rfl)) (fun _ _ _ h => h) (Or.inl ⟨by rfl, ?_⟩) hHeld ?_ ?_
            rotate_left
            ·rintro w' ⟨s0, s1⟩
             go_simp
             with_reducible rfl
            rotate_left
            ·simp only [puts_]
             rfl
            refine pure_ (i := 9) (N := some 62) (v := ?_) (a' := ?_) (bl 12 1023) rfl rfl (any_of HT_.out (by kernel_rfl)) (fun _ _ _ h => h) (Or.inl ⟨by rfl, ?_⟩) ?_ ?_
            rotate_left
            ·intro w'
             go_simp
             with_reducible rfl
            rotate_left
            ·simp only [puts_]
             rfl
            refine pure_ (i := 10) (N := some 63) (v := ?_) (a' := ?_) (bl 12 2047) rfl rfl (any_of HT_.out (by kernel_rfl)) (fun _ _ _ h => h) (Or.inl ⟨by rfl, ?_⟩) ?_ ?_
            rotate_left
            ·intro w'
             go_simp
             with_reducible rfl
            rotate_left
            ·simp only [puts_]
             rfl
            refine pure_ (i := 11) (N := some 9) (v := ?_) (a' := ?_) (bl 12 4095) rfl rfl (any_of HT_.out (by kernel_rfl)) (fun _ _ _ h => h) (Or.inl ⟨by rfl, ?_⟩) ?_ ?_
            rotate_left
            ·intro w'
             go_simp
             with_reducible rfl
            rotate_left
            ·simp only [puts_]
             rfl
            refine done_ (done_of HT_.out (by kernel_rfl)) ?_
            try go_wp2
            go_roundg k1
            case measure => have := HK1.out; omega
            case rel => exact ⟨(y393), (y397), (((rd l0 x10_1) == (rd l0 0))), (wrap64 (x10_1 + 1)), (by first | rfl | (simp; done) | (simp [*]; done)), (by first | rfl | (simp; done) | (simp [*]; done)), H', ⟨by have := HK1.out; omega⟩, ⟨by (with_reducible repeat (first | apply Kd.R_alloc | apply Kd.R_drewN | apply Kd.R_drew)); exact Kd.R_mono HO395.out (fun _ hk => hk.2)⟩, ⟨by (with_reducible repeat (first | apply Kd.R_alloc | apply Kd.R_drewN | apply Kd.R_drew)); exact HO399.out⟩, ⟨by (with_reducible repeat (first | refine blk_drewN ?_ _ | refine blk_drew ?_ | refine blk_alloc ?_ _)); exact BK390.out⟩, ⟨by repeat (first | (with_reducible first | exact HB.out | apply below_alloc | apply pw_below_drewN | apply below_drew1 | refine below_set ?_ GE390.out) | exact HB.out)⟩⟩
           ·rw [if_neg c16] at H
            exact absurd H (by simp)
          ·replace c15 := Bool.eq_false_iff.mpr c15
           subst c15
           have H1 : (flywheellaw17_TrendStraight.l0 k1 l0 a2 y393 y397 false (wrap64 (x10_1 + 1)) a1_0 a1_1) = some r := by rw [if_neg (show ¬ (false = true) by decide)] at H; exact H
           clear H
           have H := H1
           clear H1
           have H' := Aside0.mk H
           clear H
           try go_wp2
           have n0_ := Aside0.mk (Kd.R_drew HO_7.out)
           have n1_ := Aside0.mk (Kd.R_drew HO_8.out)
           have n2_ := Aside0.mk (blk_drew BK390.out)
           have n3_ := Aside0.mk (below_drew1 HB.out)
           clear HO_7
           clear HO_8
           clear BK390
           clear HB
           have HO_7 := n0_
           have HO_8 := n1_
           have BK390 := n2_
           have HB := n3_
           clear n0_ n1_ n2_ n3_
           have p392 : 0 ≤ (x10_1 : Int) := of_decide_eq_true (by first | (with_reducible assumption) | assumption)
           have q392 : x10_1 < (l0.length : Int) := of_decide_eq_true (by first | (with_reducible assumption) | assumption)
           obtain ⟨ad392, e392, hx392_0⟩ := Kd.at_int HR0.out x10_1 p392 q392
           have hw392_0 := hx392_0
           cases e392
           replace hx392_0 := (HB.out.cell (World.block_lt_of_cell? w _ hx392_0)).trans hx392_0
           replace p392 := eq_true p392
           replace q392 := eq_true q392
           refine start_ (n := 13) (S := fun w' => w'.cell? ⟨gb390, 0, none⟩ = some (.int .i32 a1_0) ∧ w'.cell? ⟨gb390, 1, none⟩ = some (.int .i32 a1_1) ∧ w'.cell? (ad392.add (x10_1).toNat) = some (.int .i16 (rd l0 x10_1))) (ds := []) #[false, false, false, false, false, false, false, false, false, false, false, false, false] (by kernel_rfl) rfl rfl ⟨(blk_cell BK390.out 0).trans rfl, (blk_cell BK390.out 1).trans rfl, ((HB.out.cell (World.block_lt_of_cell? w _ hw392_0)).trans hw392_0)⟩ (fun hHeld => ?_); refine with_tabW flywheellaw17_TrendStraight.tab8 flywheellaw17_TrendStraight.bits8 (fun HT_ HW_ => ?_)
           generalize wr.drew = w22 at HO_7 HO_8 BK390 HB hx392_0 hHeld ⊢
           refine pure_ (i := 0) (N := some 26) (v := ?_) (a' := ?_) (bl 13 1) rfl rfl (any_of HT_.out (by kernel_rfl)) (fun _ _ _ h => h) (Or.inl ⟨by rfl, ?_⟩) ?_ ?_
           rotate_left
           ·intro w'
            go_simp
            with_reducible rfl
           rotate_left
           ·simp only [puts_]
            rfl
           refine pure_ (i := 1) (N := some 27) (v := ?_) (a' := ?_) (bl 13 3) rfl rfl (any_of HT_.out (by kernel_rfl)) (fun _ _ _ h => h) (Or.inl ⟨by rfl, ?_⟩) ?_ ?_
           rotate_left
           ·intro w'
            go_simp
            with_reducible rfl
           rotate_left
           ·simp only [puts_]
            rfl
           refine pure_ (i := 4) (N := some 30) (v := ?_) (a' := ?_) (bl 13 19) rfl rfl (any_of HT_.out (by kernel_rfl)) (fun _ _ _ h => h) (Or.inl ⟨by rfl, ?_⟩) ?_ ?_
           rotate_left
           ·intro w'
            go_simp
            with_reducible rfl
           rotate_left
           ·simp only [puts_]
            rfl
           refine pure_ (i := 5) (N := some 31) (v := ?_) (a' := ?_) (bl 13 51) rfl rfl (any_of HT_.out (by kernel_rfl)) (fun _ _ _ h => h) (Or.inl ⟨by rfl, ?_⟩) ?_ ?_
           rotate_left
           ·intro w'
            go_simp
            with_reducible rfl
           rotate_left
           ·simp only [puts_]
            rfl
           refine pure_ (i := 6) (N := some 32) (v := ?_) (a' := ?_) (bl 13 115) rfl rfl (any_of HT_.out (by kernel_rfl)) (fun _ _ _ h => h) (Or.inl ⟨by rfl, ?_⟩) ?_ ?_
           rotate_left
           ·intro w'
            go_simp
            with_reducible rfl
           rotate_left
           ·simp only [puts_]
            rfl
           refine take_ (i := 2) (N := some 28) (v := ?_) (a' := ?_) (bl 13 119) rfl rfl (take_ofW HT_.out HW_.out (by kernel_rfl)) (fun _ _ _ h => h) (Or.inl ⟨by rfl, ?_⟩) hHeld ?_ ?_
           rotate_left
           ·rintro w' ⟨s0, s1, s2⟩
            go_simp
            with_reducible rfl
           rotate_left
           ·simp only [puts_]
            rfl
           refine pure_ (i := 3) (N := some 29) (v := ?_) (a' := ?_) (bl 13 127) rfl rfl (any_of HT_.out (by kernel_rfl)) (fun _ _ _ h => h) (Or.inl ⟨by rfl, ?_⟩) ?_ ?_
           rotate_left
           ·intro w'
            go_simp
            with_reducible rfl
           rotate_left
           ·simp only [puts_]
            rfl
           refine take_ (i := 7) (N := some 33) (v := ?_) (a' := ?_) (bl 13 255) rfl rfl (take_ofW HT_.out HW_.out (by kernel_rfl)) (fun _ _ _ h => h) (Or.inl ⟨by rfl, ?_⟩) hHeld ?_ ?_
           rotate_left
           ·rintro w' ⟨s0, s1, s2⟩
            go_simp
            with_reducible rfl
           rotate_left
           ·simp only [puts_]
            rfl
           refine pure_ (i := 8) (N := some 34) (v := ?_) (a' := ?_) (bl 13 511) rfl rfl (any_of HT_.out (by kernel_rfl)) (fun _ _ _ h => h) (Or.inl ⟨by rfl, ?_⟩) ?_ ?_
           rotate_left
           ·intro w'
            go_simp
            with_reducible rfl
           rotate_left
           ·simp only [puts_]
            rfl
           refine pure_ (i := 9) (N := some 35) (v := ?_) (a' := ?_) (bl 13 1023) rfl rfl (any_of HT_.out (by kernel_rfl)) (fun _ _ _ h => h) (Or.inl ⟨by rfl, ?_⟩) ?_ ?_
           rotate_left
           ·intro w'
            go_simp
            with_reducible rfl
           rotate_left
           ·simp only [puts_]
            rfl
           refine one_ (i := 10) (N := some 36) (bl 13 2047) rfl rfl (one_of HT_.out (by kernel_rfl)) (by decide) (fun K hK => ?_)
           refine value_ (w1 := ?_) (v := ?_) (by rfl) rfl ?_ ?_
           rotate_left 2
           ·go_simp
            constructor
            ·rfl
            ·rfl
           refine hK.out _ _ ⟨(blk_cell (blk_alloc BK390.out _) 0).trans rfl, (blk_cell (blk_alloc BK390.out _) 1).trans rfl, (World.cell?_alloc_lt _ _ _ (World.block_lt_of_cell? _ _ (((HB.out.cell (World.block_lt_of_cell? w _ hw392_0)).trans hw392_0)))).trans (((HB.out.cell (World.block_lt_of_cell? w _ hw392_0)).trans hw392_0))⟩ (fun hHeld => ?_)
           clear hK K
           refine norm_ (a' := ?_) ?_ ?_
           rotate_left
           ·show Act.put _ (some 36) _ = _
            simp only [puts_]
            rfl
           refine one_ (i := 11) (N := some 37) (bl 13 4095) rfl rfl (one_of HT_.out (by kernel_rfl)) (by decide) (fun K hK => ?_)
           refine Kd.R_append_step (Kd.int .i64) (w0 := w) w.heap.size (by rfl) (.tmp 26) (.tmp 36) 22 2 (.int .i64 0) 8 rfl Try.underlying22 info2 rfl (by decide) (by omega) u7 x7_1 (wrap64 ((wrap64 (a1_0)) + (wrap64 (rd l0 x10_1)))) [.int .i64 (wrap64 ((wrap64 (a1_0)) + (wrap64 (rd l0 x10_1))))] (fun k_ => some k_ ≠ (u8 : Value).ownBlock) (fun _ => False) rfl rfl ?aP (fun _ hk => hk.elim) ?aF ?aO ?aB ?aS ?aL ?_
           (case aP => exact rfl)
           (case aB => exact (by repeat (first | (with_reducible first | exact HB.out | apply below_alloc | apply pw_below_drewN | apply below_drew1 | refine below_set ?_ GE390.out) | exact HB.out)))
           (case aF => exact (fun k_ hk => Kd.fresh' (Kd.R_lt (by (with_reducible repeat (first | apply Kd.R_alloc | apply Kd.R_drewN | apply Kd.R_drew)); exact HO_8.out)) k_ hk))
           (case aO => exact (by (with_reducible repeat (first | apply Kd.R_alloc | apply Kd.R_drewN | apply Kd.R_drew)); exact HO_7.out))
           (case aS => exact (below_size (by repeat (first | (with_reducible first | exact HB.out | apply below_alloc | apply pw_below_drewN | apply below_drew1 | refine below_set ?_ GE390.out) | exact HB.out))))
           (case aL => have := LMc13.out; omega)
           intro v394 w23 ho hb hg hat
           rw [← Ny393.out] at ho
           have n0_ := Aside0.mk (Kd.R_after (ok := (fun _ => True)) (by (with_reducible repeat (first | apply Kd.R_alloc | apply Kd.R_drewN | apply Kd.R_drew)); exact Kd.R_mono HO_8.out (fun _ hk => ⟨trivial, hk⟩)) hg hat)
           have n1_ := Aside0.mk (blk_grown (g := gb390) (o := .cells #[.int .i32 a1_0, .int .i32 a1_1] 41 (0, 0)) (by (with_reducible repeat (first | refine blk_drewN ?_ _ | refine blk_drew ?_ | refine blk_alloc ?_ _)); exact BK390.out) hg (Kd.R_ne HO_7.out BK390.out (by decide)))
           have n2_ := Aside0.mk (hb)
           have n3_ := Aside0.mk (ho)
           clear HO_8
           clear BK390
           clear HB
           clear HO_7
           have HO_8 := n0_
           have BK390 := n1_
           have HB := n2_
           have HO395 := n3_
           clear n0_ n1_ n2_ n3_
           clear ho hb hg hat
           refine hK.out _ _ ⟨(blk_cell BK390.out 0).trans rfl, (blk_cell BK390.out 1).trans rfl, ((HB.out.cell (World.block_lt_of_cell? w _ hw392_0)).trans hw392_0)⟩ (fun hHeld => ?_)
           clear hK K
           refine norm_ (a' := ?_) ?_ ?_
           rotate_left
           ·show Act.put _ (some 37) _ = _
            simp only [puts_]
            rfl
           refine pure_ (i := 12) (N := some 7) (v := ?_) (a' := ?_) (bl 13 8191) rfl rfl (any_of HT_.out (by kernel_rfl)) (fun _ _ _ h => h) (Or.inl ⟨by rfl, ?_⟩) ?_ ?_
           rotate_left
           ·intro w'
            go_simp
            with_reducible rfl
           rotate_left
           ·simp only [puts_]
            rfl
           refine done_ (done_of HT_.out (by kernel_rfl)) ?_
           try go_wp2
           have n0_ := Aside0.mk (Kd.R_drew HO_8.out)
           have n1_ := Aside0.mk (Kd.R_drew HO395.out)
           have n2_ := Aside0.mk (blk_drew BK390.out)
           have n3_ := Aside0.mk (below_drew1 HB.out)
           clear HO_8
           clear HO395
           clear BK390
           clear HB
           have HO_8 := n0_
           have HO395 := n1_
           have BK390 := n2_
           have HB := n3_
           clear n0_ n1_ n2_ n3_
           have p396 : 0 ≤ (x10_1 : Int) := of_decide_eq_true (by first | (with_reducible assumption) | assumption)
           have q396 : x10_1 < (l0.length : Int) := of_decide_eq_true (by first | (with_reducible assumption) | assumption)
           obtain ⟨ad396, e396, hx396_0⟩ := Kd.at_int HR0.out x10_1 p396 q396
           have hw396_0 := hx396_0
           obtain rfl : ad392 = ad396 := (by injection e396)
           replace hx396_0 := (HB.out.cell (World.block_lt_of_cell? w _ hx396_0)).trans hx396_0
           replace p396 := eq_true p396
           replace q396 := eq_true q396
           refine start_ (n := 16) (S := fun w' => w'.cell? ⟨gb390, 0, none⟩ = some (.int .i32 a1_0) ∧ w'.cell? ⟨gb390, 1, none⟩ = some (.int .i32 a1_1) ∧ w'.cell? (ad392.add (x10_1).toNat) = some (.int .i16 (rd l0 x10_1))) (ds := []) #[false, false, false, false, false, false, false, false, false, false, false, false, false, false, false, false] (by kernel_rfl) rfl rfl ⟨(blk_cell BK390.out 0).trans rfl, (blk_cell BK390.out 1).trans rfl, ((HB.out.cell (World.block_lt_of_cell? w _ hw396_0)).trans hw396_0)⟩ (fun hHeld => ?_); refine with_tabW flywheellaw17_TrendStraight.tab9 flywheellaw17_TrendStraight.bits9 (fun HT_ HW_ => ?_)
           generalize w23.drew = w24 at HO_8 HO395 BK390 HB hx396_0 hHeld ⊢
           refine pure_ (i := 0) (N := some 38) (v := ?_) (a' := ?_) (bl 16 1) rfl rfl (any_of HT_.out (by kernel_rfl)) (fun _ _ _ h => h) (Or.inl ⟨by rfl, ?_⟩) ?_ ?_
           rotate_left
           ·intro w'
            go_simp
            with_reducible rfl
           rotate_left
           ·simp only [puts_]
            rfl
           refine pure_ (i := 1) (N := some 39) (v := ?_) (a' := ?_) (bl 16 3) rfl rfl (any_of HT_.out (by kernel_rfl)) (fun _ _ _ h => h) (Or.inl ⟨by rfl, ?_⟩) ?_ ?_
           rotate_left
           ·intro w'
            go_simp
            with_reducible rfl
           rotate_left
           ·simp only [puts_]
            rfl
           refine pure_ (i := 4) (N := some 42) (v := ?_) (a' := ?_) (bl 16 19) rfl rfl (any_of HT_.out (by kernel_rfl)) (fun _ _ _ h => h) (Or.inl ⟨by rfl, ?_⟩) ?_ ?_
           rotate_left
           ·intro w'
            go_simp
            with_reducible rfl
           rotate_left
           ·simp only [puts_]
            rfl
           refine pure_ (i := 5) (N := some 43) (v := ?_) (a' := ?_) (bl 16 51) rfl rfl (any_of HT_.out (by kernel_rfl)) (fun _ _ _ h => h) (Or.inl ⟨by rfl, ?_⟩) ?_ ?_
           rotate_left
           ·intro w'
            go_simp
            with_reducible rfl
           rotate_left
           ·simp only [puts_]
            rfl
           refine pure_ (i := 6) (N := some 44) (v := ?_) (a' := ?_) (bl 16 115) rfl rfl (any_of HT_.out (by kernel_rfl)) (fun _ _ _ h => h) (Or.inl ⟨by rfl, ?_⟩) ?_ ?_
           rotate_left
           ·intro w'
            go_simp
            with_reducible rfl
           rotate_left
           ·simp only [puts_]
            rfl
           refine pure_ (i := 9) (N := some 47) (v := ?_) (a' := ?_) (bl 16 627) rfl rfl (any_of HT_.out (by kernel_rfl)) (fun _ _ _ h => h) (Or.inl ⟨by rfl, ?_⟩) ?_ ?_
           rotate_left
           ·intro w'
            go_simp
            with_reducible rfl
           rotate_left
           ·simp only [puts_]
            rfl
           refine pure_ (i := 10) (N := some 48) (v := ?_) (a' := ?_) (bl 16 1651) rfl rfl (any_of HT_.out (by kernel_rfl)) (fun _ _ _ h => h) (Or.inl ⟨by rfl, ?_⟩) ?_ ?_
           rotate_left
           ·intro w'
            go_simp
            with_reducible rfl
           rotate_left
           ·simp only [puts_]
            rfl
           refine take_ (i := 2) (N := some 40) (v := ?_) (a' := ?_) (bl 16 1655) rfl rfl (take_ofW HT_.out HW_.out (by kernel_rfl)) (fun _ _ _ h => h) (Or.inl ⟨by rfl, ?_⟩) hHeld ?_ ?_
           rotate_left
           ·rintro w' ⟨s0, s1, s2⟩
            go_simp
            with_reducible rfl
           rotate_left
           ·simp only [puts_]
            rfl
           refine pure_ (i := 3) (N := some 41) (v := ?_) (a' := ?_) (bl 16 1663) rfl rfl (any_of HT_.out (by kernel_rfl)) (fun _ _ _ h => h) (Or.inl ⟨by rfl, ?_⟩) ?_ ?_
           rotate_left
           ·intro w'
            go_simp
            with_reducible rfl
           rotate_left
           ·simp only [puts_]
            rfl
           refine take_ (i := 7) (N := some 45) (v := ?_) (a' := ?_) (bl 16 1791) rfl rfl (take_ofW HT_.out HW_.out (by kernel_rfl)) (fun _ _ _ h => h) (Or.inl ⟨by rfl, ?_⟩) hHeld ?_ ?_
           rotate_left
           ·rintro w' ⟨s0, s1, s2⟩
            go_simp
            with_reducible rfl
           rotate_left
           ·simp only [puts_]
            rfl
           refine pure_ (i := 8) (N := some 46) (v := ?_) (a' := ?_) (bl 16 2047) rfl rfl (any_of HT_.out (by kernel_rfl)) (fun _ _ _ h => h) (Or.inl ⟨by rfl, ?_⟩) ?_ ?_
           rotate_left
           ·intro w'
            go_simp
            with_reducible rfl
           rotate_left
           ·simp only [puts_]
            rfl
           refine pure_ (i := 11) (N := some 49) (v := ?_) (a' := ?_) (bl 16 4095) rfl rfl (any_of HT_.out (by kernel_rfl)) (fun _ _ _ h => h) (Or.inl ⟨by rfl, ?_⟩) ?_ ?_
           rotate_left
           ·intro w'
            go_simp
            with_reducible rfl
           rotate_left
           ·simp only [puts_]
            rfl
           refine pure_ (i := 12) (N := some 50) (v := ?_) (a' := ?_) (bl 16 8191) rfl rfl (any_of HT_.out (by kernel_rfl)) (fun _ _ _ h => h) (Or.inl ⟨by rfl, ?_⟩) ?_ ?_
           rotate_left
           ·intro w'
            go_simp
            with_reducible rfl
           rotate_left
           ·simp only [puts_]
            rfl
           refine one_ (i := 13) (N := some 51) (bl 16 16383) rfl rfl (one_of HT_.out (by kernel_rfl)) (by decide) (fun K hK => ?_)
           refine value_ (w1 := ?_) (v := ?_) (by rfl) rfl ?_ ?_
           rotate_left 2
           ·go_simp
            constructor
            ·rfl
            ·rfl
           refine hK.out _ _ ⟨(blk_cell (blk_alloc BK390.out _) 0).trans rfl, (blk_cell (blk_alloc BK390.out _) 1).trans rfl, (World.cell?_alloc_lt _ _ _ (World.block_lt_of_cell? _ _ (((HB.out.cell (World.block_lt_of_cell? w _ hw396_0)).trans hw396_0)))).trans (((HB.out.cell (World.block_lt_of_cell? w _ hw396_0)).trans hw396_0))⟩ (fun hHeld => ?_)
           clear hK K
           refine norm_ (a' := ?_) ?_ ?_
           rotate_left
           ·show Act.put _ (some 51) _ = _
            simp only [puts_]
            rfl
           refine one_ (i := 14) (N := some 52) (bl 16 32767) rfl rfl (one_of HT_.out (by kernel_rfl)) (by decide) (fun K hK => ?_)
           refine Kd.R_append_step (Kd.int .i64) (w0 := w) w.heap.size (by rfl) (.tmp 38) (.tmp 51) 22 2 (.int .i64 0) 8 rfl Try.underlying22 info2 rfl (by decide) (by omega) u8 x8_1 (wrap64 ((wrap64 (a1_1)) + (wrap64 ((wrap64 (rd l0 x10_1)) * (wrap64 (a2)))))) [.int .i64 (wrap64 ((wrap64 (a1_1)) + (wrap64 ((wrap64 (rd l0 x10_1)) * (wrap64 (a2))))))] (fun k_ => some k_ ≠ (v394 : Value).ownBlock) (fun _ => False) rfl rfl ?aP (fun _ hk => hk.elim) ?aF ?aO ?aB ?aS ?aL ?_
           (case aP => exact rfl)
           (case aB => exact (by repeat (first | (with_reducible first | exact HB.out | apply below_alloc | apply pw_below_drewN | apply below_drew1 | refine below_set ?_ GE390.out) | exact HB.out)))
           (case aF => exact (fun k_ hk => Kd.fresh' (Kd.R_lt (by (with_reducible repeat (first | apply Kd.R_alloc | apply Kd.R_drewN | apply Kd.R_drew)); exact HO395.out)) k_ hk))
           (case aO => exact (by (with_reducible repeat (first | apply Kd.R_alloc | apply Kd.R_drewN | apply Kd.R_drew)); exact Kd.R_mono HO_8.out (fun _ hk => hk.2)))
           (case aS => exact (below_size (by repeat (first | (with_reducible first | exact HB.out | apply below_alloc | apply pw_below_drewN | apply below_drew1 | refine below_set ?_ GE390.out) | exact HB.out))))
           (case aL => have := LMc14.out; omega)
           intro v398 w25 ho hb hg hat
           rw [← Ny397.out] at ho
           have n0_ := Aside0.mk (blk_grown (g := gb390) (o := .cells #[.int .i32 a1_0, .int .i32 a1_1] 41 (0, 0)) (by (with_reducible repeat (first | refine blk_drewN ?_ _ | refine blk_drew ?_ | refine blk_alloc ?_ _)); exact BK390.out) hg (Kd.R_ne HO_8.out BK390.out (by decide)))
           have n1_ := Aside0.mk (Kd.R_after (ok := (fun _ => True)) (by (with_reducible repeat (first | apply Kd.R_alloc | apply Kd.R_drewN | apply Kd.R_drew)); exact Kd.R_mono HO395.out (fun _ hk => ⟨trivial, hk⟩)) hg hat)
           have n2_ := Aside0.mk (hb)
           have n3_ := Aside0.mk (ho)
           clear BK390
           clear HO395
           clear HB
           clear HO_8
           have BK390 := n0_
           have HO395 := n1_
           have HB := n2_
           have HO399 := n3_
           clear n0_ n1_ n2_ n3_
           clear ho hb hg hat
           refine hK.out _ _ ⟨(blk_cell BK390.out 0).trans rfl, (blk_cell BK390.out 1).trans rfl, ((HB.out.cell (World.block_lt_of_cell? w _ hw396_0)).trans hw396_0)⟩ (fun hHeld => ?_)
           clear hK K
           refine norm_ (a' := ?_) ?_ ?_
           rotate_left
           ·show Act.put _ (some 52) _ = _
            simp only [puts_]
            rfl
           refine pure_ (i := 15) (N := some 8) (v := ?_) (a' := ?_) (bl 16 65535) rfl rfl (any_of HT_.out (by kernel_rfl)) (fun _ _ _ h => h) (Or.inl ⟨by rfl, ?_⟩) ?_ ?_
           rotate_left
           ·intro w'
            go_simp
            with_reducible rfl
           rotate_left
           ·simp only [puts_]
            rfl
           refine done_ (done_of HT_.out (by kernel_rfl)) ?_
           try go_wp2
           have n0_ := Aside0.mk (Kd.R_drew HO395.out)
           have n1_ := Aside0.mk (Kd.R_drew HO399.out)
           have n2_ := Aside0.mk (blk_drew BK390.out)
           have n3_ := Aside0.mk (below_drew1 HB.out)
           clear HO395
           clear HO399
           clear BK390
           clear HB
           have HO395 := n0_
           have HO399 := n1_
           have BK390 := n2_
           have HB := n3_
           clear n0_ n1_ n2_ n3_
           refine start_ (n := 12) (S := fun w' => True) (ds := []) #[false, false, false, false, false, false, false, false, false, false, false, false] (by kernel_rfl) rfl rfl trivial (fun hHeld => ?_); refine with_tabW flywheellaw17_TrendStraight.tab10 flywheellaw17_TrendStraight.bits10 (fun HT_ HW_ => ?_)
           generalize w25.drew = w26 at HO395 HO399 BK390 HB hHeld ⊢
           refine pure_ (i := 0) (N := some 53) (v := ?_) (a' := ?_) (bl 12 1) rfl rfl (any_of HT_.out (by kernel_rfl)) (fun _ _ _ h => h) (Or.inl ⟨by rfl, ?_⟩) ?_ ?_
           rotate_left
           ·intro w'
            go_simp
            with_reducible rfl
           rotate_left
           ·simp only [puts_]
            rfl
           refine pure_ (i := 1) (N := some 54) (v := ?_) (a' := ?_) (bl 12 3) rfl rfl (any_of HT_.out (by kernel_rfl)) (fun _ _ _ h => h) (Or.inl ⟨by rfl, ?_⟩) ?_ ?_
           rotate_left
           ·intro w'
            go_simp
            with_reducible rfl
           rotate_left
           ·simp only [puts_]
            rfl
           refine pure_ (i := 2) (N := some 55) (v := undef) (a' := ?_) (bl 12 7) rfl rfl (any_of HT_.out (by kernel_rfl)) (fun _ _ _ h => h) (Or.inr ⟨by rfl, rfl⟩) ?_ ?_
           rotate_left
           ·simp only [puts_]
            rfl
           refine pure_ (i := 3) (N := some 56) (v := undef) (a' := ?_) (bl 12 15) rfl rfl (any_of HT_.out (by kernel_rfl)) (fun _ _ _ h => h) (Or.inr ⟨by rfl, rfl⟩) ?_ ?_
           rotate_left
           ·simp only [puts_]
            rfl
           refine pure_ (i := 4) (N := some 57) (v := undef) (a' := ?_) (bl 12 31) rfl rfl (any_of HT_.out (by kernel_rfl)) (fun _ _ _ h => h) (Or.inr ⟨by rfl, rfl⟩) ?_ ?_
           rotate_left
           ·simp only [puts_]
            rfl
           refine pure_ (i := 5) (N := some 58) (v := undef) (a' := ?_) (bl 12 63) rfl rfl (any_of HT_.out (by kernel_rfl)) (fun _ _ _ h => h) (Or.inr ⟨by rfl, rfl⟩) ?_ ?_
           rotate_left
           ·simp only [puts_]
            rfl
           refine pure_ (i := 6) (N := some 59) (v := undef) (a' := ?_) (bl 12 127) rfl rfl (any_of HT_.out (by kernel_rfl)) (fun _ _ _ h => h) (Or.inr ⟨by rfl, rfl⟩) ?_ ?_
           rotate_left
           ·simp only [puts_]
            rfl
           refine pure_ (i := 7) (N := some 60) (v := undef) (a' := ?_) (bl 12 255) rfl rfl (any_of HT_.out (by kernel_rfl)) (fun _ _ _ h => h) (Or.inr ⟨by rfl, rfl⟩) ?_ ?_
           rotate_left
           ·simp only [puts_]
            rfl
           refine pure_ (i := 8) (N := some 61) (v := undef) (a' := ?_) (bl 12 511) rfl rfl (any_of HT_.out (by kernel_rfl)) (fun _ _ _ h => h) (Or.inr ⟨by rfl, rfl⟩) ?_ ?_
           rotate_left
           ·simp only [puts_]
            rfl
           refine pure_ (i := 9) (N := some 62) (v := undef) (a' := ?_) (bl 12 1023) rfl rfl (any_of HT_.out (by kernel_rfl)) (fun _ _ _ h => h) (Or.inr ⟨by rfl, rfl⟩) ?_ ?_
           rotate_left
           ·simp only [puts_]
            rfl
           refine pure_ (i := 10) (N := some 63) (v := ?_) (a' := ?_) (bl 12 2047) rfl rfl (any_of HT_.out (by kernel_rfl)) (fun _ _ _ h => h) (Or.inl ⟨by rfl, ?_⟩) ?_ ?_
           rotate_left
           ·intro w'
            go_simp
            with_reducible rfl
           rotate_left
           ·simp only [puts_]
            rfl
           refine pure_ (i := 11) (N := some 9) (v := ?_) (a' := ?_) (bl 12 4095) rfl rfl (any_of HT_.out (by kernel_rfl)) (fun _ _ _ h => h) (Or.inl ⟨by rfl, ?_⟩) ?_ ?_
           rotate_left
           ·intro w'
            go_simp
            with_reducible rfl
           rotate_left
           ·simp only [puts_]
            rfl
           refine done_ (done_of HT_.out (by kernel_rfl)) ?_
           try go_wp2
           go_roundg k1
           case measure => have := HK1.out; omega
           case rel => exact ⟨(y393), (y397), (false), (wrap64 (x10_1 + 1)), (by first | rfl | (simp; done) | (simp [*]; done)), (by first | rfl | (simp; done) | (simp [*]; done)), H', ⟨by have := HK1.out; omega⟩, ⟨by (with_reducible repeat (first | apply Kd.R_alloc | apply Kd.R_drewN | apply Kd.R_drew)); exact Kd.R_mono HO395.out (fun _ hk => hk.2)⟩, ⟨by (with_reducible repeat (first | apply Kd.R_alloc | apply Kd.R_drewN | apply Kd.R_drew)); exact HO399.out⟩, ⟨by (with_reducible repeat (first | refine blk_drewN ?_ _ | refine blk_drew ?_ | refine blk_alloc ?_ _)); exact BK390.out⟩, ⟨by repeat (first | (with_reducible first | exact HB.out | apply below_alloc | apply pw_below_drewN | apply below_drew1 | refine below_set ?_ GE390.out) | exact HB.out)⟩⟩
         ·rw [if_neg c14] at H
          exact absurd H (by simp)
        ·rw [if_neg c13] at H
         exact absurd H (by simp)
       ·rw [if_neg c12] at H
        exact absurd H (by simp)
      ·rw [if_neg c11] at H
       have c11b0 : decide (x10_1 < 64) = false := decide_eq_false c11
       clear c11
       have H' := Aside0.mk H
       clear H
       go_wp2
       go_meet
       case rel => exact ⟨_, (x7_1), (x8_1), (x9_1), (by first | rfl | (simp; done) | (simp [*]; done)), H', ⟨by have := HK1.out; first | omega | exact Nat.le_refl _⟩, ⟨by (with_reducible repeat (first | apply Kd.R_alloc | apply Kd.R_drewN | apply Kd.R_drew)); exact HO_7.out⟩, ⟨by (with_reducible repeat (first | apply Kd.R_alloc | apply Kd.R_drewN | apply Kd.R_drew)); exact HO_8.out⟩, ⟨by (with_reducible repeat (first | refine blk_drewN ?_ _ | refine blk_drew ?_ | refine blk_alloc ?_ _)); exact BK390.out⟩, ⟨by repeat (first | (with_reducible first | exact HB.out | apply below_alloc | apply pw_below_drewN | apply below_drew1 | refine below_set ?_ GE390.out) | exact HB.out)⟩⟩
     ·rw [if_neg c10] at H
      have c10b0 : decide (x10_1 < (l0.length : Int)) = false := decide_eq_false c10
      clear c10
      (first | rw [c10b0] | (simp only [i64_w, i32_w]; rw [c10b0]) | skip)
      have H' := Aside0.mk H
      clear H
      go_wp2
      go_meet
      case rel => exact ⟨_, (x7_1), (x8_1), (x9_1), (by first | rfl | (simp; done) | (simp [*]; done)), H', ⟨by have := HK1.out; first | omega | exact Nat.le_refl _⟩, ⟨by (with_reducible repeat (first | apply Kd.R_alloc | apply Kd.R_drewN | apply Kd.R_drew)); exact HO_7.out⟩, ⟨by (with_reducible repeat (first | apply Kd.R_alloc | apply Kd.R_drewN | apply Kd.R_drew)); exact HO_8.out⟩, ⟨by (with_reducible repeat (first | refine blk_drewN ?_ _ | refine blk_drew ?_ | refine blk_alloc ?_ _)); exact BK390.out⟩, ⟨by repeat (first | (with_reducible first | exact HB.out | apply below_alloc | apply pw_below_drewN | apply below_drew1 | refine below_set ?_ GE390.out) | exact HB.out)⟩⟩
  case rest =>
   clear HC8
   try clear c1
   try clear p2
   try clear p3
   try clear q3
   try clear hx3
   try clear p4
   try clear q4
   try clear hx4
   try clear qi4
   try clear p6
   try clear c10
   try clear c10b0
   try clear c11
   try clear c11b0
   try clear c12
   try clear c13
   try clear c14
   try clear c15
   try clear c16
   try clear hx392_0
   try clear hx396_0
   try clear hx400_0
   try clear hx401_0
   try clear p392
   try clear p396
   try clear p400
   try clear p401
   try clear q392
   try clear q396
   try clear q400
   try clear q401
   obtain ⟨kq, x7_7, x8_7, x9_7, rfl, HA, HJ7, HO_7, HO_8, BK390, HB⟩ := hcut
   cases kq with
   | zero => exact absurd HA.out (by simp [flywheellaw17_TrendStraight.j1])
   | succ kj7 =>
    have H := HA.out
    clear HA
    simp only [flywheellaw17_TrendStraight.j1] at H
    replace H := Option.bind_eq_some_iff.mp H
    obtain ⟨t402, A270, H⟩ := H
    replace H : (if x9_7 = true then ((trend_Line.f kj7 x7_7 x8_7).bind fun t403 => (if t403 = 0 then ((flywheellaw17_wakes.f kj7).bind fun t404 => (some t404)) else (some false))) else ((trend_Line.f kj7 x7_7 x8_7).bind fun t405 => (if t405 = t402 then ((flywheellaw17_wakes.f kj7).bind fun t406 => (some t406)) else (some false)))) = some r := H
    have A27 := Aside0.mk A270
    clear A270
    by_cases c28 : x9_7 = true
    ·subst c28
     have H1 : ((trend_Line.f kj7 x7_7 x8_7).bind fun t403 => (if t403 = 0 then ((flywheellaw17_wakes.f kj7).bind fun t404 => (some t404)) else (some false))) = some r := by rw [if_pos rfl] at H; exact H
     clear H
     have H := H1
     clear H1
     replace H := Option.bind_eq_some_iff.mp H
     obtain ⟨t403, A290, H⟩ := H
     replace H : (if t403 = 0 then ((flywheellaw17_wakes.f kj7).bind fun t404 => (some t404)) else (some false)) = some r := H
     have A29 := Aside0.mk A290
     clear A290
     by_cases c30 : t403 = 0
     ·rw [if_pos c30] at H
      have c30b0 : (t403 == 0) = true := beq_iff_eq.mpr c30
      have c30b1 : (t403 != 0) = false := bne_eq_false_iff_eq.mpr c30
      clear c30
      replace H := Option.bind_eq_some_iff.mp H
      obtain ⟨t404, A310, H⟩ := H
      replace H : (some t404) = some r := H
      have A31 := Aside0.mk A310
      clear A310
      obtain rfl := Option.some.inj H
      go_wp2_with (first | ((with_reducible refine gate_callee (f := 22) rfl ?_); refine goesL_ (some 66) rfl rfl Try.func22 (by kernel_rfl) rfl #[.int .i64 (wrap64 (a2))] rfl (by (try simp only [List.map_toArray, List.map_cons, List.map_nil]); first | done | rfl | (simp only [List.length_drop, List.length_take]; rfl)) ?_; (with_reducible refine (fixed_Of.calls (wrap64 (a2)) t402 _ A27.out).mono ?_); rintro e w32 ⟨rfl, hb⟩; refine ⟨_, rfl, ?_⟩; have n0_ := Aside0.mk (Kd.R_below (by (with_reducible repeat (first | apply Kd.R_alloc | apply Kd.R_drewN | apply Kd.R_drew)); exact HO_7.out) hb); have n1_ := Aside0.mk (Kd.R_below (by (with_reducible repeat (first | apply Kd.R_alloc | apply Kd.R_drewN | apply Kd.R_drew)); exact HO_8.out) hb); have n2_ := Aside0.mk (blk_below (g := gb390) (o := .cells #[.int .i32 a1_0, .int .i32 a1_1] 41 (0, 0)) (by (with_reducible repeat (first | refine blk_drewN ?_ _ | refine blk_drew ?_ | refine blk_alloc ?_ _)); exact BK390.out) hb); have n3_ := Aside0.mk (below_step (by repeat (first | (with_reducible first | exact HB.out | apply below_alloc | apply pw_below_drewN | apply below_drew1 | refine below_set ?_ GE390.out) | exact HB.out)) hb); clear HO_7; clear HO_8; clear BK390; clear HB; have HO_7 := n0_; have HO_8 := n1_; have BK390 := n2_; have HB := n3_; clear n0_ n1_ n2_ n3_; (try clear hb); (try clear hb2); (try clear hk); (try clear hi); obtain ⟨Ao33, co33, eo33⟩ := Kd.R_slice HO_7.out; subst eo33; obtain ⟨Ao34, co34, eo34⟩ := Kd.R_slice HO_8.out; subst eo34) | ((with_reducible refine gate_callee (f := 11) rfl ?_); refine goesL_ (some 70) rfl rfl Try.func11 (by kernel_rfl) rfl #[.slice Ao33 x7_7.length co33, .slice Ao34 x8_7.length co34] rfl (by (try simp only [List.map_toArray, List.map_cons, List.map_nil]); first | done | rfl | (simp only [List.length_drop, List.length_take]; rfl)) ?_; (with_reducible refine (trend_Line.calls kj7 _ _ x7_7 _ _ x8_7 t403 _ ?side1 ?side2 ?side3 ?side4 A29.out).mono ?_); (case side1 => repeat (first | exact (Kd.R_reads' HO_7.out).2.2 | (with_reducible refine Kd.C_alloc ?_ _) | (with_reducible refine Kd.C_drewN ?_ _) | (with_reducible refine Kd.C_drew ?_))); (case side2 => exact (Kd.R_reads' HO_7.out).2.1); (case side3 => repeat (first | exact (Kd.R_reads' HO_8.out).2.2 | (with_reducible refine Kd.C_alloc ?_ _) | (with_reducible refine Kd.C_drewN ?_ _) | (with_reducible refine Kd.C_drew ?_))); (case side4 => exact (Kd.R_reads' HO_8.out).2.1); rintro e w35 ⟨rfl, hb⟩; refine ⟨_, rfl, ?_⟩; have n0_ := Aside0.mk (Kd.R_below (by (with_reducible repeat (first | apply Kd.R_alloc | apply Kd.R_drewN | apply Kd.R_drew)); exact HO_7.out) hb); have n1_ := Aside0.mk (Kd.R_below (by (with_reducible repeat (first | apply Kd.R_alloc | apply Kd.R_drewN | apply Kd.R_drew)); exact HO_8.out) hb); have n2_ := Aside0.mk (blk_below (g := gb390) (o := .cells #[.int .i32 a1_0, .int .i32 a1_1] 41 (0, 0)) (by (with_reducible repeat (first | refine blk_drewN ?_ _ | refine blk_drew ?_ | refine blk_alloc ?_ _)); exact BK390.out) hb); have n3_ := Aside0.mk (below_step (by repeat (first | (with_reducible first | exact HB.out | apply below_alloc | apply pw_below_drewN | apply below_drew1 | refine below_set ?_ GE390.out) | exact HB.out)) hb); clear HO_7; clear HO_8; clear BK390; clear HB; have HO_7 := n0_; have HO_8 := n1_; have BK390 := n2_; have HB := n3_; clear n0_ n1_ n2_ n3_; (try clear hb); (try clear hb2); (try clear hk); (try clear hi)) | (go_at_call 10; (with_reducible refine (flywheellaw17_wakes.calls kj7  t404 _ A31.out).mono ?_); rintro e w36 ⟨rfl, hb⟩; have n0_ := Aside0.mk (Kd.R_below (by (with_reducible repeat (first | apply Kd.R_alloc | apply Kd.R_drewN | apply Kd.R_drew)); exact HO_7.out) hb); have n1_ := Aside0.mk (Kd.R_below (by (with_reducible repeat (first | apply Kd.R_alloc | apply Kd.R_drewN | apply Kd.R_drew)); exact HO_8.out) hb); have n2_ := Aside0.mk (blk_below (g := gb390) (o := .cells #[.int .i32 a1_0, .int .i32 a1_1] 41 (0, 0)) (by (with_reducible repeat (first | refine blk_drewN ?_ _ | refine blk_drew ?_ | refine blk_alloc ?_ _)); exact BK390.out) hb); have n3_ := Aside0.mk (below_step (by repeat (first | (with_reducible first | exact HB.out | apply below_alloc | apply pw_below_drewN | apply below_drew1 | refine below_set ?_ GE390.out) | exact HB.out)) hb); clear HO_7; clear HO_8; clear BK390; clear HB; have HO_7 := n0_; have HO_8 := n1_; have BK390 := n2_; have HB := n3_; clear n0_ n1_ n2_ n3_; (try clear hb); (try clear hb2); (try clear hk); (try clear hi)))
      go_ret
      exact ⟨by first | rfl | (simp [errW_none, errW_some] <;> rfl) | (simp [*, errW_none, errW_some] <;> rfl), by repeat (first | (with_reducible first | exact HB.out | apply below_alloc | apply pw_below_drewN | apply below_drew1 | refine below_set ?_ GE390.out) | exact HB.out)⟩
     ·rw [if_neg c30] at H
      have c30b0 : (t403 == 0) = false := beq_eq_false_iff_ne.mpr c30
      have c30b1 : (t403 != 0) = true := bne_iff_ne.mpr c30
      obtain rfl := Option.some.inj H
      go_wp2_with (first | ((with_reducible refine gate_callee (f := 22) rfl ?_); refine goesL_ (some 66) rfl rfl Try.func22 (by kernel_rfl) rfl #[.int .i64 (wrap64 (a2))] rfl (by (try simp only [List.map_toArray, List.map_cons, List.map_nil]); first | done | rfl | (simp only [List.length_drop, List.length_take]; rfl)) ?_; (with_reducible refine (fixed_Of.calls (wrap64 (a2)) t402 _ A27.out).mono ?_); rintro e w37 ⟨rfl, hb⟩; refine ⟨_, rfl, ?_⟩; have n0_ := Aside0.mk (Kd.R_below (by (with_reducible repeat (first | apply Kd.R_alloc | apply Kd.R_drewN | apply Kd.R_drew)); exact HO_7.out) hb); have n1_ := Aside0.mk (Kd.R_below (by (with_reducible repeat (first | apply Kd.R_alloc | apply Kd.R_drewN | apply Kd.R_drew)); exact HO_8.out) hb); have n2_ := Aside0.mk (blk_below (g := gb390) (o := .cells #[.int .i32 a1_0, .int .i32 a1_1] 41 (0, 0)) (by (with_reducible repeat (first | refine blk_drewN ?_ _ | refine blk_drew ?_ | refine blk_alloc ?_ _)); exact BK390.out) hb); have n3_ := Aside0.mk (below_step (by repeat (first | (with_reducible first | exact HB.out | apply below_alloc | apply pw_below_drewN | apply below_drew1 | refine below_set ?_ GE390.out) | exact HB.out)) hb); clear HO_7; clear HO_8; clear BK390; clear HB; have HO_7 := n0_; have HO_8 := n1_; have BK390 := n2_; have HB := n3_; clear n0_ n1_ n2_ n3_; (try clear hb); (try clear hb2); (try clear hk); (try clear hi); obtain ⟨Ao38, co38, eo38⟩ := Kd.R_slice HO_7.out; subst eo38; obtain ⟨Ao39, co39, eo39⟩ := Kd.R_slice HO_8.out; subst eo39) | ((with_reducible refine gate_callee (f := 11) rfl ?_); refine goesL_ (some 70) rfl rfl Try.func11 (by kernel_rfl) rfl #[.slice Ao38 x7_7.length co38, .slice Ao39 x8_7.length co39] rfl (by (try simp only [List.map_toArray, List.map_cons, List.map_nil]); first | done | rfl | (simp only [List.length_drop, List.length_take]; rfl)) ?_; (with_reducible refine (trend_Line.calls kj7 _ _ x7_7 _ _ x8_7 t403 _ ?side1 ?side2 ?side3 ?side4 A29.out).mono ?_); (case side1 => repeat (first | exact (Kd.R_reads' HO_7.out).2.2 | (with_reducible refine Kd.C_alloc ?_ _) | (with_reducible refine Kd.C_drewN ?_ _) | (with_reducible refine Kd.C_drew ?_))); (case side2 => exact (Kd.R_reads' HO_7.out).2.1); (case side3 => repeat (first | exact (Kd.R_reads' HO_8.out).2.2 | (with_reducible refine Kd.C_alloc ?_ _) | (with_reducible refine Kd.C_drewN ?_ _) | (with_reducible refine Kd.C_drew ?_))); (case side4 => exact (Kd.R_reads' HO_8.out).2.1); rintro e w40 ⟨rfl, hb⟩; refine ⟨_, rfl, ?_⟩; have n0_ := Aside0.mk (Kd.R_below (by (with_reducible repeat (first | apply Kd.R_alloc | apply Kd.R_drewN | apply Kd.R_drew)); exact HO_7.out) hb); have n1_ := Aside0.mk (Kd.R_below (by (with_reducible repeat (first | apply Kd.R_alloc | apply Kd.R_drewN | apply Kd.R_drew)); exact HO_8.out) hb); have n2_ := Aside0.mk (blk_below (g := gb390) (o := .cells #[.int .i32 a1_0, .int .i32 a1_1] 41 (0, 0)) (by (with_reducible repeat (first | refine blk_drewN ?_ _ | refine blk_drew ?_ | refine blk_alloc ?_ _)); exact BK390.out) hb); have n3_ := Aside0.mk (below_step (by repeat (first | (with_reducible first | exact HB.out | apply below_alloc | apply pw_below_drewN | apply below_drew1 | refine below_set ?_ GE390.out) | exact HB.out)) hb); clear HO_7; clear HO_8; clear BK390; clear HB; have HO_7 := n0_; have HO_8 := n1_; have BK390 := n2_; have HB := n3_; clear n0_ n1_ n2_ n3_; (try clear hb); (try clear hb2); (try clear hk); (try clear hi)))
      go_ret
      exact ⟨by first | rfl | (simp [errW_none, errW_some] <;> rfl) | (simp [*, errW_none, errW_some] <;> rfl), by repeat (first | (with_reducible first | exact HB.out | apply below_alloc | apply pw_below_drewN | apply below_drew1 | refine below_set ?_ GE390.out) | exact HB.out)⟩
    ·replace c28 := Bool.eq_false_iff.mpr c28
     subst c28
     have H1 : ((trend_Line.f kj7 x7_7 x8_7).bind fun t405 => (if t405 = t402 then ((flywheellaw17_wakes.f kj7).bind fun t406 => (some t406)) else (some false))) = some r := by rw [if_neg (show ¬ (false = true) by decide)] at H; exact H
     clear H
     have H := H1
     clear H1
     replace H := Option.bind_eq_some_iff.mp H
     obtain ⟨t405, A410, H⟩ := H
     replace H : (if t405 = t402 then ((flywheellaw17_wakes.f kj7).bind fun t406 => (some t406)) else (some false)) = some r := H
     have A41 := Aside0.mk A410
     clear A410
     by_cases c42 : t405 = t402
     ·rw [if_pos c42] at H
      have c42b0 : (t405 == t402) = true := beq_iff_eq.mpr c42
      have c42b1 : (t405 != t402) = false := bne_eq_false_iff_eq.mpr c42
      clear c42
      replace H := Option.bind_eq_some_iff.mp H
      obtain ⟨t406, A430, H⟩ := H
      replace H : (some t406) = some r := H
      have A43 := Aside0.mk A430
      clear A430
      obtain rfl := Option.some.inj H
      go_wp2_with (first | ((with_reducible refine gate_callee (f := 22) rfl ?_); refine goesL_ (some 66) rfl rfl Try.func22 (by kernel_rfl) rfl #[.int .i64 (wrap64 (a2))] rfl (by (try simp only [List.map_toArray, List.map_cons, List.map_nil]); first | done | rfl | (simp only [List.length_drop, List.length_take]; rfl)) ?_; (with_reducible refine (fixed_Of.calls (wrap64 (a2)) t402 _ A27.out).mono ?_); rintro e w44 ⟨rfl, hb⟩; refine ⟨_, rfl, ?_⟩; have n0_ := Aside0.mk (Kd.R_below (by (with_reducible repeat (first | apply Kd.R_alloc | apply Kd.R_drewN | apply Kd.R_drew)); exact HO_7.out) hb); have n1_ := Aside0.mk (Kd.R_below (by (with_reducible repeat (first | apply Kd.R_alloc | apply Kd.R_drewN | apply Kd.R_drew)); exact HO_8.out) hb); have n2_ := Aside0.mk (blk_below (g := gb390) (o := .cells #[.int .i32 a1_0, .int .i32 a1_1] 41 (0, 0)) (by (with_reducible repeat (first | refine blk_drewN ?_ _ | refine blk_drew ?_ | refine blk_alloc ?_ _)); exact BK390.out) hb); have n3_ := Aside0.mk (below_step (by repeat (first | (with_reducible first | exact HB.out | apply below_alloc | apply pw_below_drewN | apply below_drew1 | refine below_set ?_ GE390.out) | exact HB.out)) hb); clear HO_7; clear HO_8; clear BK390; clear HB; have HO_7 := n0_; have HO_8 := n1_; have BK390 := n2_; have HB := n3_; clear n0_ n1_ n2_ n3_; (try clear hb); (try clear hb2); (try clear hk); (try clear hi); obtain ⟨Ao45, co45, eo45⟩ := Kd.R_slice HO_7.out; subst eo45; obtain ⟨Ao46, co46, eo46⟩ := Kd.R_slice HO_8.out; subst eo46) | ((with_reducible refine gate_callee (f := 11) rfl ?_); refine goesL_ (some 70) rfl rfl Try.func11 (by kernel_rfl) rfl #[.slice Ao45 x7_7.length co45, .slice Ao46 x8_7.length co46] rfl (by (try simp only [List.map_toArray, List.map_cons, List.map_nil]); first | done | rfl | (simp only [List.length_drop, List.length_take]; rfl)) ?_; (with_reducible refine (trend_Line.calls kj7 _ _ x7_7 _ _ x8_7 t405 _ ?side1 ?side2 ?side3 ?side4 A41.out).mono ?_); (case side1 => repeat (first | exact (Kd.R_reads' HO_7.out).2.2 | (with_reducible refine Kd.C_alloc ?_ _) | (with_reducible refine Kd.C_drewN ?_ _) | (with_reducible refine Kd.C_drew ?_))); (case side2 => exact (Kd.R_reads' HO_7.out).2.1); (case side3 => repeat (first | exact (Kd.R_reads' HO_8.out).2.2 | (with_reducible refine Kd.C_alloc ?_ _) | (with_reducible refine Kd.C_drewN ?_ _) | (with_reducible refine Kd.C_drew ?_))); (case side4 => exact (Kd.R_reads' HO_8.out).2.1); rintro e w47 ⟨rfl, hb⟩; refine ⟨_, rfl, ?_⟩; have n0_ := Aside0.mk (Kd.R_below (by (with_reducible repeat (first | apply Kd.R_alloc | apply Kd.R_drewN | apply Kd.R_drew)); exact HO_7.out) hb); have n1_ := Aside0.mk (Kd.R_below (by (with_reducible repeat (first | apply Kd.R_alloc | apply Kd.R_drewN | apply Kd.R_drew)); exact HO_8.out) hb); have n2_ := Aside0.mk (blk_below (g := gb390) (o := .cells #[.int .i32 a1_0, .int .i32 a1_1] 41 (0, 0)) (by (with_reducible repeat (first | refine blk_drewN ?_ _ | refine blk_drew ?_ | refine blk_alloc ?_ _)); exact BK390.out) hb); have n3_ := Aside0.mk (below_step (by repeat (first | (with_reducible first | exact HB.out | apply below_alloc | apply pw_below_drewN | apply below_drew1 | refine below_set ?_ GE390.out) | exact HB.out)) hb); clear HO_7; clear HO_8; clear BK390; clear HB; have HO_7 := n0_; have HO_8 := n1_; have BK390 := n2_; have HB := n3_; clear n0_ n1_ n2_ n3_; (try clear hb); (try clear hb2); (try clear hk); (try clear hi)) | (go_at_call 10; (with_reducible refine (flywheellaw17_wakes.calls kj7  t406 _ A43.out).mono ?_); rintro e w48 ⟨rfl, hb⟩; have n0_ := Aside0.mk (Kd.R_below (by (with_reducible repeat (first | apply Kd.R_alloc | apply Kd.R_drewN | apply Kd.R_drew)); exact HO_7.out) hb); have n1_ := Aside0.mk (Kd.R_below (by (with_reducible repeat (first | apply Kd.R_alloc | apply Kd.R_drewN | apply Kd.R_drew)); exact HO_8.out) hb); have n2_ := Aside0.mk (blk_below (g := gb390) (o := .cells #[.int .i32 a1_0, .int .i32 a1_1] 41 (0, 0)) (by (with_reducible repeat (first | refine blk_drewN ?_ _ | refine blk_drew ?_ | refine blk_alloc ?_ _)); exact BK390.out) hb); have n3_ := Aside0.mk (below_step (by repeat (first | (with_reducible first | exact HB.out | apply below_alloc | apply pw_below_drewN | apply below_drew1 | refine below_set ?_ GE390.out) | exact HB.out)) hb); clear HO_7; clear HO_8; clear BK390; clear HB; have HO_7 := n0_; have HO_8 := n1_; have BK390 := n2_; have HB := n3_; clear n0_ n1_ n2_ n3_; (try clear hb); (try clear hb2); (try clear hk); (try clear hi)))
      go_ret
      exact ⟨by first | rfl | (simp [errW_none, errW_some] <;> rfl) | (simp [*, errW_none, errW_some] <;> rfl), by repeat (first | (with_reducible first | exact HB.out | apply below_alloc | apply pw_below_drewN | apply below_drew1 | refine below_set ?_ GE390.out) | exact HB.out)⟩
     ·rw [if_neg c42] at H
      have c42b0 : (t405 == t402) = false := beq_eq_false_iff_ne.mpr c42
      have c42b1 : (t405 != t402) = true := bne_iff_ne.mpr c42
      obtain rfl := Option.some.inj H
      go_wp2_with (first | ((with_reducible refine gate_callee (f := 22) rfl ?_); refine goesL_ (some 66) rfl rfl Try.func22 (by kernel_rfl) rfl #[.int .i64 (wrap64 (a2))] rfl (by (try simp only [List.map_toArray, List.map_cons, List.map_nil]); first | done | rfl | (simp only [List.length_drop, List.length_take]; rfl)) ?_; (with_reducible refine (fixed_Of.calls (wrap64 (a2)) t402 _ A27.out).mono ?_); rintro e w49 ⟨rfl, hb⟩; refine ⟨_, rfl, ?_⟩; have n0_ := Aside0.mk (Kd.R_below (by (with_reducible repeat (first | apply Kd.R_alloc | apply Kd.R_drewN | apply Kd.R_drew)); exact HO_7.out) hb); have n1_ := Aside0.mk (Kd.R_below (by (with_reducible repeat (first | apply Kd.R_alloc | apply Kd.R_drewN | apply Kd.R_drew)); exact HO_8.out) hb); have n2_ := Aside0.mk (blk_below (g := gb390) (o := .cells #[.int .i32 a1_0, .int .i32 a1_1] 41 (0, 0)) (by (with_reducible repeat (first | refine blk_drewN ?_ _ | refine blk_drew ?_ | refine blk_alloc ?_ _)); exact BK390.out) hb); have n3_ := Aside0.mk (below_step (by repeat (first | (with_reducible first | exact HB.out | apply below_alloc | apply pw_below_drewN | apply below_drew1 | refine below_set ?_ GE390.out) | exact HB.out)) hb); clear HO_7; clear HO_8; clear BK390; clear HB; have HO_7 := n0_; have HO_8 := n1_; have BK390 := n2_; have HB := n3_; clear n0_ n1_ n2_ n3_; (try clear hb); (try clear hb2); (try clear hk); (try clear hi); obtain ⟨Ao50, co50, eo50⟩ := Kd.R_slice HO_7.out; subst eo50; obtain ⟨Ao51, co51, eo51⟩ := Kd.R_slice HO_8.out; subst eo51) | ((with_reducible refine gate_callee (f := 11) rfl ?_); refine goesL_ (some 70) rfl rfl Try.func11 (by kernel_rfl) rfl #[.slice Ao50 x7_7.length co50, .slice Ao51 x8_7.length co51] rfl (by (try simp only [List.map_toArray, List.map_cons, List.map_nil]); first | done | rfl | (simp only [List.length_drop, List.length_take]; rfl)) ?_; (with_reducible refine (trend_Line.calls kj7 _ _ x7_7 _ _ x8_7 t405 _ ?side1 ?side2 ?side3 ?side4 A41.out).mono ?_); (case side1 => repeat (first | exact (Kd.R_reads' HO_7.out).2.2 | (with_reducible refine Kd.C_alloc ?_ _) | (with_reducible refine Kd.C_drewN ?_ _) | (with_reducible refine Kd.C_drew ?_))); (case side2 => exact (Kd.R_reads' HO_7.out).2.1); (case side3 => repeat (first | exact (Kd.R_reads' HO_8.out).2.2 | (with_reducible refine Kd.C_alloc ?_ _) | (with_reducible refine Kd.C_drewN ?_ _) | (with_reducible refine Kd.C_drew ?_))); (case side4 => exact (Kd.R_reads' HO_8.out).2.1); rintro e w52 ⟨rfl, hb⟩; refine ⟨_, rfl, ?_⟩; have n0_ := Aside0.mk (Kd.R_below (by (with_reducible repeat (first | apply Kd.R_alloc | apply Kd.R_drewN | apply Kd.R_drew)); exact HO_7.out) hb); have n1_ := Aside0.mk (Kd.R_below (by (with_reducible repeat (first | apply Kd.R_alloc | apply Kd.R_drewN | apply Kd.R_drew)); exact HO_8.out) hb); have n2_ := Aside0.mk (blk_below (g := gb390) (o := .cells #[.int .i32 a1_0, .int .i32 a1_1] 41 (0, 0)) (by (with_reducible repeat (first | refine blk_drewN ?_ _ | refine blk_drew ?_ | refine blk_alloc ?_ _)); exact BK390.out) hb); have n3_ := Aside0.mk (below_step (by repeat (first | (with_reducible first | exact HB.out | apply below_alloc | apply pw_below_drewN | apply below_drew1 | refine below_set ?_ GE390.out) | exact HB.out)) hb); clear HO_7; clear HO_8; clear BK390; clear HB; have HO_7 := n0_; have HO_8 := n1_; have BK390 := n2_; have HB := n3_; clear n0_ n1_ n2_ n3_; (try clear hb); (try clear hb2); (try clear hk); (try clear hi)))
      go_ret
      exact ⟨by first | rfl | (simp [errW_none, errW_some] <;> rfl) | (simp [*, errW_none, errW_some] <;> rfl), by repeat (first | (with_reducible first | exact HB.out | apply below_alloc | apply pw_below_drewN | apply below_drew1 | refine below_set ?_ GE390.out) | exact HB.out)⟩
def flywheellaw17_TrendStraight.Pure : Prop := ∀ (l0 : List Int) (a1_0 : Int) (a1_1 : Int) (a2 : Int), l0.length ≤ maxLen → l0.length * 2 ≤ 140737488351232 → (∀ x ∈ l0, (Lit.int .i16 x).wf = true) → (Lit.int .i32 a1_0).wf = true → (Lit.int .i32 a1_1).wf = true → (Lit.int .i8 a2).wf = true → ∃ k, flywheellaw17_TrendStraight.f k l0 a1_0 a1_1 a2 = some true
theorem flywheellaw17_TrendStraight.walk (P : flywheellaw17_TrendStraight.Pure) (A0 : Option Addr) (c0 : Nat) (l0 : List Int) (a1_0 : Int) (a1_1 : Int) (a2 : Int) (w : World) (hm0 : l0.length ≤ maxLen) (y0 : l0.length * 2 ≤ 140737488351232) (hw0 : (∀ x ∈ l0, (Lit.int .i16 x).wf = true)) (w1_0 : (Lit.int .i32 a1_0).wf = true) (w1_1 : (Lit.int .i32 a1_1).wf = true) (w2 : (Lit.int .i8 a2).wf = true) (hr0 : Kd.C (Kd.int .i16) w A0 l0.length l0) (hc0 : l0.length ≤ c0) :
  Calls Try.prog 5 #[.slice A0 l0.length c0, .agg #[.int .i32 a1_0, .int .i32 a1_1], .int .i8 a2] w fun e w' => e = .returned (.bool true) ∧ Below w.heap.size w w' := by
 obtain ⟨k, h⟩ := P l0 a1_0 a1_1 a2 hm0 y0 hw0 w1_0 w1_1 w2
 refine (flywheellaw17_TrendStraight.calls k A0 c0 l0 a1_0 a1_1 a2 true w hr0 hc0 h).mono ?_
 rintro e w' ⟨rfl, hd⟩
 exact ⟨rfl, hd⟩
end Go.Proofs.Ytmcfgaokimlngaa.P
end

section
namespace Go.Proofs.Ytmcfgaokimlngaa.P
open Go.RowKit Go.Proofs.YtmcfgaokimlngaaW.PrintWords Go.Proofs.YtmcfgaokimlngaaW.PrintLast Go.Proofs.YtmcfgaokimlngaaW.PrintMore
attribute [local go_sem] max2_int min2_int max_two min_two max_three min_three max_four min_four   -- for this text's walks alone
set_option linter.unusedVariables false
set_option linter.unusedSimpArgs false
end Go.Proofs.Ytmcfgaokimlngaa.P
end

section
namespace Go.Proofs.Ytmcfgaokimlngaa.P
open Go.RowKit Go.Proofs.YtmcfgaokimlngaaW.PrintWords Go.Proofs.YtmcfgaokimlngaaW.PrintLast Go.Proofs.YtmcfgaokimlngaaW.PrintMore
attribute [local go_sem] max2_int min2_int max_two min_two max_three min_three max_four min_four   -- for this text's walks alone
set_option linter.unusedVariables false
set_option linter.unusedSimpArgs false
end Go.Proofs.Ytmcfgaokimlngaa.P
end

section
namespace Go.Proofs.Ytmcfgaokimlngaa.P
open Go.RowKit Go.Proofs.YtmcfgaokimlngaaW.PrintWords Go.Proofs.YtmcfgaokimlngaaW.PrintLast Go.Proofs.YtmcfgaokimlngaaW.PrintMore
attribute [local go_sem] max2_int min2_int max_two min_two max_three min_three max_four min_four   -- for this text's walks alone
set_option linter.unusedVariables false
set_option linter.unusedSimpArgs false
end Go.Proofs.Ytmcfgaokimlngaa.P
end

section
namespace Go.Proofs.Ytmcfgaokimlngaa.P
open Go.RowKit Go.Proofs.YtmcfgaokimlngaaW.PrintWords Go.Proofs.YtmcfgaokimlngaaW.PrintLast Go.Proofs.YtmcfgaokimlngaaW.PrintMore
attribute [local go_sem] max2_int min2_int max_two min_two max_three min_three max_four min_four   -- for this text's walks alone
set_option linter.unusedVariables false
set_option linter.unusedSimpArgs false
end Go.Proofs.Ytmcfgaokimlngaa.P
end

section
namespace Go.Proofs.Ytmcfgaokimlngaa.P
open Go.RowKit Go.Proofs.YtmcfgaokimlngaaW.PrintWords Go.Proofs.YtmcfgaokimlngaaW.PrintLast Go.Proofs.YtmcfgaokimlngaaW.PrintMore
attribute [local go_sem] max2_int min2_int max_two min_two max_three min_three max_four min_four   -- for this text's walks alone
set_option linter.unusedVariables false
set_option linter.unusedSimpArgs false
end Go.Proofs.Ytmcfgaokimlngaa.P
end

section
namespace Go.Proofs.Ytmcfgaokimlngaa.P
open Go.RowKit Go.Proofs.YtmcfgaokimlngaaW.PrintWords Go.Proofs.YtmcfgaokimlngaaW.PrintLast Go.Proofs.YtmcfgaokimlngaaW.PrintMore
attribute [local go_sem] max2_int min2_int max_two min_two max_three min_three max_four min_four   -- for this text's walks alone
set_option linter.unusedVariables false
set_option linter.unusedSimpArgs false
end Go.Proofs.Ytmcfgaokimlngaa.P
end

section
namespace Go.Proofs.Ytmcfgaokimlngaa.P
open Go.RowKit Go.Proofs.YtmcfgaokimlngaaW.PrintWords Go.Proofs.YtmcfgaokimlngaaW.PrintLast Go.Proofs.YtmcfgaokimlngaaW.PrintMore
attribute [local go_sem] max2_int min2_int max_two min_two max_three min_three max_four min_four   -- for this text's walks alone
set_option linter.unusedVariables false
set_option linter.unusedSimpArgs false
end Go.Proofs.Ytmcfgaokimlngaa.P
end

section
namespace Go.Proofs.Ytmcfgaokimlngaa.P
open Go.RowKit
set_option linter.unusedVariables false
set_option linter.unusedSimpArgs false
end Go.Proofs.Ytmcfgaokimlngaa.P
end

section
namespace Go.Proofs.Ytmcfgaokimlngaa.P
open Go.RowKit
set_option linter.unusedVariables false
set_option linter.unusedSimpArgs false
end Go.Proofs.Ytmcfgaokimlngaa.P
end

section
namespace Go.Proofs.Ytmcfgaokimlngaa.P
open Go.RowKit Go.Proofs.YtmcfgaokimlngaaW.PrintWords Go.Proofs.YtmcfgaokimlngaaW.PrintLast Go.Proofs.YtmcfgaokimlngaaW.PrintMore
attribute [local go_sem] max2_int min2_int max_two min_two max_three min_three max_four min_four   -- for this text's walks alone
set_option linter.unusedVariables false
set_option linter.unusedSimpArgs false
end Go.Proofs.Ytmcfgaokimlngaa.P
end

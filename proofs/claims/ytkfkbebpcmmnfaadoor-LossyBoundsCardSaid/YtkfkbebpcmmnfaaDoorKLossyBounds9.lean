-- PUT TOGETHER by a program of this session: of the claim's texts, what is used
import Derived.Test.YtkfkbebpcmmnfaaDoorKLossyBounds7
import Derived.Test.YtkfkbebpcmmnfaaDoorKLossyBounds8
section
namespace Go.Proofs.YtkfkbebpcmmnfaaDoor.P
open Go.RowKit Go.Proofs.YtkfkbebpcmmnfaaDoorW.PrintWords Go.Proofs.YtkfkbebpcmmnfaaDoorW.PrintLast Go.Proofs.YtkfkbebpcmmnfaaDoorW.PrintMore
attribute [local go_sem] max2_int min2_int max_two min_two max_three min_three max_four min_four   -- for this text's walks alone
set_option linter.unusedVariables false
set_option linter.unusedSimpArgs false
mutual
def flywheellaw20_LossyBounds.l0 : Nat → List (S36) → Int → Bool → Int → Int → Int → Int → Int → Int → Int → Bool → Int → Option (Bool)
 | 0, _, _, _, _, _, _, _, _, _, _, _, _ => none
 | k + 1, x1, x7, x8, x9, x285000, x285001, x285002, x291000, x291001, x291002, x291003, x291004 => if x9 < (x1.length : Int) then (flywheellaw20_LossyBounds.j1 k x1 x7 x8 x9 (decide (x9 < 300)) x285000 x285001 x285002 x291000 x291001 x291002 x291003 x291004) else (flywheellaw20_LossyBounds.j1 k x1 x7 x8 x9 false x285000 x285001 x285002 x291000 x291001 x291002 x291003 x291004)
def flywheellaw20_LossyBounds.j1 : Nat → List (S36) → Int → Bool → Int → Bool → Int → Int → Int → Int → Int → Int → Bool → Int → Option (Bool)
 | 0, _, _, _, _, _, _, _, _, _, _, _, _, _ => none
 | k + 1, x1, x7, x8, x9, x43, x285000, x285001, x285002, x291000, x291001, x291002, x291003, x291004 => if x43 = true then ((lossy_Lossy_Rate.f x291000 x291001 x291002 x291003 x291004).bind fun bt295 => (if 0 ≤ x9 then (if x9 < (x1.length : Int) then ((lossy_Lossy_Update.f bt295.2.1 bt295.2.2.1 bt295.2.2.2.1 bt295.2.2.2.2.1 bt295.2.2.2.2.2 ((rd_T36 x1 x9).f0) ((rd_T36 x1 x9).f1)).bind fun bt304 => (if bt304.1 < x285001 then (flywheellaw20_LossyBounds.j2 k x1 x7 x8 x9 bt295.1 (mx 0 (mn ((rd_T36 x1 x9).f1) 1125899906842624)) bt304.1 true x285000 x285001 x285002 bt304.2.1 bt304.2.2.1 bt304.2.2.2.1 bt304.2.2.2.2.1 bt304.2.2.2.2.2) else (if bt304.1 > x285002 then (flywheellaw20_LossyBounds.j2 k x1 x7 x8 x9 bt295.1 (mx 0 (mn ((rd_T36 x1 x9).f1) 1125899906842624)) bt304.1 true x285000 x285001 x285002 bt304.2.1 bt304.2.2.1 bt304.2.2.2.1 bt304.2.2.2.2.1 bt304.2.2.2.2.2) else (if ((rd_T36 x1 x9).f0) < 6 then (if bt304.1 < bt295.1 then (flywheellaw20_LossyBounds.j2 k x1 x7 x8 x9 bt295.1 (mx 0 (mn ((rd_T36 x1 x9).f1) 1125899906842624)) bt304.1 true x285000 x285001 x285002 bt304.2.1 bt304.2.2.1 bt304.2.2.2.1 bt304.2.2.2.2.1 bt304.2.2.2.2.2) else (if ((rd_T36 x1 x9).f0) > 26 then (flywheellaw20_LossyBounds.j2 k x1 x7 x8 x9 bt295.1 (mx 0 (mn ((rd_T36 x1 x9).f1) 1125899906842624)) bt304.1 (decide (bt304.1 > bt295.1)) x285000 x285001 x285002 bt304.2.1 bt304.2.2.1 bt304.2.2.2.1 bt304.2.2.2.2.1 bt304.2.2.2.2.2) else (flywheellaw20_LossyBounds.j2 k x1 x7 x8 x9 bt295.1 (mx 0 (mn ((rd_T36 x1 x9).f1) 1125899906842624)) bt304.1 false x285000 x285001 x285002 bt304.2.1 bt304.2.2.1 bt304.2.2.2.1 bt304.2.2.2.2.1 bt304.2.2.2.2.2))) else (if ((rd_T36 x1 x9).f0) > 26 then (flywheellaw20_LossyBounds.j2 k x1 x7 x8 x9 bt295.1 (mx 0 (mn ((rd_T36 x1 x9).f1) 1125899906842624)) bt304.1 (decide (bt304.1 > bt295.1)) x285000 x285001 x285002 bt304.2.1 bt304.2.2.1 bt304.2.2.2.1 bt304.2.2.2.2.1 bt304.2.2.2.2.2) else (flywheellaw20_LossyBounds.j2 k x1 x7 x8 x9 bt295.1 (mx 0 (mn ((rd_T36 x1 x9).f1) 1125899906842624)) bt304.1 false x285000 x285001 x285002 bt304.2.1 bt304.2.2.1 bt304.2.2.2.1 bt304.2.2.2.2.1 bt304.2.2.2.2.2)))))) else (none)) else (none))) else ((flywheellaw20_wakes.f).bind fun t294 => (some t294))
def flywheellaw20_LossyBounds.j2 : Nat → List (S36) → Int → Bool → Int → Int → Int → Int → Bool → Int → Int → Int → Int → Int → Int → Bool → Int → Option (Bool)
 | 0, _, _, _, _, _, _, _, _, _, _, _, _, _, _, _, _ => none
 | k + 1, x1, x7, x8, x9, x10, x11, x12, x102, x285000, x285001, x285002, x291000, x291001, x291002, x291003, x291004 => if x102 = true then (some false) else (if x8 = true then (if (wrap64 (x11 - x7)) < 200000 then (flywheellaw20_LossyBounds.j3 k x1 x7 x8 x9 x11 (x12 != x10) x285000 x285001 x285002 x291000 x291001 x291002 x291003 x291004) else (flywheellaw20_LossyBounds.j3 k x1 x7 x8 x9 x11 false x285000 x285001 x285002 x291000 x291001 x291002 x291003 x291004)) else (flywheellaw20_LossyBounds.j3 k x1 x7 x8 x9 x11 false x285000 x285001 x285002 x291000 x291001 x291002 x291003 x291004))
def flywheellaw20_LossyBounds.j3 : Nat → List (S36) → Int → Bool → Int → Int → Bool → Int → Int → Int → Int → Int → Int → Bool → Int → Option (Bool)
 | 0, _, _, _, _, _, _, _, _, _, _, _, _, _, _ => none
 | k + 1, x1, x7, x8, x9, x11, x114, x285000, x285001, x285002, x291000, x291001, x291002, x291003, x291004 => if x114 = true then (some false) else (if x8 = true then (if (wrap64 (x11 - x7)) ≥ 200000 then (flywheellaw20_LossyBounds.l0 k x1 x11 true (wrap64 (x9 + 1)) x285000 x285001 x285002 x291000 x291001 x291002 x291003 x291004) else (flywheellaw20_LossyBounds.l0 k x1 x7 x8 (wrap64 (x9 + 1)) x285000 x285001 x285002 x291000 x291001 x291002 x291003 x291004)) else (flywheellaw20_LossyBounds.l0 k x1 x11 true (wrap64 (x9 + 1)) x285000 x285001 x285002 x291000 x291001 x291002 x291003 x291004))
def flywheellaw20_LossyBounds.l5000 : Nat → List (S36) → Int → Option (Bool)
 | 0, _, _ => none
 | k + 1, x1, x9 => if x9 < (x1.length : Int) then (flywheellaw20_LossyBounds.j5 k (decide (x9 < 300))) else (flywheellaw20_LossyBounds.j5 k false)
def flywheellaw20_LossyBounds.j5 : Nat → Bool → Option (Bool)
 | 0, _ => none
 | k + 1, x43 => if x43 = true then (none) else ((flywheellaw20_wakes.f).bind fun t316 => (some t316))
end
def flywheellaw20_LossyBounds.f (k : Nat) (a0_0 : Int) (a0_1 : Int) (a0_2 : Int) (l1 : List (S36)) : Option (Bool) := if (lossy_New.made.f a0_0 a0_1 a0_2).isSome = true then ((lossy_New.made.f a0_0 a0_1 a0_2).bind fun bt285 => (if bt285.2.2.2.2.2 = 0 then (flywheellaw20_LossyBounds.l0 k l1 0 false 0 a0_0 a0_1 a0_2 bt285.1 bt285.2.1 bt285.2.2.1 bt285.2.2.2.1 bt285.2.2.2.2.1) else ((flywheelref19_Rates.f a0_0 a0_1 a0_2).bind fun t292 => (if t292 = true then (some false) else ((flywheellaw20_wakes.f).bind fun t293 => (some t293)))))) else ((lossy_New.nil.f a0_0 a0_1 a0_2).bind fun t313 => (if t313 = 0 then (flywheellaw20_LossyBounds.l5000 k l1 0) else ((flywheelref19_Rates.f a0_0 a0_1 a0_2).bind fun t314 => (if t314 = true then (some false) else ((flywheellaw20_wakes.f).bind fun t315 => (some t315))))))
def flywheellaw20_LossyBounds.T10 : Bool × List (List Nat × List Nat) := (true, [([], []), ([], []), ([], []), ([1, 2], [1, 2]), ([3], [3]), ([4], [4]), ([], []), ([], []), ([6, 7], [6, 7]), ([8], [8]), ([9], [9]), ([0, 5, 10], [0, 5, 10]), ([11, 11, 0, 1, 2, 3, 4, 5, 6, 7, 8, 9, 10, 11], [11])])
def flywheellaw20_LossyBounds.B10 : List Nat := [0, 0, 0, 6, 14, 30, 0, 0, 192, 448, 960, 2047, 4095]
theorem flywheellaw20_LossyBounds.tab10 : rtab .any (opsOf Tryd.f5 10) = flywheellaw20_LossyBounds.T10 := by kernel_rfl
theorem flywheellaw20_LossyBounds.bits10 : waitsOk flywheellaw20_LossyBounds.T10.2 flywheellaw20_LossyBounds.B10 = true := by kernel_rfl
set_option maxHeartbeats 8000000 in
set_option maxRecDepth 100000 in
theorem flywheellaw20_LossyBounds.calls (k : Nat) (a0_0 : Int) (a0_1 : Int) (a0_2 : Int) (A1 : Option Addr) (c1 : Nat) (l1 : List (S36)) (r : Bool) (w : World) (hr1 : Kd.C k36 w A1 l1.length l1) (hc1 : l1.length ≤ c1) (hG : GL w) (h : flywheellaw20_LossyBounds.f k a0_0 a0_1 a0_2 l1 = some r) :
  Calls Tryd.prog 5 #[.agg #[.int .i64 a0_0, .int .i64 a0_1, .int .i64 a0_2], .slice A1 l1.length c1] w fun e w' => e = .returned (.bool r) ∧ Below w.heap.size w w' := by
 have HTB := Aside0.mk hG
 clear hG
 have hu23 := Tryd.underlying23
 have HR1 := Aside0.mk hr1
 have HC1 := Aside0.mk hc1
 clear hr1 hc1
 have HB := Aside0.mk (Below.refl w.heap.size w)
 have H : (if (lossy_New.made.f a0_0 a0_1 a0_2).isSome = true then ((lossy_New.made.f a0_0 a0_1 a0_2).bind fun bt285 => (if bt285.2.2.2.2.2 = 0 then (flywheellaw20_LossyBounds.l0 k l1 0 false 0 a0_0 a0_1 a0_2 bt285.1 bt285.2.1 bt285.2.2.1 bt285.2.2.2.1 bt285.2.2.2.2.1) else ((flywheelref19_Rates.f a0_0 a0_1 a0_2).bind fun t292 => (if t292 = true then (some false) else ((flywheellaw20_wakes.f).bind fun t293 => (some t293)))))) else ((lossy_New.nil.f a0_0 a0_1 a0_2).bind fun t313 => (if t313 = 0 then (flywheellaw20_LossyBounds.l5000 k l1 0) else ((flywheelref19_Rates.f a0_0 a0_1 a0_2).bind fun t314 => (if t314 = true then (some false) else ((flywheellaw20_wakes.f).bind fun t315 => (some t315))))))) = some r := h
 clear h
 by_cases c3 : (lossy_New.made.f a0_0 a0_1 a0_2).isSome = true
 ·rw [if_pos c3] at H
  have c3b0 : (lossy_New.made.f a0_0 a0_1 a0_2).isSome = true := c3
  clear c3
  replace H := Option.bind_eq_some_iff.mp H
  obtain ⟨⟨t285, t286, t287, t288, t289, t291⟩, A40, H⟩ := H
  replace H : (if t291 = 0 then (flywheellaw20_LossyBounds.l0 k l1 0 false 0 a0_0 a0_1 a0_2 t285 t286 t287 t288 t289) else ((flywheelref19_Rates.f a0_0 a0_1 a0_2).bind fun t292 => (if t292 = true then (some false) else ((flywheellaw20_wakes.f).bind fun t293 => (some t293))))) = some r := H
  have A4 := Aside0.mk A40
  clear A40
  by_cases c5 : t291 = 0
  ·rw [if_pos c5] at H
   have c5b0 : (t291 == 0) = true := beq_iff_eq.mpr c5
   have c5b1 : (t291 != 0) = false := bne_eq_false_iff_eq.mpr c5
   clear c5
   have H' := Aside0.mk H
   clear H
   go_enter Tryd.func5, Tryd.ntmps5
   go_wp2_with (first | ((with_reducible refine gate_dst (N := 2) rfl ?_); refine box_event ?hg (N := 2) ?hd (cs := #[.int .i64 a0_0, .int .i64 a0_1, .int .i64 a0_2]) (t := 23) ?hr ?_; (case hd => rfl); (case hg => rfl); (case hr => first | (go_simp; done) | (go_simp; rfl)); intro gb284 hg w6 hbox hb; have n0_ := Aside0.mk (below_step (by repeat (first | (with_reducible first | exact HB.out | apply below_alloc | apply pw_below_drewN | apply below_drew1) | exact HB.out)) hb); have n1_ := Aside0.mk (hbox); have n2_ := Aside0.mk ((by rw [hg]; exact (below_size (by repeat (first | (with_reducible first | exact HB.out | apply below_alloc | apply pw_below_drewN | apply below_drew1) | exact HB.out))) : w.heap.size ≤ gb284)); have n3_ := Aside0.mk ((by rw [hg]; exact (below_size (by repeat (first | (with_reducible first | exact HB.out | apply below_alloc | apply pw_below_drewN | apply below_drew1) | exact HB.out))) : w.heap.size ≤ gb284)); clear HB; have HB := n0_; have BK284 := n1_; have GW284 := n2_; have GE284 := n3_; clear n0_ n1_ n2_ n3_; clear hb hbox hg; have hcz7_0 : w6.cell? ⟨gb284, 0, none⟩ = some (.int .i64 a0_0) := (blk_cell BK284.out 0).trans rfl; have hcz7_1 : w6.cell? ⟨gb284, 1, none⟩ = some (.int .i64 a0_1) := (blk_cell BK284.out 1).trans rfl; have hcz7_2 : w6.cell? ⟨gb284, 2, none⟩ = some (.int .i64 a0_2) := (blk_cell BK284.out 2).trans rfl; have hfz7_0 := blk_frozen BK284.out 0; have hfz7_1 := blk_frozen BK284.out 1; have hfz7_2 := blk_frozen BK284.out 2) | ((with_reducible refine gate_callee (f := 7) rfl ?_); refine goesL_ (some 20) rfl rfl Tryd.func7 (by kernel_rfl) rfl #[.int .i64 a0_0, .int .i64 a0_1, .int .i64 a0_2] rfl (by (try simp only [List.map_toArray, List.map_cons, List.map_nil]); first | done | rfl | (simp only [List.length_drop, List.length_take]; rfl)) ?_; (with_reducible refine (lossy_New.made.calls a0_0 a0_1 a0_2 t285 t286 t287 t288 t289 t291 _ _ (Below.refl _ _) A4.out).mono ?_); rintro e w8 ⟨g290, rfl, hi, hb, hb2⟩; refine ⟨_, rfl, ?_⟩; have n0_ := Aside0.mk (blk_below (g := gb284) (o := .cells #[.int .i64 a0_0, .int .i64 a0_1, .int .i64 a0_2] 23 (0, 0)) (by (with_reducible repeat (first | refine blk_drewN ?_ _ | refine blk_drew ?_ | refine blk_alloc ?_ _)); exact BK284.out) hb2); have n1_ := Aside0.mk (below_step (by repeat (first | (with_reducible first | exact HB.out | apply below_alloc | apply pw_below_drewN | apply below_drew1 | refine below_set ?_ GE284.out) | exact HB.out)) hb2); have n2_ := Aside0.mk ((IsS42.rebase hi (below_size (by repeat (first | (with_reducible first | exact HB.out | apply below_alloc | apply pw_below_drewN | apply below_drew1 | refine below_set ?_ GE284.out) | exact HB.out))))); have n3_ := Aside0.mk (IsS42.ne_blk hi (blk_below (g := gb284) (o := .cells #[.int .i64 a0_0, .int .i64 a0_1, .int .i64 a0_2] 23 (0, 0)) (by (with_reducible repeat (first | refine blk_drewN ?_ _ | refine blk_drew ?_ | refine blk_alloc ?_ _)); exact BK284.out) hb2) (by decide)); have n4_ := Aside0.mk (Ne.symm (IsS42.ne_blk hi (blk_below (g := gb284) (o := .cells #[.int .i64 a0_0, .int .i64 a0_1, .int .i64 a0_2] 23 (0, 0)) (by (with_reducible repeat (first | refine blk_drewN ?_ _ | refine blk_drew ?_ | refine blk_alloc ?_ _)); exact BK284.out) hb2) (by decide))); clear BK284; clear HB; have BK284 := n0_; have HB := n1_; have HI290 := n2_; have NB290_284 := n3_; have NB284_290 := n4_; clear n0_ n1_ n2_ n3_ n4_; (try clear hb); (try clear hb2); (try clear hk); (try clear hi)))
   go_loopg [7, 8, 9] k (fun kq v7 v8 v9 w' => ∃ (x7_1 : Int) (x8_1 : Bool) (x9_1 : Int) (x291000_1 : Int) (x291001_1 : Int) (x291002_1 : Int) (x291003_1 : Bool) (x291004_1 : Int), v7 = .int .i64 x7_1 ∧ v8 = .bool x8_1 ∧ v9 = .int .i64 x9_1 ∧ Aside0 (flywheellaw20_LossyBounds.l0 kq l1 x7_1 x8_1 x9_1 a0_0 a0_1 a0_2 x291000_1 x291001_1 x291002_1 x291003_1 x291004_1 = some r) ∧ Aside0 (kq ≤ k) ∧ Aside0 (w'.heap[gb284]? = some (.cells #[.int .i64 a0_0, .int .i64 a0_1, .int .i64 a0_2] 23 (0, 0))) ∧ Aside0 (IsS42 w w' g290 x291000_1 x291001_1 x291002_1 x291003_1 x291004_1) ∧ Aside0 (Below w.heap.size w w'))
   case atStart => exact ⟨(0), (false), (0), (t285), (t286), (t287), (t288), (t289), (by first | rfl | (simp; done) | (simp [*]; done)), (by first | rfl | (simp; done) | (simp [*]; done)), (by first | rfl | (simp; done) | (simp [*]; done)), H', ⟨Nat.le_refl _⟩, ⟨by (with_reducible repeat (first | refine blk_drewN ?_ _ | refine blk_drew ?_ | refine blk_alloc ?_ _)); exact BK284.out⟩, ⟨by repeat (first | (with_reducible first | exact HI290.out | apply IsS42.alloc | apply IsS42.drewN | apply IsS42.drew | apply IsS42.set_0 | apply IsS42.set_1 | apply IsS42.set_2 | apply IsS42.set_3 | apply IsS42.set_4 | refine IsS42.far ?_ NB290_284.out _) | exact HI290.out)⟩, ⟨by repeat (first | (with_reducible first | exact HB.out | apply below_alloc | apply pw_below_drewN | apply below_drew1 | refine below_set ?_ (IsS42.ge HI290.out) | refine below_set ?_ GE284.out) | exact HB.out)⟩⟩
   case round =>
    clear H'
    try clear c1
    try clear p2
    try clear c3
    try clear c3b0
    try clear c5
    try clear c5b0
    try clear c5b1
    try clear c7
    try clear hcz7_0
    try clear hcz7_1
    try clear hcz7_2
    try clear hfz7_0
    try clear hfz7_1
    try clear hfz7_2
    obtain ⟨x7_1, x8_1, x9_1, x291000_1, x291001_1, x291002_1, x291003_1, x291004_1, rfl, rfl, rfl, HA, HK1, BK284, HI290, HB⟩ := hrel
    cases gk with
    | zero => exact absurd HA.out (by simp [flywheellaw20_LossyBounds.l0])
    | succ k1 =>
     have H := HA.out
     clear HA
     simp only [flywheellaw20_LossyBounds.l0] at H
     have HC9 := Aside0.mk H
     clear H
     go_upto_region 6 with (fail)
     go_cut [43] (fun v43 wc => ∃ (kq : Nat) (x43_8 : Bool), v43 = .bool x43_8 ∧ Aside0 (flywheellaw20_LossyBounds.j1 kq l1 x7_1 x8_1 x9_1 x43_8 a0_0 a0_1 a0_2 x291000_1 x291001_1 x291002_1 x291003_1 x291004_1 = some r) ∧ Aside0 (kq ≤ k1) ∧ Aside0 (wc.heap[gb284]? = some (.cells #[.int .i64 a0_0, .int .i64 a0_1, .int .i64 a0_2] 23 (0, 0))) ∧ Aside0 (IsS42 w wc g290 x291000_1 x291001_1 x291002_1 x291003_1 x291004_1) ∧ Aside0 (Below w.heap.size w wc))
     case first =>
      have H := HC9.out
      clear HC9
      by_cases c10 : x9_1 < (l1.length : Int)
      ·rw [if_pos c10] at H
       have c10b0 : decide (x9_1 < (l1.length : Int)) = true := decide_eq_true c10
       clear c10
       (first | rw [c10b0] | (simp only [i64_w, i32_w]; rw [c10b0]) | skip)
       have H' := Aside0.mk H
       clear H
       go_wp2
       go_meet
       case rel => exact ⟨_, (decide (x9_1 < 300)), (by first | rfl | (simp; done) | (simp [*]; done)), H', ⟨by have := HK1.out; first | omega | exact Nat.le_refl _⟩, ⟨by (with_reducible repeat (first | refine blk_drewN ?_ _ | refine blk_drew ?_ | refine blk_alloc ?_ _)); exact BK284.out⟩, ⟨by repeat (first | (with_reducible first | exact HI290.out | apply IsS42.alloc | apply IsS42.drewN | apply IsS42.drew | apply IsS42.set_0 | apply IsS42.set_1 | apply IsS42.set_2 | apply IsS42.set_3 | apply IsS42.set_4 | refine IsS42.far ?_ NB290_284.out _) | exact HI290.out)⟩, ⟨by repeat (first | (with_reducible first | exact HB.out | apply below_alloc | apply pw_below_drewN | apply below_drew1 | refine below_set ?_ (IsS42.ge HI290.out) | refine below_set ?_ GE284.out) | exact HB.out)⟩⟩
      ·rw [if_neg c10] at H
       have c10b0 : decide (x9_1 < (l1.length : Int)) = false := decide_eq_false c10
       clear c10
       (first | rw [c10b0] | (simp only [i64_w, i32_w]; rw [c10b0]) | skip)
       have H' := Aside0.mk H
       clear H
       go_wp2
       go_meet
       case rel => exact ⟨_, (false), (by first | rfl | (simp; done) | (simp [*]; done)), H', ⟨by have := HK1.out; first | omega | exact Nat.le_refl _⟩, ⟨by (with_reducible repeat (first | refine blk_drewN ?_ _ | refine blk_drew ?_ | refine blk_alloc ?_ _)); exact BK284.out⟩, ⟨by repeat (first | (with_reducible first | exact HI290.out | apply IsS42.alloc | apply IsS42.drewN | apply IsS42.drew | apply IsS42.set_0 | apply IsS42.set_1 | apply IsS42.set_2 | apply IsS42.set_3 | apply IsS42.set_4 | refine IsS42.far ?_ NB290_284.out _) | exact HI290.out)⟩, ⟨by repeat (first | (with_reducible first | exact HB.out | apply below_alloc | apply pw_below_drewN | apply below_drew1 | refine below_set ?_ (IsS42.ge HI290.out) | refine below_set ?_ GE284.out) | exact HB.out)⟩⟩
     case rest =>
      clear HC9
      try clear c1
      try clear p2
      try clear c3
      try clear c3b0
      try clear c5
      try clear c5b0
      try clear c5b1
      try clear c7
      try clear c10
      try clear c10b0
      try clear hcz7_0
      try clear hcz7_1
      try clear hcz7_2
      try clear hfz7_0
      try clear hfz7_1
      try clear hfz7_2
      try clear p2
      obtain ⟨kq, x43_8, rfl, HA, HJ8, BK284, HI290, HB⟩ := hcut
      cases kq with
      | zero => exact absurd HA.out (by simp [flywheellaw20_LossyBounds.j1])
      | succ kj8 =>
       have H := HA.out
       clear HA
       simp only [flywheellaw20_LossyBounds.j1] at H
       by_cases c11 : x43_8 = true
       ·subst c11
        have H1 : ((lossy_Lossy_Rate.f x291000_1 x291001_1 x291002_1 x291003_1 x291004_1).bind fun bt295 => (if 0 ≤ x9_1 then (if x9_1 < (l1.length : Int) then ((lossy_Lossy_Update.f bt295.2.1 bt295.2.2.1 bt295.2.2.2.1 bt295.2.2.2.2.1 bt295.2.2.2.2.2 ((rd_T36 l1 x9_1).f0) ((rd_T36 l1 x9_1).f1)).bind fun bt304 => (if bt304.1 < a0_1 then (flywheellaw20_LossyBounds.j2 kj8 l1 x7_1 x8_1 x9_1 bt295.1 (mx 0 (mn ((rd_T36 l1 x9_1).f1) 1125899906842624)) bt304.1 true a0_0 a0_1 a0_2 bt304.2.1 bt304.2.2.1 bt304.2.2.2.1 bt304.2.2.2.2.1 bt304.2.2.2.2.2) else (if bt304.1 > a0_2 then (flywheellaw20_LossyBounds.j2 kj8 l1 x7_1 x8_1 x9_1 bt295.1 (mx 0 (mn ((rd_T36 l1 x9_1).f1) 1125899906842624)) bt304.1 true a0_0 a0_1 a0_2 bt304.2.1 bt304.2.2.1 bt304.2.2.2.1 bt304.2.2.2.2.1 bt304.2.2.2.2.2) else (if ((rd_T36 l1 x9_1).f0) < 6 then (if bt304.1 < bt295.1 then (flywheellaw20_LossyBounds.j2 kj8 l1 x7_1 x8_1 x9_1 bt295.1 (mx 0 (mn ((rd_T36 l1 x9_1).f1) 1125899906842624)) bt304.1 true a0_0 a0_1 a0_2 bt304.2.1 bt304.2.2.1 bt304.2.2.2.1 bt304.2.2.2.2.1 bt304.2.2.2.2.2) else (if ((rd_T36 l1 x9_1).f0) > 26 then (flywheellaw20_LossyBounds.j2 kj8 l1 x7_1 x8_1 x9_1 bt295.1 (mx 0 (mn ((rd_T36 l1 x9_1).f1) 1125899906842624)) bt304.1 (decide (bt304.1 > bt295.1)) a0_0 a0_1 a0_2 bt304.2.1 bt304.2.2.1 bt304.2.2.2.1 bt304.2.2.2.2.1 bt304.2.2.2.2.2) else (flywheellaw20_LossyBounds.j2 kj8 l1 x7_1 x8_1 x9_1 bt295.1 (mx 0 (mn ((rd_T36 l1 x9_1).f1) 1125899906842624)) bt304.1 false a0_0 a0_1 a0_2 bt304.2.1 bt304.2.2.1 bt304.2.2.2.1 bt304.2.2.2.2.1 bt304.2.2.2.2.2))) else (if ((rd_T36 l1 x9_1).f0) > 26 then (flywheellaw20_LossyBounds.j2 kj8 l1 x7_1 x8_1 x9_1 bt295.1 (mx 0 (mn ((rd_T36 l1 x9_1).f1) 1125899906842624)) bt304.1 (decide (bt304.1 > bt295.1)) a0_0 a0_1 a0_2 bt304.2.1 bt304.2.2.1 bt304.2.2.2.1 bt304.2.2.2.2.1 bt304.2.2.2.2.2) else (flywheellaw20_LossyBounds.j2 kj8 l1 x7_1 x8_1 x9_1 bt295.1 (mx 0 (mn ((rd_T36 l1 x9_1).f1) 1125899906842624)) bt304.1 false a0_0 a0_1 a0_2 bt304.2.1 bt304.2.2.1 bt304.2.2.2.1 bt304.2.2.2.2.1 bt304.2.2.2.2.2)))))) else (none)) else (none))) = some r := by rw [if_pos rfl] at H; exact H
        clear H
        have H := H1
        clear H1
        replace H := Option.bind_eq_some_iff.mp H
        obtain ⟨⟨t295, t296, t297, t298, t299, t300⟩, A120, H⟩ := H
        replace H : (if 0 ≤ x9_1 then (if x9_1 < (l1.length : Int) then ((lossy_Lossy_Update.f t296 t297 t298 t299 t300 ((rd_T36 l1 x9_1).f0) ((rd_T36 l1 x9_1).f1)).bind fun bt304 => (if bt304.1 < a0_1 then (flywheellaw20_LossyBounds.j2 kj8 l1 x7_1 x8_1 x9_1 t295 (mx 0 (mn ((rd_T36 l1 x9_1).f1) 1125899906842624)) bt304.1 true a0_0 a0_1 a0_2 bt304.2.1 bt304.2.2.1 bt304.2.2.2.1 bt304.2.2.2.2.1 bt304.2.2.2.2.2) else (if bt304.1 > a0_2 then (flywheellaw20_LossyBounds.j2 kj8 l1 x7_1 x8_1 x9_1 t295 (mx 0 (mn ((rd_T36 l1 x9_1).f1) 1125899906842624)) bt304.1 true a0_0 a0_1 a0_2 bt304.2.1 bt304.2.2.1 bt304.2.2.2.1 bt304.2.2.2.2.1 bt304.2.2.2.2.2) else (if ((rd_T36 l1 x9_1).f0) < 6 then (if bt304.1 < t295 then (flywheellaw20_LossyBounds.j2 kj8 l1 x7_1 x8_1 x9_1 t295 (mx 0 (mn ((rd_T36 l1 x9_1).f1) 1125899906842624)) bt304.1 true a0_0 a0_1 a0_2 bt304.2.1 bt304.2.2.1 bt304.2.2.2.1 bt304.2.2.2.2.1 bt304.2.2.2.2.2) else (if ((rd_T36 l1 x9_1).f0) > 26 then (flywheellaw20_LossyBounds.j2 kj8 l1 x7_1 x8_1 x9_1 t295 (mx 0 (mn ((rd_T36 l1 x9_1).f1) 1125899906842624)) bt304.1 (decide (bt304.1 > t295)) a0_0 a0_1 a0_2 bt304.2.1 bt304.2.2.1 bt304.2.2.2.1 bt304.2.2.2.2.1 bt304.2.2.2.2.2) else (flywheellaw20_LossyBounds.j2 kj8 l1 x7_1 x8_1 x9_1 t295 (mx 0 (mn ((rd_T36 l1 x9_1).f1) 1125899906842624)) bt304.1 false a0_0 a0_1 a0_2 bt304.2.1 bt304.2.2.1 bt304.2.2.2.1 bt304.2.2.2.2.1 bt304.2.2.2.2.2))) else (if ((rd_T36 l1 x9_1).f0) > 26 then (flywheellaw20_LossyBounds.j2 kj8 l1 x7_1 x8_1 x9_1 t295 (mx 0 (mn ((rd_T36 l1 x9_1).f1) 1125899906842624)) bt304.1 (decide (bt304.1 > t295)) a0_0 a0_1 a0_2 bt304.2.1 bt304.2.2.1 bt304.2.2.2.1 bt304.2.2.2.2.1 bt304.2.2.2.2.2) else (flywheellaw20_LossyBounds.j2 kj8 l1 x7_1 x8_1 x9_1 t295 (mx 0 (mn ((rd_T36 l1 x9_1).f1) 1125899906842624)) bt304.1 false a0_0 a0_1 a0_2 bt304.2.1 bt304.2.2.1 bt304.2.2.2.1 bt304.2.2.2.2.1 bt304.2.2.2.2.2)))))) else (none)) else (none)) = some r := H
        have A12 := Aside0.mk A120
        clear A120
        by_cases c13 : 0 ≤ x9_1
        ·rw [if_pos c13] at H
         have c13b0 : decide (0 ≤ x9_1) = true := decide_eq_true c13
         clear c13
         by_cases c14 : x9_1 < (l1.length : Int)
         ·rw [if_pos c14] at H
          have c14b0 : decide (x9_1 < (l1.length : Int)) = true := decide_eq_true c14
          clear c14
          obtain ⟨ji15, hji15⟩ : ∃ j_ : Int, (mn ((rd_T36 l1 x9_1).f1) 1125899906842624) = j_ := ⟨_, rfl⟩
          replace H : ((lossy_Lossy_Update.f t296 t297 t298 t299 t300 ((rd_T36 l1 x9_1).f0) ((rd_T36 l1 x9_1).f1)).bind fun bt304 => (if bt304.1 < a0_1 then (flywheellaw20_LossyBounds.j2 kj8 l1 x7_1 x8_1 x9_1 t295 (mx 0 (ji15)) bt304.1 true a0_0 a0_1 a0_2 bt304.2.1 bt304.2.2.1 bt304.2.2.2.1 bt304.2.2.2.2.1 bt304.2.2.2.2.2) else (if bt304.1 > a0_2 then (flywheellaw20_LossyBounds.j2 kj8 l1 x7_1 x8_1 x9_1 t295 (mx 0 (ji15)) bt304.1 true a0_0 a0_1 a0_2 bt304.2.1 bt304.2.2.1 bt304.2.2.2.1 bt304.2.2.2.2.1 bt304.2.2.2.2.2) else (if ((rd_T36 l1 x9_1).f0) < 6 then (if bt304.1 < t295 then (flywheellaw20_LossyBounds.j2 kj8 l1 x7_1 x8_1 x9_1 t295 (mx 0 (ji15)) bt304.1 true a0_0 a0_1 a0_2 bt304.2.1 bt304.2.2.1 bt304.2.2.2.1 bt304.2.2.2.2.1 bt304.2.2.2.2.2) else (if ((rd_T36 l1 x9_1).f0) > 26 then (flywheellaw20_LossyBounds.j2 kj8 l1 x7_1 x8_1 x9_1 t295 (mx 0 (ji15)) bt304.1 (decide (bt304.1 > t295)) a0_0 a0_1 a0_2 bt304.2.1 bt304.2.2.1 bt304.2.2.2.1 bt304.2.2.2.2.1 bt304.2.2.2.2.2) else (flywheellaw20_LossyBounds.j2 kj8 l1 x7_1 x8_1 x9_1 t295 (mx 0 (ji15)) bt304.1 false a0_0 a0_1 a0_2 bt304.2.1 bt304.2.2.1 bt304.2.2.2.1 bt304.2.2.2.2.1 bt304.2.2.2.2.2))) else (if ((rd_T36 l1 x9_1).f0) > 26 then (flywheellaw20_LossyBounds.j2 kj8 l1 x7_1 x8_1 x9_1 t295 (mx 0 (ji15)) bt304.1 (decide (bt304.1 > t295)) a0_0 a0_1 a0_2 bt304.2.1 bt304.2.2.1 bt304.2.2.2.1 bt304.2.2.2.2.1 bt304.2.2.2.2.2) else (flywheellaw20_LossyBounds.j2 kj8 l1 x7_1 x8_1 x9_1 t295 (mx 0 (ji15)) bt304.1 false a0_0 a0_1 a0_2 bt304.2.1 bt304.2.2.1 bt304.2.2.2.1 bt304.2.2.2.2.1 bt304.2.2.2.2.2)))))) = some r := by first | (rw [hji15] at H; exact H) | (simp only [hji15] at H ⊢; exact H)
          (try rw [hji15] at A12)
          have hji15_ : (if 1125899906842624 < ((rd_T36 l1 x9_1).f1) then 1125899906842624 else ((rd_T36 l1 x9_1).f1)) = ji15 := hji15
          obtain ⟨ji16, hji16⟩ : ∃ j_ : Int, (mx 0 (ji15)) = j_ := ⟨_, rfl⟩
          replace H : ((lossy_Lossy_Update.f t296 t297 t298 t299 t300 ((rd_T36 l1 x9_1).f0) ((rd_T36 l1 x9_1).f1)).bind fun bt304 => (if bt304.1 < a0_1 then (flywheellaw20_LossyBounds.j2 kj8 l1 x7_1 x8_1 x9_1 t295 ji16 bt304.1 true a0_0 a0_1 a0_2 bt304.2.1 bt304.2.2.1 bt304.2.2.2.1 bt304.2.2.2.2.1 bt304.2.2.2.2.2) else (if bt304.1 > a0_2 then (flywheellaw20_LossyBounds.j2 kj8 l1 x7_1 x8_1 x9_1 t295 ji16 bt304.1 true a0_0 a0_1 a0_2 bt304.2.1 bt304.2.2.1 bt304.2.2.2.1 bt304.2.2.2.2.1 bt304.2.2.2.2.2) else (if ((rd_T36 l1 x9_1).f0) < 6 then (if bt304.1 < t295 then (flywheellaw20_LossyBounds.j2 kj8 l1 x7_1 x8_1 x9_1 t295 ji16 bt304.1 true a0_0 a0_1 a0_2 bt304.2.1 bt304.2.2.1 bt304.2.2.2.1 bt304.2.2.2.2.1 bt304.2.2.2.2.2) else (if ((rd_T36 l1 x9_1).f0) > 26 then (flywheellaw20_LossyBounds.j2 kj8 l1 x7_1 x8_1 x9_1 t295 ji16 bt304.1 (decide (bt304.1 > t295)) a0_0 a0_1 a0_2 bt304.2.1 bt304.2.2.1 bt304.2.2.2.1 bt304.2.2.2.2.1 bt304.2.2.2.2.2) else (flywheellaw20_LossyBounds.j2 kj8 l1 x7_1 x8_1 x9_1 t295 ji16 bt304.1 false a0_0 a0_1 a0_2 bt304.2.1 bt304.2.2.1 bt304.2.2.2.1 bt304.2.2.2.2.1 bt304.2.2.2.2.2))) else (if ((rd_T36 l1 x9_1).f0) > 26 then (flywheellaw20_LossyBounds.j2 kj8 l1 x7_1 x8_1 x9_1 t295 ji16 bt304.1 (decide (bt304.1 > t295)) a0_0 a0_1 a0_2 bt304.2.1 bt304.2.2.1 bt304.2.2.2.1 bt304.2.2.2.2.1 bt304.2.2.2.2.2) else (flywheellaw20_LossyBounds.j2 kj8 l1 x7_1 x8_1 x9_1 t295 ji16 bt304.1 false a0_0 a0_1 a0_2 bt304.2.1 bt304.2.2.1 bt304.2.2.2.1 bt304.2.2.2.2.1 bt304.2.2.2.2.2)))))) = some r := by first | (rw [hji16] at H; exact H) | (simp only [hji16] at H ⊢; exact H)
          (try rw [hji16] at A12)
          have hji16_ : (if 0 < (ji15) then (ji15) else 0) = ji16 := hji16
          replace H := Option.bind_eq_some_iff.mp H
          obtain ⟨⟨t304, t305, t306, t307, t308, t309⟩, A170, H⟩ := H
          replace H : (if t304 < a0_1 then (flywheellaw20_LossyBounds.j2 kj8 l1 x7_1 x8_1 x9_1 t295 ji16 t304 true a0_0 a0_1 a0_2 t305 t306 t307 t308 t309) else (if t304 > a0_2 then (flywheellaw20_LossyBounds.j2 kj8 l1 x7_1 x8_1 x9_1 t295 ji16 t304 true a0_0 a0_1 a0_2 t305 t306 t307 t308 t309) else (if ((rd_T36 l1 x9_1).f0) < 6 then (if t304 < t295 then (flywheellaw20_LossyBounds.j2 kj8 l1 x7_1 x8_1 x9_1 t295 ji16 t304 true a0_0 a0_1 a0_2 t305 t306 t307 t308 t309) else (if ((rd_T36 l1 x9_1).f0) > 26 then (flywheellaw20_LossyBounds.j2 kj8 l1 x7_1 x8_1 x9_1 t295 ji16 t304 (decide (t304 > t295)) a0_0 a0_1 a0_2 t305 t306 t307 t308 t309) else (flywheellaw20_LossyBounds.j2 kj8 l1 x7_1 x8_1 x9_1 t295 ji16 t304 false a0_0 a0_1 a0_2 t305 t306 t307 t308 t309))) else (if ((rd_T36 l1 x9_1).f0) > 26 then (flywheellaw20_LossyBounds.j2 kj8 l1 x7_1 x8_1 x9_1 t295 ji16 t304 (decide (t304 > t295)) a0_0 a0_1 a0_2 t305 t306 t307 t308 t309) else (flywheellaw20_LossyBounds.j2 kj8 l1 x7_1 x8_1 x9_1 t295 ji16 t304 false a0_0 a0_1 a0_2 t305 t306 t307 t308 t309))))) = some r := H
          have A17 := Aside0.mk A170
          clear A170
          have HC18 := Aside0.mk H
          clear H
          try go_wp2_with (first | ((with_reducible refine gate_callee (f := 12) rfl ?_); refine goesL_ (some 47) rfl rfl Tryd.func12 (by kernel_rfl) rfl #[.pointer (some ⟨g290, 0, none⟩)] rfl (by (try simp only [List.map_toArray, List.map_cons, List.map_nil]); first | done | rfl | (simp only [List.length_drop, List.length_take]; rfl)) ?_; (with_reducible refine (lossy_Lossy_Rate.calls g290 x291000_1 x291001_1 x291002_1 x291003_1 x291004_1 t295 t296 t297 t298 t299 t300 w _ ?side1 ?side2 A12.out).mono ?_); (case side1 => repeat (first | (with_reducible first | exact HI290.out | apply IsS42.alloc | apply IsS42.drewN | apply IsS42.drew | apply IsS42.set_0 | apply IsS42.set_1 | apply IsS42.set_2 | apply IsS42.set_3 | apply IsS42.set_4 | refine IsS42.far ?_ NB290_284.out _) | exact HI290.out)); (case side2 => repeat (first | (with_reducible first | exact HB.out | apply below_alloc | apply pw_below_drewN | apply below_drew1 | refine below_set ?_ (IsS42.ge HI290.out) | refine below_set ?_ GE284.out) | exact HB.out)); rintro e w19 ⟨rfl, hi, hb, hk⟩; refine ⟨_, rfl, ?_⟩; have n0_ := Aside0.mk (KeepBut.blk hk (g' := gb284) (o := .cells #[.int .i64 a0_0, .int .i64 a0_1, .int .i64 a0_2] 23 (0, 0)) (by (with_reducible repeat (first | refine blk_drewN ?_ _ | refine blk_drew ?_ | refine blk_alloc ?_ _)); exact BK284.out) NB284_290.out (by simp)); have n1_ := Aside0.mk (hb); have n2_ := Aside0.mk (hi); clear BK284; clear HB; clear HI290; have BK284 := n0_; have HB := n1_; have HI290 := n2_; clear n0_ n1_ n2_; (try clear hb); (try clear hb2); (try clear hk); (try clear hi); have p301 : 0 ≤ (x9_1 : Int) := of_decide_eq_true (by first | (with_reducible assumption) | assumption); have q301 : x9_1 < (l1.length : Int) := of_decide_eq_true (by first | (with_reducible assumption) | assumption); obtain ⟨ad301, e301, hx301_0, hx301_1⟩ := at_T36 HR1.out x9_1 p301 q301; cases e301; replace hx301_0 := (HB.out.cell (World.block_lt_of_cell? w _ hx301_0)).trans hx301_0; replace hx301_1 := (HB.out.cell (World.block_lt_of_cell? w _ hx301_1)).trans hx301_1; replace p301 := eq_true p301; replace q301 := eq_true q301))
          have n0_ := Aside0.mk (blk_drew BK284.out)
          have n1_ := Aside0.mk (IsS42.drew HI290.out)
          have n2_ := Aside0.mk (below_drew1 HB.out)
          clear BK284
          clear HI290
          clear HB
          have BK284 := n0_
          have HI290 := n1_
          have HB := n2_
          clear n0_ n1_ n2_
          have p302 : 0 ≤ (x9_1 : Int) := of_decide_eq_true (by first | (with_reducible assumption) | assumption)
          have q302 : x9_1 < (l1.length : Int) := of_decide_eq_true (by first | (with_reducible assumption) | assumption)
          obtain ⟨ad302, e302, hx302_0, hx302_1⟩ := at_T36 HR1.out x9_1 p302 q302
          have hw302_1 := hx302_1
          have hw302_0 := hx302_0
          obtain rfl : ad301 = ad302 := (by injection e302)
          replace hx302_0 := (HB.out.cell (World.block_lt_of_cell? w _ hx302_0)).trans hx302_0
          replace hx302_1 := (HB.out.cell (World.block_lt_of_cell? w _ hx302_1)).trans hx302_1
          replace p302 := eq_true p302
          replace q302 := eq_true q302
          have p303 : 0 ≤ (x9_1 : Int) := of_decide_eq_true (by first | (with_reducible assumption) | assumption)
          have q303 : x9_1 < (l1.length : Int) := of_decide_eq_true (by first | (with_reducible assumption) | assumption)
          obtain ⟨ad303, e303, hx303_0, hx303_1⟩ := at_T36 HR1.out x9_1 p303 q303
          have hw303_1 := hx303_1
          have hw303_0 := hx303_0
          obtain rfl : ad301 = ad303 := (by injection e303)
          replace hx303_0 := (HB.out.cell (World.block_lt_of_cell? w _ hx303_0)).trans hx303_0
          replace hx303_1 := (HB.out.cell (World.block_lt_of_cell? w _ hx303_1)).trans hx303_1
          replace p303 := eq_true p303
          replace q303 := eq_true q303
          refine start_ (n := 13) (S := fun w' => w'.cell? (ad301.add ((x9_1).toNat * 2)) = some (.int .i64 ((rd_T36 l1 x9_1).f0)) ∧ w'.cell? ⟨(ad301.add ((x9_1).toNat * 2)).block, (ad301.add ((x9_1).toNat * 2)).off + 1, none⟩ = some (.int .i64 ((rd_T36 l1 x9_1).f1)) ∧ w'.cell? (ad301.add ((x9_1).toNat * 2)) = some (.int .i64 ((rd_T36 l1 x9_1).f0)) ∧ w'.cell? ⟨(ad301.add ((x9_1).toNat * 2)).block, (ad301.add ((x9_1).toNat * 2)).off + 1, none⟩ = some (.int .i64 ((rd_T36 l1 x9_1).f1))) (ds := []) #[false, false, false, false, false, false, false, false, false, false, false, false, false] (by kernel_rfl) rfl rfl ⟨((HB.out.cell (World.block_lt_of_cell? w _ hw302_0)).trans hw302_0), ((HB.out.cell (World.block_lt_of_cell? w _ hw302_1)).trans hw302_1), ((HB.out.cell (World.block_lt_of_cell? w _ hw303_0)).trans hw303_0), ((HB.out.cell (World.block_lt_of_cell? w _ hw303_1)).trans hw303_1)⟩ (fun hHeld => ?_); refine with_tabW flywheellaw20_LossyBounds.tab10 flywheellaw20_LossyBounds.bits10 (fun HT_ HW_ => ?_)
          generalize w19.drew = w20 at BK284 HI290 HB hx302_0 hx302_1 hx303_0 hx303_1 hHeld ⊢
          refine pure_ (i := 0) (N := some 55) (v := ?_) (a' := ?_) #[true, false, false, false, false, false, false, false, false, false, false, false, false] rfl rfl (any_of HT_.out (by kernel_rfl)) (fun _ _ _ h => h) (Or.inl ⟨by rfl, ?_⟩) ?_ ?_
          rotate_left
          ·intro w'
           go_simp
           with_reducible rfl
          rotate_left
          ·simp only [Act.put, List.setIfInBounds_toArray, List.set_cons_zero, List.set_cons_succ, i64_w, i32_w]
           rfl
          refine pure_ (i := 1) (N := some 56) (v := ?_) (a' := ?_) #[true, true, false, false, false, false, false, false, false, false, false, false, false] rfl rfl (any_of HT_.out (by kernel_rfl)) (fun _ _ _ h => h) (Or.inl ⟨by rfl, ?_⟩) ?_ ?_
          rotate_left
          ·intro w'
           go_simp
           with_reducible rfl
          rotate_left
          ·simp only [Act.put, List.setIfInBounds_toArray, List.set_cons_zero, List.set_cons_succ, i64_w, i32_w]
           rfl
          refine pure_ (i := 2) (N := some 57) (v := ?_) (a' := ?_) #[true, true, true, false, false, false, false, false, false, false, false, false, false] rfl rfl (any_of HT_.out (by kernel_rfl)) (fun _ _ _ h => h) (Or.inl ⟨by rfl, ?_⟩) ?_ ?_
          rotate_left
          ·intro w'
           go_simp
           with_reducible rfl
          rotate_left
          ·simp only [Act.put, List.setIfInBounds_toArray, List.set_cons_zero, List.set_cons_succ, i64_w, i32_w]
           rfl
          refine pure_ (i := 3) (N := some 58) (v := ?_) (a' := ?_) #[true, true, true, true, false, false, false, false, false, false, false, false, false] rfl rfl (any_of HT_.out (by kernel_rfl)) (fun _ _ _ h => h) (Or.inl ⟨by rfl, ?_⟩) ?_ ?_
          rotate_left
          ·intro w'
           go_simp
           with_reducible rfl
          rotate_left
          ·simp only [Act.put, List.setIfInBounds_toArray, List.set_cons_zero, List.set_cons_succ, i64_w, i32_w]
           rfl
          refine pure_ (i := 4) (N := some 59) (v := ?_) (a' := ?_) #[true, true, true, true, true, false, false, false, false, false, false, false, false] rfl rfl (any_of HT_.out (by kernel_rfl)) (fun _ _ _ h => h) (Or.inl ⟨by rfl, ?_⟩) ?_ ?_
          rotate_left
          ·intro w'
           go_simp
           with_reducible rfl
          rotate_left
          ·simp only [Act.put, List.setIfInBounds_toArray, List.set_cons_zero, List.set_cons_succ, i64_w, i32_w]
           rfl
          refine pure_ (i := 6) (N := some 61) (v := ?_) (a' := ?_) #[true, true, true, true, true, false, true, false, false, false, false, false, false] rfl rfl (any_of HT_.out (by kernel_rfl)) (fun _ _ _ h => h) (Or.inl ⟨by rfl, ?_⟩) ?_ ?_
          rotate_left
          ·intro w'
           go_simp
           with_reducible rfl
          rotate_left
          ·simp only [Act.put, List.setIfInBounds_toArray, List.set_cons_zero, List.set_cons_succ, i64_w, i32_w]
           rfl
          refine pure_ (i := 7) (N := some 62) (v := ?_) (a' := ?_) #[true, true, true, true, true, false, true, true, false, false, false, false, false] rfl rfl (any_of HT_.out (by kernel_rfl)) (fun _ _ _ h => h) (Or.inl ⟨by rfl, ?_⟩) ?_ ?_
          rotate_left
          ·intro w'
           go_simp
           with_reducible rfl
          rotate_left
          ·simp only [Act.put, List.setIfInBounds_toArray, List.set_cons_zero, List.set_cons_succ, i64_w, i32_w]
           rfl
          refine pure_ (i := 8) (N := some 63) (v := ?_) (a' := ?_) #[true, true, true, true, true, false, true, true, true, false, false, false, false] rfl rfl (any_of HT_.out (by kernel_rfl)) (fun _ _ _ h => h) (Or.inl ⟨by rfl, ?_⟩) ?_ ?_
          rotate_left
          ·intro w'
           go_simp
           with_reducible rfl
          rotate_left
          ·simp only [Act.put, List.setIfInBounds_toArray, List.set_cons_zero, List.set_cons_succ, i64_w, i32_w]
           rfl
          refine pure_ (i := 9) (N := some 64) (v := ?_) (a' := ?_) #[true, true, true, true, true, false, true, true, true, true, false, false, false] rfl rfl (any_of HT_.out (by kernel_rfl)) (fun _ _ _ h => h) (Or.inl ⟨by rfl, ?_⟩) ?_ ?_
          rotate_left
          ·intro w'
           go_simp
           with_reducible rfl
          rotate_left
          ·simp only [Act.put, List.setIfInBounds_toArray, List.set_cons_zero, List.set_cons_succ, i64_w, i32_w]
           rfl
          refine take_ (i := 5) (N := some 60) (v := ?_) (a' := ?_) #[true, true, true, true, true, true, true, true, true, true, false, false, false] rfl rfl (take_ofW HT_.out HW_.out (by kernel_rfl)) (fun _ _ _ h => h) (Or.inl ⟨by rfl, ?_⟩) hHeld ?_ ?_
          rotate_left
          ·rintro w' ⟨s0, s1, s2, s3⟩
           go_simp
           with_reducible rfl
          rotate_left
          ·simp only [Act.put, List.setIfInBounds_toArray, List.set_cons_zero, List.set_cons_succ, i64_w, i32_w]
           rfl
          refine take_ (i := 10) (N := some 65) (v := ?_) (a' := ?_) #[true, true, true, true, true, true, true, true, true, true, true, false, false] rfl rfl (take_ofW HT_.out HW_.out (by kernel_rfl)) (fun _ _ _ h => h) (Or.inl ⟨by rfl, ?_⟩) hHeld ?_ ?_
          rotate_left
          ·rintro w' ⟨s0, s1, s2, s3⟩
           go_simp
           with_reducible rfl
          rotate_left
          ·simp only [Act.put, List.setIfInBounds_toArray, List.set_cons_zero, List.set_cons_succ, i64_w, i32_w]
           rfl
          refine one_ (i := 11) (N := some 66) #[true, true, true, true, true, true, true, true, true, true, true, true, false] rfl rfl (one_of HT_.out (by kernel_rfl)) (by decide) (fun K hK => ?_)
          refine goes_ Tryd.func9 (by kernel_rfl) rfl #[.pointer (some ⟨g290, 0, none⟩), .int .i64 ((rd_T36 l1 x9_1).f0), .int .i64 ((rd_T36 l1 x9_1).f1)] (by rfl) rfl rfl (by (try simp only [List.map_toArray, List.map_cons, List.map_nil]); first | done | rfl | (simp only [List.length_drop, List.length_take]; rfl)) ?_
          with_reducible refine (lossy_Lossy_Update.calls g290 t296 t297 t298 t299 t300 ((rd_T36 l1 x9_1).f0) ((rd_T36 l1 x9_1).f1) t304 t305 t306 t307 t308 t309 w _ ?side1 ?side2 ?sideG A17.out).mono ?_
          (case sideG => first | exact HTB.out | exact GL.below HTB.out (by repeat (first | (with_reducible first | exact HB.out | apply below_alloc | apply pw_below_drewN | apply below_drew1) | exact HB.out)))
          (case side1 => repeat (first | (with_reducible first | exact HI290.out | apply IsS42.alloc | apply IsS42.drewN | apply IsS42.drew | apply IsS42.set_0 | apply IsS42.set_1 | apply IsS42.set_2 | apply IsS42.set_3 | apply IsS42.set_4 | refine IsS42.far ?_ NB290_284.out _) | exact HI290.out))
          (case side2 => repeat (first | (with_reducible first | exact HB.out | apply below_alloc | apply pw_below_drewN | apply below_drew1 | refine below_set ?_ (IsS42.ge HI290.out) | refine below_set ?_ GE284.out) | exact HB.out))
          rintro e w21 ⟨rfl, hi, hb, hk⟩
          refine ⟨_, rfl, ?_⟩
          have n0_ := Aside0.mk (KeepBut.blk hk (g' := gb284) (o := .cells #[.int .i64 a0_0, .int .i64 a0_1, .int .i64 a0_2] 23 (0, 0)) (by (with_reducible repeat (first | refine blk_drewN ?_ _ | refine blk_drew ?_ | refine blk_alloc ?_ _)); exact BK284.out) NB284_290.out (by simp))
          have n1_ := Aside0.mk (hb)
          have n2_ := Aside0.mk (hi)
          clear BK284
          clear HB
          clear HI290
          have BK284 := n0_
          have HB := n1_
          have HI290 := n2_
          clear n0_ n1_ n2_
          (try clear hb)
          (try clear hb2)
          (try clear hk)
          (try clear hi)
          refine hK.out _ _ ⟨((HB.out.cell (World.block_lt_of_cell? w _ hw302_0)).trans hw302_0), ((HB.out.cell (World.block_lt_of_cell? w _ hw302_1)).trans hw302_1), ((HB.out.cell (World.block_lt_of_cell? w _ hw303_0)).trans hw303_0), ((HB.out.cell (World.block_lt_of_cell? w _ hw303_1)).trans hw303_1)⟩ (fun hHeld => ?_)
          clear hK K
          refine norm_ (a' := ?_) ?_ ?_
          rotate_left
          ·show Act.put _ (some 66) _ = _
           simp only [Act.put, List.setIfInBounds_toArray, List.set_cons_zero, List.set_cons_succ, i64_w, i32_w]
           rfl
          refine pure_ (i := 12) (N := some 12) (v := ?_) (a' := ?_) #[true, true, true, true, true, true, true, true, true, true, true, true, true] rfl rfl (any_of HT_.out (by kernel_rfl)) (fun _ _ _ h => h) (Or.inl ⟨by rfl, ?_⟩) ?_ ?_
          rotate_left
          ·intro w'
           go_simp
           with_reducible rfl
          rotate_left
          ·simp only [Act.put, List.setIfInBounds_toArray, List.set_cons_zero, List.set_cons_succ, i64_w, i32_w]
           rfl
          refine done_ (done_of HT_.out (by kernel_rfl)) ?_
          go_upto_region 11 with (fail)
          go_cut [102] (fun v102 wc => ∃ (kq : Nat) (x102_17 : Bool), v102 = .bool x102_17 ∧ Aside0 (flywheellaw20_LossyBounds.j2 kq l1 x7_1 x8_1 x9_1 t295 ji16 t304 x102_17 a0_0 a0_1 a0_2 t305 t306 t307 t308 t309 = some r) ∧ Aside0 (kq ≤ kj8) ∧ Aside0 (wc.heap[gb284]? = some (.cells #[.int .i64 a0_0, .int .i64 a0_1, .int .i64 a0_2] 23 (0, 0))) ∧ Aside0 (IsS42 w wc g290 t305 t306 t307 t308 t309) ∧ Aside0 (Below w.heap.size w wc))
          case first =>
           have H := HC18.out
           clear HC18
           by_cases c22 : t304 < a0_1
           ·rw [if_pos c22] at H
            have c22b0 : decide (t304 < a0_1) = true := decide_eq_true c22
            clear c22
            (first | rw [c22b0] | (simp only [i64_w, i32_w]; rw [c22b0]) | skip)
            have H' := Aside0.mk H
            clear H
            have hnb23 := NB284_290.out
            have hnc23 := NB290_284.out
            have hcz24_0 : w21.cell? ⟨gb284, 0, none⟩ = some (.int .i64 a0_0) := (blk_cell BK284.out 0).trans rfl
            have hcz24_1 : w21.cell? ⟨gb284, 1, none⟩ = some (.int .i64 a0_1) := (blk_cell BK284.out 1).trans rfl
            have hcz24_2 : w21.cell? ⟨gb284, 2, none⟩ = some (.int .i64 a0_2) := (blk_cell BK284.out 2).trans rfl
            have hfz24_0 := blk_frozen BK284.out 0
            have hfz24_1 := blk_frozen BK284.out 1
            have hfz24_2 := blk_frozen BK284.out 2
            go_wp2
            go_meet
            case rel => exact ⟨_, (true), (by first | rfl | (simp; done) | (simp [*]; done)), H', ⟨by have := HK1.out; have := HJ8.out; first | omega | exact Nat.le_refl _⟩, ⟨by (with_reducible repeat (first | refine blk_drewN ?_ _ | refine blk_drew ?_ | refine blk_alloc ?_ _)); exact BK284.out⟩, ⟨by repeat (first | (with_reducible first | exact HI290.out | apply IsS42.alloc | apply IsS42.drewN | apply IsS42.drew | apply IsS42.set_0 | apply IsS42.set_1 | apply IsS42.set_2 | apply IsS42.set_3 | apply IsS42.set_4 | refine IsS42.far ?_ NB290_284.out _) | exact HI290.out)⟩, ⟨by repeat (first | (with_reducible first | exact HB.out | apply below_alloc | apply pw_below_drewN | apply below_drew1 | refine below_set ?_ (IsS42.ge HI290.out) | refine below_set ?_ GE284.out) | exact HB.out)⟩⟩
           ·rw [if_neg c22] at H
            have c22b0 : decide (t304 < a0_1) = false := decide_eq_false c22
            clear c22
            (first | rw [c22b0] | (simp only [i64_w, i32_w]; rw [c22b0]) | skip)
            by_cases c25 : t304 > a0_2
            ·rw [if_pos c25] at H
             have c25b0 : decide (a0_2 < t304) = true := decide_eq_true c25
             clear c25
             have H' := Aside0.mk H
             clear H
             have hnb26 := NB284_290.out
             have hnc26 := NB290_284.out
             have hcz27_0 : w21.cell? ⟨gb284, 0, none⟩ = some (.int .i64 a0_0) := (blk_cell BK284.out 0).trans rfl
             have hcz27_1 : w21.cell? ⟨gb284, 1, none⟩ = some (.int .i64 a0_1) := (blk_cell BK284.out 1).trans rfl
             have hcz27_2 : w21.cell? ⟨gb284, 2, none⟩ = some (.int .i64 a0_2) := (blk_cell BK284.out 2).trans rfl
             have hfz27_0 := blk_frozen BK284.out 0
             have hfz27_1 := blk_frozen BK284.out 1
             have hfz27_2 := blk_frozen BK284.out 2
             go_wp2
             go_meet
             case rel => exact ⟨_, (true), (by first | rfl | (simp; done) | (simp [*]; done)), H', ⟨by have := HK1.out; have := HJ8.out; first | omega | exact Nat.le_refl _⟩, ⟨by (with_reducible repeat (first | refine blk_drewN ?_ _ | refine blk_drew ?_ | refine blk_alloc ?_ _)); exact BK284.out⟩, ⟨by repeat (first | (with_reducible first | exact HI290.out | apply IsS42.alloc | apply IsS42.drewN | apply IsS42.drew | apply IsS42.set_0 | apply IsS42.set_1 | apply IsS42.set_2 | apply IsS42.set_3 | apply IsS42.set_4 | refine IsS42.far ?_ NB290_284.out _) | exact HI290.out)⟩, ⟨by repeat (first | (with_reducible first | exact HB.out | apply below_alloc | apply pw_below_drewN | apply below_drew1 | refine below_set ?_ (IsS42.ge HI290.out) | refine below_set ?_ GE284.out) | exact HB.out)⟩⟩
            ·rw [if_neg c25] at H
             have c25b0 : decide (a0_2 < t304) = false := decide_eq_false c25
             clear c25
             by_cases c28 : ((rd_T36 l1 x9_1).f0) < 6
             ·rw [if_pos c28] at H
              have c28b0 : decide (((rd_T36 l1 x9_1).f0) < 6) = true := decide_eq_true c28
              clear c28
              by_cases c29 : t304 < t295
              ·rw [if_pos c29] at H
               have c29b0 : decide (t304 < t295) = true := decide_eq_true c29
               clear c29
               have H' := Aside0.mk H
               clear H
               have hnb30 := NB284_290.out
               have hnc30 := NB290_284.out
               have hcz31_0 : w21.cell? ⟨gb284, 0, none⟩ = some (.int .i64 a0_0) := (blk_cell BK284.out 0).trans rfl
               have hcz31_1 : w21.cell? ⟨gb284, 1, none⟩ = some (.int .i64 a0_1) := (blk_cell BK284.out 1).trans rfl
               have hcz31_2 : w21.cell? ⟨gb284, 2, none⟩ = some (.int .i64 a0_2) := (blk_cell BK284.out 2).trans rfl
               have hfz31_0 := blk_frozen BK284.out 0
               have hfz31_1 := blk_frozen BK284.out 1
               have hfz31_2 := blk_frozen BK284.out 2
               have p310 : 0 ≤ (x9_1 : Int) := of_decide_eq_true (by first | (with_reducible assumption) | assumption)
               have q310 : x9_1 < (l1.length : Int) := of_decide_eq_true (by first | (with_reducible assumption) | assumption)
               obtain ⟨ad310, e310, hx310_0, hx310_1⟩ := at_T36 HR1.out x9_1 p310 q310
               obtain rfl : ad301 = ad310 := (by injection e310)
               replace hx310_0 := (HB.out.cell (World.block_lt_of_cell? w _ hx310_0)).trans hx310_0
               replace hx310_1 := (HB.out.cell (World.block_lt_of_cell? w _ hx310_1)).trans hx310_1
               replace p310 := eq_true p310
               replace q310 := eq_true q310
               go_wp2
               go_meet
               case rel => exact ⟨_, (true), (by first | rfl | (simp; done) | (simp [*]; done)), H', ⟨by have := HK1.out; have := HJ8.out; first | omega | exact Nat.le_refl _⟩, ⟨by (with_reducible repeat (first | refine blk_drewN ?_ _ | refine blk_drew ?_ | refine blk_alloc ?_ _)); exact BK284.out⟩, ⟨by repeat (first | (with_reducible first | exact HI290.out | apply IsS42.alloc | apply IsS42.drewN | apply IsS42.drew | apply IsS42.set_0 | apply IsS42.set_1 | apply IsS42.set_2 | apply IsS42.set_3 | apply IsS42.set_4 | refine IsS42.far ?_ NB290_284.out _) | exact HI290.out)⟩, ⟨by repeat (first | (with_reducible first | exact HB.out | apply below_alloc | apply pw_below_drewN | apply below_drew1 | refine below_set ?_ (IsS42.ge HI290.out) | refine below_set ?_ GE284.out) | exact HB.out)⟩⟩
              ·rw [if_neg c29] at H
               have c29b0 : decide (t304 < t295) = false := decide_eq_false c29
               clear c29
               by_cases c32 : ((rd_T36 l1 x9_1).f0) > 26
               ·rw [if_pos c32] at H
                have c32b0 : decide (26 < ((rd_T36 l1 x9_1).f0)) = true := decide_eq_true c32
                clear c32
                have H' := Aside0.mk H
                clear H
                have hnb33 := NB284_290.out
                have hnc33 := NB290_284.out
                have hcz34_0 : w21.cell? ⟨gb284, 0, none⟩ = some (.int .i64 a0_0) := (blk_cell BK284.out 0).trans rfl
                have hcz34_1 : w21.cell? ⟨gb284, 1, none⟩ = some (.int .i64 a0_1) := (blk_cell BK284.out 1).trans rfl
                have hcz34_2 : w21.cell? ⟨gb284, 2, none⟩ = some (.int .i64 a0_2) := (blk_cell BK284.out 2).trans rfl
                have hfz34_0 := blk_frozen BK284.out 0
                have hfz34_1 := blk_frozen BK284.out 1
                have hfz34_2 := blk_frozen BK284.out 2
                have p310 : 0 ≤ (x9_1 : Int) := of_decide_eq_true (by first | (with_reducible assumption) | assumption)
                have q310 : x9_1 < (l1.length : Int) := of_decide_eq_true (by first | (with_reducible assumption) | assumption)
                obtain ⟨ad310, e310, hx310_0, hx310_1⟩ := at_T36 HR1.out x9_1 p310 q310
                obtain rfl : ad301 = ad310 := (by injection e310)
                replace hx310_0 := (HB.out.cell (World.block_lt_of_cell? w _ hx310_0)).trans hx310_0
                replace hx310_1 := (HB.out.cell (World.block_lt_of_cell? w _ hx310_1)).trans hx310_1
                replace p310 := eq_true p310
                replace q310 := eq_true q310
                have p311 : 0 ≤ (x9_1 : Int) := of_decide_eq_true (by first | (with_reducible assumption) | assumption)
                have q311 : x9_1 < (l1.length : Int) := of_decide_eq_true (by first | (with_reducible assumption) | assumption)
                obtain ⟨ad311, e311, hx311_0, hx311_1⟩ := at_T36 HR1.out x9_1 p311 q311
                obtain rfl : ad301 = ad311 := (by injection e311)
                replace hx311_0 := (HB.out.cell (World.block_lt_of_cell? w _ hx311_0)).trans hx311_0
                replace hx311_1 := (HB.out.cell (World.block_lt_of_cell? w _ hx311_1)).trans hx311_1
                replace p311 := eq_true p311
                replace q311 := eq_true q311
                go_wp2
                go_meet
                case rel => exact ⟨_, (decide (t304 > t295)), (by first | rfl | (simp; done) | (simp [*]; done)), H', ⟨by have := HK1.out; have := HJ8.out; first | omega | exact Nat.le_refl _⟩, ⟨by (with_reducible repeat (first | refine blk_drewN ?_ _ | refine blk_drew ?_ | refine blk_alloc ?_ _)); exact BK284.out⟩, ⟨by repeat (first | (with_reducible first | exact HI290.out | apply IsS42.alloc | apply IsS42.drewN | apply IsS42.drew | apply IsS42.set_0 | apply IsS42.set_1 | apply IsS42.set_2 | apply IsS42.set_3 | apply IsS42.set_4 | refine IsS42.far ?_ NB290_284.out _) | exact HI290.out)⟩, ⟨by repeat (first | (with_reducible first | exact HB.out | apply below_alloc | apply pw_below_drewN | apply below_drew1 | refine below_set ?_ (IsS42.ge HI290.out) | refine below_set ?_ GE284.out) | exact HB.out)⟩⟩
               ·rw [if_neg c32] at H
                have c32b0 : decide (26 < ((rd_T36 l1 x9_1).f0)) = false := decide_eq_false c32
                clear c32
                have H' := Aside0.mk H
                clear H
                have hnb35 := NB284_290.out
                have hnc35 := NB290_284.out
                have hcz36_0 : w21.cell? ⟨gb284, 0, none⟩ = some (.int .i64 a0_0) := (blk_cell BK284.out 0).trans rfl
                have hcz36_1 : w21.cell? ⟨gb284, 1, none⟩ = some (.int .i64 a0_1) := (blk_cell BK284.out 1).trans rfl
                have hcz36_2 : w21.cell? ⟨gb284, 2, none⟩ = some (.int .i64 a0_2) := (blk_cell BK284.out 2).trans rfl
                have hfz36_0 := blk_frozen BK284.out 0
                have hfz36_1 := blk_frozen BK284.out 1
                have hfz36_2 := blk_frozen BK284.out 2
                have p310 : 0 ≤ (x9_1 : Int) := of_decide_eq_true (by first | (with_reducible assumption) | assumption)
                have q310 : x9_1 < (l1.length : Int) := of_decide_eq_true (by first | (with_reducible assumption) | assumption)
                obtain ⟨ad310, e310, hx310_0, hx310_1⟩ := at_T36 HR1.out x9_1 p310 q310
                obtain rfl : ad301 = ad310 := (by injection e310)
                replace hx310_0 := (HB.out.cell (World.block_lt_of_cell? w _ hx310_0)).trans hx310_0
                replace hx310_1 := (HB.out.cell (World.block_lt_of_cell? w _ hx310_1)).trans hx310_1
                replace p310 := eq_true p310
                replace q310 := eq_true q310
                have p311 : 0 ≤ (x9_1 : Int) := of_decide_eq_true (by first | (with_reducible assumption) | assumption)
                have q311 : x9_1 < (l1.length : Int) := of_decide_eq_true (by first | (with_reducible assumption) | assumption)
                obtain ⟨ad311, e311, hx311_0, hx311_1⟩ := at_T36 HR1.out x9_1 p311 q311
                obtain rfl : ad301 = ad311 := (by injection e311)
                replace hx311_0 := (HB.out.cell (World.block_lt_of_cell? w _ hx311_0)).trans hx311_0
                replace hx311_1 := (HB.out.cell (World.block_lt_of_cell? w _ hx311_1)).trans hx311_1
                replace p311 := eq_true p311
                replace q311 := eq_true q311
                go_wp2
                go_meet
                case rel => exact ⟨_, (false), (by first | rfl | (simp; done) | (simp [*]; done)), H', ⟨by have := HK1.out; have := HJ8.out; first | omega | exact Nat.le_refl _⟩, ⟨by (with_reducible repeat (first | refine blk_drewN ?_ _ | refine blk_drew ?_ | refine blk_alloc ?_ _)); exact BK284.out⟩, ⟨by repeat (first | (with_reducible first | exact HI290.out | apply IsS42.alloc | apply IsS42.drewN | apply IsS42.drew | apply IsS42.set_0 | apply IsS42.set_1 | apply IsS42.set_2 | apply IsS42.set_3 | apply IsS42.set_4 | refine IsS42.far ?_ NB290_284.out _) | exact HI290.out)⟩, ⟨by repeat (first | (with_reducible first | exact HB.out | apply below_alloc | apply pw_below_drewN | apply below_drew1 | refine below_set ?_ (IsS42.ge HI290.out) | refine below_set ?_ GE284.out) | exact HB.out)⟩⟩
             ·rw [if_neg c28] at H
              have c28b0 : decide (((rd_T36 l1 x9_1).f0) < 6) = false := decide_eq_false c28
              clear c28
              by_cases c37 : ((rd_T36 l1 x9_1).f0) > 26
              ·rw [if_pos c37] at H
               have c37b0 : decide (26 < ((rd_T36 l1 x9_1).f0)) = true := decide_eq_true c37
               clear c37
               have H' := Aside0.mk H
               clear H
               have hnb38 := NB284_290.out
               have hnc38 := NB290_284.out
               have hcz39_0 : w21.cell? ⟨gb284, 0, none⟩ = some (.int .i64 a0_0) := (blk_cell BK284.out 0).trans rfl
               have hcz39_1 : w21.cell? ⟨gb284, 1, none⟩ = some (.int .i64 a0_1) := (blk_cell BK284.out 1).trans rfl
               have hcz39_2 : w21.cell? ⟨gb284, 2, none⟩ = some (.int .i64 a0_2) := (blk_cell BK284.out 2).trans rfl
               have hfz39_0 := blk_frozen BK284.out 0
               have hfz39_1 := blk_frozen BK284.out 1
               have hfz39_2 := blk_frozen BK284.out 2
               have p310 : 0 ≤ (x9_1 : Int) := of_decide_eq_true (by first | (with_reducible assumption) | assumption)
               have q310 : x9_1 < (l1.length : Int) := of_decide_eq_true (by first | (with_reducible assumption) | assumption)
               obtain ⟨ad310, e310, hx310_0, hx310_1⟩ := at_T36 HR1.out x9_1 p310 q310
               obtain rfl : ad301 = ad310 := (by injection e310)
               replace hx310_0 := (HB.out.cell (World.block_lt_of_cell? w _ hx310_0)).trans hx310_0
               replace hx310_1 := (HB.out.cell (World.block_lt_of_cell? w _ hx310_1)).trans hx310_1
               replace p310 := eq_true p310
               replace q310 := eq_true q310
               have p312 : 0 ≤ (x9_1 : Int) := of_decide_eq_true (by first | (with_reducible assumption) | assumption)
               have q312 : x9_1 < (l1.length : Int) := of_decide_eq_true (by first | (with_reducible assumption) | assumption)
               obtain ⟨ad312, e312, hx312_0, hx312_1⟩ := at_T36 HR1.out x9_1 p312 q312
               obtain rfl : ad301 = ad312 := (by injection e312)
               replace hx312_0 := (HB.out.cell (World.block_lt_of_cell? w _ hx312_0)).trans hx312_0
               replace hx312_1 := (HB.out.cell (World.block_lt_of_cell? w _ hx312_1)).trans hx312_1
               replace p312 := eq_true p312
               replace q312 := eq_true q312
               go_wp2
               go_meet
               case rel => exact ⟨_, (decide (t304 > t295)), (by first | rfl | (simp; done) | (simp [*]; done)), H', ⟨by have := HK1.out; have := HJ8.out; first | omega | exact Nat.le_refl _⟩, ⟨by (with_reducible repeat (first | refine blk_drewN ?_ _ | refine blk_drew ?_ | refine blk_alloc ?_ _)); exact BK284.out⟩, ⟨by repeat (first | (with_reducible first | exact HI290.out | apply IsS42.alloc | apply IsS42.drewN | apply IsS42.drew | apply IsS42.set_0 | apply IsS42.set_1 | apply IsS42.set_2 | apply IsS42.set_3 | apply IsS42.set_4 | refine IsS42.far ?_ NB290_284.out _) | exact HI290.out)⟩, ⟨by repeat (first | (with_reducible first | exact HB.out | apply below_alloc | apply pw_below_drewN | apply below_drew1 | refine below_set ?_ (IsS42.ge HI290.out) | refine below_set ?_ GE284.out) | exact HB.out)⟩⟩
              ·rw [if_neg c37] at H
               have c37b0 : decide (26 < ((rd_T36 l1 x9_1).f0)) = false := decide_eq_false c37
               clear c37
               have H' := Aside0.mk H
               clear H
               have hnb40 := NB284_290.out
               have hnc40 := NB290_284.out
               have hcz41_0 : w21.cell? ⟨gb284, 0, none⟩ = some (.int .i64 a0_0) := (blk_cell BK284.out 0).trans rfl
               have hcz41_1 : w21.cell? ⟨gb284, 1, none⟩ = some (.int .i64 a0_1) := (blk_cell BK284.out 1).trans rfl
               have hcz41_2 : w21.cell? ⟨gb284, 2, none⟩ = some (.int .i64 a0_2) := (blk_cell BK284.out 2).trans rfl
               have hfz41_0 := blk_frozen BK284.out 0
               have hfz41_1 := blk_frozen BK284.out 1
               have hfz41_2 := blk_frozen BK284.out 2
               have p310 : 0 ≤ (x9_1 : Int) := of_decide_eq_true (by first | (with_reducible assumption) | assumption)
               have q310 : x9_1 < (l1.length : Int) := of_decide_eq_true (by first | (with_reducible assumption) | assumption)
               obtain ⟨ad310, e310, hx310_0, hx310_1⟩ := at_T36 HR1.out x9_1 p310 q310
               obtain rfl : ad301 = ad310 := (by injection e310)
               replace hx310_0 := (HB.out.cell (World.block_lt_of_cell? w _ hx310_0)).trans hx310_0
               replace hx310_1 := (HB.out.cell (World.block_lt_of_cell? w _ hx310_1)).trans hx310_1
               replace p310 := eq_true p310
               replace q310 := eq_true q310
               have p312 : 0 ≤ (x9_1 : Int) := of_decide_eq_true (by first | (with_reducible assumption) | assumption)
               have q312 : x9_1 < (l1.length : Int) := of_decide_eq_true (by first | (with_reducible assumption) | assumption)
               obtain ⟨ad312, e312, hx312_0, hx312_1⟩ := at_T36 HR1.out x9_1 p312 q312
               obtain rfl : ad301 = ad312 := (by injection e312)
               replace hx312_0 := (HB.out.cell (World.block_lt_of_cell? w _ hx312_0)).trans hx312_0
               replace hx312_1 := (HB.out.cell (World.block_lt_of_cell? w _ hx312_1)).trans hx312_1
               replace p312 := eq_true p312
               replace q312 := eq_true q312
               go_wp2
               go_meet
               case rel => exact ⟨_, (false), (by first | rfl | (simp; done) | (simp [*]; done)), H', ⟨by have := HK1.out; have := HJ8.out; first | omega | exact Nat.le_refl _⟩, ⟨by (with_reducible repeat (first | refine blk_drewN ?_ _ | refine blk_drew ?_ | refine blk_alloc ?_ _)); exact BK284.out⟩, ⟨by repeat (first | (with_reducible first | exact HI290.out | apply IsS42.alloc | apply IsS42.drewN | apply IsS42.drew | apply IsS42.set_0 | apply IsS42.set_1 | apply IsS42.set_2 | apply IsS42.set_3 | apply IsS42.set_4 | refine IsS42.far ?_ NB290_284.out _) | exact HI290.out)⟩, ⟨by repeat (first | (with_reducible first | exact HB.out | apply below_alloc | apply pw_below_drewN | apply below_drew1 | refine below_set ?_ (IsS42.ge HI290.out) | refine below_set ?_ GE284.out) | exact HB.out)⟩⟩
          case rest =>
           clear HC18
           try clear c1
           try clear c2
           try clear p2
           try clear c3
           try clear c3b0
           try clear p3
           try clear q3
           try clear hx3
           try clear c4
           try clear c5
           try clear c5b0
           try clear c5b1
           try clear c7
           try clear c9
           try clear c10
           try clear c10b0
           try clear c11
           try clear c12
           try clear c13
           try clear c13b0
           try clear c14
           try clear c14b0
           try clear c22
           try clear c22b0
           try clear c23
           try clear c25
           try clear c25b0
           try clear c26
           try clear c28
           try clear c28b0
           try clear c29
           try clear c29b0
           try clear c30
           try clear p30
           try clear q30
           try clear hx30
           try clear p31
           try clear q31
           try clear hx31
           try clear c32
           try clear c32b0
           try clear c33
           try clear c35
           try clear c37
           try clear c37b0
           try clear c38
           try clear c40
           try clear hcz24_0
           try clear hcz24_1
           try clear hcz24_2
           try clear hcz27_0
           try clear hcz27_1
           try clear hcz27_2
           try clear hcz31_0
           try clear hcz31_1
           try clear hcz31_2
           try clear hcz34_0
           try clear hcz34_1
           try clear hcz34_2
           try clear hcz36_0
           try clear hcz36_1
           try clear hcz36_2
           try clear hcz39_0
           try clear hcz39_1
           try clear hcz39_2
           try clear hcz41_0
           try clear hcz41_1
           try clear hcz41_2
           try clear hcz7_0
           try clear hcz7_1
           try clear hcz7_2
           try clear hfz24_0
           try clear hfz24_1
           try clear hfz24_2
           try clear hfz27_0
           try clear hfz27_1
           try clear hfz27_2
           try clear hfz31_0
           try clear hfz31_1
           try clear hfz31_2
           try clear hfz34_0
           try clear hfz34_1
           try clear hfz34_2
           try clear hfz36_0
           try clear hfz36_1
           try clear hfz36_2
           try clear hfz39_0
           try clear hfz39_1
           try clear hfz39_2
           try clear hfz41_0
           try clear hfz41_1
           try clear hfz41_2
           try clear hfz7_0
           try clear hfz7_1
           try clear hfz7_2
           try clear hx301_0
           try clear hx301_1
           try clear hx302_0
           try clear hx302_1
           try clear hx303_0
           try clear hx303_1
           try clear hx310_0
           try clear hx310_1
           try clear hx311_0
           try clear hx311_1
           try clear hx312_0
           try clear hx312_1
           try clear p2
           try clear p301
           try clear p302
           try clear p303
           try clear p310
           try clear p311
           try clear p312
           try clear q301
           try clear q302
           try clear q303
           try clear q310
           try clear q311
           try clear q312
           obtain ⟨kq, x102_17, rfl, HA, HJ17, BK284, HI290, HB⟩ := hcut
           cases kq with
           | zero => exact absurd HA.out (by simp [flywheellaw20_LossyBounds.j2])
           | succ kj17 =>
            have H := HA.out
            clear HA
            simp only [flywheellaw20_LossyBounds.j2] at H
            by_cases c42 : x102_17 = true
            ·subst c42
             have H1 : (some false) = some r := by rw [if_pos rfl] at H; exact H
             clear H
             have H := H1
             clear H1
             obtain rfl := Option.some.inj H
             go_wp2
             go_ret
             exact ⟨by first | rfl | (simp [errW_none, errW_some] <;> rfl) | (simp only [← hji15, ← hji16]; first | rfl | (simp [errW_none, errW_some] <;> rfl)) | (simp [*, errW_none, errW_some] <;> rfl), by repeat (first | (with_reducible first | exact HB.out | apply below_alloc | apply pw_below_drewN | apply below_drew1 | refine below_set ?_ (IsS42.ge HI290.out) | refine below_set ?_ GE284.out) | exact HB.out)⟩
            ·replace c42 := Bool.eq_false_iff.mpr c42
             subst c42
             have H1 : (if x8_1 = true then (if (wrap64 (ji16 - x7_1)) < 200000 then (flywheellaw20_LossyBounds.j3 kj17 l1 x7_1 x8_1 x9_1 ji16 (t304 != t295) a0_0 a0_1 a0_2 t305 t306 t307 t308 t309) else (flywheellaw20_LossyBounds.j3 kj17 l1 x7_1 x8_1 x9_1 ji16 false a0_0 a0_1 a0_2 t305 t306 t307 t308 t309)) else (flywheellaw20_LossyBounds.j3 kj17 l1 x7_1 x8_1 x9_1 ji16 false a0_0 a0_1 a0_2 t305 t306 t307 t308 t309)) = some r := by rw [if_neg (show ¬ (false = true) by decide)] at H; exact H
             clear H
             have H := H1
             clear H1
             have HC43 := Aside0.mk H
             clear H
             go_upto_region 13 with (fail)
             go_cut [114] (fun v114 wc => ∃ (kq : Nat) (x114_42 : Bool), v114 = .bool x114_42 ∧ Aside0 (flywheellaw20_LossyBounds.j3 kq l1 x7_1 x8_1 x9_1 ji16 x114_42 a0_0 a0_1 a0_2 t305 t306 t307 t308 t309 = some r) ∧ Aside0 (kq ≤ kj17) ∧ Aside0 (wc.heap[gb284]? = some (.cells #[.int .i64 a0_0, .int .i64 a0_1, .int .i64 a0_2] 23 (0, 0))) ∧ Aside0 (IsS42 w wc g290 t305 t306 t307 t308 t309) ∧ Aside0 (Below w.heap.size w wc))
             case first =>
              have H := HC43.out
              clear HC43
              by_cases c44 : x8_1 = true
              ·subst c44
               have H1 : (if (wrap64 (ji16 - x7_1)) < 200000 then (flywheellaw20_LossyBounds.j3 kj17 l1 x7_1 true x9_1 ji16 (t304 != t295) a0_0 a0_1 a0_2 t305 t306 t307 t308 t309) else (flywheellaw20_LossyBounds.j3 kj17 l1 x7_1 true x9_1 ji16 false a0_0 a0_1 a0_2 t305 t306 t307 t308 t309)) = some r := by rw [if_pos rfl] at H; exact H
               clear H
               have H := H1
               clear H1
               by_cases c45 : (wrap64 (ji16 - x7_1)) < 200000
               ·rw [if_pos c45] at H
                have c45b0 : decide ((wrap64 (ji16 - x7_1)) < 200000) = true := decide_eq_true c45
                clear c45
                (first | rw [c45b0] | (simp only [i64_w, i32_w]; rw [c45b0]) | skip)
                have H' := Aside0.mk H
                clear H
                go_wp2
                go_meet
                case rel => exact ⟨_, ((t304 != t295)), (by first | rfl | (simp; done) | (simp [*]; done)), H', ⟨by have := HK1.out; have := HJ8.out; have := HJ17.out; first | omega | exact Nat.le_refl _⟩, ⟨by (with_reducible repeat (first | refine blk_drewN ?_ _ | refine blk_drew ?_ | refine blk_alloc ?_ _)); exact BK284.out⟩, ⟨by repeat (first | (with_reducible first | exact HI290.out | apply IsS42.alloc | apply IsS42.drewN | apply IsS42.drew | apply IsS42.set_0 | apply IsS42.set_1 | apply IsS42.set_2 | apply IsS42.set_3 | apply IsS42.set_4 | refine IsS42.far ?_ NB290_284.out _) | exact HI290.out)⟩, ⟨by repeat (first | (with_reducible first | exact HB.out | apply below_alloc | apply pw_below_drewN | apply below_drew1 | refine below_set ?_ (IsS42.ge HI290.out) | refine below_set ?_ GE284.out) | exact HB.out)⟩⟩
               ·rw [if_neg c45] at H
                have c45b0 : decide ((wrap64 (ji16 - x7_1)) < 200000) = false := decide_eq_false c45
                clear c45
                (first | rw [c45b0] | (simp only [i64_w, i32_w]; rw [c45b0]) | skip)
                have H' := Aside0.mk H
                clear H
                go_wp2
                go_meet
                case rel => exact ⟨_, (false), (by first | rfl | (simp; done) | (simp [*]; done)), H', ⟨by have := HK1.out; have := HJ8.out; have := HJ17.out; first | omega | exact Nat.le_refl _⟩, ⟨by (with_reducible repeat (first | refine blk_drewN ?_ _ | refine blk_drew ?_ | refine blk_alloc ?_ _)); exact BK284.out⟩, ⟨by repeat (first | (with_reducible first | exact HI290.out | apply IsS42.alloc | apply IsS42.drewN | apply IsS42.drew | apply IsS42.set_0 | apply IsS42.set_1 | apply IsS42.set_2 | apply IsS42.set_3 | apply IsS42.set_4 | refine IsS42.far ?_ NB290_284.out _) | exact HI290.out)⟩, ⟨by repeat (first | (with_reducible first | exact HB.out | apply below_alloc | apply pw_below_drewN | apply below_drew1 | refine below_set ?_ (IsS42.ge HI290.out) | refine below_set ?_ GE284.out) | exact HB.out)⟩⟩
              ·replace c44 := Bool.eq_false_iff.mpr c44
               subst c44
               have H1 : (flywheellaw20_LossyBounds.j3 kj17 l1 x7_1 false x9_1 ji16 false a0_0 a0_1 a0_2 t305 t306 t307 t308 t309) = some r := by rw [if_neg (show ¬ (false = true) by decide)] at H; exact H
               clear H
               have H := H1
               clear H1
               have H' := Aside0.mk H
               clear H
               go_wp2
               go_meet
               case rel => exact ⟨_, (false), (by first | rfl | (simp; done) | (simp [*]; done)), H', ⟨by have := HK1.out; have := HJ8.out; have := HJ17.out; first | omega | exact Nat.le_refl _⟩, ⟨by (with_reducible repeat (first | refine blk_drewN ?_ _ | refine blk_drew ?_ | refine blk_alloc ?_ _)); exact BK284.out⟩, ⟨by repeat (first | (with_reducible first | exact HI290.out | apply IsS42.alloc | apply IsS42.drewN | apply IsS42.drew | apply IsS42.set_0 | apply IsS42.set_1 | apply IsS42.set_2 | apply IsS42.set_3 | apply IsS42.set_4 | refine IsS42.far ?_ NB290_284.out _) | exact HI290.out)⟩, ⟨by repeat (first | (with_reducible first | exact HB.out | apply below_alloc | apply pw_below_drewN | apply below_drew1 | refine below_set ?_ (IsS42.ge HI290.out) | refine below_set ?_ GE284.out) | exact HB.out)⟩⟩
             case rest =>
              clear HC43
              try clear c1
              try clear c2
              try clear p2
              try clear c3
              try clear c3b0
              try clear p3
              try clear q3
              try clear hx3
              try clear c4
              try clear c5
              try clear c5b0
              try clear c5b1
              try clear p6
              try clear c7
              try clear c9
              try clear c10
              try clear c10b0
              try clear c11
              try clear c12
              try clear c13
              try clear c13b0
              try clear c14
              try clear c14b0
              try clear c22
              try clear c22b0
              try clear c23
              try clear c25
              try clear c25b0
              try clear c26
              try clear c28
              try clear c28b0
              try clear c29
              try clear c29b0
              try clear c30
              try clear p30
              try clear q30
              try clear hx30
              try clear p31
              try clear q31
              try clear hx31
              try clear c32
              try clear c32b0
              try clear c33
              try clear c35
              try clear c37
              try clear c37b0
              try clear c38
              try clear c40
              try clear c42
              try clear c44
              try clear c45
              try clear c45b0
              try clear hcz24_0
              try clear hcz24_1
              try clear hcz24_2
              try clear hcz27_0
              try clear hcz27_1
              try clear hcz27_2
              try clear hcz31_0
              try clear hcz31_1
              try clear hcz31_2
              try clear hcz34_0
              try clear hcz34_1
              try clear hcz34_2
              try clear hcz36_0
              try clear hcz36_1
              try clear hcz36_2
              try clear hcz39_0
              try clear hcz39_1
              try clear hcz39_2
              try clear hcz41_0
              try clear hcz41_1
              try clear hcz41_2
              try clear hcz7_0
              try clear hcz7_1
              try clear hcz7_2
              try clear hfz24_0
              try clear hfz24_1
              try clear hfz24_2
              try clear hfz27_0
              try clear hfz27_1
              try clear hfz27_2
              try clear hfz31_0
              try clear hfz31_1
              try clear hfz31_2
              try clear hfz34_0
              try clear hfz34_1
              try clear hfz34_2
              try clear hfz36_0
              try clear hfz36_1
              try clear hfz36_2
              try clear hfz39_0
              try clear hfz39_1
              try clear hfz39_2
              try clear hfz41_0
              try clear hfz41_1
              try clear hfz41_2
              try clear hfz7_0
              try clear hfz7_1
              try clear hfz7_2
              try clear hx301_0
              try clear hx301_1
              try clear hx302_0
              try clear hx302_1
              try clear hx303_0
              try clear hx303_1
              try clear hx310_0
              try clear hx310_1
              try clear hx311_0
              try clear hx311_1
              try clear hx312_0
              try clear hx312_1
              try clear p2
              try clear p3
              try clear p30
              try clear p301
              try clear p302
              try clear p303
              try clear p31
              try clear p310
              try clear p311
              try clear p312
              try clear q3
              try clear q30
              try clear q301
              try clear q302
              try clear q303
              try clear q31
              try clear q310
              try clear q311
              try clear q312
              obtain ⟨kq, x114_42, rfl, HA, HJ42, BK284, HI290, HB⟩ := hcut
              cases kq with
              | zero => exact absurd HA.out (by simp [flywheellaw20_LossyBounds.j3])
              | succ kj42 =>
               have H := HA.out
               clear HA
               simp only [flywheellaw20_LossyBounds.j3] at H
               by_cases c46 : x114_42 = true
               ·subst c46
                have H1 : (some false) = some r := by rw [if_pos rfl] at H; exact H
                clear H
                have H := H1
                clear H1
                obtain rfl := Option.some.inj H
                go_wp2
                go_ret
                exact ⟨by first | rfl | (simp [errW_none, errW_some] <;> rfl) | (simp only [← hji15, ← hji16]; first | rfl | (simp [errW_none, errW_some] <;> rfl)) | (simp [*, errW_none, errW_some] <;> rfl), by repeat (first | (with_reducible first | exact HB.out | apply below_alloc | apply pw_below_drewN | apply below_drew1 | refine below_set ?_ (IsS42.ge HI290.out) | refine below_set ?_ GE284.out) | exact HB.out)⟩
               ·replace c46 := Bool.eq_false_iff.mpr c46
                subst c46
                have H1 : (if x8_1 = true then (if (wrap64 (ji16 - x7_1)) ≥ 200000 then (flywheellaw20_LossyBounds.l0 kj42 l1 ji16 true (wrap64 (x9_1 + 1)) a0_0 a0_1 a0_2 t305 t306 t307 t308 t309) else (flywheellaw20_LossyBounds.l0 kj42 l1 x7_1 x8_1 (wrap64 (x9_1 + 1)) a0_0 a0_1 a0_2 t305 t306 t307 t308 t309)) else (flywheellaw20_LossyBounds.l0 kj42 l1 ji16 true (wrap64 (x9_1 + 1)) a0_0 a0_1 a0_2 t305 t306 t307 t308 t309)) = some r := by rw [if_neg (show ¬ (false = true) by decide)] at H; exact H
                clear H
                have H := H1
                clear H1
                by_cases c47 : x8_1 = true
                ·subst c47
                 have H1 : (if (wrap64 (ji16 - x7_1)) ≥ 200000 then (flywheellaw20_LossyBounds.l0 kj42 l1 ji16 true (wrap64 (x9_1 + 1)) a0_0 a0_1 a0_2 t305 t306 t307 t308 t309) else (flywheellaw20_LossyBounds.l0 kj42 l1 x7_1 true (wrap64 (x9_1 + 1)) a0_0 a0_1 a0_2 t305 t306 t307 t308 t309)) = some r := by rw [if_pos rfl] at H; exact H
                 clear H
                 have H := H1
                 clear H1
                 by_cases c48 : (wrap64 (ji16 - x7_1)) ≥ 200000
                 ·rw [if_pos c48] at H
                  have c48b0 : decide (200000 ≤ (wrap64 (ji16 - x7_1))) = true := decide_eq_true c48
                  clear c48
                  have H' := Aside0.mk H
                  clear H
                  go_wp2
                  go_roundg kj42
                  case measure => have := HK1.out; have := HJ8.out; have := HJ17.out; have := HJ42.out; omega
                  case rel => exact ⟨(ji16), (true), (wrap64 (x9_1 + 1)), (t305), (t306), (t307), (t308), (t309), (by first | rfl | (simp; done) | (simp only [← hji16] <;> (first | rfl | simp)) | (simp [*]; done)), (by first | rfl | (simp; done) | (simp [*]; done)), (by first | rfl | (simp; done) | (simp [*]; done)), H', ⟨by have := HK1.out; have := HJ8.out; have := HJ17.out; have := HJ42.out; omega⟩, ⟨by (with_reducible repeat (first | refine blk_drewN ?_ _ | refine blk_drew ?_ | refine blk_alloc ?_ _)); exact BK284.out⟩, ⟨by repeat (first | (with_reducible first | exact HI290.out | apply IsS42.alloc | apply IsS42.drewN | apply IsS42.drew | apply IsS42.set_0 | apply IsS42.set_1 | apply IsS42.set_2 | apply IsS42.set_3 | apply IsS42.set_4 | refine IsS42.far ?_ NB290_284.out _) | exact HI290.out)⟩, ⟨by repeat (first | (with_reducible first | exact HB.out | apply below_alloc | apply pw_below_drewN | apply below_drew1 | refine below_set ?_ (IsS42.ge HI290.out) | refine below_set ?_ GE284.out) | exact HB.out)⟩⟩
                 ·rw [if_neg c48] at H
                  have c48b0 : decide (200000 ≤ (wrap64 (ji16 - x7_1))) = false := decide_eq_false c48
                  clear c48
                  have H' := Aside0.mk H
                  clear H
                  go_wp2
                  go_roundg kj42
                  case measure => have := HK1.out; have := HJ8.out; have := HJ17.out; have := HJ42.out; omega
                  case rel => exact ⟨(x7_1), (true), (wrap64 (x9_1 + 1)), (t305), (t306), (t307), (t308), (t309), (by first | rfl | (simp; done) | (simp [*]; done)), (by first | rfl | (simp; done) | (simp [*]; done)), (by first | rfl | (simp; done) | (simp [*]; done)), H', ⟨by have := HK1.out; have := HJ8.out; have := HJ17.out; have := HJ42.out; omega⟩, ⟨by (with_reducible repeat (first | refine blk_drewN ?_ _ | refine blk_drew ?_ | refine blk_alloc ?_ _)); exact BK284.out⟩, ⟨by repeat (first | (with_reducible first | exact HI290.out | apply IsS42.alloc | apply IsS42.drewN | apply IsS42.drew | apply IsS42.set_0 | apply IsS42.set_1 | apply IsS42.set_2 | apply IsS42.set_3 | apply IsS42.set_4 | refine IsS42.far ?_ NB290_284.out _) | exact HI290.out)⟩, ⟨by repeat (first | (with_reducible first | exact HB.out | apply below_alloc | apply pw_below_drewN | apply below_drew1 | refine below_set ?_ (IsS42.ge HI290.out) | refine below_set ?_ GE284.out) | exact HB.out)⟩⟩
                ·replace c47 := Bool.eq_false_iff.mpr c47
                 subst c47
                 have H1 : (flywheellaw20_LossyBounds.l0 kj42 l1 ji16 true (wrap64 (x9_1 + 1)) a0_0 a0_1 a0_2 t305 t306 t307 t308 t309) = some r := by rw [if_neg (show ¬ (false = true) by decide)] at H; exact H
                 clear H
                 have H := H1
                 clear H1
                 have H' := Aside0.mk H
                 clear H
                 go_wp2
                 go_roundg kj42
                 case measure => have := HK1.out; have := HJ8.out; have := HJ17.out; have := HJ42.out; omega
                 case rel => exact ⟨(ji16), (true), (wrap64 (x9_1 + 1)), (t305), (t306), (t307), (t308), (t309), (by first | rfl | (simp; done) | (simp only [← hji16] <;> (first | rfl | simp)) | (simp [*]; done)), (by first | rfl | (simp; done) | (simp [*]; done)), (by first | rfl | (simp; done) | (simp [*]; done)), H', ⟨by have := HK1.out; have := HJ8.out; have := HJ17.out; have := HJ42.out; omega⟩, ⟨by (with_reducible repeat (first | refine blk_drewN ?_ _ | refine blk_drew ?_ | refine blk_alloc ?_ _)); exact BK284.out⟩, ⟨by repeat (first | (with_reducible first | exact HI290.out | apply IsS42.alloc | apply IsS42.drewN | apply IsS42.drew | apply IsS42.set_0 | apply IsS42.set_1 | apply IsS42.set_2 | apply IsS42.set_3 | apply IsS42.set_4 | refine IsS42.far ?_ NB290_284.out _) | exact HI290.out)⟩, ⟨by repeat (first | (with_reducible first | exact HB.out | apply below_alloc | apply pw_below_drewN | apply below_drew1 | refine below_set ?_ (IsS42.ge HI290.out) | refine below_set ?_ GE284.out) | exact HB.out)⟩⟩
         ·rw [if_neg c14] at H
          exact absurd H (by simp)
        ·rw [if_neg c13] at H
         exact absurd H (by simp)
       ·replace c11 := Bool.eq_false_iff.mpr c11
        subst c11
        have H1 : ((flywheellaw20_wakes.f).bind fun t294 => (some t294)) = some r := by rw [if_neg (show ¬ (false = true) by decide)] at H; exact H
        clear H
        have H := H1
        clear H1
        replace H := Option.bind_eq_some_iff.mp H
        obtain ⟨t294, A490, H⟩ := H
        replace H : (some t294) = some r := H
        have A49 := Aside0.mk A490
        clear A490
        obtain rfl := Option.some.inj H
        go_wp2_with (first | ((with_reducible refine gate_callee (f := 8) rfl ?_); refine goesL_ (some 124) rfl rfl Tryd.func8 (by kernel_rfl) rfl #[] rfl (by (try simp only [List.map_toArray, List.map_cons, List.map_nil]); first | done | rfl | (simp only [List.length_drop, List.length_take]; rfl)) ?_; (with_reducible refine (flywheellaw20_wakes.calls  t294 _ ?sideG A49.out).mono ?_); (case sideG => first | exact HTB.out | exact GL.below HTB.out (by repeat (first | (with_reducible first | exact HB.out | apply below_alloc | apply pw_below_drewN | apply below_drew1 | refine below_set ?_ (IsS42.ge HI290.out) | refine below_set ?_ GE284.out) | exact HB.out))); rintro e w50 ⟨rfl, hb⟩; refine ⟨_, rfl, ?_⟩; have n0_ := Aside0.mk (blk_below (g := gb284) (o := .cells #[.int .i64 a0_0, .int .i64 a0_1, .int .i64 a0_2] 23 (0, 0)) (by (with_reducible repeat (first | refine blk_drewN ?_ _ | refine blk_drew ?_ | refine blk_alloc ?_ _)); exact BK284.out) hb); have n1_ := Aside0.mk (IsS42.below (by repeat (first | (with_reducible first | exact HI290.out | apply IsS42.alloc | apply IsS42.drewN | apply IsS42.drew | apply IsS42.set_0 | apply IsS42.set_1 | apply IsS42.set_2 | apply IsS42.set_3 | apply IsS42.set_4 | refine IsS42.far ?_ NB290_284.out _) | exact HI290.out)) hb); have n2_ := Aside0.mk (below_step (by repeat (first | (with_reducible first | exact HB.out | apply below_alloc | apply pw_below_drewN | apply below_drew1 | refine below_set ?_ (IsS42.ge HI290.out) | refine below_set ?_ GE284.out) | exact HB.out)) hb); clear BK284; clear HI290; clear HB; have BK284 := n0_; have HI290 := n1_; have HB := n2_; clear n0_ n1_ n2_; (try clear hb); (try clear hb2); (try clear hk); (try clear hi)))
        go_ret
        exact ⟨by first | rfl | (simp [errW_none, errW_some] <;> rfl) | (simp [*, errW_none, errW_some] <;> rfl), by repeat (first | (with_reducible first | exact HB.out | apply below_alloc | apply pw_below_drewN | apply below_drew1 | refine below_set ?_ (IsS42.ge HI290.out) | refine below_set ?_ GE284.out) | exact HB.out)⟩
  ·rw [if_neg c5] at H
   have c5b0 : (t291 == 0) = false := beq_eq_false_iff_ne.mpr c5
   have c5b1 : (t291 != 0) = true := bne_iff_ne.mpr c5
   replace H := Option.bind_eq_some_iff.mp H
   obtain ⟨t292, A510, H⟩ := H
   replace H : (if t292 = true then (some false) else ((flywheellaw20_wakes.f).bind fun t293 => (some t293))) = some r := H
   have A51 := Aside0.mk A510
   clear A510
   by_cases c52 : t292 = true
   ·subst c52
    have H1 : (some false) = some r := by rw [if_pos rfl] at H; exact H
    clear H
    have H := H1
    clear H1
    obtain rfl := Option.some.inj H
    go_enter Tryd.func5, Tryd.ntmps5
    go_wp2_with (first | ((with_reducible refine gate_dst (N := 2) rfl ?_); refine box_event ?hg (N := 2) ?hd (cs := #[.int .i64 a0_0, .int .i64 a0_1, .int .i64 a0_2]) (t := 23) ?hr ?_; (case hd => rfl); (case hg => rfl); (case hr => first | (go_simp; done) | (go_simp; rfl)); intro gb284 hg w53 hbox hb; have n0_ := Aside0.mk (below_step (by repeat (first | (with_reducible first | exact HB.out | apply below_alloc | apply pw_below_drewN | apply below_drew1) | exact HB.out)) hb); have n1_ := Aside0.mk (hbox); have n2_ := Aside0.mk ((by rw [hg]; exact (below_size (by repeat (first | (with_reducible first | exact HB.out | apply below_alloc | apply pw_below_drewN | apply below_drew1) | exact HB.out))) : w.heap.size ≤ gb284)); have n3_ := Aside0.mk ((by rw [hg]; exact (below_size (by repeat (first | (with_reducible first | exact HB.out | apply below_alloc | apply pw_below_drewN | apply below_drew1) | exact HB.out))) : w.heap.size ≤ gb284)); clear HB; have HB := n0_; have BK284 := n1_; have GW284 := n2_; have GE284 := n3_; clear n0_ n1_ n2_ n3_; clear hb hbox hg; have hcz54_0 : w53.cell? ⟨gb284, 0, none⟩ = some (.int .i64 a0_0) := (blk_cell BK284.out 0).trans rfl; have hcz54_1 : w53.cell? ⟨gb284, 1, none⟩ = some (.int .i64 a0_1) := (blk_cell BK284.out 1).trans rfl; have hcz54_2 : w53.cell? ⟨gb284, 2, none⟩ = some (.int .i64 a0_2) := (blk_cell BK284.out 2).trans rfl; have hfz54_0 := blk_frozen BK284.out 0; have hfz54_1 := blk_frozen BK284.out 1; have hfz54_2 := blk_frozen BK284.out 2) | ((with_reducible refine gate_callee (f := 7) rfl ?_); refine goesL_ (some 20) rfl rfl Tryd.func7 (by kernel_rfl) rfl #[.int .i64 a0_0, .int .i64 a0_1, .int .i64 a0_2] rfl (by (try simp only [List.map_toArray, List.map_cons, List.map_nil]); first | done | rfl | (simp only [List.length_drop, List.length_take]; rfl)) ?_; (with_reducible refine (lossy_New.made.calls a0_0 a0_1 a0_2 t285 t286 t287 t288 t289 t291 _ _ (Below.refl _ _) A4.out).mono ?_); rintro e w55 ⟨g290, rfl, hi, hb, hb2⟩; refine ⟨_, rfl, ?_⟩; have n0_ := Aside0.mk (blk_below (g := gb284) (o := .cells #[.int .i64 a0_0, .int .i64 a0_1, .int .i64 a0_2] 23 (0, 0)) (by (with_reducible repeat (first | refine blk_drewN ?_ _ | refine blk_drew ?_ | refine blk_alloc ?_ _)); exact BK284.out) hb2); have n1_ := Aside0.mk (below_step (by repeat (first | (with_reducible first | exact HB.out | apply below_alloc | apply pw_below_drewN | apply below_drew1 | refine below_set ?_ GE284.out) | exact HB.out)) hb2); have n2_ := Aside0.mk ((IsS42.rebase hi (below_size (by repeat (first | (with_reducible first | exact HB.out | apply below_alloc | apply pw_below_drewN | apply below_drew1 | refine below_set ?_ GE284.out) | exact HB.out))))); have n3_ := Aside0.mk (IsS42.ne_blk hi (blk_below (g := gb284) (o := .cells #[.int .i64 a0_0, .int .i64 a0_1, .int .i64 a0_2] 23 (0, 0)) (by (with_reducible repeat (first | refine blk_drewN ?_ _ | refine blk_drew ?_ | refine blk_alloc ?_ _)); exact BK284.out) hb2) (by decide)); have n4_ := Aside0.mk (Ne.symm (IsS42.ne_blk hi (blk_below (g := gb284) (o := .cells #[.int .i64 a0_0, .int .i64 a0_1, .int .i64 a0_2] 23 (0, 0)) (by (with_reducible repeat (first | refine blk_drewN ?_ _ | refine blk_drew ?_ | refine blk_alloc ?_ _)); exact BK284.out) hb2) (by decide))); clear BK284; clear HB; have BK284 := n0_; have HB := n1_; have HI290 := n2_; have NB290_284 := n3_; have NB284_290 := n4_; clear n0_ n1_ n2_ n3_ n4_; (try clear hb); (try clear hb2); (try clear hk); (try clear hi); have hnb56 := NB284_290.out; have hnc56 := NB290_284.out; have hcz57_0 : w55.cell? ⟨gb284, 0, none⟩ = some (.int .i64 a0_0) := (blk_cell BK284.out 0).trans rfl; have hcz57_1 : w55.cell? ⟨gb284, 1, none⟩ = some (.int .i64 a0_1) := (blk_cell BK284.out 1).trans rfl; have hcz57_2 : w55.cell? ⟨gb284, 2, none⟩ = some (.int .i64 a0_2) := (blk_cell BK284.out 2).trans rfl; have hfz57_0 := blk_frozen BK284.out 0; have hfz57_1 := blk_frozen BK284.out 1; have hfz57_2 := blk_frozen BK284.out 2) | ((with_reducible refine gate_callee (f := 14) rfl ?_); refine goesL_ (some 31) rfl rfl Tryd.func14 (by kernel_rfl) rfl #[.int .i64 a0_0, .int .i64 a0_1, .int .i64 a0_2] rfl (by (try simp only [List.map_toArray, List.map_cons, List.map_nil]); first | done | rfl | (simp only [List.length_drop, List.length_take]; rfl)) ?_; (with_reducible refine (flywheelref19_Rates.calls a0_0 a0_1 a0_2 true _ A51.out).mono ?_); rintro e w' ⟨rfl, ⟨nd, rfl⟩⟩; refine ⟨_, rfl, ?_⟩))
    go_ret
    exact ⟨by first | rfl | (simp [errW_none, errW_some] <;> rfl) | (simp [*, errW_none, errW_some] <;> rfl), by repeat (first | (with_reducible first | exact HB.out | apply below_alloc | apply pw_below_drewN | apply below_drew1 | refine below_set ?_ (IsS42.ge HI290.out) | refine below_set ?_ GE284.out) | exact HB.out)⟩
   ·replace c52 := Bool.eq_false_iff.mpr c52
    subst c52
    have H1 : ((flywheellaw20_wakes.f).bind fun t293 => (some t293)) = some r := by rw [if_neg (show ¬ (false = true) by decide)] at H; exact H
    clear H
    have H := H1
    clear H1
    replace H := Option.bind_eq_some_iff.mp H
    obtain ⟨t293, A580, H⟩ := H
    replace H : (some t293) = some r := H
    have A58 := Aside0.mk A580
    clear A580
    obtain rfl := Option.some.inj H
    go_enter Tryd.func5, Tryd.ntmps5
    go_wp2_with (first | ((with_reducible refine gate_dst (N := 2) rfl ?_); refine box_event ?hg (N := 2) ?hd (cs := #[.int .i64 a0_0, .int .i64 a0_1, .int .i64 a0_2]) (t := 23) ?hr ?_; (case hd => rfl); (case hg => rfl); (case hr => first | (go_simp; done) | (go_simp; rfl)); intro gb284 hg w59 hbox hb; have n0_ := Aside0.mk (below_step (by repeat (first | (with_reducible first | exact HB.out | apply below_alloc | apply pw_below_drewN | apply below_drew1) | exact HB.out)) hb); have n1_ := Aside0.mk (hbox); have n2_ := Aside0.mk ((by rw [hg]; exact (below_size (by repeat (first | (with_reducible first | exact HB.out | apply below_alloc | apply pw_below_drewN | apply below_drew1) | exact HB.out))) : w.heap.size ≤ gb284)); have n3_ := Aside0.mk ((by rw [hg]; exact (below_size (by repeat (first | (with_reducible first | exact HB.out | apply below_alloc | apply pw_below_drewN | apply below_drew1) | exact HB.out))) : w.heap.size ≤ gb284)); clear HB; have HB := n0_; have BK284 := n1_; have GW284 := n2_; have GE284 := n3_; clear n0_ n1_ n2_ n3_; clear hb hbox hg; have hcz60_0 : w59.cell? ⟨gb284, 0, none⟩ = some (.int .i64 a0_0) := (blk_cell BK284.out 0).trans rfl; have hcz60_1 : w59.cell? ⟨gb284, 1, none⟩ = some (.int .i64 a0_1) := (blk_cell BK284.out 1).trans rfl; have hcz60_2 : w59.cell? ⟨gb284, 2, none⟩ = some (.int .i64 a0_2) := (blk_cell BK284.out 2).trans rfl; have hfz60_0 := blk_frozen BK284.out 0; have hfz60_1 := blk_frozen BK284.out 1; have hfz60_2 := blk_frozen BK284.out 2) | ((with_reducible refine gate_callee (f := 7) rfl ?_); refine goesL_ (some 20) rfl rfl Tryd.func7 (by kernel_rfl) rfl #[.int .i64 a0_0, .int .i64 a0_1, .int .i64 a0_2] rfl (by (try simp only [List.map_toArray, List.map_cons, List.map_nil]); first | done | rfl | (simp only [List.length_drop, List.length_take]; rfl)) ?_; (with_reducible refine (lossy_New.made.calls a0_0 a0_1 a0_2 t285 t286 t287 t288 t289 t291 _ _ (Below.refl _ _) A4.out).mono ?_); rintro e w61 ⟨g290, rfl, hi, hb, hb2⟩; refine ⟨_, rfl, ?_⟩; have n0_ := Aside0.mk (blk_below (g := gb284) (o := .cells #[.int .i64 a0_0, .int .i64 a0_1, .int .i64 a0_2] 23 (0, 0)) (by (with_reducible repeat (first | refine blk_drewN ?_ _ | refine blk_drew ?_ | refine blk_alloc ?_ _)); exact BK284.out) hb2); have n1_ := Aside0.mk (below_step (by repeat (first | (with_reducible first | exact HB.out | apply below_alloc | apply pw_below_drewN | apply below_drew1 | refine below_set ?_ GE284.out) | exact HB.out)) hb2); have n2_ := Aside0.mk ((IsS42.rebase hi (below_size (by repeat (first | (with_reducible first | exact HB.out | apply below_alloc | apply pw_below_drewN | apply below_drew1 | refine below_set ?_ GE284.out) | exact HB.out))))); have n3_ := Aside0.mk (IsS42.ne_blk hi (blk_below (g := gb284) (o := .cells #[.int .i64 a0_0, .int .i64 a0_1, .int .i64 a0_2] 23 (0, 0)) (by (with_reducible repeat (first | refine blk_drewN ?_ _ | refine blk_drew ?_ | refine blk_alloc ?_ _)); exact BK284.out) hb2) (by decide)); have n4_ := Aside0.mk (Ne.symm (IsS42.ne_blk hi (blk_below (g := gb284) (o := .cells #[.int .i64 a0_0, .int .i64 a0_1, .int .i64 a0_2] 23 (0, 0)) (by (with_reducible repeat (first | refine blk_drewN ?_ _ | refine blk_drew ?_ | refine blk_alloc ?_ _)); exact BK284.out) hb2) (by decide))); clear BK284; clear HB; have BK284 := n0_; have HB := n1_; have HI290 := n2_; have NB290_284 := n3_; have NB284_290 := n4_; clear n0_ n1_ n2_ n3_ n4_; (try clear hb); (try clear hb2); (try clear hk); (try clear hi); have hnb62 := NB284_290.out; have hnc62 := NB290_284.out; have hcz63_0 : w61.cell? ⟨gb284, 0, none⟩ = some (.int .i64 a0_0) := (blk_cell BK284.out 0).trans rfl; have hcz63_1 : w61.cell? ⟨gb284, 1, none⟩ = some (.int .i64 a0_1) := (blk_cell BK284.out 1).trans rfl; have hcz63_2 : w61.cell? ⟨gb284, 2, none⟩ = some (.int .i64 a0_2) := (blk_cell BK284.out 2).trans rfl; have hfz63_0 := blk_frozen BK284.out 0; have hfz63_1 := blk_frozen BK284.out 1; have hfz63_2 := blk_frozen BK284.out 2) | ((with_reducible refine gate_callee (f := 14) rfl ?_); refine goesL_ (some 31) rfl rfl Tryd.func14 (by kernel_rfl) rfl #[.int .i64 a0_0, .int .i64 a0_1, .int .i64 a0_2] rfl (by (try simp only [List.map_toArray, List.map_cons, List.map_nil]); first | done | rfl | (simp only [List.length_drop, List.length_take]; rfl)) ?_; (with_reducible refine (flywheelref19_Rates.calls a0_0 a0_1 a0_2 false _ A51.out).mono ?_); rintro e w' ⟨rfl, ⟨nd, rfl⟩⟩; refine ⟨_, rfl, ?_⟩) | (go_at_call 8; (with_reducible refine (flywheellaw20_wakes.calls  t293 _ ?sideG A58.out).mono ?_); (case sideG => first | exact HTB.out | exact GL.below HTB.out (by repeat (first | (with_reducible first | exact HB.out | apply below_alloc | apply pw_below_drewN | apply below_drew1 | refine below_set ?_ (IsS42.ge HI290.out) | refine below_set ?_ GE284.out) | exact HB.out))); rintro e w64 ⟨rfl, hb⟩; have n0_ := Aside0.mk (blk_below (g := gb284) (o := .cells #[.int .i64 a0_0, .int .i64 a0_1, .int .i64 a0_2] 23 (0, 0)) (by (with_reducible repeat (first | refine blk_drewN ?_ _ | refine blk_drew ?_ | refine blk_alloc ?_ _)); exact BK284.out) hb); have n1_ := Aside0.mk (IsS42.below (by repeat (first | (with_reducible first | exact HI290.out | apply IsS42.alloc | apply IsS42.drewN | apply IsS42.drew | apply IsS42.set_0 | apply IsS42.set_1 | apply IsS42.set_2 | apply IsS42.set_3 | apply IsS42.set_4 | refine IsS42.far ?_ NB290_284.out _) | exact HI290.out)) hb); have n2_ := Aside0.mk (below_step (by repeat (first | (with_reducible first | exact HB.out | apply below_alloc | apply pw_below_drewN | apply below_drew1 | refine below_set ?_ (IsS42.ge HI290.out) | refine below_set ?_ GE284.out) | exact HB.out)) hb); clear BK284; clear HI290; clear HB; have BK284 := n0_; have HI290 := n1_; have HB := n2_; clear n0_ n1_ n2_; (try clear hb); (try clear hb2); (try clear hk); (try clear hi)))
    go_ret
    exact ⟨by first | rfl | (simp [errW_none, errW_some] <;> rfl) | (simp [*, errW_none, errW_some] <;> rfl), by repeat (first | (with_reducible first | exact HB.out | apply below_alloc | apply pw_below_drewN | apply below_drew1 | refine below_set ?_ (IsS42.ge HI290.out) | refine below_set ?_ GE284.out) | exact HB.out)⟩
 ·rw [if_neg c3] at H
  have c3b0 : (lossy_New.made.f a0_0 a0_1 a0_2).isSome = false := by simpa using c3
  clear c3
  replace H := Option.bind_eq_some_iff.mp H
  obtain ⟨t313, A650, H⟩ := H
  replace H : (if t313 = 0 then (flywheellaw20_LossyBounds.l5000 k l1 0) else ((flywheelref19_Rates.f a0_0 a0_1 a0_2).bind fun t314 => (if t314 = true then (some false) else ((flywheellaw20_wakes.f).bind fun t315 => (some t315))))) = some r := H
  have A65 := Aside0.mk A650
  clear A650
  by_cases c66 : t313 = 0
  ·rw [if_pos c66] at H
   have c66b0 : (t313 == 0) = true := beq_iff_eq.mpr c66
   have c66b1 : (t313 != 0) = false := bne_eq_false_iff_eq.mpr c66
   clear c66
   have H' := Aside0.mk H
   clear H
   go_enter Tryd.func5, Tryd.ntmps5
   go_wp2_with (first | ((with_reducible refine gate_dst (N := 2) rfl ?_); refine box_event ?hg (N := 2) ?hd (cs := #[.int .i64 a0_0, .int .i64 a0_1, .int .i64 a0_2]) (t := 23) ?hr ?_; (case hd => rfl); (case hg => rfl); (case hr => first | (go_simp; done) | (go_simp; rfl)); intro gb284 hg w67 hbox hb; have n0_ := Aside0.mk (below_step (by repeat (first | (with_reducible first | exact HB.out | apply below_alloc | apply pw_below_drewN | apply below_drew1) | exact HB.out)) hb); have n1_ := Aside0.mk (hbox); have n2_ := Aside0.mk ((by rw [hg]; exact (below_size (by repeat (first | (with_reducible first | exact HB.out | apply below_alloc | apply pw_below_drewN | apply below_drew1) | exact HB.out))) : w.heap.size ≤ gb284)); have n3_ := Aside0.mk ((by rw [hg]; exact (below_size (by repeat (first | (with_reducible first | exact HB.out | apply below_alloc | apply pw_below_drewN | apply below_drew1) | exact HB.out))) : w.heap.size ≤ gb284)); clear HB; have HB := n0_; have BK284 := n1_; have GW284 := n2_; have GE284 := n3_; clear n0_ n1_ n2_ n3_; clear hb hbox hg; have hcz68_0 : w67.cell? ⟨gb284, 0, none⟩ = some (.int .i64 a0_0) := (blk_cell BK284.out 0).trans rfl; have hcz68_1 : w67.cell? ⟨gb284, 1, none⟩ = some (.int .i64 a0_1) := (blk_cell BK284.out 1).trans rfl; have hcz68_2 : w67.cell? ⟨gb284, 2, none⟩ = some (.int .i64 a0_2) := (blk_cell BK284.out 2).trans rfl; have hfz68_0 := blk_frozen BK284.out 0; have hfz68_1 := blk_frozen BK284.out 1; have hfz68_2 := blk_frozen BK284.out 2) | ((with_reducible refine gate_callee (f := 7) rfl ?_); refine goesL_ (some 20) rfl rfl Tryd.func7 (by kernel_rfl) rfl #[.int .i64 a0_0, .int .i64 a0_1, .int .i64 a0_2] rfl (by (try simp only [List.map_toArray, List.map_cons, List.map_nil]); first | done | rfl | (simp only [List.length_drop, List.length_take]; rfl)) ?_; (with_reducible refine (lossy_New.nil.calls a0_0 a0_1 a0_2 t313 _ A65.out).mono ?_); rintro e w69 ⟨rfl, hb⟩; refine ⟨_, rfl, ?_⟩; have n0_ := Aside0.mk (blk_below (g := gb284) (o := .cells #[.int .i64 a0_0, .int .i64 a0_1, .int .i64 a0_2] 23 (0, 0)) (by (with_reducible repeat (first | refine blk_drewN ?_ _ | refine blk_drew ?_ | refine blk_alloc ?_ _)); exact BK284.out) hb); have n1_ := Aside0.mk (below_step (by repeat (first | (with_reducible first | exact HB.out | apply below_alloc | apply pw_below_drewN | apply below_drew1 | refine below_set ?_ GE284.out) | exact HB.out)) hb); clear BK284; clear HB; have BK284 := n0_; have HB := n1_; clear n0_ n1_; (try clear hb); (try clear hb2); (try clear hk); (try clear hi)))
   go_loopg [9] k (fun kq v9 w' => ∃ (x9_1 : Int), v9 = .int .i64 x9_1 ∧ Aside0 (flywheellaw20_LossyBounds.l5000 kq l1 x9_1 = some r) ∧ Aside0 (kq ≤ k) ∧ Aside0 (w'.heap[gb284]? = some (.cells #[.int .i64 a0_0, .int .i64 a0_1, .int .i64 a0_2] 23 (0, 0))) ∧ Aside0 (Below w.heap.size w w'))
   case atStart => exact ⟨(0), (by first | rfl | (simp; done) | (simp [*]; done)), H', ⟨Nat.le_refl _⟩, ⟨by (with_reducible repeat (first | refine blk_drewN ?_ _ | refine blk_drew ?_ | refine blk_alloc ?_ _)); exact BK284.out⟩, ⟨by repeat (first | (with_reducible first | exact HB.out | apply below_alloc | apply pw_below_drewN | apply below_drew1 | refine below_set ?_ GE284.out) | exact HB.out)⟩⟩
   case round =>
    clear H'
    try clear c1
    try clear c2
    try clear p2
    try clear c3
    try clear c3b0
    try clear p3
    try clear q3
    try clear hx3
    try clear c4
    try clear c5
    try clear c5b0
    try clear c5b1
    try clear c6
    try clear p6
    try clear c7
    try clear c8
    try clear c9
    try clear c10
    try clear c10b0
    try clear c11
    try clear c12
    try clear c13
    try clear c13b0
    try clear c14
    try clear c14b0
    try clear c22
    try clear c22b0
    try clear c23
    try clear c25
    try clear c25b0
    try clear c26
    try clear c28
    try clear c28b0
    try clear c29
    try clear c29b0
    try clear c30
    try clear p30
    try clear q30
    try clear hx30
    try clear p31
    try clear q31
    try clear hx31
    try clear c32
    try clear c32b0
    try clear c33
    try clear c35
    try clear c37
    try clear c37b0
    try clear c38
    try clear c40
    try clear c42
    try clear c44
    try clear c45
    try clear c45b0
    try clear c46
    try clear c47
    try clear c48
    try clear c48b0
    try clear c52
    try clear c56
    try clear c62
    try clear p64
    try clear c66
    try clear c66b0
    try clear c66b1
    try clear hcz24_0
    try clear hcz24_1
    try clear hcz24_2
    try clear hcz27_0
    try clear hcz27_1
    try clear hcz27_2
    try clear hcz31_0
    try clear hcz31_1
    try clear hcz31_2
    try clear hcz34_0
    try clear hcz34_1
    try clear hcz34_2
    try clear hcz36_0
    try clear hcz36_1
    try clear hcz36_2
    try clear hcz39_0
    try clear hcz39_1
    try clear hcz39_2
    try clear hcz41_0
    try clear hcz41_1
    try clear hcz41_2
    try clear hcz54_0
    try clear hcz54_1
    try clear hcz54_2
    try clear hcz57_0
    try clear hcz57_1
    try clear hcz57_2
    try clear hcz60_0
    try clear hcz60_1
    try clear hcz60_2
    try clear hcz63_0
    try clear hcz63_1
    try clear hcz63_2
    try clear hcz68_0
    try clear hcz68_1
    try clear hcz68_2
    try clear hcz7_0
    try clear hcz7_1
    try clear hcz7_2
    try clear hfz24_0
    try clear hfz24_1
    try clear hfz24_2
    try clear hfz27_0
    try clear hfz27_1
    try clear hfz27_2
    try clear hfz31_0
    try clear hfz31_1
    try clear hfz31_2
    try clear hfz34_0
    try clear hfz34_1
    try clear hfz34_2
    try clear hfz36_0
    try clear hfz36_1
    try clear hfz36_2
    try clear hfz39_0
    try clear hfz39_1
    try clear hfz39_2
    try clear hfz41_0
    try clear hfz41_1
    try clear hfz41_2
    try clear hfz54_0
    try clear hfz54_1
    try clear hfz54_2
    try clear hfz57_0
    try clear hfz57_1
    try clear hfz57_2
    try clear hfz60_0
    try clear hfz60_1
    try clear hfz60_2
    try clear hfz63_0
    try clear hfz63_1
    try clear hfz63_2
    try clear hfz68_0
    try clear hfz68_1
    try clear hfz68_2
    try clear hfz7_0
    try clear hfz7_1
    try clear hfz7_2
    try clear hx301_0
    try clear hx301_1
    try clear hx302_0
    try clear hx302_1
    try clear hx303_0
    try clear hx303_1
    try clear hx310_0
    try clear hx310_1
    try clear hx311_0
    try clear hx311_1
    try clear hx312_0
    try clear hx312_1
    try clear p2
    try clear p3
    try clear p30
    try clear p301
    try clear p302
    try clear p303
    try clear p31
    try clear p310
    try clear p311
    try clear p312
    try clear p6
    try clear q3
    try clear q30
    try clear q301
    try clear q302
    try clear q303
    try clear q31
    try clear q310
    try clear q311
    try clear q312
    obtain ⟨x9_1, rfl, HA, HK1, BK284, HB⟩ := hrel
    cases gk with
    | zero => exact absurd HA.out (by simp [flywheellaw20_LossyBounds.l5000])
    | succ k1 =>
     have H := HA.out
     clear HA
     simp only [flywheellaw20_LossyBounds.l5000] at H
     have HC70 := Aside0.mk H
     clear H
     go_upto_region 6 with (fail)
     go_cut [43] (fun v43 wc => ∃ (kq : Nat) (x43_69 : Bool), v43 = .bool x43_69 ∧ Aside0 (flywheellaw20_LossyBounds.j5 kq x43_69 = some r) ∧ Aside0 (kq ≤ k1) ∧ Aside0 (wc.heap[gb284]? = some (.cells #[.int .i64 a0_0, .int .i64 a0_1, .int .i64 a0_2] 23 (0, 0))) ∧ Aside0 (Below w.heap.size w wc))
     case first =>
      have H := HC70.out
      clear HC70
      by_cases c71 : x9_1 < (l1.length : Int)
      ·rw [if_pos c71] at H
       have c71b0 : decide (x9_1 < (l1.length : Int)) = true := decide_eq_true c71
       clear c71
       (first | rw [c71b0] | (simp only [i64_w, i32_w]; rw [c71b0]) | skip)
       have H' := Aside0.mk H
       clear H
       go_wp2
       go_meet
       case rel => exact ⟨_, (decide (x9_1 < 300)), (by first | rfl | (simp; done) | (simp [*]; done)), H', ⟨by have := HK1.out; first | omega | exact Nat.le_refl _⟩, ⟨by (with_reducible repeat (first | refine blk_drewN ?_ _ | refine blk_drew ?_ | refine blk_alloc ?_ _)); exact BK284.out⟩, ⟨by repeat (first | (with_reducible first | exact HB.out | apply below_alloc | apply pw_below_drewN | apply below_drew1 | refine below_set ?_ GE284.out) | exact HB.out)⟩⟩
      ·rw [if_neg c71] at H
       have c71b0 : decide (x9_1 < (l1.length : Int)) = false := decide_eq_false c71
       clear c71
       (first | rw [c71b0] | (simp only [i64_w, i32_w]; rw [c71b0]) | skip)
       have H' := Aside0.mk H
       clear H
       go_wp2
       go_meet
       case rel => exact ⟨_, (false), (by first | rfl | (simp; done) | (simp [*]; done)), H', ⟨by have := HK1.out; first | omega | exact Nat.le_refl _⟩, ⟨by (with_reducible repeat (first | refine blk_drewN ?_ _ | refine blk_drew ?_ | refine blk_alloc ?_ _)); exact BK284.out⟩, ⟨by repeat (first | (with_reducible first | exact HB.out | apply below_alloc | apply pw_below_drewN | apply below_drew1 | refine below_set ?_ GE284.out) | exact HB.out)⟩⟩
     case rest =>
      clear HC70
      try clear c1
      try clear c2
      try clear p2
      try clear c3
      try clear c3b0
      try clear p3
      try clear q3
      try clear hx3
      try clear c4
      try clear c5
      try clear c5b0
      try clear c5b1
      try clear c6
      try clear p6
      try clear c7
      try clear c8
      try clear c9
      try clear c10
      try clear c10b0
      try clear c11
      try clear c12
      try clear c13
      try clear c13b0
      try clear c14
      try clear c14b0
      try clear c22
      try clear c22b0
      try clear c23
      try clear c25
      try clear c25b0
      try clear c26
      try clear c28
      try clear c28b0
      try clear c29
      try clear c29b0
      try clear c30
      try clear p30
      try clear q30
      try clear hx30
      try clear p31
      try clear q31
      try clear hx31
      try clear c32
      try clear c32b0
      try clear c33
      try clear c35
      try clear c37
      try clear c37b0
      try clear c38
      try clear c40
      try clear c42
      try clear c44
      try clear c45
      try clear c45b0
      try clear c46
      try clear c47
      try clear c48
      try clear c48b0
      try clear c52
      try clear c56
      try clear c62
      try clear p64
      try clear c66
      try clear c66b0
      try clear c66b1
      try clear c71
      try clear c71b0
      try clear hcz24_0
      try clear hcz24_1
      try clear hcz24_2
      try clear hcz27_0
      try clear hcz27_1
      try clear hcz27_2
      try clear hcz31_0
      try clear hcz31_1
      try clear hcz31_2
      try clear hcz34_0
      try clear hcz34_1
      try clear hcz34_2
      try clear hcz36_0
      try clear hcz36_1
      try clear hcz36_2
      try clear hcz39_0
      try clear hcz39_1
      try clear hcz39_2
      try clear hcz41_0
      try clear hcz41_1
      try clear hcz41_2
      try clear hcz54_0
      try clear hcz54_1
      try clear hcz54_2
      try clear hcz57_0
      try clear hcz57_1
      try clear hcz57_2
      try clear hcz60_0
      try clear hcz60_1
      try clear hcz60_2
      try clear hcz63_0
      try clear hcz63_1
      try clear hcz63_2
      try clear hcz68_0
      try clear hcz68_1
      try clear hcz68_2
      try clear hcz7_0
      try clear hcz7_1
      try clear hcz7_2
      try clear hfz24_0
      try clear hfz24_1
      try clear hfz24_2
      try clear hfz27_0
      try clear hfz27_1
      try clear hfz27_2
      try clear hfz31_0
      try clear hfz31_1
      try clear hfz31_2
      try clear hfz34_0
      try clear hfz34_1
      try clear hfz34_2
      try clear hfz36_0
      try clear hfz36_1
      try clear hfz36_2
      try clear hfz39_0
      try clear hfz39_1
      try clear hfz39_2
      try clear hfz41_0
      try clear hfz41_1
      try clear hfz41_2
      try clear hfz54_0
      try clear hfz54_1
      try clear hfz54_2
      try clear hfz57_0
      try clear hfz57_1
      try clear hfz57_2
      try clear hfz60_0
      try clear hfz60_1
      try clear hfz60_2
      try clear hfz63_0
      try clear hfz63_1
      try clear hfz63_2
      try clear hfz68_0
      try clear hfz68_1
      try clear hfz68_2
      try clear hfz7_0
      try clear hfz7_1
      try clear hfz7_2
      try clear hx301_0
      try clear hx301_1
      try clear hx302_0
      try clear hx302_1
      try clear hx303_0
      try clear hx303_1
      try clear hx310_0
      try clear hx310_1
      try clear hx311_0
      try clear hx311_1
      try clear hx312_0
      try clear hx312_1
      try clear p2
      try clear p3
      try clear p30
      try clear p301
      try clear p302
      try clear p303
      try clear p31
      try clear p310
      try clear p311
      try clear p312
      try clear p6
      try clear p64
      try clear q3
      try clear q30
      try clear q301
      try clear q302
      try clear q303
      try clear q31
      try clear q310
      try clear q311
      try clear q312
      obtain ⟨kq, x43_69, rfl, HA, HJ69, BK284, HB⟩ := hcut
      cases kq with
      | zero => exact absurd HA.out (by simp [flywheellaw20_LossyBounds.j5])
      | succ kj69 =>
       have H := HA.out
       clear HA
       simp only [flywheellaw20_LossyBounds.j5] at H
       by_cases c72 : x43_69 = true
       ·subst c72
        have H1 : (none) = some r := by rw [if_pos rfl] at H; exact H
        clear H
        have H := H1
        clear H1
        exact absurd H (by simp)
       ·replace c72 := Bool.eq_false_iff.mpr c72
        subst c72
        have H1 : ((flywheellaw20_wakes.f).bind fun t316 => (some t316)) = some r := by rw [if_neg (show ¬ (false = true) by decide)] at H; exact H
        clear H
        have H := H1
        clear H1
        replace H := Option.bind_eq_some_iff.mp H
        obtain ⟨t316, A730, H⟩ := H
        replace H : (some t316) = some r := H
        have A73 := Aside0.mk A730
        clear A730
        obtain rfl := Option.some.inj H
        go_wp2_with (first | ((with_reducible refine gate_callee (f := 8) rfl ?_); refine goesL_ (some 124) rfl rfl Tryd.func8 (by kernel_rfl) rfl #[] rfl (by (try simp only [List.map_toArray, List.map_cons, List.map_nil]); first | done | rfl | (simp only [List.length_drop, List.length_take]; rfl)) ?_; (with_reducible refine (flywheellaw20_wakes.calls  t316 _ ?sideG A73.out).mono ?_); (case sideG => first | exact HTB.out | exact GL.below HTB.out (by repeat (first | (with_reducible first | exact HB.out | apply below_alloc | apply pw_below_drewN | apply below_drew1 | refine below_set ?_ GE284.out) | exact HB.out))); rintro e w74 ⟨rfl, hb⟩; refine ⟨_, rfl, ?_⟩; have n0_ := Aside0.mk (blk_below (g := gb284) (o := .cells #[.int .i64 a0_0, .int .i64 a0_1, .int .i64 a0_2] 23 (0, 0)) (by (with_reducible repeat (first | refine blk_drewN ?_ _ | refine blk_drew ?_ | refine blk_alloc ?_ _)); exact BK284.out) hb); have n1_ := Aside0.mk (below_step (by repeat (first | (with_reducible first | exact HB.out | apply below_alloc | apply pw_below_drewN | apply below_drew1 | refine below_set ?_ GE284.out) | exact HB.out)) hb); clear BK284; clear HB; have BK284 := n0_; have HB := n1_; clear n0_ n1_; (try clear hb); (try clear hb2); (try clear hk); (try clear hi)))
        go_ret
        exact ⟨by first | rfl | (simp [errW_none, errW_some] <;> rfl) | (simp [*, errW_none, errW_some] <;> rfl), by repeat (first | (with_reducible first | exact HB.out | apply below_alloc | apply pw_below_drewN | apply below_drew1 | refine below_set ?_ GE284.out) | exact HB.out)⟩
  ·rw [if_neg c66] at H
   have c66b0 : (t313 == 0) = false := beq_eq_false_iff_ne.mpr c66
   have c66b1 : (t313 != 0) = true := bne_iff_ne.mpr c66
   replace H := Option.bind_eq_some_iff.mp H
   obtain ⟨t314, A750, H⟩ := H
   replace H : (if t314 = true then (some false) else ((flywheellaw20_wakes.f).bind fun t315 => (some t315))) = some r := H
   have A75 := Aside0.mk A750
   clear A750
   by_cases c76 : t314 = true
   ·subst c76
    have H1 : (some false) = some r := by rw [if_pos rfl] at H; exact H
    clear H
    have H := H1
    clear H1
    obtain rfl := Option.some.inj H
    go_enter Tryd.func5, Tryd.ntmps5
    go_wp2_with (first | ((with_reducible refine gate_dst (N := 2) rfl ?_); refine box_event ?hg (N := 2) ?hd (cs := #[.int .i64 a0_0, .int .i64 a0_1, .int .i64 a0_2]) (t := 23) ?hr ?_; (case hd => rfl); (case hg => rfl); (case hr => first | (go_simp; done) | (go_simp; rfl)); intro gb284 hg w77 hbox hb; have n0_ := Aside0.mk (below_step (by repeat (first | (with_reducible first | exact HB.out | apply below_alloc | apply pw_below_drewN | apply below_drew1) | exact HB.out)) hb); have n1_ := Aside0.mk (hbox); have n2_ := Aside0.mk ((by rw [hg]; exact (below_size (by repeat (first | (with_reducible first | exact HB.out | apply below_alloc | apply pw_below_drewN | apply below_drew1) | exact HB.out))) : w.heap.size ≤ gb284)); have n3_ := Aside0.mk ((by rw [hg]; exact (below_size (by repeat (first | (with_reducible first | exact HB.out | apply below_alloc | apply pw_below_drewN | apply below_drew1) | exact HB.out))) : w.heap.size ≤ gb284)); clear HB; have HB := n0_; have BK284 := n1_; have GW284 := n2_; have GE284 := n3_; clear n0_ n1_ n2_ n3_; clear hb hbox hg; have hcz78_0 : w77.cell? ⟨gb284, 0, none⟩ = some (.int .i64 a0_0) := (blk_cell BK284.out 0).trans rfl; have hcz78_1 : w77.cell? ⟨gb284, 1, none⟩ = some (.int .i64 a0_1) := (blk_cell BK284.out 1).trans rfl; have hcz78_2 : w77.cell? ⟨gb284, 2, none⟩ = some (.int .i64 a0_2) := (blk_cell BK284.out 2).trans rfl; have hfz78_0 := blk_frozen BK284.out 0; have hfz78_1 := blk_frozen BK284.out 1; have hfz78_2 := blk_frozen BK284.out 2) | ((with_reducible refine gate_callee (f := 7) rfl ?_); refine goesL_ (some 20) rfl rfl Tryd.func7 (by kernel_rfl) rfl #[.int .i64 a0_0, .int .i64 a0_1, .int .i64 a0_2] rfl (by (try simp only [List.map_toArray, List.map_cons, List.map_nil]); first | done | rfl | (simp only [List.length_drop, List.length_take]; rfl)) ?_; (with_reducible refine (lossy_New.nil.calls a0_0 a0_1 a0_2 t313 _ A65.out).mono ?_); rintro e w79 ⟨rfl, hb⟩; refine ⟨_, rfl, ?_⟩; have n0_ := Aside0.mk (blk_below (g := gb284) (o := .cells #[.int .i64 a0_0, .int .i64 a0_1, .int .i64 a0_2] 23 (0, 0)) (by (with_reducible repeat (first | refine blk_drewN ?_ _ | refine blk_drew ?_ | refine blk_alloc ?_ _)); exact BK284.out) hb); have n1_ := Aside0.mk (below_step (by repeat (first | (with_reducible first | exact HB.out | apply below_alloc | apply pw_below_drewN | apply below_drew1 | refine below_set ?_ GE284.out) | exact HB.out)) hb); clear BK284; clear HB; have BK284 := n0_; have HB := n1_; clear n0_ n1_; (try clear hb); (try clear hb2); (try clear hk); (try clear hi); have hcz80_0 : w79.cell? ⟨gb284, 0, none⟩ = some (.int .i64 a0_0) := (blk_cell BK284.out 0).trans rfl; have hcz80_1 : w79.cell? ⟨gb284, 1, none⟩ = some (.int .i64 a0_1) := (blk_cell BK284.out 1).trans rfl; have hcz80_2 : w79.cell? ⟨gb284, 2, none⟩ = some (.int .i64 a0_2) := (blk_cell BK284.out 2).trans rfl; have hfz80_0 := blk_frozen BK284.out 0; have hfz80_1 := blk_frozen BK284.out 1; have hfz80_2 := blk_frozen BK284.out 2) | ((with_reducible refine gate_callee (f := 14) rfl ?_); refine goesL_ (some 31) rfl rfl Tryd.func14 (by kernel_rfl) rfl #[.int .i64 a0_0, .int .i64 a0_1, .int .i64 a0_2] rfl (by (try simp only [List.map_toArray, List.map_cons, List.map_nil]); first | done | rfl | (simp only [List.length_drop, List.length_take]; rfl)) ?_; (with_reducible refine (flywheelref19_Rates.calls a0_0 a0_1 a0_2 true _ A75.out).mono ?_); rintro e w' ⟨rfl, ⟨nd, rfl⟩⟩; refine ⟨_, rfl, ?_⟩))
    go_ret
    exact ⟨by first | rfl | (simp [errW_none, errW_some] <;> rfl) | (simp [*, errW_none, errW_some] <;> rfl), by repeat (first | (with_reducible first | exact HB.out | apply below_alloc | apply pw_below_drewN | apply below_drew1 | refine below_set ?_ GE284.out) | exact HB.out)⟩
   ·replace c76 := Bool.eq_false_iff.mpr c76
    subst c76
    have H1 : ((flywheellaw20_wakes.f).bind fun t315 => (some t315)) = some r := by rw [if_neg (show ¬ (false = true) by decide)] at H; exact H
    clear H
    have H := H1
    clear H1
    replace H := Option.bind_eq_some_iff.mp H
    obtain ⟨t315, A810, H⟩ := H
    replace H : (some t315) = some r := H
    have A81 := Aside0.mk A810
    clear A810
    obtain rfl := Option.some.inj H
    go_enter Tryd.func5, Tryd.ntmps5
    go_wp2_with (first | ((with_reducible refine gate_dst (N := 2) rfl ?_); refine box_event ?hg (N := 2) ?hd (cs := #[.int .i64 a0_0, .int .i64 a0_1, .int .i64 a0_2]) (t := 23) ?hr ?_; (case hd => rfl); (case hg => rfl); (case hr => first | (go_simp; done) | (go_simp; rfl)); intro gb284 hg w82 hbox hb; have n0_ := Aside0.mk (below_step (by repeat (first | (with_reducible first | exact HB.out | apply below_alloc | apply pw_below_drewN | apply below_drew1) | exact HB.out)) hb); have n1_ := Aside0.mk (hbox); have n2_ := Aside0.mk ((by rw [hg]; exact (below_size (by repeat (first | (with_reducible first | exact HB.out | apply below_alloc | apply pw_below_drewN | apply below_drew1) | exact HB.out))) : w.heap.size ≤ gb284)); have n3_ := Aside0.mk ((by rw [hg]; exact (below_size (by repeat (first | (with_reducible first | exact HB.out | apply below_alloc | apply pw_below_drewN | apply below_drew1) | exact HB.out))) : w.heap.size ≤ gb284)); clear HB; have HB := n0_; have BK284 := n1_; have GW284 := n2_; have GE284 := n3_; clear n0_ n1_ n2_ n3_; clear hb hbox hg; have hcz83_0 : w82.cell? ⟨gb284, 0, none⟩ = some (.int .i64 a0_0) := (blk_cell BK284.out 0).trans rfl; have hcz83_1 : w82.cell? ⟨gb284, 1, none⟩ = some (.int .i64 a0_1) := (blk_cell BK284.out 1).trans rfl; have hcz83_2 : w82.cell? ⟨gb284, 2, none⟩ = some (.int .i64 a0_2) := (blk_cell BK284.out 2).trans rfl; have hfz83_0 := blk_frozen BK284.out 0; have hfz83_1 := blk_frozen BK284.out 1; have hfz83_2 := blk_frozen BK284.out 2) | ((with_reducible refine gate_callee (f := 7) rfl ?_); refine goesL_ (some 20) rfl rfl Tryd.func7 (by kernel_rfl) rfl #[.int .i64 a0_0, .int .i64 a0_1, .int .i64 a0_2] rfl (by (try simp only [List.map_toArray, List.map_cons, List.map_nil]); first | done | rfl | (simp only [List.length_drop, List.length_take]; rfl)) ?_; (with_reducible refine (lossy_New.nil.calls a0_0 a0_1 a0_2 t313 _ A65.out).mono ?_); rintro e w84 ⟨rfl, hb⟩; refine ⟨_, rfl, ?_⟩; have n0_ := Aside0.mk (blk_below (g := gb284) (o := .cells #[.int .i64 a0_0, .int .i64 a0_1, .int .i64 a0_2] 23 (0, 0)) (by (with_reducible repeat (first | refine blk_drewN ?_ _ | refine blk_drew ?_ | refine blk_alloc ?_ _)); exact BK284.out) hb); have n1_ := Aside0.mk (below_step (by repeat (first | (with_reducible first | exact HB.out | apply below_alloc | apply pw_below_drewN | apply below_drew1 | refine below_set ?_ GE284.out) | exact HB.out)) hb); clear BK284; clear HB; have BK284 := n0_; have HB := n1_; clear n0_ n1_; (try clear hb); (try clear hb2); (try clear hk); (try clear hi); have hcz85_0 : w84.cell? ⟨gb284, 0, none⟩ = some (.int .i64 a0_0) := (blk_cell BK284.out 0).trans rfl; have hcz85_1 : w84.cell? ⟨gb284, 1, none⟩ = some (.int .i64 a0_1) := (blk_cell BK284.out 1).trans rfl; have hcz85_2 : w84.cell? ⟨gb284, 2, none⟩ = some (.int .i64 a0_2) := (blk_cell BK284.out 2).trans rfl; have hfz85_0 := blk_frozen BK284.out 0; have hfz85_1 := blk_frozen BK284.out 1; have hfz85_2 := blk_frozen BK284.out 2) | ((with_reducible refine gate_callee (f := 14) rfl ?_); refine goesL_ (some 31) rfl rfl Tryd.func14 (by kernel_rfl) rfl #[.int .i64 a0_0, .int .i64 a0_1, .int .i64 a0_2] rfl (by (try simp only [List.map_toArray, List.map_cons, List.map_nil]); first | done | rfl | (simp only [List.length_drop, List.length_take]; rfl)) ?_; (with_reducible refine (flywheelref19_Rates.calls a0_0 a0_1 a0_2 false _ A75.out).mono ?_); rintro e w' ⟨rfl, ⟨nd, rfl⟩⟩; refine ⟨_, rfl, ?_⟩) | (go_at_call 8; (with_reducible refine (flywheellaw20_wakes.calls  t315 _ ?sideG A81.out).mono ?_); (case sideG => first | exact HTB.out | exact GL.below HTB.out (by repeat (first | (with_reducible first | exact HB.out | apply below_alloc | apply pw_below_drewN | apply below_drew1 | refine below_set ?_ GE284.out) | exact HB.out))); rintro e w86 ⟨rfl, hb⟩; have n0_ := Aside0.mk (blk_below (g := gb284) (o := .cells #[.int .i64 a0_0, .int .i64 a0_1, .int .i64 a0_2] 23 (0, 0)) (by (with_reducible repeat (first | refine blk_drewN ?_ _ | refine blk_drew ?_ | refine blk_alloc ?_ _)); exact BK284.out) hb); have n1_ := Aside0.mk (below_step (by repeat (first | (with_reducible first | exact HB.out | apply below_alloc | apply pw_below_drewN | apply below_drew1 | refine below_set ?_ GE284.out) | exact HB.out)) hb); clear BK284; clear HB; have BK284 := n0_; have HB := n1_; clear n0_ n1_; (try clear hb); (try clear hb2); (try clear hk); (try clear hi)))
    go_ret
    exact ⟨by first | rfl | (simp [errW_none, errW_some] <;> rfl) | (simp [*, errW_none, errW_some] <;> rfl), by repeat (first | (with_reducible first | exact HB.out | apply below_alloc | apply pw_below_drewN | apply below_drew1 | refine below_set ?_ GE284.out) | exact HB.out)⟩
def flywheellaw20_LossyBounds.Pure : Prop := ∀ (a0_0 : Int) (a0_1 : Int) (a0_2 : Int) (l1 : List (S36)), (Lit.int .i64 a0_0).wf = true → (Lit.int .i64 a0_1).wf = true → (Lit.int .i64 a0_2).wf = true → l1.length ≤ maxLen → l1.length * 16 ≤ 140737488351232 → (∀ x ∈ l1, (Lit.int .i64 x.f0).wf = true ∧ (Lit.int .i64 x.f1).wf = true) → ∃ k, flywheellaw20_LossyBounds.f k a0_0 a0_1 a0_2 l1 = some true
theorem flywheellaw20_LossyBounds.walk (P : flywheellaw20_LossyBounds.Pure) (a0_0 : Int) (a0_1 : Int) (a0_2 : Int) (A1 : Option Addr) (c1 : Nat) (l1 : List (S36)) (w : World) (w0_0 : (Lit.int .i64 a0_0).wf = true) (w0_1 : (Lit.int .i64 a0_1).wf = true) (w0_2 : (Lit.int .i64 a0_2).wf = true) (hm1 : l1.length ≤ maxLen) (y1 : l1.length * 16 ≤ 140737488351232) (hw1 : (∀ x ∈ l1, (Lit.int .i64 x.f0).wf = true ∧ (Lit.int .i64 x.f1).wf = true)) (hr1 : Kd.C k36 w A1 l1.length l1) (hc1 : l1.length ≤ c1) (hG : GL w) :
  Calls Tryd.prog 5 #[.agg #[.int .i64 a0_0, .int .i64 a0_1, .int .i64 a0_2], .slice A1 l1.length c1] w fun e w' => e = .returned (.bool true) ∧ Below w.heap.size w w' := by
 obtain ⟨k, h⟩ := P a0_0 a0_1 a0_2 l1 w0_0 w0_1 w0_2 hm1 y1 hw1
 refine (flywheellaw20_LossyBounds.calls k a0_0 a0_1 a0_2 A1 c1 l1 true w hr1 hc1 hG h).mono ?_
 rintro e w' ⟨rfl, hd⟩
 exact ⟨rfl, hd⟩
end Go.Proofs.YtkfkbebpcmmnfaaDoor.P
end

section
namespace Go.Proofs.YtkfkbebpcmmnfaaDoor.P
open Go.RowKit Go.Proofs.YtkfkbebpcmmnfaaDoorW.PrintWords Go.Proofs.YtkfkbebpcmmnfaaDoorW.PrintLast Go.Proofs.YtkfkbebpcmmnfaaDoorW.PrintMore
attribute [local go_sem] max2_int min2_int max_two min_two max_three min_three max_four min_four   -- for this text's walks alone
set_option linter.unusedVariables false
set_option linter.unusedSimpArgs false
end Go.Proofs.YtkfkbebpcmmnfaaDoor.P
end

section
namespace Go.Proofs.YtkfkbebpcmmnfaaDoor.P
open Go.RowKit Go.Proofs.YtkfkbebpcmmnfaaDoorW.PrintWords Go.Proofs.YtkfkbebpcmmnfaaDoorW.PrintLast Go.Proofs.YtkfkbebpcmmnfaaDoorW.PrintMore
attribute [local go_sem] max2_int min2_int max_two min_two max_three min_three max_four min_four   -- for this text's walks alone
set_option linter.unusedVariables false
set_option linter.unusedSimpArgs false
end Go.Proofs.YtkfkbebpcmmnfaaDoor.P
end

section
namespace Go.Proofs.YtkfkbebpcmmnfaaDoor.P
open Go.RowKit
set_option linter.unusedVariables false
set_option linter.unusedSimpArgs false
theorem clamp_eq (a lo hi : Int) : sat_Clamp.f a lo hi = some (if a < lo then lo else if a > hi then hi else a) := by
  unfold sat_Clamp.f
  split
  · rfl
  · split <;> rfl
end Go.Proofs.YtkfkbebpcmmnfaaDoor.P
end

section
namespace Go.Proofs.YtkfkbebpcmmnfaaDoor.P
open Go.RowKit
set_option linter.unusedVariables false
set_option linter.unusedSimpArgs false
end Go.Proofs.YtkfkbebpcmmnfaaDoor.P
end

-- PUT TOGETHER by a program of this session: of the claim's texts, what is used
import Derived.Test.YtmcfgaokimlngaaKTrendFlat7
import Derived.Test.YtmcfgaokimlngaaKTrendFlat10
section
namespace Go.Proofs.Ytmcfgaokimlngaa.P
open Go.RowKit Go.Proofs.YtmcfgaokimlngaaW.PrintWords Go.Proofs.YtmcfgaokimlngaaW.PrintLast Go.Proofs.YtmcfgaokimlngaaW.PrintMore
attribute [local go_sem] max2_int min2_int max_two min_two max_three min_three max_four min_four   -- for this text's walks alone
set_option linter.unusedVariables false
set_option linter.unusedSimpArgs false
def flywheelkeep_Mod.f (a0 : Int) (a1 : Int) : Option (Int) := if a1 < 1 then (some 0) else (if a1 = 0 then (none) else (some (Int.tmod (wrap64 ((Int.tmod a0 a1) + a1)) a1)))
set_option maxHeartbeats 8000000 in
set_option maxRecDepth 100000 in
theorem flywheelkeep_Mod.calls (a0 : Int) (a1 : Int) (r : Int) (w : World) (h : flywheelkeep_Mod.f a0 a1 = some r) :
  Calls Try.prog 23 #[.int .i64 a0, .int .i64 a1] w fun e w' => e = .returned (.int .i64 r) ∧ Drawn0 w w' := by
 have H : (if a1 < 1 then (some 0) else (if a1 = 0 then (none) else (some (Int.tmod (wrap64 ((Int.tmod a0 a1) + a1)) a1)))) = some r := h
 clear h
 by_cases c3 : a1 < 1
 ·rw [if_pos c3] at H
  have c3b0 : decide (a1 < 1) = true := decide_eq_true c3
  clear c3
  obtain rfl := Option.some.inj H
  go_enter Try.func23, Try.ntmps23
  go_wp2
  go_ret
  exact ⟨by first | rfl | (simp; done) | (simp [*]; done), by repeat (first | exact Drawn0.refl _ | apply Drawn0.step)⟩
 ·rw [if_neg c3] at H
  have c3b0 : decide (a1 < 1) = false := decide_eq_false c3
  clear c3
  by_cases c4 : a1 = 0
  ·rw [if_pos c4] at H
   exact absurd H (by simp)
  ·rw [if_neg c4] at H
   have c4b0 : (a1 == 0) = false := beq_eq_false_iff_ne.mpr c4
   have c4b1 : (a1 != 0) = true := bne_iff_ne.mpr c4
   obtain rfl := Option.some.inj H
   go_enter Try.func23, Try.ntmps23
   go_wp2
   go_ret
   exact ⟨by first | rfl | (simp; done) | (simp [*]; done), by repeat (first | exact Drawn0.refl _ | apply Drawn0.step)⟩
mutual
def flywheellaw17_TrendFlat.l0 : Nat → List Int → Int → Int → Int → Int → Int → Int → List Int → List Int → Int → Option (Bool)
 | 0, _, _, _, _, _, _, _, _, _, _ => none
 | k + 1, x1, x7, x457000, x457001, x457002, x457003, x457004, x457005, x457006, x457007 => if x7 < (x1.length : Int) then (flywheellaw17_TrendFlat.j1 k x1 x7 (decide (x7 < 100)) x457000 x457001 x457002 x457003 x457004 x457005 x457006 x457007) else (flywheellaw17_TrendFlat.j1 k x1 x7 false x457000 x457001 x457002 x457003 x457004 x457005 x457006 x457007)
def flywheellaw17_TrendFlat.j1 : Nat → List Int → Int → Bool → Int → Int → Int → Int → Int → List Int → List Int → Int → Option (Bool)
 | 0, _, _, _, _, _, _, _, _, _, _, _ => none
 | k + 1, x1, x7, x24, x457000, x457001, x457002, x457003, x457004, x457005, x457006, x457007 => if x24 = true then (if 0 ≤ x7 then (if x7 < (x1.length : Int) then ((trend_Trend_Add.f k x457000 x457001 x457002 x457003 x457004 x457005 x457006 x457007 (wrap64 (rd x1 x7)) (wrap64 (rd x1 x7))).bind fun bt460 => (if bt460.1 = 0 then (flywheellaw17_TrendFlat.l0 k x1 (wrap64 (x7 + 1)) bt460.2.1 bt460.2.2.1 bt460.2.2.2.1 bt460.2.2.2.2.1 bt460.2.2.2.2.2.1 bt460.2.2.2.2.2.2.1 bt460.2.2.2.2.2.2.2.1 bt460.2.2.2.2.2.2.2.2) else (some false))) else (none)) else (none)) else ((trend_Trend_Count.f x457000 x457001 x457002 x457003 x457004 x457005 x457006 x457007).bind fun bt469 => (if bt469.1 = (mn (x1.length : Int) 100) then ((flywheellaw17_wakes.f k).bind fun t478 => (some t478)) else (some false)))
def flywheellaw17_TrendFlat.l5000 : Nat → List Int → Int → Option (Bool)
 | 0, _, _ => none
 | k + 1, x1, x7 => if x7 < (x1.length : Int) then (flywheellaw17_TrendFlat.j3 k x1 x7 (decide (x7 < 100))) else (flywheellaw17_TrendFlat.j3 k x1 x7 false)
def flywheellaw17_TrendFlat.j3 : Nat → List Int → Int → Bool → Option (Bool)
 | 0, _, _, _ => none
 | k + 1, x1, x7, x24 => if x24 = true then (if 0 ≤ x7 then (if x7 < (x1.length : Int) then (none) else (none)) else (none)) else (none)
end
def flywheellaw17_TrendFlat.f (k : Nat) (a0 : Int) (l1 : List Int) : Option (Bool) := (flywheelkeep_Mod.f a0 63).bind fun t447 => (if (trend_New.made.f (wrap64 (2 + t447)) 3865470566).isSome = true then ((trend_New.made.f (wrap64 (2 + t447)) 3865470566).bind fun bt448 => (if bt448.2.2.2.2.2.2.2.2 = 0 then (flywheellaw17_TrendFlat.l0 k l1 0 bt448.1 bt448.2.1 bt448.2.2.1 bt448.2.2.2.1 bt448.2.2.2.2.1 bt448.2.2.2.2.2.1 bt448.2.2.2.2.2.2.1 bt448.2.2.2.2.2.2.2.1) else (some false))) else ((trend_New.nil.f (wrap64 (2 + t447)) 3865470566).bind fun t479 => (if t479 = 0 then (flywheellaw17_TrendFlat.l5000 k l1 0) else (some false))))
def flywheellaw17_TrendFlat.T7 : Bool × List (List Nat × List Nat) := (true, [([], []), ([], []), ([], []), ([1, 2], [1, 2]), ([3], [3]), ([4], [4]), ([], []), ([], []), ([6, 7], [6, 7]), ([8], [8]), ([9], [9]), ([0, 5, 10], [0, 5, 10]), ([11], [11])])
def flywheellaw17_TrendFlat.B7 : List Nat := [0, 0, 0, 6, 14, 30, 0, 0, 192, 448, 960, 2047, 4095]
theorem flywheellaw17_TrendFlat.tab7 : rtab .any (opsOf Try.f7 7) = flywheellaw17_TrendFlat.T7 := by kernel_rfl
theorem flywheellaw17_TrendFlat.bits7 : waitsOk flywheellaw17_TrendFlat.T7.2 flywheellaw17_TrendFlat.B7 = true := by kernel_rfl
set_option maxHeartbeats 8000000 in
set_option maxRecDepth 100000 in
theorem flywheellaw17_TrendFlat.calls (k : Nat) (a0 : Int) (A1 : Option Addr) (c1 : Nat) (l1 : List Int) (r : Bool) (w : World) (hr1 : Kd.C (Kd.int .u32) w A1 l1.length l1) (hc1 : l1.length ≤ c1) (h : flywheellaw17_TrendFlat.f k a0 l1 = some r) :
  Calls Try.prog 7 #[.int .i64 a0, .slice A1 l1.length c1] w fun e w' => e = .returned (.bool r) ∧ Below w.heap.size w w' := by
 have HR1 := Aside0.mk hr1
 have HC1 := Aside0.mk hc1
 clear hr1 hc1
 have HB := Aside0.mk (Below.refl w.heap.size w)
 have H : ((flywheelkeep_Mod.f a0 63).bind fun t447 => (if (trend_New.made.f (wrap64 (2 + t447)) 3865470566).isSome = true then ((trend_New.made.f (wrap64 (2 + t447)) 3865470566).bind fun bt448 => (if bt448.2.2.2.2.2.2.2.2 = 0 then (flywheellaw17_TrendFlat.l0 k l1 0 bt448.1 bt448.2.1 bt448.2.2.1 bt448.2.2.2.1 bt448.2.2.2.2.1 bt448.2.2.2.2.2.1 bt448.2.2.2.2.2.2.1 bt448.2.2.2.2.2.2.2.1) else (some false))) else ((trend_New.nil.f (wrap64 (2 + t447)) 3865470566).bind fun t479 => (if t479 = 0 then (flywheellaw17_TrendFlat.l5000 k l1 0) else (some false))))) = some r := h
 clear h
 replace H := Option.bind_eq_some_iff.mp H
 obtain ⟨t447, A30, H⟩ := H
 replace H : (if (trend_New.made.f (wrap64 (2 + t447)) 3865470566).isSome = true then ((trend_New.made.f (wrap64 (2 + t447)) 3865470566).bind fun bt448 => (if bt448.2.2.2.2.2.2.2.2 = 0 then (flywheellaw17_TrendFlat.l0 k l1 0 bt448.1 bt448.2.1 bt448.2.2.1 bt448.2.2.2.1 bt448.2.2.2.2.1 bt448.2.2.2.2.2.1 bt448.2.2.2.2.2.2.1 bt448.2.2.2.2.2.2.2.1) else (some false))) else ((trend_New.nil.f (wrap64 (2 + t447)) 3865470566).bind fun t479 => (if t479 = 0 then (flywheellaw17_TrendFlat.l5000 k l1 0) else (some false)))) = some r := H
 have A3 := Aside0.mk A30
 clear A30
 by_cases c4 : (trend_New.made.f (wrap64 (2 + t447)) 3865470566).isSome = true
 ·rw [if_pos c4] at H
  have c4b0 : (trend_New.made.f (wrap64 (2 + t447)) 3865470566).isSome = true := c4
  clear c4
  replace H := Option.bind_eq_some_iff.mp H
  obtain ⟨⟨t448, t449, t450, t451, t452, t453, t454, t455, t457⟩, A50, H⟩ := H
  replace H : (if t457 = 0 then (flywheellaw17_TrendFlat.l0 k l1 0 t448 t449 t450 t451 t452 t453 t454 t455) else (some false)) = some r := H
  have A5 := Aside0.mk A50
  clear A50
  by_cases c6 : t457 = 0
  ·rw [if_pos c6] at H
   have c6b0 : (t457 == 0) = true := beq_iff_eq.mpr c6
   have c6b1 : (t457 != 0) = false := bne_eq_false_iff_eq.mpr c6
   clear c6
   have H' := Aside0.mk H
   clear H
   go_enter Try.func7, Try.ntmps7
   go_wp2_with (first | ((with_reducible refine gate_callee (f := 23) rfl ?_); refine goesL_ (some 10) rfl rfl Try.func23 (by kernel_rfl) rfl #[.int .i64 a0, .int .i64 63] rfl (by (try simp only [List.map_toArray, List.map_cons, List.map_nil]); first | done | rfl | (simp only [List.length_drop, List.length_take]; rfl)) ?_; (with_reducible refine (flywheelkeep_Mod.calls a0 63 t447 _ A3.out).mono ?_); rintro e w' ⟨rfl, ⟨nd, rfl⟩⟩; refine ⟨_, rfl, ?_⟩) | ((with_reducible refine gate_callee (f := 14) rfl ?_); refine goesL_ (some 12) rfl rfl Try.func14 (by kernel_rfl) rfl #[.int .i64 (wrap64 (2 + t447)), .int .i64 3865470566] rfl (by (try simp only [List.map_toArray, List.map_cons, List.map_nil]); first | done | rfl | (simp only [List.length_drop, List.length_take]; rfl)) ?_; (with_reducible refine (trend_New.made.calls (wrap64 (2 + t447)) 3865470566 t448 t449 t450 t451 t452 t453 t454 t455 t457 w _ ?side1 A5.out).mono ?_); (case side1 => repeat (first | (with_reducible first | exact HB.out | apply below_alloc | apply pw_below_drewN | apply below_drew1) | exact HB.out)); rintro e w7 ⟨g456, rfl, hi, hb, hb2⟩; refine ⟨_, rfl, ?_⟩; have n0_ := Aside0.mk (hb); have n1_ := Aside0.mk (hi); clear HB; have HB := n0_; have HI456 := n1_; clear n0_ n1_; (try clear hb); (try clear hb2); (try clear hk); (try clear hi)))
   go_loopg [7] k (fun kq v7 w' => ∃ (x7_1 : Int) (x457000_1 : Int) (x457001_1 : Int) (x457002_1 : Int) (x457003_1 : Int) (x457004_1 : Int) (x457005_1 : List Int) (x457006_1 : List Int) (x457007_1 : Int) (u457005 : Value) (u457006 : Value), v7 = .int .i64 x7_1 ∧ Aside0 (flywheellaw17_TrendFlat.l0 kq l1 x7_1 x457000_1 x457001_1 x457002_1 x457003_1 x457004_1 x457005_1 x457006_1 x457007_1 = some r) ∧ Aside0 (kq ≤ k) ∧ Aside0 (IsS60 w w' g456 x457000_1 x457001_1 x457002_1 x457003_1 x457004_1 x457005_1 x457006_1 x457007_1) ∧ Aside0 (Below w.heap.size w w'))
   case atStart => exact ⟨(0), (t448), (t449), (t450), (t451), (t452), (t453), (t454), (t455), (.bool true), (.bool true), (by first | rfl | (simp; done) | (simp [*]; done)), H', ⟨Nat.le_refl _⟩, ⟨by repeat (first | (with_reducible first | exact HI456.out | apply IsS60.alloc | apply IsS60.drewN | apply IsS60.drew | apply IsS60.set_0 | apply IsS60.set_1 | apply IsS60.set_2 | apply IsS60.set_3 | apply IsS60.set_4 | apply IsS60.set_5 | apply IsS60.set_6 | apply IsS60.set_7) | exact HI456.out)⟩, ⟨by repeat (first | (with_reducible first | exact HB.out | apply below_alloc | apply pw_below_drewN | apply below_drew1 | refine below_set ?_ (IsS60.ge HI456.out)) | exact HB.out)⟩⟩
   case round =>
    clear H'
    try clear c1
    try clear c2
    try clear p2
    try clear c4
    try clear c4b0
    try clear c6
    try clear c6b0
    try clear c6b1
    try clear p6
    try clear c7
    obtain ⟨x7_1, x457000_1, x457001_1, x457002_1, x457003_1, x457004_1, x457005_1, x457006_1, x457007_1, u457005, u457006, rfl, HA, HK1, HI456, HB⟩ := hrel
    cases gk with
    | zero => exact absurd HA.out (by simp [flywheellaw17_TrendFlat.l0])
    | succ k1 =>
     have H := HA.out
     clear HA
     simp only [flywheellaw17_TrendFlat.l0] at H
     have HC8 := Aside0.mk H
     clear H
     go_upto_region 5 with (fail)
     go_cut [24] (fun v24 wc => ∃ (kq : Nat) (x24_7 : Bool), v24 = .bool x24_7 ∧ Aside0 (flywheellaw17_TrendFlat.j1 kq l1 x7_1 x24_7 x457000_1 x457001_1 x457002_1 x457003_1 x457004_1 x457005_1 x457006_1 x457007_1 = some r) ∧ Aside0 (kq ≤ k1) ∧ Aside0 (IsS60 w wc g456 x457000_1 x457001_1 x457002_1 x457003_1 x457004_1 x457005_1 x457006_1 x457007_1) ∧ Aside0 (Below w.heap.size w wc))
     case first =>
      have H := HC8.out
      clear HC8
      by_cases c9 : x7_1 < (l1.length : Int)
      ·rw [if_pos c9] at H
       have c9b0 : decide (x7_1 < (l1.length : Int)) = true := decide_eq_true c9
       clear c9
       (first | rw [c9b0] | (simp only [i64_w, i32_w]; rw [c9b0]) | skip)
       have H' := Aside0.mk H
       clear H
       go_wp2
       go_meet
       case rel => exact ⟨_, (decide (x7_1 < 100)), (by first | rfl | (simp; done) | (simp [*]; done)), H', ⟨by have := HK1.out; first | omega | exact Nat.le_refl _⟩, ⟨by repeat (first | (with_reducible first | exact HI456.out | apply IsS60.alloc | apply IsS60.drewN | apply IsS60.drew | apply IsS60.set_0 | apply IsS60.set_1 | apply IsS60.set_2 | apply IsS60.set_3 | apply IsS60.set_4 | apply IsS60.set_5 | apply IsS60.set_6 | apply IsS60.set_7) | exact HI456.out)⟩, ⟨by repeat (first | (with_reducible first | exact HB.out | apply below_alloc | apply pw_below_drewN | apply below_drew1 | refine below_set ?_ (IsS60.ge HI456.out)) | exact HB.out)⟩⟩
      ·rw [if_neg c9] at H
       have c9b0 : decide (x7_1 < (l1.length : Int)) = false := decide_eq_false c9
       clear c9
       (first | rw [c9b0] | (simp only [i64_w, i32_w]; rw [c9b0]) | skip)
       have H' := Aside0.mk H
       clear H
       go_wp2
       go_meet
       case rel => exact ⟨_, (false), (by first | rfl | (simp; done) | (simp [*]; done)), H', ⟨by have := HK1.out; first | omega | exact Nat.le_refl _⟩, ⟨by repeat (first | (with_reducible first | exact HI456.out | apply IsS60.alloc | apply IsS60.drewN | apply IsS60.drew | apply IsS60.set_0 | apply IsS60.set_1 | apply IsS60.set_2 | apply IsS60.set_3 | apply IsS60.set_4 | apply IsS60.set_5 | apply IsS60.set_6 | apply IsS60.set_7) | exact HI456.out)⟩, ⟨by repeat (first | (with_reducible first | exact HB.out | apply below_alloc | apply pw_below_drewN | apply below_drew1 | refine below_set ?_ (IsS60.ge HI456.out)) | exact HB.out)⟩⟩
     case rest =>
      clear HC8
      try clear c1
      try clear c2
      try clear p2
      try clear c4
      try clear c4b0
      try clear c6
      try clear c6b0
      try clear c6b1
      try clear p6
      try clear c7
      try clear c9
      try clear c9b0
      try clear p2
      try clear p6
      obtain ⟨kq, x24_7, rfl, HA, HJ7, HI456, HB⟩ := hcut
      cases kq with
      | zero => exact absurd HA.out (by simp [flywheellaw17_TrendFlat.j1])
      | succ kj7 =>
       have H := HA.out
       clear HA
       simp only [flywheellaw17_TrendFlat.j1] at H
       by_cases c10 : x24_7 = true
       ·subst c10
        have H1 : (if 0 ≤ x7_1 then (if x7_1 < (l1.length : Int) then ((trend_Trend_Add.f kj7 x457000_1 x457001_1 x457002_1 x457003_1 x457004_1 x457005_1 x457006_1 x457007_1 (wrap64 (rd l1 x7_1)) (wrap64 (rd l1 x7_1))).bind fun bt460 => (if bt460.1 = 0 then (flywheellaw17_TrendFlat.l0 kj7 l1 (wrap64 (x7_1 + 1)) bt460.2.1 bt460.2.2.1 bt460.2.2.2.1 bt460.2.2.2.2.1 bt460.2.2.2.2.2.1 bt460.2.2.2.2.2.2.1 bt460.2.2.2.2.2.2.2.1 bt460.2.2.2.2.2.2.2.2) else (some false))) else (none)) else (none)) = some r := by rw [if_pos rfl] at H; exact H
        clear H
        have H := H1
        clear H1
        by_cases c11 : 0 ≤ x7_1
        ·rw [if_pos c11] at H
         have c11b0 : decide (0 ≤ x7_1) = true := decide_eq_true c11
         clear c11
         by_cases c12 : x7_1 < (l1.length : Int)
         ·rw [if_pos c12] at H
          have c12b0 : decide (x7_1 < (l1.length : Int)) = true := decide_eq_true c12
          clear c12
          replace H := Option.bind_eq_some_iff.mp H
          obtain ⟨⟨t460, t461, t462, t463, t464, t465, t466, t467, t468⟩, A130, H⟩ := H
          replace H : (if t460 = 0 then (flywheellaw17_TrendFlat.l0 kj7 l1 (wrap64 (x7_1 + 1)) t461 t462 t463 t464 t465 t466 t467 t468) else (some false)) = some r := H
          have A13 := Aside0.mk A130
          clear A130
          by_cases c14 : t460 = 0
          ·rw [if_pos c14] at H
           have c14b0 : (t460 == 0) = true := beq_iff_eq.mpr c14
           have c14b1 : (t460 != 0) = false := bne_eq_false_iff_eq.mpr c14
           clear c14
           have H' := Aside0.mk H
           clear H
           try go_wp2
           have n0_ := Aside0.mk (IsS60.drew HI456.out)
           have n1_ := Aside0.mk (below_drew1 HB.out)
           clear HI456
           clear HB
           have HI456 := n0_
           have HB := n1_
           clear n0_ n1_
           have p458 : 0 ≤ (x7_1 : Int) := of_decide_eq_true (by first | (with_reducible assumption) | assumption)
           have q458 : x7_1 < (l1.length : Int) := of_decide_eq_true (by first | (with_reducible assumption) | assumption)
           obtain ⟨ad458, e458, hx458_0⟩ := Kd.at_int HR1.out x7_1 p458 q458
           have hw458_0 := hx458_0
           cases e458
           replace hx458_0 := (HB.out.cell (World.block_lt_of_cell? w _ hx458_0)).trans hx458_0
           replace p458 := eq_true p458
           replace q458 := eq_true q458
           have p459 : 0 ≤ (x7_1 : Int) := of_decide_eq_true (by first | (with_reducible assumption) | assumption)
           have q459 : x7_1 < (l1.length : Int) := of_decide_eq_true (by first | (with_reducible assumption) | assumption)
           obtain ⟨ad459, e459, hx459_0⟩ := Kd.at_int HR1.out x7_1 p459 q459
           have hw459_0 := hx459_0
           obtain rfl : ad458 = ad459 := (by injection e459)
           replace hx459_0 := (HB.out.cell (World.block_lt_of_cell? w _ hx459_0)).trans hx459_0
           replace p459 := eq_true p459
           replace q459 := eq_true q459
           refine start_ (n := 13) (S := fun w' => w'.cell? (ad458.add (x7_1).toNat) = some (.int .u32 (rd l1 x7_1)) ∧ w'.cell? (ad458.add (x7_1).toNat) = some (.int .u32 (rd l1 x7_1))) (ds := []) #[false, false, false, false, false, false, false, false, false, false, false, false, false] (by kernel_rfl) rfl rfl ⟨((HB.out.cell (World.block_lt_of_cell? w _ hw458_0)).trans hw458_0), ((HB.out.cell (World.block_lt_of_cell? w _ hw459_0)).trans hw459_0)⟩ (fun hHeld => ?_); refine with_tabW flywheellaw17_TrendFlat.tab7 flywheellaw17_TrendFlat.bits7 (fun HT_ HW_ => ?_)
           generalize wc.drew = w15 at HI456 HB hx458_0 hx459_0 hHeld ⊢
           refine pure_ (i := 0) (N := some 27) (v := ?_) (a' := ?_) #[true, false, false, false, false, false, false, false, false, false, false, false, false] rfl rfl (any_of HT_.out (by kernel_rfl)) (fun _ _ _ h => h) (Or.inl ⟨by rfl, ?_⟩) ?_ ?_
           rotate_left
           ·intro w'
            go_simp
            with_reducible rfl
           rotate_left
           ·simp only [Act.put, List.setIfInBounds_toArray, List.set_cons_zero, List.set_cons_succ, i64_w, i32_w]
            rfl
           refine pure_ (i := 1) (N := some 28) (v := ?_) (a' := ?_) #[true, true, false, false, false, false, false, false, false, false, false, false, false] rfl rfl (any_of HT_.out (by kernel_rfl)) (fun _ _ _ h => h) (Or.inl ⟨by rfl, ?_⟩) ?_ ?_
           rotate_left
           ·intro w'
            go_simp
            with_reducible rfl
           rotate_left
           ·simp only [Act.put, List.setIfInBounds_toArray, List.set_cons_zero, List.set_cons_succ, i64_w, i32_w]
            rfl
           refine pure_ (i := 2) (N := some 29) (v := ?_) (a' := ?_) #[true, true, true, false, false, false, false, false, false, false, false, false, false] rfl rfl (any_of HT_.out (by kernel_rfl)) (fun _ _ _ h => h) (Or.inl ⟨by rfl, ?_⟩) ?_ ?_
           rotate_left
           ·intro w'
            go_simp
            with_reducible rfl
           rotate_left
           ·simp only [Act.put, List.setIfInBounds_toArray, List.set_cons_zero, List.set_cons_succ, i64_w, i32_w]
            rfl
           refine pure_ (i := 3) (N := some 30) (v := ?_) (a' := ?_) #[true, true, true, true, false, false, false, false, false, false, false, false, false] rfl rfl (any_of HT_.out (by kernel_rfl)) (fun _ _ _ h => h) (Or.inl ⟨by rfl, ?_⟩) ?_ ?_
           rotate_left
           ·intro w'
            go_simp
            with_reducible rfl
           rotate_left
           ·simp only [Act.put, List.setIfInBounds_toArray, List.set_cons_zero, List.set_cons_succ, i64_w, i32_w]
            rfl
           refine pure_ (i := 6) (N := some 33) (v := ?_) (a' := ?_) #[true, true, true, true, false, false, true, false, false, false, false, false, false] rfl rfl (any_of HT_.out (by kernel_rfl)) (fun _ _ _ h => h) (Or.inl ⟨by rfl, ?_⟩) ?_ ?_
           rotate_left
           ·intro w'
            go_simp
            with_reducible rfl
           rotate_left
           ·simp only [Act.put, List.setIfInBounds_toArray, List.set_cons_zero, List.set_cons_succ, i64_w, i32_w]
            rfl
           refine pure_ (i := 7) (N := some 34) (v := ?_) (a' := ?_) #[true, true, true, true, false, false, true, true, false, false, false, false, false] rfl rfl (any_of HT_.out (by kernel_rfl)) (fun _ _ _ h => h) (Or.inl ⟨by rfl, ?_⟩) ?_ ?_
           rotate_left
           ·intro w'
            go_simp
            with_reducible rfl
           rotate_left
           ·simp only [Act.put, List.setIfInBounds_toArray, List.set_cons_zero, List.set_cons_succ, i64_w, i32_w]
            rfl
           refine pure_ (i := 8) (N := some 35) (v := ?_) (a' := ?_) #[true, true, true, true, false, false, true, true, true, false, false, false, false] rfl rfl (any_of HT_.out (by kernel_rfl)) (fun _ _ _ h => h) (Or.inl ⟨by rfl, ?_⟩) ?_ ?_
           rotate_left
           ·intro w'
            go_simp
            with_reducible rfl
           rotate_left
           ·simp only [Act.put, List.setIfInBounds_toArray, List.set_cons_zero, List.set_cons_succ, i64_w, i32_w]
            rfl
           refine take_ (i := 4) (N := some 31) (v := ?_) (a' := ?_) #[true, true, true, true, true, false, true, true, true, false, false, false, false] rfl rfl (take_ofW HT_.out HW_.out (by kernel_rfl)) (fun _ _ _ h => h) (Or.inl ⟨by rfl, ?_⟩) hHeld ?_ ?_
           rotate_left
           ·rintro w' ⟨s0, s1⟩
            go_simp
            with_reducible rfl
           rotate_left
           ·simp only [Act.put, List.setIfInBounds_toArray, List.set_cons_zero, List.set_cons_succ, i64_w, i32_w]
            rfl
           refine pure_ (i := 5) (N := some 32) (v := ?_) (a' := ?_) #[true, true, true, true, true, true, true, true, true, false, false, false, false] rfl rfl (any_of HT_.out (by kernel_rfl)) (fun _ _ _ h => h) (Or.inl ⟨by rfl, ?_⟩) ?_ ?_
           rotate_left
           ·intro w'
            go_simp
            with_reducible rfl
           rotate_left
           ·simp only [Act.put, List.setIfInBounds_toArray, List.set_cons_zero, List.set_cons_succ, i64_w, i32_w]
            rfl
           refine take_ (i := 9) (N := some 36) (v := ?_) (a' := ?_) #[true, true, true, true, true, true, true, true, true, true, false, false, false] rfl rfl (take_ofW HT_.out HW_.out (by kernel_rfl)) (fun _ _ _ h => h) (Or.inl ⟨by rfl, ?_⟩) hHeld ?_ ?_
           rotate_left
           ·rintro w' ⟨s0, s1⟩
            go_simp
            with_reducible rfl
           rotate_left
           ·simp only [Act.put, List.setIfInBounds_toArray, List.set_cons_zero, List.set_cons_succ, i64_w, i32_w]
            rfl
           refine pure_ (i := 10) (N := some 37) (v := ?_) (a' := ?_) #[true, true, true, true, true, true, true, true, true, true, true, false, false] rfl rfl (any_of HT_.out (by kernel_rfl)) (fun _ _ _ h => h) (Or.inl ⟨by rfl, ?_⟩) ?_ ?_
           rotate_left
           ·intro w'
            go_simp
            with_reducible rfl
           rotate_left
           ·simp only [Act.put, List.setIfInBounds_toArray, List.set_cons_zero, List.set_cons_succ, i64_w, i32_w]
            rfl
           refine one_ (i := 11) (N := some 38) #[true, true, true, true, true, true, true, true, true, true, true, true, false] rfl rfl (one_of HT_.out (by kernel_rfl)) (by decide) (fun K hK => ?_)
           refine goes_ Try.func16 (by kernel_rfl) rfl #[.pointer (some ⟨g456, 0, none⟩), .int .i64 (wrap64 (rd l1 x7_1)), .int .i64 (wrap64 (rd l1 x7_1))] (by rfl) rfl rfl (by (try simp only [List.map_toArray, List.map_cons, List.map_nil]); first | done | rfl | (simp only [List.length_drop, List.length_take]; rfl)) ?_
           with_reducible refine (trend_Trend_Add.calls kj7 g456 x457000_1 x457001_1 x457002_1 x457003_1 x457004_1 x457005_1 x457006_1 x457007_1 (wrap64 (rd l1 x7_1)) (wrap64 (rd l1 x7_1)) t460 t461 t462 t463 t464 t465 t466 t467 t468 w _ ?side1 ?side2 A13.out).mono ?_
           (case side1 => repeat (first | (with_reducible first | exact HI456.out | apply IsS60.alloc | apply IsS60.drewN | apply IsS60.drew | apply IsS60.set_0 | apply IsS60.set_1 | apply IsS60.set_2 | apply IsS60.set_3 | apply IsS60.set_4 | apply IsS60.set_5 | apply IsS60.set_6 | apply IsS60.set_7) | exact HI456.out))
           (case side2 => repeat (first | (with_reducible first | exact HB.out | apply below_alloc | apply pw_below_drewN | apply below_drew1 | refine below_set ?_ (IsS60.ge HI456.out)) | exact HB.out))
           rintro e w16 ⟨rfl, hi, hb, hk⟩
           refine ⟨_, rfl, ?_⟩
           have n0_ := Aside0.mk (hb)
           have n1_ := Aside0.mk (hi)
           clear HB
           clear HI456
           have HB := n0_
           have HI456 := n1_
           clear n0_ n1_
           (try clear hb)
           (try clear hb2)
           (try clear hk)
           (try clear hi)
           refine hK.out _ _ ⟨((HB.out.cell (World.block_lt_of_cell? w _ hw458_0)).trans hw458_0), ((HB.out.cell (World.block_lt_of_cell? w _ hw459_0)).trans hw459_0)⟩ (fun hHeld => ?_)
           clear hK K
           refine norm_ (a' := ?_) ?_ ?_
           rotate_left
           ·show Act.put _ (some 38) _ = _
            simp only [Act.put, List.setIfInBounds_toArray, List.set_cons_zero, List.set_cons_succ, i64_w, i32_w]
            rfl
           refine pure_ (i := 12) (N := some 39) (v := ?_) (a' := ?_) #[true, true, true, true, true, true, true, true, true, true, true, true, true] rfl rfl (any_of HT_.out (by kernel_rfl)) (fun _ _ _ h => h) (Or.inl ⟨by rfl, ?_⟩) ?_ ?_
           rotate_left
           ·intro w'
            go_simp
            with_reducible rfl
           rotate_left
           ·simp only [Act.put, List.setIfInBounds_toArray, List.set_cons_zero, List.set_cons_succ, i64_w, i32_w]
            rfl
           refine done_ (done_of HT_.out (by kernel_rfl)) ?_
           try go_wp2
           go_roundg kj7
           case measure => have := HK1.out; have := HJ7.out; omega
           case rel => exact ⟨(wrap64 (x7_1 + 1)), (t461), (t462), (t463), (t464), (t465), (t466), (t467), (t468), (.bool true), (.bool true), (by first | rfl | (simp; done) | (simp [*]; done)), H', ⟨by have := HK1.out; have := HJ7.out; omega⟩, ⟨by repeat (first | (with_reducible first | exact HI456.out | apply IsS60.alloc | apply IsS60.drewN | apply IsS60.drew | apply IsS60.set_0 | apply IsS60.set_1 | apply IsS60.set_2 | apply IsS60.set_3 | apply IsS60.set_4 | apply IsS60.set_5 | apply IsS60.set_6 | apply IsS60.set_7) | exact HI456.out)⟩, ⟨by repeat (first | (with_reducible first | exact HB.out | apply below_alloc | apply pw_below_drewN | apply below_drew1 | refine below_set ?_ (IsS60.ge HI456.out)) | exact HB.out)⟩⟩
          ·rw [if_neg c14] at H
           have c14b0 : (t460 == 0) = false := beq_eq_false_iff_ne.mpr c14
           have c14b1 : (t460 != 0) = true := bne_iff_ne.mpr c14
           obtain rfl := Option.some.inj H
           try go_wp2
           have n0_ := Aside0.mk (IsS60.drew HI456.out)
           have n1_ := Aside0.mk (below_drew1 HB.out)
           clear HI456
           clear HB
           have HI456 := n0_
           have HB := n1_
           clear n0_ n1_
           have p458 : 0 ≤ (x7_1 : Int) := of_decide_eq_true (by first | (with_reducible assumption) | assumption)
           have q458 : x7_1 < (l1.length : Int) := of_decide_eq_true (by first | (with_reducible assumption) | assumption)
           obtain ⟨ad458, e458, hx458_0⟩ := Kd.at_int HR1.out x7_1 p458 q458
           have hw458_0 := hx458_0
           cases e458
           replace hx458_0 := (HB.out.cell (World.block_lt_of_cell? w _ hx458_0)).trans hx458_0
           replace p458 := eq_true p458
           replace q458 := eq_true q458
           have p459 : 0 ≤ (x7_1 : Int) := of_decide_eq_true (by first | (with_reducible assumption) | assumption)
           have q459 : x7_1 < (l1.length : Int) := of_decide_eq_true (by first | (with_reducible assumption) | assumption)
           obtain ⟨ad459, e459, hx459_0⟩ := Kd.at_int HR1.out x7_1 p459 q459
           have hw459_0 := hx459_0
           obtain rfl : ad458 = ad459 := (by injection e459)
           replace hx459_0 := (HB.out.cell (World.block_lt_of_cell? w _ hx459_0)).trans hx459_0
           replace p459 := eq_true p459
           replace q459 := eq_true q459
           refine start_ (n := 13) (S := fun w' => w'.cell? (ad458.add (x7_1).toNat) = some (.int .u32 (rd l1 x7_1)) ∧ w'.cell? (ad458.add (x7_1).toNat) = some (.int .u32 (rd l1 x7_1))) (ds := []) #[false, false, false, false, false, false, false, false, false, false, false, false, false] (by kernel_rfl) rfl rfl ⟨((HB.out.cell (World.block_lt_of_cell? w _ hw458_0)).trans hw458_0), ((HB.out.cell (World.block_lt_of_cell? w _ hw459_0)).trans hw459_0)⟩ (fun hHeld => ?_); refine with_tabW flywheellaw17_TrendFlat.tab7 flywheellaw17_TrendFlat.bits7 (fun HT_ HW_ => ?_)
           generalize wc.drew = w17 at HI456 HB hx458_0 hx459_0 hHeld ⊢
           refine pure_ (i := 0) (N := some 27) (v := ?_) (a' := ?_) #[true, false, false, false, false, false, false, false, false, false, false, false, false] rfl rfl (any_of HT_.out (by kernel_rfl)) (fun _ _ _ h => h) (Or.inl ⟨by rfl, ?_⟩) ?_ ?_
           rotate_left
           ·intro w'
            go_simp
            with_reducible rfl
           rotate_left
           ·simp only [Act.put, List.setIfInBounds_toArray, List.set_cons_zero, List.set_cons_succ, i64_w, i32_w]
            rfl
           refine pure_ (i := 1) (N := some 28) (v := ?_) (a' := ?_) #[true, true, false, false, false, false, false, false, false, false, false, false, false] rfl rfl (any_of HT_.out (by kernel_rfl)) (fun _ _ _ h => h) (Or.inl ⟨by rfl, ?_⟩) ?_ ?_
           rotate_left
           ·intro w'
            go_simp
            with_reducible rfl
           rotate_left
           ·simp only [Act.put, List.setIfInBounds_toArray, List.set_cons_zero, List.set_cons_succ, i64_w, i32_w]
            rfl
           refine pure_ (i := 2) (N := some 29) (v := ?_) (a' := ?_) #[true, true, true, false, false, false, false, false, false, false, false, false, false] rfl rfl (any_of HT_.out (by kernel_rfl)) (fun _ _ _ h => h) (Or.inl ⟨by rfl, ?_⟩) ?_ ?_
           rotate_left
           ·intro w'
            go_simp
            with_reducible rfl
           rotate_left
           ·simp only [Act.put, List.setIfInBounds_toArray, List.set_cons_zero, List.set_cons_succ, i64_w, i32_w]
            rfl
           refine pure_ (i := 3) (N := some 30) (v := ?_) (a' := ?_) #[true, true, true, true, false, false, false, false, false, false, false, false, false] rfl rfl (any_of HT_.out (by kernel_rfl)) (fun _ _ _ h => h) (Or.inl ⟨by rfl, ?_⟩) ?_ ?_
           rotate_left
           ·intro w'
            go_simp
            with_reducible rfl
           rotate_left
           ·simp only [Act.put, List.setIfInBounds_toArray, List.set_cons_zero, List.set_cons_succ, i64_w, i32_w]
            rfl
           refine pure_ (i := 6) (N := some 33) (v := ?_) (a' := ?_) #[true, true, true, true, false, false, true, false, false, false, false, false, false] rfl rfl (any_of HT_.out (by kernel_rfl)) (fun _ _ _ h => h) (Or.inl ⟨by rfl, ?_⟩) ?_ ?_
           rotate_left
           ·intro w'
            go_simp
            with_reducible rfl
           rotate_left
           ·simp only [Act.put, List.setIfInBounds_toArray, List.set_cons_zero, List.set_cons_succ, i64_w, i32_w]
            rfl
           refine pure_ (i := 7) (N := some 34) (v := ?_) (a' := ?_) #[true, true, true, true, false, false, true, true, false, false, false, false, false] rfl rfl (any_of HT_.out (by kernel_rfl)) (fun _ _ _ h => h) (Or.inl ⟨by rfl, ?_⟩) ?_ ?_
           rotate_left
           ·intro w'
            go_simp
            with_reducible rfl
           rotate_left
           ·simp only [Act.put, List.setIfInBounds_toArray, List.set_cons_zero, List.set_cons_succ, i64_w, i32_w]
            rfl
           refine pure_ (i := 8) (N := some 35) (v := ?_) (a' := ?_) #[true, true, true, true, false, false, true, true, true, false, false, false, false] rfl rfl (any_of HT_.out (by kernel_rfl)) (fun _ _ _ h => h) (Or.inl ⟨by rfl, ?_⟩) ?_ ?_
           rotate_left
           ·intro w'
            go_simp
            with_reducible rfl
           rotate_left
           ·simp only [Act.put, List.setIfInBounds_toArray, List.set_cons_zero, List.set_cons_succ, i64_w, i32_w]
            rfl
           refine take_ (i := 4) (N := some 31) (v := ?_) (a' := ?_) #[true, true, true, true, true, false, true, true, true, false, false, false, false] rfl rfl (take_ofW HT_.out HW_.out (by kernel_rfl)) (fun _ _ _ h => h) (Or.inl ⟨by rfl, ?_⟩) hHeld ?_ ?_
           rotate_left
           ·rintro w' ⟨s0, s1⟩
            go_simp
            with_reducible rfl
           rotate_left
           ·simp only [Act.put, List.setIfInBounds_toArray, List.set_cons_zero, List.set_cons_succ, i64_w, i32_w]
            rfl
           refine pure_ (i := 5) (N := some 32) (v := ?_) (a' := ?_) #[true, true, true, true, true, true, true, true, true, false, false, false, false] rfl rfl (any_of HT_.out (by kernel_rfl)) (fun _ _ _ h => h) (Or.inl ⟨by rfl, ?_⟩) ?_ ?_
           rotate_left
           ·intro w'
            go_simp
            with_reducible rfl
           rotate_left
           ·simp only [Act.put, List.setIfInBounds_toArray, List.set_cons_zero, List.set_cons_succ, i64_w, i32_w]
            rfl
           refine take_ (i := 9) (N := some 36) (v := ?_) (a' := ?_) #[true, true, true, true, true, true, true, true, true, true, false, false, false] rfl rfl (take_ofW HT_.out HW_.out (by kernel_rfl)) (fun _ _ _ h => h) (Or.inl ⟨by rfl, ?_⟩) hHeld ?_ ?_
           rotate_left
           ·rintro w' ⟨s0, s1⟩
            go_simp
            with_reducible rfl
           rotate_left
           ·simp only [Act.put, List.setIfInBounds_toArray, List.set_cons_zero, List.set_cons_succ, i64_w, i32_w]
            rfl
           refine pure_ (i := 10) (N := some 37) (v := ?_) (a' := ?_) #[true, true, true, true, true, true, true, true, true, true, true, false, false] rfl rfl (any_of HT_.out (by kernel_rfl)) (fun _ _ _ h => h) (Or.inl ⟨by rfl, ?_⟩) ?_ ?_
           rotate_left
           ·intro w'
            go_simp
            with_reducible rfl
           rotate_left
           ·simp only [Act.put, List.setIfInBounds_toArray, List.set_cons_zero, List.set_cons_succ, i64_w, i32_w]
            rfl
           refine one_ (i := 11) (N := some 38) #[true, true, true, true, true, true, true, true, true, true, true, true, false] rfl rfl (one_of HT_.out (by kernel_rfl)) (by decide) (fun K hK => ?_)
           refine goes_ Try.func16 (by kernel_rfl) rfl #[.pointer (some ⟨g456, 0, none⟩), .int .i64 (wrap64 (rd l1 x7_1)), .int .i64 (wrap64 (rd l1 x7_1))] (by rfl) rfl rfl (by (try simp only [List.map_toArray, List.map_cons, List.map_nil]); first | done | rfl | (simp only [List.length_drop, List.length_take]; rfl)) ?_
           with_reducible refine (trend_Trend_Add.calls kj7 g456 x457000_1 x457001_1 x457002_1 x457003_1 x457004_1 x457005_1 x457006_1 x457007_1 (wrap64 (rd l1 x7_1)) (wrap64 (rd l1 x7_1)) t460 t461 t462 t463 t464 t465 t466 t467 t468 w _ ?side1 ?side2 A13.out).mono ?_
           (case side1 => repeat (first | (with_reducible first | exact HI456.out | apply IsS60.alloc | apply IsS60.drewN | apply IsS60.drew | apply IsS60.set_0 | apply IsS60.set_1 | apply IsS60.set_2 | apply IsS60.set_3 | apply IsS60.set_4 | apply IsS60.set_5 | apply IsS60.set_6 | apply IsS60.set_7) | exact HI456.out))
           (case side2 => repeat (first | (with_reducible first | exact HB.out | apply below_alloc | apply pw_below_drewN | apply below_drew1 | refine below_set ?_ (IsS60.ge HI456.out)) | exact HB.out))
           rintro e w18 ⟨rfl, hi, hb, hk⟩
           refine ⟨_, rfl, ?_⟩
           have n0_ := Aside0.mk (hb)
           have n1_ := Aside0.mk (hi)
           clear HB
           clear HI456
           have HB := n0_
           have HI456 := n1_
           clear n0_ n1_
           (try clear hb)
           (try clear hb2)
           (try clear hk)
           (try clear hi)
           refine hK.out _ _ ⟨((HB.out.cell (World.block_lt_of_cell? w _ hw458_0)).trans hw458_0), ((HB.out.cell (World.block_lt_of_cell? w _ hw459_0)).trans hw459_0)⟩ (fun hHeld => ?_)
           clear hK K
           refine norm_ (a' := ?_) ?_ ?_
           rotate_left
           ·show Act.put _ (some 38) _ = _
            simp only [Act.put, List.setIfInBounds_toArray, List.set_cons_zero, List.set_cons_succ, i64_w, i32_w]
            rfl
           refine pure_ (i := 12) (N := some 39) (v := ?_) (a' := ?_) #[true, true, true, true, true, true, true, true, true, true, true, true, true] rfl rfl (any_of HT_.out (by kernel_rfl)) (fun _ _ _ h => h) (Or.inl ⟨by rfl, ?_⟩) ?_ ?_
           rotate_left
           ·intro w'
            go_simp
            with_reducible rfl
           rotate_left
           ·simp only [Act.put, List.setIfInBounds_toArray, List.set_cons_zero, List.set_cons_succ, i64_w, i32_w]
            rfl
           refine done_ (done_of HT_.out (by kernel_rfl)) ?_
           try go_wp2
           go_ret
           exact ⟨by first | rfl | (simp [errW_none, errW_some] <;> rfl) | (simp [*, errW_none, errW_some] <;> rfl), by repeat (first | (with_reducible first | exact HB.out | apply below_alloc | apply pw_below_drewN | apply below_drew1 | refine below_set ?_ (IsS60.ge HI456.out)) | exact HB.out)⟩
         ·rw [if_neg c12] at H
          exact absurd H (by simp)
        ·rw [if_neg c11] at H
         exact absurd H (by simp)
       ·replace c10 := Bool.eq_false_iff.mpr c10
        subst c10
        have H1 : ((trend_Trend_Count.f x457000_1 x457001_1 x457002_1 x457003_1 x457004_1 x457005_1 x457006_1 x457007_1).bind fun bt469 => (if bt469.1 = (mn (l1.length : Int) 100) then ((flywheellaw17_wakes.f kj7).bind fun t478 => (some t478)) else (some false))) = some r := by rw [if_neg (show ¬ (false = true) by decide)] at H; exact H
        clear H
        have H := H1
        clear H1
        replace H := Option.bind_eq_some_iff.mp H
        obtain ⟨⟨t469, t470, t471, t472, t473, t474, t475, t476, t477⟩, A190, H⟩ := H
        replace H : (if t469 = (mn (l1.length : Int) 100) then ((flywheellaw17_wakes.f kj7).bind fun t478 => (some t478)) else (some false)) = some r := H
        have A19 := Aside0.mk A190
        clear A190
        obtain ⟨ji20, hji20⟩ : ∃ j_ : Int, (mn (l1.length : Int) 100) = j_ := ⟨_, rfl⟩
        replace H : (if t469 = (ji20) then ((flywheellaw17_wakes.f kj7).bind fun t478 => (some t478)) else (some false)) = some r := by first | (rw [hji20] at H; exact H) | (simp only [hji20] at H ⊢; exact H)
        (try rw [hji20] at A19)
        have hji20_ : (if 100 < (l1.length : Int) then 100 else (l1.length : Int)) = ji20 := hji20
        by_cases c21 : t469 = (ji20)
        ·rw [if_pos c21] at H
         have c21b0 : (t469 == (ji20)) = true := beq_iff_eq.mpr c21
         have c21b1 : (t469 != (ji20)) = false := bne_eq_false_iff_eq.mpr c21
         clear c21
         replace H := Option.bind_eq_some_iff.mp H
         obtain ⟨t478, A220, H⟩ := H
         replace H : (some t478) = some r := H
         have A22 := Aside0.mk A220
         clear A220
         obtain rfl := Option.some.inj H
         go_wp2_with (first | ((with_reducible refine gate_callee (f := 20) rfl ?_); refine goesL_ (some 41) rfl rfl Try.func20 (by kernel_rfl) rfl #[.pointer (some ⟨g456, 0, none⟩)] rfl (by (try simp only [List.map_toArray, List.map_cons, List.map_nil]); first | done | rfl | (simp only [List.length_drop, List.length_take]; rfl)) ?_; (with_reducible refine (trend_Trend_Count.calls g456 x457000_1 x457001_1 x457002_1 x457003_1 x457004_1 x457005_1 x457006_1 x457007_1 t469 t470 t471 t472 t473 t474 t475 t476 t477 w _ ?side1 ?side2 A19.out).mono ?_); (case side1 => repeat (first | (with_reducible first | exact HI456.out | apply IsS60.alloc | apply IsS60.drewN | apply IsS60.drew | apply IsS60.set_0 | apply IsS60.set_1 | apply IsS60.set_2 | apply IsS60.set_3 | apply IsS60.set_4 | apply IsS60.set_5 | apply IsS60.set_6 | apply IsS60.set_7) | exact HI456.out)); (case side2 => repeat (first | (with_reducible first | exact HB.out | apply below_alloc | apply pw_below_drewN | apply below_drew1 | refine below_set ?_ (IsS60.ge HI456.out)) | exact HB.out)); rintro e w23 ⟨rfl, hi, hb, hk⟩; refine ⟨_, rfl, ?_⟩; have n0_ := Aside0.mk (hb); have n1_ := Aside0.mk (hi); clear HB; clear HI456; have HB := n0_; have HI456 := n1_; clear n0_ n1_; (try clear hb); (try clear hb2); (try clear hk); (try clear hi)) | (go_at_call 10; (with_reducible refine (flywheellaw17_wakes.calls kj7  t478 _ A22.out).mono ?_); rintro e w24 ⟨rfl, hb⟩; have n0_ := Aside0.mk (IsS60.below (by repeat (first | (with_reducible first | exact HI456.out | apply IsS60.alloc | apply IsS60.drewN | apply IsS60.drew | apply IsS60.set_0 | apply IsS60.set_1 | apply IsS60.set_2 | apply IsS60.set_3 | apply IsS60.set_4 | apply IsS60.set_5 | apply IsS60.set_6 | apply IsS60.set_7) | exact HI456.out)) hb); have n1_ := Aside0.mk (below_step (by repeat (first | (with_reducible first | exact HB.out | apply below_alloc | apply pw_below_drewN | apply below_drew1 | refine below_set ?_ (IsS60.ge HI456.out)) | exact HB.out)) hb); clear HI456; clear HB; have HI456 := n0_; have HB := n1_; clear n0_ n1_; (try clear hb); (try clear hb2); (try clear hk); (try clear hi)))
         go_ret
         exact ⟨by first | rfl | (simp [errW_none, errW_some] <;> rfl) | (simp only [← hji20]; first | rfl | (simp [errW_none, errW_some] <;> rfl)) | (simp [*, errW_none, errW_some] <;> rfl), by repeat (first | (with_reducible first | exact HB.out | apply below_alloc | apply pw_below_drewN | apply below_drew1 | refine below_set ?_ (IsS60.ge HI456.out)) | exact HB.out)⟩
        ·rw [if_neg c21] at H
         have c21b0 : (t469 == (ji20)) = false := beq_eq_false_iff_ne.mpr c21
         have c21b1 : (t469 != (ji20)) = true := bne_iff_ne.mpr c21
         obtain rfl := Option.some.inj H
         go_wp2_with (first | ((with_reducible refine gate_callee (f := 20) rfl ?_); refine goesL_ (some 41) rfl rfl Try.func20 (by kernel_rfl) rfl #[.pointer (some ⟨g456, 0, none⟩)] rfl (by (try simp only [List.map_toArray, List.map_cons, List.map_nil]); first | done | rfl | (simp only [List.length_drop, List.length_take]; rfl)) ?_; (with_reducible refine (trend_Trend_Count.calls g456 x457000_1 x457001_1 x457002_1 x457003_1 x457004_1 x457005_1 x457006_1 x457007_1 t469 t470 t471 t472 t473 t474 t475 t476 t477 w _ ?side1 ?side2 A19.out).mono ?_); (case side1 => repeat (first | (with_reducible first | exact HI456.out | apply IsS60.alloc | apply IsS60.drewN | apply IsS60.drew | apply IsS60.set_0 | apply IsS60.set_1 | apply IsS60.set_2 | apply IsS60.set_3 | apply IsS60.set_4 | apply IsS60.set_5 | apply IsS60.set_6 | apply IsS60.set_7) | exact HI456.out)); (case side2 => repeat (first | (with_reducible first | exact HB.out | apply below_alloc | apply pw_below_drewN | apply below_drew1 | refine below_set ?_ (IsS60.ge HI456.out)) | exact HB.out)); rintro e w25 ⟨rfl, hi, hb, hk⟩; refine ⟨_, rfl, ?_⟩; have n0_ := Aside0.mk (hb); have n1_ := Aside0.mk (hi); clear HB; clear HI456; have HB := n0_; have HI456 := n1_; clear n0_ n1_; (try clear hb); (try clear hb2); (try clear hk); (try clear hi)))
         go_ret
         exact ⟨by first | rfl | (simp [errW_none, errW_some] <;> rfl) | (simp only [← hji20]; first | rfl | (simp [errW_none, errW_some] <;> rfl)) | (simp [*, errW_none, errW_some] <;> rfl), by repeat (first | (with_reducible first | exact HB.out | apply below_alloc | apply pw_below_drewN | apply below_drew1 | refine below_set ?_ (IsS60.ge HI456.out)) | exact HB.out)⟩
  ·rw [if_neg c6] at H
   have c6b0 : (t457 == 0) = false := beq_eq_false_iff_ne.mpr c6
   have c6b1 : (t457 != 0) = true := bne_iff_ne.mpr c6
   obtain rfl := Option.some.inj H
   go_enter Try.func7, Try.ntmps7
   go_wp2_with (first | ((with_reducible refine gate_callee (f := 23) rfl ?_); refine goesL_ (some 10) rfl rfl Try.func23 (by kernel_rfl) rfl #[.int .i64 a0, .int .i64 63] rfl (by (try simp only [List.map_toArray, List.map_cons, List.map_nil]); first | done | rfl | (simp only [List.length_drop, List.length_take]; rfl)) ?_; (with_reducible refine (flywheelkeep_Mod.calls a0 63 t447 _ A3.out).mono ?_); rintro e w' ⟨rfl, ⟨nd, rfl⟩⟩; refine ⟨_, rfl, ?_⟩) | ((with_reducible refine gate_callee (f := 14) rfl ?_); refine goesL_ (some 12) rfl rfl Try.func14 (by kernel_rfl) rfl #[.int .i64 (wrap64 (2 + t447)), .int .i64 3865470566] rfl (by (try simp only [List.map_toArray, List.map_cons, List.map_nil]); first | done | rfl | (simp only [List.length_drop, List.length_take]; rfl)) ?_; (with_reducible refine (trend_New.made.calls (wrap64 (2 + t447)) 3865470566 t448 t449 t450 t451 t452 t453 t454 t455 t457 w _ ?side1 A5.out).mono ?_); (case side1 => repeat (first | (with_reducible first | exact HB.out | apply below_alloc | apply pw_below_drewN | apply below_drew1) | exact HB.out)); rintro e w26 ⟨g456, rfl, hi, hb, hb2⟩; refine ⟨_, rfl, ?_⟩; have n0_ := Aside0.mk (hb); have n1_ := Aside0.mk (hi); clear HB; have HB := n0_; have HI456 := n1_; clear n0_ n1_; (try clear hb); (try clear hb2); (try clear hk); (try clear hi)))
   go_ret
   exact ⟨by first | rfl | (simp [errW_none, errW_some] <;> rfl) | (simp [*, errW_none, errW_some] <;> rfl), by repeat (first | (with_reducible first | exact HB.out | apply below_alloc | apply pw_below_drewN | apply below_drew1 | refine below_set ?_ (IsS60.ge HI456.out)) | exact HB.out)⟩
 ·rw [if_neg c4] at H
  have c4b0 : (trend_New.made.f (wrap64 (2 + t447)) 3865470566).isSome = false := by simpa using c4
  clear c4
  replace H := Option.bind_eq_some_iff.mp H
  obtain ⟨t479, A270, H⟩ := H
  replace H : (if t479 = 0 then (flywheellaw17_TrendFlat.l5000 k l1 0) else (some false)) = some r := H
  have A27 := Aside0.mk A270
  clear A270
  by_cases c28 : t479 = 0
  ·rw [if_pos c28] at H
   have c28b0 : (t479 == 0) = true := beq_iff_eq.mpr c28
   have c28b1 : (t479 != 0) = false := bne_eq_false_iff_eq.mpr c28
   clear c28
   have H' := Aside0.mk H
   clear H
   go_enter Try.func7, Try.ntmps7
   go_wp2_with (first | ((with_reducible refine gate_callee (f := 23) rfl ?_); refine goesL_ (some 10) rfl rfl Try.func23 (by kernel_rfl) rfl #[.int .i64 a0, .int .i64 63] rfl (by (try simp only [List.map_toArray, List.map_cons, List.map_nil]); first | done | rfl | (simp only [List.length_drop, List.length_take]; rfl)) ?_; (with_reducible refine (flywheelkeep_Mod.calls a0 63 t447 _ A3.out).mono ?_); rintro e w' ⟨rfl, ⟨nd, rfl⟩⟩; refine ⟨_, rfl, ?_⟩) | ((with_reducible refine gate_callee (f := 14) rfl ?_); refine goesL_ (some 12) rfl rfl Try.func14 (by kernel_rfl) rfl #[.int .i64 (wrap64 (2 + t447)), .int .i64 3865470566] rfl (by (try simp only [List.map_toArray, List.map_cons, List.map_nil]); first | done | rfl | (simp only [List.length_drop, List.length_take]; rfl)) ?_; (with_reducible refine (trend_New.nil.calls (wrap64 (2 + t447)) 3865470566 t479 _ A27.out).mono ?_); rintro e w29 ⟨rfl, hb⟩; refine ⟨_, rfl, ?_⟩; have n0_ := Aside0.mk (below_step (by repeat (first | (with_reducible first | exact HB.out | apply below_alloc | apply pw_below_drewN | apply below_drew1) | exact HB.out)) hb); clear HB; have HB := n0_; clear n0_; (try clear hb); (try clear hb2); (try clear hk); (try clear hi)))
   go_loopg [7] k (fun kq v7 w' => ∃ (x7_1 : Int), v7 = .int .i64 x7_1 ∧ Aside0 (flywheellaw17_TrendFlat.l5000 kq l1 x7_1 = some r) ∧ Aside0 (kq ≤ k) ∧ Aside0 (Below w.heap.size w w'))
   case atStart => exact ⟨(0), (by first | rfl | (simp; done) | (simp [*]; done)), H', ⟨Nat.le_refl _⟩, ⟨by repeat (first | (with_reducible first | exact HB.out | apply below_alloc | apply pw_below_drewN | apply below_drew1) | exact HB.out)⟩⟩
   case round =>
    clear H'
    try clear c1
    try clear c2
    try clear p2
    try clear c4
    try clear c4b0
    try clear p4
    try clear q4
    try clear hx4
    try clear c6
    try clear c6b0
    try clear c6b1
    try clear p6
    try clear c7
    try clear c9
    try clear c9b0
    try clear c10
    try clear c11
    try clear c11b0
    try clear c12
    try clear c12b0
    try clear c14
    try clear c14b0
    try clear c14b1
    try clear c16
    try clear c20
    try clear c21
    try clear c21b0
    try clear c21b1
    try clear c23
    try clear c28
    try clear c28b0
    try clear c28b1
    try clear hx458_0
    try clear hx459_0
    try clear p2
    try clear p458
    try clear p459
    try clear p6
    try clear q458
    try clear q459
    obtain ⟨x7_1, rfl, HA, HK1, HB⟩ := hrel
    cases gk with
    | zero => exact absurd HA.out (by simp [flywheellaw17_TrendFlat.l5000])
    | succ k1 =>
     have H := HA.out
     clear HA
     simp only [flywheellaw17_TrendFlat.l5000] at H
     have HC30 := Aside0.mk H
     clear H
     go_upto_region 5 with (fail)
     go_cut [24] (fun v24 wc => ∃ (kq : Nat) (x24_29 : Bool), v24 = .bool x24_29 ∧ Aside0 (flywheellaw17_TrendFlat.j3 kq l1 x7_1 x24_29 = some r) ∧ Aside0 (kq ≤ k1) ∧ Aside0 (Below w.heap.size w wc))
     case first =>
      have H := HC30.out
      clear HC30
      by_cases c31 : x7_1 < (l1.length : Int)
      ·rw [if_pos c31] at H
       have c31b0 : decide (x7_1 < (l1.length : Int)) = true := decide_eq_true c31
       clear c31
       (first | rw [c31b0] | (simp only [i64_w, i32_w]; rw [c31b0]) | skip)
       have H' := Aside0.mk H
       clear H
       go_wp2
       go_meet
       case rel => exact ⟨_, (decide (x7_1 < 100)), (by first | rfl | (simp; done) | (simp [*]; done)), H', ⟨by have := HK1.out; first | omega | exact Nat.le_refl _⟩, ⟨by repeat (first | (with_reducible first | exact HB.out | apply below_alloc | apply pw_below_drewN | apply below_drew1) | exact HB.out)⟩⟩
      ·rw [if_neg c31] at H
       have c31b0 : decide (x7_1 < (l1.length : Int)) = false := decide_eq_false c31
       clear c31
       (first | rw [c31b0] | (simp only [i64_w, i32_w]; rw [c31b0]) | skip)
       have H' := Aside0.mk H
       clear H
       go_wp2
       go_meet
       case rel => exact ⟨_, (false), (by first | rfl | (simp; done) | (simp [*]; done)), H', ⟨by have := HK1.out; first | omega | exact Nat.le_refl _⟩, ⟨by repeat (first | (with_reducible first | exact HB.out | apply below_alloc | apply pw_below_drewN | apply below_drew1) | exact HB.out)⟩⟩
     case rest =>
      clear HC30
      try clear c1
      try clear c2
      try clear p2
      try clear c3
      try clear c4
      try clear c4b0
      try clear p4
      try clear q4
      try clear hx4
      try clear c6
      try clear c6b0
      try clear c6b1
      try clear p6
      try clear c7
      try clear c9
      try clear c9b0
      try clear c10
      try clear c11
      try clear c11b0
      try clear c12
      try clear c12b0
      try clear c14
      try clear c14b0
      try clear c14b1
      try clear c16
      try clear c20
      try clear c21
      try clear c21b0
      try clear c21b1
      try clear c23
      try clear c28
      try clear c28b0
      try clear c28b1
      try clear c31
      try clear c31b0
      try clear hx458_0
      try clear hx459_0
      try clear p2
      try clear p4
      try clear p458
      try clear p459
      try clear p6
      try clear q4
      try clear q458
      try clear q459
      obtain ⟨kq, x24_29, rfl, HA, HJ29, HB⟩ := hcut
      cases kq with
      | zero => exact absurd HA.out (by simp [flywheellaw17_TrendFlat.j3])
      | succ kj29 =>
       have H := HA.out
       clear HA
       simp only [flywheellaw17_TrendFlat.j3] at H
       by_cases c32 : x24_29 = true
       ·subst c32
        have H1 : (if 0 ≤ x7_1 then (if x7_1 < (l1.length : Int) then (none) else (none)) else (none)) = some r := by rw [if_pos rfl] at H; exact H
        clear H
        have H := H1
        clear H1
        by_cases c33 : 0 ≤ x7_1
        ·rw [if_pos c33] at H
         have c33b0 : decide (0 ≤ x7_1) = true := decide_eq_true c33
         clear c33
         by_cases c34 : x7_1 < (l1.length : Int)
         ·rw [if_pos c34] at H
          have c34b0 : decide (x7_1 < (l1.length : Int)) = true := decide_eq_true c34
          clear c34
          exact absurd H (by simp)
         ·rw [if_neg c34] at H
          exact absurd H (by simp)
        ·rw [if_neg c33] at H
         exact absurd H (by simp)
       ·replace c32 := Bool.eq_false_iff.mpr c32
        subst c32
        have H1 : (none) = some r := by rw [if_neg (show ¬ (false = true) by decide)] at H; exact H
        clear H
        have H := H1
        clear H1
        exact absurd H (by simp)
  ·rw [if_neg c28] at H
   have c28b0 : (t479 == 0) = false := beq_eq_false_iff_ne.mpr c28
   have c28b1 : (t479 != 0) = true := bne_iff_ne.mpr c28
   obtain rfl := Option.some.inj H
   go_enter Try.func7, Try.ntmps7
   go_wp2_with (first | ((with_reducible refine gate_callee (f := 23) rfl ?_); refine goesL_ (some 10) rfl rfl Try.func23 (by kernel_rfl) rfl #[.int .i64 a0, .int .i64 63] rfl (by (try simp only [List.map_toArray, List.map_cons, List.map_nil]); first | done | rfl | (simp only [List.length_drop, List.length_take]; rfl)) ?_; (with_reducible refine (flywheelkeep_Mod.calls a0 63 t447 _ A3.out).mono ?_); rintro e w' ⟨rfl, ⟨nd, rfl⟩⟩; refine ⟨_, rfl, ?_⟩) | ((with_reducible refine gate_callee (f := 14) rfl ?_); refine goesL_ (some 12) rfl rfl Try.func14 (by kernel_rfl) rfl #[.int .i64 (wrap64 (2 + t447)), .int .i64 3865470566] rfl (by (try simp only [List.map_toArray, List.map_cons, List.map_nil]); first | done | rfl | (simp only [List.length_drop, List.length_take]; rfl)) ?_; (with_reducible refine (trend_New.nil.calls (wrap64 (2 + t447)) 3865470566 t479 _ A27.out).mono ?_); rintro e w35 ⟨rfl, hb⟩; refine ⟨_, rfl, ?_⟩; have n0_ := Aside0.mk (below_step (by repeat (first | (with_reducible first | exact HB.out | apply below_alloc | apply pw_below_drewN | apply below_drew1) | exact HB.out)) hb); clear HB; have HB := n0_; clear n0_; (try clear hb); (try clear hb2); (try clear hk); (try clear hi)))
   go_ret
   exact ⟨by first | rfl | (simp [errW_none, errW_some] <;> rfl) | (simp [*, errW_none, errW_some] <;> rfl), by repeat (first | (with_reducible first | exact HB.out | apply below_alloc | apply pw_below_drewN | apply below_drew1) | exact HB.out)⟩
def flywheellaw17_TrendFlat.Pure : Prop := ∀ (a0 : Int) (l1 : List Int), (Lit.int .i64 a0).wf = true → l1.length ≤ maxLen → l1.length * 4 ≤ 140737488351232 → (∀ x ∈ l1, (Lit.int .u32 x).wf = true) → ∃ k, flywheellaw17_TrendFlat.f k a0 l1 = some true
theorem flywheellaw17_TrendFlat.walk (P : flywheellaw17_TrendFlat.Pure) (a0 : Int) (a1 : Option Addr) (len1 cap1 : Nat) (z1 : List Int) (w : World) (w0 : (Lit.int .i64 a0).wf = true) (w1 : (a1 = none ∧ len1 = 0 ∧ cap1 = 0 ∧ z1 = []) ∨ ∃ x, a1 = some x ∧ len1 ≤ cap1 ∧ cap1 ≤ maxLen ∧ z1.length = cap1 ∧ (∀ i, i < z1.length → w.cell? (x.add i) = some (.int .u32 (z1.getD i 0))) ∧ ∀ n ∈ z1, (Lit.int .u32 n).wf = true) (y1 : len1 * 4 ≤ 140737488351232) :
  Calls Try.prog 7 #[.int .i64 a0, .slice a1 len1 cap1] w fun e w' => e = .returned (.bool true) ∧ Below w.heap.size w w' := by
 obtain ⟨l1, rfl, hr1, hm1, hw1, hc1⟩ := ReadsInt.ofRowC w1
 obtain ⟨k, h⟩ := P a0 l1 w0 hm1 y1 hw1
 refine (flywheellaw17_TrendFlat.calls k a0 _ _ l1 true w (Kd.C_of_reads (d := (0 : Int)) (h1 := fun _ => rfl) hr1) hc1 h).mono ?_
 rintro e w' ⟨rfl, hd⟩
 exact ⟨rfl, hd⟩
end Go.Proofs.Ytmcfgaokimlngaa.P
end

section
namespace Go.Proofs.Ytmcfgaokimlngaa.P
open Go.RowKit Go.Proofs.YtmcfgaokimlngaaW.PrintWords Go.Proofs.YtmcfgaokimlngaaW.PrintLast Go.Proofs.YtmcfgaokimlngaaW.PrintMore
attribute [local go_sem] max2_int min2_int max_two min_two max_three min_three max_four min_four   -- for this text's walks alone
set_option linter.unusedVariables false
set_option linter.unusedSimpArgs false
end Go.Proofs.Ytmcfgaokimlngaa.P
end

section
namespace Go.Proofs.Ytmcfgaokimlngaa.P
open Go.RowKit Go.Proofs.YtmcfgaokimlngaaW.PrintWords Go.Proofs.YtmcfgaokimlngaaW.PrintLast Go.Proofs.YtmcfgaokimlngaaW.PrintMore
attribute [local go_sem] max2_int min2_int max_two min_two max_three min_three max_four min_four   -- for this text's walks alone
set_option linter.unusedVariables false
set_option linter.unusedSimpArgs false
end Go.Proofs.Ytmcfgaokimlngaa.P
end

section
namespace Go.Proofs.Ytmcfgaokimlngaa.P
open Go.RowKit Go.Proofs.YtmcfgaokimlngaaW.PrintWords Go.Proofs.YtmcfgaokimlngaaW.PrintLast Go.Proofs.YtmcfgaokimlngaaW.PrintMore
attribute [local go_sem] max2_int min2_int max_two min_two max_three min_three max_four min_four   -- for this text's walks alone
set_option linter.unusedVariables false
set_option linter.unusedSimpArgs false
end Go.Proofs.Ytmcfgaokimlngaa.P
end

section
namespace Go.Proofs.Ytmcfgaokimlngaa.P
open Go.RowKit Go.Proofs.YtmcfgaokimlngaaW.PrintWords Go.Proofs.YtmcfgaokimlngaaW.PrintLast Go.Proofs.YtmcfgaokimlngaaW.PrintMore
attribute [local go_sem] max2_int min2_int max_two min_two max_three min_three max_four min_four   -- for this text's walks alone
set_option linter.unusedVariables false
set_option linter.unusedSimpArgs false
end Go.Proofs.Ytmcfgaokimlngaa.P
end

section
namespace Go.Proofs.Ytmcfgaokimlngaa.P
open Go.RowKit Go.Proofs.YtmcfgaokimlngaaW.PrintWords Go.Proofs.YtmcfgaokimlngaaW.PrintLast Go.Proofs.YtmcfgaokimlngaaW.PrintMore
attribute [local go_sem] max2_int min2_int max_two min_two max_three min_three max_four min_four   -- for this text's walks alone
set_option linter.unusedVariables false
set_option linter.unusedSimpArgs false
end Go.Proofs.Ytmcfgaokimlngaa.P
end

section
namespace Go.Proofs.Ytmcfgaokimlngaa.P
open Go.RowKit
set_option linter.unusedVariables false
set_option linter.unusedSimpArgs false
end Go.Proofs.Ytmcfgaokimlngaa.P
end

section
namespace Go.Proofs.Ytmcfgaokimlngaa.P
open Go.RowKit
set_option linter.unusedVariables false
set_option linter.unusedSimpArgs false
theorem clamp_eq (a lo hi : Int) : sat_Clamp.f a lo hi = some (if a < lo then lo else if a > hi then hi else a) := by
  unfold sat_Clamp.f
  split
  · rfl
  · split <;> rfl
end Go.Proofs.Ytmcfgaokimlngaa.P
end

section
namespace Go.Proofs.Ytmcfgaokimlngaa.P
open Go.RowKit Go.Proofs.YtmcfgaokimlngaaW.PrintWords Go.Proofs.YtmcfgaokimlngaaW.PrintLast Go.Proofs.YtmcfgaokimlngaaW.PrintMore
attribute [local go_sem] max2_int min2_int max_two min_two max_three min_three max_four min_four   -- for this text's walks alone
set_option linter.unusedVariables false
set_option linter.unusedSimpArgs false
end Go.Proofs.Ytmcfgaokimlngaa.P
end

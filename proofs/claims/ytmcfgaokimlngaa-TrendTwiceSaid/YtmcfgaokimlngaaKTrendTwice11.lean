-- PUT TOGETHER by a program of this session: of the claim's texts, what is used
import Derived.Test.YtmcfgaokimlngaaKTrendTwice2
import Derived.Test.YtmcfgaokimlngaaKTrendTwice7
import Derived.Test.YtmcfgaokimlngaaKTrendTwice10
section
namespace Go.Proofs.Ytmcfgaokimlngaa.P
open Go.RowKit Go.Proofs.YtmcfgaokimlngaaW.PrintWords Go.Proofs.YtmcfgaokimlngaaW.PrintLast Go.Proofs.YtmcfgaokimlngaaW.PrintMore
attribute [local go_sem] max2_int min2_int max_two min_two max_three min_three max_four min_four   -- for this text's walks alone
set_option linter.unusedVariables false
set_option linter.unusedSimpArgs false
def flywheellaw17_TrendTwice.l0 : Nat → List (S47) → List Int → List Int → List Int → Int → Option (Bool)
 | 0, _, _, _, _, _ => none
 | k + 1, x0, x3, x4, x5, x6 => if x6 < (x0.length : Int) then (if x6 < 64 then (if 0 ≤ x6 then ((some (([wrap64 ((rd_T47 x0 x6).f0)] : List Int) : List Int)).bind fun y487 => (if x3.length + y487.length < 17592186044416 then ((some (([wrap64 ((rd_T47 x0 x6).f1)] : List Int) : List Int)).bind fun y494 => (if x4.length + y494.length < 17592186044416 then ((some (([wrap64 (2 * (wrap64 ((rd_T47 x0 x6).f1)))] : List Int) : List Int)).bind fun y501 => (if x5.length + y501.length < 17592186044416 then (flywheellaw17_TrendTwice.l0 k x0 (x3 ++ y487) (x4 ++ y494) (x5 ++ y501) (wrap64 (x6 + 1))) else (none))) else (none))) else (none))) else (none)) else ((trend_Line.f k x3 x5).bind fun t507 => ((trend_Line.f k x3 x4).bind fun t508 => (if (wrap64 (t507 - (wrap64 (2 * t508)))) ≥ (-1) then (if (wrap64 (t507 - (wrap64 (2 * t508)))) ≤ 1 then ((flywheellaw17_wakes.f k).bind fun t509 => (some t509)) else (some false)) else (some false))))) else ((trend_Line.f k x3 x5).bind fun t510 => ((trend_Line.f k x3 x4).bind fun t511 => (if (wrap64 (t510 - (wrap64 (2 * t511)))) ≥ (-1) then (if (wrap64 (t510 - (wrap64 (2 * t511)))) ≤ 1 then ((flywheellaw17_wakes.f k).bind fun t512 => (some t512)) else (some false)) else (some false))))
def flywheellaw17_TrendTwice.f (k : Nat) (l0 : List (S47)) : Option (Bool) := flywheellaw17_TrendTwice.l0 k l0 ([] : List Int) ([] : List Int) ([] : List Int) 0
def flywheellaw17_TrendTwice.T5 : Bool × List (List Nat × List Nat) := (true, [([], []), ([], []), ([], []), ([1, 2], [1, 2]), ([3], [3]), ([4], [4]), ([5], [5]), ([6], [6]), ([0, 7], [0, 7]), ([], []), ([], []), ([], []), ([10, 11], [10, 11]), ([12], [12]), ([13], [13]), ([14], [14]), ([15], [15]), ([9, 16, 8], [9, 16]), ([], []), ([], []), ([], []), ([19, 20], [19, 20]), ([21], [21]), ([22], [22]), ([23], [23]), ([24], [24]), ([25], [25]), ([18, 26, 17], [18, 26]), ([8, 27, 0, 1, 2, 3, 4, 5, 6, 7, 8], [0, 8]), ([17, 28, 0, 1, 2, 3, 4, 5, 6, 7, 8, 9, 10, 11, 12, 13, 14, 15, 16, 17, 28], [9, 17]), ([27, 29, 0, 1, 2, 3, 4, 5, 6, 7, 8, 9, 10, 11, 12, 13, 14, 15, 16, 17, 18, 19, 20, 21, 22, 23, 24, 25, 26, 27, 28, 29], [18, 27])])
def flywheellaw17_TrendTwice.B5 : List Nat := [0, 0, 0, 6, 14, 30, 62, 126, 255, 0, 0, 0, 3072, 7168, 15360, 31744, 64512, 131071, 0, 0, 0, 1572864, 3670016, 7864320, 16252928, 33030144, 66584576, 134217727, 268435455, 536870911, 1073741823]
theorem flywheellaw17_TrendTwice.tab5 : rtab .any (opsOf Try.f9 5) = flywheellaw17_TrendTwice.T5 := by kernel_rfl
theorem flywheellaw17_TrendTwice.bits5 : waitsOk flywheellaw17_TrendTwice.T5.2 flywheellaw17_TrendTwice.B5 = true := by kernel_rfl
set_option maxHeartbeats 8000000 in
set_option maxRecDepth 100000 in
theorem flywheellaw17_TrendTwice.calls (k : Nat) (A0 : Option Addr) (c0 : Nat) (l0 : List (S47)) (r : Bool) (w : World) (hr0 : Kd.C k47 w A0 l0.length l0) (hc0 : l0.length ≤ c0) (h : flywheellaw17_TrendTwice.f k l0 = some r) :
  Calls Try.prog 9 #[.slice A0 l0.length c0] w fun e w' => e = .returned (.bool r) ∧ Below w.heap.size w w' := by
 have HR0 := Aside0.mk hr0
 have HC0 := Aside0.mk hc0
 clear hr0 hc0
 have HB := Aside0.mk (Below.refl w.heap.size w)
 have H : (flywheellaw17_TrendTwice.l0 k l0 ([] : List Int) ([] : List Int) ([] : List Int) 0) = some r := h
 clear h
 have H' := Aside0.mk H
 clear H
 go_enter Try.func9, Try.ntmps9
 go_wp2
 go_loopg [3, 4, 5, 6] k (fun kq v3 v4 v5 v6 w' => ∃ (x3_1 : List Int) (x4_1 : List Int) (x5_1 : List Int) (x6_1 : Int), v6 = .int .i64 x6_1 ∧ Aside0 (flywheellaw17_TrendTwice.l0 kq l0 x3_1 x4_1 x5_1 x6_1 = some r) ∧ Aside0 (kq ≤ k) ∧ Aside0 (Kd.R (Kd.int .i64) 2 w' w.heap.size (fun k_ => some k_ ≠ (v4 : Value).ownBlock ∧ some k_ ≠ (v5 : Value).ownBlock) v3 x3_1) ∧ Aside0 (Kd.R (Kd.int .i64) 2 w' w.heap.size (fun k_ => some k_ ≠ (v3 : Value).ownBlock ∧ some k_ ≠ (v5 : Value).ownBlock) v4 x4_1) ∧ Aside0 (Kd.R (Kd.int .i64) 2 w' w.heap.size (fun k_ => some k_ ≠ (v3 : Value).ownBlock ∧ some k_ ≠ (v4 : Value).ownBlock) v5 x5_1) ∧ Aside0 (Below w.heap.size w w'))
 case atStart => exact ⟨(([] : List Int)), (([] : List Int)), (([] : List Int)), (0), (by first | rfl | (simp; done) | (simp [*]; done)), H', ⟨Nat.le_refl _⟩, ⟨by first | exact Kd.R_nil _ _ _ _ _ | exact Kd.N_nil _ _ _ _ _ | exact Kd.V_nil _ _ _ _ _ | exact Kd.Q_nil _ _ _ _ _ | exact Kd.S_nil _ _ _ _ _⟩, ⟨by first | exact Kd.R_nil _ _ _ _ _ | exact Kd.N_nil _ _ _ _ _ | exact Kd.V_nil _ _ _ _ _ | exact Kd.Q_nil _ _ _ _ _ | exact Kd.S_nil _ _ _ _ _⟩, ⟨by first | exact Kd.R_nil _ _ _ _ _ | exact Kd.N_nil _ _ _ _ _ | exact Kd.V_nil _ _ _ _ _ | exact Kd.Q_nil _ _ _ _ _ | exact Kd.S_nil _ _ _ _ _⟩, ⟨by repeat (first | (with_reducible first | exact HB.out | apply below_alloc | apply pw_below_drewN | apply below_drew1) | exact HB.out)⟩⟩
 case round =>
  clear H'
  obtain ⟨x3_1, x4_1, x5_1, x6_1, rfl, HA, HK1, HO_3, HO_4, HO_5, HB⟩ := hrel
  cases gk with
  | zero => exact absurd HA.out (by simp [flywheellaw17_TrendTwice.l0])
  | succ k1 =>
   have H := HA.out
   clear HA
   simp only [flywheellaw17_TrendTwice.l0] at H
   by_cases c2 : x6_1 < (l0.length : Int)
   ·rw [if_pos c2] at H
    have c2b0 : decide (x6_1 < (l0.length : Int)) = true := decide_eq_true c2
    clear c2
    by_cases c3 : x6_1 < 64
    ·rw [if_pos c3] at H
     have c3b0 : decide (x6_1 < 64) = true := decide_eq_true c3
     clear c3
     by_cases c4 : 0 ≤ x6_1
     ·rw [if_pos c4] at H
      have c4b0 : decide (0 ≤ x6_1) = true := decide_eq_true c4
      clear c4
      obtain ⟨y487, hy487⟩ : ∃ y_ : List Int, y_ = (([wrap64 ((rd_T47 l0 x6_1).f0)] : List Int)) := ⟨_, rfl⟩
      replace H : (if x3_1.length + y487.length < 17592186044416 then ((some (([wrap64 ((rd_T47 l0 x6_1).f1)] : List Int) : List Int)).bind fun y494 => (if x4_1.length + y494.length < 17592186044416 then ((some (([wrap64 (2 * (wrap64 ((rd_T47 l0 x6_1).f1)))] : List Int) : List Int)).bind fun y501 => (if x5_1.length + y501.length < 17592186044416 then (flywheellaw17_TrendTwice.l0 k1 l0 (x3_1 ++ y487) (x4_1 ++ y494) (x5_1 ++ y501) (wrap64 (x6_1 + 1))) else (none))) else (none))) else (none)) = some r := by first | (rw [hy487]; with_reducible exact H) | (have H2_ := (Option.bind_some _ _).symm.trans H; rw [hy487]; with_reducible exact H2_) | (have H2_ := (Option.bind_some _ _).symm.trans H; with_reducible exact H2_) | with_reducible exact H | (rw [hy487]; exact H) | exact H
      have Ny487 := Aside0.mk hy487
      clear hy487
      by_cases c5 : x3_1.length + y487.length < 17592186044416
      ·rw [if_pos c5] at H
       have LMc5 := Aside0.mk c5
       clear c5
       obtain ⟨y490, hy490⟩ : ∃ y_ : List Int, y_ = (x3_1 ++ y487) := ⟨_, rfl⟩
       replace H : ((some (([wrap64 ((rd_T47 l0 x6_1).f1)] : List Int) : List Int)).bind fun y494 => (if x4_1.length + y494.length < 17592186044416 then ((some (([wrap64 (2 * (wrap64 ((rd_T47 l0 x6_1).f1)))] : List Int) : List Int)).bind fun y501 => (if x5_1.length + y501.length < 17592186044416 then (flywheellaw17_TrendTwice.l0 k1 l0 y490 (x4_1 ++ y494) (x5_1 ++ y501) (wrap64 (x6_1 + 1))) else (none))) else (none))) = some r := by first | (rw [hy490]; with_reducible exact H) | (have H2_ := (Option.bind_some _ _).symm.trans H; rw [hy490]; with_reducible exact H2_) | (have H2_ := (Option.bind_some _ _).symm.trans H; with_reducible exact H2_) | with_reducible exact H | (rw [hy490]; exact H) | exact H
       have Ny490 := Aside0.mk hy490
       clear hy490
       obtain ⟨y494, hy494⟩ : ∃ y_ : List Int, y_ = (([wrap64 ((rd_T47 l0 x6_1).f1)] : List Int)) := ⟨_, rfl⟩
       replace H : (if x4_1.length + y494.length < 17592186044416 then ((some (([wrap64 (2 * (wrap64 ((rd_T47 l0 x6_1).f1)))] : List Int) : List Int)).bind fun y501 => (if x5_1.length + y501.length < 17592186044416 then (flywheellaw17_TrendTwice.l0 k1 l0 y490 (x4_1 ++ y494) (x5_1 ++ y501) (wrap64 (x6_1 + 1))) else (none))) else (none)) = some r := by first | (rw [hy494]; with_reducible exact H) | (have H2_ := (Option.bind_some _ _).symm.trans H; rw [hy494]; with_reducible exact H2_) | (have H2_ := (Option.bind_some _ _).symm.trans H; with_reducible exact H2_) | with_reducible exact H | (rw [hy494]; exact H) | exact H
       have Ny494 := Aside0.mk hy494
       clear hy494
       by_cases c6 : x4_1.length + y494.length < 17592186044416
       ·rw [if_pos c6] at H
        have LMc6 := Aside0.mk c6
        clear c6
        obtain ⟨y497, hy497⟩ : ∃ y_ : List Int, y_ = (x4_1 ++ y494) := ⟨_, rfl⟩
        replace H : ((some (([wrap64 (2 * (wrap64 ((rd_T47 l0 x6_1).f1)))] : List Int) : List Int)).bind fun y501 => (if x5_1.length + y501.length < 17592186044416 then (flywheellaw17_TrendTwice.l0 k1 l0 y490 y497 (x5_1 ++ y501) (wrap64 (x6_1 + 1))) else (none))) = some r := by first | (rw [hy497]; with_reducible exact H) | (have H2_ := (Option.bind_some _ _).symm.trans H; rw [hy497]; with_reducible exact H2_) | (have H2_ := (Option.bind_some _ _).symm.trans H; with_reducible exact H2_) | with_reducible exact H | (rw [hy497]; exact H) | exact H
        have Ny497 := Aside0.mk hy497
        clear hy497
        obtain ⟨y501, hy501⟩ : ∃ y_ : List Int, y_ = (([wrap64 (2 * (wrap64 ((rd_T47 l0 x6_1).f1)))] : List Int)) := ⟨_, rfl⟩
        replace H : (if x5_1.length + y501.length < 17592186044416 then (flywheellaw17_TrendTwice.l0 k1 l0 y490 y497 (x5_1 ++ y501) (wrap64 (x6_1 + 1))) else (none)) = some r := by first | (rw [hy501]; with_reducible exact H) | (have H2_ := (Option.bind_some _ _).symm.trans H; rw [hy501]; with_reducible exact H2_) | (have H2_ := (Option.bind_some _ _).symm.trans H; with_reducible exact H2_) | with_reducible exact H | (rw [hy501]; exact H) | exact H
        have Ny501 := Aside0.mk hy501
        clear hy501
        by_cases c7 : x5_1.length + y501.length < 17592186044416
        ·rw [if_pos c7] at H
         have LMc7 := Aside0.mk c7
         clear c7
         obtain ⟨y504, hy504⟩ : ∃ y_ : List Int, y_ = (x5_1 ++ y501) := ⟨_, rfl⟩
         replace H : (flywheellaw17_TrendTwice.l0 k1 l0 y490 y497 y504 (wrap64 (x6_1 + 1))) = some r := by first | (rw [hy504]; with_reducible exact H) | (have H2_ := (Option.bind_some _ _).symm.trans H; rw [hy504]; with_reducible exact H2_) | (have H2_ := (Option.bind_some _ _).symm.trans H; with_reducible exact H2_) | with_reducible exact H | (rw [hy504]; exact H) | exact H
         have Ny504 := Aside0.mk hy504
         clear hy504
         have H' := Aside0.mk H
         clear H
         obtain ⟨Ao8, co8, eo8⟩ := Kd.R_slice HO_3.out
         subst eo8
         obtain ⟨Ao9, co9, eo9⟩ := Kd.R_slice HO_4.out
         subst eo9
         obtain ⟨Ao10, co10, eo10⟩ := Kd.R_slice HO_5.out
         subst eo10
         try go_wp2
         have n0_ := Aside0.mk (Kd.R_drew HO_3.out)
         have n1_ := Aside0.mk (Kd.R_drew HO_4.out)
         have n2_ := Aside0.mk (Kd.R_drew HO_5.out)
         have n3_ := Aside0.mk (below_drew1 HB.out)
         clear HO_3
         clear HO_4
         clear HO_5
         clear HB
         have HO_3 := n0_
         have HO_4 := n1_
         have HO_5 := n2_
         have HB := n3_
         clear n0_ n1_ n2_ n3_
         have p486 : 0 ≤ (x6_1 : Int) := of_decide_eq_true (by first | (with_reducible assumption) | assumption)
         have q486 : x6_1 < (l0.length : Int) := of_decide_eq_true (by first | (with_reducible assumption) | assumption)
         obtain ⟨ad486, e486, hx486_0, hx486_1⟩ := at_T47 HR0.out x6_1 p486 q486
         have hw486_1 := hx486_1
         have hw486_0 := hx486_0
         cases e486
         replace hx486_0 := (HB.out.cell (World.block_lt_of_cell? w _ hx486_0)).trans hx486_0
         replace hx486_1 := (HB.out.cell (World.block_lt_of_cell? w _ hx486_1)).trans hx486_1
         replace p486 := eq_true p486
         replace q486 := eq_true q486
         have p493 : 0 ≤ (x6_1 : Int) := of_decide_eq_true (by first | (with_reducible assumption) | assumption)
         have q493 : x6_1 < (l0.length : Int) := of_decide_eq_true (by first | (with_reducible assumption) | assumption)
         obtain ⟨ad493, e493, hx493_0, hx493_1⟩ := at_T47 HR0.out x6_1 p493 q493
         have hw493_1 := hx493_1
         have hw493_0 := hx493_0
         obtain rfl : ad486 = ad493 := (by injection e493)
         replace hx493_0 := (HB.out.cell (World.block_lt_of_cell? w _ hx493_0)).trans hx493_0
         replace hx493_1 := (HB.out.cell (World.block_lt_of_cell? w _ hx493_1)).trans hx493_1
         replace p493 := eq_true p493
         replace q493 := eq_true q493
         have p500 : 0 ≤ (x6_1 : Int) := of_decide_eq_true (by first | (with_reducible assumption) | assumption)
         have q500 : x6_1 < (l0.length : Int) := of_decide_eq_true (by first | (with_reducible assumption) | assumption)
         obtain ⟨ad500, e500, hx500_0, hx500_1⟩ := at_T47 HR0.out x6_1 p500 q500
         have hw500_1 := hx500_1
         have hw500_0 := hx500_0
         obtain rfl : ad486 = ad500 := (by injection e500)
         replace hx500_0 := (HB.out.cell (World.block_lt_of_cell? w _ hx500_0)).trans hx500_0
         replace hx500_1 := (HB.out.cell (World.block_lt_of_cell? w _ hx500_1)).trans hx500_1
         replace p500 := eq_true p500
         replace q500 := eq_true q500
         refine start_ (n := 31) (S := fun w' => w'.cell? (ad486.add ((x6_1).toNat * 2)) = some (.int .i16 ((rd_T47 l0 x6_1).f0)) ∧ w'.cell? ⟨(ad486.add ((x6_1).toNat * 2)).block, (ad486.add ((x6_1).toNat * 2)).off + 1, none⟩ = some (.int .i16 ((rd_T47 l0 x6_1).f1)) ∧ w'.cell? (ad486.add ((x6_1).toNat * 2)) = some (.int .i16 ((rd_T47 l0 x6_1).f0)) ∧ w'.cell? ⟨(ad486.add ((x6_1).toNat * 2)).block, (ad486.add ((x6_1).toNat * 2)).off + 1, none⟩ = some (.int .i16 ((rd_T47 l0 x6_1).f1)) ∧ w'.cell? (ad486.add ((x6_1).toNat * 2)) = some (.int .i16 ((rd_T47 l0 x6_1).f0)) ∧ w'.cell? ⟨(ad486.add ((x6_1).toNat * 2)).block, (ad486.add ((x6_1).toNat * 2)).off + 1, none⟩ = some (.int .i16 ((rd_T47 l0 x6_1).f1))) (ds := []) #[false, false, false, false, false, false, false, false, false, false, false, false, false, false, false, false, false, false, false, false, false, false, false, false, false, false, false, false, false, false, false] (by kernel_rfl) rfl rfl ⟨((HB.out.cell (World.block_lt_of_cell? w _ hw486_0)).trans hw486_0), ((HB.out.cell (World.block_lt_of_cell? w _ hw486_1)).trans hw486_1), ((HB.out.cell (World.block_lt_of_cell? w _ hw493_0)).trans hw493_0), ((HB.out.cell (World.block_lt_of_cell? w _ hw493_1)).trans hw493_1), ((HB.out.cell (World.block_lt_of_cell? w _ hw500_0)).trans hw500_0), ((HB.out.cell (World.block_lt_of_cell? w _ hw500_1)).trans hw500_1)⟩ (fun hHeld => ?_); refine with_tabW flywheellaw17_TrendTwice.tab5 flywheellaw17_TrendTwice.bits5 (fun HT_ HW_ => ?_)
         generalize wr.drew = w11 at HO_3 HO_4 HO_5 HB hx486_0 hx486_1 hx493_0 hx493_1 hx500_0 hx500_1 hHeld ⊢
         refine pure_ (i := 0) (N := some 18) (v := ?_) (a' := ?_) (bl 31 1) rfl rfl (any_of HT_.out (by kernel_rfl)) (fun _ _ _ h => h) (Or.inl ⟨by rfl, ?_⟩) ?_ ?_
         rotate_left
         ·intro w'
          go_simp
          with_reducible rfl
         rotate_left
         ·simp only [puts_]
          rfl
         refine pure_ (i := 1) (N := some 19) (v := ?_) (a' := ?_) (bl 31 3) rfl rfl (any_of HT_.out (by kernel_rfl)) (fun _ _ _ h => h) (Or.inl ⟨by rfl, ?_⟩) ?_ ?_
         rotate_left
         ·intro w'
          go_simp
          with_reducible rfl
         rotate_left
         ·simp only [puts_]
          rfl
         refine pure_ (i := 2) (N := some 20) (v := ?_) (a' := ?_) (bl 31 7) rfl rfl (any_of HT_.out (by kernel_rfl)) (fun _ _ _ h => h) (Or.inl ⟨by rfl, ?_⟩) ?_ ?_
         rotate_left
         ·intro w'
          go_simp
          with_reducible rfl
         rotate_left
         ·simp only [puts_]
          rfl
         refine pure_ (i := 3) (N := some 21) (v := ?_) (a' := ?_) (bl 31 15) rfl rfl (any_of HT_.out (by kernel_rfl)) (fun _ _ _ h => h) (Or.inl ⟨by rfl, ?_⟩) ?_ ?_
         rotate_left
         ·intro w'
          go_simp
          with_reducible rfl
         rotate_left
         ·simp only [puts_]
          rfl
         refine pure_ (i := 4) (N := some 22) (v := ?_) (a' := ?_) (bl 31 31) rfl rfl (any_of HT_.out (by kernel_rfl)) (fun _ _ _ h => h) (Or.inl ⟨by rfl, ?_⟩) ?_ ?_
         rotate_left
         ·intro w'
          go_simp
          with_reducible rfl
         rotate_left
         ·simp only [puts_]
          rfl
         refine pure_ (i := 9) (N := some 27) (v := ?_) (a' := ?_) (bl 31 543) rfl rfl (any_of HT_.out (by kernel_rfl)) (fun _ _ _ h => h) (Or.inl ⟨by rfl, ?_⟩) ?_ ?_
         rotate_left
         ·intro w'
          go_simp
          with_reducible rfl
         rotate_left
         ·simp only [puts_]
          rfl
         refine pure_ (i := 10) (N := some 28) (v := ?_) (a' := ?_) (bl 31 1567) rfl rfl (any_of HT_.out (by kernel_rfl)) (fun _ _ _ h => h) (Or.inl ⟨by rfl, ?_⟩) ?_ ?_
         rotate_left
         ·intro w'
          go_simp
          with_reducible rfl
         rotate_left
         ·simp only [puts_]
          rfl
         refine pure_ (i := 11) (N := some 29) (v := ?_) (a' := ?_) (bl 31 3615) rfl rfl (any_of HT_.out (by kernel_rfl)) (fun _ _ _ h => h) (Or.inl ⟨by rfl, ?_⟩) ?_ ?_
         rotate_left
         ·intro w'
          go_simp
          with_reducible rfl
         rotate_left
         ·simp only [puts_]
          rfl
         refine pure_ (i := 12) (N := some 30) (v := ?_) (a' := ?_) (bl 31 7711) rfl rfl (any_of HT_.out (by kernel_rfl)) (fun _ _ _ h => h) (Or.inl ⟨by rfl, ?_⟩) ?_ ?_
         rotate_left
         ·intro w'
          go_simp
          with_reducible rfl
         rotate_left
         ·simp only [puts_]
          rfl
         refine pure_ (i := 13) (N := some 31) (v := ?_) (a' := ?_) (bl 31 15903) rfl rfl (any_of HT_.out (by kernel_rfl)) (fun _ _ _ h => h) (Or.inl ⟨by rfl, ?_⟩) ?_ ?_
         rotate_left
         ·intro w'
          go_simp
          with_reducible rfl
         rotate_left
         ·simp only [puts_]
          rfl
         refine pure_ (i := 18) (N := some 36) (v := ?_) (a' := ?_) (bl 31 278047) rfl rfl (any_of HT_.out (by kernel_rfl)) (fun _ _ _ h => h) (Or.inl ⟨by rfl, ?_⟩) ?_ ?_
         rotate_left
         ·intro w'
          go_simp
          with_reducible rfl
         rotate_left
         ·simp only [puts_]
          rfl
         refine pure_ (i := 19) (N := some 37) (v := ?_) (a' := ?_) (bl 31 802335) rfl rfl (any_of HT_.out (by kernel_rfl)) (fun _ _ _ h => h) (Or.inl ⟨by rfl, ?_⟩) ?_ ?_
         rotate_left
         ·intro w'
          go_simp
          with_reducible rfl
         rotate_left
         ·simp only [puts_]
          rfl
         refine pure_ (i := 20) (N := some 38) (v := ?_) (a' := ?_) (bl 31 1850911) rfl rfl (any_of HT_.out (by kernel_rfl)) (fun _ _ _ h => h) (Or.inl ⟨by rfl, ?_⟩) ?_ ?_
         rotate_left
         ·intro w'
          go_simp
          with_reducible rfl
         rotate_left
         ·simp only [puts_]
          rfl
         refine pure_ (i := 21) (N := some 39) (v := ?_) (a' := ?_) (bl 31 3948063) rfl rfl (any_of HT_.out (by kernel_rfl)) (fun _ _ _ h => h) (Or.inl ⟨by rfl, ?_⟩) ?_ ?_
         rotate_left
         ·intro w'
          go_simp
          with_reducible rfl
         rotate_left
         ·simp only [puts_]
          rfl
         refine pure_ (i := 22) (N := some 40) (v := ?_) (a' := ?_) (bl 31 8142367) rfl rfl (any_of HT_.out (by kernel_rfl)) (fun _ _ _ h => h) (Or.inl ⟨by rfl, ?_⟩) ?_ ?_
         rotate_left
         ·intro w'
          go_simp
          with_reducible rfl
         rotate_left
         ·simp only [puts_]
          rfl
         refine take_ (i := 5) (N := some 23) (v := ?_) (a' := ?_) (bl 31 8142399) rfl rfl (take_ofW HT_.out HW_.out (by kernel_rfl)) (fun _ _ _ h => h) (Or.inl ⟨by rfl, ?_⟩) hHeld ?_ ?_
         rotate_left
         ·rintro w' ⟨s0, s1, s2, s3, s4, s5⟩
          go_simp
          with_reducible rfl
         rotate_left
         ·simp only [puts_]
          rfl
         refine pure_ (i := 6) (N := some 24) (v := ?_) (a' := ?_) (bl 31 8142463) rfl rfl (any_of HT_.out (by kernel_rfl)) (fun _ _ _ h => h) (Or.inl ⟨by rfl, ?_⟩) ?_ ?_
         rotate_left
         ·intro w'
          go_simp
          with_reducible rfl
         rotate_left
         ·simp only [puts_]
          rfl
         refine take_ (i := 14) (N := some 32) (v := ?_) (a' := ?_) (bl 31 8158847) rfl rfl (take_ofW HT_.out HW_.out (by kernel_rfl)) (fun _ _ _ h => h) (Or.inl ⟨by rfl, ?_⟩) hHeld ?_ ?_
         rotate_left
         ·rintro w' ⟨s0, s1, s2, s3, s4, s5⟩
          go_simp
          with_reducible rfl
         rotate_left
         ·simp only [puts_]
          rfl
         refine pure_ (i := 15) (N := some 33) (v := ?_) (a' := ?_) (bl 31 8191615) rfl rfl (any_of HT_.out (by kernel_rfl)) (fun _ _ _ h => h) (Or.inl ⟨by rfl, ?_⟩) ?_ ?_
         rotate_left
         ·intro w'
          go_simp
          with_reducible rfl
         rotate_left
         ·simp only [puts_]
          rfl
         refine take_ (i := 23) (N := some 41) (v := ?_) (a' := ?_) (bl 31 16580223) rfl rfl (take_ofW HT_.out HW_.out (by kernel_rfl)) (fun _ _ _ h => h) (Or.inl ⟨by rfl, ?_⟩) hHeld ?_ ?_
         rotate_left
         ·rintro w' ⟨s0, s1, s2, s3, s4, s5⟩
          go_simp
          with_reducible rfl
         rotate_left
         ·simp only [puts_]
          rfl
         refine pure_ (i := 24) (N := some 42) (v := ?_) (a' := ?_) (bl 31 33357439) rfl rfl (any_of HT_.out (by kernel_rfl)) (fun _ _ _ h => h) (Or.inl ⟨by rfl, ?_⟩) ?_ ?_
         rotate_left
         ·intro w'
          go_simp
          with_reducible rfl
         rotate_left
         ·simp only [puts_]
          rfl
         refine pure_ (i := 25) (N := some 43) (v := ?_) (a' := ?_) (bl 31 66911871) rfl rfl (any_of HT_.out (by kernel_rfl)) (fun _ _ _ h => h) (Or.inl ⟨by rfl, ?_⟩) ?_ ?_
         rotate_left
         ·intro w'
          go_simp
          with_reducible rfl
         rotate_left
         ·simp only [puts_]
          rfl
         refine join_ (σ := Value × Value × Value × Value × Value) 4 #[true, true, true, true, true, true, true, true, true, true, true, true, true, true, true, true, true, true, true, true, true, true, true, true, true, true, true, false, false, false, false] (fun s_ => [(25, s_.1), (26, s_.2.1), (34, s_.2.2.1), (35, s_.2.2.2.1), (44, s_.2.2.2.2)]) (fun s_ w' => (w'.cell? (ad486.add ((x6_1).toNat * 2)) = some (.int .i16 ((rd_T47 l0 x6_1).f0)) ∧ w'.cell? ⟨(ad486.add ((x6_1).toNat * 2)).block, (ad486.add ((x6_1).toNat * 2)).off + 1, none⟩ = some (.int .i16 ((rd_T47 l0 x6_1).f1)) ∧ w'.cell? (ad486.add ((x6_1).toNat * 2)) = some (.int .i16 ((rd_T47 l0 x6_1).f0)) ∧ w'.cell? ⟨(ad486.add ((x6_1).toNat * 2)).block, (ad486.add ((x6_1).toNat * 2)).off + 1, none⟩ = some (.int .i16 ((rd_T47 l0 x6_1).f1)) ∧ w'.cell? (ad486.add ((x6_1).toNat * 2)) = some (.int .i16 ((rd_T47 l0 x6_1).f0)) ∧ w'.cell? ⟨(ad486.add ((x6_1).toNat * 2)).block, (ad486.add ((x6_1).toNat * 2)).off + 1, none⟩ = some (.int .i16 ((rd_T47 l0 x6_1).f1))) ∧ (Kd.R (Kd.int .i64) 2 w' w.heap.size (fun k_ => some k_ ≠ (s_.2.1 : Value).ownBlock ∧ some k_ ≠ (s_.2.2.1 : Value).ownBlock ∧ some k_ ≠ (s_.2.2.2.1 : Value).ownBlock ∧ some k_ ≠ (s_.2.2.2.2 : Value).ownBlock ∧ some k_ ≠ (.slice Ao10 x5_1.length co10 : Value).ownBlock) s_.1 y487) ∧ (Kd.R (Kd.int .i64) 2 w' w.heap.size (fun k_ => some k_ ≠ (s_.1 : Value).ownBlock ∧ some k_ ≠ (s_.2.2.1 : Value).ownBlock ∧ some k_ ≠ (s_.2.2.2.1 : Value).ownBlock ∧ some k_ ≠ (s_.2.2.2.2 : Value).ownBlock ∧ some k_ ≠ (.slice Ao10 x5_1.length co10 : Value).ownBlock) s_.2.1 y490) ∧ (Kd.R (Kd.int .i64) 2 w' w.heap.size (fun k_ => some k_ ≠ (s_.1 : Value).ownBlock ∧ some k_ ≠ (s_.2.1 : Value).ownBlock ∧ some k_ ≠ (s_.2.2.2.1 : Value).ownBlock ∧ some k_ ≠ (s_.2.2.2.2 : Value).ownBlock ∧ some k_ ≠ (.slice Ao10 x5_1.length co10 : Value).ownBlock) s_.2.2.1 y494) ∧ (Kd.R (Kd.int .i64) 2 w' w.heap.size (fun k_ => some k_ ≠ (s_.1 : Value).ownBlock ∧ some k_ ≠ (s_.2.1 : Value).ownBlock ∧ some k_ ≠ (s_.2.2.1 : Value).ownBlock ∧ some k_ ≠ (s_.2.2.2.2 : Value).ownBlock ∧ some k_ ≠ (.slice Ao10 x5_1.length co10 : Value).ownBlock) s_.2.2.2.1 y497) ∧ (Kd.R (Kd.int .i64) 2 w' w.heap.size (fun k_ => some k_ ≠ (s_.1 : Value).ownBlock ∧ some k_ ≠ (s_.2.1 : Value).ownBlock ∧ some k_ ≠ (s_.2.2.1 : Value).ownBlock ∧ some k_ ≠ (s_.2.2.2.1 : Value).ownBlock ∧ some k_ ≠ (.slice Ao10 x5_1.length co10 : Value).ownBlock) s_.2.2.2.2 y501) ∧ (Kd.R (Kd.int .i64) 2 w' w.heap.size (fun k_ => some k_ ≠ (s_.1 : Value).ownBlock ∧ some k_ ≠ (s_.2.1 : Value).ownBlock ∧ some k_ ≠ (s_.2.2.1 : Value).ownBlock ∧ some k_ ≠ (s_.2.2.2.1 : Value).ownBlock ∧ some k_ ≠ (s_.2.2.2.2 : Value).ownBlock) (.slice Ao10 x5_1.length co10) x5_1) ∧ (Below w.heap.size w w')) ?_ ?_
         rotate_left
         ·intro hJ7_8_16_17_26
          refine join_ (σ := Value × Value × Value × Value) 5 #[true, true, true, true, true, true, true, true, true, true, true, true, true, true, true, true, true, true, true, true, true, true, true, true, true, true, false, false, false, false, false] (fun s_ => [(25, s_.1), (26, s_.2.1), (34, s_.2.2.1), (35, s_.2.2.2)]) (fun s_ w' => (w'.cell? (ad486.add ((x6_1).toNat * 2)) = some (.int .i16 ((rd_T47 l0 x6_1).f0)) ∧ w'.cell? ⟨(ad486.add ((x6_1).toNat * 2)).block, (ad486.add ((x6_1).toNat * 2)).off + 1, none⟩ = some (.int .i16 ((rd_T47 l0 x6_1).f1)) ∧ w'.cell? (ad486.add ((x6_1).toNat * 2)) = some (.int .i16 ((rd_T47 l0 x6_1).f0)) ∧ w'.cell? ⟨(ad486.add ((x6_1).toNat * 2)).block, (ad486.add ((x6_1).toNat * 2)).off + 1, none⟩ = some (.int .i16 ((rd_T47 l0 x6_1).f1)) ∧ w'.cell? (ad486.add ((x6_1).toNat * 2)) = some (.int .i16 ((rd_T47 l0 x6_1).f0)) ∧ w'.cell? ⟨(ad486.add ((x6_1).toNat * 2)).block, (ad486.add ((x6_1).toNat * 2)).off + 1, none⟩ = some (.int .i16 ((rd_T47 l0 x6_1).f1))) ∧ (Kd.R (Kd.int .i64) 2 w' w.heap.size (fun k_ => some k_ ≠ (s_.2.1 : Value).ownBlock ∧ some k_ ≠ (s_.2.2.1 : Value).ownBlock ∧ some k_ ≠ (s_.2.2.2 : Value).ownBlock ∧ some k_ ≠ (.slice Ao10 x5_1.length co10 : Value).ownBlock) s_.1 y487) ∧ (Kd.R (Kd.int .i64) 2 w' w.heap.size (fun k_ => some k_ ≠ (s_.1 : Value).ownBlock ∧ some k_ ≠ (s_.2.2.1 : Value).ownBlock ∧ some k_ ≠ (s_.2.2.2 : Value).ownBlock ∧ some k_ ≠ (.slice Ao10 x5_1.length co10 : Value).ownBlock) s_.2.1 y490) ∧ (Kd.R (Kd.int .i64) 2 w' w.heap.size (fun k_ => some k_ ≠ (s_.1 : Value).ownBlock ∧ some k_ ≠ (s_.2.1 : Value).ownBlock ∧ some k_ ≠ (s_.2.2.2 : Value).ownBlock ∧ some k_ ≠ (.slice Ao10 x5_1.length co10 : Value).ownBlock) s_.2.2.1 y494) ∧ (Kd.R (Kd.int .i64) 2 w' w.heap.size (fun k_ => some k_ ≠ (s_.1 : Value).ownBlock ∧ some k_ ≠ (s_.2.1 : Value).ownBlock ∧ some k_ ≠ (s_.2.2.1 : Value).ownBlock ∧ some k_ ≠ (.slice Ao10 x5_1.length co10 : Value).ownBlock) s_.2.2.2 y497) ∧ (Kd.R (Kd.int .i64) 2 w' w.heap.size (fun k_ => some k_ ≠ (s_.1 : Value).ownBlock ∧ some k_ ≠ (s_.2.1 : Value).ownBlock ∧ some k_ ≠ (s_.2.2.1 : Value).ownBlock ∧ some k_ ≠ (s_.2.2.2 : Value).ownBlock) (.slice Ao10 x5_1.length co10) x5_1) ∧ (Below w.heap.size w w')) ?_ ?_
          rotate_left
          ·intro hJ7_8_16_17
           refine join_ (σ := Value × Value × Value × Value) 5 #[true, true, true, true, true, true, true, true, true, true, true, true, true, true, true, true, true, false, true, true, true, true, true, true, true, true, true, false, false, false, false] (fun s_ => [(25, s_.1), (26, s_.2.1), (34, s_.2.2.1), (44, s_.2.2.2)]) (fun s_ w' => (w'.cell? (ad486.add ((x6_1).toNat * 2)) = some (.int .i16 ((rd_T47 l0 x6_1).f0)) ∧ w'.cell? ⟨(ad486.add ((x6_1).toNat * 2)).block, (ad486.add ((x6_1).toNat * 2)).off + 1, none⟩ = some (.int .i16 ((rd_T47 l0 x6_1).f1)) ∧ w'.cell? (ad486.add ((x6_1).toNat * 2)) = some (.int .i16 ((rd_T47 l0 x6_1).f0)) ∧ w'.cell? ⟨(ad486.add ((x6_1).toNat * 2)).block, (ad486.add ((x6_1).toNat * 2)).off + 1, none⟩ = some (.int .i16 ((rd_T47 l0 x6_1).f1)) ∧ w'.cell? (ad486.add ((x6_1).toNat * 2)) = some (.int .i16 ((rd_T47 l0 x6_1).f0)) ∧ w'.cell? ⟨(ad486.add ((x6_1).toNat * 2)).block, (ad486.add ((x6_1).toNat * 2)).off + 1, none⟩ = some (.int .i16 ((rd_T47 l0 x6_1).f1))) ∧ (Kd.R (Kd.int .i64) 2 w' w.heap.size (fun k_ => some k_ ≠ (s_.2.1 : Value).ownBlock ∧ some k_ ≠ (s_.2.2.1 : Value).ownBlock ∧ some k_ ≠ (s_.2.2.2 : Value).ownBlock ∧ some k_ ≠ (.slice Ao9 x4_1.length co9 : Value).ownBlock ∧ some k_ ≠ (.slice Ao10 x5_1.length co10 : Value).ownBlock) s_.1 y487) ∧ (Kd.R (Kd.int .i64) 2 w' w.heap.size (fun k_ => some k_ ≠ (s_.1 : Value).ownBlock ∧ some k_ ≠ (s_.2.2.1 : Value).ownBlock ∧ some k_ ≠ (s_.2.2.2 : Value).ownBlock ∧ some k_ ≠ (.slice Ao9 x4_1.length co9 : Value).ownBlock ∧ some k_ ≠ (.slice Ao10 x5_1.length co10 : Value).ownBlock) s_.2.1 y490) ∧ (Kd.R (Kd.int .i64) 2 w' w.heap.size (fun k_ => some k_ ≠ (s_.1 : Value).ownBlock ∧ some k_ ≠ (s_.2.1 : Value).ownBlock ∧ some k_ ≠ (s_.2.2.2 : Value).ownBlock ∧ some k_ ≠ (.slice Ao9 x4_1.length co9 : Value).ownBlock ∧ some k_ ≠ (.slice Ao10 x5_1.length co10 : Value).ownBlock) s_.2.2.1 y494) ∧ (Kd.R (Kd.int .i64) 2 w' w.heap.size (fun k_ => some k_ ≠ (s_.1 : Value).ownBlock ∧ some k_ ≠ (s_.2.1 : Value).ownBlock ∧ some k_ ≠ (s_.2.2.1 : Value).ownBlock ∧ some k_ ≠ (.slice Ao9 x4_1.length co9 : Value).ownBlock ∧ some k_ ≠ (.slice Ao10 x5_1.length co10 : Value).ownBlock) s_.2.2.2 y501) ∧ (Kd.R (Kd.int .i64) 2 w' w.heap.size (fun k_ => some k_ ≠ (s_.1 : Value).ownBlock ∧ some k_ ≠ (s_.2.1 : Value).ownBlock ∧ some k_ ≠ (s_.2.2.1 : Value).ownBlock ∧ some k_ ≠ (s_.2.2.2 : Value).ownBlock ∧ some k_ ≠ (.slice Ao10 x5_1.length co10 : Value).ownBlock) (.slice Ao9 x4_1.length co9) x4_1) ∧ (Kd.R (Kd.int .i64) 2 w' w.heap.size (fun k_ => some k_ ≠ (s_.1 : Value).ownBlock ∧ some k_ ≠ (s_.2.1 : Value).ownBlock ∧ some k_ ≠ (s_.2.2.1 : Value).ownBlock ∧ some k_ ≠ (s_.2.2.2 : Value).ownBlock ∧ some k_ ≠ (.slice Ao9 x4_1.length co9 : Value).ownBlock) (.slice Ao10 x5_1.length co10) x5_1) ∧ (Below w.heap.size w w')) ?_ ?_
           rotate_left
           ·intro hJ7_8_16_26
            refine join_ (σ := Value × Value × Value) 6 #[true, true, true, true, true, true, true, true, true, true, true, true, true, true, true, true, true, false, true, true, true, true, true, true, true, true, false, false, false, false, false] (fun s_ => [(25, s_.1), (26, s_.2.1), (34, s_.2.2)]) (fun s_ w' => (w'.cell? (ad486.add ((x6_1).toNat * 2)) = some (.int .i16 ((rd_T47 l0 x6_1).f0)) ∧ w'.cell? ⟨(ad486.add ((x6_1).toNat * 2)).block, (ad486.add ((x6_1).toNat * 2)).off + 1, none⟩ = some (.int .i16 ((rd_T47 l0 x6_1).f1)) ∧ w'.cell? (ad486.add ((x6_1).toNat * 2)) = some (.int .i16 ((rd_T47 l0 x6_1).f0)) ∧ w'.cell? ⟨(ad486.add ((x6_1).toNat * 2)).block, (ad486.add ((x6_1).toNat * 2)).off + 1, none⟩ = some (.int .i16 ((rd_T47 l0 x6_1).f1)) ∧ w'.cell? (ad486.add ((x6_1).toNat * 2)) = some (.int .i16 ((rd_T47 l0 x6_1).f0)) ∧ w'.cell? ⟨(ad486.add ((x6_1).toNat * 2)).block, (ad486.add ((x6_1).toNat * 2)).off + 1, none⟩ = some (.int .i16 ((rd_T47 l0 x6_1).f1))) ∧ (Kd.R (Kd.int .i64) 2 w' w.heap.size (fun k_ => some k_ ≠ (s_.2.1 : Value).ownBlock ∧ some k_ ≠ (s_.2.2 : Value).ownBlock ∧ some k_ ≠ (.slice Ao9 x4_1.length co9 : Value).ownBlock ∧ some k_ ≠ (.slice Ao10 x5_1.length co10 : Value).ownBlock) s_.1 y487) ∧ (Kd.R (Kd.int .i64) 2 w' w.heap.size (fun k_ => some k_ ≠ (s_.1 : Value).ownBlock ∧ some k_ ≠ (s_.2.2 : Value).ownBlock ∧ some k_ ≠ (.slice Ao9 x4_1.length co9 : Value).ownBlock ∧ some k_ ≠ (.slice Ao10 x5_1.length co10 : Value).ownBlock) s_.2.1 y490) ∧ (Kd.R (Kd.int .i64) 2 w' w.heap.size (fun k_ => some k_ ≠ (s_.1 : Value).ownBlock ∧ some k_ ≠ (s_.2.1 : Value).ownBlock ∧ some k_ ≠ (.slice Ao9 x4_1.length co9 : Value).ownBlock ∧ some k_ ≠ (.slice Ao10 x5_1.length co10 : Value).ownBlock) s_.2.2 y494) ∧ (Kd.R (Kd.int .i64) 2 w' w.heap.size (fun k_ => some k_ ≠ (s_.1 : Value).ownBlock ∧ some k_ ≠ (s_.2.1 : Value).ownBlock ∧ some k_ ≠ (s_.2.2 : Value).ownBlock ∧ some k_ ≠ (.slice Ao10 x5_1.length co10 : Value).ownBlock) (.slice Ao9 x4_1.length co9) x4_1) ∧ (Kd.R (Kd.int .i64) 2 w' w.heap.size (fun k_ => some k_ ≠ (s_.1 : Value).ownBlock ∧ some k_ ≠ (s_.2.1 : Value).ownBlock ∧ some k_ ≠ (s_.2.2 : Value).ownBlock ∧ some k_ ≠ (.slice Ao9 x4_1.length co9 : Value).ownBlock) (.slice Ao10 x5_1.length co10) x5_1) ∧ (Below w.heap.size w w')) ?_ ?_
            rotate_left
            ·intro hJ7_8_16
             refine join_ (σ := Value × Value × Value) 6 #[true, true, true, true, true, true, true, true, true, true, true, true, true, true, true, true, false, false, true, true, true, true, true, true, true, true, true, false, false, false, false] (fun s_ => [(25, s_.1), (26, s_.2.1), (44, s_.2.2)]) (fun s_ w' => (w'.cell? (ad486.add ((x6_1).toNat * 2)) = some (.int .i16 ((rd_T47 l0 x6_1).f0)) ∧ w'.cell? ⟨(ad486.add ((x6_1).toNat * 2)).block, (ad486.add ((x6_1).toNat * 2)).off + 1, none⟩ = some (.int .i16 ((rd_T47 l0 x6_1).f1)) ∧ w'.cell? (ad486.add ((x6_1).toNat * 2)) = some (.int .i16 ((rd_T47 l0 x6_1).f0)) ∧ w'.cell? ⟨(ad486.add ((x6_1).toNat * 2)).block, (ad486.add ((x6_1).toNat * 2)).off + 1, none⟩ = some (.int .i16 ((rd_T47 l0 x6_1).f1)) ∧ w'.cell? (ad486.add ((x6_1).toNat * 2)) = some (.int .i16 ((rd_T47 l0 x6_1).f0)) ∧ w'.cell? ⟨(ad486.add ((x6_1).toNat * 2)).block, (ad486.add ((x6_1).toNat * 2)).off + 1, none⟩ = some (.int .i16 ((rd_T47 l0 x6_1).f1))) ∧ (Kd.R (Kd.int .i64) 2 w' w.heap.size (fun k_ => some k_ ≠ (s_.2.1 : Value).ownBlock ∧ some k_ ≠ (s_.2.2 : Value).ownBlock ∧ some k_ ≠ (.slice Ao9 x4_1.length co9 : Value).ownBlock ∧ some k_ ≠ (.slice Ao10 x5_1.length co10 : Value).ownBlock) s_.1 y487) ∧ (Kd.R (Kd.int .i64) 2 w' w.heap.size (fun k_ => some k_ ≠ (s_.1 : Value).ownBlock ∧ some k_ ≠ (s_.2.2 : Value).ownBlock ∧ some k_ ≠ (.slice Ao9 x4_1.length co9 : Value).ownBlock ∧ some k_ ≠ (.slice Ao10 x5_1.length co10 : Value).ownBlock) s_.2.1 y490) ∧ (Kd.R (Kd.int .i64) 2 w' w.heap.size (fun k_ => some k_ ≠ (s_.1 : Value).ownBlock ∧ some k_ ≠ (s_.2.1 : Value).ownBlock ∧ some k_ ≠ (.slice Ao9 x4_1.length co9 : Value).ownBlock ∧ some k_ ≠ (.slice Ao10 x5_1.length co10 : Value).ownBlock) s_.2.2 y501) ∧ (Kd.R (Kd.int .i64) 2 w' w.heap.size (fun k_ => some k_ ≠ (s_.1 : Value).ownBlock ∧ some k_ ≠ (s_.2.1 : Value).ownBlock ∧ some k_ ≠ (s_.2.2 : Value).ownBlock ∧ some k_ ≠ (.slice Ao10 x5_1.length co10 : Value).ownBlock) (.slice Ao9 x4_1.length co9) x4_1) ∧ (Kd.R (Kd.int .i64) 2 w' w.heap.size (fun k_ => some k_ ≠ (s_.1 : Value).ownBlock ∧ some k_ ≠ (s_.2.1 : Value).ownBlock ∧ some k_ ≠ (s_.2.2 : Value).ownBlock ∧ some k_ ≠ (.slice Ao9 x4_1.length co9 : Value).ownBlock) (.slice Ao10 x5_1.length co10) x5_1) ∧ (Below w.heap.size w w')) ?_ ?_
             rotate_left
             ·intro hJ7_8_26
              refine join_ (σ := Value × Value × Value) 6 #[true, true, true, true, true, true, true, true, false, true, true, true, true, true, true, true, true, false, true, true, true, true, true, true, true, true, true, false, false, false, false] (fun s_ => [(25, s_.1), (34, s_.2.1), (44, s_.2.2)]) (fun s_ w' => (w'.cell? (ad486.add ((x6_1).toNat * 2)) = some (.int .i16 ((rd_T47 l0 x6_1).f0)) ∧ w'.cell? ⟨(ad486.add ((x6_1).toNat * 2)).block, (ad486.add ((x6_1).toNat * 2)).off + 1, none⟩ = some (.int .i16 ((rd_T47 l0 x6_1).f1)) ∧ w'.cell? (ad486.add ((x6_1).toNat * 2)) = some (.int .i16 ((rd_T47 l0 x6_1).f0)) ∧ w'.cell? ⟨(ad486.add ((x6_1).toNat * 2)).block, (ad486.add ((x6_1).toNat * 2)).off + 1, none⟩ = some (.int .i16 ((rd_T47 l0 x6_1).f1)) ∧ w'.cell? (ad486.add ((x6_1).toNat * 2)) = some (.int .i16 ((rd_T47 l0 x6_1).f0)) ∧ w'.cell? ⟨(ad486.add ((x6_1).toNat * 2)).block, (ad486.add ((x6_1).toNat * 2)).off + 1, none⟩ = some (.int .i16 ((rd_T47 l0 x6_1).f1))) ∧ (Kd.R (Kd.int .i64) 2 w' w.heap.size (fun k_ => some k_ ≠ (s_.2.1 : Value).ownBlock ∧ some k_ ≠ (s_.2.2 : Value).ownBlock ∧ some k_ ≠ (.slice Ao8 x3_1.length co8 : Value).ownBlock ∧ some k_ ≠ (.slice Ao9 x4_1.length co9 : Value).ownBlock ∧ some k_ ≠ (.slice Ao10 x5_1.length co10 : Value).ownBlock) s_.1 y487) ∧ (Kd.R (Kd.int .i64) 2 w' w.heap.size (fun k_ => some k_ ≠ (s_.1 : Value).ownBlock ∧ some k_ ≠ (s_.2.2 : Value).ownBlock ∧ some k_ ≠ (.slice Ao8 x3_1.length co8 : Value).ownBlock ∧ some k_ ≠ (.slice Ao9 x4_1.length co9 : Value).ownBlock ∧ some k_ ≠ (.slice Ao10 x5_1.length co10 : Value).ownBlock) s_.2.1 y494) ∧ (Kd.R (Kd.int .i64) 2 w' w.heap.size (fun k_ => some k_ ≠ (s_.1 : Value).ownBlock ∧ some k_ ≠ (s_.2.1 : Value).ownBlock ∧ some k_ ≠ (.slice Ao8 x3_1.length co8 : Value).ownBlock ∧ some k_ ≠ (.slice Ao9 x4_1.length co9 : Value).ownBlock ∧ some k_ ≠ (.slice Ao10 x5_1.length co10 : Value).ownBlock) s_.2.2 y501) ∧ (Kd.R (Kd.int .i64) 2 w' w.heap.size (fun k_ => some k_ ≠ (s_.1 : Value).ownBlock ∧ some k_ ≠ (s_.2.1 : Value).ownBlock ∧ some k_ ≠ (s_.2.2 : Value).ownBlock ∧ some k_ ≠ (.slice Ao9 x4_1.length co9 : Value).ownBlock ∧ some k_ ≠ (.slice Ao10 x5_1.length co10 : Value).ownBlock) (.slice Ao8 x3_1.length co8) x3_1) ∧ (Kd.R (Kd.int .i64) 2 w' w.heap.size (fun k_ => some k_ ≠ (s_.1 : Value).ownBlock ∧ some k_ ≠ (s_.2.1 : Value).ownBlock ∧ some k_ ≠ (s_.2.2 : Value).ownBlock ∧ some k_ ≠ (.slice Ao8 x3_1.length co8 : Value).ownBlock ∧ some k_ ≠ (.slice Ao10 x5_1.length co10 : Value).ownBlock) (.slice Ao9 x4_1.length co9) x4_1) ∧ (Kd.R (Kd.int .i64) 2 w' w.heap.size (fun k_ => some k_ ≠ (s_.1 : Value).ownBlock ∧ some k_ ≠ (s_.2.1 : Value).ownBlock ∧ some k_ ≠ (s_.2.2 : Value).ownBlock ∧ some k_ ≠ (.slice Ao8 x3_1.length co8 : Value).ownBlock ∧ some k_ ≠ (.slice Ao9 x4_1.length co9 : Value).ownBlock) (.slice Ao10 x5_1.length co10) x5_1) ∧ (Below w.heap.size w w')) ?_ ?_
              rotate_left
              ·intro hJ7_16_26
               refine join_ (σ := Value × Value) 7 #[true, true, true, true, true, true, true, true, true, true, true, true, true, true, true, true, false, false, true, true, true, true, true, true, true, true, false, false, false, false, false] (fun s_ => [(25, s_.1), (26, s_.2)]) (fun s_ w' => (w'.cell? (ad486.add ((x6_1).toNat * 2)) = some (.int .i16 ((rd_T47 l0 x6_1).f0)) ∧ w'.cell? ⟨(ad486.add ((x6_1).toNat * 2)).block, (ad486.add ((x6_1).toNat * 2)).off + 1, none⟩ = some (.int .i16 ((rd_T47 l0 x6_1).f1)) ∧ w'.cell? (ad486.add ((x6_1).toNat * 2)) = some (.int .i16 ((rd_T47 l0 x6_1).f0)) ∧ w'.cell? ⟨(ad486.add ((x6_1).toNat * 2)).block, (ad486.add ((x6_1).toNat * 2)).off + 1, none⟩ = some (.int .i16 ((rd_T47 l0 x6_1).f1)) ∧ w'.cell? (ad486.add ((x6_1).toNat * 2)) = some (.int .i16 ((rd_T47 l0 x6_1).f0)) ∧ w'.cell? ⟨(ad486.add ((x6_1).toNat * 2)).block, (ad486.add ((x6_1).toNat * 2)).off + 1, none⟩ = some (.int .i16 ((rd_T47 l0 x6_1).f1))) ∧ (Kd.R (Kd.int .i64) 2 w' w.heap.size (fun k_ => some k_ ≠ (s_.2 : Value).ownBlock ∧ some k_ ≠ (.slice Ao9 x4_1.length co9 : Value).ownBlock ∧ some k_ ≠ (.slice Ao10 x5_1.length co10 : Value).ownBlock) s_.1 y487) ∧ (Kd.R (Kd.int .i64) 2 w' w.heap.size (fun k_ => some k_ ≠ (s_.1 : Value).ownBlock ∧ some k_ ≠ (.slice Ao9 x4_1.length co9 : Value).ownBlock ∧ some k_ ≠ (.slice Ao10 x5_1.length co10 : Value).ownBlock) s_.2 y490) ∧ (Kd.R (Kd.int .i64) 2 w' w.heap.size (fun k_ => some k_ ≠ (s_.1 : Value).ownBlock ∧ some k_ ≠ (s_.2 : Value).ownBlock ∧ some k_ ≠ (.slice Ao10 x5_1.length co10 : Value).ownBlock) (.slice Ao9 x4_1.length co9) x4_1) ∧ (Kd.R (Kd.int .i64) 2 w' w.heap.size (fun k_ => some k_ ≠ (s_.1 : Value).ownBlock ∧ some k_ ≠ (s_.2 : Value).ownBlock ∧ some k_ ≠ (.slice Ao9 x4_1.length co9 : Value).ownBlock) (.slice Ao10 x5_1.length co10) x5_1) ∧ (Below w.heap.size w w')) ?_ ?_
               rotate_left
               ·intro hJ7_8
                refine join_ (σ := Value × Value) 7 #[true, true, true, true, true, true, true, true, false, true, true, true, true, true, true, true, true, false, true, true, true, true, true, true, true, true, false, false, false, false, false] (fun s_ => [(25, s_.1), (34, s_.2)]) (fun s_ w' => (w'.cell? (ad486.add ((x6_1).toNat * 2)) = some (.int .i16 ((rd_T47 l0 x6_1).f0)) ∧ w'.cell? ⟨(ad486.add ((x6_1).toNat * 2)).block, (ad486.add ((x6_1).toNat * 2)).off + 1, none⟩ = some (.int .i16 ((rd_T47 l0 x6_1).f1)) ∧ w'.cell? (ad486.add ((x6_1).toNat * 2)) = some (.int .i16 ((rd_T47 l0 x6_1).f0)) ∧ w'.cell? ⟨(ad486.add ((x6_1).toNat * 2)).block, (ad486.add ((x6_1).toNat * 2)).off + 1, none⟩ = some (.int .i16 ((rd_T47 l0 x6_1).f1)) ∧ w'.cell? (ad486.add ((x6_1).toNat * 2)) = some (.int .i16 ((rd_T47 l0 x6_1).f0)) ∧ w'.cell? ⟨(ad486.add ((x6_1).toNat * 2)).block, (ad486.add ((x6_1).toNat * 2)).off + 1, none⟩ = some (.int .i16 ((rd_T47 l0 x6_1).f1))) ∧ (Kd.R (Kd.int .i64) 2 w' w.heap.size (fun k_ => some k_ ≠ (s_.2 : Value).ownBlock ∧ some k_ ≠ (.slice Ao8 x3_1.length co8 : Value).ownBlock ∧ some k_ ≠ (.slice Ao9 x4_1.length co9 : Value).ownBlock ∧ some k_ ≠ (.slice Ao10 x5_1.length co10 : Value).ownBlock) s_.1 y487) ∧ (Kd.R (Kd.int .i64) 2 w' w.heap.size (fun k_ => some k_ ≠ (s_.1 : Value).ownBlock ∧ some k_ ≠ (.slice Ao8 x3_1.length co8 : Value).ownBlock ∧ some k_ ≠ (.slice Ao9 x4_1.length co9 : Value).ownBlock ∧ some k_ ≠ (.slice Ao10 x5_1.length co10 : Value).ownBlock) s_.2 y494) ∧ (Kd.R (Kd.int .i64) 2 w' w.heap.size (fun k_ => some k_ ≠ (s_.1 : Value).ownBlock ∧ some k_ ≠ (s_.2 : Value).ownBlock ∧ some k_ ≠ (.slice Ao9 x4_1.length co9 : Value).ownBlock ∧ some k_ ≠ (.slice Ao10 x5_1.length co10 : Value).ownBlock) (.slice Ao8 x3_1.length co8) x3_1) ∧ (Kd.R (Kd.int .i64) 2 w' w.heap.size (fun k_ => some k_ ≠ (s_.1 : Value).ownBlock ∧ some k_ ≠ (s_.2 : Value).ownBlock ∧ some k_ ≠ (.slice Ao8 x3_1.length co8 : Value).ownBlock ∧ some k_ ≠ (.slice Ao10 x5_1.length co10 : Value).ownBlock) (.slice Ao9 x4_1.length co9) x4_1) ∧ (Kd.R (Kd.int .i64) 2 w' w.heap.size (fun k_ => some k_ ≠ (s_.1 : Value).ownBlock ∧ some k_ ≠ (s_.2 : Value).ownBlock ∧ some k_ ≠ (.slice Ao8 x3_1.length co8 : Value).ownBlock ∧ some k_ ≠ (.slice Ao9 x4_1.length co9 : Value).ownBlock) (.slice Ao10 x5_1.length co10) x5_1) ∧ (Below w.heap.size w w')) ?_ ?_
                rotate_left
                ·intro hJ7_16
                 refine join_ (σ := Value × Value) 7 #[true, true, true, true, true, true, true, true, false, true, true, true, true, true, true, true, false, false, true, true, true, true, true, true, true, true, true, false, false, false, false] (fun s_ => [(25, s_.1), (44, s_.2)]) (fun s_ w' => (w'.cell? (ad486.add ((x6_1).toNat * 2)) = some (.int .i16 ((rd_T47 l0 x6_1).f0)) ∧ w'.cell? ⟨(ad486.add ((x6_1).toNat * 2)).block, (ad486.add ((x6_1).toNat * 2)).off + 1, none⟩ = some (.int .i16 ((rd_T47 l0 x6_1).f1)) ∧ w'.cell? (ad486.add ((x6_1).toNat * 2)) = some (.int .i16 ((rd_T47 l0 x6_1).f0)) ∧ w'.cell? ⟨(ad486.add ((x6_1).toNat * 2)).block, (ad486.add ((x6_1).toNat * 2)).off + 1, none⟩ = some (.int .i16 ((rd_T47 l0 x6_1).f1)) ∧ w'.cell? (ad486.add ((x6_1).toNat * 2)) = some (.int .i16 ((rd_T47 l0 x6_1).f0)) ∧ w'.cell? ⟨(ad486.add ((x6_1).toNat * 2)).block, (ad486.add ((x6_1).toNat * 2)).off + 1, none⟩ = some (.int .i16 ((rd_T47 l0 x6_1).f1))) ∧ (Kd.R (Kd.int .i64) 2 w' w.heap.size (fun k_ => some k_ ≠ (s_.2 : Value).ownBlock ∧ some k_ ≠ (.slice Ao8 x3_1.length co8 : Value).ownBlock ∧ some k_ ≠ (.slice Ao9 x4_1.length co9 : Value).ownBlock ∧ some k_ ≠ (.slice Ao10 x5_1.length co10 : Value).ownBlock) s_.1 y487) ∧ (Kd.R (Kd.int .i64) 2 w' w.heap.size (fun k_ => some k_ ≠ (s_.1 : Value).ownBlock ∧ some k_ ≠ (.slice Ao8 x3_1.length co8 : Value).ownBlock ∧ some k_ ≠ (.slice Ao9 x4_1.length co9 : Value).ownBlock ∧ some k_ ≠ (.slice Ao10 x5_1.length co10 : Value).ownBlock) s_.2 y501) ∧ (Kd.R (Kd.int .i64) 2 w' w.heap.size (fun k_ => some k_ ≠ (s_.1 : Value).ownBlock ∧ some k_ ≠ (s_.2 : Value).ownBlock ∧ some k_ ≠ (.slice Ao9 x4_1.length co9 : Value).ownBlock ∧ some k_ ≠ (.slice Ao10 x5_1.length co10 : Value).ownBlock) (.slice Ao8 x3_1.length co8) x3_1) ∧ (Kd.R (Kd.int .i64) 2 w' w.heap.size (fun k_ => some k_ ≠ (s_.1 : Value).ownBlock ∧ some k_ ≠ (s_.2 : Value).ownBlock ∧ some k_ ≠ (.slice Ao8 x3_1.length co8 : Value).ownBlock ∧ some k_ ≠ (.slice Ao10 x5_1.length co10 : Value).ownBlock) (.slice Ao9 x4_1.length co9) x4_1) ∧ (Kd.R (Kd.int .i64) 2 w' w.heap.size (fun k_ => some k_ ≠ (s_.1 : Value).ownBlock ∧ some k_ ≠ (s_.2 : Value).ownBlock ∧ some k_ ≠ (.slice Ao8 x3_1.length co8 : Value).ownBlock ∧ some k_ ≠ (.slice Ao9 x4_1.length co9 : Value).ownBlock) (.slice Ao10 x5_1.length co10) x5_1) ∧ (Below w.heap.size w w')) ?_ ?_
                 rotate_left
                 ·intro hJ7_26
                  refine join_ (σ := Value × Value) 7 #[true, true, true, true, true, true, true, false, false, true, true, true, true, true, true, true, true, false, true, true, true, true, true, true, true, true, true, false, false, false, false] (fun s_ => [(34, s_.1), (44, s_.2)]) (fun s_ w' => (w'.cell? (ad486.add ((x6_1).toNat * 2)) = some (.int .i16 ((rd_T47 l0 x6_1).f0)) ∧ w'.cell? ⟨(ad486.add ((x6_1).toNat * 2)).block, (ad486.add ((x6_1).toNat * 2)).off + 1, none⟩ = some (.int .i16 ((rd_T47 l0 x6_1).f1)) ∧ w'.cell? (ad486.add ((x6_1).toNat * 2)) = some (.int .i16 ((rd_T47 l0 x6_1).f0)) ∧ w'.cell? ⟨(ad486.add ((x6_1).toNat * 2)).block, (ad486.add ((x6_1).toNat * 2)).off + 1, none⟩ = some (.int .i16 ((rd_T47 l0 x6_1).f1)) ∧ w'.cell? (ad486.add ((x6_1).toNat * 2)) = some (.int .i16 ((rd_T47 l0 x6_1).f0)) ∧ w'.cell? ⟨(ad486.add ((x6_1).toNat * 2)).block, (ad486.add ((x6_1).toNat * 2)).off + 1, none⟩ = some (.int .i16 ((rd_T47 l0 x6_1).f1))) ∧ (Kd.R (Kd.int .i64) 2 w' w.heap.size (fun k_ => some k_ ≠ (s_.2 : Value).ownBlock ∧ some k_ ≠ (.slice Ao8 x3_1.length co8 : Value).ownBlock ∧ some k_ ≠ (.slice Ao9 x4_1.length co9 : Value).ownBlock ∧ some k_ ≠ (.slice Ao10 x5_1.length co10 : Value).ownBlock) s_.1 y494) ∧ (Kd.R (Kd.int .i64) 2 w' w.heap.size (fun k_ => some k_ ≠ (s_.1 : Value).ownBlock ∧ some k_ ≠ (.slice Ao8 x3_1.length co8 : Value).ownBlock ∧ some k_ ≠ (.slice Ao9 x4_1.length co9 : Value).ownBlock ∧ some k_ ≠ (.slice Ao10 x5_1.length co10 : Value).ownBlock) s_.2 y501) ∧ (Kd.R (Kd.int .i64) 2 w' w.heap.size (fun k_ => some k_ ≠ (s_.1 : Value).ownBlock ∧ some k_ ≠ (s_.2 : Value).ownBlock ∧ some k_ ≠ (.slice Ao9 x4_1.length co9 : Value).ownBlock ∧ some k_ ≠ (.slice Ao10 x5_1.length co10 : Value).ownBlock) (.slice Ao8 x3_1.length co8) x3_1) ∧ (Kd.R (Kd.int .i64) 2 w' w.heap.size (fun k_ => some k_ ≠ (s_.1 : Value).ownBlock ∧ some k_ ≠ (s_.2 : Value).ownBlock ∧ some k_ ≠ (.slice Ao8 x3_1.length co8 : Value).ownBlock ∧ some k_ ≠ (.slice Ao10 x5_1.length co10 : Value).ownBlock) (.slice Ao9 x4_1.length co9) x4_1) ∧ (Kd.R (Kd.int .i64) 2 w' w.heap.size (fun k_ => some k_ ≠ (s_.1 : Value).ownBlock ∧ some k_ ≠ (s_.2 : Value).ownBlock ∧ some k_ ≠ (.slice Ao8 x3_1.length co8 : Value).ownBlock ∧ some k_ ≠ (.slice Ao9 x4_1.length co9 : Value).ownBlock) (.slice Ao10 x5_1.length co10) x5_1) ∧ (Below w.heap.size w w')) ?_ ?_
                  rotate_left
                  ·intro hJ16_26
                   refine join_ (σ := Value) 8 #[true, true, true, true, true, true, true, true, false, true, true, true, true, true, true, true, false, false, true, true, true, true, true, true, true, true, false, false, false, false, false] (fun s_ => [(25, s_)]) (fun s_ w' => (w'.cell? (ad486.add ((x6_1).toNat * 2)) = some (.int .i16 ((rd_T47 l0 x6_1).f0)) ∧ w'.cell? ⟨(ad486.add ((x6_1).toNat * 2)).block, (ad486.add ((x6_1).toNat * 2)).off + 1, none⟩ = some (.int .i16 ((rd_T47 l0 x6_1).f1)) ∧ w'.cell? (ad486.add ((x6_1).toNat * 2)) = some (.int .i16 ((rd_T47 l0 x6_1).f0)) ∧ w'.cell? ⟨(ad486.add ((x6_1).toNat * 2)).block, (ad486.add ((x6_1).toNat * 2)).off + 1, none⟩ = some (.int .i16 ((rd_T47 l0 x6_1).f1)) ∧ w'.cell? (ad486.add ((x6_1).toNat * 2)) = some (.int .i16 ((rd_T47 l0 x6_1).f0)) ∧ w'.cell? ⟨(ad486.add ((x6_1).toNat * 2)).block, (ad486.add ((x6_1).toNat * 2)).off + 1, none⟩ = some (.int .i16 ((rd_T47 l0 x6_1).f1))) ∧ (Kd.R (Kd.int .i64) 2 w' w.heap.size (fun k_ => some k_ ≠ (.slice Ao8 x3_1.length co8 : Value).ownBlock ∧ some k_ ≠ (.slice Ao9 x4_1.length co9 : Value).ownBlock ∧ some k_ ≠ (.slice Ao10 x5_1.length co10 : Value).ownBlock) s_ y487) ∧ (Kd.R (Kd.int .i64) 2 w' w.heap.size (fun k_ => some k_ ≠ (s_ : Value).ownBlock ∧ some k_ ≠ (.slice Ao9 x4_1.length co9 : Value).ownBlock ∧ some k_ ≠ (.slice Ao10 x5_1.length co10 : Value).ownBlock) (.slice Ao8 x3_1.length co8) x3_1) ∧ (Kd.R (Kd.int .i64) 2 w' w.heap.size (fun k_ => some k_ ≠ (s_ : Value).ownBlock ∧ some k_ ≠ (.slice Ao8 x3_1.length co8 : Value).ownBlock ∧ some k_ ≠ (.slice Ao10 x5_1.length co10 : Value).ownBlock) (.slice Ao9 x4_1.length co9) x4_1) ∧ (Kd.R (Kd.int .i64) 2 w' w.heap.size (fun k_ => some k_ ≠ (s_ : Value).ownBlock ∧ some k_ ≠ (.slice Ao8 x3_1.length co8 : Value).ownBlock ∧ some k_ ≠ (.slice Ao9 x4_1.length co9 : Value).ownBlock) (.slice Ao10 x5_1.length co10) x5_1) ∧ (Below w.heap.size w w')) ?_ ?_
                   rotate_left
                   ·intro hJ7
                    refine join_ (σ := Value) 8 #[true, true, true, true, true, true, true, false, false, true, true, true, true, true, true, true, true, false, true, true, true, true, true, true, true, true, false, false, false, false, false] (fun s_ => [(34, s_)]) (fun s_ w' => (w'.cell? (ad486.add ((x6_1).toNat * 2)) = some (.int .i16 ((rd_T47 l0 x6_1).f0)) ∧ w'.cell? ⟨(ad486.add ((x6_1).toNat * 2)).block, (ad486.add ((x6_1).toNat * 2)).off + 1, none⟩ = some (.int .i16 ((rd_T47 l0 x6_1).f1)) ∧ w'.cell? (ad486.add ((x6_1).toNat * 2)) = some (.int .i16 ((rd_T47 l0 x6_1).f0)) ∧ w'.cell? ⟨(ad486.add ((x6_1).toNat * 2)).block, (ad486.add ((x6_1).toNat * 2)).off + 1, none⟩ = some (.int .i16 ((rd_T47 l0 x6_1).f1)) ∧ w'.cell? (ad486.add ((x6_1).toNat * 2)) = some (.int .i16 ((rd_T47 l0 x6_1).f0)) ∧ w'.cell? ⟨(ad486.add ((x6_1).toNat * 2)).block, (ad486.add ((x6_1).toNat * 2)).off + 1, none⟩ = some (.int .i16 ((rd_T47 l0 x6_1).f1))) ∧ (Kd.R (Kd.int .i64) 2 w' w.heap.size (fun k_ => some k_ ≠ (.slice Ao8 x3_1.length co8 : Value).ownBlock ∧ some k_ ≠ (.slice Ao9 x4_1.length co9 : Value).ownBlock ∧ some k_ ≠ (.slice Ao10 x5_1.length co10 : Value).ownBlock) s_ y494) ∧ (Kd.R (Kd.int .i64) 2 w' w.heap.size (fun k_ => some k_ ≠ (s_ : Value).ownBlock ∧ some k_ ≠ (.slice Ao9 x4_1.length co9 : Value).ownBlock ∧ some k_ ≠ (.slice Ao10 x5_1.length co10 : Value).ownBlock) (.slice Ao8 x3_1.length co8) x3_1) ∧ (Kd.R (Kd.int .i64) 2 w' w.heap.size (fun k_ => some k_ ≠ (s_ : Value).ownBlock ∧ some k_ ≠ (.slice Ao8 x3_1.length co8 : Value).ownBlock ∧ some k_ ≠ (.slice Ao10 x5_1.length co10 : Value).ownBlock) (.slice Ao9 x4_1.length co9) x4_1) ∧ (Kd.R (Kd.int .i64) 2 w' w.heap.size (fun k_ => some k_ ≠ (s_ : Value).ownBlock ∧ some k_ ≠ (.slice Ao8 x3_1.length co8 : Value).ownBlock ∧ some k_ ≠ (.slice Ao9 x4_1.length co9 : Value).ownBlock) (.slice Ao10 x5_1.length co10) x5_1) ∧ (Below w.heap.size w w')) ?_ ?_
                    rotate_left
                    ·intro hJ16
                     refine join_ (σ := Value) 8 #[true, true, true, true, true, true, true, false, false, true, true, true, true, true, true, true, false, false, true, true, true, true, true, true, true, true, true, false, false, false, false] (fun s_ => [(44, s_)]) (fun s_ w' => (w'.cell? (ad486.add ((x6_1).toNat * 2)) = some (.int .i16 ((rd_T47 l0 x6_1).f0)) ∧ w'.cell? ⟨(ad486.add ((x6_1).toNat * 2)).block, (ad486.add ((x6_1).toNat * 2)).off + 1, none⟩ = some (.int .i16 ((rd_T47 l0 x6_1).f1)) ∧ w'.cell? (ad486.add ((x6_1).toNat * 2)) = some (.int .i16 ((rd_T47 l0 x6_1).f0)) ∧ w'.cell? ⟨(ad486.add ((x6_1).toNat * 2)).block, (ad486.add ((x6_1).toNat * 2)).off + 1, none⟩ = some (.int .i16 ((rd_T47 l0 x6_1).f1)) ∧ w'.cell? (ad486.add ((x6_1).toNat * 2)) = some (.int .i16 ((rd_T47 l0 x6_1).f0)) ∧ w'.cell? ⟨(ad486.add ((x6_1).toNat * 2)).block, (ad486.add ((x6_1).toNat * 2)).off + 1, none⟩ = some (.int .i16 ((rd_T47 l0 x6_1).f1))) ∧ (Kd.R (Kd.int .i64) 2 w' w.heap.size (fun k_ => some k_ ≠ (.slice Ao8 x3_1.length co8 : Value).ownBlock ∧ some k_ ≠ (.slice Ao9 x4_1.length co9 : Value).ownBlock ∧ some k_ ≠ (.slice Ao10 x5_1.length co10 : Value).ownBlock) s_ y501) ∧ (Kd.R (Kd.int .i64) 2 w' w.heap.size (fun k_ => some k_ ≠ (s_ : Value).ownBlock ∧ some k_ ≠ (.slice Ao9 x4_1.length co9 : Value).ownBlock ∧ some k_ ≠ (.slice Ao10 x5_1.length co10 : Value).ownBlock) (.slice Ao8 x3_1.length co8) x3_1) ∧ (Kd.R (Kd.int .i64) 2 w' w.heap.size (fun k_ => some k_ ≠ (s_ : Value).ownBlock ∧ some k_ ≠ (.slice Ao8 x3_1.length co8 : Value).ownBlock ∧ some k_ ≠ (.slice Ao10 x5_1.length co10 : Value).ownBlock) (.slice Ao9 x4_1.length co9) x4_1) ∧ (Kd.R (Kd.int .i64) 2 w' w.heap.size (fun k_ => some k_ ≠ (s_ : Value).ownBlock ∧ some k_ ≠ (.slice Ao8 x3_1.length co8 : Value).ownBlock ∧ some k_ ≠ (.slice Ao9 x4_1.length co9 : Value).ownBlock) (.slice Ao10 x5_1.length co10) x5_1) ∧ (Below w.heap.size w w')) ?_ ?_
                     rotate_left
                     ·intro hJ26
                      refine three_ (i := 7) (j := 16) (k := 26) (Ni := some 25) (Nj := some 34) (Nk := some 44) (bl 31 66911999) (bl 31 66977407) (bl 31 134020735) rfl rfl rfl rfl rfl rfl (three_of HT_.out (by kernel_rfl)) (by decide) (by decide) (by decide) (fun K hK => ?_) (fun K hK => ?_) (fun K hK => ?_)
                      ·skip
                       refine Kd.R_lit_step (Kd.int .i64) _ 2 ?hg (N := 25) ?hd (xs := ([wrap64 ((rd_T47 l0 x6_1).f0)] : List Int)) (inner := [.int .i64 (wrap64 ((rd_T47 l0 x6_1).f0))]) (ok := fun _ => True) (okp := fun _ => True) ?hr ?hp (fun _ hk => hk) trivial (Below.refl _ _) (Nat.le_refl _) (by simp) ?_; (case hd => rfl); (case hg => rfl); (case hr => first | (go_simp; done) | (go_simp; rfl)); (case hp => exact (Reps.one (show Kd.M (Kd.int .i64) _ _ _ (wrap64 ((rd_T47 l0 x6_1).f0)) [.int .i64 (wrap64 ((rd_T47 l0 x6_1).f0))] from rfl) (Reps.none _ _)))
                       intro v488 w12 ho13 hb hg_ hnew_
                       clear hg_ hnew_
                       (first | rw [← Ny487.out] at ho13 | (simp only [Int.reduceToNat] at ho13; rw [← Ny487.out] at ho13))
                       have n0_ := Aside0.mk (Kd.R_elder' (by (with_reducible repeat (first | apply Kd.R_alloc | apply Kd.R_drewN | apply Kd.R_drew)); exact HO_3.out) (Kd.R_base ho13) hb)
                       have n1_ := Aside0.mk (Kd.R_elder' (by (with_reducible repeat (first | apply Kd.R_alloc | apply Kd.R_drewN | apply Kd.R_drew)); exact HO_4.out) (Kd.R_base ho13) hb)
                       have n2_ := Aside0.mk (Kd.R_elder' (by (with_reducible repeat (first | apply Kd.R_alloc | apply Kd.R_drewN | apply Kd.R_drew)); exact HO_5.out) (Kd.R_base ho13) hb)
                       have n3_ := Aside0.mk (Kd.R_lower (Kd.R_new' (Kd.R_new' (Kd.R_new' ho13 (Kd.R_lt (by (with_reducible repeat (first | apply Kd.R_alloc | apply Kd.R_drewN | apply Kd.R_drew)); exact HO_3.out))) (Kd.R_lt (by (with_reducible repeat (first | apply Kd.R_alloc | apply Kd.R_drewN | apply Kd.R_drew)); exact HO_4.out))) (Kd.R_lt (by (with_reducible repeat (first | apply Kd.R_alloc | apply Kd.R_drewN | apply Kd.R_drew)); exact HO_5.out))) (below_size (by repeat (first | (with_reducible first | exact HB.out | apply below_alloc | apply pw_below_drewN | apply below_drew1) | exact HB.out))))
                       have n4_ := Aside0.mk (below_step (by repeat (first | (with_reducible first | exact HB.out | apply below_alloc | apply pw_below_drewN | apply below_drew1) | exact HB.out)) hb)
                       clear HO_3
                       clear HO_4
                       clear HO_5
                       clear HB
                       have HO_3 := n0_
                       have HO_4 := n1_
                       have HO_5 := n2_
                       have HO489 := n3_
                       have HB := n4_
                       clear n0_ n1_ n2_ n3_ n4_
                       clear hb ho13
                       refine hK.out _ _ ⟨((HB.out.cell (World.block_lt_of_cell? w _ hw486_0)).trans hw486_0), ((HB.out.cell (World.block_lt_of_cell? w _ hw486_1)).trans hw486_1), ((HB.out.cell (World.block_lt_of_cell? w _ hw493_0)).trans hw493_0), ((HB.out.cell (World.block_lt_of_cell? w _ hw493_1)).trans hw493_1), ((HB.out.cell (World.block_lt_of_cell? w _ hw500_0)).trans hw500_0), ((HB.out.cell (World.block_lt_of_cell? w _ hw500_1)).trans hw500_1)⟩ (fun hHeld => ?_)
                       clear hK K
                       refine norm_ (a' := ?_) ?_ ?_
                       rotate_left
                       ·show Act.put _ (some 25) _ = _
                        simp only [puts_]
                        rfl
                       exact norm_ (by first | (simp only [putAll, Act.put, List.setIfInBounds_toArray, List.set_cons_zero, List.set_cons_succ]; done) | (simp only [putAll, Act.put, List.setIfInBounds_toArray, List.set_cons_zero, List.set_cons_succ]; rfl)) (hJ7 (v488) _ ⟨hHeld, (by (with_reducible repeat (first | apply Kd.R_alloc | apply Kd.R_drewN | apply Kd.R_drew)); exact Kd.R_mono HO489.out (fun _ hk => ⟨hk.1.1.2, ⟨hk.1.2, hk.2⟩⟩)), (by (with_reducible repeat (first | apply Kd.R_alloc | apply Kd.R_drewN | apply Kd.R_drew)); exact Kd.R_mono HO_3.out (fun _ hk => ⟨hk.2, ⟨hk.1.1, hk.1.2⟩⟩)), (by (with_reducible repeat (first | apply Kd.R_alloc | apply Kd.R_drewN | apply Kd.R_drew)); exact Kd.R_mono HO_4.out (fun _ hk => ⟨hk.2, ⟨hk.1.1, hk.1.2⟩⟩)), (by (with_reducible repeat (first | apply Kd.R_alloc | apply Kd.R_drewN | apply Kd.R_drew)); exact Kd.R_mono HO_5.out (fun _ hk => ⟨hk.2, ⟨hk.1.1, hk.1.2⟩⟩)), (by repeat (first | (with_reducible first | exact HB.out | apply below_alloc | apply pw_below_drewN | apply below_drew1) | exact HB.out))⟩)
                      ·skip
                       refine Kd.R_lit_step (Kd.int .i64) _ 2 ?hg (N := 34) ?hd (xs := ([wrap64 ((rd_T47 l0 x6_1).f1)] : List Int)) (inner := [.int .i64 (wrap64 ((rd_T47 l0 x6_1).f1))]) (ok := fun _ => True) (okp := fun _ => True) ?hr ?hp (fun _ hk => hk) trivial (Below.refl _ _) (Nat.le_refl _) (by simp) ?_; (case hd => rfl); (case hg => rfl); (case hr => first | (go_simp; done) | (go_simp; rfl)); (case hp => exact (Reps.one (show Kd.M (Kd.int .i64) _ _ _ (wrap64 ((rd_T47 l0 x6_1).f1)) [.int .i64 (wrap64 ((rd_T47 l0 x6_1).f1))] from rfl) (Reps.none _ _)))
                       intro v495 w12 ho13 hb hg_ hnew_
                       clear hg_ hnew_
                       (first | rw [← Ny494.out] at ho13 | (simp only [Int.reduceToNat] at ho13; rw [← Ny494.out] at ho13))
                       have n0_ := Aside0.mk (Kd.R_elder' (by (with_reducible repeat (first | apply Kd.R_alloc | apply Kd.R_drewN | apply Kd.R_drew)); exact HO_3.out) (Kd.R_base ho13) hb)
                       have n1_ := Aside0.mk (Kd.R_elder' (by (with_reducible repeat (first | apply Kd.R_alloc | apply Kd.R_drewN | apply Kd.R_drew)); exact HO_4.out) (Kd.R_base ho13) hb)
                       have n2_ := Aside0.mk (Kd.R_elder' (by (with_reducible repeat (first | apply Kd.R_alloc | apply Kd.R_drewN | apply Kd.R_drew)); exact HO_5.out) (Kd.R_base ho13) hb)
                       have n3_ := Aside0.mk (Kd.R_lower (Kd.R_new' (Kd.R_new' (Kd.R_new' ho13 (Kd.R_lt (by (with_reducible repeat (first | apply Kd.R_alloc | apply Kd.R_drewN | apply Kd.R_drew)); exact HO_3.out))) (Kd.R_lt (by (with_reducible repeat (first | apply Kd.R_alloc | apply Kd.R_drewN | apply Kd.R_drew)); exact HO_4.out))) (Kd.R_lt (by (with_reducible repeat (first | apply Kd.R_alloc | apply Kd.R_drewN | apply Kd.R_drew)); exact HO_5.out))) (below_size (by repeat (first | (with_reducible first | exact HB.out | apply below_alloc | apply pw_below_drewN | apply below_drew1) | exact HB.out))))
                       have n4_ := Aside0.mk (below_step (by repeat (first | (with_reducible first | exact HB.out | apply below_alloc | apply pw_below_drewN | apply below_drew1) | exact HB.out)) hb)
                       clear HO_3
                       clear HO_4
                       clear HO_5
                       clear HB
                       have HO_3 := n0_
                       have HO_4 := n1_
                       have HO_5 := n2_
                       have HO496 := n3_
                       have HB := n4_
                       clear n0_ n1_ n2_ n3_ n4_
                       clear hb ho13
                       refine hK.out _ _ ⟨((HB.out.cell (World.block_lt_of_cell? w _ hw486_0)).trans hw486_0), ((HB.out.cell (World.block_lt_of_cell? w _ hw486_1)).trans hw486_1), ((HB.out.cell (World.block_lt_of_cell? w _ hw493_0)).trans hw493_0), ((HB.out.cell (World.block_lt_of_cell? w _ hw493_1)).trans hw493_1), ((HB.out.cell (World.block_lt_of_cell? w _ hw500_0)).trans hw500_0), ((HB.out.cell (World.block_lt_of_cell? w _ hw500_1)).trans hw500_1)⟩ (fun hHeld => ?_)
                       clear hK K
                       refine norm_ (a' := ?_) ?_ ?_
                       rotate_left
                       ·show Act.put _ (some 34) _ = _
                        simp only [puts_]
                        rfl
                       exact norm_ (by first | (simp only [putAll, Act.put, List.setIfInBounds_toArray, List.set_cons_zero, List.set_cons_succ]; done) | (simp only [putAll, Act.put, List.setIfInBounds_toArray, List.set_cons_zero, List.set_cons_succ]; rfl)) (hJ16 (v495) _ ⟨hHeld, (by (with_reducible repeat (first | apply Kd.R_alloc | apply Kd.R_drewN | apply Kd.R_drew)); exact Kd.R_mono HO496.out (fun _ hk => ⟨hk.1.1.2, ⟨hk.1.2, hk.2⟩⟩)), (by (with_reducible repeat (first | apply Kd.R_alloc | apply Kd.R_drewN | apply Kd.R_drew)); exact Kd.R_mono HO_3.out (fun _ hk => ⟨hk.2, ⟨hk.1.1, hk.1.2⟩⟩)), (by (with_reducible repeat (first | apply Kd.R_alloc | apply Kd.R_drewN | apply Kd.R_drew)); exact Kd.R_mono HO_4.out (fun _ hk => ⟨hk.2, ⟨hk.1.1, hk.1.2⟩⟩)), (by (with_reducible repeat (first | apply Kd.R_alloc | apply Kd.R_drewN | apply Kd.R_drew)); exact Kd.R_mono HO_5.out (fun _ hk => ⟨hk.2, ⟨hk.1.1, hk.1.2⟩⟩)), (by repeat (first | (with_reducible first | exact HB.out | apply below_alloc | apply pw_below_drewN | apply below_drew1) | exact HB.out))⟩)
                      ·skip
                       refine Kd.R_lit_step (Kd.int .i64) _ 2 ?hg (N := 44) ?hd (xs := ([wrap64 (2 * (wrap64 ((rd_T47 l0 x6_1).f1)))] : List Int)) (inner := [.int .i64 (wrap64 (2 * (wrap64 ((rd_T47 l0 x6_1).f1))))]) (ok := fun _ => True) (okp := fun _ => True) ?hr ?hp (fun _ hk => hk) trivial (Below.refl _ _) (Nat.le_refl _) (by simp) ?_; (case hd => rfl); (case hg => rfl); (case hr => first | (go_simp; done) | (go_simp; rfl)); (case hp => exact (Reps.one (show Kd.M (Kd.int .i64) _ _ _ (wrap64 (2 * (wrap64 ((rd_T47 l0 x6_1).f1)))) [.int .i64 (wrap64 (2 * (wrap64 ((rd_T47 l0 x6_1).f1))))] from rfl) (Reps.none _ _)))
                       intro v502 w12 ho13 hb hg_ hnew_
                       clear hg_ hnew_
                       (first | rw [← Ny501.out] at ho13 | (simp only [Int.reduceToNat] at ho13; rw [← Ny501.out] at ho13))
                       have n0_ := Aside0.mk (Kd.R_elder' (by (with_reducible repeat (first | apply Kd.R_alloc | apply Kd.R_drewN | apply Kd.R_drew)); exact HO_3.out) (Kd.R_base ho13) hb)
                       have n1_ := Aside0.mk (Kd.R_elder' (by (with_reducible repeat (first | apply Kd.R_alloc | apply Kd.R_drewN | apply Kd.R_drew)); exact HO_4.out) (Kd.R_base ho13) hb)
                       have n2_ := Aside0.mk (Kd.R_elder' (by (with_reducible repeat (first | apply Kd.R_alloc | apply Kd.R_drewN | apply Kd.R_drew)); exact HO_5.out) (Kd.R_base ho13) hb)
                       have n3_ := Aside0.mk (Kd.R_lower (Kd.R_new' (Kd.R_new' (Kd.R_new' ho13 (Kd.R_lt (by (with_reducible repeat (first | apply Kd.R_alloc | apply Kd.R_drewN | apply Kd.R_drew)); exact HO_3.out))) (Kd.R_lt (by (with_reducible repeat (first | apply Kd.R_alloc | apply Kd.R_drewN | apply Kd.R_drew)); exact HO_4.out))) (Kd.R_lt (by (with_reducible repeat (first | apply Kd.R_alloc | apply Kd.R_drewN | apply Kd.R_drew)); exact HO_5.out))) (below_size (by repeat (first | (with_reducible first | exact HB.out | apply below_alloc | apply pw_below_drewN | apply below_drew1) | exact HB.out))))
                       have n4_ := Aside0.mk (below_step (by repeat (first | (with_reducible first | exact HB.out | apply below_alloc | apply pw_below_drewN | apply below_drew1) | exact HB.out)) hb)
                       clear HO_3
                       clear HO_4
                       clear HO_5
                       clear HB
                       have HO_3 := n0_
                       have HO_4 := n1_
                       have HO_5 := n2_
                       have HO503 := n3_
                       have HB := n4_
                       clear n0_ n1_ n2_ n3_ n4_
                       clear hb ho13
                       refine hK.out _ _ ⟨((HB.out.cell (World.block_lt_of_cell? w _ hw486_0)).trans hw486_0), ((HB.out.cell (World.block_lt_of_cell? w _ hw486_1)).trans hw486_1), ((HB.out.cell (World.block_lt_of_cell? w _ hw493_0)).trans hw493_0), ((HB.out.cell (World.block_lt_of_cell? w _ hw493_1)).trans hw493_1), ((HB.out.cell (World.block_lt_of_cell? w _ hw500_0)).trans hw500_0), ((HB.out.cell (World.block_lt_of_cell? w _ hw500_1)).trans hw500_1)⟩ (fun hHeld => ?_)
                       clear hK K
                       refine norm_ (a' := ?_) ?_ ?_
                       rotate_left
                       ·show Act.put _ (some 44) _ = _
                        simp only [puts_]
                        rfl
                       exact norm_ (by first | (simp only [putAll, Act.put, List.setIfInBounds_toArray, List.set_cons_zero, List.set_cons_succ]; done) | (simp only [putAll, Act.put, List.setIfInBounds_toArray, List.set_cons_zero, List.set_cons_succ]; rfl)) (hJ26 (v502) _ ⟨hHeld, (by (with_reducible repeat (first | apply Kd.R_alloc | apply Kd.R_drewN | apply Kd.R_drew)); exact Kd.R_mono HO503.out (fun _ hk => ⟨hk.1.1.2, ⟨hk.1.2, hk.2⟩⟩)), (by (with_reducible repeat (first | apply Kd.R_alloc | apply Kd.R_drewN | apply Kd.R_drew)); exact Kd.R_mono HO_3.out (fun _ hk => ⟨hk.2, ⟨hk.1.1, hk.1.2⟩⟩)), (by (with_reducible repeat (first | apply Kd.R_alloc | apply Kd.R_drewN | apply Kd.R_drew)); exact Kd.R_mono HO_4.out (fun _ hk => ⟨hk.2, ⟨hk.1.1, hk.1.2⟩⟩)), (by (with_reducible repeat (first | apply Kd.R_alloc | apply Kd.R_drewN | apply Kd.R_drew)); exact Kd.R_mono HO_5.out (fun _ hk => ⟨hk.2, ⟨hk.1.1, hk.1.2⟩⟩)), (by repeat (first | (with_reducible first | exact HB.out | apply below_alloc | apply pw_below_drewN | apply below_drew1) | exact HB.out))⟩)
                     ·skip
                      rintro v502 w14 ⟨hS_, h0_, h1_, h2_, h3_, h4_⟩
                      have n0_ : Aside0 (Kd.R (Kd.int .i64) 2 w14 w.heap.size (fun k_ => some k_ ≠ (.slice Ao8 x3_1.length co8 : Value).ownBlock ∧ some k_ ≠ (.slice Ao9 x4_1.length co9 : Value).ownBlock ∧ some k_ ≠ (.slice Ao10 x5_1.length co10 : Value).ownBlock) v502 y501) := ⟨h0_⟩
                      have n1_ : Aside0 (Kd.R (Kd.int .i64) 2 w14 w.heap.size (fun k_ => some k_ ≠ (v502 : Value).ownBlock ∧ some k_ ≠ (.slice Ao9 x4_1.length co9 : Value).ownBlock ∧ some k_ ≠ (.slice Ao10 x5_1.length co10 : Value).ownBlock) (.slice Ao8 x3_1.length co8) x3_1) := ⟨h1_⟩
                      have n2_ : Aside0 (Kd.R (Kd.int .i64) 2 w14 w.heap.size (fun k_ => some k_ ≠ (v502 : Value).ownBlock ∧ some k_ ≠ (.slice Ao8 x3_1.length co8 : Value).ownBlock ∧ some k_ ≠ (.slice Ao10 x5_1.length co10 : Value).ownBlock) (.slice Ao9 x4_1.length co9) x4_1) := ⟨h2_⟩
                      have n3_ : Aside0 (Kd.R (Kd.int .i64) 2 w14 w.heap.size (fun k_ => some k_ ≠ (v502 : Value).ownBlock ∧ some k_ ≠ (.slice Ao8 x3_1.length co8 : Value).ownBlock ∧ some k_ ≠ (.slice Ao9 x4_1.length co9 : Value).ownBlock) (.slice Ao10 x5_1.length co10) x5_1) := ⟨h3_⟩
                      have n4_ : Aside0 (Below w.heap.size w w14) := ⟨h4_⟩
                      clear HO_3
                      clear HO_4
                      clear HO_5
                      clear HB
                      clear h0_ h1_ h2_ h3_ h4_
                      have HO503 := n0_
                      have HO_3 := n1_
                      have HO_4 := n2_
                      have HO_5 := n3_
                      have HB := n4_
                      clear n0_ n1_ n2_ n3_ n4_
                      have hHeld : w14.cell? (ad486.add ((x6_1).toNat * 2)) = some (.int .i16 ((rd_T47 l0 x6_1).f0)) ∧ w14.cell? ⟨(ad486.add ((x6_1).toNat * 2)).block, (ad486.add ((x6_1).toNat * 2)).off + 1, none⟩ = some (.int .i16 ((rd_T47 l0 x6_1).f1)) ∧ w14.cell? (ad486.add ((x6_1).toNat * 2)) = some (.int .i16 ((rd_T47 l0 x6_1).f0)) ∧ w14.cell? ⟨(ad486.add ((x6_1).toNat * 2)).block, (ad486.add ((x6_1).toNat * 2)).off + 1, none⟩ = some (.int .i16 ((rd_T47 l0 x6_1).f1)) ∧ w14.cell? (ad486.add ((x6_1).toNat * 2)) = some (.int .i16 ((rd_T47 l0 x6_1).f0)) ∧ w14.cell? ⟨(ad486.add ((x6_1).toNat * 2)).block, (ad486.add ((x6_1).toNat * 2)).off + 1, none⟩ = some (.int .i16 ((rd_T47 l0 x6_1).f1)) := hS_
                      refine norm_ (a' := ?_) ?_ ?_
                      rotate_left
                      ·simp only [putAll, Act.put, List.setIfInBounds_toArray, List.set_cons_zero, List.set_cons_succ]
                       rfl
                      refine two_ (i := 7) (j := 16) (Ni := some 25) (Nj := some 34) (bl 31 134020863) (bl 31 134086271) rfl rfl rfl rfl (two_of HT_.out (by kernel_rfl)) (by decide) (by decide) (fun K hK => ?_) (fun K hK => ?_)
                      ·skip
                       refine Kd.R_lit_step (Kd.int .i64) _ 2 ?hg (N := 25) ?hd (xs := ([wrap64 ((rd_T47 l0 x6_1).f0)] : List Int)) (inner := [.int .i64 (wrap64 ((rd_T47 l0 x6_1).f0))]) (ok := fun _ => True) (okp := fun _ => True) ?hr ?hp (fun _ hk => hk) trivial (Below.refl _ _) (Nat.le_refl _) (by simp) ?_; (case hd => rfl); (case hg => rfl); (case hr => first | (go_simp; done) | (go_simp; rfl)); (case hp => exact (Reps.one (show Kd.M (Kd.int .i64) _ _ _ (wrap64 ((rd_T47 l0 x6_1).f0)) [.int .i64 (wrap64 ((rd_T47 l0 x6_1).f0))] from rfl) (Reps.none _ _)))
                       intro v488 w15 ho16 hb hg_ hnew_
                       clear hg_ hnew_
                       (first | rw [← Ny487.out] at ho16 | (simp only [Int.reduceToNat] at ho16; rw [← Ny487.out] at ho16))
                       have n0_ := Aside0.mk (Kd.R_elder' (by (with_reducible repeat (first | apply Kd.R_alloc | apply Kd.R_drewN | apply Kd.R_drew)); exact HO_3.out) (Kd.R_base ho16) hb)
                       have n1_ := Aside0.mk (Kd.R_elder' (by (with_reducible repeat (first | apply Kd.R_alloc | apply Kd.R_drewN | apply Kd.R_drew)); exact HO_4.out) (Kd.R_base ho16) hb)
                       have n2_ := Aside0.mk (Kd.R_elder' (by (with_reducible repeat (first | apply Kd.R_alloc | apply Kd.R_drewN | apply Kd.R_drew)); exact HO_5.out) (Kd.R_base ho16) hb)
                       have n3_ := Aside0.mk (Kd.R_elder' (by (with_reducible repeat (first | apply Kd.R_alloc | apply Kd.R_drewN | apply Kd.R_drew)); exact HO503.out) (Kd.R_base ho16) hb)
                       have n4_ := Aside0.mk (Kd.R_lower (Kd.R_new' (Kd.R_new' (Kd.R_new' (Kd.R_new' ho16 (Kd.R_lt (by (with_reducible repeat (first | apply Kd.R_alloc | apply Kd.R_drewN | apply Kd.R_drew)); exact HO_3.out))) (Kd.R_lt (by (with_reducible repeat (first | apply Kd.R_alloc | apply Kd.R_drewN | apply Kd.R_drew)); exact HO_4.out))) (Kd.R_lt (by (with_reducible repeat (first | apply Kd.R_alloc | apply Kd.R_drewN | apply Kd.R_drew)); exact HO_5.out))) (Kd.R_lt (by (with_reducible repeat (first | apply Kd.R_alloc | apply Kd.R_drewN | apply Kd.R_drew)); exact HO503.out))) (below_size (by repeat (first | (with_reducible first | exact HB.out | apply below_alloc | apply pw_below_drewN | apply below_drew1) | exact HB.out))))
                       have n5_ := Aside0.mk (below_step (by repeat (first | (with_reducible first | exact HB.out | apply below_alloc | apply pw_below_drewN | apply below_drew1) | exact HB.out)) hb)
                       clear HO_3
                       clear HO_4
                       clear HO_5
                       clear HO503
                       clear HB
                       have HO_3 := n0_
                       have HO_4 := n1_
                       have HO_5 := n2_
                       have HO503 := n3_
                       have HO489 := n4_
                       have HB := n5_
                       clear n0_ n1_ n2_ n3_ n4_ n5_
                       clear hb ho16
                       refine hK.out _ _ ⟨((HB.out.cell (World.block_lt_of_cell? w _ hw486_0)).trans hw486_0), ((HB.out.cell (World.block_lt_of_cell? w _ hw486_1)).trans hw486_1), ((HB.out.cell (World.block_lt_of_cell? w _ hw493_0)).trans hw493_0), ((HB.out.cell (World.block_lt_of_cell? w _ hw493_1)).trans hw493_1), ((HB.out.cell (World.block_lt_of_cell? w _ hw500_0)).trans hw500_0), ((HB.out.cell (World.block_lt_of_cell? w _ hw500_1)).trans hw500_1)⟩ (fun hHeld => ?_)
                       clear hK K
                       refine norm_ (a' := ?_) ?_ ?_
                       rotate_left
                       ·show Act.put _ (some 25) _ = _
                        simp only [puts_]
                        rfl
                       exact norm_ (by first | (simp only [putAll, Act.put, List.setIfInBounds_toArray, List.set_cons_zero, List.set_cons_succ]; done) | (simp only [putAll, Act.put, List.setIfInBounds_toArray, List.set_cons_zero, List.set_cons_succ]; rfl)) (hJ7_26 (v488, v502) _ ⟨hHeld, (by (with_reducible repeat (first | apply Kd.R_alloc | apply Kd.R_drewN | apply Kd.R_drew)); exact Kd.R_mono HO489.out (fun _ hk => ⟨hk.2, ⟨hk.1.1.1.2, ⟨hk.1.1.2, hk.1.2⟩⟩⟩)), (by (with_reducible repeat (first | apply Kd.R_alloc | apply Kd.R_drewN | apply Kd.R_drew)); exact Kd.R_mono HO503.out (fun _ hk => ⟨hk.2, ⟨hk.1.1, ⟨hk.1.2.1, hk.1.2.2⟩⟩⟩)), (by (with_reducible repeat (first | apply Kd.R_alloc | apply Kd.R_drewN | apply Kd.R_drew)); exact Kd.R_mono HO_3.out (fun _ hk => ⟨hk.2, ⟨hk.1.1, ⟨hk.1.2.1, hk.1.2.2⟩⟩⟩)), (by (with_reducible repeat (first | apply Kd.R_alloc | apply Kd.R_drewN | apply Kd.R_drew)); exact Kd.R_mono HO_4.out (fun _ hk => ⟨hk.2, ⟨hk.1.1, ⟨hk.1.2.1, hk.1.2.2⟩⟩⟩)), (by (with_reducible repeat (first | apply Kd.R_alloc | apply Kd.R_drewN | apply Kd.R_drew)); exact Kd.R_mono HO_5.out (fun _ hk => ⟨hk.2, ⟨hk.1.1, ⟨hk.1.2.1, hk.1.2.2⟩⟩⟩)), (by repeat (first | (with_reducible first | exact HB.out | apply below_alloc | apply pw_below_drewN | apply below_drew1) | exact HB.out))⟩)
                      ·skip
                       refine Kd.R_lit_step (Kd.int .i64) _ 2 ?hg (N := 34) ?hd (xs := ([wrap64 ((rd_T47 l0 x6_1).f1)] : List Int)) (inner := [.int .i64 (wrap64 ((rd_T47 l0 x6_1).f1))]) (ok := fun _ => True) (okp := fun _ => True) ?hr ?hp (fun _ hk => hk) trivial (Below.refl _ _) (Nat.le_refl _) (by simp) ?_; (case hd => rfl); (case hg => rfl); (case hr => first | (go_simp; done) | (go_simp; rfl)); (case hp => exact (Reps.one (show Kd.M (Kd.int .i64) _ _ _ (wrap64 ((rd_T47 l0 x6_1).f1)) [.int .i64 (wrap64 ((rd_T47 l0 x6_1).f1))] from rfl) (Reps.none _ _)))
                       intro v495 w15 ho16 hb hg_ hnew_
                       clear hg_ hnew_
                       (first | rw [← Ny494.out] at ho16 | (simp only [Int.reduceToNat] at ho16; rw [← Ny494.out] at ho16))
                       have n0_ := Aside0.mk (Kd.R_elder' (by (with_reducible repeat (first | apply Kd.R_alloc | apply Kd.R_drewN | apply Kd.R_drew)); exact HO_3.out) (Kd.R_base ho16) hb)
                       have n1_ := Aside0.mk (Kd.R_elder' (by (with_reducible repeat (first | apply Kd.R_alloc | apply Kd.R_drewN | apply Kd.R_drew)); exact HO_4.out) (Kd.R_base ho16) hb)
                       have n2_ := Aside0.mk (Kd.R_elder' (by (with_reducible repeat (first | apply Kd.R_alloc | apply Kd.R_drewN | apply Kd.R_drew)); exact HO_5.out) (Kd.R_base ho16) hb)
                       have n3_ := Aside0.mk (Kd.R_elder' (by (with_reducible repeat (first | apply Kd.R_alloc | apply Kd.R_drewN | apply Kd.R_drew)); exact HO503.out) (Kd.R_base ho16) hb)
                       have n4_ := Aside0.mk (Kd.R_lower (Kd.R_new' (Kd.R_new' (Kd.R_new' (Kd.R_new' ho16 (Kd.R_lt (by (with_reducible repeat (first | apply Kd.R_alloc | apply Kd.R_drewN | apply Kd.R_drew)); exact HO_3.out))) (Kd.R_lt (by (with_reducible repeat (first | apply Kd.R_alloc | apply Kd.R_drewN | apply Kd.R_drew)); exact HO_4.out))) (Kd.R_lt (by (with_reducible repeat (first | apply Kd.R_alloc | apply Kd.R_drewN | apply Kd.R_drew)); exact HO_5.out))) (Kd.R_lt (by (with_reducible repeat (first | apply Kd.R_alloc | apply Kd.R_drewN | apply Kd.R_drew)); exact HO503.out))) (below_size (by repeat (first | (with_reducible first | exact HB.out | apply below_alloc | apply pw_below_drewN | apply below_drew1) | exact HB.out))))
                       have n5_ := Aside0.mk (below_step (by repeat (first | (with_reducible first | exact HB.out | apply below_alloc | apply pw_below_drewN | apply below_drew1) | exact HB.out)) hb)
                       clear HO_3
                       clear HO_4
                       clear HO_5
                       clear HO503
                       clear HB
                       have HO_3 := n0_
                       have HO_4 := n1_
                       have HO_5 := n2_
                       have HO503 := n3_
                       have HO496 := n4_
                       have HB := n5_
                       clear n0_ n1_ n2_ n3_ n4_ n5_
                       clear hb ho16
                       refine hK.out _ _ ⟨((HB.out.cell (World.block_lt_of_cell? w _ hw486_0)).trans hw486_0), ((HB.out.cell (World.block_lt_of_cell? w _ hw486_1)).trans hw486_1), ((HB.out.cell (World.block_lt_of_cell? w _ hw493_0)).trans hw493_0), ((HB.out.cell (World.block_lt_of_cell? w _ hw493_1)).trans hw493_1), ((HB.out.cell (World.block_lt_of_cell? w _ hw500_0)).trans hw500_0), ((HB.out.cell (World.block_lt_of_cell? w _ hw500_1)).trans hw500_1)⟩ (fun hHeld => ?_)
                       clear hK K
                       refine norm_ (a' := ?_) ?_ ?_
                       rotate_left
                       ·show Act.put _ (some 34) _ = _
                        simp only [puts_]
                        rfl
                       exact norm_ (by first | (simp only [putAll, Act.put, List.setIfInBounds_toArray, List.set_cons_zero, List.set_cons_succ]; done) | (simp only [putAll, Act.put, List.setIfInBounds_toArray, List.set_cons_zero, List.set_cons_succ]; rfl)) (hJ16_26 (v495, v502) _ ⟨hHeld, (by (with_reducible repeat (first | apply Kd.R_alloc | apply Kd.R_drewN | apply Kd.R_drew)); exact Kd.R_mono HO496.out (fun _ hk => ⟨hk.2, ⟨hk.1.1.1.2, ⟨hk.1.1.2, hk.1.2⟩⟩⟩)), (by (with_reducible repeat (first | apply Kd.R_alloc | apply Kd.R_drewN | apply Kd.R_drew)); exact Kd.R_mono HO503.out (fun _ hk => ⟨hk.2, ⟨hk.1.1, ⟨hk.1.2.1, hk.1.2.2⟩⟩⟩)), (by (with_reducible repeat (first | apply Kd.R_alloc | apply Kd.R_drewN | apply Kd.R_drew)); exact Kd.R_mono HO_3.out (fun _ hk => ⟨hk.2, ⟨hk.1.1, ⟨hk.1.2.1, hk.1.2.2⟩⟩⟩)), (by (with_reducible repeat (first | apply Kd.R_alloc | apply Kd.R_drewN | apply Kd.R_drew)); exact Kd.R_mono HO_4.out (fun _ hk => ⟨hk.2, ⟨hk.1.1, ⟨hk.1.2.1, hk.1.2.2⟩⟩⟩)), (by (with_reducible repeat (first | apply Kd.R_alloc | apply Kd.R_drewN | apply Kd.R_drew)); exact Kd.R_mono HO_5.out (fun _ hk => ⟨hk.2, ⟨hk.1.1, ⟨hk.1.2.1, hk.1.2.2⟩⟩⟩)), (by repeat (first | (with_reducible first | exact HB.out | apply below_alloc | apply pw_below_drewN | apply below_drew1) | exact HB.out))⟩)
                    ·skip
                     rintro v495 w14 ⟨hS_, h0_, h1_, h2_, h3_, h4_⟩
                     have n0_ : Aside0 (Kd.R (Kd.int .i64) 2 w14 w.heap.size (fun k_ => some k_ ≠ (.slice Ao8 x3_1.length co8 : Value).ownBlock ∧ some k_ ≠ (.slice Ao9 x4_1.length co9 : Value).ownBlock ∧ some k_ ≠ (.slice Ao10 x5_1.length co10 : Value).ownBlock) v495 y494) := ⟨h0_⟩
                     have n1_ : Aside0 (Kd.R (Kd.int .i64) 2 w14 w.heap.size (fun k_ => some k_ ≠ (v495 : Value).ownBlock ∧ some k_ ≠ (.slice Ao9 x4_1.length co9 : Value).ownBlock ∧ some k_ ≠ (.slice Ao10 x5_1.length co10 : Value).ownBlock) (.slice Ao8 x3_1.length co8) x3_1) := ⟨h1_⟩
                     have n2_ : Aside0 (Kd.R (Kd.int .i64) 2 w14 w.heap.size (fun k_ => some k_ ≠ (v495 : Value).ownBlock ∧ some k_ ≠ (.slice Ao8 x3_1.length co8 : Value).ownBlock ∧ some k_ ≠ (.slice Ao10 x5_1.length co10 : Value).ownBlock) (.slice Ao9 x4_1.length co9) x4_1) := ⟨h2_⟩
                     have n3_ : Aside0 (Kd.R (Kd.int .i64) 2 w14 w.heap.size (fun k_ => some k_ ≠ (v495 : Value).ownBlock ∧ some k_ ≠ (.slice Ao8 x3_1.length co8 : Value).ownBlock ∧ some k_ ≠ (.slice Ao9 x4_1.length co9 : Value).ownBlock) (.slice Ao10 x5_1.length co10) x5_1) := ⟨h3_⟩
                     have n4_ : Aside0 (Below w.heap.size w w14) := ⟨h4_⟩
                     clear HO_3
                     clear HO_4
                     clear HO_5
                     clear HB
                     clear h0_ h1_ h2_ h3_ h4_
                     have HO496 := n0_
                     have HO_3 := n1_
                     have HO_4 := n2_
                     have HO_5 := n3_
                     have HB := n4_
                     clear n0_ n1_ n2_ n3_ n4_
                     have hHeld : w14.cell? (ad486.add ((x6_1).toNat * 2)) = some (.int .i16 ((rd_T47 l0 x6_1).f0)) ∧ w14.cell? ⟨(ad486.add ((x6_1).toNat * 2)).block, (ad486.add ((x6_1).toNat * 2)).off + 1, none⟩ = some (.int .i16 ((rd_T47 l0 x6_1).f1)) ∧ w14.cell? (ad486.add ((x6_1).toNat * 2)) = some (.int .i16 ((rd_T47 l0 x6_1).f0)) ∧ w14.cell? ⟨(ad486.add ((x6_1).toNat * 2)).block, (ad486.add ((x6_1).toNat * 2)).off + 1, none⟩ = some (.int .i16 ((rd_T47 l0 x6_1).f1)) ∧ w14.cell? (ad486.add ((x6_1).toNat * 2)) = some (.int .i16 ((rd_T47 l0 x6_1).f0)) ∧ w14.cell? ⟨(ad486.add ((x6_1).toNat * 2)).block, (ad486.add ((x6_1).toNat * 2)).off + 1, none⟩ = some (.int .i16 ((rd_T47 l0 x6_1).f1)) := hS_
                     refine norm_ (a' := ?_) ?_ ?_
                     rotate_left
                     ·simp only [putAll, Act.put, List.setIfInBounds_toArray, List.set_cons_zero, List.set_cons_succ]
                      rfl
                     refine two_ (i := 7) (j := 26) (Ni := some 25) (Nj := some 44) (bl 31 66977535) (bl 31 134086271) rfl rfl rfl rfl (two_of HT_.out (by kernel_rfl)) (by decide) (by decide) (fun K hK => ?_) (fun K hK => ?_)
                     ·skip
                      refine Kd.R_lit_step (Kd.int .i64) _ 2 ?hg (N := 25) ?hd (xs := ([wrap64 ((rd_T47 l0 x6_1).f0)] : List Int)) (inner := [.int .i64 (wrap64 ((rd_T47 l0 x6_1).f0))]) (ok := fun _ => True) (okp := fun _ => True) ?hr ?hp (fun _ hk => hk) trivial (Below.refl _ _) (Nat.le_refl _) (by simp) ?_; (case hd => rfl); (case hg => rfl); (case hr => first | (go_simp; done) | (go_simp; rfl)); (case hp => exact (Reps.one (show Kd.M (Kd.int .i64) _ _ _ (wrap64 ((rd_T47 l0 x6_1).f0)) [.int .i64 (wrap64 ((rd_T47 l0 x6_1).f0))] from rfl) (Reps.none _ _)))
                      intro v488 w15 ho16 hb hg_ hnew_
                      clear hg_ hnew_
                      (first | rw [← Ny487.out] at ho16 | (simp only [Int.reduceToNat] at ho16; rw [← Ny487.out] at ho16))
                      have n0_ := Aside0.mk (Kd.R_elder' (by (with_reducible repeat (first | apply Kd.R_alloc | apply Kd.R_drewN | apply Kd.R_drew)); exact HO_3.out) (Kd.R_base ho16) hb)
                      have n1_ := Aside0.mk (Kd.R_elder' (by (with_reducible repeat (first | apply Kd.R_alloc | apply Kd.R_drewN | apply Kd.R_drew)); exact HO_4.out) (Kd.R_base ho16) hb)
                      have n2_ := Aside0.mk (Kd.R_elder' (by (with_reducible repeat (first | apply Kd.R_alloc | apply Kd.R_drewN | apply Kd.R_drew)); exact HO_5.out) (Kd.R_base ho16) hb)
                      have n3_ := Aside0.mk (Kd.R_elder' (by (with_reducible repeat (first | apply Kd.R_alloc | apply Kd.R_drewN | apply Kd.R_drew)); exact HO496.out) (Kd.R_base ho16) hb)
                      have n4_ := Aside0.mk (Kd.R_lower (Kd.R_new' (Kd.R_new' (Kd.R_new' (Kd.R_new' ho16 (Kd.R_lt (by (with_reducible repeat (first | apply Kd.R_alloc | apply Kd.R_drewN | apply Kd.R_drew)); exact HO_3.out))) (Kd.R_lt (by (with_reducible repeat (first | apply Kd.R_alloc | apply Kd.R_drewN | apply Kd.R_drew)); exact HO_4.out))) (Kd.R_lt (by (with_reducible repeat (first | apply Kd.R_alloc | apply Kd.R_drewN | apply Kd.R_drew)); exact HO_5.out))) (Kd.R_lt (by (with_reducible repeat (first | apply Kd.R_alloc | apply Kd.R_drewN | apply Kd.R_drew)); exact HO496.out))) (below_size (by repeat (first | (with_reducible first | exact HB.out | apply below_alloc | apply pw_below_drewN | apply below_drew1) | exact HB.out))))
                      have n5_ := Aside0.mk (below_step (by repeat (first | (with_reducible first | exact HB.out | apply below_alloc | apply pw_below_drewN | apply below_drew1) | exact HB.out)) hb)
                      clear HO_3
                      clear HO_4
                      clear HO_5
                      clear HO496
                      clear HB
                      have HO_3 := n0_
                      have HO_4 := n1_
                      have HO_5 := n2_
                      have HO496 := n3_
                      have HO489 := n4_
                      have HB := n5_
                      clear n0_ n1_ n2_ n3_ n4_ n5_
                      clear hb ho16
                      refine hK.out _ _ ⟨((HB.out.cell (World.block_lt_of_cell? w _ hw486_0)).trans hw486_0), ((HB.out.cell (World.block_lt_of_cell? w _ hw486_1)).trans hw486_1), ((HB.out.cell (World.block_lt_of_cell? w _ hw493_0)).trans hw493_0), ((HB.out.cell (World.block_lt_of_cell? w _ hw493_1)).trans hw493_1), ((HB.out.cell (World.block_lt_of_cell? w _ hw500_0)).trans hw500_0), ((HB.out.cell (World.block_lt_of_cell? w _ hw500_1)).trans hw500_1)⟩ (fun hHeld => ?_)
                      clear hK K
                      refine norm_ (a' := ?_) ?_ ?_
                      rotate_left
                      ·show Act.put _ (some 25) _ = _
                       simp only [puts_]
                       rfl
                      exact norm_ (by first | (simp only [putAll, Act.put, List.setIfInBounds_toArray, List.set_cons_zero, List.set_cons_succ]; done) | (simp only [putAll, Act.put, List.setIfInBounds_toArray, List.set_cons_zero, List.set_cons_succ]; rfl)) (hJ7_16 (v488, v495) _ ⟨hHeld, (by (with_reducible repeat (first | apply Kd.R_alloc | apply Kd.R_drewN | apply Kd.R_drew)); exact Kd.R_mono HO489.out (fun _ hk => ⟨hk.2, ⟨hk.1.1.1.2, ⟨hk.1.1.2, hk.1.2⟩⟩⟩)), (by (with_reducible repeat (first | apply Kd.R_alloc | apply Kd.R_drewN | apply Kd.R_drew)); exact Kd.R_mono HO496.out (fun _ hk => ⟨hk.2, ⟨hk.1.1, ⟨hk.1.2.1, hk.1.2.2⟩⟩⟩)), (by (with_reducible repeat (first | apply Kd.R_alloc | apply Kd.R_drewN | apply Kd.R_drew)); exact Kd.R_mono HO_3.out (fun _ hk => ⟨hk.2, ⟨hk.1.1, ⟨hk.1.2.1, hk.1.2.2⟩⟩⟩)), (by (with_reducible repeat (first | apply Kd.R_alloc | apply Kd.R_drewN | apply Kd.R_drew)); exact Kd.R_mono HO_4.out (fun _ hk => ⟨hk.2, ⟨hk.1.1, ⟨hk.1.2.1, hk.1.2.2⟩⟩⟩)), (by (with_reducible repeat (first | apply Kd.R_alloc | apply Kd.R_drewN | apply Kd.R_drew)); exact Kd.R_mono HO_5.out (fun _ hk => ⟨hk.2, ⟨hk.1.1, ⟨hk.1.2.1, hk.1.2.2⟩⟩⟩)), (by repeat (first | (with_reducible first | exact HB.out | apply below_alloc | apply pw_below_drewN | apply below_drew1) | exact HB.out))⟩)
                     ·skip
                      refine Kd.R_lit_step (Kd.int .i64) _ 2 ?hg (N := 44) ?hd (xs := ([wrap64 (2 * (wrap64 ((rd_T47 l0 x6_1).f1)))] : List Int)) (inner := [.int .i64 (wrap64 (2 * (wrap64 ((rd_T47 l0 x6_1).f1))))]) (ok := fun _ => True) (okp := fun _ => True) ?hr ?hp (fun _ hk => hk) trivial (Below.refl _ _) (Nat.le_refl _) (by simp) ?_; (case hd => rfl); (case hg => rfl); (case hr => first | (go_simp; done) | (go_simp; rfl)); (case hp => exact (Reps.one (show Kd.M (Kd.int .i64) _ _ _ (wrap64 (2 * (wrap64 ((rd_T47 l0 x6_1).f1)))) [.int .i64 (wrap64 (2 * (wrap64 ((rd_T47 l0 x6_1).f1))))] from rfl) (Reps.none _ _)))
                      intro v502 w15 ho16 hb hg_ hnew_
                      clear hg_ hnew_
                      (first | rw [← Ny501.out] at ho16 | (simp only [Int.reduceToNat] at ho16; rw [← Ny501.out] at ho16))
                      have n0_ := Aside0.mk (Kd.R_elder' (by (with_reducible repeat (first | apply Kd.R_alloc | apply Kd.R_drewN | apply Kd.R_drew)); exact HO_3.out) (Kd.R_base ho16) hb)
                      have n1_ := Aside0.mk (Kd.R_elder' (by (with_reducible repeat (first | apply Kd.R_alloc | apply Kd.R_drewN | apply Kd.R_drew)); exact HO_4.out) (Kd.R_base ho16) hb)
                      have n2_ := Aside0.mk (Kd.R_elder' (by (with_reducible repeat (first | apply Kd.R_alloc | apply Kd.R_drewN | apply Kd.R_drew)); exact HO_5.out) (Kd.R_base ho16) hb)
                      have n3_ := Aside0.mk (Kd.R_elder' (by (with_reducible repeat (first | apply Kd.R_alloc | apply Kd.R_drewN | apply Kd.R_drew)); exact HO496.out) (Kd.R_base ho16) hb)
                      have n4_ := Aside0.mk (Kd.R_lower (Kd.R_new' (Kd.R_new' (Kd.R_new' (Kd.R_new' ho16 (Kd.R_lt (by (with_reducible repeat (first | apply Kd.R_alloc | apply Kd.R_drewN | apply Kd.R_drew)); exact HO_3.out))) (Kd.R_lt (by (with_reducible repeat (first | apply Kd.R_alloc | apply Kd.R_drewN | apply Kd.R_drew)); exact HO_4.out))) (Kd.R_lt (by (with_reducible repeat (first | apply Kd.R_alloc | apply Kd.R_drewN | apply Kd.R_drew)); exact HO_5.out))) (Kd.R_lt (by (with_reducible repeat (first | apply Kd.R_alloc | apply Kd.R_drewN | apply Kd.R_drew)); exact HO496.out))) (below_size (by repeat (first | (with_reducible first | exact HB.out | apply below_alloc | apply pw_below_drewN | apply below_drew1) | exact HB.out))))
                      have n5_ := Aside0.mk (below_step (by repeat (first | (with_reducible first | exact HB.out | apply below_alloc | apply pw_below_drewN | apply below_drew1) | exact HB.out)) hb)
                      clear HO_3
                      clear HO_4
                      clear HO_5
                      clear HO496
                      clear HB
                      have HO_3 := n0_
                      have HO_4 := n1_
                      have HO_5 := n2_
                      have HO496 := n3_
                      have HO503 := n4_
                      have HB := n5_
                      clear n0_ n1_ n2_ n3_ n4_ n5_
                      clear hb ho16
                      refine hK.out _ _ ⟨((HB.out.cell (World.block_lt_of_cell? w _ hw486_0)).trans hw486_0), ((HB.out.cell (World.block_lt_of_cell? w _ hw486_1)).trans hw486_1), ((HB.out.cell (World.block_lt_of_cell? w _ hw493_0)).trans hw493_0), ((HB.out.cell (World.block_lt_of_cell? w _ hw493_1)).trans hw493_1), ((HB.out.cell (World.block_lt_of_cell? w _ hw500_0)).trans hw500_0), ((HB.out.cell (World.block_lt_of_cell? w _ hw500_1)).trans hw500_1)⟩ (fun hHeld => ?_)
                      clear hK K
                      refine norm_ (a' := ?_) ?_ ?_
                      rotate_left
                      ·show Act.put _ (some 44) _ = _
                       simp only [puts_]
                       rfl
                      exact norm_ (by first | (simp only [putAll, Act.put, List.setIfInBounds_toArray, List.set_cons_zero, List.set_cons_succ]; done) | (simp only [putAll, Act.put, List.setIfInBounds_toArray, List.set_cons_zero, List.set_cons_succ]; rfl)) (hJ16_26 (v495, v502) _ ⟨hHeld, (by (with_reducible repeat (first | apply Kd.R_alloc | apply Kd.R_drewN | apply Kd.R_drew)); exact Kd.R_mono HO496.out (fun _ hk => ⟨hk.2, ⟨hk.1.1, ⟨hk.1.2.1, hk.1.2.2⟩⟩⟩)), (by (with_reducible repeat (first | apply Kd.R_alloc | apply Kd.R_drewN | apply Kd.R_drew)); exact Kd.R_mono HO503.out (fun _ hk => ⟨hk.2, ⟨hk.1.1.1.2, ⟨hk.1.1.2, hk.1.2⟩⟩⟩)), (by (with_reducible repeat (first | apply Kd.R_alloc | apply Kd.R_drewN | apply Kd.R_drew)); exact Kd.R_mono HO_3.out (fun _ hk => ⟨hk.1.1, ⟨hk.2, ⟨hk.1.2.1, hk.1.2.2⟩⟩⟩)), (by (with_reducible repeat (first | apply Kd.R_alloc | apply Kd.R_drewN | apply Kd.R_drew)); exact Kd.R_mono HO_4.out (fun _ hk => ⟨hk.1.1, ⟨hk.2, ⟨hk.1.2.1, hk.1.2.2⟩⟩⟩)), (by (with_reducible repeat (first | apply Kd.R_alloc | apply Kd.R_drewN | apply Kd.R_drew)); exact Kd.R_mono HO_5.out (fun _ hk => ⟨hk.1.1, ⟨hk.2, ⟨hk.1.2.1, hk.1.2.2⟩⟩⟩)), (by repeat (first | (with_reducible first | exact HB.out | apply below_alloc | apply pw_below_drewN | apply below_drew1) | exact HB.out))⟩)
                   ·skip
                    rintro v488 w14 ⟨hS_, h0_, h1_, h2_, h3_, h4_⟩
                    have n0_ : Aside0 (Kd.R (Kd.int .i64) 2 w14 w.heap.size (fun k_ => some k_ ≠ (.slice Ao8 x3_1.length co8 : Value).ownBlock ∧ some k_ ≠ (.slice Ao9 x4_1.length co9 : Value).ownBlock ∧ some k_ ≠ (.slice Ao10 x5_1.length co10 : Value).ownBlock) v488 y487) := ⟨h0_⟩
                    have n1_ : Aside0 (Kd.R (Kd.int .i64) 2 w14 w.heap.size (fun k_ => some k_ ≠ (v488 : Value).ownBlock ∧ some k_ ≠ (.slice Ao9 x4_1.length co9 : Value).ownBlock ∧ some k_ ≠ (.slice Ao10 x5_1.length co10 : Value).ownBlock) (.slice Ao8 x3_1.length co8) x3_1) := ⟨h1_⟩
                    have n2_ : Aside0 (Kd.R (Kd.int .i64) 2 w14 w.heap.size (fun k_ => some k_ ≠ (v488 : Value).ownBlock ∧ some k_ ≠ (.slice Ao8 x3_1.length co8 : Value).ownBlock ∧ some k_ ≠ (.slice Ao10 x5_1.length co10 : Value).ownBlock) (.slice Ao9 x4_1.length co9) x4_1) := ⟨h2_⟩
                    have n3_ : Aside0 (Kd.R (Kd.int .i64) 2 w14 w.heap.size (fun k_ => some k_ ≠ (v488 : Value).ownBlock ∧ some k_ ≠ (.slice Ao8 x3_1.length co8 : Value).ownBlock ∧ some k_ ≠ (.slice Ao9 x4_1.length co9 : Value).ownBlock) (.slice Ao10 x5_1.length co10) x5_1) := ⟨h3_⟩
                    have n4_ : Aside0 (Below w.heap.size w w14) := ⟨h4_⟩
                    clear HO_3
                    clear HO_4
                    clear HO_5
                    clear HB
                    clear h0_ h1_ h2_ h3_ h4_
                    have HO489 := n0_
                    have HO_3 := n1_
                    have HO_4 := n2_
                    have HO_5 := n3_
                    have HB := n4_
                    clear n0_ n1_ n2_ n3_ n4_
                    have hHeld : w14.cell? (ad486.add ((x6_1).toNat * 2)) = some (.int .i16 ((rd_T47 l0 x6_1).f0)) ∧ w14.cell? ⟨(ad486.add ((x6_1).toNat * 2)).block, (ad486.add ((x6_1).toNat * 2)).off + 1, none⟩ = some (.int .i16 ((rd_T47 l0 x6_1).f1)) ∧ w14.cell? (ad486.add ((x6_1).toNat * 2)) = some (.int .i16 ((rd_T47 l0 x6_1).f0)) ∧ w14.cell? ⟨(ad486.add ((x6_1).toNat * 2)).block, (ad486.add ((x6_1).toNat * 2)).off + 1, none⟩ = some (.int .i16 ((rd_T47 l0 x6_1).f1)) ∧ w14.cell? (ad486.add ((x6_1).toNat * 2)) = some (.int .i16 ((rd_T47 l0 x6_1).f0)) ∧ w14.cell? ⟨(ad486.add ((x6_1).toNat * 2)).block, (ad486.add ((x6_1).toNat * 2)).off + 1, none⟩ = some (.int .i16 ((rd_T47 l0 x6_1).f1)) := hS_
                    obtain ⟨Ao16, co16, eo16⟩ := Kd.R_slice HO489.out
                    (first | subst eo16 | (injection eo16 with f1_ f2_ f3_; have f4_ := f1_.symm; have f5_ := f3_.symm; clear f1_ f2_ f3_; subst f4_; subst f5_))
                    refine norm_ (a' := ?_) ?_ ?_
                    rotate_left
                    ·simp only [putAll, Act.put, List.setIfInBounds_toArray, List.set_cons_zero, List.set_cons_succ]
                     rfl
                    refine three_ (i := 8) (j := 16) (k := 26) (Ni := some 26) (Nj := some 34) (Nk := some 44) (bl 31 66912255) (bl 31 66977535) (bl 31 134020863) rfl rfl rfl rfl rfl rfl (three_of HT_.out (by kernel_rfl)) (by decide) (by decide) (by decide) (fun K hK => ?_) (fun K hK => ?_) (fun K hK => ?_)
                    ·skip
                     refine Kd.R_append_rows_step (Kd.int .i64) (w0 := w) w.heap.size (by rfl) (.tmp 18) (.tmp 25) 22 2 (.int .i64 0) 8 rfl Try.underlying22 info2 rfl (by decide) (by omega) (.slice Ao8 x3_1.length co8) x3_1 y487 _ _ _ (fun k_ => some k_ ≠ (.slice Ao9 x4_1.length co9 : Value).ownBlock ∧ some k_ ≠ (.slice Ao10 x5_1.length co10 : Value).ownBlock ∧ some k_ ≠ (.slice Ao16 y487.length co16 : Value).ownBlock) (fun _ => False) rfl rfl ?aO ?aR (fun _ _ h => h) (fun _ h => h.elim) ?aF ?aB ?aS ?aL ?_
                     (case aR => repeat (first | exact (Kd.R_reads' HO489.out).2.2 | (with_reducible refine Kd.C_alloc ?_ _) | (with_reducible refine Kd.C_drewN ?_ _) | (with_reducible refine Kd.C_drew ?_)))
                     (case aB => exact (by repeat (first | (with_reducible first | exact HB.out | apply below_alloc | apply pw_below_drewN | apply below_drew1) | exact HB.out)))
                     (case aF => exact (fun k_ hk => ⟨Kd.fresh' (Kd.R_lt (by (with_reducible repeat (first | apply Kd.R_alloc | apply Kd.R_drewN | apply Kd.R_drew)); exact HO_4.out)) k_ hk, Kd.fresh' (Kd.R_lt (by (with_reducible repeat (first | apply Kd.R_alloc | apply Kd.R_drewN | apply Kd.R_drew)); exact HO_5.out)) k_ hk, Kd.fresh' (Kd.R_lt (by (with_reducible repeat (first | apply Kd.R_alloc | apply Kd.R_drewN | apply Kd.R_drew)); exact HO489.out)) k_ hk⟩))
                     (case aO => exact (by (with_reducible repeat (first | apply Kd.R_alloc | apply Kd.R_drewN | apply Kd.R_drew)); exact Kd.R_mono HO_3.out (fun _ hk => ⟨hk.2.1, ⟨hk.2.2, hk.1⟩⟩)))
                     (case aS => exact (below_size (by repeat (first | (with_reducible first | exact HB.out | apply below_alloc | apply pw_below_drewN | apply below_drew1) | exact HB.out))))
                     (case aL => have := LMc5.out; omega)
                     intro v491 w15 ho hb hg hat
                     rw [← Ny490.out] at ho
                     have n0_ := Aside0.mk (Kd.R_after (ok := (fun k_ => some k_ ≠ (.slice Ao10 x5_1.length co10 : Value).ownBlock ∧ some k_ ≠ (.slice Ao16 y487.length co16 : Value).ownBlock)) (by (with_reducible repeat (first | apply Kd.R_alloc | apply Kd.R_drewN | apply Kd.R_drew)); exact Kd.R_mono HO_4.out (fun _ hk => ⟨⟨hk.2.2, hk.1⟩, hk.2.1⟩)) hg hat)
                     have n1_ := Aside0.mk (Kd.R_after (ok := (fun k_ => some k_ ≠ (.slice Ao9 x4_1.length co9 : Value).ownBlock ∧ some k_ ≠ (.slice Ao16 y487.length co16 : Value).ownBlock)) (by (with_reducible repeat (first | apply Kd.R_alloc | apply Kd.R_drewN | apply Kd.R_drew)); exact Kd.R_mono HO_5.out (fun _ hk => ⟨⟨hk.2.2, hk.1⟩, hk.2.1⟩)) hg hat)
                     have n2_ := Aside0.mk (Kd.R_after (ok := (fun k_ => some k_ ≠ (.slice Ao9 x4_1.length co9 : Value).ownBlock ∧ some k_ ≠ (.slice Ao10 x5_1.length co10 : Value).ownBlock)) (by (with_reducible repeat (first | apply Kd.R_alloc | apply Kd.R_drewN | apply Kd.R_drew)); exact Kd.R_mono HO489.out (fun _ hk => ⟨⟨hk.2.1, hk.2.2⟩, hk.1⟩)) hg hat)
                     have n3_ := Aside0.mk (hb)
                     have n4_ := Aside0.mk (ho)
                     clear HO_4
                     clear HO_5
                     clear HO489
                     clear HB
                     clear HO_3
                     have HO_4 := n0_
                     have HO_5 := n1_
                     have HO489 := n2_
                     have HB := n3_
                     have HO492 := n4_
                     clear n0_ n1_ n2_ n3_ n4_
                     clear ho hb hg hat
                     refine hK.out _ _ ⟨((HB.out.cell (World.block_lt_of_cell? w _ hw486_0)).trans hw486_0), ((HB.out.cell (World.block_lt_of_cell? w _ hw486_1)).trans hw486_1), ((HB.out.cell (World.block_lt_of_cell? w _ hw493_0)).trans hw493_0), ((HB.out.cell (World.block_lt_of_cell? w _ hw493_1)).trans hw493_1), ((HB.out.cell (World.block_lt_of_cell? w _ hw500_0)).trans hw500_0), ((HB.out.cell (World.block_lt_of_cell? w _ hw500_1)).trans hw500_1)⟩ (fun hHeld => ?_)
                     clear hK K
                     refine norm_ (a' := ?_) ?_ ?_
                     rotate_left
                     ·show Act.put _ (some 26) _ = _
                      simp only [puts_]
                      rfl
                     exact norm_ (by first | (simp only [putAll, Act.put, List.setIfInBounds_toArray, List.set_cons_zero, List.set_cons_succ]; done) | (simp only [putAll, Act.put, List.setIfInBounds_toArray, List.set_cons_zero, List.set_cons_succ]; rfl)) (hJ7_8 (.slice Ao16 y487.length co16, v491) _ ⟨hHeld, (by (with_reducible repeat (first | apply Kd.R_alloc | apply Kd.R_drewN | apply Kd.R_drew)); exact Kd.R_mono HO489.out (fun _ hk => ⟨hk.2, ⟨hk.1.1, hk.1.2⟩⟩)), (by (with_reducible repeat (first | apply Kd.R_alloc | apply Kd.R_drewN | apply Kd.R_drew)); exact Kd.R_mono HO492.out (fun _ hk => ⟨hk.2.2, ⟨hk.1, hk.2.1⟩⟩)), (by (with_reducible repeat (first | apply Kd.R_alloc | apply Kd.R_drewN | apply Kd.R_drew)); exact Kd.R_mono HO_4.out (fun _ hk => ⟨hk.1.2, ⟨hk.2, hk.1.1⟩⟩)), (by (with_reducible repeat (first | apply Kd.R_alloc | apply Kd.R_drewN | apply Kd.R_drew)); exact Kd.R_mono HO_5.out (fun _ hk => ⟨hk.1.2, ⟨hk.2, hk.1.1⟩⟩)), (by repeat (first | (with_reducible first | exact HB.out | apply below_alloc | apply pw_below_drewN | apply below_drew1) | exact HB.out))⟩)
                    ·skip
                     refine Kd.R_lit_step (Kd.int .i64) _ 2 ?hg (N := 34) ?hd (xs := ([wrap64 ((rd_T47 l0 x6_1).f1)] : List Int)) (inner := [.int .i64 (wrap64 ((rd_T47 l0 x6_1).f1))]) (ok := fun _ => True) (okp := fun _ => True) ?hr ?hp (fun _ hk => hk) trivial (Below.refl _ _) (Nat.le_refl _) (by simp) ?_; (case hd => rfl); (case hg => rfl); (case hr => first | (go_simp; done) | (go_simp; rfl)); (case hp => exact (Reps.one (show Kd.M (Kd.int .i64) _ _ _ (wrap64 ((rd_T47 l0 x6_1).f1)) [.int .i64 (wrap64 ((rd_T47 l0 x6_1).f1))] from rfl) (Reps.none _ _)))
                     intro v495 w15 ho16 hb hg_ hnew_
                     clear hg_ hnew_
                     (first | rw [← Ny494.out] at ho16 | (simp only [Int.reduceToNat] at ho16; rw [← Ny494.out] at ho16))
                     have n0_ := Aside0.mk (Kd.R_elder' (by (with_reducible repeat (first | apply Kd.R_alloc | apply Kd.R_drewN | apply Kd.R_drew)); exact HO_3.out) (Kd.R_base ho16) hb)
                     have n1_ := Aside0.mk (Kd.R_elder' (by (with_reducible repeat (first | apply Kd.R_alloc | apply Kd.R_drewN | apply Kd.R_drew)); exact HO_4.out) (Kd.R_base ho16) hb)
                     have n2_ := Aside0.mk (Kd.R_elder' (by (with_reducible repeat (first | apply Kd.R_alloc | apply Kd.R_drewN | apply Kd.R_drew)); exact HO_5.out) (Kd.R_base ho16) hb)
                     have n3_ := Aside0.mk (Kd.R_elder' (by (with_reducible repeat (first | apply Kd.R_alloc | apply Kd.R_drewN | apply Kd.R_drew)); exact HO489.out) (Kd.R_base ho16) hb)
                     have n4_ := Aside0.mk (Kd.R_lower (Kd.R_new' (Kd.R_new' (Kd.R_new' (Kd.R_new' ho16 (Kd.R_lt (by (with_reducible repeat (first | apply Kd.R_alloc | apply Kd.R_drewN | apply Kd.R_drew)); exact HO_3.out))) (Kd.R_lt (by (with_reducible repeat (first | apply Kd.R_alloc | apply Kd.R_drewN | apply Kd.R_drew)); exact HO_4.out))) (Kd.R_lt (by (with_reducible repeat (first | apply Kd.R_alloc | apply Kd.R_drewN | apply Kd.R_drew)); exact HO_5.out))) (Kd.R_lt (by (with_reducible repeat (first | apply Kd.R_alloc | apply Kd.R_drewN | apply Kd.R_drew)); exact HO489.out))) (below_size (by repeat (first | (with_reducible first | exact HB.out | apply below_alloc | apply pw_below_drewN | apply below_drew1) | exact HB.out))))
                     have n5_ := Aside0.mk (below_step (by repeat (first | (with_reducible first | exact HB.out | apply below_alloc | apply pw_below_drewN | apply below_drew1) | exact HB.out)) hb)
                     clear HO_3
                     clear HO_4
                     clear HO_5
                     clear HO489
                     clear HB
                     have HO_3 := n0_
                     have HO_4 := n1_
                     have HO_5 := n2_
                     have HO489 := n3_
                     have HO496 := n4_
                     have HB := n5_
                     clear n0_ n1_ n2_ n3_ n4_ n5_
                     clear hb ho16
                     refine hK.out _ _ ⟨((HB.out.cell (World.block_lt_of_cell? w _ hw486_0)).trans hw486_0), ((HB.out.cell (World.block_lt_of_cell? w _ hw486_1)).trans hw486_1), ((HB.out.cell (World.block_lt_of_cell? w _ hw493_0)).trans hw493_0), ((HB.out.cell (World.block_lt_of_cell? w _ hw493_1)).trans hw493_1), ((HB.out.cell (World.block_lt_of_cell? w _ hw500_0)).trans hw500_0), ((HB.out.cell (World.block_lt_of_cell? w _ hw500_1)).trans hw500_1)⟩ (fun hHeld => ?_)
                     clear hK K
                     refine norm_ (a' := ?_) ?_ ?_
                     rotate_left
                     ·show Act.put _ (some 34) _ = _
                      simp only [puts_]
                      rfl
                     exact norm_ (by first | (simp only [putAll, Act.put, List.setIfInBounds_toArray, List.set_cons_zero, List.set_cons_succ]; done) | (simp only [putAll, Act.put, List.setIfInBounds_toArray, List.set_cons_zero, List.set_cons_succ]; rfl)) (hJ7_16 ((.slice Ao16 y487.length co16), v495) _ ⟨hHeld, (by (with_reducible repeat (first | apply Kd.R_alloc | apply Kd.R_drewN | apply Kd.R_drew)); exact Kd.R_mono HO489.out (fun _ hk => ⟨hk.2, ⟨hk.1.1, ⟨hk.1.2.1, hk.1.2.2⟩⟩⟩)), (by (with_reducible repeat (first | apply Kd.R_alloc | apply Kd.R_drewN | apply Kd.R_drew)); exact Kd.R_mono HO496.out (fun _ hk => ⟨hk.2, ⟨hk.1.1.1.2, ⟨hk.1.1.2, hk.1.2⟩⟩⟩)), (by (with_reducible repeat (first | apply Kd.R_alloc | apply Kd.R_drewN | apply Kd.R_drew)); exact Kd.R_mono HO_3.out (fun _ hk => ⟨hk.1.1, ⟨hk.2, ⟨hk.1.2.1, hk.1.2.2⟩⟩⟩)), (by (with_reducible repeat (first | apply Kd.R_alloc | apply Kd.R_drewN | apply Kd.R_drew)); exact Kd.R_mono HO_4.out (fun _ hk => ⟨hk.1.1, ⟨hk.2, ⟨hk.1.2.1, hk.1.2.2⟩⟩⟩)), (by (with_reducible repeat (first | apply Kd.R_alloc | apply Kd.R_drewN | apply Kd.R_drew)); exact Kd.R_mono HO_5.out (fun _ hk => ⟨hk.1.1, ⟨hk.2, ⟨hk.1.2.1, hk.1.2.2⟩⟩⟩)), (by repeat (first | (with_reducible first | exact HB.out | apply below_alloc | apply pw_below_drewN | apply below_drew1) | exact HB.out))⟩)
                    ·skip
                     refine Kd.R_lit_step (Kd.int .i64) _ 2 ?hg (N := 44) ?hd (xs := ([wrap64 (2 * (wrap64 ((rd_T47 l0 x6_1).f1)))] : List Int)) (inner := [.int .i64 (wrap64 (2 * (wrap64 ((rd_T47 l0 x6_1).f1))))]) (ok := fun _ => True) (okp := fun _ => True) ?hr ?hp (fun _ hk => hk) trivial (Below.refl _ _) (Nat.le_refl _) (by simp) ?_; (case hd => rfl); (case hg => rfl); (case hr => first | (go_simp; done) | (go_simp; rfl)); (case hp => exact (Reps.one (show Kd.M (Kd.int .i64) _ _ _ (wrap64 (2 * (wrap64 ((rd_T47 l0 x6_1).f1)))) [.int .i64 (wrap64 (2 * (wrap64 ((rd_T47 l0 x6_1).f1))))] from rfl) (Reps.none _ _)))
                     intro v502 w15 ho16 hb hg_ hnew_
                     clear hg_ hnew_
                     (first | rw [← Ny501.out] at ho16 | (simp only [Int.reduceToNat] at ho16; rw [← Ny501.out] at ho16))
                     have n0_ := Aside0.mk (Kd.R_elder' (by (with_reducible repeat (first | apply Kd.R_alloc | apply Kd.R_drewN | apply Kd.R_drew)); exact HO_3.out) (Kd.R_base ho16) hb)
                     have n1_ := Aside0.mk (Kd.R_elder' (by (with_reducible repeat (first | apply Kd.R_alloc | apply Kd.R_drewN | apply Kd.R_drew)); exact HO_4.out) (Kd.R_base ho16) hb)
                     have n2_ := Aside0.mk (Kd.R_elder' (by (with_reducible repeat (first | apply Kd.R_alloc | apply Kd.R_drewN | apply Kd.R_drew)); exact HO_5.out) (Kd.R_base ho16) hb)
                     have n3_ := Aside0.mk (Kd.R_elder' (by (with_reducible repeat (first | apply Kd.R_alloc | apply Kd.R_drewN | apply Kd.R_drew)); exact HO489.out) (Kd.R_base ho16) hb)
                     have n4_ := Aside0.mk (Kd.R_lower (Kd.R_new' (Kd.R_new' (Kd.R_new' (Kd.R_new' ho16 (Kd.R_lt (by (with_reducible repeat (first | apply Kd.R_alloc | apply Kd.R_drewN | apply Kd.R_drew)); exact HO_3.out))) (Kd.R_lt (by (with_reducible repeat (first | apply Kd.R_alloc | apply Kd.R_drewN | apply Kd.R_drew)); exact HO_4.out))) (Kd.R_lt (by (with_reducible repeat (first | apply Kd.R_alloc | apply Kd.R_drewN | apply Kd.R_drew)); exact HO_5.out))) (Kd.R_lt (by (with_reducible repeat (first | apply Kd.R_alloc | apply Kd.R_drewN | apply Kd.R_drew)); exact HO489.out))) (below_size (by repeat (first | (with_reducible first | exact HB.out | apply below_alloc | apply pw_below_drewN | apply below_drew1) | exact HB.out))))
                     have n5_ := Aside0.mk (below_step (by repeat (first | (with_reducible first | exact HB.out | apply below_alloc | apply pw_below_drewN | apply below_drew1) | exact HB.out)) hb)
                     clear HO_3
                     clear HO_4
                     clear HO_5
                     clear HO489
                     clear HB
                     have HO_3 := n0_
                     have HO_4 := n1_
                     have HO_5 := n2_
                     have HO489 := n3_
                     have HO503 := n4_
                     have HB := n5_
                     clear n0_ n1_ n2_ n3_ n4_ n5_
                     clear hb ho16
                     refine hK.out _ _ ⟨((HB.out.cell (World.block_lt_of_cell? w _ hw486_0)).trans hw486_0), ((HB.out.cell (World.block_lt_of_cell? w _ hw486_1)).trans hw486_1), ((HB.out.cell (World.block_lt_of_cell? w _ hw493_0)).trans hw493_0), ((HB.out.cell (World.block_lt_of_cell? w _ hw493_1)).trans hw493_1), ((HB.out.cell (World.block_lt_of_cell? w _ hw500_0)).trans hw500_0), ((HB.out.cell (World.block_lt_of_cell? w _ hw500_1)).trans hw500_1)⟩ (fun hHeld => ?_)
                     clear hK K
                     refine norm_ (a' := ?_) ?_ ?_
                     rotate_left
                     ·show Act.put _ (some 44) _ = _
                      simp only [puts_]
                      rfl
                     exact norm_ (by first | (simp only [putAll, Act.put, List.setIfInBounds_toArray, List.set_cons_zero, List.set_cons_succ]; done) | (simp only [putAll, Act.put, List.setIfInBounds_toArray, List.set_cons_zero, List.set_cons_succ]; rfl)) (hJ7_26 ((.slice Ao16 y487.length co16), v502) _ ⟨hHeld, (by (with_reducible repeat (first | apply Kd.R_alloc | apply Kd.R_drewN | apply Kd.R_drew)); exact Kd.R_mono HO489.out (fun _ hk => ⟨hk.2, ⟨hk.1.1, ⟨hk.1.2.1, hk.1.2.2⟩⟩⟩)), (by (with_reducible repeat (first | apply Kd.R_alloc | apply Kd.R_drewN | apply Kd.R_drew)); exact Kd.R_mono HO503.out (fun _ hk => ⟨hk.2, ⟨hk.1.1.1.2, ⟨hk.1.1.2, hk.1.2⟩⟩⟩)), (by (with_reducible repeat (first | apply Kd.R_alloc | apply Kd.R_drewN | apply Kd.R_drew)); exact Kd.R_mono HO_3.out (fun _ hk => ⟨hk.1.1, ⟨hk.2, ⟨hk.1.2.1, hk.1.2.2⟩⟩⟩)), (by (with_reducible repeat (first | apply Kd.R_alloc | apply Kd.R_drewN | apply Kd.R_drew)); exact Kd.R_mono HO_4.out (fun _ hk => ⟨hk.1.1, ⟨hk.2, ⟨hk.1.2.1, hk.1.2.2⟩⟩⟩)), (by (with_reducible repeat (first | apply Kd.R_alloc | apply Kd.R_drewN | apply Kd.R_drew)); exact Kd.R_mono HO_5.out (fun _ hk => ⟨hk.1.1, ⟨hk.2, ⟨hk.1.2.1, hk.1.2.2⟩⟩⟩)), (by repeat (first | (with_reducible first | exact HB.out | apply below_alloc | apply pw_below_drewN | apply below_drew1) | exact HB.out))⟩)
                  ·skip
                   rintro ⟨v495, v502⟩ w16 ⟨hS_, h0_, h1_, h2_, h3_, h4_, h5_⟩
                   have n0_ : Aside0 (Kd.R (Kd.int .i64) 2 w16 w.heap.size (fun k_ => some k_ ≠ (v502 : Value).ownBlock ∧ some k_ ≠ (.slice Ao8 x3_1.length co8 : Value).ownBlock ∧ some k_ ≠ (.slice Ao9 x4_1.length co9 : Value).ownBlock ∧ some k_ ≠ (.slice Ao10 x5_1.length co10 : Value).ownBlock) v495 y494) := ⟨h0_⟩
                   have n1_ : Aside0 (Kd.R (Kd.int .i64) 2 w16 w.heap.size (fun k_ => some k_ ≠ (v495 : Value).ownBlock ∧ some k_ ≠ (.slice Ao8 x3_1.length co8 : Value).ownBlock ∧ some k_ ≠ (.slice Ao9 x4_1.length co9 : Value).ownBlock ∧ some k_ ≠ (.slice Ao10 x5_1.length co10 : Value).ownBlock) v502 y501) := ⟨h1_⟩
                   have n2_ : Aside0 (Kd.R (Kd.int .i64) 2 w16 w.heap.size (fun k_ => some k_ ≠ (v495 : Value).ownBlock ∧ some k_ ≠ (v502 : Value).ownBlock ∧ some k_ ≠ (.slice Ao9 x4_1.length co9 : Value).ownBlock ∧ some k_ ≠ (.slice Ao10 x5_1.length co10 : Value).ownBlock) (.slice Ao8 x3_1.length co8) x3_1) := ⟨h2_⟩
                   have n3_ : Aside0 (Kd.R (Kd.int .i64) 2 w16 w.heap.size (fun k_ => some k_ ≠ (v495 : Value).ownBlock ∧ some k_ ≠ (v502 : Value).ownBlock ∧ some k_ ≠ (.slice Ao8 x3_1.length co8 : Value).ownBlock ∧ some k_ ≠ (.slice Ao10 x5_1.length co10 : Value).ownBlock) (.slice Ao9 x4_1.length co9) x4_1) := ⟨h3_⟩
                   have n4_ : Aside0 (Kd.R (Kd.int .i64) 2 w16 w.heap.size (fun k_ => some k_ ≠ (v495 : Value).ownBlock ∧ some k_ ≠ (v502 : Value).ownBlock ∧ some k_ ≠ (.slice Ao8 x3_1.length co8 : Value).ownBlock ∧ some k_ ≠ (.slice Ao9 x4_1.length co9 : Value).ownBlock) (.slice Ao10 x5_1.length co10) x5_1) := ⟨h4_⟩
                   have n5_ : Aside0 (Below w.heap.size w w16) := ⟨h5_⟩
                   clear HO_3
                   clear HO_4
                   clear HO_5
                   clear HB
                   clear h0_ h1_ h2_ h3_ h4_ h5_
                   have HO496 := n0_
                   have HO503 := n1_
                   have HO_3 := n2_
                   have HO_4 := n3_
                   have HO_5 := n4_
                   have HB := n5_
                   clear n0_ n1_ n2_ n3_ n4_ n5_
                   have hHeld : w16.cell? (ad486.add ((x6_1).toNat * 2)) = some (.int .i16 ((rd_T47 l0 x6_1).f0)) ∧ w16.cell? ⟨(ad486.add ((x6_1).toNat * 2)).block, (ad486.add ((x6_1).toNat * 2)).off + 1, none⟩ = some (.int .i16 ((rd_T47 l0 x6_1).f1)) ∧ w16.cell? (ad486.add ((x6_1).toNat * 2)) = some (.int .i16 ((rd_T47 l0 x6_1).f0)) ∧ w16.cell? ⟨(ad486.add ((x6_1).toNat * 2)).block, (ad486.add ((x6_1).toNat * 2)).off + 1, none⟩ = some (.int .i16 ((rd_T47 l0 x6_1).f1)) ∧ w16.cell? (ad486.add ((x6_1).toNat * 2)) = some (.int .i16 ((rd_T47 l0 x6_1).f0)) ∧ w16.cell? ⟨(ad486.add ((x6_1).toNat * 2)).block, (ad486.add ((x6_1).toNat * 2)).off + 1, none⟩ = some (.int .i16 ((rd_T47 l0 x6_1).f1)) := hS_
                   refine norm_ (a' := ?_) ?_ ?_
                   rotate_left
                   ·simp only [putAll, Act.put, List.setIfInBounds_toArray, List.set_cons_zero, List.set_cons_succ]
                    rfl
                   refine one_ (i := 7) (N := some 25) (bl 31 134086399) rfl rfl (one_of HT_.out (by kernel_rfl)) (by decide) (fun K hK => ?_)
                   refine Kd.R_lit_step (Kd.int .i64) _ 2 ?hg (N := 25) ?hd (xs := ([wrap64 ((rd_T47 l0 x6_1).f0)] : List Int)) (inner := [.int .i64 (wrap64 ((rd_T47 l0 x6_1).f0))]) (ok := fun _ => True) (okp := fun _ => True) ?hr ?hp (fun _ hk => hk) trivial (Below.refl _ _) (Nat.le_refl _) (by simp) ?_; (case hd => rfl); (case hg => rfl); (case hr => first | (go_simp; done) | (go_simp; rfl)); (case hp => exact (Reps.one (show Kd.M (Kd.int .i64) _ _ _ (wrap64 ((rd_T47 l0 x6_1).f0)) [.int .i64 (wrap64 ((rd_T47 l0 x6_1).f0))] from rfl) (Reps.none _ _)))
                   intro v488 w17 ho18 hb hg_ hnew_
                   clear hg_ hnew_
                   (first | rw [← Ny487.out] at ho18 | (simp only [Int.reduceToNat] at ho18; rw [← Ny487.out] at ho18))
                   have n0_ := Aside0.mk (Kd.R_elder' (by (with_reducible repeat (first | apply Kd.R_alloc | apply Kd.R_drewN | apply Kd.R_drew)); exact HO_3.out) (Kd.R_base ho18) hb)
                   have n1_ := Aside0.mk (Kd.R_elder' (by (with_reducible repeat (first | apply Kd.R_alloc | apply Kd.R_drewN | apply Kd.R_drew)); exact HO_4.out) (Kd.R_base ho18) hb)
                   have n2_ := Aside0.mk (Kd.R_elder' (by (with_reducible repeat (first | apply Kd.R_alloc | apply Kd.R_drewN | apply Kd.R_drew)); exact HO_5.out) (Kd.R_base ho18) hb)
                   have n3_ := Aside0.mk (Kd.R_elder' (by (with_reducible repeat (first | apply Kd.R_alloc | apply Kd.R_drewN | apply Kd.R_drew)); exact HO496.out) (Kd.R_base ho18) hb)
                   have n4_ := Aside0.mk (Kd.R_elder' (by (with_reducible repeat (first | apply Kd.R_alloc | apply Kd.R_drewN | apply Kd.R_drew)); exact HO503.out) (Kd.R_base ho18) hb)
                   have n5_ := Aside0.mk (Kd.R_lower (Kd.R_new' (Kd.R_new' (Kd.R_new' (Kd.R_new' (Kd.R_new' ho18 (Kd.R_lt (by (with_reducible repeat (first | apply Kd.R_alloc | apply Kd.R_drewN | apply Kd.R_drew)); exact HO_3.out))) (Kd.R_lt (by (with_reducible repeat (first | apply Kd.R_alloc | apply Kd.R_drewN | apply Kd.R_drew)); exact HO_4.out))) (Kd.R_lt (by (with_reducible repeat (first | apply Kd.R_alloc | apply Kd.R_drewN | apply Kd.R_drew)); exact HO_5.out))) (Kd.R_lt (by (with_reducible repeat (first | apply Kd.R_alloc | apply Kd.R_drewN | apply Kd.R_drew)); exact HO496.out))) (Kd.R_lt (by (with_reducible repeat (first | apply Kd.R_alloc | apply Kd.R_drewN | apply Kd.R_drew)); exact HO503.out))) (below_size (by repeat (first | (with_reducible first | exact HB.out | apply below_alloc | apply pw_below_drewN | apply below_drew1) | exact HB.out))))
                   have n6_ := Aside0.mk (below_step (by repeat (first | (with_reducible first | exact HB.out | apply below_alloc | apply pw_below_drewN | apply below_drew1) | exact HB.out)) hb)
                   clear HO_3
                   clear HO_4
                   clear HO_5
                   clear HO496
                   clear HO503
                   clear HB
                   have HO_3 := n0_
                   have HO_4 := n1_
                   have HO_5 := n2_
                   have HO496 := n3_
                   have HO503 := n4_
                   have HO489 := n5_
                   have HB := n6_
                   clear n0_ n1_ n2_ n3_ n4_ n5_ n6_
                   clear hb ho18
                   refine hK.out _ _ ⟨((HB.out.cell (World.block_lt_of_cell? w _ hw486_0)).trans hw486_0), ((HB.out.cell (World.block_lt_of_cell? w _ hw486_1)).trans hw486_1), ((HB.out.cell (World.block_lt_of_cell? w _ hw493_0)).trans hw493_0), ((HB.out.cell (World.block_lt_of_cell? w _ hw493_1)).trans hw493_1), ((HB.out.cell (World.block_lt_of_cell? w _ hw500_0)).trans hw500_0), ((HB.out.cell (World.block_lt_of_cell? w _ hw500_1)).trans hw500_1)⟩ (fun hHeld => ?_)
                   clear hK K
                   refine norm_ (a' := ?_) ?_ ?_
                   rotate_left
                   ·show Act.put _ (some 25) _ = _
                    simp only [puts_]
                    rfl
                   exact norm_ (by first | (simp only [putAll, Act.put, List.setIfInBounds_toArray, List.set_cons_zero, List.set_cons_succ]; done) | (simp only [putAll, Act.put, List.setIfInBounds_toArray, List.set_cons_zero, List.set_cons_succ]; rfl)) (hJ7_16_26 (v488, v495, v502) _ ⟨hHeld, (by (with_reducible repeat (first | apply Kd.R_alloc | apply Kd.R_drewN | apply Kd.R_drew)); exact Kd.R_mono HO489.out (fun _ hk => ⟨hk.1.2, ⟨hk.2, ⟨hk.1.1.1.1.2, ⟨hk.1.1.1.2, hk.1.1.2⟩⟩⟩⟩)), (by (with_reducible repeat (first | apply Kd.R_alloc | apply Kd.R_drewN | apply Kd.R_drew)); exact Kd.R_mono HO496.out (fun _ hk => ⟨hk.2, ⟨hk.1.1, ⟨hk.1.2.1, ⟨hk.1.2.2.1, hk.1.2.2.2⟩⟩⟩⟩)), (by (with_reducible repeat (first | apply Kd.R_alloc | apply Kd.R_drewN | apply Kd.R_drew)); exact Kd.R_mono HO503.out (fun _ hk => ⟨hk.2, ⟨hk.1.1, ⟨hk.1.2.1, ⟨hk.1.2.2.1, hk.1.2.2.2⟩⟩⟩⟩)), (by (with_reducible repeat (first | apply Kd.R_alloc | apply Kd.R_drewN | apply Kd.R_drew)); exact Kd.R_mono HO_3.out (fun _ hk => ⟨hk.2, ⟨hk.1.1, ⟨hk.1.2.1, ⟨hk.1.2.2.1, hk.1.2.2.2⟩⟩⟩⟩)), (by (with_reducible repeat (first | apply Kd.R_alloc | apply Kd.R_drewN | apply Kd.R_drew)); exact Kd.R_mono HO_4.out (fun _ hk => ⟨hk.2, ⟨hk.1.1, ⟨hk.1.2.1, ⟨hk.1.2.2.1, hk.1.2.2.2⟩⟩⟩⟩)), (by (with_reducible repeat (first | apply Kd.R_alloc | apply Kd.R_drewN | apply Kd.R_drew)); exact Kd.R_mono HO_5.out (fun _ hk => ⟨hk.2, ⟨hk.1.1, ⟨hk.1.2.1, ⟨hk.1.2.2.1, hk.1.2.2.2⟩⟩⟩⟩)), (by repeat (first | (with_reducible first | exact HB.out | apply below_alloc | apply pw_below_drewN | apply below_drew1) | exact HB.out))⟩)
                 ·skip
                  rintro ⟨v488, v502⟩ w16 ⟨hS_, h0_, h1_, h2_, h3_, h4_, h5_⟩
                  have n0_ : Aside0 (Kd.R (Kd.int .i64) 2 w16 w.heap.size (fun k_ => some k_ ≠ (v502 : Value).ownBlock ∧ some k_ ≠ (.slice Ao8 x3_1.length co8 : Value).ownBlock ∧ some k_ ≠ (.slice Ao9 x4_1.length co9 : Value).ownBlock ∧ some k_ ≠ (.slice Ao10 x5_1.length co10 : Value).ownBlock) v488 y487) := ⟨h0_⟩
                  have n1_ : Aside0 (Kd.R (Kd.int .i64) 2 w16 w.heap.size (fun k_ => some k_ ≠ (v488 : Value).ownBlock ∧ some k_ ≠ (.slice Ao8 x3_1.length co8 : Value).ownBlock ∧ some k_ ≠ (.slice Ao9 x4_1.length co9 : Value).ownBlock ∧ some k_ ≠ (.slice Ao10 x5_1.length co10 : Value).ownBlock) v502 y501) := ⟨h1_⟩
                  have n2_ : Aside0 (Kd.R (Kd.int .i64) 2 w16 w.heap.size (fun k_ => some k_ ≠ (v488 : Value).ownBlock ∧ some k_ ≠ (v502 : Value).ownBlock ∧ some k_ ≠ (.slice Ao9 x4_1.length co9 : Value).ownBlock ∧ some k_ ≠ (.slice Ao10 x5_1.length co10 : Value).ownBlock) (.slice Ao8 x3_1.length co8) x3_1) := ⟨h2_⟩
                  have n3_ : Aside0 (Kd.R (Kd.int .i64) 2 w16 w.heap.size (fun k_ => some k_ ≠ (v488 : Value).ownBlock ∧ some k_ ≠ (v502 : Value).ownBlock ∧ some k_ ≠ (.slice Ao8 x3_1.length co8 : Value).ownBlock ∧ some k_ ≠ (.slice Ao10 x5_1.length co10 : Value).ownBlock) (.slice Ao9 x4_1.length co9) x4_1) := ⟨h3_⟩
                  have n4_ : Aside0 (Kd.R (Kd.int .i64) 2 w16 w.heap.size (fun k_ => some k_ ≠ (v488 : Value).ownBlock ∧ some k_ ≠ (v502 : Value).ownBlock ∧ some k_ ≠ (.slice Ao8 x3_1.length co8 : Value).ownBlock ∧ some k_ ≠ (.slice Ao9 x4_1.length co9 : Value).ownBlock) (.slice Ao10 x5_1.length co10) x5_1) := ⟨h4_⟩
                  have n5_ : Aside0 (Below w.heap.size w w16) := ⟨h5_⟩
                  clear HO_3
                  clear HO_4
                  clear HO_5
                  clear HB
                  clear h0_ h1_ h2_ h3_ h4_ h5_
                  have HO489 := n0_
                  have HO503 := n1_
                  have HO_3 := n2_
                  have HO_4 := n3_
                  have HO_5 := n4_
                  have HB := n5_
                  clear n0_ n1_ n2_ n3_ n4_ n5_
                  have hHeld : w16.cell? (ad486.add ((x6_1).toNat * 2)) = some (.int .i16 ((rd_T47 l0 x6_1).f0)) ∧ w16.cell? ⟨(ad486.add ((x6_1).toNat * 2)).block, (ad486.add ((x6_1).toNat * 2)).off + 1, none⟩ = some (.int .i16 ((rd_T47 l0 x6_1).f1)) ∧ w16.cell? (ad486.add ((x6_1).toNat * 2)) = some (.int .i16 ((rd_T47 l0 x6_1).f0)) ∧ w16.cell? ⟨(ad486.add ((x6_1).toNat * 2)).block, (ad486.add ((x6_1).toNat * 2)).off + 1, none⟩ = some (.int .i16 ((rd_T47 l0 x6_1).f1)) ∧ w16.cell? (ad486.add ((x6_1).toNat * 2)) = some (.int .i16 ((rd_T47 l0 x6_1).f0)) ∧ w16.cell? ⟨(ad486.add ((x6_1).toNat * 2)).block, (ad486.add ((x6_1).toNat * 2)).off + 1, none⟩ = some (.int .i16 ((rd_T47 l0 x6_1).f1)) := hS_
                  obtain ⟨Ao18, co18, eo18⟩ := Kd.R_slice HO489.out
                  (first | subst eo18 | (injection eo18 with f1_ f2_ f3_; have f4_ := f1_.symm; have f5_ := f3_.symm; clear f1_ f2_ f3_; subst f4_; subst f5_))
                  refine norm_ (a' := ?_) ?_ ?_
                  rotate_left
                  ·simp only [putAll, Act.put, List.setIfInBounds_toArray, List.set_cons_zero, List.set_cons_succ]
                   rfl
                  refine two_ (i := 8) (j := 16) (Ni := some 26) (Nj := some 34) (bl 31 134021119) (bl 31 134086399) rfl rfl rfl rfl (two_of HT_.out (by kernel_rfl)) (by decide) (by decide) (fun K hK => ?_) (fun K hK => ?_)
                  ·skip
                   refine Kd.R_append_rows_step (Kd.int .i64) (w0 := w) w.heap.size (by rfl) (.tmp 18) (.tmp 25) 22 2 (.int .i64 0) 8 rfl Try.underlying22 info2 rfl (by decide) (by omega) (.slice Ao8 x3_1.length co8) x3_1 y487 _ _ _ (fun k_ => some k_ ≠ (.slice Ao9 x4_1.length co9 : Value).ownBlock ∧ some k_ ≠ (.slice Ao10 x5_1.length co10 : Value).ownBlock ∧ some k_ ≠ (.slice Ao18 y487.length co18 : Value).ownBlock ∧ some k_ ≠ (v502 : Value).ownBlock) (fun _ => False) rfl rfl ?aO ?aR (fun _ _ h => h) (fun _ h => h.elim) ?aF ?aB ?aS ?aL ?_
                   (case aR => repeat (first | exact (Kd.R_reads' HO489.out).2.2 | (with_reducible refine Kd.C_alloc ?_ _) | (with_reducible refine Kd.C_drewN ?_ _) | (with_reducible refine Kd.C_drew ?_)))
                   (case aB => exact (by repeat (first | (with_reducible first | exact HB.out | apply below_alloc | apply pw_below_drewN | apply below_drew1) | exact HB.out)))
                   (case aF => exact (fun k_ hk => ⟨Kd.fresh' (Kd.R_lt (by (with_reducible repeat (first | apply Kd.R_alloc | apply Kd.R_drewN | apply Kd.R_drew)); exact HO_4.out)) k_ hk, Kd.fresh' (Kd.R_lt (by (with_reducible repeat (first | apply Kd.R_alloc | apply Kd.R_drewN | apply Kd.R_drew)); exact HO_5.out)) k_ hk, Kd.fresh' (Kd.R_lt (by (with_reducible repeat (first | apply Kd.R_alloc | apply Kd.R_drewN | apply Kd.R_drew)); exact HO489.out)) k_ hk, Kd.fresh' (Kd.R_lt (by (with_reducible repeat (first | apply Kd.R_alloc | apply Kd.R_drewN | apply Kd.R_drew)); exact HO503.out)) k_ hk⟩))
                   (case aO => exact (by (with_reducible repeat (first | apply Kd.R_alloc | apply Kd.R_drewN | apply Kd.R_drew)); exact Kd.R_mono HO_3.out (fun _ hk => ⟨hk.2.2.1, ⟨hk.2.2.2, ⟨hk.1, hk.2.1⟩⟩⟩)))
                   (case aS => exact (below_size (by repeat (first | (with_reducible first | exact HB.out | apply below_alloc | apply pw_below_drewN | apply below_drew1) | exact HB.out))))
                   (case aL => have := LMc5.out; omega)
                   intro v491 w17 ho hb hg hat
                   rw [← Ny490.out] at ho
                   have n0_ := Aside0.mk (Kd.R_after (ok := (fun k_ => some k_ ≠ (.slice Ao10 x5_1.length co10 : Value).ownBlock ∧ some k_ ≠ (.slice Ao18 y487.length co18 : Value).ownBlock ∧ some k_ ≠ (v502 : Value).ownBlock)) (by (with_reducible repeat (first | apply Kd.R_alloc | apply Kd.R_drewN | apply Kd.R_drew)); exact Kd.R_mono HO_4.out (fun _ hk => ⟨⟨hk.2.2.2, ⟨hk.1, hk.2.1⟩⟩, hk.2.2.1⟩)) hg hat)
                   have n1_ := Aside0.mk (Kd.R_after (ok := (fun k_ => some k_ ≠ (.slice Ao9 x4_1.length co9 : Value).ownBlock ∧ some k_ ≠ (.slice Ao18 y487.length co18 : Value).ownBlock ∧ some k_ ≠ (v502 : Value).ownBlock)) (by (with_reducible repeat (first | apply Kd.R_alloc | apply Kd.R_drewN | apply Kd.R_drew)); exact Kd.R_mono HO_5.out (fun _ hk => ⟨⟨hk.2.2.2, ⟨hk.1, hk.2.1⟩⟩, hk.2.2.1⟩)) hg hat)
                   have n2_ := Aside0.mk (Kd.R_after (ok := (fun k_ => some k_ ≠ (.slice Ao9 x4_1.length co9 : Value).ownBlock ∧ some k_ ≠ (.slice Ao10 x5_1.length co10 : Value).ownBlock ∧ some k_ ≠ (v502 : Value).ownBlock)) (by (with_reducible repeat (first | apply Kd.R_alloc | apply Kd.R_drewN | apply Kd.R_drew)); exact Kd.R_mono HO489.out (fun _ hk => ⟨⟨hk.2.2.1, ⟨hk.2.2.2, hk.1⟩⟩, hk.2.1⟩)) hg hat)
                   have n3_ := Aside0.mk (Kd.R_after (ok := (fun k_ => some k_ ≠ (.slice Ao9 x4_1.length co9 : Value).ownBlock ∧ some k_ ≠ (.slice Ao10 x5_1.length co10 : Value).ownBlock ∧ some k_ ≠ (.slice Ao18 y487.length co18 : Value).ownBlock)) (by (with_reducible repeat (first | apply Kd.R_alloc | apply Kd.R_drewN | apply Kd.R_drew)); exact Kd.R_mono HO503.out (fun _ hk => ⟨⟨hk.2.2.1, ⟨hk.2.2.2, hk.1⟩⟩, hk.2.1⟩)) hg hat)
                   have n4_ := Aside0.mk (hb)
                   have n5_ := Aside0.mk (ho)
                   clear HO_4
                   clear HO_5
                   clear HO489
                   clear HO503
                   clear HB
                   clear HO_3
                   have HO_4 := n0_
                   have HO_5 := n1_
                   have HO489 := n2_
                   have HO503 := n3_
                   have HB := n4_
                   have HO492 := n5_
                   clear n0_ n1_ n2_ n3_ n4_ n5_
                   clear ho hb hg hat
                   refine hK.out _ _ ⟨((HB.out.cell (World.block_lt_of_cell? w _ hw486_0)).trans hw486_0), ((HB.out.cell (World.block_lt_of_cell? w _ hw486_1)).trans hw486_1), ((HB.out.cell (World.block_lt_of_cell? w _ hw493_0)).trans hw493_0), ((HB.out.cell (World.block_lt_of_cell? w _ hw493_1)).trans hw493_1), ((HB.out.cell (World.block_lt_of_cell? w _ hw500_0)).trans hw500_0), ((HB.out.cell (World.block_lt_of_cell? w _ hw500_1)).trans hw500_1)⟩ (fun hHeld => ?_)
                   clear hK K
                   refine norm_ (a' := ?_) ?_ ?_
                   rotate_left
                   ·show Act.put _ (some 26) _ = _
                    simp only [puts_]
                    rfl
                   exact norm_ (by first | (simp only [putAll, Act.put, List.setIfInBounds_toArray, List.set_cons_zero, List.set_cons_succ]; done) | (simp only [putAll, Act.put, List.setIfInBounds_toArray, List.set_cons_zero, List.set_cons_succ]; rfl)) (hJ7_8_26 (.slice Ao18 y487.length co18, v491, v502) _ ⟨hHeld, (by (with_reducible repeat (first | apply Kd.R_alloc | apply Kd.R_drewN | apply Kd.R_drew)); exact Kd.R_mono HO489.out (fun _ hk => ⟨hk.2, ⟨hk.1.2.2, ⟨hk.1.1, hk.1.2.1⟩⟩⟩)), (by (with_reducible repeat (first | apply Kd.R_alloc | apply Kd.R_drewN | apply Kd.R_drew)); exact Kd.R_mono HO492.out (fun _ hk => ⟨hk.2.2.1, ⟨hk.2.2.2, ⟨hk.1, hk.2.1⟩⟩⟩)), (by (with_reducible repeat (first | apply Kd.R_alloc | apply Kd.R_drewN | apply Kd.R_drew)); exact Kd.R_mono HO503.out (fun _ hk => ⟨hk.1.2.2, ⟨hk.2, ⟨hk.1.1, hk.1.2.1⟩⟩⟩)), (by (with_reducible repeat (first | apply Kd.R_alloc | apply Kd.R_drewN | apply Kd.R_drew)); exact Kd.R_mono HO_4.out (fun _ hk => ⟨hk.1.2.1, ⟨hk.2, ⟨hk.1.2.2, hk.1.1⟩⟩⟩)), (by (with_reducible repeat (first | apply Kd.R_alloc | apply Kd.R_drewN | apply Kd.R_drew)); exact Kd.R_mono HO_5.out (fun _ hk => ⟨hk.1.2.1, ⟨hk.2, ⟨hk.1.2.2, hk.1.1⟩⟩⟩)), (by repeat (first | (with_reducible first | exact HB.out | apply below_alloc | apply pw_below_drewN | apply below_drew1) | exact HB.out))⟩)
                  ·skip
                   refine Kd.R_lit_step (Kd.int .i64) _ 2 ?hg (N := 34) ?hd (xs := ([wrap64 ((rd_T47 l0 x6_1).f1)] : List Int)) (inner := [.int .i64 (wrap64 ((rd_T47 l0 x6_1).f1))]) (ok := fun _ => True) (okp := fun _ => True) ?hr ?hp (fun _ hk => hk) trivial (Below.refl _ _) (Nat.le_refl _) (by simp) ?_; (case hd => rfl); (case hg => rfl); (case hr => first | (go_simp; done) | (go_simp; rfl)); (case hp => exact (Reps.one (show Kd.M (Kd.int .i64) _ _ _ (wrap64 ((rd_T47 l0 x6_1).f1)) [.int .i64 (wrap64 ((rd_T47 l0 x6_1).f1))] from rfl) (Reps.none _ _)))
                   intro v495 w17 ho18 hb hg_ hnew_
                   clear hg_ hnew_
                   (first | rw [← Ny494.out] at ho18 | (simp only [Int.reduceToNat] at ho18; rw [← Ny494.out] at ho18))
                   have n0_ := Aside0.mk (Kd.R_elder' (by (with_reducible repeat (first | apply Kd.R_alloc | apply Kd.R_drewN | apply Kd.R_drew)); exact HO_3.out) (Kd.R_base ho18) hb)
                   have n1_ := Aside0.mk (Kd.R_elder' (by (with_reducible repeat (first | apply Kd.R_alloc | apply Kd.R_drewN | apply Kd.R_drew)); exact HO_4.out) (Kd.R_base ho18) hb)
                   have n2_ := Aside0.mk (Kd.R_elder' (by (with_reducible repeat (first | apply Kd.R_alloc | apply Kd.R_drewN | apply Kd.R_drew)); exact HO_5.out) (Kd.R_base ho18) hb)
                   have n3_ := Aside0.mk (Kd.R_elder' (by (with_reducible repeat (first | apply Kd.R_alloc | apply Kd.R_drewN | apply Kd.R_drew)); exact HO489.out) (Kd.R_base ho18) hb)
                   have n4_ := Aside0.mk (Kd.R_elder' (by (with_reducible repeat (first | apply Kd.R_alloc | apply Kd.R_drewN | apply Kd.R_drew)); exact HO503.out) (Kd.R_base ho18) hb)
                   have n5_ := Aside0.mk (Kd.R_lower (Kd.R_new' (Kd.R_new' (Kd.R_new' (Kd.R_new' (Kd.R_new' ho18 (Kd.R_lt (by (with_reducible repeat (first | apply Kd.R_alloc | apply Kd.R_drewN | apply Kd.R_drew)); exact HO_3.out))) (Kd.R_lt (by (with_reducible repeat (first | apply Kd.R_alloc | apply Kd.R_drewN | apply Kd.R_drew)); exact HO_4.out))) (Kd.R_lt (by (with_reducible repeat (first | apply Kd.R_alloc | apply Kd.R_drewN | apply Kd.R_drew)); exact HO_5.out))) (Kd.R_lt (by (with_reducible repeat (first | apply Kd.R_alloc | apply Kd.R_drewN | apply Kd.R_drew)); exact HO489.out))) (Kd.R_lt (by (with_reducible repeat (first | apply Kd.R_alloc | apply Kd.R_drewN | apply Kd.R_drew)); exact HO503.out))) (below_size (by repeat (first | (with_reducible first | exact HB.out | apply below_alloc | apply pw_below_drewN | apply below_drew1) | exact HB.out))))
                   have n6_ := Aside0.mk (below_step (by repeat (first | (with_reducible first | exact HB.out | apply below_alloc | apply pw_below_drewN | apply below_drew1) | exact HB.out)) hb)
                   clear HO_3
                   clear HO_4
                   clear HO_5
                   clear HO489
                   clear HO503
                   clear HB
                   have HO_3 := n0_
                   have HO_4 := n1_
                   have HO_5 := n2_
                   have HO489 := n3_
                   have HO503 := n4_
                   have HO496 := n5_
                   have HB := n6_
                   clear n0_ n1_ n2_ n3_ n4_ n5_ n6_
                   clear hb ho18
                   refine hK.out _ _ ⟨((HB.out.cell (World.block_lt_of_cell? w _ hw486_0)).trans hw486_0), ((HB.out.cell (World.block_lt_of_cell? w _ hw486_1)).trans hw486_1), ((HB.out.cell (World.block_lt_of_cell? w _ hw493_0)).trans hw493_0), ((HB.out.cell (World.block_lt_of_cell? w _ hw493_1)).trans hw493_1), ((HB.out.cell (World.block_lt_of_cell? w _ hw500_0)).trans hw500_0), ((HB.out.cell (World.block_lt_of_cell? w _ hw500_1)).trans hw500_1)⟩ (fun hHeld => ?_)
                   clear hK K
                   refine norm_ (a' := ?_) ?_ ?_
                   rotate_left
                   ·show Act.put _ (some 34) _ = _
                    simp only [puts_]
                    rfl
                   exact norm_ (by first | (simp only [putAll, Act.put, List.setIfInBounds_toArray, List.set_cons_zero, List.set_cons_succ]; done) | (simp only [putAll, Act.put, List.setIfInBounds_toArray, List.set_cons_zero, List.set_cons_succ]; rfl)) (hJ7_16_26 ((.slice Ao18 y487.length co18), v495, v502) _ ⟨hHeld, (by (with_reducible repeat (first | apply Kd.R_alloc | apply Kd.R_drewN | apply Kd.R_drew)); exact Kd.R_mono HO489.out (fun _ hk => ⟨hk.2, ⟨hk.1.1, ⟨hk.1.2.1, ⟨hk.1.2.2.1, hk.1.2.2.2⟩⟩⟩⟩)), (by (with_reducible repeat (first | apply Kd.R_alloc | apply Kd.R_drewN | apply Kd.R_drew)); exact Kd.R_mono HO496.out (fun _ hk => ⟨hk.1.2, ⟨hk.2, ⟨hk.1.1.1.1.2, ⟨hk.1.1.1.2, hk.1.1.2⟩⟩⟩⟩)), (by (with_reducible repeat (first | apply Kd.R_alloc | apply Kd.R_drewN | apply Kd.R_drew)); exact Kd.R_mono HO503.out (fun _ hk => ⟨hk.1.1, ⟨hk.2, ⟨hk.1.2.1, ⟨hk.1.2.2.1, hk.1.2.2.2⟩⟩⟩⟩)), (by (with_reducible repeat (first | apply Kd.R_alloc | apply Kd.R_drewN | apply Kd.R_drew)); exact Kd.R_mono HO_3.out (fun _ hk => ⟨hk.1.1, ⟨hk.2, ⟨hk.1.2.1, ⟨hk.1.2.2.1, hk.1.2.2.2⟩⟩⟩⟩)), (by (with_reducible repeat (first | apply Kd.R_alloc | apply Kd.R_drewN | apply Kd.R_drew)); exact Kd.R_mono HO_4.out (fun _ hk => ⟨hk.1.1, ⟨hk.2, ⟨hk.1.2.1, ⟨hk.1.2.2.1, hk.1.2.2.2⟩⟩⟩⟩)), (by (with_reducible repeat (first | apply Kd.R_alloc | apply Kd.R_drewN | apply Kd.R_drew)); exact Kd.R_mono HO_5.out (fun _ hk => ⟨hk.1.1, ⟨hk.2, ⟨hk.1.2.1, ⟨hk.1.2.2.1, hk.1.2.2.2⟩⟩⟩⟩)), (by repeat (first | (with_reducible first | exact HB.out | apply below_alloc | apply pw_below_drewN | apply below_drew1) | exact HB.out))⟩)
                ·skip
                 rintro ⟨v488, v495⟩ w16 ⟨hS_, h0_, h1_, h2_, h3_, h4_, h5_⟩
                 have n0_ : Aside0 (Kd.R (Kd.int .i64) 2 w16 w.heap.size (fun k_ => some k_ ≠ (v495 : Value).ownBlock ∧ some k_ ≠ (.slice Ao8 x3_1.length co8 : Value).ownBlock ∧ some k_ ≠ (.slice Ao9 x4_1.length co9 : Value).ownBlock ∧ some k_ ≠ (.slice Ao10 x5_1.length co10 : Value).ownBlock) v488 y487) := ⟨h0_⟩
                 have n1_ : Aside0 (Kd.R (Kd.int .i64) 2 w16 w.heap.size (fun k_ => some k_ ≠ (v488 : Value).ownBlock ∧ some k_ ≠ (.slice Ao8 x3_1.length co8 : Value).ownBlock ∧ some k_ ≠ (.slice Ao9 x4_1.length co9 : Value).ownBlock ∧ some k_ ≠ (.slice Ao10 x5_1.length co10 : Value).ownBlock) v495 y494) := ⟨h1_⟩
                 have n2_ : Aside0 (Kd.R (Kd.int .i64) 2 w16 w.heap.size (fun k_ => some k_ ≠ (v488 : Value).ownBlock ∧ some k_ ≠ (v495 : Value).ownBlock ∧ some k_ ≠ (.slice Ao9 x4_1.length co9 : Value).ownBlock ∧ some k_ ≠ (.slice Ao10 x5_1.length co10 : Value).ownBlock) (.slice Ao8 x3_1.length co8) x3_1) := ⟨h2_⟩
                 have n3_ : Aside0 (Kd.R (Kd.int .i64) 2 w16 w.heap.size (fun k_ => some k_ ≠ (v488 : Value).ownBlock ∧ some k_ ≠ (v495 : Value).ownBlock ∧ some k_ ≠ (.slice Ao8 x3_1.length co8 : Value).ownBlock ∧ some k_ ≠ (.slice Ao10 x5_1.length co10 : Value).ownBlock) (.slice Ao9 x4_1.length co9) x4_1) := ⟨h3_⟩
                 have n4_ : Aside0 (Kd.R (Kd.int .i64) 2 w16 w.heap.size (fun k_ => some k_ ≠ (v488 : Value).ownBlock ∧ some k_ ≠ (v495 : Value).ownBlock ∧ some k_ ≠ (.slice Ao8 x3_1.length co8 : Value).ownBlock ∧ some k_ ≠ (.slice Ao9 x4_1.length co9 : Value).ownBlock) (.slice Ao10 x5_1.length co10) x5_1) := ⟨h4_⟩
                 have n5_ : Aside0 (Below w.heap.size w w16) := ⟨h5_⟩
                 clear HO_3
                 clear HO_4
                 clear HO_5
                 clear HB
                 clear h0_ h1_ h2_ h3_ h4_ h5_
                 have HO489 := n0_
                 have HO496 := n1_
                 have HO_3 := n2_
                 have HO_4 := n3_
                 have HO_5 := n4_
                 have HB := n5_
                 clear n0_ n1_ n2_ n3_ n4_ n5_
                 have hHeld : w16.cell? (ad486.add ((x6_1).toNat * 2)) = some (.int .i16 ((rd_T47 l0 x6_1).f0)) ∧ w16.cell? ⟨(ad486.add ((x6_1).toNat * 2)).block, (ad486.add ((x6_1).toNat * 2)).off + 1, none⟩ = some (.int .i16 ((rd_T47 l0 x6_1).f1)) ∧ w16.cell? (ad486.add ((x6_1).toNat * 2)) = some (.int .i16 ((rd_T47 l0 x6_1).f0)) ∧ w16.cell? ⟨(ad486.add ((x6_1).toNat * 2)).block, (ad486.add ((x6_1).toNat * 2)).off + 1, none⟩ = some (.int .i16 ((rd_T47 l0 x6_1).f1)) ∧ w16.cell? (ad486.add ((x6_1).toNat * 2)) = some (.int .i16 ((rd_T47 l0 x6_1).f0)) ∧ w16.cell? ⟨(ad486.add ((x6_1).toNat * 2)).block, (ad486.add ((x6_1).toNat * 2)).off + 1, none⟩ = some (.int .i16 ((rd_T47 l0 x6_1).f1)) := hS_
                 obtain ⟨Ao18, co18, eo18⟩ := Kd.R_slice HO489.out
                 (first | subst eo18 | (injection eo18 with f1_ f2_ f3_; have f4_ := f1_.symm; have f5_ := f3_.symm; clear f1_ f2_ f3_; subst f4_; subst f5_))
                 refine norm_ (a' := ?_) ?_ ?_
                 rotate_left
                 ·simp only [putAll, Act.put, List.setIfInBounds_toArray, List.set_cons_zero, List.set_cons_succ]
                  rfl
                 refine two_ (i := 8) (j := 26) (Ni := some 26) (Nj := some 44) (bl 31 66977791) (bl 31 134086399) rfl rfl rfl rfl (two_of HT_.out (by kernel_rfl)) (by decide) (by decide) (fun K hK => ?_) (fun K hK => ?_)
                 ·skip
                  refine Kd.R_append_rows_step (Kd.int .i64) (w0 := w) w.heap.size (by rfl) (.tmp 18) (.tmp 25) 22 2 (.int .i64 0) 8 rfl Try.underlying22 info2 rfl (by decide) (by omega) (.slice Ao8 x3_1.length co8) x3_1 y487 _ _ _ (fun k_ => some k_ ≠ (.slice Ao9 x4_1.length co9 : Value).ownBlock ∧ some k_ ≠ (.slice Ao10 x5_1.length co10 : Value).ownBlock ∧ some k_ ≠ (.slice Ao18 y487.length co18 : Value).ownBlock ∧ some k_ ≠ (v495 : Value).ownBlock) (fun _ => False) rfl rfl ?aO ?aR (fun _ _ h => h) (fun _ h => h.elim) ?aF ?aB ?aS ?aL ?_
                  (case aR => repeat (first | exact (Kd.R_reads' HO489.out).2.2 | (with_reducible refine Kd.C_alloc ?_ _) | (with_reducible refine Kd.C_drewN ?_ _) | (with_reducible refine Kd.C_drew ?_)))
                  (case aB => exact (by repeat (first | (with_reducible first | exact HB.out | apply below_alloc | apply pw_below_drewN | apply below_drew1) | exact HB.out)))
                  (case aF => exact (fun k_ hk => ⟨Kd.fresh' (Kd.R_lt (by (with_reducible repeat (first | apply Kd.R_alloc | apply Kd.R_drewN | apply Kd.R_drew)); exact HO_4.out)) k_ hk, Kd.fresh' (Kd.R_lt (by (with_reducible repeat (first | apply Kd.R_alloc | apply Kd.R_drewN | apply Kd.R_drew)); exact HO_5.out)) k_ hk, Kd.fresh' (Kd.R_lt (by (with_reducible repeat (first | apply Kd.R_alloc | apply Kd.R_drewN | apply Kd.R_drew)); exact HO489.out)) k_ hk, Kd.fresh' (Kd.R_lt (by (with_reducible repeat (first | apply Kd.R_alloc | apply Kd.R_drewN | apply Kd.R_drew)); exact HO496.out)) k_ hk⟩))
                  (case aO => exact (by (with_reducible repeat (first | apply Kd.R_alloc | apply Kd.R_drewN | apply Kd.R_drew)); exact Kd.R_mono HO_3.out (fun _ hk => ⟨hk.2.2.1, ⟨hk.2.2.2, ⟨hk.1, hk.2.1⟩⟩⟩)))
                  (case aS => exact (below_size (by repeat (first | (with_reducible first | exact HB.out | apply below_alloc | apply pw_below_drewN | apply below_drew1) | exact HB.out))))
                  (case aL => have := LMc5.out; omega)
                  intro v491 w17 ho hb hg hat
                  rw [← Ny490.out] at ho
                  have n0_ := Aside0.mk (Kd.R_after (ok := (fun k_ => some k_ ≠ (.slice Ao10 x5_1.length co10 : Value).ownBlock ∧ some k_ ≠ (.slice Ao18 y487.length co18 : Value).ownBlock ∧ some k_ ≠ (v495 : Value).ownBlock)) (by (with_reducible repeat (first | apply Kd.R_alloc | apply Kd.R_drewN | apply Kd.R_drew)); exact Kd.R_mono HO_4.out (fun _ hk => ⟨⟨hk.2.2.2, ⟨hk.1, hk.2.1⟩⟩, hk.2.2.1⟩)) hg hat)
                  have n1_ := Aside0.mk (Kd.R_after (ok := (fun k_ => some k_ ≠ (.slice Ao9 x4_1.length co9 : Value).ownBlock ∧ some k_ ≠ (.slice Ao18 y487.length co18 : Value).ownBlock ∧ some k_ ≠ (v495 : Value).ownBlock)) (by (with_reducible repeat (first | apply Kd.R_alloc | apply Kd.R_drewN | apply Kd.R_drew)); exact Kd.R_mono HO_5.out (fun _ hk => ⟨⟨hk.2.2.2, ⟨hk.1, hk.2.1⟩⟩, hk.2.2.1⟩)) hg hat)
                  have n2_ := Aside0.mk (Kd.R_after (ok := (fun k_ => some k_ ≠ (.slice Ao9 x4_1.length co9 : Value).ownBlock ∧ some k_ ≠ (.slice Ao10 x5_1.length co10 : Value).ownBlock ∧ some k_ ≠ (v495 : Value).ownBlock)) (by (with_reducible repeat (first | apply Kd.R_alloc | apply Kd.R_drewN | apply Kd.R_drew)); exact Kd.R_mono HO489.out (fun _ hk => ⟨⟨hk.2.2.1, ⟨hk.2.2.2, hk.1⟩⟩, hk.2.1⟩)) hg hat)
                  have n3_ := Aside0.mk (Kd.R_after (ok := (fun k_ => some k_ ≠ (.slice Ao9 x4_1.length co9 : Value).ownBlock ∧ some k_ ≠ (.slice Ao10 x5_1.length co10 : Value).ownBlock ∧ some k_ ≠ (.slice Ao18 y487.length co18 : Value).ownBlock)) (by (with_reducible repeat (first | apply Kd.R_alloc | apply Kd.R_drewN | apply Kd.R_drew)); exact Kd.R_mono HO496.out (fun _ hk => ⟨⟨hk.2.2.1, ⟨hk.2.2.2, hk.1⟩⟩, hk.2.1⟩)) hg hat)
                  have n4_ := Aside0.mk (hb)
                  have n5_ := Aside0.mk (ho)
                  clear HO_4
                  clear HO_5
                  clear HO489
                  clear HO496
                  clear HB
                  clear HO_3
                  have HO_4 := n0_
                  have HO_5 := n1_
                  have HO489 := n2_
                  have HO496 := n3_
                  have HB := n4_
                  have HO492 := n5_
                  clear n0_ n1_ n2_ n3_ n4_ n5_
                  clear ho hb hg hat
                  refine hK.out _ _ ⟨((HB.out.cell (World.block_lt_of_cell? w _ hw486_0)).trans hw486_0), ((HB.out.cell (World.block_lt_of_cell? w _ hw486_1)).trans hw486_1), ((HB.out.cell (World.block_lt_of_cell? w _ hw493_0)).trans hw493_0), ((HB.out.cell (World.block_lt_of_cell? w _ hw493_1)).trans hw493_1), ((HB.out.cell (World.block_lt_of_cell? w _ hw500_0)).trans hw500_0), ((HB.out.cell (World.block_lt_of_cell? w _ hw500_1)).trans hw500_1)⟩ (fun hHeld => ?_)
                  clear hK K
                  refine norm_ (a' := ?_) ?_ ?_
                  rotate_left
                  ·show Act.put _ (some 26) _ = _
                   simp only [puts_]
                   rfl
                  exact norm_ (by first | (simp only [putAll, Act.put, List.setIfInBounds_toArray, List.set_cons_zero, List.set_cons_succ]; done) | (simp only [putAll, Act.put, List.setIfInBounds_toArray, List.set_cons_zero, List.set_cons_succ]; rfl)) (hJ7_8_16 (.slice Ao18 y487.length co18, v491, v495) _ ⟨hHeld, (by (with_reducible repeat (first | apply Kd.R_alloc | apply Kd.R_drewN | apply Kd.R_drew)); exact Kd.R_mono HO489.out (fun _ hk => ⟨hk.2, ⟨hk.1.2.2, ⟨hk.1.1, hk.1.2.1⟩⟩⟩)), (by (with_reducible repeat (first | apply Kd.R_alloc | apply Kd.R_drewN | apply Kd.R_drew)); exact Kd.R_mono HO492.out (fun _ hk => ⟨hk.2.2.1, ⟨hk.2.2.2, ⟨hk.1, hk.2.1⟩⟩⟩)), (by (with_reducible repeat (first | apply Kd.R_alloc | apply Kd.R_drewN | apply Kd.R_drew)); exact Kd.R_mono HO496.out (fun _ hk => ⟨hk.1.2.2, ⟨hk.2, ⟨hk.1.1, hk.1.2.1⟩⟩⟩)), (by (with_reducible repeat (first | apply Kd.R_alloc | apply Kd.R_drewN | apply Kd.R_drew)); exact Kd.R_mono HO_4.out (fun _ hk => ⟨hk.1.2.1, ⟨hk.2, ⟨hk.1.2.2, hk.1.1⟩⟩⟩)), (by (with_reducible repeat (first | apply Kd.R_alloc | apply Kd.R_drewN | apply Kd.R_drew)); exact Kd.R_mono HO_5.out (fun _ hk => ⟨hk.1.2.1, ⟨hk.2, ⟨hk.1.2.2, hk.1.1⟩⟩⟩)), (by repeat (first | (with_reducible first | exact HB.out | apply below_alloc | apply pw_below_drewN | apply below_drew1) | exact HB.out))⟩)
                 ·skip
                  refine Kd.R_lit_step (Kd.int .i64) _ 2 ?hg (N := 44) ?hd (xs := ([wrap64 (2 * (wrap64 ((rd_T47 l0 x6_1).f1)))] : List Int)) (inner := [.int .i64 (wrap64 (2 * (wrap64 ((rd_T47 l0 x6_1).f1))))]) (ok := fun _ => True) (okp := fun _ => True) ?hr ?hp (fun _ hk => hk) trivial (Below.refl _ _) (Nat.le_refl _) (by simp) ?_; (case hd => rfl); (case hg => rfl); (case hr => first | (go_simp; done) | (go_simp; rfl)); (case hp => exact (Reps.one (show Kd.M (Kd.int .i64) _ _ _ (wrap64 (2 * (wrap64 ((rd_T47 l0 x6_1).f1)))) [.int .i64 (wrap64 (2 * (wrap64 ((rd_T47 l0 x6_1).f1))))] from rfl) (Reps.none _ _)))
                  intro v502 w17 ho18 hb hg_ hnew_
                  clear hg_ hnew_
                  (first | rw [← Ny501.out] at ho18 | (simp only [Int.reduceToNat] at ho18; rw [← Ny501.out] at ho18))
                  have n0_ := Aside0.mk (Kd.R_elder' (by (with_reducible repeat (first | apply Kd.R_alloc | apply Kd.R_drewN | apply Kd.R_drew)); exact HO_3.out) (Kd.R_base ho18) hb)
                  have n1_ := Aside0.mk (Kd.R_elder' (by (with_reducible repeat (first | apply Kd.R_alloc | apply Kd.R_drewN | apply Kd.R_drew)); exact HO_4.out) (Kd.R_base ho18) hb)
                  have n2_ := Aside0.mk (Kd.R_elder' (by (with_reducible repeat (first | apply Kd.R_alloc | apply Kd.R_drewN | apply Kd.R_drew)); exact HO_5.out) (Kd.R_base ho18) hb)
                  have n3_ := Aside0.mk (Kd.R_elder' (by (with_reducible repeat (first | apply Kd.R_alloc | apply Kd.R_drewN | apply Kd.R_drew)); exact HO489.out) (Kd.R_base ho18) hb)
                  have n4_ := Aside0.mk (Kd.R_elder' (by (with_reducible repeat (first | apply Kd.R_alloc | apply Kd.R_drewN | apply Kd.R_drew)); exact HO496.out) (Kd.R_base ho18) hb)
                  have n5_ := Aside0.mk (Kd.R_lower (Kd.R_new' (Kd.R_new' (Kd.R_new' (Kd.R_new' (Kd.R_new' ho18 (Kd.R_lt (by (with_reducible repeat (first | apply Kd.R_alloc | apply Kd.R_drewN | apply Kd.R_drew)); exact HO_3.out))) (Kd.R_lt (by (with_reducible repeat (first | apply Kd.R_alloc | apply Kd.R_drewN | apply Kd.R_drew)); exact HO_4.out))) (Kd.R_lt (by (with_reducible repeat (first | apply Kd.R_alloc | apply Kd.R_drewN | apply Kd.R_drew)); exact HO_5.out))) (Kd.R_lt (by (with_reducible repeat (first | apply Kd.R_alloc | apply Kd.R_drewN | apply Kd.R_drew)); exact HO489.out))) (Kd.R_lt (by (with_reducible repeat (first | apply Kd.R_alloc | apply Kd.R_drewN | apply Kd.R_drew)); exact HO496.out))) (below_size (by repeat (first | (with_reducible first | exact HB.out | apply below_alloc | apply pw_below_drewN | apply below_drew1) | exact HB.out))))
                  have n6_ := Aside0.mk (below_step (by repeat (first | (with_reducible first | exact HB.out | apply below_alloc | apply pw_below_drewN | apply below_drew1) | exact HB.out)) hb)
                  clear HO_3
                  clear HO_4
                  clear HO_5
                  clear HO489
                  clear HO496
                  clear HB
                  have HO_3 := n0_
                  have HO_4 := n1_
                  have HO_5 := n2_
                  have HO489 := n3_
                  have HO496 := n4_
                  have HO503 := n5_
                  have HB := n6_
                  clear n0_ n1_ n2_ n3_ n4_ n5_ n6_
                  clear hb ho18
                  refine hK.out _ _ ⟨((HB.out.cell (World.block_lt_of_cell? w _ hw486_0)).trans hw486_0), ((HB.out.cell (World.block_lt_of_cell? w _ hw486_1)).trans hw486_1), ((HB.out.cell (World.block_lt_of_cell? w _ hw493_0)).trans hw493_0), ((HB.out.cell (World.block_lt_of_cell? w _ hw493_1)).trans hw493_1), ((HB.out.cell (World.block_lt_of_cell? w _ hw500_0)).trans hw500_0), ((HB.out.cell (World.block_lt_of_cell? w _ hw500_1)).trans hw500_1)⟩ (fun hHeld => ?_)
                  clear hK K
                  refine norm_ (a' := ?_) ?_ ?_
                  rotate_left
                  ·show Act.put _ (some 44) _ = _
                   simp only [puts_]
                   rfl
                  exact norm_ (by first | (simp only [putAll, Act.put, List.setIfInBounds_toArray, List.set_cons_zero, List.set_cons_succ]; done) | (simp only [putAll, Act.put, List.setIfInBounds_toArray, List.set_cons_zero, List.set_cons_succ]; rfl)) (hJ7_16_26 ((.slice Ao18 y487.length co18), v495, v502) _ ⟨hHeld, (by (with_reducible repeat (first | apply Kd.R_alloc | apply Kd.R_drewN | apply Kd.R_drew)); exact Kd.R_mono HO489.out (fun _ hk => ⟨hk.1.1, ⟨hk.2, ⟨hk.1.2.1, ⟨hk.1.2.2.1, hk.1.2.2.2⟩⟩⟩⟩)), (by (with_reducible repeat (first | apply Kd.R_alloc | apply Kd.R_drewN | apply Kd.R_drew)); exact Kd.R_mono HO496.out (fun _ hk => ⟨hk.1.1, ⟨hk.2, ⟨hk.1.2.1, ⟨hk.1.2.2.1, hk.1.2.2.2⟩⟩⟩⟩)), (by (with_reducible repeat (first | apply Kd.R_alloc | apply Kd.R_drewN | apply Kd.R_drew)); exact Kd.R_mono HO503.out (fun _ hk => ⟨hk.1.2, ⟨hk.2, ⟨hk.1.1.1.1.2, ⟨hk.1.1.1.2, hk.1.1.2⟩⟩⟩⟩)), (by (with_reducible repeat (first | apply Kd.R_alloc | apply Kd.R_drewN | apply Kd.R_drew)); exact Kd.R_mono HO_3.out (fun _ hk => ⟨hk.1.1, ⟨hk.1.2.1, ⟨hk.2, ⟨hk.1.2.2.1, hk.1.2.2.2⟩⟩⟩⟩)), (by (with_reducible repeat (first | apply Kd.R_alloc | apply Kd.R_drewN | apply Kd.R_drew)); exact Kd.R_mono HO_4.out (fun _ hk => ⟨hk.1.1, ⟨hk.1.2.1, ⟨hk.2, ⟨hk.1.2.2.1, hk.1.2.2.2⟩⟩⟩⟩)), (by (with_reducible repeat (first | apply Kd.R_alloc | apply Kd.R_drewN | apply Kd.R_drew)); exact Kd.R_mono HO_5.out (fun _ hk => ⟨hk.1.1, ⟨hk.1.2.1, ⟨hk.2, ⟨hk.1.2.2.1, hk.1.2.2.2⟩⟩⟩⟩)), (by repeat (first | (with_reducible first | exact HB.out | apply below_alloc | apply pw_below_drewN | apply below_drew1) | exact HB.out))⟩)
               ·skip
                rintro ⟨v488, v491⟩ w16 ⟨hS_, h0_, h1_, h2_, h3_, h4_⟩
                have n0_ : Aside0 (Kd.R (Kd.int .i64) 2 w16 w.heap.size (fun k_ => some k_ ≠ (v491 : Value).ownBlock ∧ some k_ ≠ (.slice Ao9 x4_1.length co9 : Value).ownBlock ∧ some k_ ≠ (.slice Ao10 x5_1.length co10 : Value).ownBlock) v488 y487) := ⟨h0_⟩
                have n1_ : Aside0 (Kd.R (Kd.int .i64) 2 w16 w.heap.size (fun k_ => some k_ ≠ (v488 : Value).ownBlock ∧ some k_ ≠ (.slice Ao9 x4_1.length co9 : Value).ownBlock ∧ some k_ ≠ (.slice Ao10 x5_1.length co10 : Value).ownBlock) v491 y490) := ⟨h1_⟩
                have n2_ : Aside0 (Kd.R (Kd.int .i64) 2 w16 w.heap.size (fun k_ => some k_ ≠ (v488 : Value).ownBlock ∧ some k_ ≠ (v491 : Value).ownBlock ∧ some k_ ≠ (.slice Ao10 x5_1.length co10 : Value).ownBlock) (.slice Ao9 x4_1.length co9) x4_1) := ⟨h2_⟩
                have n3_ : Aside0 (Kd.R (Kd.int .i64) 2 w16 w.heap.size (fun k_ => some k_ ≠ (v488 : Value).ownBlock ∧ some k_ ≠ (v491 : Value).ownBlock ∧ some k_ ≠ (.slice Ao9 x4_1.length co9 : Value).ownBlock) (.slice Ao10 x5_1.length co10) x5_1) := ⟨h3_⟩
                have n4_ : Aside0 (Below w.heap.size w w16) := ⟨h4_⟩
                clear HO_3
                clear HO_4
                clear HO_5
                clear HB
                clear h0_ h1_ h2_ h3_ h4_
                have HO489 := n0_
                have HO492 := n1_
                have HO_4 := n2_
                have HO_5 := n3_
                have HB := n4_
                clear n0_ n1_ n2_ n3_ n4_
                have hHeld : w16.cell? (ad486.add ((x6_1).toNat * 2)) = some (.int .i16 ((rd_T47 l0 x6_1).f0)) ∧ w16.cell? ⟨(ad486.add ((x6_1).toNat * 2)).block, (ad486.add ((x6_1).toNat * 2)).off + 1, none⟩ = some (.int .i16 ((rd_T47 l0 x6_1).f1)) ∧ w16.cell? (ad486.add ((x6_1).toNat * 2)) = some (.int .i16 ((rd_T47 l0 x6_1).f0)) ∧ w16.cell? ⟨(ad486.add ((x6_1).toNat * 2)).block, (ad486.add ((x6_1).toNat * 2)).off + 1, none⟩ = some (.int .i16 ((rd_T47 l0 x6_1).f1)) ∧ w16.cell? (ad486.add ((x6_1).toNat * 2)) = some (.int .i16 ((rd_T47 l0 x6_1).f0)) ∧ w16.cell? ⟨(ad486.add ((x6_1).toNat * 2)).block, (ad486.add ((x6_1).toNat * 2)).off + 1, none⟩ = some (.int .i16 ((rd_T47 l0 x6_1).f1)) := hS_
                refine norm_ (a' := ?_) ?_ ?_
                rotate_left
                ·simp only [putAll, Act.put, List.setIfInBounds_toArray, List.set_cons_zero, List.set_cons_succ]
                 rfl
                refine two_ (i := 16) (j := 26) (Ni := some 34) (Nj := some 44) (bl 31 66977791) (bl 31 134021119) rfl rfl rfl rfl (two_of HT_.out (by kernel_rfl)) (by decide) (by decide) (fun K hK => ?_) (fun K hK => ?_)
                ·skip
                 refine Kd.R_lit_step (Kd.int .i64) _ 2 ?hg (N := 34) ?hd (xs := ([wrap64 ((rd_T47 l0 x6_1).f1)] : List Int)) (inner := [.int .i64 (wrap64 ((rd_T47 l0 x6_1).f1))]) (ok := fun _ => True) (okp := fun _ => True) ?hr ?hp (fun _ hk => hk) trivial (Below.refl _ _) (Nat.le_refl _) (by simp) ?_; (case hd => rfl); (case hg => rfl); (case hr => first | (go_simp; done) | (go_simp; rfl)); (case hp => exact (Reps.one (show Kd.M (Kd.int .i64) _ _ _ (wrap64 ((rd_T47 l0 x6_1).f1)) [.int .i64 (wrap64 ((rd_T47 l0 x6_1).f1))] from rfl) (Reps.none _ _)))
                 intro v495 w17 ho18 hb hg_ hnew_
                 clear hg_ hnew_
                 (first | rw [← Ny494.out] at ho18 | (simp only [Int.reduceToNat] at ho18; rw [← Ny494.out] at ho18))
                 have n0_ := Aside0.mk (Kd.R_elder' (by (with_reducible repeat (first | apply Kd.R_alloc | apply Kd.R_drewN | apply Kd.R_drew)); exact HO_4.out) (Kd.R_base ho18) hb)
                 have n1_ := Aside0.mk (Kd.R_elder' (by (with_reducible repeat (first | apply Kd.R_alloc | apply Kd.R_drewN | apply Kd.R_drew)); exact HO_5.out) (Kd.R_base ho18) hb)
                 have n2_ := Aside0.mk (Kd.R_elder' (by (with_reducible repeat (first | apply Kd.R_alloc | apply Kd.R_drewN | apply Kd.R_drew)); exact HO489.out) (Kd.R_base ho18) hb)
                 have n3_ := Aside0.mk (Kd.R_elder' (by (with_reducible repeat (first | apply Kd.R_alloc | apply Kd.R_drewN | apply Kd.R_drew)); exact HO492.out) (Kd.R_base ho18) hb)
                 have n4_ := Aside0.mk (Kd.R_lower (Kd.R_new' (Kd.R_new' (Kd.R_new' (Kd.R_new' ho18 (Kd.R_lt (by (with_reducible repeat (first | apply Kd.R_alloc | apply Kd.R_drewN | apply Kd.R_drew)); exact HO_4.out))) (Kd.R_lt (by (with_reducible repeat (first | apply Kd.R_alloc | apply Kd.R_drewN | apply Kd.R_drew)); exact HO_5.out))) (Kd.R_lt (by (with_reducible repeat (first | apply Kd.R_alloc | apply Kd.R_drewN | apply Kd.R_drew)); exact HO489.out))) (Kd.R_lt (by (with_reducible repeat (first | apply Kd.R_alloc | apply Kd.R_drewN | apply Kd.R_drew)); exact HO492.out))) (below_size (by repeat (first | (with_reducible first | exact HB.out | apply below_alloc | apply pw_below_drewN | apply below_drew1) | exact HB.out))))
                 have n5_ := Aside0.mk (below_step (by repeat (first | (with_reducible first | exact HB.out | apply below_alloc | apply pw_below_drewN | apply below_drew1) | exact HB.out)) hb)
                 clear HO_4
                 clear HO_5
                 clear HO489
                 clear HO492
                 clear HB
                 have HO_4 := n0_
                 have HO_5 := n1_
                 have HO489 := n2_
                 have HO492 := n3_
                 have HO496 := n4_
                 have HB := n5_
                 clear n0_ n1_ n2_ n3_ n4_ n5_
                 clear hb ho18
                 refine hK.out _ _ ⟨((HB.out.cell (World.block_lt_of_cell? w _ hw486_0)).trans hw486_0), ((HB.out.cell (World.block_lt_of_cell? w _ hw486_1)).trans hw486_1), ((HB.out.cell (World.block_lt_of_cell? w _ hw493_0)).trans hw493_0), ((HB.out.cell (World.block_lt_of_cell? w _ hw493_1)).trans hw493_1), ((HB.out.cell (World.block_lt_of_cell? w _ hw500_0)).trans hw500_0), ((HB.out.cell (World.block_lt_of_cell? w _ hw500_1)).trans hw500_1)⟩ (fun hHeld => ?_)
                 clear hK K
                 refine norm_ (a' := ?_) ?_ ?_
                 rotate_left
                 ·show Act.put _ (some 34) _ = _
                  simp only [puts_]
                  rfl
                 exact norm_ (by first | (simp only [putAll, Act.put, List.setIfInBounds_toArray, List.set_cons_zero, List.set_cons_succ]; done) | (simp only [putAll, Act.put, List.setIfInBounds_toArray, List.set_cons_zero, List.set_cons_succ]; rfl)) (hJ7_8_16 (v488, v491, v495) _ ⟨hHeld, (by (with_reducible repeat (first | apply Kd.R_alloc | apply Kd.R_drewN | apply Kd.R_drew)); exact Kd.R_mono HO489.out (fun _ hk => ⟨hk.1.1, ⟨hk.2, ⟨hk.1.2.1, hk.1.2.2⟩⟩⟩)), (by (with_reducible repeat (first | apply Kd.R_alloc | apply Kd.R_drewN | apply Kd.R_drew)); exact Kd.R_mono HO492.out (fun _ hk => ⟨hk.1.1, ⟨hk.2, ⟨hk.1.2.1, hk.1.2.2⟩⟩⟩)), (by (with_reducible repeat (first | apply Kd.R_alloc | apply Kd.R_drewN | apply Kd.R_drew)); exact Kd.R_mono HO496.out (fun _ hk => ⟨hk.1.2, ⟨hk.2, ⟨hk.1.1.1.2, hk.1.1.2⟩⟩⟩)), (by (with_reducible repeat (first | apply Kd.R_alloc | apply Kd.R_drewN | apply Kd.R_drew)); exact Kd.R_mono HO_4.out (fun _ hk => ⟨hk.1.1, ⟨hk.1.2.1, ⟨hk.2, hk.1.2.2⟩⟩⟩)), (by (with_reducible repeat (first | apply Kd.R_alloc | apply Kd.R_drewN | apply Kd.R_drew)); exact Kd.R_mono HO_5.out (fun _ hk => ⟨hk.1.1, ⟨hk.1.2.1, ⟨hk.2, hk.1.2.2⟩⟩⟩)), (by repeat (first | (with_reducible first | exact HB.out | apply below_alloc | apply pw_below_drewN | apply below_drew1) | exact HB.out))⟩)
                ·skip
                 refine Kd.R_lit_step (Kd.int .i64) _ 2 ?hg (N := 44) ?hd (xs := ([wrap64 (2 * (wrap64 ((rd_T47 l0 x6_1).f1)))] : List Int)) (inner := [.int .i64 (wrap64 (2 * (wrap64 ((rd_T47 l0 x6_1).f1))))]) (ok := fun _ => True) (okp := fun _ => True) ?hr ?hp (fun _ hk => hk) trivial (Below.refl _ _) (Nat.le_refl _) (by simp) ?_; (case hd => rfl); (case hg => rfl); (case hr => first | (go_simp; done) | (go_simp; rfl)); (case hp => exact (Reps.one (show Kd.M (Kd.int .i64) _ _ _ (wrap64 (2 * (wrap64 ((rd_T47 l0 x6_1).f1)))) [.int .i64 (wrap64 (2 * (wrap64 ((rd_T47 l0 x6_1).f1))))] from rfl) (Reps.none _ _)))
                 intro v502 w17 ho18 hb hg_ hnew_
                 clear hg_ hnew_
                 (first | rw [← Ny501.out] at ho18 | (simp only [Int.reduceToNat] at ho18; rw [← Ny501.out] at ho18))
                 have n0_ := Aside0.mk (Kd.R_elder' (by (with_reducible repeat (first | apply Kd.R_alloc | apply Kd.R_drewN | apply Kd.R_drew)); exact HO_4.out) (Kd.R_base ho18) hb)
                 have n1_ := Aside0.mk (Kd.R_elder' (by (with_reducible repeat (first | apply Kd.R_alloc | apply Kd.R_drewN | apply Kd.R_drew)); exact HO_5.out) (Kd.R_base ho18) hb)
                 have n2_ := Aside0.mk (Kd.R_elder' (by (with_reducible repeat (first | apply Kd.R_alloc | apply Kd.R_drewN | apply Kd.R_drew)); exact HO489.out) (Kd.R_base ho18) hb)
                 have n3_ := Aside0.mk (Kd.R_elder' (by (with_reducible repeat (first | apply Kd.R_alloc | apply Kd.R_drewN | apply Kd.R_drew)); exact HO492.out) (Kd.R_base ho18) hb)
                 have n4_ := Aside0.mk (Kd.R_lower (Kd.R_new' (Kd.R_new' (Kd.R_new' (Kd.R_new' ho18 (Kd.R_lt (by (with_reducible repeat (first | apply Kd.R_alloc | apply Kd.R_drewN | apply Kd.R_drew)); exact HO_4.out))) (Kd.R_lt (by (with_reducible repeat (first | apply Kd.R_alloc | apply Kd.R_drewN | apply Kd.R_drew)); exact HO_5.out))) (Kd.R_lt (by (with_reducible repeat (first | apply Kd.R_alloc | apply Kd.R_drewN | apply Kd.R_drew)); exact HO489.out))) (Kd.R_lt (by (with_reducible repeat (first | apply Kd.R_alloc | apply Kd.R_drewN | apply Kd.R_drew)); exact HO492.out))) (below_size (by repeat (first | (with_reducible first | exact HB.out | apply below_alloc | apply pw_below_drewN | apply below_drew1) | exact HB.out))))
                 have n5_ := Aside0.mk (below_step (by repeat (first | (with_reducible first | exact HB.out | apply below_alloc | apply pw_below_drewN | apply below_drew1) | exact HB.out)) hb)
                 clear HO_4
                 clear HO_5
                 clear HO489
                 clear HO492
                 clear HB
                 have HO_4 := n0_
                 have HO_5 := n1_
                 have HO489 := n2_
                 have HO492 := n3_
                 have HO503 := n4_
                 have HB := n5_
                 clear n0_ n1_ n2_ n3_ n4_ n5_
                 clear hb ho18
                 refine hK.out _ _ ⟨((HB.out.cell (World.block_lt_of_cell? w _ hw486_0)).trans hw486_0), ((HB.out.cell (World.block_lt_of_cell? w _ hw486_1)).trans hw486_1), ((HB.out.cell (World.block_lt_of_cell? w _ hw493_0)).trans hw493_0), ((HB.out.cell (World.block_lt_of_cell? w _ hw493_1)).trans hw493_1), ((HB.out.cell (World.block_lt_of_cell? w _ hw500_0)).trans hw500_0), ((HB.out.cell (World.block_lt_of_cell? w _ hw500_1)).trans hw500_1)⟩ (fun hHeld => ?_)
                 clear hK K
                 refine norm_ (a' := ?_) ?_ ?_
                 rotate_left
                 ·show Act.put _ (some 44) _ = _
                  simp only [puts_]
                  rfl
                 exact norm_ (by first | (simp only [putAll, Act.put, List.setIfInBounds_toArray, List.set_cons_zero, List.set_cons_succ]; done) | (simp only [putAll, Act.put, List.setIfInBounds_toArray, List.set_cons_zero, List.set_cons_succ]; rfl)) (hJ7_8_26 (v488, v491, v502) _ ⟨hHeld, (by (with_reducible repeat (first | apply Kd.R_alloc | apply Kd.R_drewN | apply Kd.R_drew)); exact Kd.R_mono HO489.out (fun _ hk => ⟨hk.1.1, ⟨hk.2, ⟨hk.1.2.1, hk.1.2.2⟩⟩⟩)), (by (with_reducible repeat (first | apply Kd.R_alloc | apply Kd.R_drewN | apply Kd.R_drew)); exact Kd.R_mono HO492.out (fun _ hk => ⟨hk.1.1, ⟨hk.2, ⟨hk.1.2.1, hk.1.2.2⟩⟩⟩)), (by (with_reducible repeat (first | apply Kd.R_alloc | apply Kd.R_drewN | apply Kd.R_drew)); exact Kd.R_mono HO503.out (fun _ hk => ⟨hk.1.2, ⟨hk.2, ⟨hk.1.1.1.2, hk.1.1.2⟩⟩⟩)), (by (with_reducible repeat (first | apply Kd.R_alloc | apply Kd.R_drewN | apply Kd.R_drew)); exact Kd.R_mono HO_4.out (fun _ hk => ⟨hk.1.1, ⟨hk.1.2.1, ⟨hk.2, hk.1.2.2⟩⟩⟩)), (by (with_reducible repeat (first | apply Kd.R_alloc | apply Kd.R_drewN | apply Kd.R_drew)); exact Kd.R_mono HO_5.out (fun _ hk => ⟨hk.1.1, ⟨hk.1.2.1, ⟨hk.2, hk.1.2.2⟩⟩⟩)), (by repeat (first | (with_reducible first | exact HB.out | apply below_alloc | apply pw_below_drewN | apply below_drew1) | exact HB.out))⟩)
              ·skip
               rintro ⟨v488, v495, v502⟩ w18 ⟨hS_, h0_, h1_, h2_, h3_, h4_, h5_, h6_⟩
               have n0_ : Aside0 (Kd.R (Kd.int .i64) 2 w18 w.heap.size (fun k_ => some k_ ≠ (v495 : Value).ownBlock ∧ some k_ ≠ (v502 : Value).ownBlock ∧ some k_ ≠ (.slice Ao8 x3_1.length co8 : Value).ownBlock ∧ some k_ ≠ (.slice Ao9 x4_1.length co9 : Value).ownBlock ∧ some k_ ≠ (.slice Ao10 x5_1.length co10 : Value).ownBlock) v488 y487) := ⟨h0_⟩
               have n1_ : Aside0 (Kd.R (Kd.int .i64) 2 w18 w.heap.size (fun k_ => some k_ ≠ (v488 : Value).ownBlock ∧ some k_ ≠ (v502 : Value).ownBlock ∧ some k_ ≠ (.slice Ao8 x3_1.length co8 : Value).ownBlock ∧ some k_ ≠ (.slice Ao9 x4_1.length co9 : Value).ownBlock ∧ some k_ ≠ (.slice Ao10 x5_1.length co10 : Value).ownBlock) v495 y494) := ⟨h1_⟩
               have n2_ : Aside0 (Kd.R (Kd.int .i64) 2 w18 w.heap.size (fun k_ => some k_ ≠ (v488 : Value).ownBlock ∧ some k_ ≠ (v495 : Value).ownBlock ∧ some k_ ≠ (.slice Ao8 x3_1.length co8 : Value).ownBlock ∧ some k_ ≠ (.slice Ao9 x4_1.length co9 : Value).ownBlock ∧ some k_ ≠ (.slice Ao10 x5_1.length co10 : Value).ownBlock) v502 y501) := ⟨h2_⟩
               have n3_ : Aside0 (Kd.R (Kd.int .i64) 2 w18 w.heap.size (fun k_ => some k_ ≠ (v488 : Value).ownBlock ∧ some k_ ≠ (v495 : Value).ownBlock ∧ some k_ ≠ (v502 : Value).ownBlock ∧ some k_ ≠ (.slice Ao9 x4_1.length co9 : Value).ownBlock ∧ some k_ ≠ (.slice Ao10 x5_1.length co10 : Value).ownBlock) (.slice Ao8 x3_1.length co8) x3_1) := ⟨h3_⟩
               have n4_ : Aside0 (Kd.R (Kd.int .i64) 2 w18 w.heap.size (fun k_ => some k_ ≠ (v488 : Value).ownBlock ∧ some k_ ≠ (v495 : Value).ownBlock ∧ some k_ ≠ (v502 : Value).ownBlock ∧ some k_ ≠ (.slice Ao8 x3_1.length co8 : Value).ownBlock ∧ some k_ ≠ (.slice Ao10 x5_1.length co10 : Value).ownBlock) (.slice Ao9 x4_1.length co9) x4_1) := ⟨h4_⟩
               have n5_ : Aside0 (Kd.R (Kd.int .i64) 2 w18 w.heap.size (fun k_ => some k_ ≠ (v488 : Value).ownBlock ∧ some k_ ≠ (v495 : Value).ownBlock ∧ some k_ ≠ (v502 : Value).ownBlock ∧ some k_ ≠ (.slice Ao8 x3_1.length co8 : Value).ownBlock ∧ some k_ ≠ (.slice Ao9 x4_1.length co9 : Value).ownBlock) (.slice Ao10 x5_1.length co10) x5_1) := ⟨h5_⟩
               have n6_ : Aside0 (Below w.heap.size w w18) := ⟨h6_⟩
               clear HO_3
               clear HO_4
               clear HO_5
               clear HB
               clear h0_ h1_ h2_ h3_ h4_ h5_ h6_
               have HO489 := n0_
               have HO496 := n1_
               have HO503 := n2_
               have HO_3 := n3_
               have HO_4 := n4_
               have HO_5 := n5_
               have HB := n6_
               clear n0_ n1_ n2_ n3_ n4_ n5_ n6_
               have hHeld : w18.cell? (ad486.add ((x6_1).toNat * 2)) = some (.int .i16 ((rd_T47 l0 x6_1).f0)) ∧ w18.cell? ⟨(ad486.add ((x6_1).toNat * 2)).block, (ad486.add ((x6_1).toNat * 2)).off + 1, none⟩ = some (.int .i16 ((rd_T47 l0 x6_1).f1)) ∧ w18.cell? (ad486.add ((x6_1).toNat * 2)) = some (.int .i16 ((rd_T47 l0 x6_1).f0)) ∧ w18.cell? ⟨(ad486.add ((x6_1).toNat * 2)).block, (ad486.add ((x6_1).toNat * 2)).off + 1, none⟩ = some (.int .i16 ((rd_T47 l0 x6_1).f1)) ∧ w18.cell? (ad486.add ((x6_1).toNat * 2)) = some (.int .i16 ((rd_T47 l0 x6_1).f0)) ∧ w18.cell? ⟨(ad486.add ((x6_1).toNat * 2)).block, (ad486.add ((x6_1).toNat * 2)).off + 1, none⟩ = some (.int .i16 ((rd_T47 l0 x6_1).f1)) := hS_
               obtain ⟨Ao20, co20, eo20⟩ := Kd.R_slice HO489.out
               (first | subst eo20 | (injection eo20 with f1_ f2_ f3_; have f4_ := f1_.symm; have f5_ := f3_.symm; clear f1_ f2_ f3_; subst f4_; subst f5_))
               refine norm_ (a' := ?_) ?_ ?_
               rotate_left
               ·simp only [putAll, Act.put, List.setIfInBounds_toArray, List.set_cons_zero, List.set_cons_succ]
                rfl
               refine one_ (i := 8) (N := some 26) (bl 31 134086655) rfl rfl (one_of HT_.out (by kernel_rfl)) (by decide) (fun K hK => ?_)
               refine Kd.R_append_rows_step (Kd.int .i64) (w0 := w) w.heap.size (by rfl) (.tmp 18) (.tmp 25) 22 2 (.int .i64 0) 8 rfl Try.underlying22 info2 rfl (by decide) (by omega) (.slice Ao8 x3_1.length co8) x3_1 y487 _ _ _ (fun k_ => some k_ ≠ (.slice Ao9 x4_1.length co9 : Value).ownBlock ∧ some k_ ≠ (.slice Ao10 x5_1.length co10 : Value).ownBlock ∧ some k_ ≠ (.slice Ao20 y487.length co20 : Value).ownBlock ∧ some k_ ≠ (v495 : Value).ownBlock ∧ some k_ ≠ (v502 : Value).ownBlock) (fun _ => False) rfl rfl ?aO ?aR (fun _ _ h => h) (fun _ h => h.elim) ?aF ?aB ?aS ?aL ?_
               (case aR => repeat (first | exact (Kd.R_reads' HO489.out).2.2 | (with_reducible refine Kd.C_alloc ?_ _) | (with_reducible refine Kd.C_drewN ?_ _) | (with_reducible refine Kd.C_drew ?_)))
               (case aB => exact (by repeat (first | (with_reducible first | exact HB.out | apply below_alloc | apply pw_below_drewN | apply below_drew1) | exact HB.out)))
               (case aF => exact (fun k_ hk => ⟨Kd.fresh' (Kd.R_lt (by (with_reducible repeat (first | apply Kd.R_alloc | apply Kd.R_drewN | apply Kd.R_drew)); exact HO_4.out)) k_ hk, Kd.fresh' (Kd.R_lt (by (with_reducible repeat (first | apply Kd.R_alloc | apply Kd.R_drewN | apply Kd.R_drew)); exact HO_5.out)) k_ hk, Kd.fresh' (Kd.R_lt (by (with_reducible repeat (first | apply Kd.R_alloc | apply Kd.R_drewN | apply Kd.R_drew)); exact HO489.out)) k_ hk, Kd.fresh' (Kd.R_lt (by (with_reducible repeat (first | apply Kd.R_alloc | apply Kd.R_drewN | apply Kd.R_drew)); exact HO496.out)) k_ hk, Kd.fresh' (Kd.R_lt (by (with_reducible repeat (first | apply Kd.R_alloc | apply Kd.R_drewN | apply Kd.R_drew)); exact HO503.out)) k_ hk⟩))
               (case aO => exact (by (with_reducible repeat (first | apply Kd.R_alloc | apply Kd.R_drewN | apply Kd.R_drew)); exact Kd.R_mono HO_3.out (fun _ hk => ⟨hk.2.2.2.1, ⟨hk.2.2.2.2, ⟨hk.1, ⟨hk.2.1, hk.2.2.1⟩⟩⟩⟩)))
               (case aS => exact (below_size (by repeat (first | (with_reducible first | exact HB.out | apply below_alloc | apply pw_below_drewN | apply below_drew1) | exact HB.out))))
               (case aL => have := LMc5.out; omega)
               intro v491 w19 ho hb hg hat
               rw [← Ny490.out] at ho
               have n0_ := Aside0.mk (Kd.R_after (ok := (fun k_ => some k_ ≠ (.slice Ao10 x5_1.length co10 : Value).ownBlock ∧ some k_ ≠ (.slice Ao20 y487.length co20 : Value).ownBlock ∧ some k_ ≠ (v495 : Value).ownBlock ∧ some k_ ≠ (v502 : Value).ownBlock)) (by (with_reducible repeat (first | apply Kd.R_alloc | apply Kd.R_drewN | apply Kd.R_drew)); exact Kd.R_mono HO_4.out (fun _ hk => ⟨⟨hk.2.2.2.2, ⟨hk.1, ⟨hk.2.1, hk.2.2.1⟩⟩⟩, hk.2.2.2.1⟩)) hg hat)
               have n1_ := Aside0.mk (Kd.R_after (ok := (fun k_ => some k_ ≠ (.slice Ao9 x4_1.length co9 : Value).ownBlock ∧ some k_ ≠ (.slice Ao20 y487.length co20 : Value).ownBlock ∧ some k_ ≠ (v495 : Value).ownBlock ∧ some k_ ≠ (v502 : Value).ownBlock)) (by (with_reducible repeat (first | apply Kd.R_alloc | apply Kd.R_drewN | apply Kd.R_drew)); exact Kd.R_mono HO_5.out (fun _ hk => ⟨⟨hk.2.2.2.2, ⟨hk.1, ⟨hk.2.1, hk.2.2.1⟩⟩⟩, hk.2.2.2.1⟩)) hg hat)
               have n2_ := Aside0.mk (Kd.R_after (ok := (fun k_ => some k_ ≠ (.slice Ao9 x4_1.length co9 : Value).ownBlock ∧ some k_ ≠ (.slice Ao10 x5_1.length co10 : Value).ownBlock ∧ some k_ ≠ (v495 : Value).ownBlock ∧ some k_ ≠ (v502 : Value).ownBlock)) (by (with_reducible repeat (first | apply Kd.R_alloc | apply Kd.R_drewN | apply Kd.R_drew)); exact Kd.R_mono HO489.out (fun _ hk => ⟨⟨hk.2.2.2.1, ⟨hk.2.2.2.2, ⟨hk.1, hk.2.1⟩⟩⟩, hk.2.2.1⟩)) hg hat)
               have n3_ := Aside0.mk (Kd.R_after (ok := (fun k_ => some k_ ≠ (.slice Ao9 x4_1.length co9 : Value).ownBlock ∧ some k_ ≠ (.slice Ao10 x5_1.length co10 : Value).ownBlock ∧ some k_ ≠ (.slice Ao20 y487.length co20 : Value).ownBlock ∧ some k_ ≠ (v502 : Value).ownBlock)) (by (with_reducible repeat (first | apply Kd.R_alloc | apply Kd.R_drewN | apply Kd.R_drew)); exact Kd.R_mono HO496.out (fun _ hk => ⟨⟨hk.2.2.2.1, ⟨hk.2.2.2.2, ⟨hk.1, hk.2.1⟩⟩⟩, hk.2.2.1⟩)) hg hat)
               have n4_ := Aside0.mk (Kd.R_after (ok := (fun k_ => some k_ ≠ (.slice Ao9 x4_1.length co9 : Value).ownBlock ∧ some k_ ≠ (.slice Ao10 x5_1.length co10 : Value).ownBlock ∧ some k_ ≠ (.slice Ao20 y487.length co20 : Value).ownBlock ∧ some k_ ≠ (v495 : Value).ownBlock)) (by (with_reducible repeat (first | apply Kd.R_alloc | apply Kd.R_drewN | apply Kd.R_drew)); exact Kd.R_mono HO503.out (fun _ hk => ⟨⟨hk.2.2.2.1, ⟨hk.2.2.2.2, ⟨hk.1, hk.2.1⟩⟩⟩, hk.2.2.1⟩)) hg hat)
               have n5_ := Aside0.mk (hb)
               have n6_ := Aside0.mk (ho)
               clear HO_4
               clear HO_5
               clear HO489
               clear HO496
               clear HO503
               clear HB
               clear HO_3
               have HO_4 := n0_
               have HO_5 := n1_
               have HO489 := n2_
               have HO496 := n3_
               have HO503 := n4_
               have HB := n5_
               have HO492 := n6_
               clear n0_ n1_ n2_ n3_ n4_ n5_ n6_
               clear ho hb hg hat
               refine hK.out _ _ ⟨((HB.out.cell (World.block_lt_of_cell? w _ hw486_0)).trans hw486_0), ((HB.out.cell (World.block_lt_of_cell? w _ hw486_1)).trans hw486_1), ((HB.out.cell (World.block_lt_of_cell? w _ hw493_0)).trans hw493_0), ((HB.out.cell (World.block_lt_of_cell? w _ hw493_1)).trans hw493_1), ((HB.out.cell (World.block_lt_of_cell? w _ hw500_0)).trans hw500_0), ((HB.out.cell (World.block_lt_of_cell? w _ hw500_1)).trans hw500_1)⟩ (fun hHeld => ?_)
               clear hK K
               refine norm_ (a' := ?_) ?_ ?_
               rotate_left
               ·show Act.put _ (some 26) _ = _
                simp only [puts_]
                rfl
               exact norm_ (by first | (simp only [putAll, Act.put, List.setIfInBounds_toArray, List.set_cons_zero, List.set_cons_succ]; done) | (simp only [putAll, Act.put, List.setIfInBounds_toArray, List.set_cons_zero, List.set_cons_succ]; rfl)) (hJ7_8_16_26 (.slice Ao20 y487.length co20, v491, v495, v502) _ ⟨hHeld, (by (with_reducible repeat (first | apply Kd.R_alloc | apply Kd.R_drewN | apply Kd.R_drew)); exact Kd.R_mono HO489.out (fun _ hk => ⟨hk.2, ⟨hk.1.2.2.1, ⟨hk.1.2.2.2, ⟨hk.1.1, hk.1.2.1⟩⟩⟩⟩)), (by (with_reducible repeat (first | apply Kd.R_alloc | apply Kd.R_drewN | apply Kd.R_drew)); exact Kd.R_mono HO492.out (fun _ hk => ⟨hk.2.2.1, ⟨hk.2.2.2.1, ⟨hk.2.2.2.2, ⟨hk.1, hk.2.1⟩⟩⟩⟩)), (by (with_reducible repeat (first | apply Kd.R_alloc | apply Kd.R_drewN | apply Kd.R_drew)); exact Kd.R_mono HO496.out (fun _ hk => ⟨hk.1.2.2.1, ⟨hk.2, ⟨hk.1.2.2.2, ⟨hk.1.1, hk.1.2.1⟩⟩⟩⟩)), (by (with_reducible repeat (first | apply Kd.R_alloc | apply Kd.R_drewN | apply Kd.R_drew)); exact Kd.R_mono HO503.out (fun _ hk => ⟨hk.1.2.2.1, ⟨hk.2, ⟨hk.1.2.2.2, ⟨hk.1.1, hk.1.2.1⟩⟩⟩⟩)), (by (with_reducible repeat (first | apply Kd.R_alloc | apply Kd.R_drewN | apply Kd.R_drew)); exact Kd.R_mono HO_4.out (fun _ hk => ⟨hk.1.2.1, ⟨hk.2, ⟨hk.1.2.2.1, ⟨hk.1.2.2.2, hk.1.1⟩⟩⟩⟩)), (by (with_reducible repeat (first | apply Kd.R_alloc | apply Kd.R_drewN | apply Kd.R_drew)); exact Kd.R_mono HO_5.out (fun _ hk => ⟨hk.1.2.1, ⟨hk.2, ⟨hk.1.2.2.1, ⟨hk.1.2.2.2, hk.1.1⟩⟩⟩⟩)), (by repeat (first | (with_reducible first | exact HB.out | apply below_alloc | apply pw_below_drewN | apply below_drew1) | exact HB.out))⟩)
             ·skip
              rintro ⟨v488, v491, v502⟩ w18 ⟨hS_, h0_, h1_, h2_, h3_, h4_, h5_⟩
              have n0_ : Aside0 (Kd.R (Kd.int .i64) 2 w18 w.heap.size (fun k_ => some k_ ≠ (v491 : Value).ownBlock ∧ some k_ ≠ (v502 : Value).ownBlock ∧ some k_ ≠ (.slice Ao9 x4_1.length co9 : Value).ownBlock ∧ some k_ ≠ (.slice Ao10 x5_1.length co10 : Value).ownBlock) v488 y487) := ⟨h0_⟩
              have n1_ : Aside0 (Kd.R (Kd.int .i64) 2 w18 w.heap.size (fun k_ => some k_ ≠ (v488 : Value).ownBlock ∧ some k_ ≠ (v502 : Value).ownBlock ∧ some k_ ≠ (.slice Ao9 x4_1.length co9 : Value).ownBlock ∧ some k_ ≠ (.slice Ao10 x5_1.length co10 : Value).ownBlock) v491 y490) := ⟨h1_⟩
              have n2_ : Aside0 (Kd.R (Kd.int .i64) 2 w18 w.heap.size (fun k_ => some k_ ≠ (v488 : Value).ownBlock ∧ some k_ ≠ (v491 : Value).ownBlock ∧ some k_ ≠ (.slice Ao9 x4_1.length co9 : Value).ownBlock ∧ some k_ ≠ (.slice Ao10 x5_1.length co10 : Value).ownBlock) v502 y501) := ⟨h2_⟩
              have n3_ : Aside0 (Kd.R (Kd.int .i64) 2 w18 w.heap.size (fun k_ => some k_ ≠ (v488 : Value).ownBlock ∧ some k_ ≠ (v491 : Value).ownBlock ∧ some k_ ≠ (v502 : Value).ownBlock ∧ some k_ ≠ (.slice Ao10 x5_1.length co10 : Value).ownBlock) (.slice Ao9 x4_1.length co9) x4_1) := ⟨h3_⟩
              have n4_ : Aside0 (Kd.R (Kd.int .i64) 2 w18 w.heap.size (fun k_ => some k_ ≠ (v488 : Value).ownBlock ∧ some k_ ≠ (v491 : Value).ownBlock ∧ some k_ ≠ (v502 : Value).ownBlock ∧ some k_ ≠ (.slice Ao9 x4_1.length co9 : Value).ownBlock) (.slice Ao10 x5_1.length co10) x5_1) := ⟨h4_⟩
              have n5_ : Aside0 (Below w.heap.size w w18) := ⟨h5_⟩
              clear HO_3
              clear HO_4
              clear HO_5
              clear HB
              clear h0_ h1_ h2_ h3_ h4_ h5_
              have HO489 := n0_
              have HO492 := n1_
              have HO503 := n2_
              have HO_4 := n3_
              have HO_5 := n4_
              have HB := n5_
              clear n0_ n1_ n2_ n3_ n4_ n5_
              have hHeld : w18.cell? (ad486.add ((x6_1).toNat * 2)) = some (.int .i16 ((rd_T47 l0 x6_1).f0)) ∧ w18.cell? ⟨(ad486.add ((x6_1).toNat * 2)).block, (ad486.add ((x6_1).toNat * 2)).off + 1, none⟩ = some (.int .i16 ((rd_T47 l0 x6_1).f1)) ∧ w18.cell? (ad486.add ((x6_1).toNat * 2)) = some (.int .i16 ((rd_T47 l0 x6_1).f0)) ∧ w18.cell? ⟨(ad486.add ((x6_1).toNat * 2)).block, (ad486.add ((x6_1).toNat * 2)).off + 1, none⟩ = some (.int .i16 ((rd_T47 l0 x6_1).f1)) ∧ w18.cell? (ad486.add ((x6_1).toNat * 2)) = some (.int .i16 ((rd_T47 l0 x6_1).f0)) ∧ w18.cell? ⟨(ad486.add ((x6_1).toNat * 2)).block, (ad486.add ((x6_1).toNat * 2)).off + 1, none⟩ = some (.int .i16 ((rd_T47 l0 x6_1).f1)) := hS_
              refine norm_ (a' := ?_) ?_ ?_
              rotate_left
              ·simp only [putAll, Act.put, List.setIfInBounds_toArray, List.set_cons_zero, List.set_cons_succ]
               rfl
              refine one_ (i := 16) (N := some 34) (bl 31 134086655) rfl rfl (one_of HT_.out (by kernel_rfl)) (by decide) (fun K hK => ?_)
              refine Kd.R_lit_step (Kd.int .i64) _ 2 ?hg (N := 34) ?hd (xs := ([wrap64 ((rd_T47 l0 x6_1).f1)] : List Int)) (inner := [.int .i64 (wrap64 ((rd_T47 l0 x6_1).f1))]) (ok := fun _ => True) (okp := fun _ => True) ?hr ?hp (fun _ hk => hk) trivial (Below.refl _ _) (Nat.le_refl _) (by simp) ?_; (case hd => rfl); (case hg => rfl); (case hr => first | (go_simp; done) | (go_simp; rfl)); (case hp => exact (Reps.one (show Kd.M (Kd.int .i64) _ _ _ (wrap64 ((rd_T47 l0 x6_1).f1)) [.int .i64 (wrap64 ((rd_T47 l0 x6_1).f1))] from rfl) (Reps.none _ _)))
              intro v495 w19 ho20 hb hg_ hnew_
              clear hg_ hnew_
              (first | rw [← Ny494.out] at ho20 | (simp only [Int.reduceToNat] at ho20; rw [← Ny494.out] at ho20))
              have n0_ := Aside0.mk (Kd.R_elder' (by (with_reducible repeat (first | apply Kd.R_alloc | apply Kd.R_drewN | apply Kd.R_drew)); exact HO_4.out) (Kd.R_base ho20) hb)
              have n1_ := Aside0.mk (Kd.R_elder' (by (with_reducible repeat (first | apply Kd.R_alloc | apply Kd.R_drewN | apply Kd.R_drew)); exact HO_5.out) (Kd.R_base ho20) hb)
              have n2_ := Aside0.mk (Kd.R_elder' (by (with_reducible repeat (first | apply Kd.R_alloc | apply Kd.R_drewN | apply Kd.R_drew)); exact HO489.out) (Kd.R_base ho20) hb)
              have n3_ := Aside0.mk (Kd.R_elder' (by (with_reducible repeat (first | apply Kd.R_alloc | apply Kd.R_drewN | apply Kd.R_drew)); exact HO492.out) (Kd.R_base ho20) hb)
              have n4_ := Aside0.mk (Kd.R_elder' (by (with_reducible repeat (first | apply Kd.R_alloc | apply Kd.R_drewN | apply Kd.R_drew)); exact HO503.out) (Kd.R_base ho20) hb)
              have n5_ := Aside0.mk (Kd.R_lower (Kd.R_new' (Kd.R_new' (Kd.R_new' (Kd.R_new' (Kd.R_new' ho20 (Kd.R_lt (by (with_reducible repeat (first | apply Kd.R_alloc | apply Kd.R_drewN | apply Kd.R_drew)); exact HO_4.out))) (Kd.R_lt (by (with_reducible repeat (first | apply Kd.R_alloc | apply Kd.R_drewN | apply Kd.R_drew)); exact HO_5.out))) (Kd.R_lt (by (with_reducible repeat (first | apply Kd.R_alloc | apply Kd.R_drewN | apply Kd.R_drew)); exact HO489.out))) (Kd.R_lt (by (with_reducible repeat (first | apply Kd.R_alloc | apply Kd.R_drewN | apply Kd.R_drew)); exact HO492.out))) (Kd.R_lt (by (with_reducible repeat (first | apply Kd.R_alloc | apply Kd.R_drewN | apply Kd.R_drew)); exact HO503.out))) (below_size (by repeat (first | (with_reducible first | exact HB.out | apply below_alloc | apply pw_below_drewN | apply below_drew1) | exact HB.out))))
              have n6_ := Aside0.mk (below_step (by repeat (first | (with_reducible first | exact HB.out | apply below_alloc | apply pw_below_drewN | apply below_drew1) | exact HB.out)) hb)
              clear HO_4
              clear HO_5
              clear HO489
              clear HO492
              clear HO503
              clear HB
              have HO_4 := n0_
              have HO_5 := n1_
              have HO489 := n2_
              have HO492 := n3_
              have HO503 := n4_
              have HO496 := n5_
              have HB := n6_
              clear n0_ n1_ n2_ n3_ n4_ n5_ n6_
              clear hb ho20
              refine hK.out _ _ ⟨((HB.out.cell (World.block_lt_of_cell? w _ hw486_0)).trans hw486_0), ((HB.out.cell (World.block_lt_of_cell? w _ hw486_1)).trans hw486_1), ((HB.out.cell (World.block_lt_of_cell? w _ hw493_0)).trans hw493_0), ((HB.out.cell (World.block_lt_of_cell? w _ hw493_1)).trans hw493_1), ((HB.out.cell (World.block_lt_of_cell? w _ hw500_0)).trans hw500_0), ((HB.out.cell (World.block_lt_of_cell? w _ hw500_1)).trans hw500_1)⟩ (fun hHeld => ?_)
              clear hK K
              refine norm_ (a' := ?_) ?_ ?_
              rotate_left
              ·show Act.put _ (some 34) _ = _
               simp only [puts_]
               rfl
              exact norm_ (by first | (simp only [putAll, Act.put, List.setIfInBounds_toArray, List.set_cons_zero, List.set_cons_succ]; done) | (simp only [putAll, Act.put, List.setIfInBounds_toArray, List.set_cons_zero, List.set_cons_succ]; rfl)) (hJ7_8_16_26 (v488, v491, v495, v502) _ ⟨hHeld, (by (with_reducible repeat (first | apply Kd.R_alloc | apply Kd.R_drewN | apply Kd.R_drew)); exact Kd.R_mono HO489.out (fun _ hk => ⟨hk.1.1, ⟨hk.2, ⟨hk.1.2.1, ⟨hk.1.2.2.1, hk.1.2.2.2⟩⟩⟩⟩)), (by (with_reducible repeat (first | apply Kd.R_alloc | apply Kd.R_drewN | apply Kd.R_drew)); exact Kd.R_mono HO492.out (fun _ hk => ⟨hk.1.1, ⟨hk.2, ⟨hk.1.2.1, ⟨hk.1.2.2.1, hk.1.2.2.2⟩⟩⟩⟩)), (by (with_reducible repeat (first | apply Kd.R_alloc | apply Kd.R_drewN | apply Kd.R_drew)); exact Kd.R_mono HO496.out (fun _ hk => ⟨hk.1.1.2, ⟨hk.1.2, ⟨hk.2, ⟨hk.1.1.1.1.2, hk.1.1.1.2⟩⟩⟩⟩)), (by (with_reducible repeat (first | apply Kd.R_alloc | apply Kd.R_drewN | apply Kd.R_drew)); exact Kd.R_mono HO503.out (fun _ hk => ⟨hk.1.1, ⟨hk.1.2.1, ⟨hk.2, ⟨hk.1.2.2.1, hk.1.2.2.2⟩⟩⟩⟩)), (by (with_reducible repeat (first | apply Kd.R_alloc | apply Kd.R_drewN | apply Kd.R_drew)); exact Kd.R_mono HO_4.out (fun _ hk => ⟨hk.1.1, ⟨hk.1.2.1, ⟨hk.2, ⟨hk.1.2.2.1, hk.1.2.2.2⟩⟩⟩⟩)), (by (with_reducible repeat (first | apply Kd.R_alloc | apply Kd.R_drewN | apply Kd.R_drew)); exact Kd.R_mono HO_5.out (fun _ hk => ⟨hk.1.1, ⟨hk.1.2.1, ⟨hk.2, ⟨hk.1.2.2.1, hk.1.2.2.2⟩⟩⟩⟩)), (by repeat (first | (with_reducible first | exact HB.out | apply below_alloc | apply pw_below_drewN | apply below_drew1) | exact HB.out))⟩)
            ·skip
             rintro ⟨v488, v491, v495⟩ w18 ⟨hS_, h0_, h1_, h2_, h3_, h4_, h5_⟩
             have n0_ : Aside0 (Kd.R (Kd.int .i64) 2 w18 w.heap.size (fun k_ => some k_ ≠ (v491 : Value).ownBlock ∧ some k_ ≠ (v495 : Value).ownBlock ∧ some k_ ≠ (.slice Ao9 x4_1.length co9 : Value).ownBlock ∧ some k_ ≠ (.slice Ao10 x5_1.length co10 : Value).ownBlock) v488 y487) := ⟨h0_⟩
             have n1_ : Aside0 (Kd.R (Kd.int .i64) 2 w18 w.heap.size (fun k_ => some k_ ≠ (v488 : Value).ownBlock ∧ some k_ ≠ (v495 : Value).ownBlock ∧ some k_ ≠ (.slice Ao9 x4_1.length co9 : Value).ownBlock ∧ some k_ ≠ (.slice Ao10 x5_1.length co10 : Value).ownBlock) v491 y490) := ⟨h1_⟩
             have n2_ : Aside0 (Kd.R (Kd.int .i64) 2 w18 w.heap.size (fun k_ => some k_ ≠ (v488 : Value).ownBlock ∧ some k_ ≠ (v491 : Value).ownBlock ∧ some k_ ≠ (.slice Ao9 x4_1.length co9 : Value).ownBlock ∧ some k_ ≠ (.slice Ao10 x5_1.length co10 : Value).ownBlock) v495 y494) := ⟨h2_⟩
             have n3_ : Aside0 (Kd.R (Kd.int .i64) 2 w18 w.heap.size (fun k_ => some k_ ≠ (v488 : Value).ownBlock ∧ some k_ ≠ (v491 : Value).ownBlock ∧ some k_ ≠ (v495 : Value).ownBlock ∧ some k_ ≠ (.slice Ao10 x5_1.length co10 : Value).ownBlock) (.slice Ao9 x4_1.length co9) x4_1) := ⟨h3_⟩
             have n4_ : Aside0 (Kd.R (Kd.int .i64) 2 w18 w.heap.size (fun k_ => some k_ ≠ (v488 : Value).ownBlock ∧ some k_ ≠ (v491 : Value).ownBlock ∧ some k_ ≠ (v495 : Value).ownBlock ∧ some k_ ≠ (.slice Ao9 x4_1.length co9 : Value).ownBlock) (.slice Ao10 x5_1.length co10) x5_1) := ⟨h4_⟩
             have n5_ : Aside0 (Below w.heap.size w w18) := ⟨h5_⟩
             clear HO_3
             clear HO_4
             clear HO_5
             clear HB
             clear h0_ h1_ h2_ h3_ h4_ h5_
             have HO489 := n0_
             have HO492 := n1_
             have HO496 := n2_
             have HO_4 := n3_
             have HO_5 := n4_
             have HB := n5_
             clear n0_ n1_ n2_ n3_ n4_ n5_
             have hHeld : w18.cell? (ad486.add ((x6_1).toNat * 2)) = some (.int .i16 ((rd_T47 l0 x6_1).f0)) ∧ w18.cell? ⟨(ad486.add ((x6_1).toNat * 2)).block, (ad486.add ((x6_1).toNat * 2)).off + 1, none⟩ = some (.int .i16 ((rd_T47 l0 x6_1).f1)) ∧ w18.cell? (ad486.add ((x6_1).toNat * 2)) = some (.int .i16 ((rd_T47 l0 x6_1).f0)) ∧ w18.cell? ⟨(ad486.add ((x6_1).toNat * 2)).block, (ad486.add ((x6_1).toNat * 2)).off + 1, none⟩ = some (.int .i16 ((rd_T47 l0 x6_1).f1)) ∧ w18.cell? (ad486.add ((x6_1).toNat * 2)) = some (.int .i16 ((rd_T47 l0 x6_1).f0)) ∧ w18.cell? ⟨(ad486.add ((x6_1).toNat * 2)).block, (ad486.add ((x6_1).toNat * 2)).off + 1, none⟩ = some (.int .i16 ((rd_T47 l0 x6_1).f1)) := hS_
             obtain ⟨Ao20, co20, eo20⟩ := Kd.R_slice HO496.out
             (first | subst eo20 | (injection eo20 with f1_ f2_ f3_; have f4_ := f1_.symm; have f5_ := f3_.symm; clear f1_ f2_ f3_; subst f4_; subst f5_))
             refine norm_ (a' := ?_) ?_ ?_
             rotate_left
             ·simp only [putAll, Act.put, List.setIfInBounds_toArray, List.set_cons_zero, List.set_cons_succ]
              rfl
             refine two_ (i := 17) (j := 26) (Ni := some 35) (Nj := some 44) (bl 31 67108863) (bl 31 134086655) rfl rfl rfl rfl (two_of HT_.out (by kernel_rfl)) (by decide) (by decide) (fun K hK => ?_) (fun K hK => ?_)
             ·skip
              refine Kd.R_append_rows_step (Kd.int .i64) (w0 := w) w.heap.size (by rfl) (.tmp 27) (.tmp 34) 22 2 (.int .i64 0) 8 rfl Try.underlying22 info2 rfl (by decide) (by omega) (.slice Ao9 x4_1.length co9) x4_1 y494 _ _ _ (fun k_ => some k_ ≠ (.slice Ao10 x5_1.length co10 : Value).ownBlock ∧ some k_ ≠ (v488 : Value).ownBlock ∧ some k_ ≠ (v491 : Value).ownBlock ∧ some k_ ≠ (.slice Ao20 y494.length co20 : Value).ownBlock) (fun _ => False) rfl rfl ?aO ?aR (fun _ _ h => h) (fun _ h => h.elim) ?aF ?aB ?aS ?aL ?_
              (case aR => repeat (first | exact (Kd.R_reads' HO496.out).2.2 | (with_reducible refine Kd.C_alloc ?_ _) | (with_reducible refine Kd.C_drewN ?_ _) | (with_reducible refine Kd.C_drew ?_)))
              (case aB => exact (by repeat (first | (with_reducible first | exact HB.out | apply below_alloc | apply pw_below_drewN | apply below_drew1) | exact HB.out)))
              (case aF => exact (fun k_ hk => ⟨Kd.fresh' (Kd.R_lt (by (with_reducible repeat (first | apply Kd.R_alloc | apply Kd.R_drewN | apply Kd.R_drew)); exact HO_5.out)) k_ hk, Kd.fresh' (Kd.R_lt (by (with_reducible repeat (first | apply Kd.R_alloc | apply Kd.R_drewN | apply Kd.R_drew)); exact HO489.out)) k_ hk, Kd.fresh' (Kd.R_lt (by (with_reducible repeat (first | apply Kd.R_alloc | apply Kd.R_drewN | apply Kd.R_drew)); exact HO492.out)) k_ hk, Kd.fresh' (Kd.R_lt (by (with_reducible repeat (first | apply Kd.R_alloc | apply Kd.R_drewN | apply Kd.R_drew)); exact HO496.out)) k_ hk⟩))
              (case aO => exact (by (with_reducible repeat (first | apply Kd.R_alloc | apply Kd.R_drewN | apply Kd.R_drew)); exact Kd.R_mono HO_4.out (fun _ hk => ⟨hk.2.2.2, ⟨hk.1, ⟨hk.2.1, hk.2.2.1⟩⟩⟩)))
              (case aS => exact (below_size (by repeat (first | (with_reducible first | exact HB.out | apply below_alloc | apply pw_below_drewN | apply below_drew1) | exact HB.out))))
              (case aL => have := LMc6.out; omega)
              intro v498 w19 ho hb hg hat
              rw [← Ny497.out] at ho
              have n0_ := Aside0.mk (Kd.R_after (ok := (fun k_ => some k_ ≠ (v488 : Value).ownBlock ∧ some k_ ≠ (v491 : Value).ownBlock ∧ some k_ ≠ (.slice Ao20 y494.length co20 : Value).ownBlock)) (by (with_reducible repeat (first | apply Kd.R_alloc | apply Kd.R_drewN | apply Kd.R_drew)); exact Kd.R_mono HO_5.out (fun _ hk => ⟨⟨hk.1, ⟨hk.2.1, hk.2.2.1⟩⟩, hk.2.2.2⟩)) hg hat)
              have n1_ := Aside0.mk (Kd.R_after (ok := (fun k_ => some k_ ≠ (.slice Ao10 x5_1.length co10 : Value).ownBlock ∧ some k_ ≠ (v491 : Value).ownBlock ∧ some k_ ≠ (.slice Ao20 y494.length co20 : Value).ownBlock)) (by (with_reducible repeat (first | apply Kd.R_alloc | apply Kd.R_drewN | apply Kd.R_drew)); exact Kd.R_mono HO489.out (fun _ hk => ⟨⟨hk.2.2.2, ⟨hk.1, hk.2.1⟩⟩, hk.2.2.1⟩)) hg hat)
              have n2_ := Aside0.mk (Kd.R_after (ok := (fun k_ => some k_ ≠ (.slice Ao10 x5_1.length co10 : Value).ownBlock ∧ some k_ ≠ (v488 : Value).ownBlock ∧ some k_ ≠ (.slice Ao20 y494.length co20 : Value).ownBlock)) (by (with_reducible repeat (first | apply Kd.R_alloc | apply Kd.R_drewN | apply Kd.R_drew)); exact Kd.R_mono HO492.out (fun _ hk => ⟨⟨hk.2.2.2, ⟨hk.1, hk.2.1⟩⟩, hk.2.2.1⟩)) hg hat)
              have n3_ := Aside0.mk (Kd.R_after (ok := (fun k_ => some k_ ≠ (.slice Ao10 x5_1.length co10 : Value).ownBlock ∧ some k_ ≠ (v488 : Value).ownBlock ∧ some k_ ≠ (v491 : Value).ownBlock)) (by (with_reducible repeat (first | apply Kd.R_alloc | apply Kd.R_drewN | apply Kd.R_drew)); exact Kd.R_mono HO496.out (fun _ hk => ⟨⟨hk.2.2.2, ⟨hk.1, hk.2.1⟩⟩, hk.2.2.1⟩)) hg hat)
              have n4_ := Aside0.mk (hb)
              have n5_ := Aside0.mk (ho)
              clear HO_5
              clear HO489
              clear HO492
              clear HO496
              clear HB
              clear HO_4
              have HO_5 := n0_
              have HO489 := n1_
              have HO492 := n2_
              have HO496 := n3_
              have HB := n4_
              have HO499 := n5_
              clear n0_ n1_ n2_ n3_ n4_ n5_
              clear ho hb hg hat
              refine hK.out _ _ ⟨((HB.out.cell (World.block_lt_of_cell? w _ hw486_0)).trans hw486_0), ((HB.out.cell (World.block_lt_of_cell? w _ hw486_1)).trans hw486_1), ((HB.out.cell (World.block_lt_of_cell? w _ hw493_0)).trans hw493_0), ((HB.out.cell (World.block_lt_of_cell? w _ hw493_1)).trans hw493_1), ((HB.out.cell (World.block_lt_of_cell? w _ hw500_0)).trans hw500_0), ((HB.out.cell (World.block_lt_of_cell? w _ hw500_1)).trans hw500_1)⟩ (fun hHeld => ?_)
              clear hK K
              refine norm_ (a' := ?_) ?_ ?_
              rotate_left
              ·show Act.put _ (some 35) _ = _
               simp only [puts_]
               rfl
              exact norm_ (by first | (simp only [putAll, Act.put, List.setIfInBounds_toArray, List.set_cons_zero, List.set_cons_succ]; done) | (simp only [putAll, Act.put, List.setIfInBounds_toArray, List.set_cons_zero, List.set_cons_succ]; rfl)) (hJ7_8_16_17 (v488, v491, .slice Ao20 y494.length co20, v498) _ ⟨hHeld, (by (with_reducible repeat (first | apply Kd.R_alloc | apply Kd.R_drewN | apply Kd.R_drew)); exact Kd.R_mono HO489.out (fun _ hk => ⟨hk.1.2.1, ⟨hk.1.2.2, ⟨hk.2, hk.1.1⟩⟩⟩)), (by (with_reducible repeat (first | apply Kd.R_alloc | apply Kd.R_drewN | apply Kd.R_drew)); exact Kd.R_mono HO492.out (fun _ hk => ⟨hk.1.2.1, ⟨hk.1.2.2, ⟨hk.2, hk.1.1⟩⟩⟩)), (by (with_reducible repeat (first | apply Kd.R_alloc | apply Kd.R_drewN | apply Kd.R_drew)); exact Kd.R_mono HO496.out (fun _ hk => ⟨hk.1.2.1, ⟨hk.1.2.2, ⟨hk.2, hk.1.1⟩⟩⟩)), (by (with_reducible repeat (first | apply Kd.R_alloc | apply Kd.R_drewN | apply Kd.R_drew)); exact Kd.R_mono HO499.out (fun _ hk => ⟨hk.2.1, ⟨hk.2.2.1, ⟨hk.2.2.2, hk.1⟩⟩⟩)), (by (with_reducible repeat (first | apply Kd.R_alloc | apply Kd.R_drewN | apply Kd.R_drew)); exact Kd.R_mono HO_5.out (fun _ hk => ⟨hk.1.1, ⟨hk.1.2.1, ⟨hk.1.2.2, hk.2⟩⟩⟩)), (by repeat (first | (with_reducible first | exact HB.out | apply below_alloc | apply pw_below_drewN | apply below_drew1) | exact HB.out))⟩)
             ·skip
              refine Kd.R_lit_step (Kd.int .i64) _ 2 ?hg (N := 44) ?hd (xs := ([wrap64 (2 * (wrap64 ((rd_T47 l0 x6_1).f1)))] : List Int)) (inner := [.int .i64 (wrap64 (2 * (wrap64 ((rd_T47 l0 x6_1).f1))))]) (ok := fun _ => True) (okp := fun _ => True) ?hr ?hp (fun _ hk => hk) trivial (Below.refl _ _) (Nat.le_refl _) (by simp) ?_; (case hd => rfl); (case hg => rfl); (case hr => first | (go_simp; done) | (go_simp; rfl)); (case hp => exact (Reps.one (show Kd.M (Kd.int .i64) _ _ _ (wrap64 (2 * (wrap64 ((rd_T47 l0 x6_1).f1)))) [.int .i64 (wrap64 (2 * (wrap64 ((rd_T47 l0 x6_1).f1))))] from rfl) (Reps.none _ _)))
              intro v502 w19 ho20 hb hg_ hnew_
              clear hg_ hnew_
              (first | rw [← Ny501.out] at ho20 | (simp only [Int.reduceToNat] at ho20; rw [← Ny501.out] at ho20))
              have n0_ := Aside0.mk (Kd.R_elder' (by (with_reducible repeat (first | apply Kd.R_alloc | apply Kd.R_drewN | apply Kd.R_drew)); exact HO_4.out) (Kd.R_base ho20) hb)
              have n1_ := Aside0.mk (Kd.R_elder' (by (with_reducible repeat (first | apply Kd.R_alloc | apply Kd.R_drewN | apply Kd.R_drew)); exact HO_5.out) (Kd.R_base ho20) hb)
              have n2_ := Aside0.mk (Kd.R_elder' (by (with_reducible repeat (first | apply Kd.R_alloc | apply Kd.R_drewN | apply Kd.R_drew)); exact HO489.out) (Kd.R_base ho20) hb)
              have n3_ := Aside0.mk (Kd.R_elder' (by (with_reducible repeat (first | apply Kd.R_alloc | apply Kd.R_drewN | apply Kd.R_drew)); exact HO492.out) (Kd.R_base ho20) hb)
              have n4_ := Aside0.mk (Kd.R_elder' (by (with_reducible repeat (first | apply Kd.R_alloc | apply Kd.R_drewN | apply Kd.R_drew)); exact HO496.out) (Kd.R_base ho20) hb)
              have n5_ := Aside0.mk (Kd.R_lower (Kd.R_new' (Kd.R_new' (Kd.R_new' (Kd.R_new' (Kd.R_new' ho20 (Kd.R_lt (by (with_reducible repeat (first | apply Kd.R_alloc | apply Kd.R_drewN | apply Kd.R_drew)); exact HO_4.out))) (Kd.R_lt (by (with_reducible repeat (first | apply Kd.R_alloc | apply Kd.R_drewN | apply Kd.R_drew)); exact HO_5.out))) (Kd.R_lt (by (with_reducible repeat (first | apply Kd.R_alloc | apply Kd.R_drewN | apply Kd.R_drew)); exact HO489.out))) (Kd.R_lt (by (with_reducible repeat (first | apply Kd.R_alloc | apply Kd.R_drewN | apply Kd.R_drew)); exact HO492.out))) (Kd.R_lt (by (with_reducible repeat (first | apply Kd.R_alloc | apply Kd.R_drewN | apply Kd.R_drew)); exact HO496.out))) (below_size (by repeat (first | (with_reducible first | exact HB.out | apply below_alloc | apply pw_below_drewN | apply below_drew1) | exact HB.out))))
              have n6_ := Aside0.mk (below_step (by repeat (first | (with_reducible first | exact HB.out | apply below_alloc | apply pw_below_drewN | apply below_drew1) | exact HB.out)) hb)
              clear HO_4
              clear HO_5
              clear HO489
              clear HO492
              clear HO496
              clear HB
              have HO_4 := n0_
              have HO_5 := n1_
              have HO489 := n2_
              have HO492 := n3_
              have HO496 := n4_
              have HO503 := n5_
              have HB := n6_
              clear n0_ n1_ n2_ n3_ n4_ n5_ n6_
              clear hb ho20
              refine hK.out _ _ ⟨((HB.out.cell (World.block_lt_of_cell? w _ hw486_0)).trans hw486_0), ((HB.out.cell (World.block_lt_of_cell? w _ hw486_1)).trans hw486_1), ((HB.out.cell (World.block_lt_of_cell? w _ hw493_0)).trans hw493_0), ((HB.out.cell (World.block_lt_of_cell? w _ hw493_1)).trans hw493_1), ((HB.out.cell (World.block_lt_of_cell? w _ hw500_0)).trans hw500_0), ((HB.out.cell (World.block_lt_of_cell? w _ hw500_1)).trans hw500_1)⟩ (fun hHeld => ?_)
              clear hK K
              refine norm_ (a' := ?_) ?_ ?_
              rotate_left
              ·show Act.put _ (some 44) _ = _
               simp only [puts_]
               rfl
              exact norm_ (by first | (simp only [putAll, Act.put, List.setIfInBounds_toArray, List.set_cons_zero, List.set_cons_succ]; done) | (simp only [putAll, Act.put, List.setIfInBounds_toArray, List.set_cons_zero, List.set_cons_succ]; rfl)) (hJ7_8_16_26 (v488, v491, (.slice Ao20 y494.length co20), v502) _ ⟨hHeld, (by (with_reducible repeat (first | apply Kd.R_alloc | apply Kd.R_drewN | apply Kd.R_drew)); exact Kd.R_mono HO489.out (fun _ hk => ⟨hk.1.1, ⟨hk.1.2.1, ⟨hk.2, ⟨hk.1.2.2.1, hk.1.2.2.2⟩⟩⟩⟩)), (by (with_reducible repeat (first | apply Kd.R_alloc | apply Kd.R_drewN | apply Kd.R_drew)); exact Kd.R_mono HO492.out (fun _ hk => ⟨hk.1.1, ⟨hk.1.2.1, ⟨hk.2, ⟨hk.1.2.2.1, hk.1.2.2.2⟩⟩⟩⟩)), (by (with_reducible repeat (first | apply Kd.R_alloc | apply Kd.R_drewN | apply Kd.R_drew)); exact Kd.R_mono HO496.out (fun _ hk => ⟨hk.1.1, ⟨hk.1.2.1, ⟨hk.2, ⟨hk.1.2.2.1, hk.1.2.2.2⟩⟩⟩⟩)), (by (with_reducible repeat (first | apply Kd.R_alloc | apply Kd.R_drewN | apply Kd.R_drew)); exact Kd.R_mono HO503.out (fun _ hk => ⟨hk.1.1.2, ⟨hk.1.2, ⟨hk.2, ⟨hk.1.1.1.1.2, hk.1.1.1.2⟩⟩⟩⟩)), (by (with_reducible repeat (first | apply Kd.R_alloc | apply Kd.R_drewN | apply Kd.R_drew)); exact Kd.R_mono HO_4.out (fun _ hk => ⟨hk.1.1, ⟨hk.1.2.1, ⟨hk.1.2.2.1, ⟨hk.2, hk.1.2.2.2⟩⟩⟩⟩)), (by (with_reducible repeat (first | apply Kd.R_alloc | apply Kd.R_drewN | apply Kd.R_drew)); exact Kd.R_mono HO_5.out (fun _ hk => ⟨hk.1.1, ⟨hk.1.2.1, ⟨hk.1.2.2.1, ⟨hk.2, hk.1.2.2.2⟩⟩⟩⟩)), (by repeat (first | (with_reducible first | exact HB.out | apply below_alloc | apply pw_below_drewN | apply below_drew1) | exact HB.out))⟩)
           ·skip
            rintro ⟨v488, v491, v495, v502⟩ w20 ⟨hS_, h0_, h1_, h2_, h3_, h4_, h5_, h6_⟩
            have n0_ : Aside0 (Kd.R (Kd.int .i64) 2 w20 w.heap.size (fun k_ => some k_ ≠ (v491 : Value).ownBlock ∧ some k_ ≠ (v495 : Value).ownBlock ∧ some k_ ≠ (v502 : Value).ownBlock ∧ some k_ ≠ (.slice Ao9 x4_1.length co9 : Value).ownBlock ∧ some k_ ≠ (.slice Ao10 x5_1.length co10 : Value).ownBlock) v488 y487) := ⟨h0_⟩
            have n1_ : Aside0 (Kd.R (Kd.int .i64) 2 w20 w.heap.size (fun k_ => some k_ ≠ (v488 : Value).ownBlock ∧ some k_ ≠ (v495 : Value).ownBlock ∧ some k_ ≠ (v502 : Value).ownBlock ∧ some k_ ≠ (.slice Ao9 x4_1.length co9 : Value).ownBlock ∧ some k_ ≠ (.slice Ao10 x5_1.length co10 : Value).ownBlock) v491 y490) := ⟨h1_⟩
            have n2_ : Aside0 (Kd.R (Kd.int .i64) 2 w20 w.heap.size (fun k_ => some k_ ≠ (v488 : Value).ownBlock ∧ some k_ ≠ (v491 : Value).ownBlock ∧ some k_ ≠ (v502 : Value).ownBlock ∧ some k_ ≠ (.slice Ao9 x4_1.length co9 : Value).ownBlock ∧ some k_ ≠ (.slice Ao10 x5_1.length co10 : Value).ownBlock) v495 y494) := ⟨h2_⟩
            have n3_ : Aside0 (Kd.R (Kd.int .i64) 2 w20 w.heap.size (fun k_ => some k_ ≠ (v488 : Value).ownBlock ∧ some k_ ≠ (v491 : Value).ownBlock ∧ some k_ ≠ (v495 : Value).ownBlock ∧ some k_ ≠ (.slice Ao9 x4_1.length co9 : Value).ownBlock ∧ some k_ ≠ (.slice Ao10 x5_1.length co10 : Value).ownBlock) v502 y501) := ⟨h3_⟩
            have n4_ : Aside0 (Kd.R (Kd.int .i64) 2 w20 w.heap.size (fun k_ => some k_ ≠ (v488 : Value).ownBlock ∧ some k_ ≠ (v491 : Value).ownBlock ∧ some k_ ≠ (v495 : Value).ownBlock ∧ some k_ ≠ (v502 : Value).ownBlock ∧ some k_ ≠ (.slice Ao10 x5_1.length co10 : Value).ownBlock) (.slice Ao9 x4_1.length co9) x4_1) := ⟨h4_⟩
            have n5_ : Aside0 (Kd.R (Kd.int .i64) 2 w20 w.heap.size (fun k_ => some k_ ≠ (v488 : Value).ownBlock ∧ some k_ ≠ (v491 : Value).ownBlock ∧ some k_ ≠ (v495 : Value).ownBlock ∧ some k_ ≠ (v502 : Value).ownBlock ∧ some k_ ≠ (.slice Ao9 x4_1.length co9 : Value).ownBlock) (.slice Ao10 x5_1.length co10) x5_1) := ⟨h5_⟩
            have n6_ : Aside0 (Below w.heap.size w w20) := ⟨h6_⟩
            clear HO_3
            clear HO_4
            clear HO_5
            clear HB
            clear h0_ h1_ h2_ h3_ h4_ h5_ h6_
            have HO489 := n0_
            have HO492 := n1_
            have HO496 := n2_
            have HO503 := n3_
            have HO_4 := n4_
            have HO_5 := n5_
            have HB := n6_
            clear n0_ n1_ n2_ n3_ n4_ n5_ n6_
            have hHeld : w20.cell? (ad486.add ((x6_1).toNat * 2)) = some (.int .i16 ((rd_T47 l0 x6_1).f0)) ∧ w20.cell? ⟨(ad486.add ((x6_1).toNat * 2)).block, (ad486.add ((x6_1).toNat * 2)).off + 1, none⟩ = some (.int .i16 ((rd_T47 l0 x6_1).f1)) ∧ w20.cell? (ad486.add ((x6_1).toNat * 2)) = some (.int .i16 ((rd_T47 l0 x6_1).f0)) ∧ w20.cell? ⟨(ad486.add ((x6_1).toNat * 2)).block, (ad486.add ((x6_1).toNat * 2)).off + 1, none⟩ = some (.int .i16 ((rd_T47 l0 x6_1).f1)) ∧ w20.cell? (ad486.add ((x6_1).toNat * 2)) = some (.int .i16 ((rd_T47 l0 x6_1).f0)) ∧ w20.cell? ⟨(ad486.add ((x6_1).toNat * 2)).block, (ad486.add ((x6_1).toNat * 2)).off + 1, none⟩ = some (.int .i16 ((rd_T47 l0 x6_1).f1)) := hS_
            obtain ⟨Ao22, co22, eo22⟩ := Kd.R_slice HO496.out
            (first | subst eo22 | (injection eo22 with f1_ f2_ f3_; have f4_ := f1_.symm; have f5_ := f3_.symm; clear f1_ f2_ f3_; subst f4_; subst f5_))
            refine norm_ (a' := ?_) ?_ ?_
            rotate_left
            ·simp only [putAll, Act.put, List.setIfInBounds_toArray, List.set_cons_zero, List.set_cons_succ]
             rfl
            refine one_ (i := 17) (N := some 35) (bl 31 134217727) rfl rfl (one_of HT_.out (by kernel_rfl)) (by decide) (fun K hK => ?_)
            refine Kd.R_append_rows_step (Kd.int .i64) (w0 := w) w.heap.size (by rfl) (.tmp 27) (.tmp 34) 22 2 (.int .i64 0) 8 rfl Try.underlying22 info2 rfl (by decide) (by omega) (.slice Ao9 x4_1.length co9) x4_1 y494 _ _ _ (fun k_ => some k_ ≠ (.slice Ao10 x5_1.length co10 : Value).ownBlock ∧ some k_ ≠ (v488 : Value).ownBlock ∧ some k_ ≠ (v491 : Value).ownBlock ∧ some k_ ≠ (.slice Ao22 y494.length co22 : Value).ownBlock ∧ some k_ ≠ (v502 : Value).ownBlock) (fun _ => False) rfl rfl ?aO ?aR (fun _ _ h => h) (fun _ h => h.elim) ?aF ?aB ?aS ?aL ?_
            (case aR => repeat (first | exact (Kd.R_reads' HO496.out).2.2 | (with_reducible refine Kd.C_alloc ?_ _) | (with_reducible refine Kd.C_drewN ?_ _) | (with_reducible refine Kd.C_drew ?_)))
            (case aB => exact (by repeat (first | (with_reducible first | exact HB.out | apply below_alloc | apply pw_below_drewN | apply below_drew1) | exact HB.out)))
            (case aF => exact (fun k_ hk => ⟨Kd.fresh' (Kd.R_lt (by (with_reducible repeat (first | apply Kd.R_alloc | apply Kd.R_drewN | apply Kd.R_drew)); exact HO_5.out)) k_ hk, Kd.fresh' (Kd.R_lt (by (with_reducible repeat (first | apply Kd.R_alloc | apply Kd.R_drewN | apply Kd.R_drew)); exact HO489.out)) k_ hk, Kd.fresh' (Kd.R_lt (by (with_reducible repeat (first | apply Kd.R_alloc | apply Kd.R_drewN | apply Kd.R_drew)); exact HO492.out)) k_ hk, Kd.fresh' (Kd.R_lt (by (with_reducible repeat (first | apply Kd.R_alloc | apply Kd.R_drewN | apply Kd.R_drew)); exact HO496.out)) k_ hk, Kd.fresh' (Kd.R_lt (by (with_reducible repeat (first | apply Kd.R_alloc | apply Kd.R_drewN | apply Kd.R_drew)); exact HO503.out)) k_ hk⟩))
            (case aO => exact (by (with_reducible repeat (first | apply Kd.R_alloc | apply Kd.R_drewN | apply Kd.R_drew)); exact Kd.R_mono HO_4.out (fun _ hk => ⟨hk.2.2.2.2, ⟨hk.1, ⟨hk.2.1, ⟨hk.2.2.1, hk.2.2.2.1⟩⟩⟩⟩)))
            (case aS => exact (below_size (by repeat (first | (with_reducible first | exact HB.out | apply below_alloc | apply pw_below_drewN | apply below_drew1) | exact HB.out))))
            (case aL => have := LMc6.out; omega)
            intro v498 w21 ho hb hg hat
            rw [← Ny497.out] at ho
            have n0_ := Aside0.mk (Kd.R_after (ok := (fun k_ => some k_ ≠ (v488 : Value).ownBlock ∧ some k_ ≠ (v491 : Value).ownBlock ∧ some k_ ≠ (.slice Ao22 y494.length co22 : Value).ownBlock ∧ some k_ ≠ (v502 : Value).ownBlock)) (by (with_reducible repeat (first | apply Kd.R_alloc | apply Kd.R_drewN | apply Kd.R_drew)); exact Kd.R_mono HO_5.out (fun _ hk => ⟨⟨hk.1, ⟨hk.2.1, ⟨hk.2.2.1, hk.2.2.2.1⟩⟩⟩, hk.2.2.2.2⟩)) hg hat)
            have n1_ := Aside0.mk (Kd.R_after (ok := (fun k_ => some k_ ≠ (.slice Ao10 x5_1.length co10 : Value).ownBlock ∧ some k_ ≠ (v491 : Value).ownBlock ∧ some k_ ≠ (.slice Ao22 y494.length co22 : Value).ownBlock ∧ some k_ ≠ (v502 : Value).ownBlock)) (by (with_reducible repeat (first | apply Kd.R_alloc | apply Kd.R_drewN | apply Kd.R_drew)); exact Kd.R_mono HO489.out (fun _ hk => ⟨⟨hk.2.2.2.2, ⟨hk.1, ⟨hk.2.1, hk.2.2.1⟩⟩⟩, hk.2.2.2.1⟩)) hg hat)
            have n2_ := Aside0.mk (Kd.R_after (ok := (fun k_ => some k_ ≠ (.slice Ao10 x5_1.length co10 : Value).ownBlock ∧ some k_ ≠ (v488 : Value).ownBlock ∧ some k_ ≠ (.slice Ao22 y494.length co22 : Value).ownBlock ∧ some k_ ≠ (v502 : Value).ownBlock)) (by (with_reducible repeat (first | apply Kd.R_alloc | apply Kd.R_drewN | apply Kd.R_drew)); exact Kd.R_mono HO492.out (fun _ hk => ⟨⟨hk.2.2.2.2, ⟨hk.1, ⟨hk.2.1, hk.2.2.1⟩⟩⟩, hk.2.2.2.1⟩)) hg hat)
            have n3_ := Aside0.mk (Kd.R_after (ok := (fun k_ => some k_ ≠ (.slice Ao10 x5_1.length co10 : Value).ownBlock ∧ some k_ ≠ (v488 : Value).ownBlock ∧ some k_ ≠ (v491 : Value).ownBlock ∧ some k_ ≠ (v502 : Value).ownBlock)) (by (with_reducible repeat (first | apply Kd.R_alloc | apply Kd.R_drewN | apply Kd.R_drew)); exact Kd.R_mono HO496.out (fun _ hk => ⟨⟨hk.2.2.2.2, ⟨hk.1, ⟨hk.2.1, hk.2.2.1⟩⟩⟩, hk.2.2.2.1⟩)) hg hat)
            have n4_ := Aside0.mk (Kd.R_after (ok := (fun k_ => some k_ ≠ (.slice Ao10 x5_1.length co10 : Value).ownBlock ∧ some k_ ≠ (v488 : Value).ownBlock ∧ some k_ ≠ (v491 : Value).ownBlock ∧ some k_ ≠ (.slice Ao22 y494.length co22 : Value).ownBlock)) (by (with_reducible repeat (first | apply Kd.R_alloc | apply Kd.R_drewN | apply Kd.R_drew)); exact Kd.R_mono HO503.out (fun _ hk => ⟨⟨hk.2.2.2.2, ⟨hk.1, ⟨hk.2.1, hk.2.2.1⟩⟩⟩, hk.2.2.2.1⟩)) hg hat)
            have n5_ := Aside0.mk (hb)
            have n6_ := Aside0.mk (ho)
            clear HO_5
            clear HO489
            clear HO492
            clear HO496
            clear HO503
            clear HB
            clear HO_4
            have HO_5 := n0_
            have HO489 := n1_
            have HO492 := n2_
            have HO496 := n3_
            have HO503 := n4_
            have HB := n5_
            have HO499 := n6_
            clear n0_ n1_ n2_ n3_ n4_ n5_ n6_
            clear ho hb hg hat
            refine hK.out _ _ ⟨((HB.out.cell (World.block_lt_of_cell? w _ hw486_0)).trans hw486_0), ((HB.out.cell (World.block_lt_of_cell? w _ hw486_1)).trans hw486_1), ((HB.out.cell (World.block_lt_of_cell? w _ hw493_0)).trans hw493_0), ((HB.out.cell (World.block_lt_of_cell? w _ hw493_1)).trans hw493_1), ((HB.out.cell (World.block_lt_of_cell? w _ hw500_0)).trans hw500_0), ((HB.out.cell (World.block_lt_of_cell? w _ hw500_1)).trans hw500_1)⟩ (fun hHeld => ?_)
            clear hK K
            refine norm_ (a' := ?_) ?_ ?_
            rotate_left
            ·show Act.put _ (some 35) _ = _
             simp only [puts_]
             rfl
            exact norm_ (by first | (simp only [putAll, Act.put, List.setIfInBounds_toArray, List.set_cons_zero, List.set_cons_succ]; done) | (simp only [putAll, Act.put, List.setIfInBounds_toArray, List.set_cons_zero, List.set_cons_succ]; rfl)) (hJ7_8_16_17_26 (v488, v491, .slice Ao22 y494.length co22, v498, v502) _ ⟨hHeld, (by (with_reducible repeat (first | apply Kd.R_alloc | apply Kd.R_drewN | apply Kd.R_drew)); exact Kd.R_mono HO489.out (fun _ hk => ⟨hk.1.2.1, ⟨hk.1.2.2.1, ⟨hk.2, ⟨hk.1.2.2.2, hk.1.1⟩⟩⟩⟩)), (by (with_reducible repeat (first | apply Kd.R_alloc | apply Kd.R_drewN | apply Kd.R_drew)); exact Kd.R_mono HO492.out (fun _ hk => ⟨hk.1.2.1, ⟨hk.1.2.2.1, ⟨hk.2, ⟨hk.1.2.2.2, hk.1.1⟩⟩⟩⟩)), (by (with_reducible repeat (first | apply Kd.R_alloc | apply Kd.R_drewN | apply Kd.R_drew)); exact Kd.R_mono HO496.out (fun _ hk => ⟨hk.1.2.1, ⟨hk.1.2.2.1, ⟨hk.2, ⟨hk.1.2.2.2, hk.1.1⟩⟩⟩⟩)), (by (with_reducible repeat (first | apply Kd.R_alloc | apply Kd.R_drewN | apply Kd.R_drew)); exact Kd.R_mono HO499.out (fun _ hk => ⟨hk.2.1, ⟨hk.2.2.1, ⟨hk.2.2.2.1, ⟨hk.2.2.2.2, hk.1⟩⟩⟩⟩)), (by (with_reducible repeat (first | apply Kd.R_alloc | apply Kd.R_drewN | apply Kd.R_drew)); exact Kd.R_mono HO503.out (fun _ hk => ⟨hk.1.2.1, ⟨hk.1.2.2.1, ⟨hk.1.2.2.2, ⟨hk.2, hk.1.1⟩⟩⟩⟩)), (by (with_reducible repeat (first | apply Kd.R_alloc | apply Kd.R_drewN | apply Kd.R_drew)); exact Kd.R_mono HO_5.out (fun _ hk => ⟨hk.1.1, ⟨hk.1.2.1, ⟨hk.1.2.2.1, ⟨hk.2, hk.1.2.2.2⟩⟩⟩⟩)), (by repeat (first | (with_reducible first | exact HB.out | apply below_alloc | apply pw_below_drewN | apply below_drew1) | exact HB.out))⟩)
          ·skip
           rintro ⟨v488, v491, v495, v498⟩ w20 ⟨hS_, h0_, h1_, h2_, h3_, h4_, h5_⟩
           have n0_ : Aside0 (Kd.R (Kd.int .i64) 2 w20 w.heap.size (fun k_ => some k_ ≠ (v491 : Value).ownBlock ∧ some k_ ≠ (v495 : Value).ownBlock ∧ some k_ ≠ (v498 : Value).ownBlock ∧ some k_ ≠ (.slice Ao10 x5_1.length co10 : Value).ownBlock) v488 y487) := ⟨h0_⟩
           have n1_ : Aside0 (Kd.R (Kd.int .i64) 2 w20 w.heap.size (fun k_ => some k_ ≠ (v488 : Value).ownBlock ∧ some k_ ≠ (v495 : Value).ownBlock ∧ some k_ ≠ (v498 : Value).ownBlock ∧ some k_ ≠ (.slice Ao10 x5_1.length co10 : Value).ownBlock) v491 y490) := ⟨h1_⟩
           have n2_ : Aside0 (Kd.R (Kd.int .i64) 2 w20 w.heap.size (fun k_ => some k_ ≠ (v488 : Value).ownBlock ∧ some k_ ≠ (v491 : Value).ownBlock ∧ some k_ ≠ (v498 : Value).ownBlock ∧ some k_ ≠ (.slice Ao10 x5_1.length co10 : Value).ownBlock) v495 y494) := ⟨h2_⟩
           have n3_ : Aside0 (Kd.R (Kd.int .i64) 2 w20 w.heap.size (fun k_ => some k_ ≠ (v488 : Value).ownBlock ∧ some k_ ≠ (v491 : Value).ownBlock ∧ some k_ ≠ (v495 : Value).ownBlock ∧ some k_ ≠ (.slice Ao10 x5_1.length co10 : Value).ownBlock) v498 y497) := ⟨h3_⟩
           have n4_ : Aside0 (Kd.R (Kd.int .i64) 2 w20 w.heap.size (fun k_ => some k_ ≠ (v488 : Value).ownBlock ∧ some k_ ≠ (v491 : Value).ownBlock ∧ some k_ ≠ (v495 : Value).ownBlock ∧ some k_ ≠ (v498 : Value).ownBlock) (.slice Ao10 x5_1.length co10) x5_1) := ⟨h4_⟩
           have n5_ : Aside0 (Below w.heap.size w w20) := ⟨h5_⟩
           clear HO_3
           clear HO_4
           clear HO_5
           clear HB
           clear h0_ h1_ h2_ h3_ h4_ h5_
           have HO489 := n0_
           have HO492 := n1_
           have HO496 := n2_
           have HO499 := n3_
           have HO_5 := n4_
           have HB := n5_
           clear n0_ n1_ n2_ n3_ n4_ n5_
           have hHeld : w20.cell? (ad486.add ((x6_1).toNat * 2)) = some (.int .i16 ((rd_T47 l0 x6_1).f0)) ∧ w20.cell? ⟨(ad486.add ((x6_1).toNat * 2)).block, (ad486.add ((x6_1).toNat * 2)).off + 1, none⟩ = some (.int .i16 ((rd_T47 l0 x6_1).f1)) ∧ w20.cell? (ad486.add ((x6_1).toNat * 2)) = some (.int .i16 ((rd_T47 l0 x6_1).f0)) ∧ w20.cell? ⟨(ad486.add ((x6_1).toNat * 2)).block, (ad486.add ((x6_1).toNat * 2)).off + 1, none⟩ = some (.int .i16 ((rd_T47 l0 x6_1).f1)) ∧ w20.cell? (ad486.add ((x6_1).toNat * 2)) = some (.int .i16 ((rd_T47 l0 x6_1).f0)) ∧ w20.cell? ⟨(ad486.add ((x6_1).toNat * 2)).block, (ad486.add ((x6_1).toNat * 2)).off + 1, none⟩ = some (.int .i16 ((rd_T47 l0 x6_1).f1)) := hS_
           refine norm_ (a' := ?_) ?_ ?_
           rotate_left
           ·simp only [putAll, Act.put, List.setIfInBounds_toArray, List.set_cons_zero, List.set_cons_succ]
            rfl
           refine one_ (i := 26) (N := some 44) (bl 31 134217727) rfl rfl (one_of HT_.out (by kernel_rfl)) (by decide) (fun K hK => ?_)
           refine Kd.R_lit_step (Kd.int .i64) _ 2 ?hg (N := 44) ?hd (xs := ([wrap64 (2 * (wrap64 ((rd_T47 l0 x6_1).f1)))] : List Int)) (inner := [.int .i64 (wrap64 (2 * (wrap64 ((rd_T47 l0 x6_1).f1))))]) (ok := fun _ => True) (okp := fun _ => True) ?hr ?hp (fun _ hk => hk) trivial (Below.refl _ _) (Nat.le_refl _) (by simp) ?_; (case hd => rfl); (case hg => rfl); (case hr => first | (go_simp; done) | (go_simp; rfl)); (case hp => exact (Reps.one (show Kd.M (Kd.int .i64) _ _ _ (wrap64 (2 * (wrap64 ((rd_T47 l0 x6_1).f1)))) [.int .i64 (wrap64 (2 * (wrap64 ((rd_T47 l0 x6_1).f1))))] from rfl) (Reps.none _ _)))
           intro v502 w21 ho22 hb hg_ hnew_
           clear hg_ hnew_
           (first | rw [← Ny501.out] at ho22 | (simp only [Int.reduceToNat] at ho22; rw [← Ny501.out] at ho22))
           have n0_ := Aside0.mk (Kd.R_elder' (by (with_reducible repeat (first | apply Kd.R_alloc | apply Kd.R_drewN | apply Kd.R_drew)); exact HO_5.out) (Kd.R_base ho22) hb)
           have n1_ := Aside0.mk (Kd.R_elder' (by (with_reducible repeat (first | apply Kd.R_alloc | apply Kd.R_drewN | apply Kd.R_drew)); exact HO489.out) (Kd.R_base ho22) hb)
           have n2_ := Aside0.mk (Kd.R_elder' (by (with_reducible repeat (first | apply Kd.R_alloc | apply Kd.R_drewN | apply Kd.R_drew)); exact HO492.out) (Kd.R_base ho22) hb)
           have n3_ := Aside0.mk (Kd.R_elder' (by (with_reducible repeat (first | apply Kd.R_alloc | apply Kd.R_drewN | apply Kd.R_drew)); exact HO496.out) (Kd.R_base ho22) hb)
           have n4_ := Aside0.mk (Kd.R_elder' (by (with_reducible repeat (first | apply Kd.R_alloc | apply Kd.R_drewN | apply Kd.R_drew)); exact HO499.out) (Kd.R_base ho22) hb)
           have n5_ := Aside0.mk (Kd.R_lower (Kd.R_new' (Kd.R_new' (Kd.R_new' (Kd.R_new' (Kd.R_new' ho22 (Kd.R_lt (by (with_reducible repeat (first | apply Kd.R_alloc | apply Kd.R_drewN | apply Kd.R_drew)); exact HO_5.out))) (Kd.R_lt (by (with_reducible repeat (first | apply Kd.R_alloc | apply Kd.R_drewN | apply Kd.R_drew)); exact HO489.out))) (Kd.R_lt (by (with_reducible repeat (first | apply Kd.R_alloc | apply Kd.R_drewN | apply Kd.R_drew)); exact HO492.out))) (Kd.R_lt (by (with_reducible repeat (first | apply Kd.R_alloc | apply Kd.R_drewN | apply Kd.R_drew)); exact HO496.out))) (Kd.R_lt (by (with_reducible repeat (first | apply Kd.R_alloc | apply Kd.R_drewN | apply Kd.R_drew)); exact HO499.out))) (below_size (by repeat (first | (with_reducible first | exact HB.out | apply below_alloc | apply pw_below_drewN | apply below_drew1) | exact HB.out))))
           have n6_ := Aside0.mk (below_step (by repeat (first | (with_reducible first | exact HB.out | apply below_alloc | apply pw_below_drewN | apply below_drew1) | exact HB.out)) hb)
           clear HO_5
           clear HO489
           clear HO492
           clear HO496
           clear HO499
           clear HB
           have HO_5 := n0_
           have HO489 := n1_
           have HO492 := n2_
           have HO496 := n3_
           have HO499 := n4_
           have HO503 := n5_
           have HB := n6_
           clear n0_ n1_ n2_ n3_ n4_ n5_ n6_
           clear hb ho22
           refine hK.out _ _ ⟨((HB.out.cell (World.block_lt_of_cell? w _ hw486_0)).trans hw486_0), ((HB.out.cell (World.block_lt_of_cell? w _ hw486_1)).trans hw486_1), ((HB.out.cell (World.block_lt_of_cell? w _ hw493_0)).trans hw493_0), ((HB.out.cell (World.block_lt_of_cell? w _ hw493_1)).trans hw493_1), ((HB.out.cell (World.block_lt_of_cell? w _ hw500_0)).trans hw500_0), ((HB.out.cell (World.block_lt_of_cell? w _ hw500_1)).trans hw500_1)⟩ (fun hHeld => ?_)
           clear hK K
           refine norm_ (a' := ?_) ?_ ?_
           rotate_left
           ·show Act.put _ (some 44) _ = _
            simp only [puts_]
            rfl
           exact norm_ (by first | (simp only [putAll, Act.put, List.setIfInBounds_toArray, List.set_cons_zero, List.set_cons_succ]; done) | (simp only [putAll, Act.put, List.setIfInBounds_toArray, List.set_cons_zero, List.set_cons_succ]; rfl)) (hJ7_8_16_17_26 (v488, v491, v495, v498, v502) _ ⟨hHeld, (by (with_reducible repeat (first | apply Kd.R_alloc | apply Kd.R_drewN | apply Kd.R_drew)); exact Kd.R_mono HO489.out (fun _ hk => ⟨hk.1.1, ⟨hk.1.2.1, ⟨hk.1.2.2.1, ⟨hk.2, hk.1.2.2.2⟩⟩⟩⟩)), (by (with_reducible repeat (first | apply Kd.R_alloc | apply Kd.R_drewN | apply Kd.R_drew)); exact Kd.R_mono HO492.out (fun _ hk => ⟨hk.1.1, ⟨hk.1.2.1, ⟨hk.1.2.2.1, ⟨hk.2, hk.1.2.2.2⟩⟩⟩⟩)), (by (with_reducible repeat (first | apply Kd.R_alloc | apply Kd.R_drewN | apply Kd.R_drew)); exact Kd.R_mono HO496.out (fun _ hk => ⟨hk.1.1, ⟨hk.1.2.1, ⟨hk.1.2.2.1, ⟨hk.2, hk.1.2.2.2⟩⟩⟩⟩)), (by (with_reducible repeat (first | apply Kd.R_alloc | apply Kd.R_drewN | apply Kd.R_drew)); exact Kd.R_mono HO499.out (fun _ hk => ⟨hk.1.1, ⟨hk.1.2.1, ⟨hk.1.2.2.1, ⟨hk.2, hk.1.2.2.2⟩⟩⟩⟩)), (by (with_reducible repeat (first | apply Kd.R_alloc | apply Kd.R_drewN | apply Kd.R_drew)); exact Kd.R_mono HO503.out (fun _ hk => ⟨hk.1.1.1.2, ⟨hk.1.1.2, ⟨hk.1.2, ⟨hk.2, hk.1.1.1.1.2⟩⟩⟩⟩)), (by (with_reducible repeat (first | apply Kd.R_alloc | apply Kd.R_drewN | apply Kd.R_drew)); exact Kd.R_mono HO_5.out (fun _ hk => ⟨hk.1.1, ⟨hk.1.2.1, ⟨hk.1.2.2.1, ⟨hk.1.2.2.2, hk.2⟩⟩⟩⟩)), (by repeat (first | (with_reducible first | exact HB.out | apply below_alloc | apply pw_below_drewN | apply below_drew1) | exact HB.out))⟩)
         rintro ⟨v488, v491, v495, v498, v502⟩ w22 ⟨hS_, h0_, h1_, h2_, h3_, h4_, h5_, h6_⟩
         have n0_ : Aside0 (Kd.R (Kd.int .i64) 2 w22 w.heap.size (fun k_ => some k_ ≠ (v491 : Value).ownBlock ∧ some k_ ≠ (v495 : Value).ownBlock ∧ some k_ ≠ (v498 : Value).ownBlock ∧ some k_ ≠ (v502 : Value).ownBlock ∧ some k_ ≠ (.slice Ao10 x5_1.length co10 : Value).ownBlock) v488 y487) := ⟨h0_⟩
         have n1_ : Aside0 (Kd.R (Kd.int .i64) 2 w22 w.heap.size (fun k_ => some k_ ≠ (v488 : Value).ownBlock ∧ some k_ ≠ (v495 : Value).ownBlock ∧ some k_ ≠ (v498 : Value).ownBlock ∧ some k_ ≠ (v502 : Value).ownBlock ∧ some k_ ≠ (.slice Ao10 x5_1.length co10 : Value).ownBlock) v491 y490) := ⟨h1_⟩
         have n2_ : Aside0 (Kd.R (Kd.int .i64) 2 w22 w.heap.size (fun k_ => some k_ ≠ (v488 : Value).ownBlock ∧ some k_ ≠ (v491 : Value).ownBlock ∧ some k_ ≠ (v498 : Value).ownBlock ∧ some k_ ≠ (v502 : Value).ownBlock ∧ some k_ ≠ (.slice Ao10 x5_1.length co10 : Value).ownBlock) v495 y494) := ⟨h2_⟩
         have n3_ : Aside0 (Kd.R (Kd.int .i64) 2 w22 w.heap.size (fun k_ => some k_ ≠ (v488 : Value).ownBlock ∧ some k_ ≠ (v491 : Value).ownBlock ∧ some k_ ≠ (v495 : Value).ownBlock ∧ some k_ ≠ (v502 : Value).ownBlock ∧ some k_ ≠ (.slice Ao10 x5_1.length co10 : Value).ownBlock) v498 y497) := ⟨h3_⟩
         have n4_ : Aside0 (Kd.R (Kd.int .i64) 2 w22 w.heap.size (fun k_ => some k_ ≠ (v488 : Value).ownBlock ∧ some k_ ≠ (v491 : Value).ownBlock ∧ some k_ ≠ (v495 : Value).ownBlock ∧ some k_ ≠ (v498 : Value).ownBlock ∧ some k_ ≠ (.slice Ao10 x5_1.length co10 : Value).ownBlock) v502 y501) := ⟨h4_⟩
         have n5_ : Aside0 (Kd.R (Kd.int .i64) 2 w22 w.heap.size (fun k_ => some k_ ≠ (v488 : Value).ownBlock ∧ some k_ ≠ (v491 : Value).ownBlock ∧ some k_ ≠ (v495 : Value).ownBlock ∧ some k_ ≠ (v498 : Value).ownBlock ∧ some k_ ≠ (v502 : Value).ownBlock) (.slice Ao10 x5_1.length co10) x5_1) := ⟨h5_⟩
         have n6_ : Aside0 (Below w.heap.size w w22) := ⟨h6_⟩
         clear HO_3
         clear HO_4
         clear HO_5
         clear HB
         clear h0_ h1_ h2_ h3_ h4_ h5_ h6_
         have HO489 := n0_
         have HO492 := n1_
         have HO496 := n2_
         have HO499 := n3_
         have HO503 := n4_
         have HO_5 := n5_
         have HB := n6_
         clear n0_ n1_ n2_ n3_ n4_ n5_ n6_
         have hHeld : w22.cell? (ad486.add ((x6_1).toNat * 2)) = some (.int .i16 ((rd_T47 l0 x6_1).f0)) ∧ w22.cell? ⟨(ad486.add ((x6_1).toNat * 2)).block, (ad486.add ((x6_1).toNat * 2)).off + 1, none⟩ = some (.int .i16 ((rd_T47 l0 x6_1).f1)) ∧ w22.cell? (ad486.add ((x6_1).toNat * 2)) = some (.int .i16 ((rd_T47 l0 x6_1).f0)) ∧ w22.cell? ⟨(ad486.add ((x6_1).toNat * 2)).block, (ad486.add ((x6_1).toNat * 2)).off + 1, none⟩ = some (.int .i16 ((rd_T47 l0 x6_1).f1)) ∧ w22.cell? (ad486.add ((x6_1).toNat * 2)) = some (.int .i16 ((rd_T47 l0 x6_1).f0)) ∧ w22.cell? ⟨(ad486.add ((x6_1).toNat * 2)).block, (ad486.add ((x6_1).toNat * 2)).off + 1, none⟩ = some (.int .i16 ((rd_T47 l0 x6_1).f1)) := hS_
         obtain ⟨Ao24, co24, eo24⟩ := Kd.R_slice HO503.out
         (first | subst eo24 | (injection eo24 with f1_ f2_ f3_; have f4_ := f1_.symm; have f5_ := f3_.symm; clear f1_ f2_ f3_; subst f4_; subst f5_))
         refine norm_ (a' := ?_) ?_ ?_
         rotate_left
         ·simp only [putAll, Act.put, List.setIfInBounds_toArray, List.set_cons_zero, List.set_cons_succ]
          rfl
         refine one_ (i := 27) (N := some 45) (bl 31 268435455) rfl rfl (one_of HT_.out (by kernel_rfl)) (by decide) (fun K hK => ?_)
         refine Kd.R_append_rows_step (Kd.int .i64) (w0 := w) w.heap.size (by rfl) (.tmp 36) (.tmp 44) 22 2 (.int .i64 0) 8 rfl Try.underlying22 info2 rfl (by decide) (by omega) (.slice Ao10 x5_1.length co10) x5_1 y501 _ _ _ (fun k_ => some k_ ≠ (v488 : Value).ownBlock ∧ some k_ ≠ (v491 : Value).ownBlock ∧ some k_ ≠ (v495 : Value).ownBlock ∧ some k_ ≠ (v498 : Value).ownBlock ∧ some k_ ≠ (.slice Ao24 y501.length co24 : Value).ownBlock) (fun _ => False) rfl rfl ?aO ?aR (fun _ _ h => h) (fun _ h => h.elim) ?aF ?aB ?aS ?aL ?_
         (case aR => repeat (first | exact (Kd.R_reads' HO503.out).2.2 | (with_reducible refine Kd.C_alloc ?_ _) | (with_reducible refine Kd.C_drewN ?_ _) | (with_reducible refine Kd.C_drew ?_)))
         (case aB => exact (by repeat (first | (with_reducible first | exact HB.out | apply below_alloc | apply pw_below_drewN | apply below_drew1) | exact HB.out)))
         (case aF => exact (fun k_ hk => ⟨Kd.fresh' (Kd.R_lt (by (with_reducible repeat (first | apply Kd.R_alloc | apply Kd.R_drewN | apply Kd.R_drew)); exact HO489.out)) k_ hk, Kd.fresh' (Kd.R_lt (by (with_reducible repeat (first | apply Kd.R_alloc | apply Kd.R_drewN | apply Kd.R_drew)); exact HO492.out)) k_ hk, Kd.fresh' (Kd.R_lt (by (with_reducible repeat (first | apply Kd.R_alloc | apply Kd.R_drewN | apply Kd.R_drew)); exact HO496.out)) k_ hk, Kd.fresh' (Kd.R_lt (by (with_reducible repeat (first | apply Kd.R_alloc | apply Kd.R_drewN | apply Kd.R_drew)); exact HO499.out)) k_ hk, Kd.fresh' (Kd.R_lt (by (with_reducible repeat (first | apply Kd.R_alloc | apply Kd.R_drewN | apply Kd.R_drew)); exact HO503.out)) k_ hk⟩))
         (case aO => exact (by (with_reducible repeat (first | apply Kd.R_alloc | apply Kd.R_drewN | apply Kd.R_drew)); exact HO_5.out))
         (case aS => exact (below_size (by repeat (first | (with_reducible first | exact HB.out | apply below_alloc | apply pw_below_drewN | apply below_drew1) | exact HB.out))))
         (case aL => have := LMc7.out; omega)
         intro v505 w23 ho hb hg hat
         rw [← Ny504.out] at ho
         have n0_ := Aside0.mk (Kd.R_after (ok := (fun k_ => some k_ ≠ (v491 : Value).ownBlock ∧ some k_ ≠ (v495 : Value).ownBlock ∧ some k_ ≠ (v498 : Value).ownBlock ∧ some k_ ≠ (.slice Ao24 y501.length co24 : Value).ownBlock)) (by (with_reducible repeat (first | apply Kd.R_alloc | apply Kd.R_drewN | apply Kd.R_drew)); exact Kd.R_mono HO489.out (fun _ hk => ⟨⟨hk.1, ⟨hk.2.1, ⟨hk.2.2.1, hk.2.2.2.1⟩⟩⟩, hk.2.2.2.2⟩)) hg hat)
         have n1_ := Aside0.mk (Kd.R_after (ok := (fun k_ => some k_ ≠ (v488 : Value).ownBlock ∧ some k_ ≠ (v495 : Value).ownBlock ∧ some k_ ≠ (v498 : Value).ownBlock ∧ some k_ ≠ (.slice Ao24 y501.length co24 : Value).ownBlock)) (by (with_reducible repeat (first | apply Kd.R_alloc | apply Kd.R_drewN | apply Kd.R_drew)); exact Kd.R_mono HO492.out (fun _ hk => ⟨⟨hk.1, ⟨hk.2.1, ⟨hk.2.2.1, hk.2.2.2.1⟩⟩⟩, hk.2.2.2.2⟩)) hg hat)
         have n2_ := Aside0.mk (Kd.R_after (ok := (fun k_ => some k_ ≠ (v488 : Value).ownBlock ∧ some k_ ≠ (v491 : Value).ownBlock ∧ some k_ ≠ (v498 : Value).ownBlock ∧ some k_ ≠ (.slice Ao24 y501.length co24 : Value).ownBlock)) (by (with_reducible repeat (first | apply Kd.R_alloc | apply Kd.R_drewN | apply Kd.R_drew)); exact Kd.R_mono HO496.out (fun _ hk => ⟨⟨hk.1, ⟨hk.2.1, ⟨hk.2.2.1, hk.2.2.2.1⟩⟩⟩, hk.2.2.2.2⟩)) hg hat)
         have n3_ := Aside0.mk (Kd.R_after (ok := (fun k_ => some k_ ≠ (v488 : Value).ownBlock ∧ some k_ ≠ (v491 : Value).ownBlock ∧ some k_ ≠ (v495 : Value).ownBlock ∧ some k_ ≠ (.slice Ao24 y501.length co24 : Value).ownBlock)) (by (with_reducible repeat (first | apply Kd.R_alloc | apply Kd.R_drewN | apply Kd.R_drew)); exact Kd.R_mono HO499.out (fun _ hk => ⟨⟨hk.1, ⟨hk.2.1, ⟨hk.2.2.1, hk.2.2.2.1⟩⟩⟩, hk.2.2.2.2⟩)) hg hat)
         have n4_ := Aside0.mk (Kd.R_after (ok := (fun k_ => some k_ ≠ (v488 : Value).ownBlock ∧ some k_ ≠ (v491 : Value).ownBlock ∧ some k_ ≠ (v495 : Value).ownBlock ∧ some k_ ≠ (v498 : Value).ownBlock)) (by (with_reducible repeat (first | apply Kd.R_alloc | apply Kd.R_drewN | apply Kd.R_drew)); exact Kd.R_mono HO503.out (fun _ hk => ⟨⟨hk.1, ⟨hk.2.1, ⟨hk.2.2.1, hk.2.2.2.1⟩⟩⟩, hk.2.2.2.2⟩)) hg hat)
         have n5_ := Aside0.mk (hb)
         have n6_ := Aside0.mk (ho)
         clear HO489
         clear HO492
         clear HO496
         clear HO499
         clear HO503
         clear HB
         clear HO_5
         have HO489 := n0_
         have HO492 := n1_
         have HO496 := n2_
         have HO499 := n3_
         have HO503 := n4_
         have HB := n5_
         have HO506 := n6_
         clear n0_ n1_ n2_ n3_ n4_ n5_ n6_
         clear ho hb hg hat
         refine hK.out _ _ ⟨((HB.out.cell (World.block_lt_of_cell? w _ hw486_0)).trans hw486_0), ((HB.out.cell (World.block_lt_of_cell? w _ hw486_1)).trans hw486_1), ((HB.out.cell (World.block_lt_of_cell? w _ hw493_0)).trans hw493_0), ((HB.out.cell (World.block_lt_of_cell? w _ hw493_1)).trans hw493_1), ((HB.out.cell (World.block_lt_of_cell? w _ hw500_0)).trans hw500_0), ((HB.out.cell (World.block_lt_of_cell? w _ hw500_1)).trans hw500_1)⟩ (fun hHeld => ?_)
         clear hK K
         refine norm_ (a' := ?_) ?_ ?_
         rotate_left
         ·show Act.put _ (some 45) _ = _
          simp only [puts_]
          rfl
         refine pure_ (i := 28) (N := some 3) (v := ?_) (a' := ?_) (bl 31 536870911) rfl rfl (any_of HT_.out (by kernel_rfl)) (fun _ _ _ h => h) (Or.inl ⟨by rfl, ?_⟩) ?_ ?_
         rotate_left
         ·intro w'
          go_simp
          with_reducible rfl
         rotate_left
         ·simp only [puts_]
          rfl
         refine pure_ (i := 29) (N := some 4) (v := ?_) (a' := ?_) (bl 31 1073741823) rfl rfl (any_of HT_.out (by kernel_rfl)) (fun _ _ _ h => h) (Or.inl ⟨by rfl, ?_⟩) ?_ ?_
         rotate_left
         ·intro w'
          go_simp
          with_reducible rfl
         rotate_left
         ·simp only [puts_]
          rfl
         refine pure_ (i := 30) (N := some 5) (v := ?_) (a' := ?_) (bl 31 2147483647) rfl rfl (any_of HT_.out (by kernel_rfl)) (fun _ _ _ h => h) (Or.inl ⟨by rfl, ?_⟩) ?_ ?_
         rotate_left
         ·intro w'
          go_simp
          with_reducible rfl
         rotate_left
         ·simp only [puts_]
          rfl
         refine done_ (done_of HT_.out (by kernel_rfl)) ?_
         try go_wp2
         go_roundg k1
         case measure => have := HK1.out; omega
         case rel => exact ⟨(y490), (y497), (y504), (wrap64 (x6_1 + 1)), (by first | rfl | (simp; done) | (simp [*]; done)), H', ⟨by have := HK1.out; omega⟩, ⟨by (with_reducible repeat (first | apply Kd.R_alloc | apply Kd.R_drewN | apply Kd.R_drew)); exact Kd.R_mono HO492.out (fun _ hk => ⟨hk.1.2.2.1, hk.2⟩)⟩, ⟨by (with_reducible repeat (first | apply Kd.R_alloc | apply Kd.R_drewN | apply Kd.R_drew)); exact Kd.R_mono HO499.out (fun _ hk => ⟨hk.1.2.1, hk.2⟩)⟩, ⟨by (with_reducible repeat (first | apply Kd.R_alloc | apply Kd.R_drewN | apply Kd.R_drew)); exact Kd.R_mono HO506.out (fun _ hk => ⟨hk.2.1, hk.2.2.2.1⟩)⟩, ⟨by repeat (first | (with_reducible first | exact HB.out | apply below_alloc | apply pw_below_drewN | apply below_drew1) | exact HB.out)⟩⟩
        ·rw [if_neg c7] at H
         exact absurd H (by simp)
       ·rw [if_neg c6] at H
        exact absurd H (by simp)
      ·rw [if_neg c5] at H
       exact absurd H (by simp)
     ·rw [if_neg c4] at H
      exact absurd H (by simp)
    ·rw [if_neg c3] at H
     have c3b0 : decide (x6_1 < 64) = false := decide_eq_false c3
     clear c3
     replace H := Option.bind_eq_some_iff.mp H
     obtain ⟨t507, A250, H⟩ := H
     replace H : ((trend_Line.f k1 x3_1 x4_1).bind fun t508 => (if (wrap64 (t507 - (wrap64 (2 * t508)))) ≥ (-1) then (if (wrap64 (t507 - (wrap64 (2 * t508)))) ≤ 1 then ((flywheellaw17_wakes.f k1).bind fun t509 => (some t509)) else (some false)) else (some false))) = some r := H
     have A25 := Aside0.mk A250
     clear A250
     replace H := Option.bind_eq_some_iff.mp H
     obtain ⟨t508, A260, H⟩ := H
     replace H : (if (wrap64 (t507 - (wrap64 (2 * t508)))) ≥ (-1) then (if (wrap64 (t507 - (wrap64 (2 * t508)))) ≤ 1 then ((flywheellaw17_wakes.f k1).bind fun t509 => (some t509)) else (some false)) else (some false)) = some r := H
     have A26 := Aside0.mk A260
     clear A260
     by_cases c27 : (wrap64 (t507 - (wrap64 (2 * t508)))) ≥ (-1)
     ·rw [if_pos c27] at H
      have c27b0 : decide ((-1) ≤ (wrap64 (t507 - (wrap64 (2 * t508))))) = true := decide_eq_true c27
      clear c27
      by_cases c28 : (wrap64 (t507 - (wrap64 (2 * t508)))) ≤ 1
      ·rw [if_pos c28] at H
       have c28b0 : decide ((wrap64 (t507 - (wrap64 (2 * t508)))) ≤ 1) = true := decide_eq_true c28
       clear c28
       replace H := Option.bind_eq_some_iff.mp H
       obtain ⟨t509, A290, H⟩ := H
       replace H : (some t509) = some r := H
       have A29 := Aside0.mk A290
       clear A290
       obtain rfl := Option.some.inj H
       obtain ⟨Ao30, co30, eo30⟩ := Kd.R_slice HO_3.out
       subst eo30
       obtain ⟨Ao31, co31, eo31⟩ := Kd.R_slice HO_5.out
       subst eo31
       go_wp2_with (first | ((with_reducible refine gate_callee (f := 11) rfl ?_); refine goesL_ (some 48) rfl rfl Try.func11 (by kernel_rfl) rfl #[.slice Ao30 x3_1.length co30, .slice Ao31 x5_1.length co31] rfl (by (try simp only [List.map_toArray, List.map_cons, List.map_nil]); first | done | rfl | (simp only [List.length_drop, List.length_take]; rfl)) ?_; (with_reducible refine (trend_Line.calls k1 _ _ x3_1 _ _ x5_1 t507 _ ?side1 ?side2 ?side3 ?side4 A25.out).mono ?_); (case side1 => repeat (first | exact (Kd.R_reads' HO_3.out).2.2 | (with_reducible refine Kd.C_alloc ?_ _) | (with_reducible refine Kd.C_drewN ?_ _) | (with_reducible refine Kd.C_drew ?_))); (case side2 => exact (Kd.R_reads' HO_3.out).2.1); (case side3 => repeat (first | exact (Kd.R_reads' HO_5.out).2.2 | (with_reducible refine Kd.C_alloc ?_ _) | (with_reducible refine Kd.C_drewN ?_ _) | (with_reducible refine Kd.C_drew ?_))); (case side4 => exact (Kd.R_reads' HO_5.out).2.1); rintro e w32 ⟨rfl, hb⟩; refine ⟨_, rfl, ?_⟩; have n0_ := Aside0.mk (Kd.R_below (by (with_reducible repeat (first | apply Kd.R_alloc | apply Kd.R_drewN | apply Kd.R_drew)); exact HO_3.out) hb); have n1_ := Aside0.mk (Kd.R_below (by (with_reducible repeat (first | apply Kd.R_alloc | apply Kd.R_drewN | apply Kd.R_drew)); exact HO_4.out) hb); have n2_ := Aside0.mk (Kd.R_below (by (with_reducible repeat (first | apply Kd.R_alloc | apply Kd.R_drewN | apply Kd.R_drew)); exact HO_5.out) hb); have n3_ := Aside0.mk (below_step (by repeat (first | (with_reducible first | exact HB.out | apply below_alloc | apply pw_below_drewN | apply below_drew1) | exact HB.out)) hb); clear HO_3; clear HO_4; clear HO_5; clear HB; have HO_3 := n0_; have HO_4 := n1_; have HO_5 := n2_; have HB := n3_; clear n0_ n1_ n2_ n3_; (try clear hb); (try clear hb2); (try clear hk); (try clear hi); obtain ⟨Ao33, co33, eo33⟩ := Kd.R_slice HO_4.out; subst eo33) | ((with_reducible refine gate_callee (f := 11) rfl ?_); refine goesL_ (some 51) rfl rfl Try.func11 (by kernel_rfl) rfl #[.slice Ao30 x3_1.length co30, .slice Ao33 x4_1.length co33] rfl (by (try simp only [List.map_toArray, List.map_cons, List.map_nil]); first | done | rfl | (simp only [List.length_drop, List.length_take]; rfl)) ?_; (with_reducible refine (trend_Line.calls k1 _ _ x3_1 _ _ x4_1 t508 _ ?side1 ?side2 ?side3 ?side4 A26.out).mono ?_); (case side1 => repeat (first | exact (Kd.R_reads' HO_3.out).2.2 | (with_reducible refine Kd.C_alloc ?_ _) | (with_reducible refine Kd.C_drewN ?_ _) | (with_reducible refine Kd.C_drew ?_))); (case side2 => exact (Kd.R_reads' HO_3.out).2.1); (case side3 => repeat (first | exact (Kd.R_reads' HO_4.out).2.2 | (with_reducible refine Kd.C_alloc ?_ _) | (with_reducible refine Kd.C_drewN ?_ _) | (with_reducible refine Kd.C_drew ?_))); (case side4 => exact (Kd.R_reads' HO_4.out).2.1); rintro e w34 ⟨rfl, hb⟩; refine ⟨_, rfl, ?_⟩; have n0_ := Aside0.mk (Kd.R_below (by (with_reducible repeat (first | apply Kd.R_alloc | apply Kd.R_drewN | apply Kd.R_drew)); exact HO_3.out) hb); have n1_ := Aside0.mk (Kd.R_below (by (with_reducible repeat (first | apply Kd.R_alloc | apply Kd.R_drewN | apply Kd.R_drew)); exact HO_4.out) hb); have n2_ := Aside0.mk (Kd.R_below (by (with_reducible repeat (first | apply Kd.R_alloc | apply Kd.R_drewN | apply Kd.R_drew)); exact HO_5.out) hb); have n3_ := Aside0.mk (below_step (by repeat (first | (with_reducible first | exact HB.out | apply below_alloc | apply pw_below_drewN | apply below_drew1) | exact HB.out)) hb); clear HO_3; clear HO_4; clear HO_5; clear HB; have HO_3 := n0_; have HO_4 := n1_; have HO_5 := n2_; have HB := n3_; clear n0_ n1_ n2_ n3_; (try clear hb); (try clear hb2); (try clear hk); (try clear hi)) | (go_at_call 10; (with_reducible refine (flywheellaw17_wakes.calls k1  t509 _ A29.out).mono ?_); rintro e w35 ⟨rfl, hb⟩; have n0_ := Aside0.mk (Kd.R_below (by (with_reducible repeat (first | apply Kd.R_alloc | apply Kd.R_drewN | apply Kd.R_drew)); exact HO_3.out) hb); have n1_ := Aside0.mk (Kd.R_below (by (with_reducible repeat (first | apply Kd.R_alloc | apply Kd.R_drewN | apply Kd.R_drew)); exact HO_4.out) hb); have n2_ := Aside0.mk (Kd.R_below (by (with_reducible repeat (first | apply Kd.R_alloc | apply Kd.R_drewN | apply Kd.R_drew)); exact HO_5.out) hb); have n3_ := Aside0.mk (below_step (by repeat (first | (with_reducible first | exact HB.out | apply below_alloc | apply pw_below_drewN | apply below_drew1) | exact HB.out)) hb); clear HO_3; clear HO_4; clear HO_5; clear HB; have HO_3 := n0_; have HO_4 := n1_; have HO_5 := n2_; have HB := n3_; clear n0_ n1_ n2_ n3_; (try clear hb); (try clear hb2); (try clear hk); (try clear hi)))
       go_ret
       exact ⟨by first | rfl | (simp [errW_none, errW_some] <;> rfl) | (simp [*, errW_none, errW_some] <;> rfl), by repeat (first | (with_reducible first | exact HB.out | apply below_alloc | apply pw_below_drewN | apply below_drew1) | exact HB.out)⟩
      ·rw [if_neg c28] at H
       have c28b0 : decide ((wrap64 (t507 - (wrap64 (2 * t508)))) ≤ 1) = false := decide_eq_false c28
       clear c28
       obtain rfl := Option.some.inj H
       obtain ⟨Ao36, co36, eo36⟩ := Kd.R_slice HO_3.out
       subst eo36
       obtain ⟨Ao37, co37, eo37⟩ := Kd.R_slice HO_5.out
       subst eo37
       go_wp2_with (first | ((with_reducible refine gate_callee (f := 11) rfl ?_); refine goesL_ (some 48) rfl rfl Try.func11 (by kernel_rfl) rfl #[.slice Ao36 x3_1.length co36, .slice Ao37 x5_1.length co37] rfl (by (try simp only [List.map_toArray, List.map_cons, List.map_nil]); first | done | rfl | (simp only [List.length_drop, List.length_take]; rfl)) ?_; (with_reducible refine (trend_Line.calls k1 _ _ x3_1 _ _ x5_1 t507 _ ?side1 ?side2 ?side3 ?side4 A25.out).mono ?_); (case side1 => repeat (first | exact (Kd.R_reads' HO_3.out).2.2 | (with_reducible refine Kd.C_alloc ?_ _) | (with_reducible refine Kd.C_drewN ?_ _) | (with_reducible refine Kd.C_drew ?_))); (case side2 => exact (Kd.R_reads' HO_3.out).2.1); (case side3 => repeat (first | exact (Kd.R_reads' HO_5.out).2.2 | (with_reducible refine Kd.C_alloc ?_ _) | (with_reducible refine Kd.C_drewN ?_ _) | (with_reducible refine Kd.C_drew ?_))); (case side4 => exact (Kd.R_reads' HO_5.out).2.1); rintro e w38 ⟨rfl, hb⟩; refine ⟨_, rfl, ?_⟩; have n0_ := Aside0.mk (Kd.R_below (by (with_reducible repeat (first | apply Kd.R_alloc | apply Kd.R_drewN | apply Kd.R_drew)); exact HO_3.out) hb); have n1_ := Aside0.mk (Kd.R_below (by (with_reducible repeat (first | apply Kd.R_alloc | apply Kd.R_drewN | apply Kd.R_drew)); exact HO_4.out) hb); have n2_ := Aside0.mk (Kd.R_below (by (with_reducible repeat (first | apply Kd.R_alloc | apply Kd.R_drewN | apply Kd.R_drew)); exact HO_5.out) hb); have n3_ := Aside0.mk (below_step (by repeat (first | (with_reducible first | exact HB.out | apply below_alloc | apply pw_below_drewN | apply below_drew1) | exact HB.out)) hb); clear HO_3; clear HO_4; clear HO_5; clear HB; have HO_3 := n0_; have HO_4 := n1_; have HO_5 := n2_; have HB := n3_; clear n0_ n1_ n2_ n3_; (try clear hb); (try clear hb2); (try clear hk); (try clear hi); obtain ⟨Ao39, co39, eo39⟩ := Kd.R_slice HO_4.out; subst eo39) | ((with_reducible refine gate_callee (f := 11) rfl ?_); refine goesL_ (some 51) rfl rfl Try.func11 (by kernel_rfl) rfl #[.slice Ao36 x3_1.length co36, .slice Ao39 x4_1.length co39] rfl (by (try simp only [List.map_toArray, List.map_cons, List.map_nil]); first | done | rfl | (simp only [List.length_drop, List.length_take]; rfl)) ?_; (with_reducible refine (trend_Line.calls k1 _ _ x3_1 _ _ x4_1 t508 _ ?side1 ?side2 ?side3 ?side4 A26.out).mono ?_); (case side1 => repeat (first | exact (Kd.R_reads' HO_3.out).2.2 | (with_reducible refine Kd.C_alloc ?_ _) | (with_reducible refine Kd.C_drewN ?_ _) | (with_reducible refine Kd.C_drew ?_))); (case side2 => exact (Kd.R_reads' HO_3.out).2.1); (case side3 => repeat (first | exact (Kd.R_reads' HO_4.out).2.2 | (with_reducible refine Kd.C_alloc ?_ _) | (with_reducible refine Kd.C_drewN ?_ _) | (with_reducible refine Kd.C_drew ?_))); (case side4 => exact (Kd.R_reads' HO_4.out).2.1); rintro e w40 ⟨rfl, hb⟩; refine ⟨_, rfl, ?_⟩; have n0_ := Aside0.mk (Kd.R_below (by (with_reducible repeat (first | apply Kd.R_alloc | apply Kd.R_drewN | apply Kd.R_drew)); exact HO_3.out) hb); have n1_ := Aside0.mk (Kd.R_below (by (with_reducible repeat (first | apply Kd.R_alloc | apply Kd.R_drewN | apply Kd.R_drew)); exact HO_4.out) hb); have n2_ := Aside0.mk (Kd.R_below (by (with_reducible repeat (first | apply Kd.R_alloc | apply Kd.R_drewN | apply Kd.R_drew)); exact HO_5.out) hb); have n3_ := Aside0.mk (below_step (by repeat (first | (with_reducible first | exact HB.out | apply below_alloc | apply pw_below_drewN | apply below_drew1) | exact HB.out)) hb); clear HO_3; clear HO_4; clear HO_5; clear HB; have HO_3 := n0_; have HO_4 := n1_; have HO_5 := n2_; have HB := n3_; clear n0_ n1_ n2_ n3_; (try clear hb); (try clear hb2); (try clear hk); (try clear hi)))
       go_ret
       exact ⟨by first | rfl | (simp [errW_none, errW_some] <;> rfl) | (simp [*, errW_none, errW_some] <;> rfl), by repeat (first | (with_reducible first | exact HB.out | apply below_alloc | apply pw_below_drewN | apply below_drew1) | exact HB.out)⟩
     ·rw [if_neg c27] at H
      have c27b0 : decide ((-1) ≤ (wrap64 (t507 - (wrap64 (2 * t508))))) = false := decide_eq_false c27
      clear c27
      obtain rfl := Option.some.inj H
      obtain ⟨Ao41, co41, eo41⟩ := Kd.R_slice HO_3.out
      subst eo41
      obtain ⟨Ao42, co42, eo42⟩ := Kd.R_slice HO_5.out
      subst eo42
      go_wp2_with (first | ((with_reducible refine gate_callee (f := 11) rfl ?_); refine goesL_ (some 48) rfl rfl Try.func11 (by kernel_rfl) rfl #[.slice Ao41 x3_1.length co41, .slice Ao42 x5_1.length co42] rfl (by (try simp only [List.map_toArray, List.map_cons, List.map_nil]); first | done | rfl | (simp only [List.length_drop, List.length_take]; rfl)) ?_; (with_reducible refine (trend_Line.calls k1 _ _ x3_1 _ _ x5_1 t507 _ ?side1 ?side2 ?side3 ?side4 A25.out).mono ?_); (case side1 => repeat (first | exact (Kd.R_reads' HO_3.out).2.2 | (with_reducible refine Kd.C_alloc ?_ _) | (with_reducible refine Kd.C_drewN ?_ _) | (with_reducible refine Kd.C_drew ?_))); (case side2 => exact (Kd.R_reads' HO_3.out).2.1); (case side3 => repeat (first | exact (Kd.R_reads' HO_5.out).2.2 | (with_reducible refine Kd.C_alloc ?_ _) | (with_reducible refine Kd.C_drewN ?_ _) | (with_reducible refine Kd.C_drew ?_))); (case side4 => exact (Kd.R_reads' HO_5.out).2.1); rintro e w43 ⟨rfl, hb⟩; refine ⟨_, rfl, ?_⟩; have n0_ := Aside0.mk (Kd.R_below (by (with_reducible repeat (first | apply Kd.R_alloc | apply Kd.R_drewN | apply Kd.R_drew)); exact HO_3.out) hb); have n1_ := Aside0.mk (Kd.R_below (by (with_reducible repeat (first | apply Kd.R_alloc | apply Kd.R_drewN | apply Kd.R_drew)); exact HO_4.out) hb); have n2_ := Aside0.mk (Kd.R_below (by (with_reducible repeat (first | apply Kd.R_alloc | apply Kd.R_drewN | apply Kd.R_drew)); exact HO_5.out) hb); have n3_ := Aside0.mk (below_step (by repeat (first | (with_reducible first | exact HB.out | apply below_alloc | apply pw_below_drewN | apply below_drew1) | exact HB.out)) hb); clear HO_3; clear HO_4; clear HO_5; clear HB; have HO_3 := n0_; have HO_4 := n1_; have HO_5 := n2_; have HB := n3_; clear n0_ n1_ n2_ n3_; (try clear hb); (try clear hb2); (try clear hk); (try clear hi); obtain ⟨Ao44, co44, eo44⟩ := Kd.R_slice HO_4.out; subst eo44) | ((with_reducible refine gate_callee (f := 11) rfl ?_); refine goesL_ (some 51) rfl rfl Try.func11 (by kernel_rfl) rfl #[.slice Ao41 x3_1.length co41, .slice Ao44 x4_1.length co44] rfl (by (try simp only [List.map_toArray, List.map_cons, List.map_nil]); first | done | rfl | (simp only [List.length_drop, List.length_take]; rfl)) ?_; (with_reducible refine (trend_Line.calls k1 _ _ x3_1 _ _ x4_1 t508 _ ?side1 ?side2 ?side3 ?side4 A26.out).mono ?_); (case side1 => repeat (first | exact (Kd.R_reads' HO_3.out).2.2 | (with_reducible refine Kd.C_alloc ?_ _) | (with_reducible refine Kd.C_drewN ?_ _) | (with_reducible refine Kd.C_drew ?_))); (case side2 => exact (Kd.R_reads' HO_3.out).2.1); (case side3 => repeat (first | exact (Kd.R_reads' HO_4.out).2.2 | (with_reducible refine Kd.C_alloc ?_ _) | (with_reducible refine Kd.C_drewN ?_ _) | (with_reducible refine Kd.C_drew ?_))); (case side4 => exact (Kd.R_reads' HO_4.out).2.1); rintro e w45 ⟨rfl, hb⟩; refine ⟨_, rfl, ?_⟩; have n0_ := Aside0.mk (Kd.R_below (by (with_reducible repeat (first | apply Kd.R_alloc | apply Kd.R_drewN | apply Kd.R_drew)); exact HO_3.out) hb); have n1_ := Aside0.mk (Kd.R_below (by (with_reducible repeat (first | apply Kd.R_alloc | apply Kd.R_drewN | apply Kd.R_drew)); exact HO_4.out) hb); have n2_ := Aside0.mk (Kd.R_below (by (with_reducible repeat (first | apply Kd.R_alloc | apply Kd.R_drewN | apply Kd.R_drew)); exact HO_5.out) hb); have n3_ := Aside0.mk (below_step (by repeat (first | (with_reducible first | exact HB.out | apply below_alloc | apply pw_below_drewN | apply below_drew1) | exact HB.out)) hb); clear HO_3; clear HO_4; clear HO_5; clear HB; have HO_3 := n0_; have HO_4 := n1_; have HO_5 := n2_; have HB := n3_; clear n0_ n1_ n2_ n3_; (try clear hb); (try clear hb2); (try clear hk); (try clear hi)))
      go_ret
      exact ⟨by first | rfl | (simp [errW_none, errW_some] <;> rfl) | (simp [*, errW_none, errW_some] <;> rfl), by repeat (first | (with_reducible first | exact HB.out | apply below_alloc | apply pw_below_drewN | apply below_drew1) | exact HB.out)⟩
   ·rw [if_neg c2] at H
    have c2b0 : decide (x6_1 < (l0.length : Int)) = false := decide_eq_false c2
    clear c2
    replace H := Option.bind_eq_some_iff.mp H
    obtain ⟨t510, A460, H⟩ := H
    replace H : ((trend_Line.f k1 x3_1 x4_1).bind fun t511 => (if (wrap64 (t510 - (wrap64 (2 * t511)))) ≥ (-1) then (if (wrap64 (t510 - (wrap64 (2 * t511)))) ≤ 1 then ((flywheellaw17_wakes.f k1).bind fun t512 => (some t512)) else (some false)) else (some false))) = some r := H
    have A46 := Aside0.mk A460
    clear A460
    replace H := Option.bind_eq_some_iff.mp H
    obtain ⟨t511, A470, H⟩ := H
    replace H : (if (wrap64 (t510 - (wrap64 (2 * t511)))) ≥ (-1) then (if (wrap64 (t510 - (wrap64 (2 * t511)))) ≤ 1 then ((flywheellaw17_wakes.f k1).bind fun t512 => (some t512)) else (some false)) else (some false)) = some r := H
    have A47 := Aside0.mk A470
    clear A470
    by_cases c48 : (wrap64 (t510 - (wrap64 (2 * t511)))) ≥ (-1)
    ·rw [if_pos c48] at H
     have c48b0 : decide ((-1) ≤ (wrap64 (t510 - (wrap64 (2 * t511))))) = true := decide_eq_true c48
     clear c48
     by_cases c49 : (wrap64 (t510 - (wrap64 (2 * t511)))) ≤ 1
     ·rw [if_pos c49] at H
      have c49b0 : decide ((wrap64 (t510 - (wrap64 (2 * t511)))) ≤ 1) = true := decide_eq_true c49
      clear c49
      replace H := Option.bind_eq_some_iff.mp H
      obtain ⟨t512, A500, H⟩ := H
      replace H : (some t512) = some r := H
      have A50 := Aside0.mk A500
      clear A500
      obtain rfl := Option.some.inj H
      obtain ⟨Ao51, co51, eo51⟩ := Kd.R_slice HO_3.out
      subst eo51
      obtain ⟨Ao52, co52, eo52⟩ := Kd.R_slice HO_5.out
      subst eo52
      go_wp2_with (first | ((with_reducible refine gate_callee (f := 11) rfl ?_); refine goesL_ (some 48) rfl rfl Try.func11 (by kernel_rfl) rfl #[.slice Ao51 x3_1.length co51, .slice Ao52 x5_1.length co52] rfl (by (try simp only [List.map_toArray, List.map_cons, List.map_nil]); first | done | rfl | (simp only [List.length_drop, List.length_take]; rfl)) ?_; (with_reducible refine (trend_Line.calls k1 _ _ x3_1 _ _ x5_1 t510 _ ?side1 ?side2 ?side3 ?side4 A46.out).mono ?_); (case side1 => repeat (first | exact (Kd.R_reads' HO_3.out).2.2 | (with_reducible refine Kd.C_alloc ?_ _) | (with_reducible refine Kd.C_drewN ?_ _) | (with_reducible refine Kd.C_drew ?_))); (case side2 => exact (Kd.R_reads' HO_3.out).2.1); (case side3 => repeat (first | exact (Kd.R_reads' HO_5.out).2.2 | (with_reducible refine Kd.C_alloc ?_ _) | (with_reducible refine Kd.C_drewN ?_ _) | (with_reducible refine Kd.C_drew ?_))); (case side4 => exact (Kd.R_reads' HO_5.out).2.1); rintro e w53 ⟨rfl, hb⟩; refine ⟨_, rfl, ?_⟩; have n0_ := Aside0.mk (Kd.R_below (by (with_reducible repeat (first | apply Kd.R_alloc | apply Kd.R_drewN | apply Kd.R_drew)); exact HO_3.out) hb); have n1_ := Aside0.mk (Kd.R_below (by (with_reducible repeat (first | apply Kd.R_alloc | apply Kd.R_drewN | apply Kd.R_drew)); exact HO_4.out) hb); have n2_ := Aside0.mk (Kd.R_below (by (with_reducible repeat (first | apply Kd.R_alloc | apply Kd.R_drewN | apply Kd.R_drew)); exact HO_5.out) hb); have n3_ := Aside0.mk (below_step (by repeat (first | (with_reducible first | exact HB.out | apply below_alloc | apply pw_below_drewN | apply below_drew1) | exact HB.out)) hb); clear HO_3; clear HO_4; clear HO_5; clear HB; have HO_3 := n0_; have HO_4 := n1_; have HO_5 := n2_; have HB := n3_; clear n0_ n1_ n2_ n3_; (try clear hb); (try clear hb2); (try clear hk); (try clear hi); obtain ⟨Ao54, co54, eo54⟩ := Kd.R_slice HO_4.out; subst eo54) | ((with_reducible refine gate_callee (f := 11) rfl ?_); refine goesL_ (some 51) rfl rfl Try.func11 (by kernel_rfl) rfl #[.slice Ao51 x3_1.length co51, .slice Ao54 x4_1.length co54] rfl (by (try simp only [List.map_toArray, List.map_cons, List.map_nil]); first | done | rfl | (simp only [List.length_drop, List.length_take]; rfl)) ?_; (with_reducible refine (trend_Line.calls k1 _ _ x3_1 _ _ x4_1 t511 _ ?side1 ?side2 ?side3 ?side4 A47.out).mono ?_); (case side1 => repeat (first | exact (Kd.R_reads' HO_3.out).2.2 | (with_reducible refine Kd.C_alloc ?_ _) | (with_reducible refine Kd.C_drewN ?_ _) | (with_reducible refine Kd.C_drew ?_))); (case side2 => exact (Kd.R_reads' HO_3.out).2.1); (case side3 => repeat (first | exact (Kd.R_reads' HO_4.out).2.2 | (with_reducible refine Kd.C_alloc ?_ _) | (with_reducible refine Kd.C_drewN ?_ _) | (with_reducible refine Kd.C_drew ?_))); (case side4 => exact (Kd.R_reads' HO_4.out).2.1); rintro e w55 ⟨rfl, hb⟩; refine ⟨_, rfl, ?_⟩; have n0_ := Aside0.mk (Kd.R_below (by (with_reducible repeat (first | apply Kd.R_alloc | apply Kd.R_drewN | apply Kd.R_drew)); exact HO_3.out) hb); have n1_ := Aside0.mk (Kd.R_below (by (with_reducible repeat (first | apply Kd.R_alloc | apply Kd.R_drewN | apply Kd.R_drew)); exact HO_4.out) hb); have n2_ := Aside0.mk (Kd.R_below (by (with_reducible repeat (first | apply Kd.R_alloc | apply Kd.R_drewN | apply Kd.R_drew)); exact HO_5.out) hb); have n3_ := Aside0.mk (below_step (by repeat (first | (with_reducible first | exact HB.out | apply below_alloc | apply pw_below_drewN | apply below_drew1) | exact HB.out)) hb); clear HO_3; clear HO_4; clear HO_5; clear HB; have HO_3 := n0_; have HO_4 := n1_; have HO_5 := n2_; have HB := n3_; clear n0_ n1_ n2_ n3_; (try clear hb); (try clear hb2); (try clear hk); (try clear hi)) | (go_at_call 10; (with_reducible refine (flywheellaw17_wakes.calls k1  t512 _ A50.out).mono ?_); rintro e w56 ⟨rfl, hb⟩; have n0_ := Aside0.mk (Kd.R_below (by (with_reducible repeat (first | apply Kd.R_alloc | apply Kd.R_drewN | apply Kd.R_drew)); exact HO_3.out) hb); have n1_ := Aside0.mk (Kd.R_below (by (with_reducible repeat (first | apply Kd.R_alloc | apply Kd.R_drewN | apply Kd.R_drew)); exact HO_4.out) hb); have n2_ := Aside0.mk (Kd.R_below (by (with_reducible repeat (first | apply Kd.R_alloc | apply Kd.R_drewN | apply Kd.R_drew)); exact HO_5.out) hb); have n3_ := Aside0.mk (below_step (by repeat (first | (with_reducible first | exact HB.out | apply below_alloc | apply pw_below_drewN | apply below_drew1) | exact HB.out)) hb); clear HO_3; clear HO_4; clear HO_5; clear HB; have HO_3 := n0_; have HO_4 := n1_; have HO_5 := n2_; have HB := n3_; clear n0_ n1_ n2_ n3_; (try clear hb); (try clear hb2); (try clear hk); (try clear hi)))
      go_ret
      exact ⟨by first | rfl | (simp [errW_none, errW_some] <;> rfl) | (simp [*, errW_none, errW_some] <;> rfl), by repeat (first | (with_reducible first | exact HB.out | apply below_alloc | apply pw_below_drewN | apply below_drew1) | exact HB.out)⟩
     ·rw [if_neg c49] at H
      have c49b0 : decide ((wrap64 (t510 - (wrap64 (2 * t511)))) ≤ 1) = false := decide_eq_false c49
      clear c49
      obtain rfl := Option.some.inj H
      obtain ⟨Ao57, co57, eo57⟩ := Kd.R_slice HO_3.out
      subst eo57
      obtain ⟨Ao58, co58, eo58⟩ := Kd.R_slice HO_5.out
      subst eo58
      go_wp2_with (first | ((with_reducible refine gate_callee (f := 11) rfl ?_); refine goesL_ (some 48) rfl rfl Try.func11 (by kernel_rfl) rfl #[.slice Ao57 x3_1.length co57, .slice Ao58 x5_1.length co58] rfl (by (try simp only [List.map_toArray, List.map_cons, List.map_nil]); first | done | rfl | (simp only [List.length_drop, List.length_take]; rfl)) ?_; (with_reducible refine (trend_Line.calls k1 _ _ x3_1 _ _ x5_1 t510 _ ?side1 ?side2 ?side3 ?side4 A46.out).mono ?_); (case side1 => repeat (first | exact (Kd.R_reads' HO_3.out).2.2 | (with_reducible refine Kd.C_alloc ?_ _) | (with_reducible refine Kd.C_drewN ?_ _) | (with_reducible refine Kd.C_drew ?_))); (case side2 => exact (Kd.R_reads' HO_3.out).2.1); (case side3 => repeat (first | exact (Kd.R_reads' HO_5.out).2.2 | (with_reducible refine Kd.C_alloc ?_ _) | (with_reducible refine Kd.C_drewN ?_ _) | (with_reducible refine Kd.C_drew ?_))); (case side4 => exact (Kd.R_reads' HO_5.out).2.1); rintro e w59 ⟨rfl, hb⟩; refine ⟨_, rfl, ?_⟩; have n0_ := Aside0.mk (Kd.R_below (by (with_reducible repeat (first | apply Kd.R_alloc | apply Kd.R_drewN | apply Kd.R_drew)); exact HO_3.out) hb); have n1_ := Aside0.mk (Kd.R_below (by (with_reducible repeat (first | apply Kd.R_alloc | apply Kd.R_drewN | apply Kd.R_drew)); exact HO_4.out) hb); have n2_ := Aside0.mk (Kd.R_below (by (with_reducible repeat (first | apply Kd.R_alloc | apply Kd.R_drewN | apply Kd.R_drew)); exact HO_5.out) hb); have n3_ := Aside0.mk (below_step (by repeat (first | (with_reducible first | exact HB.out | apply below_alloc | apply pw_below_drewN | apply below_drew1) | exact HB.out)) hb); clear HO_3; clear HO_4; clear HO_5; clear HB; have HO_3 := n0_; have HO_4 := n1_; have HO_5 := n2_; have HB := n3_; clear n0_ n1_ n2_ n3_; (try clear hb); (try clear hb2); (try clear hk); (try clear hi); obtain ⟨Ao60, co60, eo60⟩ := Kd.R_slice HO_4.out; subst eo60) | ((with_reducible refine gate_callee (f := 11) rfl ?_); refine goesL_ (some 51) rfl rfl Try.func11 (by kernel_rfl) rfl #[.slice Ao57 x3_1.length co57, .slice Ao60 x4_1.length co60] rfl (by (try simp only [List.map_toArray, List.map_cons, List.map_nil]); first | done | rfl | (simp only [List.length_drop, List.length_take]; rfl)) ?_; (with_reducible refine (trend_Line.calls k1 _ _ x3_1 _ _ x4_1 t511 _ ?side1 ?side2 ?side3 ?side4 A47.out).mono ?_); (case side1 => repeat (first | exact (Kd.R_reads' HO_3.out).2.2 | (with_reducible refine Kd.C_alloc ?_ _) | (with_reducible refine Kd.C_drewN ?_ _) | (with_reducible refine Kd.C_drew ?_))); (case side2 => exact (Kd.R_reads' HO_3.out).2.1); (case side3 => repeat (first | exact (Kd.R_reads' HO_4.out).2.2 | (with_reducible refine Kd.C_alloc ?_ _) | (with_reducible refine Kd.C_drewN ?_ _) | (with_reducible refine Kd.C_drew ?_))); (case side4 => exact (Kd.R_reads' HO_4.out).2.1); rintro e w61 ⟨rfl, hb⟩; refine ⟨_, rfl, ?_⟩; have n0_ := Aside0.mk (Kd.R_below (by (with_reducible repeat (first | apply Kd.R_alloc | apply Kd.R_drewN | apply Kd.R_drew)); exact HO_3.out) hb); have n1_ := Aside0.mk (Kd.R_below (by (with_reducible repeat (first | apply Kd.R_alloc | apply Kd.R_drewN | apply Kd.R_drew)); exact HO_4.out) hb); have n2_ := Aside0.mk (Kd.R_below (by (with_reducible repeat (first | apply Kd.R_alloc | apply Kd.R_drewN | apply Kd.R_drew)); exact HO_5.out) hb); have n3_ := Aside0.mk (below_step (by repeat (first | (with_reducible first | exact HB.out | apply below_alloc | apply pw_below_drewN | apply below_drew1) | exact HB.out)) hb); clear HO_3; clear HO_4; clear HO_5; clear HB; have HO_3 := n0_; have HO_4 := n1_; have HO_5 := n2_; have HB := n3_; clear n0_ n1_ n2_ n3_; (try clear hb); (try clear hb2); (try clear hk); (try clear hi)))
      go_ret
      exact ⟨by first | rfl | (simp [errW_none, errW_some] <;> rfl) | (simp [*, errW_none, errW_some] <;> rfl), by repeat (first | (with_reducible first | exact HB.out | apply below_alloc | apply pw_below_drewN | apply below_drew1) | exact HB.out)⟩
    ·rw [if_neg c48] at H
     have c48b0 : decide ((-1) ≤ (wrap64 (t510 - (wrap64 (2 * t511))))) = false := decide_eq_false c48
     clear c48
     obtain rfl := Option.some.inj H
     obtain ⟨Ao62, co62, eo62⟩ := Kd.R_slice HO_3.out
     subst eo62
     obtain ⟨Ao63, co63, eo63⟩ := Kd.R_slice HO_5.out
     subst eo63
     go_wp2_with (first | ((with_reducible refine gate_callee (f := 11) rfl ?_); refine goesL_ (some 48) rfl rfl Try.func11 (by kernel_rfl) rfl #[.slice Ao62 x3_1.length co62, .slice Ao63 x5_1.length co63] rfl (by (try simp only [List.map_toArray, List.map_cons, List.map_nil]); first | done | rfl | (simp only [List.length_drop, List.length_take]; rfl)) ?_; (with_reducible refine (trend_Line.calls k1 _ _ x3_1 _ _ x5_1 t510 _ ?side1 ?side2 ?side3 ?side4 A46.out).mono ?_); (case side1 => repeat (first | exact (Kd.R_reads' HO_3.out).2.2 | (with_reducible refine Kd.C_alloc ?_ _) | (with_reducible refine Kd.C_drewN ?_ _) | (with_reducible refine Kd.C_drew ?_))); (case side2 => exact (Kd.R_reads' HO_3.out).2.1); (case side3 => repeat (first | exact (Kd.R_reads' HO_5.out).2.2 | (with_reducible refine Kd.C_alloc ?_ _) | (with_reducible refine Kd.C_drewN ?_ _) | (with_reducible refine Kd.C_drew ?_))); (case side4 => exact (Kd.R_reads' HO_5.out).2.1); rintro e w64 ⟨rfl, hb⟩; refine ⟨_, rfl, ?_⟩; have n0_ := Aside0.mk (Kd.R_below (by (with_reducible repeat (first | apply Kd.R_alloc | apply Kd.R_drewN | apply Kd.R_drew)); exact HO_3.out) hb); have n1_ := Aside0.mk (Kd.R_below (by (with_reducible repeat (first | apply Kd.R_alloc | apply Kd.R_drewN | apply Kd.R_drew)); exact HO_4.out) hb); have n2_ := Aside0.mk (Kd.R_below (by (with_reducible repeat (first | apply Kd.R_alloc | apply Kd.R_drewN | apply Kd.R_drew)); exact HO_5.out) hb); have n3_ := Aside0.mk (below_step (by repeat (first | (with_reducible first | exact HB.out | apply below_alloc | apply pw_below_drewN | apply below_drew1) | exact HB.out)) hb); clear HO_3; clear HO_4; clear HO_5; clear HB; have HO_3 := n0_; have HO_4 := n1_; have HO_5 := n2_; have HB := n3_; clear n0_ n1_ n2_ n3_; (try clear hb); (try clear hb2); (try clear hk); (try clear hi); obtain ⟨Ao65, co65, eo65⟩ := Kd.R_slice HO_4.out; subst eo65) | ((with_reducible refine gate_callee (f := 11) rfl ?_); refine goesL_ (some 51) rfl rfl Try.func11 (by kernel_rfl) rfl #[.slice Ao62 x3_1.length co62, .slice Ao65 x4_1.length co65] rfl (by (try simp only [List.map_toArray, List.map_cons, List.map_nil]); first | done | rfl | (simp only [List.length_drop, List.length_take]; rfl)) ?_; (with_reducible refine (trend_Line.calls k1 _ _ x3_1 _ _ x4_1 t511 _ ?side1 ?side2 ?side3 ?side4 A47.out).mono ?_); (case side1 => repeat (first | exact (Kd.R_reads' HO_3.out).2.2 | (with_reducible refine Kd.C_alloc ?_ _) | (with_reducible refine Kd.C_drewN ?_ _) | (with_reducible refine Kd.C_drew ?_))); (case side2 => exact (Kd.R_reads' HO_3.out).2.1); (case side3 => repeat (first | exact (Kd.R_reads' HO_4.out).2.2 | (with_reducible refine Kd.C_alloc ?_ _) | (with_reducible refine Kd.C_drewN ?_ _) | (with_reducible refine Kd.C_drew ?_))); (case side4 => exact (Kd.R_reads' HO_4.out).2.1); rintro e w66 ⟨rfl, hb⟩; refine ⟨_, rfl, ?_⟩; have n0_ := Aside0.mk (Kd.R_below (by (with_reducible repeat (first | apply Kd.R_alloc | apply Kd.R_drewN | apply Kd.R_drew)); exact HO_3.out) hb); have n1_ := Aside0.mk (Kd.R_below (by (with_reducible repeat (first | apply Kd.R_alloc | apply Kd.R_drewN | apply Kd.R_drew)); exact HO_4.out) hb); have n2_ := Aside0.mk (Kd.R_below (by (with_reducible repeat (first | apply Kd.R_alloc | apply Kd.R_drewN | apply Kd.R_drew)); exact HO_5.out) hb); have n3_ := Aside0.mk (below_step (by repeat (first | (with_reducible first | exact HB.out | apply below_alloc | apply pw_below_drewN | apply below_drew1) | exact HB.out)) hb); clear HO_3; clear HO_4; clear HO_5; clear HB; have HO_3 := n0_; have HO_4 := n1_; have HO_5 := n2_; have HB := n3_; clear n0_ n1_ n2_ n3_; (try clear hb); (try clear hb2); (try clear hk); (try clear hi)))
     go_ret
     exact ⟨by first | rfl | (simp [errW_none, errW_some] <;> rfl) | (simp [*, errW_none, errW_some] <;> rfl), by repeat (first | (with_reducible first | exact HB.out | apply below_alloc | apply pw_below_drewN | apply below_drew1) | exact HB.out)⟩
def flywheellaw17_TrendTwice.Pure : Prop := ∀ (l0 : List (S47)), l0.length ≤ maxLen → l0.length * 4 ≤ 140737488351232 → (∀ x ∈ l0, (Lit.int .i16 x.f0).wf = true ∧ (Lit.int .i16 x.f1).wf = true) → ∃ k, flywheellaw17_TrendTwice.f k l0 = some true
theorem flywheellaw17_TrendTwice.walk (P : flywheellaw17_TrendTwice.Pure) (A0 : Option Addr) (c0 : Nat) (l0 : List (S47)) (w : World) (hm0 : l0.length ≤ maxLen) (y0 : l0.length * 4 ≤ 140737488351232) (hw0 : (∀ x ∈ l0, (Lit.int .i16 x.f0).wf = true ∧ (Lit.int .i16 x.f1).wf = true)) (hr0 : Kd.C k47 w A0 l0.length l0) (hc0 : l0.length ≤ c0) :
  Calls Try.prog 9 #[.slice A0 l0.length c0] w fun e w' => e = .returned (.bool true) ∧ Below w.heap.size w w' := by
 obtain ⟨k, h⟩ := P l0 hm0 y0 hw0
 refine (flywheellaw17_TrendTwice.calls k A0 c0 l0 true w hr0 hc0 h).mono ?_
 rintro e w' ⟨rfl, hd⟩
 exact ⟨rfl, hd⟩
end Go.Proofs.Ytmcfgaokimlngaa.P
end

section
namespace Go.Proofs.Ytmcfgaokimlngaa.P
open Go.RowKit Go.Proofs.YtmcfgaokimlngaaW.PrintWords Go.Proofs.YtmcfgaokimlngaaW.PrintLast Go.Proofs.YtmcfgaokimlngaaW.PrintMore
attribute [local go_sem] max2_int min2_int max_two min_two max_three min_three max_four min_four   -- for this text's walks alone
set_option linter.unusedVariables false
set_option linter.unusedSimpArgs false
end Go.Proofs.Ytmcfgaokimlngaa.P
end

section
namespace Go.Proofs.Ytmcfgaokimlngaa.P
open Go.RowKit Go.Proofs.YtmcfgaokimlngaaW.PrintWords Go.Proofs.YtmcfgaokimlngaaW.PrintLast Go.Proofs.YtmcfgaokimlngaaW.PrintMore
attribute [local go_sem] max2_int min2_int max_two min_two max_three min_three max_four min_four   -- for this text's walks alone
set_option linter.unusedVariables false
set_option linter.unusedSimpArgs false
end Go.Proofs.Ytmcfgaokimlngaa.P
end

section
namespace Go.Proofs.Ytmcfgaokimlngaa.P
open Go.RowKit Go.Proofs.YtmcfgaokimlngaaW.PrintWords Go.Proofs.YtmcfgaokimlngaaW.PrintLast Go.Proofs.YtmcfgaokimlngaaW.PrintMore
attribute [local go_sem] max2_int min2_int max_two min_two max_three min_three max_four min_four   -- for this text's walks alone
set_option linter.unusedVariables false
set_option linter.unusedSimpArgs false
end Go.Proofs.Ytmcfgaokimlngaa.P
end

section
namespace Go.Proofs.Ytmcfgaokimlngaa.P
open Go.RowKit Go.Proofs.YtmcfgaokimlngaaW.PrintWords Go.Proofs.YtmcfgaokimlngaaW.PrintLast Go.Proofs.YtmcfgaokimlngaaW.PrintMore
attribute [local go_sem] max2_int min2_int max_two min_two max_three min_three max_four min_four   -- for this text's walks alone
set_option linter.unusedVariables false
set_option linter.unusedSimpArgs false
end Go.Proofs.Ytmcfgaokimlngaa.P
end

section
namespace Go.Proofs.Ytmcfgaokimlngaa.P
open Go.RowKit Go.Proofs.YtmcfgaokimlngaaW.PrintWords Go.Proofs.YtmcfgaokimlngaaW.PrintLast Go.Proofs.YtmcfgaokimlngaaW.PrintMore
attribute [local go_sem] max2_int min2_int max_two min_two max_three min_three max_four min_four   -- for this text's walks alone
set_option linter.unusedVariables false
set_option linter.unusedSimpArgs false
end Go.Proofs.Ytmcfgaokimlngaa.P
end

section
namespace Go.Proofs.Ytmcfgaokimlngaa.P
open Go.RowKit Go.Proofs.YtmcfgaokimlngaaW.PrintWords Go.Proofs.YtmcfgaokimlngaaW.PrintLast Go.Proofs.YtmcfgaokimlngaaW.PrintMore
attribute [local go_sem] max2_int min2_int max_two min_two max_three min_three max_four min_four   -- for this text's walks alone
set_option linter.unusedVariables false
set_option linter.unusedSimpArgs false
end Go.Proofs.Ytmcfgaokimlngaa.P
end

section
namespace Go.Proofs.Ytmcfgaokimlngaa.P
open Go.RowKit Go.Proofs.YtmcfgaokimlngaaW.PrintWords Go.Proofs.YtmcfgaokimlngaaW.PrintLast Go.Proofs.YtmcfgaokimlngaaW.PrintMore
attribute [local go_sem] max2_int min2_int max_two min_two max_three min_three max_four min_four   -- for this text's walks alone
set_option linter.unusedVariables false
set_option linter.unusedSimpArgs false
end Go.Proofs.Ytmcfgaokimlngaa.P
end

section
namespace Go.Proofs.Ytmcfgaokimlngaa.P
open Go.RowKit
set_option linter.unusedVariables false
set_option linter.unusedSimpArgs false
end Go.Proofs.Ytmcfgaokimlngaa.P
end

section
namespace Go.Proofs.Ytmcfgaokimlngaa.P
open Go.RowKit
set_option linter.unusedVariables false
set_option linter.unusedSimpArgs false
end Go.Proofs.Ytmcfgaokimlngaa.P
end

section
namespace Go.Proofs.Ytmcfgaokimlngaa.P
open Go.RowKit Go.Proofs.YtmcfgaokimlngaaW.PrintWords Go.Proofs.YtmcfgaokimlngaaW.PrintLast Go.Proofs.YtmcfgaokimlngaaW.PrintMore
attribute [local go_sem] max2_int min2_int max_two min_two max_three min_three max_four min_four   -- for this text's walks alone
set_option linter.unusedVariables false
set_option linter.unusedSimpArgs false
end Go.Proofs.Ytmcfgaokimlngaa.P
end

-- PUT TOGETHER by a program of this session: of the claim's texts, what is used
import Derived.Test.YtaelmmbodigheaaKDetectHolds7
import Derived.Test.YtaelmmbodigheaaKDetectHolds8
section
namespace Go.Proofs.Ytaelmmbodigheaa.P
open Go.RowKit Go.Proofs.YtaelmmbodigheaaW.PrintWords Go.Proofs.YtaelmmbodigheaaW.PrintLast Go.Proofs.YtaelmmbodigheaaW.PrintMore
attribute [local go_sem] max2_int min2_int max_two min_two max_three min_three max_four min_four   -- for this text's walks alone
set_option linter.unusedVariables false
set_option linter.unusedSimpArgs false
mutual
def flywheellaw18_DetectHolds.l0 : Nat → List (S51) → Int → Int → Int → Int → Int → Int → Int → Option (Bool)
  | 0, _, _, _, _, _, _, _, _ => none
  | k + 1, x0, x4, x489000, x489001, x489002, x489003, x489004, x489005 => if x4 < (x0.length : Int) then (flywheellaw18_DetectHolds.j1 k x0 x4 (decide (x4 < 200)) x489000 x489001 x489002 x489003 x489004 x489005) else (flywheellaw18_DetectHolds.j1 k x0 x4 false x489000 x489001 x489002 x489003 x489004 x489005)
def flywheellaw18_DetectHolds.j1 : Nat → List (S51) → Int → Bool → Int → Int → Int → Int → Int → Int → Option (Bool)
  | 0, _, _, _, _, _, _, _, _, _ => none
  | k + 1, x0, x4, x14, x489000, x489001, x489002, x489003, x489004, x489005 => if x14 = true then (if 0 ≤ x4 then (if x4 < (x0.length : Int) then ((detect_Detector_Add.f k x489000 x489001 x489002 x489003 x489004 x489005 ((rd_T51 x0 x4).f0) ((rd_T51 x0 x4).f1) ((rd_T51 x0 x4).f2) ((rd_T51 x0 x4).f3)).bind fun bt494 => (if bt494.1 < 0 then (some false) else (if bt494.1 > 2 then (some false) else ((detect_Detector_Threshold.f bt494.2.1 bt494.2.2.1 bt494.2.2.2.1 bt494.2.2.2.2.1 bt494.2.2.2.2.2.1 bt494.2.2.2.2.2.2).bind fun bt501 => ((fixed_Of.f 6).bind fun t508 => (if bt501.1 < t508 then (some false) else ((detect_Detector_Threshold.f bt501.2.1 bt501.2.2.1 bt501.2.2.2.1 bt501.2.2.2.2.1 bt501.2.2.2.2.2.1 bt501.2.2.2.2.2.2).bind fun bt509 => ((fixed_Of.f 600).bind fun t516 => (if bt509.1 > t516 then (some false) else (flywheellaw18_DetectHolds.l0 k x0 (wrap64 (x4 + 1)) bt509.2.1 bt509.2.2.1 bt509.2.2.2.1 bt509.2.2.2.2.1 bt509.2.2.2.2.2.1 bt509.2.2.2.2.2.2)))))))))) else (none)) else (none)) else ((flywheellaw18_wakes.f k).bind fun t489 => (some t489))
end
def flywheellaw18_DetectHolds.f (k : Nat) (l0 : List (S51)) : Option (Bool) := (detect_New.f).bind fun bt482 => (flywheellaw18_DetectHolds.l0 k l0 0 bt482.1 bt482.2.1 bt482.2.2.1 bt482.2.2.2.1 bt482.2.2.2.2.1 bt482.2.2.2.2.2)
def flywheellaw18_DetectHolds.T5 : Bool × List (List Nat × List Nat) := (true, [([], []), ([], []), ([], []), ([1, 2], [1, 2]), ([3], [3]), ([4], [4]), ([], []), ([], []), ([6, 7], [6, 7]), ([8], [8]), ([9], [9]), ([], []), ([], []), ([11, 12], [11, 12]), ([13], [13]), ([14], [14]), ([], []), ([], []), ([16, 17], [16, 17]), ([18], [18]), ([19], [19]), ([0, 5, 10, 15, 20], [0, 5, 10, 15, 20]), ([21, 21, 0, 1, 2, 3, 4, 5, 6, 7, 8, 9, 10, 11, 12, 13, 14, 15, 16, 17, 18, 19, 20, 21], [21])])
def flywheellaw18_DetectHolds.B5 : List Nat := [0, 0, 0, 6, 14, 30, 0, 0, 192, 448, 960, 0, 0, 6144, 14336, 30720, 0, 0, 196608, 458752, 983040, 2097151, 4194303]
theorem flywheellaw18_DetectHolds.tab5 : rtab .any (opsOf Try.f9 5) = flywheellaw18_DetectHolds.T5 := by kernel_rfl
theorem flywheellaw18_DetectHolds.bits5 : waitsOk flywheellaw18_DetectHolds.T5.2 flywheellaw18_DetectHolds.B5 = true := by kernel_rfl
set_option maxHeartbeats 8000000 in
set_option maxRecDepth 100000 in
theorem flywheellaw18_DetectHolds.calls (k : Nat) (A0 : Option Addr) (c0 : Nat) (l0 : List (S51)) (r : Bool) (w : World) (hr0 : Kd.C k51 w A0 l0.length l0) (hc0 : l0.length ≤ c0) (h : flywheellaw18_DetectHolds.f k l0 = some r) :
    Calls Try.prog 9 #[.slice A0 l0.length c0] w fun e w' => e = .returned (.bool r) ∧ Below w.heap.size w w' := by
  have HR0 := Aside0.mk hr0
  have HC0 := Aside0.mk hc0
  clear hr0 hc0
  have HB := Aside0.mk (Below.refl w.heap.size w)
  have H : ((detect_New.f).bind fun bt482 => (flywheellaw18_DetectHolds.l0 k l0 0 bt482.1 bt482.2.1 bt482.2.2.1 bt482.2.2.2.1 bt482.2.2.2.2.1 bt482.2.2.2.2.2)) = some r := h
  clear h
  replace H := Option.bind_eq_some_iff.mp H
  obtain ⟨⟨t482, t483, t484, t485, t486, t487⟩, A20, H⟩ := H
  replace H : (flywheellaw18_DetectHolds.l0 k l0 0 t482 t483 t484 t485 t486 t487) = some r := H
  have A2 := Aside0.mk A20
  clear A20
  have H' := Aside0.mk H
  clear H
  go_enter Try.func9, Try.ntmps9
  go_wp2_with (first | ((with_reducible refine gate_callee (f := 26) rfl ?_); refine goesL_ (some 6) rfl rfl Try.func26 (by kernel_rfl) rfl #[] rfl (by (try simp only [List.map_toArray, List.map_cons, List.map_nil]); first | done | rfl | (simp only [List.length_drop, List.length_take]; rfl)) ?_; (with_reducible refine (detect_New.calls  t482 t483 t484 t485 t486 t487 _ _ (Below.refl _ _) A2.out).mono ?_); rintro e w3 ⟨g488, rfl, hi, hb, hb2⟩; refine ⟨_, rfl, ?_⟩; have n0_ := Aside0.mk (below_step (by repeat (first | (with_reducible first | exact HB.out | apply below_alloc | apply pw_below_drewN | apply below_drew1) | exact HB.out)) hb2); have n1_ := Aside0.mk ((IsS75.rebase hi (below_size (by repeat (first | (with_reducible first | exact HB.out | apply below_alloc | apply pw_below_drewN | apply below_drew1) | exact HB.out))))); clear HB; have HB := n0_; have HI488 := n1_; clear n0_ n1_; (try clear hb); (try clear hb2); (try clear hk); (try clear hi)))
  go_loopg [4] k (fun kq v4 w' => ∃ (x4_1 : Int) (x489000_1 : Int) (x489001_1 : Int) (x489002_1 : Int) (x489003_1 : Int) (x489004_1 : Int) (x489005_1 : Int), v4 = .int .i64 x4_1 ∧ Aside0 (flywheellaw18_DetectHolds.l0 kq l0 x4_1 x489000_1 x489001_1 x489002_1 x489003_1 x489004_1 x489005_1 = some r) ∧ Aside0 (kq ≤ k) ∧ Aside0 (IsS75 w w' g488 x489000_1 x489001_1 x489002_1 x489003_1 x489004_1 x489005_1) ∧ Aside0 (Below w.heap.size w w'))
  case atStart => exact ⟨(0), (t482), (t483), (t484), (t485), (t486), (t487), (by first | rfl | (simp; done) | (simp [*]; done)), H', ⟨Nat.le_refl _⟩, ⟨by repeat (first | (with_reducible first | exact HI488.out | apply IsS75.alloc | apply IsS75.drewN | apply IsS75.drew | apply IsS75.set_0 | apply IsS75.set_1 | apply IsS75.set_2 | apply IsS75.set_3 | apply IsS75.set_4 | apply IsS75.set_5) | exact HI488.out)⟩, ⟨by repeat (first | (with_reducible first | exact HB.out | apply below_alloc | apply pw_below_drewN | apply below_drew1 | refine below_set ?_ (IsS75.ge HI488.out)) | exact HB.out)⟩⟩
  case round =>
    clear H'
    try clear c2
    try clear p2
    obtain ⟨x4_1, x489000_1, x489001_1, x489002_1, x489003_1, x489004_1, x489005_1, rfl, HA, HK1, HI488, HB⟩ := hrel
    cases gk with
    | zero => exact absurd HA.out (by simp [flywheellaw18_DetectHolds.l0])
    | succ k1 =>
      have H := HA.out
      clear HA
      simp only [flywheellaw18_DetectHolds.l0] at H
      have HC4 := Aside0.mk H
      clear H
      go_upto_region 3 with (fail)
      go_cut [14] (fun v14 wc => ∃ (kq : Nat) (x14_3 : Bool), v14 = .bool x14_3 ∧ Aside0 (flywheellaw18_DetectHolds.j1 kq l0 x4_1 x14_3 x489000_1 x489001_1 x489002_1 x489003_1 x489004_1 x489005_1 = some r) ∧ Aside0 (kq ≤ k1) ∧ Aside0 (IsS75 w wc g488 x489000_1 x489001_1 x489002_1 x489003_1 x489004_1 x489005_1) ∧ Aside0 (Below w.heap.size w wc))
      case first =>
        have H := HC4.out
        clear HC4
        by_cases c5 : x4_1 < (l0.length : Int)
        · rw [if_pos c5] at H
          have c5b0 : decide (x4_1 < (l0.length : Int)) = true := decide_eq_true c5
          clear c5
          (first | rw [c5b0] | (simp only [i64_w, i32_w]; rw [c5b0]) | skip)
          have H' := Aside0.mk H
          clear H
          go_wp2
          go_meet
          case rel => exact ⟨_, (decide (x4_1 < 200)), (by first | rfl | (simp; done) | (simp [*]; done)), H', ⟨by have := HK1.out; first | omega | exact Nat.le_refl _⟩, ⟨by repeat (first | (with_reducible first | exact HI488.out | apply IsS75.alloc | apply IsS75.drewN | apply IsS75.drew | apply IsS75.set_0 | apply IsS75.set_1 | apply IsS75.set_2 | apply IsS75.set_3 | apply IsS75.set_4 | apply IsS75.set_5) | exact HI488.out)⟩, ⟨by repeat (first | (with_reducible first | exact HB.out | apply below_alloc | apply pw_below_drewN | apply below_drew1 | refine below_set ?_ (IsS75.ge HI488.out)) | exact HB.out)⟩⟩
        · rw [if_neg c5] at H
          have c5b0 : decide (x4_1 < (l0.length : Int)) = false := decide_eq_false c5
          clear c5
          (first | rw [c5b0] | (simp only [i64_w, i32_w]; rw [c5b0]) | skip)
          have H' := Aside0.mk H
          clear H
          go_wp2
          go_meet
          case rel => exact ⟨_, (false), (by first | rfl | (simp; done) | (simp [*]; done)), H', ⟨by have := HK1.out; first | omega | exact Nat.le_refl _⟩, ⟨by repeat (first | (with_reducible first | exact HI488.out | apply IsS75.alloc | apply IsS75.drewN | apply IsS75.drew | apply IsS75.set_0 | apply IsS75.set_1 | apply IsS75.set_2 | apply IsS75.set_3 | apply IsS75.set_4 | apply IsS75.set_5) | exact HI488.out)⟩, ⟨by repeat (first | (with_reducible first | exact HB.out | apply below_alloc | apply pw_below_drewN | apply below_drew1 | refine below_set ?_ (IsS75.ge HI488.out)) | exact HB.out)⟩⟩
      case rest =>
        clear HC4
        try clear c2
        try clear p2
        try clear c5
        try clear c5b0
        try clear p2
        obtain ⟨kq, x14_3, rfl, HA, HJ3, HI488, HB⟩ := hcut
        cases kq with
        | zero => exact absurd HA.out (by simp [flywheellaw18_DetectHolds.j1])
        | succ kj3 =>
          have H := HA.out
          clear HA
          simp only [flywheellaw18_DetectHolds.j1] at H
          by_cases c6 : x14_3 = true
          · subst c6
            have H1 : (if 0 ≤ x4_1 then (if x4_1 < (l0.length : Int) then ((detect_Detector_Add.f kj3 x489000_1 x489001_1 x489002_1 x489003_1 x489004_1 x489005_1 ((rd_T51 l0 x4_1).f0) ((rd_T51 l0 x4_1).f1) ((rd_T51 l0 x4_1).f2) ((rd_T51 l0 x4_1).f3)).bind fun bt494 => (if bt494.1 < 0 then (some false) else (if bt494.1 > 2 then (some false) else ((detect_Detector_Threshold.f bt494.2.1 bt494.2.2.1 bt494.2.2.2.1 bt494.2.2.2.2.1 bt494.2.2.2.2.2.1 bt494.2.2.2.2.2.2).bind fun bt501 => ((fixed_Of.f 6).bind fun t508 => (if bt501.1 < t508 then (some false) else ((detect_Detector_Threshold.f bt501.2.1 bt501.2.2.1 bt501.2.2.2.1 bt501.2.2.2.2.1 bt501.2.2.2.2.2.1 bt501.2.2.2.2.2.2).bind fun bt509 => ((fixed_Of.f 600).bind fun t516 => (if bt509.1 > t516 then (some false) else (flywheellaw18_DetectHolds.l0 kj3 l0 (wrap64 (x4_1 + 1)) bt509.2.1 bt509.2.2.1 bt509.2.2.2.1 bt509.2.2.2.2.1 bt509.2.2.2.2.2.1 bt509.2.2.2.2.2.2)))))))))) else (none)) else (none)) = some r := by rw [if_pos rfl] at H; exact H
            clear H
            have H := H1
            clear H1
            by_cases c7 : 0 ≤ x4_1
            · rw [if_pos c7] at H
              have c7b0 : decide (0 ≤ x4_1) = true := decide_eq_true c7
              clear c7
              by_cases c8 : x4_1 < (l0.length : Int)
              · rw [if_pos c8] at H
                have c8b0 : decide (x4_1 < (l0.length : Int)) = true := decide_eq_true c8
                clear c8
                replace H := Option.bind_eq_some_iff.mp H
                obtain ⟨⟨t494, t495, t496, t497, t498, t499, t500⟩, A90, H⟩ := H
                replace H : (if t494 < 0 then (some false) else (if t494 > 2 then (some false) else ((detect_Detector_Threshold.f t495 t496 t497 t498 t499 t500).bind fun bt501 => ((fixed_Of.f 6).bind fun t508 => (if bt501.1 < t508 then (some false) else ((detect_Detector_Threshold.f bt501.2.1 bt501.2.2.1 bt501.2.2.2.1 bt501.2.2.2.2.1 bt501.2.2.2.2.2.1 bt501.2.2.2.2.2.2).bind fun bt509 => ((fixed_Of.f 600).bind fun t516 => (if bt509.1 > t516 then (some false) else (flywheellaw18_DetectHolds.l0 kj3 l0 (wrap64 (x4_1 + 1)) bt509.2.1 bt509.2.2.1 bt509.2.2.2.1 bt509.2.2.2.2.1 bt509.2.2.2.2.2.1 bt509.2.2.2.2.2.2))))))))) = some r := H
                have A9 := Aside0.mk A90
                clear A90
                by_cases c10 : t494 < 0
                · rw [if_pos c10] at H
                  have c10b0 : decide (t494 < 0) = true := decide_eq_true c10
                  clear c10
                  obtain rfl := Option.some.inj H
                  try go_wp2
                  have n0_ := Aside0.mk (IsS75.drew HI488.out)
                  have n1_ := Aside0.mk (below_drew1 HB.out)
                  clear HI488
                  clear HB
                  have HI488 := n0_
                  have HB := n1_
                  clear n0_ n1_
                  have p490 : 0 ≤ (x4_1 : Int) := of_decide_eq_true (by first | (with_reducible assumption) | assumption)
                  have q490 : x4_1 < (l0.length : Int) := of_decide_eq_true (by first | (with_reducible assumption) | assumption)
                  obtain ⟨ad490, e490, hx490_0, hx490_1, hx490_2, hx490_3⟩ := at_T51 HR0.out x4_1 p490 q490
                  have hw490_3 := hx490_3
                  have hw490_2 := hx490_2
                  have hw490_1 := hx490_1
                  have hw490_0 := hx490_0
                  cases e490
                  replace hx490_0 := (HB.out.cell (World.block_lt_of_cell? w _ hx490_0)).trans hx490_0
                  replace hx490_1 := (HB.out.cell (World.block_lt_of_cell? w _ hx490_1)).trans hx490_1
                  replace hx490_2 := (HB.out.cell (World.block_lt_of_cell? w _ hx490_2)).trans hx490_2
                  replace hx490_3 := (HB.out.cell (World.block_lt_of_cell? w _ hx490_3)).trans hx490_3
                  replace p490 := eq_true p490
                  replace q490 := eq_true q490
                  have p491 : 0 ≤ (x4_1 : Int) := of_decide_eq_true (by first | (with_reducible assumption) | assumption)
                  have q491 : x4_1 < (l0.length : Int) := of_decide_eq_true (by first | (with_reducible assumption) | assumption)
                  obtain ⟨ad491, e491, hx491_0, hx491_1, hx491_2, hx491_3⟩ := at_T51 HR0.out x4_1 p491 q491
                  have hw491_3 := hx491_3
                  have hw491_2 := hx491_2
                  have hw491_1 := hx491_1
                  have hw491_0 := hx491_0
                  obtain rfl : ad490 = ad491 := (by injection e491)
                  replace hx491_0 := (HB.out.cell (World.block_lt_of_cell? w _ hx491_0)).trans hx491_0
                  replace hx491_1 := (HB.out.cell (World.block_lt_of_cell? w _ hx491_1)).trans hx491_1
                  replace hx491_2 := (HB.out.cell (World.block_lt_of_cell? w _ hx491_2)).trans hx491_2
                  replace hx491_3 := (HB.out.cell (World.block_lt_of_cell? w _ hx491_3)).trans hx491_3
                  replace p491 := eq_true p491
                  replace q491 := eq_true q491
                  have p492 : 0 ≤ (x4_1 : Int) := of_decide_eq_true (by first | (with_reducible assumption) | assumption)
                  have q492 : x4_1 < (l0.length : Int) := of_decide_eq_true (by first | (with_reducible assumption) | assumption)
                  obtain ⟨ad492, e492, hx492_0, hx492_1, hx492_2, hx492_3⟩ := at_T51 HR0.out x4_1 p492 q492
                  have hw492_3 := hx492_3
                  have hw492_2 := hx492_2
                  have hw492_1 := hx492_1
                  have hw492_0 := hx492_0
                  obtain rfl : ad490 = ad492 := (by injection e492)
                  replace hx492_0 := (HB.out.cell (World.block_lt_of_cell? w _ hx492_0)).trans hx492_0
                  replace hx492_1 := (HB.out.cell (World.block_lt_of_cell? w _ hx492_1)).trans hx492_1
                  replace hx492_2 := (HB.out.cell (World.block_lt_of_cell? w _ hx492_2)).trans hx492_2
                  replace hx492_3 := (HB.out.cell (World.block_lt_of_cell? w _ hx492_3)).trans hx492_3
                  replace p492 := eq_true p492
                  replace q492 := eq_true q492
                  have p493 : 0 ≤ (x4_1 : Int) := of_decide_eq_true (by first | (with_reducible assumption) | assumption)
                  have q493 : x4_1 < (l0.length : Int) := of_decide_eq_true (by first | (with_reducible assumption) | assumption)
                  obtain ⟨ad493, e493, hx493_0, hx493_1, hx493_2, hx493_3⟩ := at_T51 HR0.out x4_1 p493 q493
                  have hw493_3 := hx493_3
                  have hw493_2 := hx493_2
                  have hw493_1 := hx493_1
                  have hw493_0 := hx493_0
                  obtain rfl : ad490 = ad493 := (by injection e493)
                  replace hx493_0 := (HB.out.cell (World.block_lt_of_cell? w _ hx493_0)).trans hx493_0
                  replace hx493_1 := (HB.out.cell (World.block_lt_of_cell? w _ hx493_1)).trans hx493_1
                  replace hx493_2 := (HB.out.cell (World.block_lt_of_cell? w _ hx493_2)).trans hx493_2
                  replace hx493_3 := (HB.out.cell (World.block_lt_of_cell? w _ hx493_3)).trans hx493_3
                  replace p493 := eq_true p493
                  replace q493 := eq_true q493
                  refine start_ (n := 23) (S := fun w' => w'.cell? (ad490.add ((x4_1).toNat * 4)) = some (.int .i64 ((rd_T51 l0 x4_1).f0)) ∧ w'.cell? ⟨(ad490.add ((x4_1).toNat * 4)).block, (ad490.add ((x4_1).toNat * 4)).off + 1, none⟩ = some (.int .i64 ((rd_T51 l0 x4_1).f1)) ∧ w'.cell? ⟨(ad490.add ((x4_1).toNat * 4)).block, (ad490.add ((x4_1).toNat * 4)).off + 2, none⟩ = some (.int .i64 ((rd_T51 l0 x4_1).f2)) ∧ w'.cell? ⟨(ad490.add ((x4_1).toNat * 4)).block, (ad490.add ((x4_1).toNat * 4)).off + 3, none⟩ = some (.int .i64 ((rd_T51 l0 x4_1).f3)) ∧ w'.cell? (ad490.add ((x4_1).toNat * 4)) = some (.int .i64 ((rd_T51 l0 x4_1).f0)) ∧ w'.cell? ⟨(ad490.add ((x4_1).toNat * 4)).block, (ad490.add ((x4_1).toNat * 4)).off + 1, none⟩ = some (.int .i64 ((rd_T51 l0 x4_1).f1)) ∧ w'.cell? ⟨(ad490.add ((x4_1).toNat * 4)).block, (ad490.add ((x4_1).toNat * 4)).off + 2, none⟩ = some (.int .i64 ((rd_T51 l0 x4_1).f2)) ∧ w'.cell? ⟨(ad490.add ((x4_1).toNat * 4)).block, (ad490.add ((x4_1).toNat * 4)).off + 3, none⟩ = some (.int .i64 ((rd_T51 l0 x4_1).f3)) ∧ w'.cell? (ad490.add ((x4_1).toNat * 4)) = some (.int .i64 ((rd_T51 l0 x4_1).f0)) ∧ w'.cell? ⟨(ad490.add ((x4_1).toNat * 4)).block, (ad490.add ((x4_1).toNat * 4)).off + 1, none⟩ = some (.int .i64 ((rd_T51 l0 x4_1).f1)) ∧ w'.cell? ⟨(ad490.add ((x4_1).toNat * 4)).block, (ad490.add ((x4_1).toNat * 4)).off + 2, none⟩ = some (.int .i64 ((rd_T51 l0 x4_1).f2)) ∧ w'.cell? ⟨(ad490.add ((x4_1).toNat * 4)).block, (ad490.add ((x4_1).toNat * 4)).off + 3, none⟩ = some (.int .i64 ((rd_T51 l0 x4_1).f3)) ∧ w'.cell? (ad490.add ((x4_1).toNat * 4)) = some (.int .i64 ((rd_T51 l0 x4_1).f0)) ∧ w'.cell? ⟨(ad490.add ((x4_1).toNat * 4)).block, (ad490.add ((x4_1).toNat * 4)).off + 1, none⟩ = some (.int .i64 ((rd_T51 l0 x4_1).f1)) ∧ w'.cell? ⟨(ad490.add ((x4_1).toNat * 4)).block, (ad490.add ((x4_1).toNat * 4)).off + 2, none⟩ = some (.int .i64 ((rd_T51 l0 x4_1).f2)) ∧ w'.cell? ⟨(ad490.add ((x4_1).toNat * 4)).block, (ad490.add ((x4_1).toNat * 4)).off + 3, none⟩ = some (.int .i64 ((rd_T51 l0 x4_1).f3))) (ds := []) #[false, false, false, false, false, false, false, false, false, false, false, false, false, false, false, false, false, false, false, false, false, false, false] (by kernel_rfl) rfl rfl ⟨((HB.out.cell (World.block_lt_of_cell? w _ hw490_0)).trans hw490_0), ((HB.out.cell (World.block_lt_of_cell? w _ hw490_1)).trans hw490_1), ((HB.out.cell (World.block_lt_of_cell? w _ hw490_2)).trans hw490_2), ((HB.out.cell (World.block_lt_of_cell? w _ hw490_3)).trans hw490_3), ((HB.out.cell (World.block_lt_of_cell? w _ hw491_0)).trans hw491_0), ((HB.out.cell (World.block_lt_of_cell? w _ hw491_1)).trans hw491_1), ((HB.out.cell (World.block_lt_of_cell? w _ hw491_2)).trans hw491_2), ((HB.out.cell (World.block_lt_of_cell? w _ hw491_3)).trans hw491_3), ((HB.out.cell (World.block_lt_of_cell? w _ hw492_0)).trans hw492_0), ((HB.out.cell (World.block_lt_of_cell? w _ hw492_1)).trans hw492_1), ((HB.out.cell (World.block_lt_of_cell? w _ hw492_2)).trans hw492_2), ((HB.out.cell (World.block_lt_of_cell? w _ hw492_3)).trans hw492_3), ((HB.out.cell (World.block_lt_of_cell? w _ hw493_0)).trans hw493_0), ((HB.out.cell (World.block_lt_of_cell? w _ hw493_1)).trans hw493_1), ((HB.out.cell (World.block_lt_of_cell? w _ hw493_2)).trans hw493_2), ((HB.out.cell (World.block_lt_of_cell? w _ hw493_3)).trans hw493_3)⟩ (fun hHeld => ?_); refine with_tabW flywheellaw18_DetectHolds.tab5 flywheellaw18_DetectHolds.bits5 (fun HT_ HW_ => ?_)
                  generalize wc.drew = w11 at HI488 HB hx490_0 hx490_1 hx490_2 hx490_3 hx491_0 hx491_1 hx491_2 hx491_3 hx492_0 hx492_1 hx492_2 hx492_3 hx493_0 hx493_1 hx493_2 hx493_3 hHeld ⊢
                  refine pure_ (i := 0) (N := some 17) (v := ?_) (a' := ?_) #[true, false, false, false, false, false, false, false, false, false, false, false, false, false, false, false, false, false, false, false, false, false, false] rfl rfl (any_of HT_.out (by kernel_rfl)) (fun _ _ _ h => h) (Or.inl ⟨by rfl, ?_⟩) ?_ ?_
                  rotate_left
                  · intro w'
                    go_simp
                    with_reducible rfl
                  rotate_left
                  · simp only [Act.put, List.setIfInBounds_toArray, List.set_cons_zero, List.set_cons_succ, i64_w, i32_w]
                    rfl
                  refine pure_ (i := 1) (N := some 18) (v := ?_) (a' := ?_) #[true, true, false, false, false, false, false, false, false, false, false, false, false, false, false, false, false, false, false, false, false, false, false] rfl rfl (any_of HT_.out (by kernel_rfl)) (fun _ _ _ h => h) (Or.inl ⟨by rfl, ?_⟩) ?_ ?_
                  rotate_left
                  · intro w'
                    go_simp
                    with_reducible rfl
                  rotate_left
                  · simp only [Act.put, List.setIfInBounds_toArray, List.set_cons_zero, List.set_cons_succ, i64_w, i32_w]
                    rfl
                  refine pure_ (i := 2) (N := some 19) (v := ?_) (a' := ?_) #[true, true, true, false, false, false, false, false, false, false, false, false, false, false, false, false, false, false, false, false, false, false, false] rfl rfl (any_of HT_.out (by kernel_rfl)) (fun _ _ _ h => h) (Or.inl ⟨by rfl, ?_⟩) ?_ ?_
                  rotate_left
                  · intro w'
                    go_simp
                    with_reducible rfl
                  rotate_left
                  · simp only [Act.put, List.setIfInBounds_toArray, List.set_cons_zero, List.set_cons_succ, i64_w, i32_w]
                    rfl
                  refine pure_ (i := 3) (N := some 20) (v := ?_) (a' := ?_) #[true, true, true, true, false, false, false, false, false, false, false, false, false, false, false, false, false, false, false, false, false, false, false] rfl rfl (any_of HT_.out (by kernel_rfl)) (fun _ _ _ h => h) (Or.inl ⟨by rfl, ?_⟩) ?_ ?_
                  rotate_left
                  · intro w'
                    go_simp
                    with_reducible rfl
                  rotate_left
                  · simp only [Act.put, List.setIfInBounds_toArray, List.set_cons_zero, List.set_cons_succ, i64_w, i32_w]
                    rfl
                  refine pure_ (i := 4) (N := some 21) (v := ?_) (a' := ?_) #[true, true, true, true, true, false, false, false, false, false, false, false, false, false, false, false, false, false, false, false, false, false, false] rfl rfl (any_of HT_.out (by kernel_rfl)) (fun _ _ _ h => h) (Or.inl ⟨by rfl, ?_⟩) ?_ ?_
                  rotate_left
                  · intro w'
                    go_simp
                    with_reducible rfl
                  rotate_left
                  · simp only [Act.put, List.setIfInBounds_toArray, List.set_cons_zero, List.set_cons_succ, i64_w, i32_w]
                    rfl
                  refine pure_ (i := 6) (N := some 23) (v := ?_) (a' := ?_) #[true, true, true, true, true, false, true, false, false, false, false, false, false, false, false, false, false, false, false, false, false, false, false] rfl rfl (any_of HT_.out (by kernel_rfl)) (fun _ _ _ h => h) (Or.inl ⟨by rfl, ?_⟩) ?_ ?_
                  rotate_left
                  · intro w'
                    go_simp
                    with_reducible rfl
                  rotate_left
                  · simp only [Act.put, List.setIfInBounds_toArray, List.set_cons_zero, List.set_cons_succ, i64_w, i32_w]
                    rfl
                  refine pure_ (i := 7) (N := some 24) (v := ?_) (a' := ?_) #[true, true, true, true, true, false, true, true, false, false, false, false, false, false, false, false, false, false, false, false, false, false, false] rfl rfl (any_of HT_.out (by kernel_rfl)) (fun _ _ _ h => h) (Or.inl ⟨by rfl, ?_⟩) ?_ ?_
                  rotate_left
                  · intro w'
                    go_simp
                    with_reducible rfl
                  rotate_left
                  · simp only [Act.put, List.setIfInBounds_toArray, List.set_cons_zero, List.set_cons_succ, i64_w, i32_w]
                    rfl
                  refine pure_ (i := 8) (N := some 25) (v := ?_) (a' := ?_) #[true, true, true, true, true, false, true, true, true, false, false, false, false, false, false, false, false, false, false, false, false, false, false] rfl rfl (any_of HT_.out (by kernel_rfl)) (fun _ _ _ h => h) (Or.inl ⟨by rfl, ?_⟩) ?_ ?_
                  rotate_left
                  · intro w'
                    go_simp
                    with_reducible rfl
                  rotate_left
                  · simp only [Act.put, List.setIfInBounds_toArray, List.set_cons_zero, List.set_cons_succ, i64_w, i32_w]
                    rfl
                  refine pure_ (i := 9) (N := some 26) (v := ?_) (a' := ?_) #[true, true, true, true, true, false, true, true, true, true, false, false, false, false, false, false, false, false, false, false, false, false, false] rfl rfl (any_of HT_.out (by kernel_rfl)) (fun _ _ _ h => h) (Or.inl ⟨by rfl, ?_⟩) ?_ ?_
                  rotate_left
                  · intro w'
                    go_simp
                    with_reducible rfl
                  rotate_left
                  · simp only [Act.put, List.setIfInBounds_toArray, List.set_cons_zero, List.set_cons_succ, i64_w, i32_w]
                    rfl
                  refine pure_ (i := 11) (N := some 28) (v := ?_) (a' := ?_) #[true, true, true, true, true, false, true, true, true, true, false, true, false, false, false, false, false, false, false, false, false, false, false] rfl rfl (any_of HT_.out (by kernel_rfl)) (fun _ _ _ h => h) (Or.inl ⟨by rfl, ?_⟩) ?_ ?_
                  rotate_left
                  · intro w'
                    go_simp
                    with_reducible rfl
                  rotate_left
                  · simp only [Act.put, List.setIfInBounds_toArray, List.set_cons_zero, List.set_cons_succ, i64_w, i32_w]
                    rfl
                  refine pure_ (i := 12) (N := some 29) (v := ?_) (a' := ?_) #[true, true, true, true, true, false, true, true, true, true, false, true, true, false, false, false, false, false, false, false, false, false, false] rfl rfl (any_of HT_.out (by kernel_rfl)) (fun _ _ _ h => h) (Or.inl ⟨by rfl, ?_⟩) ?_ ?_
                  rotate_left
                  · intro w'
                    go_simp
                    with_reducible rfl
                  rotate_left
                  · simp only [Act.put, List.setIfInBounds_toArray, List.set_cons_zero, List.set_cons_succ, i64_w, i32_w]
                    rfl
                  refine pure_ (i := 13) (N := some 30) (v := ?_) (a' := ?_) #[true, true, true, true, true, false, true, true, true, true, false, true, true, true, false, false, false, false, false, false, false, false, false] rfl rfl (any_of HT_.out (by kernel_rfl)) (fun _ _ _ h => h) (Or.inl ⟨by rfl, ?_⟩) ?_ ?_
                  rotate_left
                  · intro w'
                    go_simp
                    with_reducible rfl
                  rotate_left
                  · simp only [Act.put, List.setIfInBounds_toArray, List.set_cons_zero, List.set_cons_succ, i64_w, i32_w]
                    rfl
                  refine pure_ (i := 14) (N := some 31) (v := ?_) (a' := ?_) #[true, true, true, true, true, false, true, true, true, true, false, true, true, true, true, false, false, false, false, false, false, false, false] rfl rfl (any_of HT_.out (by kernel_rfl)) (fun _ _ _ h => h) (Or.inl ⟨by rfl, ?_⟩) ?_ ?_
                  rotate_left
                  · intro w'
                    go_simp
                    with_reducible rfl
                  rotate_left
                  · simp only [Act.put, List.setIfInBounds_toArray, List.set_cons_zero, List.set_cons_succ, i64_w, i32_w]
                    rfl
                  refine pure_ (i := 16) (N := some 33) (v := ?_) (a' := ?_) #[true, true, true, true, true, false, true, true, true, true, false, true, true, true, true, false, true, false, false, false, false, false, false] rfl rfl (any_of HT_.out (by kernel_rfl)) (fun _ _ _ h => h) (Or.inl ⟨by rfl, ?_⟩) ?_ ?_
                  rotate_left
                  · intro w'
                    go_simp
                    with_reducible rfl
                  rotate_left
                  · simp only [Act.put, List.setIfInBounds_toArray, List.set_cons_zero, List.set_cons_succ, i64_w, i32_w]
                    rfl
                  refine pure_ (i := 17) (N := some 34) (v := ?_) (a' := ?_) #[true, true, true, true, true, false, true, true, true, true, false, true, true, true, true, false, true, true, false, false, false, false, false] rfl rfl (any_of HT_.out (by kernel_rfl)) (fun _ _ _ h => h) (Or.inl ⟨by rfl, ?_⟩) ?_ ?_
                  rotate_left
                  · intro w'
                    go_simp
                    with_reducible rfl
                  rotate_left
                  · simp only [Act.put, List.setIfInBounds_toArray, List.set_cons_zero, List.set_cons_succ, i64_w, i32_w]
                    rfl
                  refine pure_ (i := 18) (N := some 35) (v := ?_) (a' := ?_) #[true, true, true, true, true, false, true, true, true, true, false, true, true, true, true, false, true, true, true, false, false, false, false] rfl rfl (any_of HT_.out (by kernel_rfl)) (fun _ _ _ h => h) (Or.inl ⟨by rfl, ?_⟩) ?_ ?_
                  rotate_left
                  · intro w'
                    go_simp
                    with_reducible rfl
                  rotate_left
                  · simp only [Act.put, List.setIfInBounds_toArray, List.set_cons_zero, List.set_cons_succ, i64_w, i32_w]
                    rfl
                  refine pure_ (i := 19) (N := some 36) (v := ?_) (a' := ?_) #[true, true, true, true, true, false, true, true, true, true, false, true, true, true, true, false, true, true, true, true, false, false, false] rfl rfl (any_of HT_.out (by kernel_rfl)) (fun _ _ _ h => h) (Or.inl ⟨by rfl, ?_⟩) ?_ ?_
                  rotate_left
                  · intro w'
                    go_simp
                    with_reducible rfl
                  rotate_left
                  · simp only [Act.put, List.setIfInBounds_toArray, List.set_cons_zero, List.set_cons_succ, i64_w, i32_w]
                    rfl
                  refine take_ (i := 5) (N := some 22) (v := ?_) (a' := ?_) #[true, true, true, true, true, true, true, true, true, true, false, true, true, true, true, false, true, true, true, true, false, false, false] rfl rfl (take_ofW HT_.out HW_.out (by kernel_rfl)) (fun _ _ _ h => h) (Or.inl ⟨by rfl, ?_⟩) hHeld ?_ ?_
                  rotate_left
                  · rintro w' ⟨s0, s1, s2, s3, s4, s5, s6, s7, s8, s9, s10, s11, s12, s13, s14, s15⟩
                    go_simp
                    with_reducible rfl
                  rotate_left
                  · simp only [Act.put, List.setIfInBounds_toArray, List.set_cons_zero, List.set_cons_succ, i64_w, i32_w]
                    rfl
                  refine take_ (i := 10) (N := some 27) (v := ?_) (a' := ?_) #[true, true, true, true, true, true, true, true, true, true, true, true, true, true, true, false, true, true, true, true, false, false, false] rfl rfl (take_ofW HT_.out HW_.out (by kernel_rfl)) (fun _ _ _ h => h) (Or.inl ⟨by rfl, ?_⟩) hHeld ?_ ?_
                  rotate_left
                  · rintro w' ⟨s0, s1, s2, s3, s4, s5, s6, s7, s8, s9, s10, s11, s12, s13, s14, s15⟩
                    go_simp
                    with_reducible rfl
                  rotate_left
                  · simp only [Act.put, List.setIfInBounds_toArray, List.set_cons_zero, List.set_cons_succ, i64_w, i32_w]
                    rfl
                  refine take_ (i := 15) (N := some 32) (v := ?_) (a' := ?_) #[true, true, true, true, true, true, true, true, true, true, true, true, true, true, true, true, true, true, true, true, false, false, false] rfl rfl (take_ofW HT_.out HW_.out (by kernel_rfl)) (fun _ _ _ h => h) (Or.inl ⟨by rfl, ?_⟩) hHeld ?_ ?_
                  rotate_left
                  · rintro w' ⟨s0, s1, s2, s3, s4, s5, s6, s7, s8, s9, s10, s11, s12, s13, s14, s15⟩
                    go_simp
                    with_reducible rfl
                  rotate_left
                  · simp only [Act.put, List.setIfInBounds_toArray, List.set_cons_zero, List.set_cons_succ, i64_w, i32_w]
                    rfl
                  refine take_ (i := 20) (N := some 37) (v := ?_) (a' := ?_) #[true, true, true, true, true, true, true, true, true, true, true, true, true, true, true, true, true, true, true, true, true, false, false] rfl rfl (take_ofW HT_.out HW_.out (by kernel_rfl)) (fun _ _ _ h => h) (Or.inl ⟨by rfl, ?_⟩) hHeld ?_ ?_
                  rotate_left
                  · rintro w' ⟨s0, s1, s2, s3, s4, s5, s6, s7, s8, s9, s10, s11, s12, s13, s14, s15⟩
                    go_simp
                    with_reducible rfl
                  rotate_left
                  · simp only [Act.put, List.setIfInBounds_toArray, List.set_cons_zero, List.set_cons_succ, i64_w, i32_w]
                    rfl
                  refine one_ (i := 21) (N := some 38) #[true, true, true, true, true, true, true, true, true, true, true, true, true, true, true, true, true, true, true, true, true, true, false] rfl rfl (one_of HT_.out (by kernel_rfl)) (by decide) (fun K hK => ?_)
                  refine goes_ Try.func28 (by kernel_rfl) rfl #[.pointer (some ⟨g488, 0, none⟩), .int .i64 ((rd_T51 l0 x4_1).f0), .int .i64 ((rd_T51 l0 x4_1).f1), .int .i64 ((rd_T51 l0 x4_1).f2), .int .i64 ((rd_T51 l0 x4_1).f3)] (by rfl) rfl rfl (by (try simp only [List.map_toArray, List.map_cons, List.map_nil]); first | done | rfl | (simp only [List.length_drop, List.length_take]; rfl)) ?_
                  with_reducible refine (detect_Detector_Add.calls kj3 g488 x489000_1 x489001_1 x489002_1 x489003_1 x489004_1 x489005_1 ((rd_T51 l0 x4_1).f0) ((rd_T51 l0 x4_1).f1) ((rd_T51 l0 x4_1).f2) ((rd_T51 l0 x4_1).f3) t494 t495 t496 t497 t498 t499 t500 w _ ?side1 ?side2 A9.out).mono ?_
                  (case side1 => repeat (first | (with_reducible first | exact HI488.out | apply IsS75.alloc | apply IsS75.drewN | apply IsS75.drew | apply IsS75.set_0 | apply IsS75.set_1 | apply IsS75.set_2 | apply IsS75.set_3 | apply IsS75.set_4 | apply IsS75.set_5) | exact HI488.out))
                  (case side2 => repeat (first | (with_reducible first | exact HB.out | apply below_alloc | apply pw_below_drewN | apply below_drew1 | refine below_set ?_ (IsS75.ge HI488.out)) | exact HB.out))
                  rintro e w12 ⟨rfl, hi, hb, hk⟩
                  refine ⟨_, rfl, ?_⟩
                  have n0_ := Aside0.mk (hb)
                  have n1_ := Aside0.mk (hi)
                  clear HB
                  clear HI488
                  have HB := n0_
                  have HI488 := n1_
                  clear n0_ n1_
                  (try clear hb)
                  (try clear hb2)
                  (try clear hk)
                  (try clear hi)
                  refine hK.out _ _ ⟨((HB.out.cell (World.block_lt_of_cell? w _ hw490_0)).trans hw490_0), ((HB.out.cell (World.block_lt_of_cell? w _ hw490_1)).trans hw490_1), ((HB.out.cell (World.block_lt_of_cell? w _ hw490_2)).trans hw490_2), ((HB.out.cell (World.block_lt_of_cell? w _ hw490_3)).trans hw490_3), ((HB.out.cell (World.block_lt_of_cell? w _ hw491_0)).trans hw491_0), ((HB.out.cell (World.block_lt_of_cell? w _ hw491_1)).trans hw491_1), ((HB.out.cell (World.block_lt_of_cell? w _ hw491_2)).trans hw491_2), ((HB.out.cell (World.block_lt_of_cell? w _ hw491_3)).trans hw491_3), ((HB.out.cell (World.block_lt_of_cell? w _ hw492_0)).trans hw492_0), ((HB.out.cell (World.block_lt_of_cell? w _ hw492_1)).trans hw492_1), ((HB.out.cell (World.block_lt_of_cell? w _ hw492_2)).trans hw492_2), ((HB.out.cell (World.block_lt_of_cell? w _ hw492_3)).trans hw492_3), ((HB.out.cell (World.block_lt_of_cell? w _ hw493_0)).trans hw493_0), ((HB.out.cell (World.block_lt_of_cell? w _ hw493_1)).trans hw493_1), ((HB.out.cell (World.block_lt_of_cell? w _ hw493_2)).trans hw493_2), ((HB.out.cell (World.block_lt_of_cell? w _ hw493_3)).trans hw493_3)⟩ (fun hHeld => ?_)
                  clear hK K
                  refine norm_ (a' := ?_) ?_ ?_
                  rotate_left
                  · show Act.put _ (some 38) _ = _
                    simp only [Act.put, List.setIfInBounds_toArray, List.set_cons_zero, List.set_cons_succ, i64_w, i32_w]
                    rfl
                  refine pure_ (i := 22) (N := some 5) (v := ?_) (a' := ?_) #[true, true, true, true, true, true, true, true, true, true, true, true, true, true, true, true, true, true, true, true, true, true, true] rfl rfl (any_of HT_.out (by kernel_rfl)) (fun _ _ _ h => h) (Or.inl ⟨by rfl, ?_⟩) ?_ ?_
                  rotate_left
                  · intro w'
                    go_simp
                    with_reducible rfl
                  rotate_left
                  · simp only [Act.put, List.setIfInBounds_toArray, List.set_cons_zero, List.set_cons_succ, i64_w, i32_w]
                    rfl
                  refine done_ (done_of HT_.out (by kernel_rfl)) ?_
                  try go_wp2
                  go_ret
                  exact ⟨by first | rfl | (simp [errW_none, errW_some] <;> rfl) | (simp [*, errW_none, errW_some] <;> rfl), by repeat (first | (with_reducible first | exact HB.out | apply below_alloc | apply pw_below_drewN | apply below_drew1 | refine below_set ?_ (IsS75.ge HI488.out)) | exact HB.out)⟩
                · rw [if_neg c10] at H
                  have c10b0 : decide (t494 < 0) = false := decide_eq_false c10
                  clear c10
                  by_cases c13 : t494 > 2
                  · rw [if_pos c13] at H
                    have c13b0 : decide (2 < t494) = true := decide_eq_true c13
                    clear c13
                    obtain rfl := Option.some.inj H
                    try go_wp2
                    have n0_ := Aside0.mk (IsS75.drew HI488.out)
                    have n1_ := Aside0.mk (below_drew1 HB.out)
                    clear HI488
                    clear HB
                    have HI488 := n0_
                    have HB := n1_
                    clear n0_ n1_
                    have p490 : 0 ≤ (x4_1 : Int) := of_decide_eq_true (by first | (with_reducible assumption) | assumption)
                    have q490 : x4_1 < (l0.length : Int) := of_decide_eq_true (by first | (with_reducible assumption) | assumption)
                    obtain ⟨ad490, e490, hx490_0, hx490_1, hx490_2, hx490_3⟩ := at_T51 HR0.out x4_1 p490 q490
                    have hw490_3 := hx490_3
                    have hw490_2 := hx490_2
                    have hw490_1 := hx490_1
                    have hw490_0 := hx490_0
                    cases e490
                    replace hx490_0 := (HB.out.cell (World.block_lt_of_cell? w _ hx490_0)).trans hx490_0
                    replace hx490_1 := (HB.out.cell (World.block_lt_of_cell? w _ hx490_1)).trans hx490_1
                    replace hx490_2 := (HB.out.cell (World.block_lt_of_cell? w _ hx490_2)).trans hx490_2
                    replace hx490_3 := (HB.out.cell (World.block_lt_of_cell? w _ hx490_3)).trans hx490_3
                    replace p490 := eq_true p490
                    replace q490 := eq_true q490
                    have p491 : 0 ≤ (x4_1 : Int) := of_decide_eq_true (by first | (with_reducible assumption) | assumption)
                    have q491 : x4_1 < (l0.length : Int) := of_decide_eq_true (by first | (with_reducible assumption) | assumption)
                    obtain ⟨ad491, e491, hx491_0, hx491_1, hx491_2, hx491_3⟩ := at_T51 HR0.out x4_1 p491 q491
                    have hw491_3 := hx491_3
                    have hw491_2 := hx491_2
                    have hw491_1 := hx491_1
                    have hw491_0 := hx491_0
                    obtain rfl : ad490 = ad491 := (by injection e491)
                    replace hx491_0 := (HB.out.cell (World.block_lt_of_cell? w _ hx491_0)).trans hx491_0
                    replace hx491_1 := (HB.out.cell (World.block_lt_of_cell? w _ hx491_1)).trans hx491_1
                    replace hx491_2 := (HB.out.cell (World.block_lt_of_cell? w _ hx491_2)).trans hx491_2
                    replace hx491_3 := (HB.out.cell (World.block_lt_of_cell? w _ hx491_3)).trans hx491_3
                    replace p491 := eq_true p491
                    replace q491 := eq_true q491
                    have p492 : 0 ≤ (x4_1 : Int) := of_decide_eq_true (by first | (with_reducible assumption) | assumption)
                    have q492 : x4_1 < (l0.length : Int) := of_decide_eq_true (by first | (with_reducible assumption) | assumption)
                    obtain ⟨ad492, e492, hx492_0, hx492_1, hx492_2, hx492_3⟩ := at_T51 HR0.out x4_1 p492 q492
                    have hw492_3 := hx492_3
                    have hw492_2 := hx492_2
                    have hw492_1 := hx492_1
                    have hw492_0 := hx492_0
                    obtain rfl : ad490 = ad492 := (by injection e492)
                    replace hx492_0 := (HB.out.cell (World.block_lt_of_cell? w _ hx492_0)).trans hx492_0
                    replace hx492_1 := (HB.out.cell (World.block_lt_of_cell? w _ hx492_1)).trans hx492_1
                    replace hx492_2 := (HB.out.cell (World.block_lt_of_cell? w _ hx492_2)).trans hx492_2
                    replace hx492_3 := (HB.out.cell (World.block_lt_of_cell? w _ hx492_3)).trans hx492_3
                    replace p492 := eq_true p492
                    replace q492 := eq_true q492
                    have p493 : 0 ≤ (x4_1 : Int) := of_decide_eq_true (by first | (with_reducible assumption) | assumption)
                    have q493 : x4_1 < (l0.length : Int) := of_decide_eq_true (by first | (with_reducible assumption) | assumption)
                    obtain ⟨ad493, e493, hx493_0, hx493_1, hx493_2, hx493_3⟩ := at_T51 HR0.out x4_1 p493 q493
                    have hw493_3 := hx493_3
                    have hw493_2 := hx493_2
                    have hw493_1 := hx493_1
                    have hw493_0 := hx493_0
                    obtain rfl : ad490 = ad493 := (by injection e493)
                    replace hx493_0 := (HB.out.cell (World.block_lt_of_cell? w _ hx493_0)).trans hx493_0
                    replace hx493_1 := (HB.out.cell (World.block_lt_of_cell? w _ hx493_1)).trans hx493_1
                    replace hx493_2 := (HB.out.cell (World.block_lt_of_cell? w _ hx493_2)).trans hx493_2
                    replace hx493_3 := (HB.out.cell (World.block_lt_of_cell? w _ hx493_3)).trans hx493_3
                    replace p493 := eq_true p493
                    replace q493 := eq_true q493
                    refine start_ (n := 23) (S := fun w' => w'.cell? (ad490.add ((x4_1).toNat * 4)) = some (.int .i64 ((rd_T51 l0 x4_1).f0)) ∧ w'.cell? ⟨(ad490.add ((x4_1).toNat * 4)).block, (ad490.add ((x4_1).toNat * 4)).off + 1, none⟩ = some (.int .i64 ((rd_T51 l0 x4_1).f1)) ∧ w'.cell? ⟨(ad490.add ((x4_1).toNat * 4)).block, (ad490.add ((x4_1).toNat * 4)).off + 2, none⟩ = some (.int .i64 ((rd_T51 l0 x4_1).f2)) ∧ w'.cell? ⟨(ad490.add ((x4_1).toNat * 4)).block, (ad490.add ((x4_1).toNat * 4)).off + 3, none⟩ = some (.int .i64 ((rd_T51 l0 x4_1).f3)) ∧ w'.cell? (ad490.add ((x4_1).toNat * 4)) = some (.int .i64 ((rd_T51 l0 x4_1).f0)) ∧ w'.cell? ⟨(ad490.add ((x4_1).toNat * 4)).block, (ad490.add ((x4_1).toNat * 4)).off + 1, none⟩ = some (.int .i64 ((rd_T51 l0 x4_1).f1)) ∧ w'.cell? ⟨(ad490.add ((x4_1).toNat * 4)).block, (ad490.add ((x4_1).toNat * 4)).off + 2, none⟩ = some (.int .i64 ((rd_T51 l0 x4_1).f2)) ∧ w'.cell? ⟨(ad490.add ((x4_1).toNat * 4)).block, (ad490.add ((x4_1).toNat * 4)).off + 3, none⟩ = some (.int .i64 ((rd_T51 l0 x4_1).f3)) ∧ w'.cell? (ad490.add ((x4_1).toNat * 4)) = some (.int .i64 ((rd_T51 l0 x4_1).f0)) ∧ w'.cell? ⟨(ad490.add ((x4_1).toNat * 4)).block, (ad490.add ((x4_1).toNat * 4)).off + 1, none⟩ = some (.int .i64 ((rd_T51 l0 x4_1).f1)) ∧ w'.cell? ⟨(ad490.add ((x4_1).toNat * 4)).block, (ad490.add ((x4_1).toNat * 4)).off + 2, none⟩ = some (.int .i64 ((rd_T51 l0 x4_1).f2)) ∧ w'.cell? ⟨(ad490.add ((x4_1).toNat * 4)).block, (ad490.add ((x4_1).toNat * 4)).off + 3, none⟩ = some (.int .i64 ((rd_T51 l0 x4_1).f3)) ∧ w'.cell? (ad490.add ((x4_1).toNat * 4)) = some (.int .i64 ((rd_T51 l0 x4_1).f0)) ∧ w'.cell? ⟨(ad490.add ((x4_1).toNat * 4)).block, (ad490.add ((x4_1).toNat * 4)).off + 1, none⟩ = some (.int .i64 ((rd_T51 l0 x4_1).f1)) ∧ w'.cell? ⟨(ad490.add ((x4_1).toNat * 4)).block, (ad490.add ((x4_1).toNat * 4)).off + 2, none⟩ = some (.int .i64 ((rd_T51 l0 x4_1).f2)) ∧ w'.cell? ⟨(ad490.add ((x4_1).toNat * 4)).block, (ad490.add ((x4_1).toNat * 4)).off + 3, none⟩ = some (.int .i64 ((rd_T51 l0 x4_1).f3))) (ds := []) #[false, false, false, false, false, false, false, false, false, false, false, false, false, false, false, false, false, false, false, false, false, false, false] (by kernel_rfl) rfl rfl ⟨((HB.out.cell (World.block_lt_of_cell? w _ hw490_0)).trans hw490_0), ((HB.out.cell (World.block_lt_of_cell? w _ hw490_1)).trans hw490_1), ((HB.out.cell (World.block_lt_of_cell? w _ hw490_2)).trans hw490_2), ((HB.out.cell (World.block_lt_of_cell? w _ hw490_3)).trans hw490_3), ((HB.out.cell (World.block_lt_of_cell? w _ hw491_0)).trans hw491_0), ((HB.out.cell (World.block_lt_of_cell? w _ hw491_1)).trans hw491_1), ((HB.out.cell (World.block_lt_of_cell? w _ hw491_2)).trans hw491_2), ((HB.out.cell (World.block_lt_of_cell? w _ hw491_3)).trans hw491_3), ((HB.out.cell (World.block_lt_of_cell? w _ hw492_0)).trans hw492_0), ((HB.out.cell (World.block_lt_of_cell? w _ hw492_1)).trans hw492_1), ((HB.out.cell (World.block_lt_of_cell? w _ hw492_2)).trans hw492_2), ((HB.out.cell (World.block_lt_of_cell? w _ hw492_3)).trans hw492_3), ((HB.out.cell (World.block_lt_of_cell? w _ hw493_0)).trans hw493_0), ((HB.out.cell (World.block_lt_of_cell? w _ hw493_1)).trans hw493_1), ((HB.out.cell (World.block_lt_of_cell? w _ hw493_2)).trans hw493_2), ((HB.out.cell (World.block_lt_of_cell? w _ hw493_3)).trans hw493_3)⟩ (fun hHeld => ?_); refine with_tabW flywheellaw18_DetectHolds.tab5 flywheellaw18_DetectHolds.bits5 (fun HT_ HW_ => ?_)
                    generalize wc.drew = w14 at HI488 HB hx490_0 hx490_1 hx490_2 hx490_3 hx491_0 hx491_1 hx491_2 hx491_3 hx492_0 hx492_1 hx492_2 hx492_3 hx493_0 hx493_1 hx493_2 hx493_3 hHeld ⊢
                    refine pure_ (i := 0) (N := some 17) (v := ?_) (a' := ?_) #[true, false, false, false, false, false, false, false, false, false, false, false, false, false, false, false, false, false, false, false, false, false, false] rfl rfl (any_of HT_.out (by kernel_rfl)) (fun _ _ _ h => h) (Or.inl ⟨by rfl, ?_⟩) ?_ ?_
                    rotate_left
                    · intro w'
                      go_simp
                      with_reducible rfl
                    rotate_left
                    · simp only [Act.put, List.setIfInBounds_toArray, List.set_cons_zero, List.set_cons_succ, i64_w, i32_w]
                      rfl
                    refine pure_ (i := 1) (N := some 18) (v := ?_) (a' := ?_) #[true, true, false, false, false, false, false, false, false, false, false, false, false, false, false, false, false, false, false, false, false, false, false] rfl rfl (any_of HT_.out (by kernel_rfl)) (fun _ _ _ h => h) (Or.inl ⟨by rfl, ?_⟩) ?_ ?_
                    rotate_left
                    · intro w'
                      go_simp
                      with_reducible rfl
                    rotate_left
                    · simp only [Act.put, List.setIfInBounds_toArray, List.set_cons_zero, List.set_cons_succ, i64_w, i32_w]
                      rfl
                    refine pure_ (i := 2) (N := some 19) (v := ?_) (a' := ?_) #[true, true, true, false, false, false, false, false, false, false, false, false, false, false, false, false, false, false, false, false, false, false, false] rfl rfl (any_of HT_.out (by kernel_rfl)) (fun _ _ _ h => h) (Or.inl ⟨by rfl, ?_⟩) ?_ ?_
                    rotate_left
                    · intro w'
                      go_simp
                      with_reducible rfl
                    rotate_left
                    · simp only [Act.put, List.setIfInBounds_toArray, List.set_cons_zero, List.set_cons_succ, i64_w, i32_w]
                      rfl
                    refine pure_ (i := 3) (N := some 20) (v := ?_) (a' := ?_) #[true, true, true, true, false, false, false, false, false, false, false, false, false, false, false, false, false, false, false, false, false, false, false] rfl rfl (any_of HT_.out (by kernel_rfl)) (fun _ _ _ h => h) (Or.inl ⟨by rfl, ?_⟩) ?_ ?_
                    rotate_left
                    · intro w'
                      go_simp
                      with_reducible rfl
                    rotate_left
                    · simp only [Act.put, List.setIfInBounds_toArray, List.set_cons_zero, List.set_cons_succ, i64_w, i32_w]
                      rfl
                    refine pure_ (i := 4) (N := some 21) (v := ?_) (a' := ?_) #[true, true, true, true, true, false, false, false, false, false, false, false, false, false, false, false, false, false, false, false, false, false, false] rfl rfl (any_of HT_.out (by kernel_rfl)) (fun _ _ _ h => h) (Or.inl ⟨by rfl, ?_⟩) ?_ ?_
                    rotate_left
                    · intro w'
                      go_simp
                      with_reducible rfl
                    rotate_left
                    · simp only [Act.put, List.setIfInBounds_toArray, List.set_cons_zero, List.set_cons_succ, i64_w, i32_w]
                      rfl
                    refine pure_ (i := 6) (N := some 23) (v := ?_) (a' := ?_) #[true, true, true, true, true, false, true, false, false, false, false, false, false, false, false, false, false, false, false, false, false, false, false] rfl rfl (any_of HT_.out (by kernel_rfl)) (fun _ _ _ h => h) (Or.inl ⟨by rfl, ?_⟩) ?_ ?_
                    rotate_left
                    · intro w'
                      go_simp
                      with_reducible rfl
                    rotate_left
                    · simp only [Act.put, List.setIfInBounds_toArray, List.set_cons_zero, List.set_cons_succ, i64_w, i32_w]
                      rfl
                    refine pure_ (i := 7) (N := some 24) (v := ?_) (a' := ?_) #[true, true, true, true, true, false, true, true, false, false, false, false, false, false, false, false, false, false, false, false, false, false, false] rfl rfl (any_of HT_.out (by kernel_rfl)) (fun _ _ _ h => h) (Or.inl ⟨by rfl, ?_⟩) ?_ ?_
                    rotate_left
                    · intro w'
                      go_simp
                      with_reducible rfl
                    rotate_left
                    · simp only [Act.put, List.setIfInBounds_toArray, List.set_cons_zero, List.set_cons_succ, i64_w, i32_w]
                      rfl
                    refine pure_ (i := 8) (N := some 25) (v := ?_) (a' := ?_) #[true, true, true, true, true, false, true, true, true, false, false, false, false, false, false, false, false, false, false, false, false, false, false] rfl rfl (any_of HT_.out (by kernel_rfl)) (fun _ _ _ h => h) (Or.inl ⟨by rfl, ?_⟩) ?_ ?_
                    rotate_left
                    · intro w'
                      go_simp
                      with_reducible rfl
                    rotate_left
                    · simp only [Act.put, List.setIfInBounds_toArray, List.set_cons_zero, List.set_cons_succ, i64_w, i32_w]
                      rfl
                    refine pure_ (i := 9) (N := some 26) (v := ?_) (a' := ?_) #[true, true, true, true, true, false, true, true, true, true, false, false, false, false, false, false, false, false, false, false, false, false, false] rfl rfl (any_of HT_.out (by kernel_rfl)) (fun _ _ _ h => h) (Or.inl ⟨by rfl, ?_⟩) ?_ ?_
                    rotate_left
                    · intro w'
                      go_simp
                      with_reducible rfl
                    rotate_left
                    · simp only [Act.put, List.setIfInBounds_toArray, List.set_cons_zero, List.set_cons_succ, i64_w, i32_w]
                      rfl
                    refine pure_ (i := 11) (N := some 28) (v := ?_) (a' := ?_) #[true, true, true, true, true, false, true, true, true, true, false, true, false, false, false, false, false, false, false, false, false, false, false] rfl rfl (any_of HT_.out (by kernel_rfl)) (fun _ _ _ h => h) (Or.inl ⟨by rfl, ?_⟩) ?_ ?_
                    rotate_left
                    · intro w'
                      go_simp
                      with_reducible rfl
                    rotate_left
                    · simp only [Act.put, List.setIfInBounds_toArray, List.set_cons_zero, List.set_cons_succ, i64_w, i32_w]
                      rfl
                    refine pure_ (i := 12) (N := some 29) (v := ?_) (a' := ?_) #[true, true, true, true, true, false, true, true, true, true, false, true, true, false, false, false, false, false, false, false, false, false, false] rfl rfl (any_of HT_.out (by kernel_rfl)) (fun _ _ _ h => h) (Or.inl ⟨by rfl, ?_⟩) ?_ ?_
                    rotate_left
                    · intro w'
                      go_simp
                      with_reducible rfl
                    rotate_left
                    · simp only [Act.put, List.setIfInBounds_toArray, List.set_cons_zero, List.set_cons_succ, i64_w, i32_w]
                      rfl
                    refine pure_ (i := 13) (N := some 30) (v := ?_) (a' := ?_) #[true, true, true, true, true, false, true, true, true, true, false, true, true, true, false, false, false, false, false, false, false, false, false] rfl rfl (any_of HT_.out (by kernel_rfl)) (fun _ _ _ h => h) (Or.inl ⟨by rfl, ?_⟩) ?_ ?_
                    rotate_left
                    · intro w'
                      go_simp
                      with_reducible rfl
                    rotate_left
                    · simp only [Act.put, List.setIfInBounds_toArray, List.set_cons_zero, List.set_cons_succ, i64_w, i32_w]
                      rfl
                    refine pure_ (i := 14) (N := some 31) (v := ?_) (a' := ?_) #[true, true, true, true, true, false, true, true, true, true, false, true, true, true, true, false, false, false, false, false, false, false, false] rfl rfl (any_of HT_.out (by kernel_rfl)) (fun _ _ _ h => h) (Or.inl ⟨by rfl, ?_⟩) ?_ ?_
                    rotate_left
                    · intro w'
                      go_simp
                      with_reducible rfl
                    rotate_left
                    · simp only [Act.put, List.setIfInBounds_toArray, List.set_cons_zero, List.set_cons_succ, i64_w, i32_w]
                      rfl
                    refine pure_ (i := 16) (N := some 33) (v := ?_) (a' := ?_) #[true, true, true, true, true, false, true, true, true, true, false, true, true, true, true, false, true, false, false, false, false, false, false] rfl rfl (any_of HT_.out (by kernel_rfl)) (fun _ _ _ h => h) (Or.inl ⟨by rfl, ?_⟩) ?_ ?_
                    rotate_left
                    · intro w'
                      go_simp
                      with_reducible rfl
                    rotate_left
                    · simp only [Act.put, List.setIfInBounds_toArray, List.set_cons_zero, List.set_cons_succ, i64_w, i32_w]
                      rfl
                    refine pure_ (i := 17) (N := some 34) (v := ?_) (a' := ?_) #[true, true, true, true, true, false, true, true, true, true, false, true, true, true, true, false, true, true, false, false, false, false, false] rfl rfl (any_of HT_.out (by kernel_rfl)) (fun _ _ _ h => h) (Or.inl ⟨by rfl, ?_⟩) ?_ ?_
                    rotate_left
                    · intro w'
                      go_simp
                      with_reducible rfl
                    rotate_left
                    · simp only [Act.put, List.setIfInBounds_toArray, List.set_cons_zero, List.set_cons_succ, i64_w, i32_w]
                      rfl
                    refine pure_ (i := 18) (N := some 35) (v := ?_) (a' := ?_) #[true, true, true, true, true, false, true, true, true, true, false, true, true, true, true, false, true, true, true, false, false, false, false] rfl rfl (any_of HT_.out (by kernel_rfl)) (fun _ _ _ h => h) (Or.inl ⟨by rfl, ?_⟩) ?_ ?_
                    rotate_left
                    · intro w'
                      go_simp
                      with_reducible rfl
                    rotate_left
                    · simp only [Act.put, List.setIfInBounds_toArray, List.set_cons_zero, List.set_cons_succ, i64_w, i32_w]
                      rfl
                    refine pure_ (i := 19) (N := some 36) (v := ?_) (a' := ?_) #[true, true, true, true, true, false, true, true, true, true, false, true, true, true, true, false, true, true, true, true, false, false, false] rfl rfl (any_of HT_.out (by kernel_rfl)) (fun _ _ _ h => h) (Or.inl ⟨by rfl, ?_⟩) ?_ ?_
                    rotate_left
                    · intro w'
                      go_simp
                      with_reducible rfl
                    rotate_left
                    · simp only [Act.put, List.setIfInBounds_toArray, List.set_cons_zero, List.set_cons_succ, i64_w, i32_w]
                      rfl
                    refine take_ (i := 5) (N := some 22) (v := ?_) (a' := ?_) #[true, true, true, true, true, true, true, true, true, true, false, true, true, true, true, false, true, true, true, true, false, false, false] rfl rfl (take_ofW HT_.out HW_.out (by kernel_rfl)) (fun _ _ _ h => h) (Or.inl ⟨by rfl, ?_⟩) hHeld ?_ ?_
                    rotate_left
                    · rintro w' ⟨s0, s1, s2, s3, s4, s5, s6, s7, s8, s9, s10, s11, s12, s13, s14, s15⟩
                      go_simp
                      with_reducible rfl
                    rotate_left
                    · simp only [Act.put, List.setIfInBounds_toArray, List.set_cons_zero, List.set_cons_succ, i64_w, i32_w]
                      rfl
                    refine take_ (i := 10) (N := some 27) (v := ?_) (a' := ?_) #[true, true, true, true, true, true, true, true, true, true, true, true, true, true, true, false, true, true, true, true, false, false, false] rfl rfl (take_ofW HT_.out HW_.out (by kernel_rfl)) (fun _ _ _ h => h) (Or.inl ⟨by rfl, ?_⟩) hHeld ?_ ?_
                    rotate_left
                    · rintro w' ⟨s0, s1, s2, s3, s4, s5, s6, s7, s8, s9, s10, s11, s12, s13, s14, s15⟩
                      go_simp
                      with_reducible rfl
                    rotate_left
                    · simp only [Act.put, List.setIfInBounds_toArray, List.set_cons_zero, List.set_cons_succ, i64_w, i32_w]
                      rfl
                    refine take_ (i := 15) (N := some 32) (v := ?_) (a' := ?_) #[true, true, true, true, true, true, true, true, true, true, true, true, true, true, true, true, true, true, true, true, false, false, false] rfl rfl (take_ofW HT_.out HW_.out (by kernel_rfl)) (fun _ _ _ h => h) (Or.inl ⟨by rfl, ?_⟩) hHeld ?_ ?_
                    rotate_left
                    · rintro w' ⟨s0, s1, s2, s3, s4, s5, s6, s7, s8, s9, s10, s11, s12, s13, s14, s15⟩
                      go_simp
                      with_reducible rfl
                    rotate_left
                    · simp only [Act.put, List.setIfInBounds_toArray, List.set_cons_zero, List.set_cons_succ, i64_w, i32_w]
                      rfl
                    refine take_ (i := 20) (N := some 37) (v := ?_) (a' := ?_) #[true, true, true, true, true, true, true, true, true, true, true, true, true, true, true, true, true, true, true, true, true, false, false] rfl rfl (take_ofW HT_.out HW_.out (by kernel_rfl)) (fun _ _ _ h => h) (Or.inl ⟨by rfl, ?_⟩) hHeld ?_ ?_
                    rotate_left
                    · rintro w' ⟨s0, s1, s2, s3, s4, s5, s6, s7, s8, s9, s10, s11, s12, s13, s14, s15⟩
                      go_simp
                      with_reducible rfl
                    rotate_left
                    · simp only [Act.put, List.setIfInBounds_toArray, List.set_cons_zero, List.set_cons_succ, i64_w, i32_w]
                      rfl
                    refine one_ (i := 21) (N := some 38) #[true, true, true, true, true, true, true, true, true, true, true, true, true, true, true, true, true, true, true, true, true, true, false] rfl rfl (one_of HT_.out (by kernel_rfl)) (by decide) (fun K hK => ?_)
                    refine goes_ Try.func28 (by kernel_rfl) rfl #[.pointer (some ⟨g488, 0, none⟩), .int .i64 ((rd_T51 l0 x4_1).f0), .int .i64 ((rd_T51 l0 x4_1).f1), .int .i64 ((rd_T51 l0 x4_1).f2), .int .i64 ((rd_T51 l0 x4_1).f3)] (by rfl) rfl rfl (by (try simp only [List.map_toArray, List.map_cons, List.map_nil]); first | done | rfl | (simp only [List.length_drop, List.length_take]; rfl)) ?_
                    with_reducible refine (detect_Detector_Add.calls kj3 g488 x489000_1 x489001_1 x489002_1 x489003_1 x489004_1 x489005_1 ((rd_T51 l0 x4_1).f0) ((rd_T51 l0 x4_1).f1) ((rd_T51 l0 x4_1).f2) ((rd_T51 l0 x4_1).f3) t494 t495 t496 t497 t498 t499 t500 w _ ?side1 ?side2 A9.out).mono ?_
                    (case side1 => repeat (first | (with_reducible first | exact HI488.out | apply IsS75.alloc | apply IsS75.drewN | apply IsS75.drew | apply IsS75.set_0 | apply IsS75.set_1 | apply IsS75.set_2 | apply IsS75.set_3 | apply IsS75.set_4 | apply IsS75.set_5) | exact HI488.out))
                    (case side2 => repeat (first | (with_reducible first | exact HB.out | apply below_alloc | apply pw_below_drewN | apply below_drew1 | refine below_set ?_ (IsS75.ge HI488.out)) | exact HB.out))
                    rintro e w15 ⟨rfl, hi, hb, hk⟩
                    refine ⟨_, rfl, ?_⟩
                    have n0_ := Aside0.mk (hb)
                    have n1_ := Aside0.mk (hi)
                    clear HB
                    clear HI488
                    have HB := n0_
                    have HI488 := n1_
                    clear n0_ n1_
                    (try clear hb)
                    (try clear hb2)
                    (try clear hk)
                    (try clear hi)
                    refine hK.out _ _ ⟨((HB.out.cell (World.block_lt_of_cell? w _ hw490_0)).trans hw490_0), ((HB.out.cell (World.block_lt_of_cell? w _ hw490_1)).trans hw490_1), ((HB.out.cell (World.block_lt_of_cell? w _ hw490_2)).trans hw490_2), ((HB.out.cell (World.block_lt_of_cell? w _ hw490_3)).trans hw490_3), ((HB.out.cell (World.block_lt_of_cell? w _ hw491_0)).trans hw491_0), ((HB.out.cell (World.block_lt_of_cell? w _ hw491_1)).trans hw491_1), ((HB.out.cell (World.block_lt_of_cell? w _ hw491_2)).trans hw491_2), ((HB.out.cell (World.block_lt_of_cell? w _ hw491_3)).trans hw491_3), ((HB.out.cell (World.block_lt_of_cell? w _ hw492_0)).trans hw492_0), ((HB.out.cell (World.block_lt_of_cell? w _ hw492_1)).trans hw492_1), ((HB.out.cell (World.block_lt_of_cell? w _ hw492_2)).trans hw492_2), ((HB.out.cell (World.block_lt_of_cell? w _ hw492_3)).trans hw492_3), ((HB.out.cell (World.block_lt_of_cell? w _ hw493_0)).trans hw493_0), ((HB.out.cell (World.block_lt_of_cell? w _ hw493_1)).trans hw493_1), ((HB.out.cell (World.block_lt_of_cell? w _ hw493_2)).trans hw493_2), ((HB.out.cell (World.block_lt_of_cell? w _ hw493_3)).trans hw493_3)⟩ (fun hHeld => ?_)
                    clear hK K
                    refine norm_ (a' := ?_) ?_ ?_
                    rotate_left
                    · show Act.put _ (some 38) _ = _
                      simp only [Act.put, List.setIfInBounds_toArray, List.set_cons_zero, List.set_cons_succ, i64_w, i32_w]
                      rfl
                    refine pure_ (i := 22) (N := some 5) (v := ?_) (a' := ?_) #[true, true, true, true, true, true, true, true, true, true, true, true, true, true, true, true, true, true, true, true, true, true, true] rfl rfl (any_of HT_.out (by kernel_rfl)) (fun _ _ _ h => h) (Or.inl ⟨by rfl, ?_⟩) ?_ ?_
                    rotate_left
                    · intro w'
                      go_simp
                      with_reducible rfl
                    rotate_left
                    · simp only [Act.put, List.setIfInBounds_toArray, List.set_cons_zero, List.set_cons_succ, i64_w, i32_w]
                      rfl
                    refine done_ (done_of HT_.out (by kernel_rfl)) ?_
                    try go_wp2
                    go_ret
                    exact ⟨by first | rfl | (simp [errW_none, errW_some] <;> rfl) | (simp [*, errW_none, errW_some] <;> rfl), by repeat (first | (with_reducible first | exact HB.out | apply below_alloc | apply pw_below_drewN | apply below_drew1 | refine below_set ?_ (IsS75.ge HI488.out)) | exact HB.out)⟩
                  · rw [if_neg c13] at H
                    have c13b0 : decide (2 < t494) = false := decide_eq_false c13
                    clear c13
                    replace H := Option.bind_eq_some_iff.mp H
                    obtain ⟨⟨t501, t502, t503, t504, t505, t506, t507⟩, A160, H⟩ := H
                    replace H : ((fixed_Of.f 6).bind fun t508 => (if t501 < t508 then (some false) else ((detect_Detector_Threshold.f t502 t503 t504 t505 t506 t507).bind fun bt509 => ((fixed_Of.f 600).bind fun t516 => (if bt509.1 > t516 then (some false) else (flywheellaw18_DetectHolds.l0 kj3 l0 (wrap64 (x4_1 + 1)) bt509.2.1 bt509.2.2.1 bt509.2.2.2.1 bt509.2.2.2.2.1 bt509.2.2.2.2.2.1 bt509.2.2.2.2.2.2)))))) = some r := H
                    have A16 := Aside0.mk A160
                    clear A160
                    replace H := Option.bind_eq_some_iff.mp H
                    obtain ⟨t508, A170, H⟩ := H
                    replace H : (if t501 < t508 then (some false) else ((detect_Detector_Threshold.f t502 t503 t504 t505 t506 t507).bind fun bt509 => ((fixed_Of.f 600).bind fun t516 => (if bt509.1 > t516 then (some false) else (flywheellaw18_DetectHolds.l0 kj3 l0 (wrap64 (x4_1 + 1)) bt509.2.1 bt509.2.2.1 bt509.2.2.2.1 bt509.2.2.2.2.1 bt509.2.2.2.2.2.1 bt509.2.2.2.2.2.2))))) = some r := H
                    have A17 := Aside0.mk A170
                    clear A170
                    by_cases c18 : t501 < t508
                    · rw [if_pos c18] at H
                      have c18b0 : decide (t501 < t508) = true := decide_eq_true c18
                      clear c18
                      obtain rfl := Option.some.inj H
                      try go_wp2
                      have n0_ := Aside0.mk (IsS75.drew HI488.out)
                      have n1_ := Aside0.mk (below_drew1 HB.out)
                      clear HI488
                      clear HB
                      have HI488 := n0_
                      have HB := n1_
                      clear n0_ n1_
                      have p490 : 0 ≤ (x4_1 : Int) := of_decide_eq_true (by first | (with_reducible assumption) | assumption)
                      have q490 : x4_1 < (l0.length : Int) := of_decide_eq_true (by first | (with_reducible assumption) | assumption)
                      obtain ⟨ad490, e490, hx490_0, hx490_1, hx490_2, hx490_3⟩ := at_T51 HR0.out x4_1 p490 q490
                      have hw490_3 := hx490_3
                      have hw490_2 := hx490_2
                      have hw490_1 := hx490_1
                      have hw490_0 := hx490_0
                      cases e490
                      replace hx490_0 := (HB.out.cell (World.block_lt_of_cell? w _ hx490_0)).trans hx490_0
                      replace hx490_1 := (HB.out.cell (World.block_lt_of_cell? w _ hx490_1)).trans hx490_1
                      replace hx490_2 := (HB.out.cell (World.block_lt_of_cell? w _ hx490_2)).trans hx490_2
                      replace hx490_3 := (HB.out.cell (World.block_lt_of_cell? w _ hx490_3)).trans hx490_3
                      replace p490 := eq_true p490
                      replace q490 := eq_true q490
                      have p491 : 0 ≤ (x4_1 : Int) := of_decide_eq_true (by first | (with_reducible assumption) | assumption)
                      have q491 : x4_1 < (l0.length : Int) := of_decide_eq_true (by first | (with_reducible assumption) | assumption)
                      obtain ⟨ad491, e491, hx491_0, hx491_1, hx491_2, hx491_3⟩ := at_T51 HR0.out x4_1 p491 q491
                      have hw491_3 := hx491_3
                      have hw491_2 := hx491_2
                      have hw491_1 := hx491_1
                      have hw491_0 := hx491_0
                      obtain rfl : ad490 = ad491 := (by injection e491)
                      replace hx491_0 := (HB.out.cell (World.block_lt_of_cell? w _ hx491_0)).trans hx491_0
                      replace hx491_1 := (HB.out.cell (World.block_lt_of_cell? w _ hx491_1)).trans hx491_1
                      replace hx491_2 := (HB.out.cell (World.block_lt_of_cell? w _ hx491_2)).trans hx491_2
                      replace hx491_3 := (HB.out.cell (World.block_lt_of_cell? w _ hx491_3)).trans hx491_3
                      replace p491 := eq_true p491
                      replace q491 := eq_true q491
                      have p492 : 0 ≤ (x4_1 : Int) := of_decide_eq_true (by first | (with_reducible assumption) | assumption)
                      have q492 : x4_1 < (l0.length : Int) := of_decide_eq_true (by first | (with_reducible assumption) | assumption)
                      obtain ⟨ad492, e492, hx492_0, hx492_1, hx492_2, hx492_3⟩ := at_T51 HR0.out x4_1 p492 q492
                      have hw492_3 := hx492_3
                      have hw492_2 := hx492_2
                      have hw492_1 := hx492_1
                      have hw492_0 := hx492_0
                      obtain rfl : ad490 = ad492 := (by injection e492)
                      replace hx492_0 := (HB.out.cell (World.block_lt_of_cell? w _ hx492_0)).trans hx492_0
                      replace hx492_1 := (HB.out.cell (World.block_lt_of_cell? w _ hx492_1)).trans hx492_1
                      replace hx492_2 := (HB.out.cell (World.block_lt_of_cell? w _ hx492_2)).trans hx492_2
                      replace hx492_3 := (HB.out.cell (World.block_lt_of_cell? w _ hx492_3)).trans hx492_3
                      replace p492 := eq_true p492
                      replace q492 := eq_true q492
                      have p493 : 0 ≤ (x4_1 : Int) := of_decide_eq_true (by first | (with_reducible assumption) | assumption)
                      have q493 : x4_1 < (l0.length : Int) := of_decide_eq_true (by first | (with_reducible assumption) | assumption)
                      obtain ⟨ad493, e493, hx493_0, hx493_1, hx493_2, hx493_3⟩ := at_T51 HR0.out x4_1 p493 q493
                      have hw493_3 := hx493_3
                      have hw493_2 := hx493_2
                      have hw493_1 := hx493_1
                      have hw493_0 := hx493_0
                      obtain rfl : ad490 = ad493 := (by injection e493)
                      replace hx493_0 := (HB.out.cell (World.block_lt_of_cell? w _ hx493_0)).trans hx493_0
                      replace hx493_1 := (HB.out.cell (World.block_lt_of_cell? w _ hx493_1)).trans hx493_1
                      replace hx493_2 := (HB.out.cell (World.block_lt_of_cell? w _ hx493_2)).trans hx493_2
                      replace hx493_3 := (HB.out.cell (World.block_lt_of_cell? w _ hx493_3)).trans hx493_3
                      replace p493 := eq_true p493
                      replace q493 := eq_true q493
                      refine start_ (n := 23) (S := fun w' => w'.cell? (ad490.add ((x4_1).toNat * 4)) = some (.int .i64 ((rd_T51 l0 x4_1).f0)) ∧ w'.cell? ⟨(ad490.add ((x4_1).toNat * 4)).block, (ad490.add ((x4_1).toNat * 4)).off + 1, none⟩ = some (.int .i64 ((rd_T51 l0 x4_1).f1)) ∧ w'.cell? ⟨(ad490.add ((x4_1).toNat * 4)).block, (ad490.add ((x4_1).toNat * 4)).off + 2, none⟩ = some (.int .i64 ((rd_T51 l0 x4_1).f2)) ∧ w'.cell? ⟨(ad490.add ((x4_1).toNat * 4)).block, (ad490.add ((x4_1).toNat * 4)).off + 3, none⟩ = some (.int .i64 ((rd_T51 l0 x4_1).f3)) ∧ w'.cell? (ad490.add ((x4_1).toNat * 4)) = some (.int .i64 ((rd_T51 l0 x4_1).f0)) ∧ w'.cell? ⟨(ad490.add ((x4_1).toNat * 4)).block, (ad490.add ((x4_1).toNat * 4)).off + 1, none⟩ = some (.int .i64 ((rd_T51 l0 x4_1).f1)) ∧ w'.cell? ⟨(ad490.add ((x4_1).toNat * 4)).block, (ad490.add ((x4_1).toNat * 4)).off + 2, none⟩ = some (.int .i64 ((rd_T51 l0 x4_1).f2)) ∧ w'.cell? ⟨(ad490.add ((x4_1).toNat * 4)).block, (ad490.add ((x4_1).toNat * 4)).off + 3, none⟩ = some (.int .i64 ((rd_T51 l0 x4_1).f3)) ∧ w'.cell? (ad490.add ((x4_1).toNat * 4)) = some (.int .i64 ((rd_T51 l0 x4_1).f0)) ∧ w'.cell? ⟨(ad490.add ((x4_1).toNat * 4)).block, (ad490.add ((x4_1).toNat * 4)).off + 1, none⟩ = some (.int .i64 ((rd_T51 l0 x4_1).f1)) ∧ w'.cell? ⟨(ad490.add ((x4_1).toNat * 4)).block, (ad490.add ((x4_1).toNat * 4)).off + 2, none⟩ = some (.int .i64 ((rd_T51 l0 x4_1).f2)) ∧ w'.cell? ⟨(ad490.add ((x4_1).toNat * 4)).block, (ad490.add ((x4_1).toNat * 4)).off + 3, none⟩ = some (.int .i64 ((rd_T51 l0 x4_1).f3)) ∧ w'.cell? (ad490.add ((x4_1).toNat * 4)) = some (.int .i64 ((rd_T51 l0 x4_1).f0)) ∧ w'.cell? ⟨(ad490.add ((x4_1).toNat * 4)).block, (ad490.add ((x4_1).toNat * 4)).off + 1, none⟩ = some (.int .i64 ((rd_T51 l0 x4_1).f1)) ∧ w'.cell? ⟨(ad490.add ((x4_1).toNat * 4)).block, (ad490.add ((x4_1).toNat * 4)).off + 2, none⟩ = some (.int .i64 ((rd_T51 l0 x4_1).f2)) ∧ w'.cell? ⟨(ad490.add ((x4_1).toNat * 4)).block, (ad490.add ((x4_1).toNat * 4)).off + 3, none⟩ = some (.int .i64 ((rd_T51 l0 x4_1).f3))) (ds := []) #[false, false, false, false, false, false, false, false, false, false, false, false, false, false, false, false, false, false, false, false, false, false, false] (by kernel_rfl) rfl rfl ⟨((HB.out.cell (World.block_lt_of_cell? w _ hw490_0)).trans hw490_0), ((HB.out.cell (World.block_lt_of_cell? w _ hw490_1)).trans hw490_1), ((HB.out.cell (World.block_lt_of_cell? w _ hw490_2)).trans hw490_2), ((HB.out.cell (World.block_lt_of_cell? w _ hw490_3)).trans hw490_3), ((HB.out.cell (World.block_lt_of_cell? w _ hw491_0)).trans hw491_0), ((HB.out.cell (World.block_lt_of_cell? w _ hw491_1)).trans hw491_1), ((HB.out.cell (World.block_lt_of_cell? w _ hw491_2)).trans hw491_2), ((HB.out.cell (World.block_lt_of_cell? w _ hw491_3)).trans hw491_3), ((HB.out.cell (World.block_lt_of_cell? w _ hw492_0)).trans hw492_0), ((HB.out.cell (World.block_lt_of_cell? w _ hw492_1)).trans hw492_1), ((HB.out.cell (World.block_lt_of_cell? w _ hw492_2)).trans hw492_2), ((HB.out.cell (World.block_lt_of_cell? w _ hw492_3)).trans hw492_3), ((HB.out.cell (World.block_lt_of_cell? w _ hw493_0)).trans hw493_0), ((HB.out.cell (World.block_lt_of_cell? w _ hw493_1)).trans hw493_1), ((HB.out.cell (World.block_lt_of_cell? w _ hw493_2)).trans hw493_2), ((HB.out.cell (World.block_lt_of_cell? w _ hw493_3)).trans hw493_3)⟩ (fun hHeld => ?_); refine with_tabW flywheellaw18_DetectHolds.tab5 flywheellaw18_DetectHolds.bits5 (fun HT_ HW_ => ?_)
                      generalize wc.drew = w19 at HI488 HB hx490_0 hx490_1 hx490_2 hx490_3 hx491_0 hx491_1 hx491_2 hx491_3 hx492_0 hx492_1 hx492_2 hx492_3 hx493_0 hx493_1 hx493_2 hx493_3 hHeld ⊢
                      refine pure_ (i := 0) (N := some 17) (v := ?_) (a' := ?_) #[true, false, false, false, false, false, false, false, false, false, false, false, false, false, false, false, false, false, false, false, false, false, false] rfl rfl (any_of HT_.out (by kernel_rfl)) (fun _ _ _ h => h) (Or.inl ⟨by rfl, ?_⟩) ?_ ?_
                      rotate_left
                      · intro w'
                        go_simp
                        with_reducible rfl
                      rotate_left
                      · simp only [Act.put, List.setIfInBounds_toArray, List.set_cons_zero, List.set_cons_succ, i64_w, i32_w]
                        rfl
                      refine pure_ (i := 1) (N := some 18) (v := ?_) (a' := ?_) #[true, true, false, false, false, false, false, false, false, false, false, false, false, false, false, false, false, false, false, false, false, false, false] rfl rfl (any_of HT_.out (by kernel_rfl)) (fun _ _ _ h => h) (Or.inl ⟨by rfl, ?_⟩) ?_ ?_
                      rotate_left
                      · intro w'
                        go_simp
                        with_reducible rfl
                      rotate_left
                      · simp only [Act.put, List.setIfInBounds_toArray, List.set_cons_zero, List.set_cons_succ, i64_w, i32_w]
                        rfl
                      refine pure_ (i := 2) (N := some 19) (v := ?_) (a' := ?_) #[true, true, true, false, false, false, false, false, false, false, false, false, false, false, false, false, false, false, false, false, false, false, false] rfl rfl (any_of HT_.out (by kernel_rfl)) (fun _ _ _ h => h) (Or.inl ⟨by rfl, ?_⟩) ?_ ?_
                      rotate_left
                      · intro w'
                        go_simp
                        with_reducible rfl
                      rotate_left
                      · simp only [Act.put, List.setIfInBounds_toArray, List.set_cons_zero, List.set_cons_succ, i64_w, i32_w]
                        rfl
                      refine pure_ (i := 3) (N := some 20) (v := ?_) (a' := ?_) #[true, true, true, true, false, false, false, false, false, false, false, false, false, false, false, false, false, false, false, false, false, false, false] rfl rfl (any_of HT_.out (by kernel_rfl)) (fun _ _ _ h => h) (Or.inl ⟨by rfl, ?_⟩) ?_ ?_
                      rotate_left
                      · intro w'
                        go_simp
                        with_reducible rfl
                      rotate_left
                      · simp only [Act.put, List.setIfInBounds_toArray, List.set_cons_zero, List.set_cons_succ, i64_w, i32_w]
                        rfl
                      refine pure_ (i := 4) (N := some 21) (v := ?_) (a' := ?_) #[true, true, true, true, true, false, false, false, false, false, false, false, false, false, false, false, false, false, false, false, false, false, false] rfl rfl (any_of HT_.out (by kernel_rfl)) (fun _ _ _ h => h) (Or.inl ⟨by rfl, ?_⟩) ?_ ?_
                      rotate_left
                      · intro w'
                        go_simp
                        with_reducible rfl
                      rotate_left
                      · simp only [Act.put, List.setIfInBounds_toArray, List.set_cons_zero, List.set_cons_succ, i64_w, i32_w]
                        rfl
                      refine pure_ (i := 6) (N := some 23) (v := ?_) (a' := ?_) #[true, true, true, true, true, false, true, false, false, false, false, false, false, false, false, false, false, false, false, false, false, false, false] rfl rfl (any_of HT_.out (by kernel_rfl)) (fun _ _ _ h => h) (Or.inl ⟨by rfl, ?_⟩) ?_ ?_
                      rotate_left
                      · intro w'
                        go_simp
                        with_reducible rfl
                      rotate_left
                      · simp only [Act.put, List.setIfInBounds_toArray, List.set_cons_zero, List.set_cons_succ, i64_w, i32_w]
                        rfl
                      refine pure_ (i := 7) (N := some 24) (v := ?_) (a' := ?_) #[true, true, true, true, true, false, true, true, false, false, false, false, false, false, false, false, false, false, false, false, false, false, false] rfl rfl (any_of HT_.out (by kernel_rfl)) (fun _ _ _ h => h) (Or.inl ⟨by rfl, ?_⟩) ?_ ?_
                      rotate_left
                      · intro w'
                        go_simp
                        with_reducible rfl
                      rotate_left
                      · simp only [Act.put, List.setIfInBounds_toArray, List.set_cons_zero, List.set_cons_succ, i64_w, i32_w]
                        rfl
                      refine pure_ (i := 8) (N := some 25) (v := ?_) (a' := ?_) #[true, true, true, true, true, false, true, true, true, false, false, false, false, false, false, false, false, false, false, false, false, false, false] rfl rfl (any_of HT_.out (by kernel_rfl)) (fun _ _ _ h => h) (Or.inl ⟨by rfl, ?_⟩) ?_ ?_
                      rotate_left
                      · intro w'
                        go_simp
                        with_reducible rfl
                      rotate_left
                      · simp only [Act.put, List.setIfInBounds_toArray, List.set_cons_zero, List.set_cons_succ, i64_w, i32_w]
                        rfl
                      refine pure_ (i := 9) (N := some 26) (v := ?_) (a' := ?_) #[true, true, true, true, true, false, true, true, true, true, false, false, false, false, false, false, false, false, false, false, false, false, false] rfl rfl (any_of HT_.out (by kernel_rfl)) (fun _ _ _ h => h) (Or.inl ⟨by rfl, ?_⟩) ?_ ?_
                      rotate_left
                      · intro w'
                        go_simp
                        with_reducible rfl
                      rotate_left
                      · simp only [Act.put, List.setIfInBounds_toArray, List.set_cons_zero, List.set_cons_succ, i64_w, i32_w]
                        rfl
                      refine pure_ (i := 11) (N := some 28) (v := ?_) (a' := ?_) #[true, true, true, true, true, false, true, true, true, true, false, true, false, false, false, false, false, false, false, false, false, false, false] rfl rfl (any_of HT_.out (by kernel_rfl)) (fun _ _ _ h => h) (Or.inl ⟨by rfl, ?_⟩) ?_ ?_
                      rotate_left
                      · intro w'
                        go_simp
                        with_reducible rfl
                      rotate_left
                      · simp only [Act.put, List.setIfInBounds_toArray, List.set_cons_zero, List.set_cons_succ, i64_w, i32_w]
                        rfl
                      refine pure_ (i := 12) (N := some 29) (v := ?_) (a' := ?_) #[true, true, true, true, true, false, true, true, true, true, false, true, true, false, false, false, false, false, false, false, false, false, false] rfl rfl (any_of HT_.out (by kernel_rfl)) (fun _ _ _ h => h) (Or.inl ⟨by rfl, ?_⟩) ?_ ?_
                      rotate_left
                      · intro w'
                        go_simp
                        with_reducible rfl
                      rotate_left
                      · simp only [Act.put, List.setIfInBounds_toArray, List.set_cons_zero, List.set_cons_succ, i64_w, i32_w]
                        rfl
                      refine pure_ (i := 13) (N := some 30) (v := ?_) (a' := ?_) #[true, true, true, true, true, false, true, true, true, true, false, true, true, true, false, false, false, false, false, false, false, false, false] rfl rfl (any_of HT_.out (by kernel_rfl)) (fun _ _ _ h => h) (Or.inl ⟨by rfl, ?_⟩) ?_ ?_
                      rotate_left
                      · intro w'
                        go_simp
                        with_reducible rfl
                      rotate_left
                      · simp only [Act.put, List.setIfInBounds_toArray, List.set_cons_zero, List.set_cons_succ, i64_w, i32_w]
                        rfl
                      refine pure_ (i := 14) (N := some 31) (v := ?_) (a' := ?_) #[true, true, true, true, true, false, true, true, true, true, false, true, true, true, true, false, false, false, false, false, false, false, false] rfl rfl (any_of HT_.out (by kernel_rfl)) (fun _ _ _ h => h) (Or.inl ⟨by rfl, ?_⟩) ?_ ?_
                      rotate_left
                      · intro w'
                        go_simp
                        with_reducible rfl
                      rotate_left
                      · simp only [Act.put, List.setIfInBounds_toArray, List.set_cons_zero, List.set_cons_succ, i64_w, i32_w]
                        rfl
                      refine pure_ (i := 16) (N := some 33) (v := ?_) (a' := ?_) #[true, true, true, true, true, false, true, true, true, true, false, true, true, true, true, false, true, false, false, false, false, false, false] rfl rfl (any_of HT_.out (by kernel_rfl)) (fun _ _ _ h => h) (Or.inl ⟨by rfl, ?_⟩) ?_ ?_
                      rotate_left
                      · intro w'
                        go_simp
                        with_reducible rfl
                      rotate_left
                      · simp only [Act.put, List.setIfInBounds_toArray, List.set_cons_zero, List.set_cons_succ, i64_w, i32_w]
                        rfl
                      refine pure_ (i := 17) (N := some 34) (v := ?_) (a' := ?_) #[true, true, true, true, true, false, true, true, true, true, false, true, true, true, true, false, true, true, false, false, false, false, false] rfl rfl (any_of HT_.out (by kernel_rfl)) (fun _ _ _ h => h) (Or.inl ⟨by rfl, ?_⟩) ?_ ?_
                      rotate_left
                      · intro w'
                        go_simp
                        with_reducible rfl
                      rotate_left
                      · simp only [Act.put, List.setIfInBounds_toArray, List.set_cons_zero, List.set_cons_succ, i64_w, i32_w]
                        rfl
                      refine pure_ (i := 18) (N := some 35) (v := ?_) (a' := ?_) #[true, true, true, true, true, false, true, true, true, true, false, true, true, true, true, false, true, true, true, false, false, false, false] rfl rfl (any_of HT_.out (by kernel_rfl)) (fun _ _ _ h => h) (Or.inl ⟨by rfl, ?_⟩) ?_ ?_
                      rotate_left
                      · intro w'
                        go_simp
                        with_reducible rfl
                      rotate_left
                      · simp only [Act.put, List.setIfInBounds_toArray, List.set_cons_zero, List.set_cons_succ, i64_w, i32_w]
                        rfl
                      refine pure_ (i := 19) (N := some 36) (v := ?_) (a' := ?_) #[true, true, true, true, true, false, true, true, true, true, false, true, true, true, true, false, true, true, true, true, false, false, false] rfl rfl (any_of HT_.out (by kernel_rfl)) (fun _ _ _ h => h) (Or.inl ⟨by rfl, ?_⟩) ?_ ?_
                      rotate_left
                      · intro w'
                        go_simp
                        with_reducible rfl
                      rotate_left
                      · simp only [Act.put, List.setIfInBounds_toArray, List.set_cons_zero, List.set_cons_succ, i64_w, i32_w]
                        rfl
                      refine take_ (i := 5) (N := some 22) (v := ?_) (a' := ?_) #[true, true, true, true, true, true, true, true, true, true, false, true, true, true, true, false, true, true, true, true, false, false, false] rfl rfl (take_ofW HT_.out HW_.out (by kernel_rfl)) (fun _ _ _ h => h) (Or.inl ⟨by rfl, ?_⟩) hHeld ?_ ?_
                      rotate_left
                      · rintro w' ⟨s0, s1, s2, s3, s4, s5, s6, s7, s8, s9, s10, s11, s12, s13, s14, s15⟩
                        go_simp
                        with_reducible rfl
                      rotate_left
                      · simp only [Act.put, List.setIfInBounds_toArray, List.set_cons_zero, List.set_cons_succ, i64_w, i32_w]
                        rfl
                      refine take_ (i := 10) (N := some 27) (v := ?_) (a' := ?_) #[true, true, true, true, true, true, true, true, true, true, true, true, true, true, true, false, true, true, true, true, false, false, false] rfl rfl (take_ofW HT_.out HW_.out (by kernel_rfl)) (fun _ _ _ h => h) (Or.inl ⟨by rfl, ?_⟩) hHeld ?_ ?_
                      rotate_left
                      · rintro w' ⟨s0, s1, s2, s3, s4, s5, s6, s7, s8, s9, s10, s11, s12, s13, s14, s15⟩
                        go_simp
                        with_reducible rfl
                      rotate_left
                      · simp only [Act.put, List.setIfInBounds_toArray, List.set_cons_zero, List.set_cons_succ, i64_w, i32_w]
                        rfl
                      refine take_ (i := 15) (N := some 32) (v := ?_) (a' := ?_) #[true, true, true, true, true, true, true, true, true, true, true, true, true, true, true, true, true, true, true, true, false, false, false] rfl rfl (take_ofW HT_.out HW_.out (by kernel_rfl)) (fun _ _ _ h => h) (Or.inl ⟨by rfl, ?_⟩) hHeld ?_ ?_
                      rotate_left
                      · rintro w' ⟨s0, s1, s2, s3, s4, s5, s6, s7, s8, s9, s10, s11, s12, s13, s14, s15⟩
                        go_simp
                        with_reducible rfl
                      rotate_left
                      · simp only [Act.put, List.setIfInBounds_toArray, List.set_cons_zero, List.set_cons_succ, i64_w, i32_w]
                        rfl
                      refine take_ (i := 20) (N := some 37) (v := ?_) (a' := ?_) #[true, true, true, true, true, true, true, true, true, true, true, true, true, true, true, true, true, true, true, true, true, false, false] rfl rfl (take_ofW HT_.out HW_.out (by kernel_rfl)) (fun _ _ _ h => h) (Or.inl ⟨by rfl, ?_⟩) hHeld ?_ ?_
                      rotate_left
                      · rintro w' ⟨s0, s1, s2, s3, s4, s5, s6, s7, s8, s9, s10, s11, s12, s13, s14, s15⟩
                        go_simp
                        with_reducible rfl
                      rotate_left
                      · simp only [Act.put, List.setIfInBounds_toArray, List.set_cons_zero, List.set_cons_succ, i64_w, i32_w]
                        rfl
                      refine one_ (i := 21) (N := some 38) #[true, true, true, true, true, true, true, true, true, true, true, true, true, true, true, true, true, true, true, true, true, true, false] rfl rfl (one_of HT_.out (by kernel_rfl)) (by decide) (fun K hK => ?_)
                      refine goes_ Try.func28 (by kernel_rfl) rfl #[.pointer (some ⟨g488, 0, none⟩), .int .i64 ((rd_T51 l0 x4_1).f0), .int .i64 ((rd_T51 l0 x4_1).f1), .int .i64 ((rd_T51 l0 x4_1).f2), .int .i64 ((rd_T51 l0 x4_1).f3)] (by rfl) rfl rfl (by (try simp only [List.map_toArray, List.map_cons, List.map_nil]); first | done | rfl | (simp only [List.length_drop, List.length_take]; rfl)) ?_
                      with_reducible refine (detect_Detector_Add.calls kj3 g488 x489000_1 x489001_1 x489002_1 x489003_1 x489004_1 x489005_1 ((rd_T51 l0 x4_1).f0) ((rd_T51 l0 x4_1).f1) ((rd_T51 l0 x4_1).f2) ((rd_T51 l0 x4_1).f3) t494 t495 t496 t497 t498 t499 t500 w _ ?side1 ?side2 A9.out).mono ?_
                      (case side1 => repeat (first | (with_reducible first | exact HI488.out | apply IsS75.alloc | apply IsS75.drewN | apply IsS75.drew | apply IsS75.set_0 | apply IsS75.set_1 | apply IsS75.set_2 | apply IsS75.set_3 | apply IsS75.set_4 | apply IsS75.set_5) | exact HI488.out))
                      (case side2 => repeat (first | (with_reducible first | exact HB.out | apply below_alloc | apply pw_below_drewN | apply below_drew1 | refine below_set ?_ (IsS75.ge HI488.out)) | exact HB.out))
                      rintro e w20 ⟨rfl, hi, hb, hk⟩
                      refine ⟨_, rfl, ?_⟩
                      have n0_ := Aside0.mk (hb)
                      have n1_ := Aside0.mk (hi)
                      clear HB
                      clear HI488
                      have HB := n0_
                      have HI488 := n1_
                      clear n0_ n1_
                      (try clear hb)
                      (try clear hb2)
                      (try clear hk)
                      (try clear hi)
                      refine hK.out _ _ ⟨((HB.out.cell (World.block_lt_of_cell? w _ hw490_0)).trans hw490_0), ((HB.out.cell (World.block_lt_of_cell? w _ hw490_1)).trans hw490_1), ((HB.out.cell (World.block_lt_of_cell? w _ hw490_2)).trans hw490_2), ((HB.out.cell (World.block_lt_of_cell? w _ hw490_3)).trans hw490_3), ((HB.out.cell (World.block_lt_of_cell? w _ hw491_0)).trans hw491_0), ((HB.out.cell (World.block_lt_of_cell? w _ hw491_1)).trans hw491_1), ((HB.out.cell (World.block_lt_of_cell? w _ hw491_2)).trans hw491_2), ((HB.out.cell (World.block_lt_of_cell? w _ hw491_3)).trans hw491_3), ((HB.out.cell (World.block_lt_of_cell? w _ hw492_0)).trans hw492_0), ((HB.out.cell (World.block_lt_of_cell? w _ hw492_1)).trans hw492_1), ((HB.out.cell (World.block_lt_of_cell? w _ hw492_2)).trans hw492_2), ((HB.out.cell (World.block_lt_of_cell? w _ hw492_3)).trans hw492_3), ((HB.out.cell (World.block_lt_of_cell? w _ hw493_0)).trans hw493_0), ((HB.out.cell (World.block_lt_of_cell? w _ hw493_1)).trans hw493_1), ((HB.out.cell (World.block_lt_of_cell? w _ hw493_2)).trans hw493_2), ((HB.out.cell (World.block_lt_of_cell? w _ hw493_3)).trans hw493_3)⟩ (fun hHeld => ?_)
                      clear hK K
                      refine norm_ (a' := ?_) ?_ ?_
                      rotate_left
                      · show Act.put _ (some 38) _ = _
                        simp only [Act.put, List.setIfInBounds_toArray, List.set_cons_zero, List.set_cons_succ, i64_w, i32_w]
                        rfl
                      refine pure_ (i := 22) (N := some 5) (v := ?_) (a' := ?_) #[true, true, true, true, true, true, true, true, true, true, true, true, true, true, true, true, true, true, true, true, true, true, true] rfl rfl (any_of HT_.out (by kernel_rfl)) (fun _ _ _ h => h) (Or.inl ⟨by rfl, ?_⟩) ?_ ?_
                      rotate_left
                      · intro w'
                        go_simp
                        with_reducible rfl
                      rotate_left
                      · simp only [Act.put, List.setIfInBounds_toArray, List.set_cons_zero, List.set_cons_succ, i64_w, i32_w]
                        rfl
                      refine done_ (done_of HT_.out (by kernel_rfl)) ?_
                      try go_wp2_with (first | (go_at_call 32; (with_reducible refine (detect_Detector_Threshold.calls g488 t495 t496 t497 t498 t499 t500 t501 t502 t503 t504 t505 t506 t507 w _ ?side1 ?side2 A16.out).mono ?_); (case side1 => repeat (first | (with_reducible first | exact HI488.out | apply IsS75.alloc | apply IsS75.drewN | apply IsS75.drew | apply IsS75.set_0 | apply IsS75.set_1 | apply IsS75.set_2 | apply IsS75.set_3 | apply IsS75.set_4 | apply IsS75.set_5) | exact HI488.out)); (case side2 => repeat (first | (with_reducible first | exact HB.out | apply below_alloc | apply pw_below_drewN | apply below_drew1 | refine below_set ?_ (IsS75.ge HI488.out)) | exact HB.out)); rintro e w21 ⟨rfl, hi, hb, hk⟩; have n0_ := Aside0.mk (hb); have n1_ := Aside0.mk (hi); clear HB; clear HI488; have HB := n0_; have HI488 := n1_; clear n0_ n1_; (try clear hb); (try clear hb2); (try clear hk); (try clear hi)) | (go_at_call 35; (with_reducible refine (fixed_Of.calls 6 t508 _ A17.out).mono ?_); rintro e w22 ⟨rfl, hb⟩; have n0_ := Aside0.mk (IsS75.below (by repeat (first | (with_reducible first | exact HI488.out | apply IsS75.alloc | apply IsS75.drewN | apply IsS75.drew | apply IsS75.set_0 | apply IsS75.set_1 | apply IsS75.set_2 | apply IsS75.set_3 | apply IsS75.set_4 | apply IsS75.set_5) | exact HI488.out)) hb); have n1_ := Aside0.mk (below_step (by repeat (first | (with_reducible first | exact HB.out | apply below_alloc | apply pw_below_drewN | apply below_drew1 | refine below_set ?_ (IsS75.ge HI488.out)) | exact HB.out)) hb); clear HI488; clear HB; have HI488 := n0_; have HB := n1_; clear n0_ n1_; (try clear hb); (try clear hb2); (try clear hk); (try clear hi)))
                      go_ret
                      exact ⟨by first | rfl | (simp [errW_none, errW_some] <;> rfl) | (simp [*, errW_none, errW_some] <;> rfl), by repeat (first | (with_reducible first | exact HB.out | apply below_alloc | apply pw_below_drewN | apply below_drew1 | refine below_set ?_ (IsS75.ge HI488.out)) | exact HB.out)⟩
                    · rw [if_neg c18] at H
                      have c18b0 : decide (t501 < t508) = false := decide_eq_false c18
                      clear c18
                      replace H := Option.bind_eq_some_iff.mp H
                      obtain ⟨⟨t509, t510, t511, t512, t513, t514, t515⟩, A230, H⟩ := H
                      replace H : ((fixed_Of.f 600).bind fun t516 => (if t509 > t516 then (some false) else (flywheellaw18_DetectHolds.l0 kj3 l0 (wrap64 (x4_1 + 1)) t510 t511 t512 t513 t514 t515))) = some r := H
                      have A23 := Aside0.mk A230
                      clear A230
                      replace H := Option.bind_eq_some_iff.mp H
                      obtain ⟨t516, A240, H⟩ := H
                      replace H : (if t509 > t516 then (some false) else (flywheellaw18_DetectHolds.l0 kj3 l0 (wrap64 (x4_1 + 1)) t510 t511 t512 t513 t514 t515)) = some r := H
                      have A24 := Aside0.mk A240
                      clear A240
                      by_cases c25 : t509 > t516
                      · rw [if_pos c25] at H
                        have c25b0 : decide (t516 < t509) = true := decide_eq_true c25
                        clear c25
                        obtain rfl := Option.some.inj H
                        try go_wp2
                        have n0_ := Aside0.mk (IsS75.drew HI488.out)
                        have n1_ := Aside0.mk (below_drew1 HB.out)
                        clear HI488
                        clear HB
                        have HI488 := n0_
                        have HB := n1_
                        clear n0_ n1_
                        have p490 : 0 ≤ (x4_1 : Int) := of_decide_eq_true (by first | (with_reducible assumption) | assumption)
                        have q490 : x4_1 < (l0.length : Int) := of_decide_eq_true (by first | (with_reducible assumption) | assumption)
                        obtain ⟨ad490, e490, hx490_0, hx490_1, hx490_2, hx490_3⟩ := at_T51 HR0.out x4_1 p490 q490
                        have hw490_3 := hx490_3
                        have hw490_2 := hx490_2
                        have hw490_1 := hx490_1
                        have hw490_0 := hx490_0
                        cases e490
                        replace hx490_0 := (HB.out.cell (World.block_lt_of_cell? w _ hx490_0)).trans hx490_0
                        replace hx490_1 := (HB.out.cell (World.block_lt_of_cell? w _ hx490_1)).trans hx490_1
                        replace hx490_2 := (HB.out.cell (World.block_lt_of_cell? w _ hx490_2)).trans hx490_2
                        replace hx490_3 := (HB.out.cell (World.block_lt_of_cell? w _ hx490_3)).trans hx490_3
                        replace p490 := eq_true p490
                        replace q490 := eq_true q490
                        have p491 : 0 ≤ (x4_1 : Int) := of_decide_eq_true (by first | (with_reducible assumption) | assumption)
                        have q491 : x4_1 < (l0.length : Int) := of_decide_eq_true (by first | (with_reducible assumption) | assumption)
                        obtain ⟨ad491, e491, hx491_0, hx491_1, hx491_2, hx491_3⟩ := at_T51 HR0.out x4_1 p491 q491
                        have hw491_3 := hx491_3
                        have hw491_2 := hx491_2
                        have hw491_1 := hx491_1
                        have hw491_0 := hx491_0
                        obtain rfl : ad490 = ad491 := (by injection e491)
                        replace hx491_0 := (HB.out.cell (World.block_lt_of_cell? w _ hx491_0)).trans hx491_0
                        replace hx491_1 := (HB.out.cell (World.block_lt_of_cell? w _ hx491_1)).trans hx491_1
                        replace hx491_2 := (HB.out.cell (World.block_lt_of_cell? w _ hx491_2)).trans hx491_2
                        replace hx491_3 := (HB.out.cell (World.block_lt_of_cell? w _ hx491_3)).trans hx491_3
                        replace p491 := eq_true p491
                        replace q491 := eq_true q491
                        have p492 : 0 ≤ (x4_1 : Int) := of_decide_eq_true (by first | (with_reducible assumption) | assumption)
                        have q492 : x4_1 < (l0.length : Int) := of_decide_eq_true (by first | (with_reducible assumption) | assumption)
                        obtain ⟨ad492, e492, hx492_0, hx492_1, hx492_2, hx492_3⟩ := at_T51 HR0.out x4_1 p492 q492
                        have hw492_3 := hx492_3
                        have hw492_2 := hx492_2
                        have hw492_1 := hx492_1
                        have hw492_0 := hx492_0
                        obtain rfl : ad490 = ad492 := (by injection e492)
                        replace hx492_0 := (HB.out.cell (World.block_lt_of_cell? w _ hx492_0)).trans hx492_0
                        replace hx492_1 := (HB.out.cell (World.block_lt_of_cell? w _ hx492_1)).trans hx492_1
                        replace hx492_2 := (HB.out.cell (World.block_lt_of_cell? w _ hx492_2)).trans hx492_2
                        replace hx492_3 := (HB.out.cell (World.block_lt_of_cell? w _ hx492_3)).trans hx492_3
                        replace p492 := eq_true p492
                        replace q492 := eq_true q492
                        have p493 : 0 ≤ (x4_1 : Int) := of_decide_eq_true (by first | (with_reducible assumption) | assumption)
                        have q493 : x4_1 < (l0.length : Int) := of_decide_eq_true (by first | (with_reducible assumption) | assumption)
                        obtain ⟨ad493, e493, hx493_0, hx493_1, hx493_2, hx493_3⟩ := at_T51 HR0.out x4_1 p493 q493
                        have hw493_3 := hx493_3
                        have hw493_2 := hx493_2
                        have hw493_1 := hx493_1
                        have hw493_0 := hx493_0
                        obtain rfl : ad490 = ad493 := (by injection e493)
                        replace hx493_0 := (HB.out.cell (World.block_lt_of_cell? w _ hx493_0)).trans hx493_0
                        replace hx493_1 := (HB.out.cell (World.block_lt_of_cell? w _ hx493_1)).trans hx493_1
                        replace hx493_2 := (HB.out.cell (World.block_lt_of_cell? w _ hx493_2)).trans hx493_2
                        replace hx493_3 := (HB.out.cell (World.block_lt_of_cell? w _ hx493_3)).trans hx493_3
                        replace p493 := eq_true p493
                        replace q493 := eq_true q493
                        refine start_ (n := 23) (S := fun w' => w'.cell? (ad490.add ((x4_1).toNat * 4)) = some (.int .i64 ((rd_T51 l0 x4_1).f0)) ∧ w'.cell? ⟨(ad490.add ((x4_1).toNat * 4)).block, (ad490.add ((x4_1).toNat * 4)).off + 1, none⟩ = some (.int .i64 ((rd_T51 l0 x4_1).f1)) ∧ w'.cell? ⟨(ad490.add ((x4_1).toNat * 4)).block, (ad490.add ((x4_1).toNat * 4)).off + 2, none⟩ = some (.int .i64 ((rd_T51 l0 x4_1).f2)) ∧ w'.cell? ⟨(ad490.add ((x4_1).toNat * 4)).block, (ad490.add ((x4_1).toNat * 4)).off + 3, none⟩ = some (.int .i64 ((rd_T51 l0 x4_1).f3)) ∧ w'.cell? (ad490.add ((x4_1).toNat * 4)) = some (.int .i64 ((rd_T51 l0 x4_1).f0)) ∧ w'.cell? ⟨(ad490.add ((x4_1).toNat * 4)).block, (ad490.add ((x4_1).toNat * 4)).off + 1, none⟩ = some (.int .i64 ((rd_T51 l0 x4_1).f1)) ∧ w'.cell? ⟨(ad490.add ((x4_1).toNat * 4)).block, (ad490.add ((x4_1).toNat * 4)).off + 2, none⟩ = some (.int .i64 ((rd_T51 l0 x4_1).f2)) ∧ w'.cell? ⟨(ad490.add ((x4_1).toNat * 4)).block, (ad490.add ((x4_1).toNat * 4)).off + 3, none⟩ = some (.int .i64 ((rd_T51 l0 x4_1).f3)) ∧ w'.cell? (ad490.add ((x4_1).toNat * 4)) = some (.int .i64 ((rd_T51 l0 x4_1).f0)) ∧ w'.cell? ⟨(ad490.add ((x4_1).toNat * 4)).block, (ad490.add ((x4_1).toNat * 4)).off + 1, none⟩ = some (.int .i64 ((rd_T51 l0 x4_1).f1)) ∧ w'.cell? ⟨(ad490.add ((x4_1).toNat * 4)).block, (ad490.add ((x4_1).toNat * 4)).off + 2, none⟩ = some (.int .i64 ((rd_T51 l0 x4_1).f2)) ∧ w'.cell? ⟨(ad490.add ((x4_1).toNat * 4)).block, (ad490.add ((x4_1).toNat * 4)).off + 3, none⟩ = some (.int .i64 ((rd_T51 l0 x4_1).f3)) ∧ w'.cell? (ad490.add ((x4_1).toNat * 4)) = some (.int .i64 ((rd_T51 l0 x4_1).f0)) ∧ w'.cell? ⟨(ad490.add ((x4_1).toNat * 4)).block, (ad490.add ((x4_1).toNat * 4)).off + 1, none⟩ = some (.int .i64 ((rd_T51 l0 x4_1).f1)) ∧ w'.cell? ⟨(ad490.add ((x4_1).toNat * 4)).block, (ad490.add ((x4_1).toNat * 4)).off + 2, none⟩ = some (.int .i64 ((rd_T51 l0 x4_1).f2)) ∧ w'.cell? ⟨(ad490.add ((x4_1).toNat * 4)).block, (ad490.add ((x4_1).toNat * 4)).off + 3, none⟩ = some (.int .i64 ((rd_T51 l0 x4_1).f3))) (ds := []) #[false, false, false, false, false, false, false, false, false, false, false, false, false, false, false, false, false, false, false, false, false, false, false] (by kernel_rfl) rfl rfl ⟨((HB.out.cell (World.block_lt_of_cell? w _ hw490_0)).trans hw490_0), ((HB.out.cell (World.block_lt_of_cell? w _ hw490_1)).trans hw490_1), ((HB.out.cell (World.block_lt_of_cell? w _ hw490_2)).trans hw490_2), ((HB.out.cell (World.block_lt_of_cell? w _ hw490_3)).trans hw490_3), ((HB.out.cell (World.block_lt_of_cell? w _ hw491_0)).trans hw491_0), ((HB.out.cell (World.block_lt_of_cell? w _ hw491_1)).trans hw491_1), ((HB.out.cell (World.block_lt_of_cell? w _ hw491_2)).trans hw491_2), ((HB.out.cell (World.block_lt_of_cell? w _ hw491_3)).trans hw491_3), ((HB.out.cell (World.block_lt_of_cell? w _ hw492_0)).trans hw492_0), ((HB.out.cell (World.block_lt_of_cell? w _ hw492_1)).trans hw492_1), ((HB.out.cell (World.block_lt_of_cell? w _ hw492_2)).trans hw492_2), ((HB.out.cell (World.block_lt_of_cell? w _ hw492_3)).trans hw492_3), ((HB.out.cell (World.block_lt_of_cell? w _ hw493_0)).trans hw493_0), ((HB.out.cell (World.block_lt_of_cell? w _ hw493_1)).trans hw493_1), ((HB.out.cell (World.block_lt_of_cell? w _ hw493_2)).trans hw493_2), ((HB.out.cell (World.block_lt_of_cell? w _ hw493_3)).trans hw493_3)⟩ (fun hHeld => ?_); refine with_tabW flywheellaw18_DetectHolds.tab5 flywheellaw18_DetectHolds.bits5 (fun HT_ HW_ => ?_)
                        generalize wc.drew = w26 at HI488 HB hx490_0 hx490_1 hx490_2 hx490_3 hx491_0 hx491_1 hx491_2 hx491_3 hx492_0 hx492_1 hx492_2 hx492_3 hx493_0 hx493_1 hx493_2 hx493_3 hHeld ⊢
                        refine pure_ (i := 0) (N := some 17) (v := ?_) (a' := ?_) #[true, false, false, false, false, false, false, false, false, false, false, false, false, false, false, false, false, false, false, false, false, false, false] rfl rfl (any_of HT_.out (by kernel_rfl)) (fun _ _ _ h => h) (Or.inl ⟨by rfl, ?_⟩) ?_ ?_
                        rotate_left
                        · intro w'
                          go_simp
                          with_reducible rfl
                        rotate_left
                        · simp only [Act.put, List.setIfInBounds_toArray, List.set_cons_zero, List.set_cons_succ, i64_w, i32_w]
                          rfl
                        refine pure_ (i := 1) (N := some 18) (v := ?_) (a' := ?_) #[true, true, false, false, false, false, false, false, false, false, false, false, false, false, false, false, false, false, false, false, false, false, false] rfl rfl (any_of HT_.out (by kernel_rfl)) (fun _ _ _ h => h) (Or.inl ⟨by rfl, ?_⟩) ?_ ?_
                        rotate_left
                        · intro w'
                          go_simp
                          with_reducible rfl
                        rotate_left
                        · simp only [Act.put, List.setIfInBounds_toArray, List.set_cons_zero, List.set_cons_succ, i64_w, i32_w]
                          rfl
                        refine pure_ (i := 2) (N := some 19) (v := ?_) (a' := ?_) #[true, true, true, false, false, false, false, false, false, false, false, false, false, false, false, false, false, false, false, false, false, false, false] rfl rfl (any_of HT_.out (by kernel_rfl)) (fun _ _ _ h => h) (Or.inl ⟨by rfl, ?_⟩) ?_ ?_
                        rotate_left
                        · intro w'
                          go_simp
                          with_reducible rfl
                        rotate_left
                        · simp only [Act.put, List.setIfInBounds_toArray, List.set_cons_zero, List.set_cons_succ, i64_w, i32_w]
                          rfl
                        refine pure_ (i := 3) (N := some 20) (v := ?_) (a' := ?_) #[true, true, true, true, false, false, false, false, false, false, false, false, false, false, false, false, false, false, false, false, false, false, false] rfl rfl (any_of HT_.out (by kernel_rfl)) (fun _ _ _ h => h) (Or.inl ⟨by rfl, ?_⟩) ?_ ?_
                        rotate_left
                        · intro w'
                          go_simp
                          with_reducible rfl
                        rotate_left
                        · simp only [Act.put, List.setIfInBounds_toArray, List.set_cons_zero, List.set_cons_succ, i64_w, i32_w]
                          rfl
                        refine pure_ (i := 4) (N := some 21) (v := ?_) (a' := ?_) #[true, true, true, true, true, false, false, false, false, false, false, false, false, false, false, false, false, false, false, false, false, false, false] rfl rfl (any_of HT_.out (by kernel_rfl)) (fun _ _ _ h => h) (Or.inl ⟨by rfl, ?_⟩) ?_ ?_
                        rotate_left
                        · intro w'
                          go_simp
                          with_reducible rfl
                        rotate_left
                        · simp only [Act.put, List.setIfInBounds_toArray, List.set_cons_zero, List.set_cons_succ, i64_w, i32_w]
                          rfl
                        refine pure_ (i := 6) (N := some 23) (v := ?_) (a' := ?_) #[true, true, true, true, true, false, true, false, false, false, false, false, false, false, false, false, false, false, false, false, false, false, false] rfl rfl (any_of HT_.out (by kernel_rfl)) (fun _ _ _ h => h) (Or.inl ⟨by rfl, ?_⟩) ?_ ?_
                        rotate_left
                        · intro w'
                          go_simp
                          with_reducible rfl
                        rotate_left
                        · simp only [Act.put, List.setIfInBounds_toArray, List.set_cons_zero, List.set_cons_succ, i64_w, i32_w]
                          rfl
                        refine pure_ (i := 7) (N := some 24) (v := ?_) (a' := ?_) #[true, true, true, true, true, false, true, true, false, false, false, false, false, false, false, false, false, false, false, false, false, false, false] rfl rfl (any_of HT_.out (by kernel_rfl)) (fun _ _ _ h => h) (Or.inl ⟨by rfl, ?_⟩) ?_ ?_
                        rotate_left
                        · intro w'
                          go_simp
                          with_reducible rfl
                        rotate_left
                        · simp only [Act.put, List.setIfInBounds_toArray, List.set_cons_zero, List.set_cons_succ, i64_w, i32_w]
                          rfl
                        refine pure_ (i := 8) (N := some 25) (v := ?_) (a' := ?_) #[true, true, true, true, true, false, true, true, true, false, false, false, false, false, false, false, false, false, false, false, false, false, false] rfl rfl (any_of HT_.out (by kernel_rfl)) (fun _ _ _ h => h) (Or.inl ⟨by rfl, ?_⟩) ?_ ?_
                        rotate_left
                        · intro w'
                          go_simp
                          with_reducible rfl
                        rotate_left
                        · simp only [Act.put, List.setIfInBounds_toArray, List.set_cons_zero, List.set_cons_succ, i64_w, i32_w]
                          rfl
                        refine pure_ (i := 9) (N := some 26) (v := ?_) (a' := ?_) #[true, true, true, true, true, false, true, true, true, true, false, false, false, false, false, false, false, false, false, false, false, false, false] rfl rfl (any_of HT_.out (by kernel_rfl)) (fun _ _ _ h => h) (Or.inl ⟨by rfl, ?_⟩) ?_ ?_
                        rotate_left
                        · intro w'
                          go_simp
                          with_reducible rfl
                        rotate_left
                        · simp only [Act.put, List.setIfInBounds_toArray, List.set_cons_zero, List.set_cons_succ, i64_w, i32_w]
                          rfl
                        refine pure_ (i := 11) (N := some 28) (v := ?_) (a' := ?_) #[true, true, true, true, true, false, true, true, true, true, false, true, false, false, false, false, false, false, false, false, false, false, false] rfl rfl (any_of HT_.out (by kernel_rfl)) (fun _ _ _ h => h) (Or.inl ⟨by rfl, ?_⟩) ?_ ?_
                        rotate_left
                        · intro w'
                          go_simp
                          with_reducible rfl
                        rotate_left
                        · simp only [Act.put, List.setIfInBounds_toArray, List.set_cons_zero, List.set_cons_succ, i64_w, i32_w]
                          rfl
                        refine pure_ (i := 12) (N := some 29) (v := ?_) (a' := ?_) #[true, true, true, true, true, false, true, true, true, true, false, true, true, false, false, false, false, false, false, false, false, false, false] rfl rfl (any_of HT_.out (by kernel_rfl)) (fun _ _ _ h => h) (Or.inl ⟨by rfl, ?_⟩) ?_ ?_
                        rotate_left
                        · intro w'
                          go_simp
                          with_reducible rfl
                        rotate_left
                        · simp only [Act.put, List.setIfInBounds_toArray, List.set_cons_zero, List.set_cons_succ, i64_w, i32_w]
                          rfl
                        refine pure_ (i := 13) (N := some 30) (v := ?_) (a' := ?_) #[true, true, true, true, true, false, true, true, true, true, false, true, true, true, false, false, false, false, false, false, false, false, false] rfl rfl (any_of HT_.out (by kernel_rfl)) (fun _ _ _ h => h) (Or.inl ⟨by rfl, ?_⟩) ?_ ?_
                        rotate_left
                        · intro w'
                          go_simp
                          with_reducible rfl
                        rotate_left
                        · simp only [Act.put, List.setIfInBounds_toArray, List.set_cons_zero, List.set_cons_succ, i64_w, i32_w]
                          rfl
                        refine pure_ (i := 14) (N := some 31) (v := ?_) (a' := ?_) #[true, true, true, true, true, false, true, true, true, true, false, true, true, true, true, false, false, false, false, false, false, false, false] rfl rfl (any_of HT_.out (by kernel_rfl)) (fun _ _ _ h => h) (Or.inl ⟨by rfl, ?_⟩) ?_ ?_
                        rotate_left
                        · intro w'
                          go_simp
                          with_reducible rfl
                        rotate_left
                        · simp only [Act.put, List.setIfInBounds_toArray, List.set_cons_zero, List.set_cons_succ, i64_w, i32_w]
                          rfl
                        refine pure_ (i := 16) (N := some 33) (v := ?_) (a' := ?_) #[true, true, true, true, true, false, true, true, true, true, false, true, true, true, true, false, true, false, false, false, false, false, false] rfl rfl (any_of HT_.out (by kernel_rfl)) (fun _ _ _ h => h) (Or.inl ⟨by rfl, ?_⟩) ?_ ?_
                        rotate_left
                        · intro w'
                          go_simp
                          with_reducible rfl
                        rotate_left
                        · simp only [Act.put, List.setIfInBounds_toArray, List.set_cons_zero, List.set_cons_succ, i64_w, i32_w]
                          rfl
                        refine pure_ (i := 17) (N := some 34) (v := ?_) (a' := ?_) #[true, true, true, true, true, false, true, true, true, true, false, true, true, true, true, false, true, true, false, false, false, false, false] rfl rfl (any_of HT_.out (by kernel_rfl)) (fun _ _ _ h => h) (Or.inl ⟨by rfl, ?_⟩) ?_ ?_
                        rotate_left
                        · intro w'
                          go_simp
                          with_reducible rfl
                        rotate_left
                        · simp only [Act.put, List.setIfInBounds_toArray, List.set_cons_zero, List.set_cons_succ, i64_w, i32_w]
                          rfl
                        refine pure_ (i := 18) (N := some 35) (v := ?_) (a' := ?_) #[true, true, true, true, true, false, true, true, true, true, false, true, true, true, true, false, true, true, true, false, false, false, false] rfl rfl (any_of HT_.out (by kernel_rfl)) (fun _ _ _ h => h) (Or.inl ⟨by rfl, ?_⟩) ?_ ?_
                        rotate_left
                        · intro w'
                          go_simp
                          with_reducible rfl
                        rotate_left
                        · simp only [Act.put, List.setIfInBounds_toArray, List.set_cons_zero, List.set_cons_succ, i64_w, i32_w]
                          rfl
                        refine pure_ (i := 19) (N := some 36) (v := ?_) (a' := ?_) #[true, true, true, true, true, false, true, true, true, true, false, true, true, true, true, false, true, true, true, true, false, false, false] rfl rfl (any_of HT_.out (by kernel_rfl)) (fun _ _ _ h => h) (Or.inl ⟨by rfl, ?_⟩) ?_ ?_
                        rotate_left
                        · intro w'
                          go_simp
                          with_reducible rfl
                        rotate_left
                        · simp only [Act.put, List.setIfInBounds_toArray, List.set_cons_zero, List.set_cons_succ, i64_w, i32_w]
                          rfl
                        refine take_ (i := 5) (N := some 22) (v := ?_) (a' := ?_) #[true, true, true, true, true, true, true, true, true, true, false, true, true, true, true, false, true, true, true, true, false, false, false] rfl rfl (take_ofW HT_.out HW_.out (by kernel_rfl)) (fun _ _ _ h => h) (Or.inl ⟨by rfl, ?_⟩) hHeld ?_ ?_
                        rotate_left
                        · rintro w' ⟨s0, s1, s2, s3, s4, s5, s6, s7, s8, s9, s10, s11, s12, s13, s14, s15⟩
                          go_simp
                          with_reducible rfl
                        rotate_left
                        · simp only [Act.put, List.setIfInBounds_toArray, List.set_cons_zero, List.set_cons_succ, i64_w, i32_w]
                          rfl
                        refine take_ (i := 10) (N := some 27) (v := ?_) (a' := ?_) #[true, true, true, true, true, true, true, true, true, true, true, true, true, true, true, false, true, true, true, true, false, false, false] rfl rfl (take_ofW HT_.out HW_.out (by kernel_rfl)) (fun _ _ _ h => h) (Or.inl ⟨by rfl, ?_⟩) hHeld ?_ ?_
                        rotate_left
                        · rintro w' ⟨s0, s1, s2, s3, s4, s5, s6, s7, s8, s9, s10, s11, s12, s13, s14, s15⟩
                          go_simp
                          with_reducible rfl
                        rotate_left
                        · simp only [Act.put, List.setIfInBounds_toArray, List.set_cons_zero, List.set_cons_succ, i64_w, i32_w]
                          rfl
                        refine take_ (i := 15) (N := some 32) (v := ?_) (a' := ?_) #[true, true, true, true, true, true, true, true, true, true, true, true, true, true, true, true, true, true, true, true, false, false, false] rfl rfl (take_ofW HT_.out HW_.out (by kernel_rfl)) (fun _ _ _ h => h) (Or.inl ⟨by rfl, ?_⟩) hHeld ?_ ?_
                        rotate_left
                        · rintro w' ⟨s0, s1, s2, s3, s4, s5, s6, s7, s8, s9, s10, s11, s12, s13, s14, s15⟩
                          go_simp
                          with_reducible rfl
                        rotate_left
                        · simp only [Act.put, List.setIfInBounds_toArray, List.set_cons_zero, List.set_cons_succ, i64_w, i32_w]
                          rfl
                        refine take_ (i := 20) (N := some 37) (v := ?_) (a' := ?_) #[true, true, true, true, true, true, true, true, true, true, true, true, true, true, true, true, true, true, true, true, true, false, false] rfl rfl (take_ofW HT_.out HW_.out (by kernel_rfl)) (fun _ _ _ h => h) (Or.inl ⟨by rfl, ?_⟩) hHeld ?_ ?_
                        rotate_left
                        · rintro w' ⟨s0, s1, s2, s3, s4, s5, s6, s7, s8, s9, s10, s11, s12, s13, s14, s15⟩
                          go_simp
                          with_reducible rfl
                        rotate_left
                        · simp only [Act.put, List.setIfInBounds_toArray, List.set_cons_zero, List.set_cons_succ, i64_w, i32_w]
                          rfl
                        refine one_ (i := 21) (N := some 38) #[true, true, true, true, true, true, true, true, true, true, true, true, true, true, true, true, true, true, true, true, true, true, false] rfl rfl (one_of HT_.out (by kernel_rfl)) (by decide) (fun K hK => ?_)
                        refine goes_ Try.func28 (by kernel_rfl) rfl #[.pointer (some ⟨g488, 0, none⟩), .int .i64 ((rd_T51 l0 x4_1).f0), .int .i64 ((rd_T51 l0 x4_1).f1), .int .i64 ((rd_T51 l0 x4_1).f2), .int .i64 ((rd_T51 l0 x4_1).f3)] (by rfl) rfl rfl (by (try simp only [List.map_toArray, List.map_cons, List.map_nil]); first | done | rfl | (simp only [List.length_drop, List.length_take]; rfl)) ?_
                        with_reducible refine (detect_Detector_Add.calls kj3 g488 x489000_1 x489001_1 x489002_1 x489003_1 x489004_1 x489005_1 ((rd_T51 l0 x4_1).f0) ((rd_T51 l0 x4_1).f1) ((rd_T51 l0 x4_1).f2) ((rd_T51 l0 x4_1).f3) t494 t495 t496 t497 t498 t499 t500 w _ ?side1 ?side2 A9.out).mono ?_
                        (case side1 => repeat (first | (with_reducible first | exact HI488.out | apply IsS75.alloc | apply IsS75.drewN | apply IsS75.drew | apply IsS75.set_0 | apply IsS75.set_1 | apply IsS75.set_2 | apply IsS75.set_3 | apply IsS75.set_4 | apply IsS75.set_5) | exact HI488.out))
                        (case side2 => repeat (first | (with_reducible first | exact HB.out | apply below_alloc | apply pw_below_drewN | apply below_drew1 | refine below_set ?_ (IsS75.ge HI488.out)) | exact HB.out))
                        rintro e w27 ⟨rfl, hi, hb, hk⟩
                        refine ⟨_, rfl, ?_⟩
                        have n0_ := Aside0.mk (hb)
                        have n1_ := Aside0.mk (hi)
                        clear HB
                        clear HI488
                        have HB := n0_
                        have HI488 := n1_
                        clear n0_ n1_
                        (try clear hb)
                        (try clear hb2)
                        (try clear hk)
                        (try clear hi)
                        refine hK.out _ _ ⟨((HB.out.cell (World.block_lt_of_cell? w _ hw490_0)).trans hw490_0), ((HB.out.cell (World.block_lt_of_cell? w _ hw490_1)).trans hw490_1), ((HB.out.cell (World.block_lt_of_cell? w _ hw490_2)).trans hw490_2), ((HB.out.cell (World.block_lt_of_cell? w _ hw490_3)).trans hw490_3), ((HB.out.cell (World.block_lt_of_cell? w _ hw491_0)).trans hw491_0), ((HB.out.cell (World.block_lt_of_cell? w _ hw491_1)).trans hw491_1), ((HB.out.cell (World.block_lt_of_cell? w _ hw491_2)).trans hw491_2), ((HB.out.cell (World.block_lt_of_cell? w _ hw491_3)).trans hw491_3), ((HB.out.cell (World.block_lt_of_cell? w _ hw492_0)).trans hw492_0), ((HB.out.cell (World.block_lt_of_cell? w _ hw492_1)).trans hw492_1), ((HB.out.cell (World.block_lt_of_cell? w _ hw492_2)).trans hw492_2), ((HB.out.cell (World.block_lt_of_cell? w _ hw492_3)).trans hw492_3), ((HB.out.cell (World.block_lt_of_cell? w _ hw493_0)).trans hw493_0), ((HB.out.cell (World.block_lt_of_cell? w _ hw493_1)).trans hw493_1), ((HB.out.cell (World.block_lt_of_cell? w _ hw493_2)).trans hw493_2), ((HB.out.cell (World.block_lt_of_cell? w _ hw493_3)).trans hw493_3)⟩ (fun hHeld => ?_)
                        clear hK K
                        refine norm_ (a' := ?_) ?_ ?_
                        rotate_left
                        · show Act.put _ (some 38) _ = _
                          simp only [Act.put, List.setIfInBounds_toArray, List.set_cons_zero, List.set_cons_succ, i64_w, i32_w]
                          rfl
                        refine pure_ (i := 22) (N := some 5) (v := ?_) (a' := ?_) #[true, true, true, true, true, true, true, true, true, true, true, true, true, true, true, true, true, true, true, true, true, true, true] rfl rfl (any_of HT_.out (by kernel_rfl)) (fun _ _ _ h => h) (Or.inl ⟨by rfl, ?_⟩) ?_ ?_
                        rotate_left
                        · intro w'
                          go_simp
                          with_reducible rfl
                        rotate_left
                        · simp only [Act.put, List.setIfInBounds_toArray, List.set_cons_zero, List.set_cons_succ, i64_w, i32_w]
                          rfl
                        refine done_ (done_of HT_.out (by kernel_rfl)) ?_
                        try go_wp2_with (first | (go_at_call 32; (with_reducible refine (detect_Detector_Threshold.calls g488 t495 t496 t497 t498 t499 t500 t501 t502 t503 t504 t505 t506 t507 w _ ?side1 ?side2 A16.out).mono ?_); (case side1 => repeat (first | (with_reducible first | exact HI488.out | apply IsS75.alloc | apply IsS75.drewN | apply IsS75.drew | apply IsS75.set_0 | apply IsS75.set_1 | apply IsS75.set_2 | apply IsS75.set_3 | apply IsS75.set_4 | apply IsS75.set_5) | exact HI488.out)); (case side2 => repeat (first | (with_reducible first | exact HB.out | apply below_alloc | apply pw_below_drewN | apply below_drew1 | refine below_set ?_ (IsS75.ge HI488.out)) | exact HB.out)); rintro e w28 ⟨rfl, hi, hb, hk⟩; have n0_ := Aside0.mk (hb); have n1_ := Aside0.mk (hi); clear HB; clear HI488; have HB := n0_; have HI488 := n1_; clear n0_ n1_; (try clear hb); (try clear hb2); (try clear hk); (try clear hi)) | (go_at_call 35; (with_reducible refine (fixed_Of.calls 6 t508 _ A17.out).mono ?_); rintro e w29 ⟨rfl, hb⟩; have n0_ := Aside0.mk (IsS75.below (by repeat (first | (with_reducible first | exact HI488.out | apply IsS75.alloc | apply IsS75.drewN | apply IsS75.drew | apply IsS75.set_0 | apply IsS75.set_1 | apply IsS75.set_2 | apply IsS75.set_3 | apply IsS75.set_4 | apply IsS75.set_5) | exact HI488.out)) hb); have n1_ := Aside0.mk (below_step (by repeat (first | (with_reducible first | exact HB.out | apply below_alloc | apply pw_below_drewN | apply below_drew1 | refine below_set ?_ (IsS75.ge HI488.out)) | exact HB.out)) hb); clear HI488; clear HB; have HI488 := n0_; have HB := n1_; clear n0_ n1_; (try clear hb); (try clear hb2); (try clear hk); (try clear hi)) | (go_at_call 32; (with_reducible refine (detect_Detector_Threshold.calls g488 t502 t503 t504 t505 t506 t507 t509 t510 t511 t512 t513 t514 t515 w _ ?side1 ?side2 A23.out).mono ?_); (case side1 => repeat (first | (with_reducible first | exact HI488.out | apply IsS75.alloc | apply IsS75.drewN | apply IsS75.drew | apply IsS75.set_0 | apply IsS75.set_1 | apply IsS75.set_2 | apply IsS75.set_3 | apply IsS75.set_4 | apply IsS75.set_5) | exact HI488.out)); (case side2 => repeat (first | (with_reducible first | exact HB.out | apply below_alloc | apply pw_below_drewN | apply below_drew1 | refine below_set ?_ (IsS75.ge HI488.out)) | exact HB.out)); rintro e w30 ⟨rfl, hi, hb, hk⟩; have n0_ := Aside0.mk (hb); have n1_ := Aside0.mk (hi); clear HB; clear HI488; have HB := n0_; have HI488 := n1_; clear n0_ n1_; (try clear hb); (try clear hb2); (try clear hk); (try clear hi)) | (go_at_call 35; (with_reducible refine (fixed_Of.calls 600 t516 _ A24.out).mono ?_); rintro e w31 ⟨rfl, hb⟩; have n0_ := Aside0.mk (IsS75.below (by repeat (first | (with_reducible first | exact HI488.out | apply IsS75.alloc | apply IsS75.drewN | apply IsS75.drew | apply IsS75.set_0 | apply IsS75.set_1 | apply IsS75.set_2 | apply IsS75.set_3 | apply IsS75.set_4 | apply IsS75.set_5) | exact HI488.out)) hb); have n1_ := Aside0.mk (below_step (by repeat (first | (with_reducible first | exact HB.out | apply below_alloc | apply pw_below_drewN | apply below_drew1 | refine below_set ?_ (IsS75.ge HI488.out)) | exact HB.out)) hb); clear HI488; clear HB; have HI488 := n0_; have HB := n1_; clear n0_ n1_; (try clear hb); (try clear hb2); (try clear hk); (try clear hi)))
                        go_ret
                        exact ⟨by first | rfl | (simp [errW_none, errW_some] <;> rfl) | (simp [*, errW_none, errW_some] <;> rfl), by repeat (first | (with_reducible first | exact HB.out | apply below_alloc | apply pw_below_drewN | apply below_drew1 | refine below_set ?_ (IsS75.ge HI488.out)) | exact HB.out)⟩
                      · rw [if_neg c25] at H
                        have c25b0 : decide (t516 < t509) = false := decide_eq_false c25
                        clear c25
                        have H' := Aside0.mk H
                        clear H
                        try go_wp2
                        have n0_ := Aside0.mk (IsS75.drew HI488.out)
                        have n1_ := Aside0.mk (below_drew1 HB.out)
                        clear HI488
                        clear HB
                        have HI488 := n0_
                        have HB := n1_
                        clear n0_ n1_
                        have p490 : 0 ≤ (x4_1 : Int) := of_decide_eq_true (by first | (with_reducible assumption) | assumption)
                        have q490 : x4_1 < (l0.length : Int) := of_decide_eq_true (by first | (with_reducible assumption) | assumption)
                        obtain ⟨ad490, e490, hx490_0, hx490_1, hx490_2, hx490_3⟩ := at_T51 HR0.out x4_1 p490 q490
                        have hw490_3 := hx490_3
                        have hw490_2 := hx490_2
                        have hw490_1 := hx490_1
                        have hw490_0 := hx490_0
                        cases e490
                        replace hx490_0 := (HB.out.cell (World.block_lt_of_cell? w _ hx490_0)).trans hx490_0
                        replace hx490_1 := (HB.out.cell (World.block_lt_of_cell? w _ hx490_1)).trans hx490_1
                        replace hx490_2 := (HB.out.cell (World.block_lt_of_cell? w _ hx490_2)).trans hx490_2
                        replace hx490_3 := (HB.out.cell (World.block_lt_of_cell? w _ hx490_3)).trans hx490_3
                        replace p490 := eq_true p490
                        replace q490 := eq_true q490
                        have p491 : 0 ≤ (x4_1 : Int) := of_decide_eq_true (by first | (with_reducible assumption) | assumption)
                        have q491 : x4_1 < (l0.length : Int) := of_decide_eq_true (by first | (with_reducible assumption) | assumption)
                        obtain ⟨ad491, e491, hx491_0, hx491_1, hx491_2, hx491_3⟩ := at_T51 HR0.out x4_1 p491 q491
                        have hw491_3 := hx491_3
                        have hw491_2 := hx491_2
                        have hw491_1 := hx491_1
                        have hw491_0 := hx491_0
                        obtain rfl : ad490 = ad491 := (by injection e491)
                        replace hx491_0 := (HB.out.cell (World.block_lt_of_cell? w _ hx491_0)).trans hx491_0
                        replace hx491_1 := (HB.out.cell (World.block_lt_of_cell? w _ hx491_1)).trans hx491_1
                        replace hx491_2 := (HB.out.cell (World.block_lt_of_cell? w _ hx491_2)).trans hx491_2
                        replace hx491_3 := (HB.out.cell (World.block_lt_of_cell? w _ hx491_3)).trans hx491_3
                        replace p491 := eq_true p491
                        replace q491 := eq_true q491
                        have p492 : 0 ≤ (x4_1 : Int) := of_decide_eq_true (by first | (with_reducible assumption) | assumption)
                        have q492 : x4_1 < (l0.length : Int) := of_decide_eq_true (by first | (with_reducible assumption) | assumption)
                        obtain ⟨ad492, e492, hx492_0, hx492_1, hx492_2, hx492_3⟩ := at_T51 HR0.out x4_1 p492 q492
                        have hw492_3 := hx492_3
                        have hw492_2 := hx492_2
                        have hw492_1 := hx492_1
                        have hw492_0 := hx492_0
                        obtain rfl : ad490 = ad492 := (by injection e492)
                        replace hx492_0 := (HB.out.cell (World.block_lt_of_cell? w _ hx492_0)).trans hx492_0
                        replace hx492_1 := (HB.out.cell (World.block_lt_of_cell? w _ hx492_1)).trans hx492_1
                        replace hx492_2 := (HB.out.cell (World.block_lt_of_cell? w _ hx492_2)).trans hx492_2
                        replace hx492_3 := (HB.out.cell (World.block_lt_of_cell? w _ hx492_3)).trans hx492_3
                        replace p492 := eq_true p492
                        replace q492 := eq_true q492
                        have p493 : 0 ≤ (x4_1 : Int) := of_decide_eq_true (by first | (with_reducible assumption) | assumption)
                        have q493 : x4_1 < (l0.length : Int) := of_decide_eq_true (by first | (with_reducible assumption) | assumption)
                        obtain ⟨ad493, e493, hx493_0, hx493_1, hx493_2, hx493_3⟩ := at_T51 HR0.out x4_1 p493 q493
                        have hw493_3 := hx493_3
                        have hw493_2 := hx493_2
                        have hw493_1 := hx493_1
                        have hw493_0 := hx493_0
                        obtain rfl : ad490 = ad493 := (by injection e493)
                        replace hx493_0 := (HB.out.cell (World.block_lt_of_cell? w _ hx493_0)).trans hx493_0
                        replace hx493_1 := (HB.out.cell (World.block_lt_of_cell? w _ hx493_1)).trans hx493_1
                        replace hx493_2 := (HB.out.cell (World.block_lt_of_cell? w _ hx493_2)).trans hx493_2
                        replace hx493_3 := (HB.out.cell (World.block_lt_of_cell? w _ hx493_3)).trans hx493_3
                        replace p493 := eq_true p493
                        replace q493 := eq_true q493
                        refine start_ (n := 23) (S := fun w' => w'.cell? (ad490.add ((x4_1).toNat * 4)) = some (.int .i64 ((rd_T51 l0 x4_1).f0)) ∧ w'.cell? ⟨(ad490.add ((x4_1).toNat * 4)).block, (ad490.add ((x4_1).toNat * 4)).off + 1, none⟩ = some (.int .i64 ((rd_T51 l0 x4_1).f1)) ∧ w'.cell? ⟨(ad490.add ((x4_1).toNat * 4)).block, (ad490.add ((x4_1).toNat * 4)).off + 2, none⟩ = some (.int .i64 ((rd_T51 l0 x4_1).f2)) ∧ w'.cell? ⟨(ad490.add ((x4_1).toNat * 4)).block, (ad490.add ((x4_1).toNat * 4)).off + 3, none⟩ = some (.int .i64 ((rd_T51 l0 x4_1).f3)) ∧ w'.cell? (ad490.add ((x4_1).toNat * 4)) = some (.int .i64 ((rd_T51 l0 x4_1).f0)) ∧ w'.cell? ⟨(ad490.add ((x4_1).toNat * 4)).block, (ad490.add ((x4_1).toNat * 4)).off + 1, none⟩ = some (.int .i64 ((rd_T51 l0 x4_1).f1)) ∧ w'.cell? ⟨(ad490.add ((x4_1).toNat * 4)).block, (ad490.add ((x4_1).toNat * 4)).off + 2, none⟩ = some (.int .i64 ((rd_T51 l0 x4_1).f2)) ∧ w'.cell? ⟨(ad490.add ((x4_1).toNat * 4)).block, (ad490.add ((x4_1).toNat * 4)).off + 3, none⟩ = some (.int .i64 ((rd_T51 l0 x4_1).f3)) ∧ w'.cell? (ad490.add ((x4_1).toNat * 4)) = some (.int .i64 ((rd_T51 l0 x4_1).f0)) ∧ w'.cell? ⟨(ad490.add ((x4_1).toNat * 4)).block, (ad490.add ((x4_1).toNat * 4)).off + 1, none⟩ = some (.int .i64 ((rd_T51 l0 x4_1).f1)) ∧ w'.cell? ⟨(ad490.add ((x4_1).toNat * 4)).block, (ad490.add ((x4_1).toNat * 4)).off + 2, none⟩ = some (.int .i64 ((rd_T51 l0 x4_1).f2)) ∧ w'.cell? ⟨(ad490.add ((x4_1).toNat * 4)).block, (ad490.add ((x4_1).toNat * 4)).off + 3, none⟩ = some (.int .i64 ((rd_T51 l0 x4_1).f3)) ∧ w'.cell? (ad490.add ((x4_1).toNat * 4)) = some (.int .i64 ((rd_T51 l0 x4_1).f0)) ∧ w'.cell? ⟨(ad490.add ((x4_1).toNat * 4)).block, (ad490.add ((x4_1).toNat * 4)).off + 1, none⟩ = some (.int .i64 ((rd_T51 l0 x4_1).f1)) ∧ w'.cell? ⟨(ad490.add ((x4_1).toNat * 4)).block, (ad490.add ((x4_1).toNat * 4)).off + 2, none⟩ = some (.int .i64 ((rd_T51 l0 x4_1).f2)) ∧ w'.cell? ⟨(ad490.add ((x4_1).toNat * 4)).block, (ad490.add ((x4_1).toNat * 4)).off + 3, none⟩ = some (.int .i64 ((rd_T51 l0 x4_1).f3))) (ds := []) #[false, false, false, false, false, false, false, false, false, false, false, false, false, false, false, false, false, false, false, false, false, false, false] (by kernel_rfl) rfl rfl ⟨((HB.out.cell (World.block_lt_of_cell? w _ hw490_0)).trans hw490_0), ((HB.out.cell (World.block_lt_of_cell? w _ hw490_1)).trans hw490_1), ((HB.out.cell (World.block_lt_of_cell? w _ hw490_2)).trans hw490_2), ((HB.out.cell (World.block_lt_of_cell? w _ hw490_3)).trans hw490_3), ((HB.out.cell (World.block_lt_of_cell? w _ hw491_0)).trans hw491_0), ((HB.out.cell (World.block_lt_of_cell? w _ hw491_1)).trans hw491_1), ((HB.out.cell (World.block_lt_of_cell? w _ hw491_2)).trans hw491_2), ((HB.out.cell (World.block_lt_of_cell? w _ hw491_3)).trans hw491_3), ((HB.out.cell (World.block_lt_of_cell? w _ hw492_0)).trans hw492_0), ((HB.out.cell (World.block_lt_of_cell? w _ hw492_1)).trans hw492_1), ((HB.out.cell (World.block_lt_of_cell? w _ hw492_2)).trans hw492_2), ((HB.out.cell (World.block_lt_of_cell? w _ hw492_3)).trans hw492_3), ((HB.out.cell (World.block_lt_of_cell? w _ hw493_0)).trans hw493_0), ((HB.out.cell (World.block_lt_of_cell? w _ hw493_1)).trans hw493_1), ((HB.out.cell (World.block_lt_of_cell? w _ hw493_2)).trans hw493_2), ((HB.out.cell (World.block_lt_of_cell? w _ hw493_3)).trans hw493_3)⟩ (fun hHeld => ?_); refine with_tabW flywheellaw18_DetectHolds.tab5 flywheellaw18_DetectHolds.bits5 (fun HT_ HW_ => ?_)
                        generalize wc.drew = w32 at HI488 HB hx490_0 hx490_1 hx490_2 hx490_3 hx491_0 hx491_1 hx491_2 hx491_3 hx492_0 hx492_1 hx492_2 hx492_3 hx493_0 hx493_1 hx493_2 hx493_3 hHeld ⊢
                        refine pure_ (i := 0) (N := some 17) (v := ?_) (a' := ?_) #[true, false, false, false, false, false, false, false, false, false, false, false, false, false, false, false, false, false, false, false, false, false, false] rfl rfl (any_of HT_.out (by kernel_rfl)) (fun _ _ _ h => h) (Or.inl ⟨by rfl, ?_⟩) ?_ ?_
                        rotate_left
                        · intro w'
                          go_simp
                          with_reducible rfl
                        rotate_left
                        · simp only [Act.put, List.setIfInBounds_toArray, List.set_cons_zero, List.set_cons_succ, i64_w, i32_w]
                          rfl
                        refine pure_ (i := 1) (N := some 18) (v := ?_) (a' := ?_) #[true, true, false, false, false, false, false, false, false, false, false, false, false, false, false, false, false, false, false, false, false, false, false] rfl rfl (any_of HT_.out (by kernel_rfl)) (fun _ _ _ h => h) (Or.inl ⟨by rfl, ?_⟩) ?_ ?_
                        rotate_left
                        · intro w'
                          go_simp
                          with_reducible rfl
                        rotate_left
                        · simp only [Act.put, List.setIfInBounds_toArray, List.set_cons_zero, List.set_cons_succ, i64_w, i32_w]
                          rfl
                        refine pure_ (i := 2) (N := some 19) (v := ?_) (a' := ?_) #[true, true, true, false, false, false, false, false, false, false, false, false, false, false, false, false, false, false, false, false, false, false, false] rfl rfl (any_of HT_.out (by kernel_rfl)) (fun _ _ _ h => h) (Or.inl ⟨by rfl, ?_⟩) ?_ ?_
                        rotate_left
                        · intro w'
                          go_simp
                          with_reducible rfl
                        rotate_left
                        · simp only [Act.put, List.setIfInBounds_toArray, List.set_cons_zero, List.set_cons_succ, i64_w, i32_w]
                          rfl
                        refine pure_ (i := 3) (N := some 20) (v := ?_) (a' := ?_) #[true, true, true, true, false, false, false, false, false, false, false, false, false, false, false, false, false, false, false, false, false, false, false] rfl rfl (any_of HT_.out (by kernel_rfl)) (fun _ _ _ h => h) (Or.inl ⟨by rfl, ?_⟩) ?_ ?_
                        rotate_left
                        · intro w'
                          go_simp
                          with_reducible rfl
                        rotate_left
                        · simp only [Act.put, List.setIfInBounds_toArray, List.set_cons_zero, List.set_cons_succ, i64_w, i32_w]
                          rfl
                        refine pure_ (i := 4) (N := some 21) (v := ?_) (a' := ?_) #[true, true, true, true, true, false, false, false, false, false, false, false, false, false, false, false, false, false, false, false, false, false, false] rfl rfl (any_of HT_.out (by kernel_rfl)) (fun _ _ _ h => h) (Or.inl ⟨by rfl, ?_⟩) ?_ ?_
                        rotate_left
                        · intro w'
                          go_simp
                          with_reducible rfl
                        rotate_left
                        · simp only [Act.put, List.setIfInBounds_toArray, List.set_cons_zero, List.set_cons_succ, i64_w, i32_w]
                          rfl
                        refine pure_ (i := 6) (N := some 23) (v := ?_) (a' := ?_) #[true, true, true, true, true, false, true, false, false, false, false, false, false, false, false, false, false, false, false, false, false, false, false] rfl rfl (any_of HT_.out (by kernel_rfl)) (fun _ _ _ h => h) (Or.inl ⟨by rfl, ?_⟩) ?_ ?_
                        rotate_left
                        · intro w'
                          go_simp
                          with_reducible rfl
                        rotate_left
                        · simp only [Act.put, List.setIfInBounds_toArray, List.set_cons_zero, List.set_cons_succ, i64_w, i32_w]
                          rfl
                        refine pure_ (i := 7) (N := some 24) (v := ?_) (a' := ?_) #[true, true, true, true, true, false, true, true, false, false, false, false, false, false, false, false, false, false, false, false, false, false, false] rfl rfl (any_of HT_.out (by kernel_rfl)) (fun _ _ _ h => h) (Or.inl ⟨by rfl, ?_⟩) ?_ ?_
                        rotate_left
                        · intro w'
                          go_simp
                          with_reducible rfl
                        rotate_left
                        · simp only [Act.put, List.setIfInBounds_toArray, List.set_cons_zero, List.set_cons_succ, i64_w, i32_w]
                          rfl
                        refine pure_ (i := 8) (N := some 25) (v := ?_) (a' := ?_) #[true, true, true, true, true, false, true, true, true, false, false, false, false, false, false, false, false, false, false, false, false, false, false] rfl rfl (any_of HT_.out (by kernel_rfl)) (fun _ _ _ h => h) (Or.inl ⟨by rfl, ?_⟩) ?_ ?_
                        rotate_left
                        · intro w'
                          go_simp
                          with_reducible rfl
                        rotate_left
                        · simp only [Act.put, List.setIfInBounds_toArray, List.set_cons_zero, List.set_cons_succ, i64_w, i32_w]
                          rfl
                        refine pure_ (i := 9) (N := some 26) (v := ?_) (a' := ?_) #[true, true, true, true, true, false, true, true, true, true, false, false, false, false, false, false, false, false, false, false, false, false, false] rfl rfl (any_of HT_.out (by kernel_rfl)) (fun _ _ _ h => h) (Or.inl ⟨by rfl, ?_⟩) ?_ ?_
                        rotate_left
                        · intro w'
                          go_simp
                          with_reducible rfl
                        rotate_left
                        · simp only [Act.put, List.setIfInBounds_toArray, List.set_cons_zero, List.set_cons_succ, i64_w, i32_w]
                          rfl
                        refine pure_ (i := 11) (N := some 28) (v := ?_) (a' := ?_) #[true, true, true, true, true, false, true, true, true, true, false, true, false, false, false, false, false, false, false, false, false, false, false] rfl rfl (any_of HT_.out (by kernel_rfl)) (fun _ _ _ h => h) (Or.inl ⟨by rfl, ?_⟩) ?_ ?_
                        rotate_left
                        · intro w'
                          go_simp
                          with_reducible rfl
                        rotate_left
                        · simp only [Act.put, List.setIfInBounds_toArray, List.set_cons_zero, List.set_cons_succ, i64_w, i32_w]
                          rfl
                        refine pure_ (i := 12) (N := some 29) (v := ?_) (a' := ?_) #[true, true, true, true, true, false, true, true, true, true, false, true, true, false, false, false, false, false, false, false, false, false, false] rfl rfl (any_of HT_.out (by kernel_rfl)) (fun _ _ _ h => h) (Or.inl ⟨by rfl, ?_⟩) ?_ ?_
                        rotate_left
                        · intro w'
                          go_simp
                          with_reducible rfl
                        rotate_left
                        · simp only [Act.put, List.setIfInBounds_toArray, List.set_cons_zero, List.set_cons_succ, i64_w, i32_w]
                          rfl
                        refine pure_ (i := 13) (N := some 30) (v := ?_) (a' := ?_) #[true, true, true, true, true, false, true, true, true, true, false, true, true, true, false, false, false, false, false, false, false, false, false] rfl rfl (any_of HT_.out (by kernel_rfl)) (fun _ _ _ h => h) (Or.inl ⟨by rfl, ?_⟩) ?_ ?_
                        rotate_left
                        · intro w'
                          go_simp
                          with_reducible rfl
                        rotate_left
                        · simp only [Act.put, List.setIfInBounds_toArray, List.set_cons_zero, List.set_cons_succ, i64_w, i32_w]
                          rfl
                        refine pure_ (i := 14) (N := some 31) (v := ?_) (a' := ?_) #[true, true, true, true, true, false, true, true, true, true, false, true, true, true, true, false, false, false, false, false, false, false, false] rfl rfl (any_of HT_.out (by kernel_rfl)) (fun _ _ _ h => h) (Or.inl ⟨by rfl, ?_⟩) ?_ ?_
                        rotate_left
                        · intro w'
                          go_simp
                          with_reducible rfl
                        rotate_left
                        · simp only [Act.put, List.setIfInBounds_toArray, List.set_cons_zero, List.set_cons_succ, i64_w, i32_w]
                          rfl
                        refine pure_ (i := 16) (N := some 33) (v := ?_) (a' := ?_) #[true, true, true, true, true, false, true, true, true, true, false, true, true, true, true, false, true, false, false, false, false, false, false] rfl rfl (any_of HT_.out (by kernel_rfl)) (fun _ _ _ h => h) (Or.inl ⟨by rfl, ?_⟩) ?_ ?_
                        rotate_left
                        · intro w'
                          go_simp
                          with_reducible rfl
                        rotate_left
                        · simp only [Act.put, List.setIfInBounds_toArray, List.set_cons_zero, List.set_cons_succ, i64_w, i32_w]
                          rfl
                        refine pure_ (i := 17) (N := some 34) (v := ?_) (a' := ?_) #[true, true, true, true, true, false, true, true, true, true, false, true, true, true, true, false, true, true, false, false, false, false, false] rfl rfl (any_of HT_.out (by kernel_rfl)) (fun _ _ _ h => h) (Or.inl ⟨by rfl, ?_⟩) ?_ ?_
                        rotate_left
                        · intro w'
                          go_simp
                          with_reducible rfl
                        rotate_left
                        · simp only [Act.put, List.setIfInBounds_toArray, List.set_cons_zero, List.set_cons_succ, i64_w, i32_w]
                          rfl
                        refine pure_ (i := 18) (N := some 35) (v := ?_) (a' := ?_) #[true, true, true, true, true, false, true, true, true, true, false, true, true, true, true, false, true, true, true, false, false, false, false] rfl rfl (any_of HT_.out (by kernel_rfl)) (fun _ _ _ h => h) (Or.inl ⟨by rfl, ?_⟩) ?_ ?_
                        rotate_left
                        · intro w'
                          go_simp
                          with_reducible rfl
                        rotate_left
                        · simp only [Act.put, List.setIfInBounds_toArray, List.set_cons_zero, List.set_cons_succ, i64_w, i32_w]
                          rfl
                        refine pure_ (i := 19) (N := some 36) (v := ?_) (a' := ?_) #[true, true, true, true, true, false, true, true, true, true, false, true, true, true, true, false, true, true, true, true, false, false, false] rfl rfl (any_of HT_.out (by kernel_rfl)) (fun _ _ _ h => h) (Or.inl ⟨by rfl, ?_⟩) ?_ ?_
                        rotate_left
                        · intro w'
                          go_simp
                          with_reducible rfl
                        rotate_left
                        · simp only [Act.put, List.setIfInBounds_toArray, List.set_cons_zero, List.set_cons_succ, i64_w, i32_w]
                          rfl
                        refine take_ (i := 5) (N := some 22) (v := ?_) (a' := ?_) #[true, true, true, true, true, true, true, true, true, true, false, true, true, true, true, false, true, true, true, true, false, false, false] rfl rfl (take_ofW HT_.out HW_.out (by kernel_rfl)) (fun _ _ _ h => h) (Or.inl ⟨by rfl, ?_⟩) hHeld ?_ ?_
                        rotate_left
                        · rintro w' ⟨s0, s1, s2, s3, s4, s5, s6, s7, s8, s9, s10, s11, s12, s13, s14, s15⟩
                          go_simp
                          with_reducible rfl
                        rotate_left
                        · simp only [Act.put, List.setIfInBounds_toArray, List.set_cons_zero, List.set_cons_succ, i64_w, i32_w]
                          rfl
                        refine take_ (i := 10) (N := some 27) (v := ?_) (a' := ?_) #[true, true, true, true, true, true, true, true, true, true, true, true, true, true, true, false, true, true, true, true, false, false, false] rfl rfl (take_ofW HT_.out HW_.out (by kernel_rfl)) (fun _ _ _ h => h) (Or.inl ⟨by rfl, ?_⟩) hHeld ?_ ?_
                        rotate_left
                        · rintro w' ⟨s0, s1, s2, s3, s4, s5, s6, s7, s8, s9, s10, s11, s12, s13, s14, s15⟩
                          go_simp
                          with_reducible rfl
                        rotate_left
                        · simp only [Act.put, List.setIfInBounds_toArray, List.set_cons_zero, List.set_cons_succ, i64_w, i32_w]
                          rfl
                        refine take_ (i := 15) (N := some 32) (v := ?_) (a' := ?_) #[true, true, true, true, true, true, true, true, true, true, true, true, true, true, true, true, true, true, true, true, false, false, false] rfl rfl (take_ofW HT_.out HW_.out (by kernel_rfl)) (fun _ _ _ h => h) (Or.inl ⟨by rfl, ?_⟩) hHeld ?_ ?_
                        rotate_left
                        · rintro w' ⟨s0, s1, s2, s3, s4, s5, s6, s7, s8, s9, s10, s11, s12, s13, s14, s15⟩
                          go_simp
                          with_reducible rfl
                        rotate_left
                        · simp only [Act.put, List.setIfInBounds_toArray, List.set_cons_zero, List.set_cons_succ, i64_w, i32_w]
                          rfl
                        refine take_ (i := 20) (N := some 37) (v := ?_) (a' := ?_) #[true, true, true, true, true, true, true, true, true, true, true, true, true, true, true, true, true, true, true, true, true, false, false] rfl rfl (take_ofW HT_.out HW_.out (by kernel_rfl)) (fun _ _ _ h => h) (Or.inl ⟨by rfl, ?_⟩) hHeld ?_ ?_
                        rotate_left
                        · rintro w' ⟨s0, s1, s2, s3, s4, s5, s6, s7, s8, s9, s10, s11, s12, s13, s14, s15⟩
                          go_simp
                          with_reducible rfl
                        rotate_left
                        · simp only [Act.put, List.setIfInBounds_toArray, List.set_cons_zero, List.set_cons_succ, i64_w, i32_w]
                          rfl
                        refine one_ (i := 21) (N := some 38) #[true, true, true, true, true, true, true, true, true, true, true, true, true, true, true, true, true, true, true, true, true, true, false] rfl rfl (one_of HT_.out (by kernel_rfl)) (by decide) (fun K hK => ?_)
                        refine goes_ Try.func28 (by kernel_rfl) rfl #[.pointer (some ⟨g488, 0, none⟩), .int .i64 ((rd_T51 l0 x4_1).f0), .int .i64 ((rd_T51 l0 x4_1).f1), .int .i64 ((rd_T51 l0 x4_1).f2), .int .i64 ((rd_T51 l0 x4_1).f3)] (by rfl) rfl rfl (by (try simp only [List.map_toArray, List.map_cons, List.map_nil]); first | done | rfl | (simp only [List.length_drop, List.length_take]; rfl)) ?_
                        with_reducible refine (detect_Detector_Add.calls kj3 g488 x489000_1 x489001_1 x489002_1 x489003_1 x489004_1 x489005_1 ((rd_T51 l0 x4_1).f0) ((rd_T51 l0 x4_1).f1) ((rd_T51 l0 x4_1).f2) ((rd_T51 l0 x4_1).f3) t494 t495 t496 t497 t498 t499 t500 w _ ?side1 ?side2 A9.out).mono ?_
                        (case side1 => repeat (first | (with_reducible first | exact HI488.out | apply IsS75.alloc | apply IsS75.drewN | apply IsS75.drew | apply IsS75.set_0 | apply IsS75.set_1 | apply IsS75.set_2 | apply IsS75.set_3 | apply IsS75.set_4 | apply IsS75.set_5) | exact HI488.out))
                        (case side2 => repeat (first | (with_reducible first | exact HB.out | apply below_alloc | apply pw_below_drewN | apply below_drew1 | refine below_set ?_ (IsS75.ge HI488.out)) | exact HB.out))
                        rintro e w33 ⟨rfl, hi, hb, hk⟩
                        refine ⟨_, rfl, ?_⟩
                        have n0_ := Aside0.mk (hb)
                        have n1_ := Aside0.mk (hi)
                        clear HB
                        clear HI488
                        have HB := n0_
                        have HI488 := n1_
                        clear n0_ n1_
                        (try clear hb)
                        (try clear hb2)
                        (try clear hk)
                        (try clear hi)
                        refine hK.out _ _ ⟨((HB.out.cell (World.block_lt_of_cell? w _ hw490_0)).trans hw490_0), ((HB.out.cell (World.block_lt_of_cell? w _ hw490_1)).trans hw490_1), ((HB.out.cell (World.block_lt_of_cell? w _ hw490_2)).trans hw490_2), ((HB.out.cell (World.block_lt_of_cell? w _ hw490_3)).trans hw490_3), ((HB.out.cell (World.block_lt_of_cell? w _ hw491_0)).trans hw491_0), ((HB.out.cell (World.block_lt_of_cell? w _ hw491_1)).trans hw491_1), ((HB.out.cell (World.block_lt_of_cell? w _ hw491_2)).trans hw491_2), ((HB.out.cell (World.block_lt_of_cell? w _ hw491_3)).trans hw491_3), ((HB.out.cell (World.block_lt_of_cell? w _ hw492_0)).trans hw492_0), ((HB.out.cell (World.block_lt_of_cell? w _ hw492_1)).trans hw492_1), ((HB.out.cell (World.block_lt_of_cell? w _ hw492_2)).trans hw492_2), ((HB.out.cell (World.block_lt_of_cell? w _ hw492_3)).trans hw492_3), ((HB.out.cell (World.block_lt_of_cell? w _ hw493_0)).trans hw493_0), ((HB.out.cell (World.block_lt_of_cell? w _ hw493_1)).trans hw493_1), ((HB.out.cell (World.block_lt_of_cell? w _ hw493_2)).trans hw493_2), ((HB.out.cell (World.block_lt_of_cell? w _ hw493_3)).trans hw493_3)⟩ (fun hHeld => ?_)
                        clear hK K
                        refine norm_ (a' := ?_) ?_ ?_
                        rotate_left
                        · show Act.put _ (some 38) _ = _
                          simp only [Act.put, List.setIfInBounds_toArray, List.set_cons_zero, List.set_cons_succ, i64_w, i32_w]
                          rfl
                        refine pure_ (i := 22) (N := some 5) (v := ?_) (a' := ?_) #[true, true, true, true, true, true, true, true, true, true, true, true, true, true, true, true, true, true, true, true, true, true, true] rfl rfl (any_of HT_.out (by kernel_rfl)) (fun _ _ _ h => h) (Or.inl ⟨by rfl, ?_⟩) ?_ ?_
                        rotate_left
                        · intro w'
                          go_simp
                          with_reducible rfl
                        rotate_left
                        · simp only [Act.put, List.setIfInBounds_toArray, List.set_cons_zero, List.set_cons_succ, i64_w, i32_w]
                          rfl
                        refine done_ (done_of HT_.out (by kernel_rfl)) ?_
                        try go_wp2_with (first | (go_at_call 32; (with_reducible refine (detect_Detector_Threshold.calls g488 t495 t496 t497 t498 t499 t500 t501 t502 t503 t504 t505 t506 t507 w _ ?side1 ?side2 A16.out).mono ?_); (case side1 => repeat (first | (with_reducible first | exact HI488.out | apply IsS75.alloc | apply IsS75.drewN | apply IsS75.drew | apply IsS75.set_0 | apply IsS75.set_1 | apply IsS75.set_2 | apply IsS75.set_3 | apply IsS75.set_4 | apply IsS75.set_5) | exact HI488.out)); (case side2 => repeat (first | (with_reducible first | exact HB.out | apply below_alloc | apply pw_below_drewN | apply below_drew1 | refine below_set ?_ (IsS75.ge HI488.out)) | exact HB.out)); rintro e w34 ⟨rfl, hi, hb, hk⟩; have n0_ := Aside0.mk (hb); have n1_ := Aside0.mk (hi); clear HB; clear HI488; have HB := n0_; have HI488 := n1_; clear n0_ n1_; (try clear hb); (try clear hb2); (try clear hk); (try clear hi)) | (go_at_call 35; (with_reducible refine (fixed_Of.calls 6 t508 _ A17.out).mono ?_); rintro e w35 ⟨rfl, hb⟩; have n0_ := Aside0.mk (IsS75.below (by repeat (first | (with_reducible first | exact HI488.out | apply IsS75.alloc | apply IsS75.drewN | apply IsS75.drew | apply IsS75.set_0 | apply IsS75.set_1 | apply IsS75.set_2 | apply IsS75.set_3 | apply IsS75.set_4 | apply IsS75.set_5) | exact HI488.out)) hb); have n1_ := Aside0.mk (below_step (by repeat (first | (with_reducible first | exact HB.out | apply below_alloc | apply pw_below_drewN | apply below_drew1 | refine below_set ?_ (IsS75.ge HI488.out)) | exact HB.out)) hb); clear HI488; clear HB; have HI488 := n0_; have HB := n1_; clear n0_ n1_; (try clear hb); (try clear hb2); (try clear hk); (try clear hi)) | (go_at_call 32; (with_reducible refine (detect_Detector_Threshold.calls g488 t502 t503 t504 t505 t506 t507 t509 t510 t511 t512 t513 t514 t515 w _ ?side1 ?side2 A23.out).mono ?_); (case side1 => repeat (first | (with_reducible first | exact HI488.out | apply IsS75.alloc | apply IsS75.drewN | apply IsS75.drew | apply IsS75.set_0 | apply IsS75.set_1 | apply IsS75.set_2 | apply IsS75.set_3 | apply IsS75.set_4 | apply IsS75.set_5) | exact HI488.out)); (case side2 => repeat (first | (with_reducible first | exact HB.out | apply below_alloc | apply pw_below_drewN | apply below_drew1 | refine below_set ?_ (IsS75.ge HI488.out)) | exact HB.out)); rintro e w36 ⟨rfl, hi, hb, hk⟩; have n0_ := Aside0.mk (hb); have n1_ := Aside0.mk (hi); clear HB; clear HI488; have HB := n0_; have HI488 := n1_; clear n0_ n1_; (try clear hb); (try clear hb2); (try clear hk); (try clear hi)) | (go_at_call 35; (with_reducible refine (fixed_Of.calls 600 t516 _ A24.out).mono ?_); rintro e w37 ⟨rfl, hb⟩; have n0_ := Aside0.mk (IsS75.below (by repeat (first | (with_reducible first | exact HI488.out | apply IsS75.alloc | apply IsS75.drewN | apply IsS75.drew | apply IsS75.set_0 | apply IsS75.set_1 | apply IsS75.set_2 | apply IsS75.set_3 | apply IsS75.set_4 | apply IsS75.set_5) | exact HI488.out)) hb); have n1_ := Aside0.mk (below_step (by repeat (first | (with_reducible first | exact HB.out | apply below_alloc | apply pw_below_drewN | apply below_drew1 | refine below_set ?_ (IsS75.ge HI488.out)) | exact HB.out)) hb); clear HI488; clear HB; have HI488 := n0_; have HB := n1_; clear n0_ n1_; (try clear hb); (try clear hb2); (try clear hk); (try clear hi)))
                        go_roundg kj3
                        case measure => have := HK1.out; have := HJ3.out; omega
                        case rel => exact ⟨(wrap64 (x4_1 + 1)), (t510), (t511), (t512), (t513), (t514), (t515), (by first | rfl | (simp; done) | (simp [*]; done)), H', ⟨by have := HK1.out; have := HJ3.out; omega⟩, ⟨by repeat (first | (with_reducible first | exact HI488.out | apply IsS75.alloc | apply IsS75.drewN | apply IsS75.drew | apply IsS75.set_0 | apply IsS75.set_1 | apply IsS75.set_2 | apply IsS75.set_3 | apply IsS75.set_4 | apply IsS75.set_5) | exact HI488.out)⟩, ⟨by repeat (first | (with_reducible first | exact HB.out | apply below_alloc | apply pw_below_drewN | apply below_drew1 | refine below_set ?_ (IsS75.ge HI488.out)) | exact HB.out)⟩⟩
              · rw [if_neg c8] at H
                exact absurd H (by simp)
            · rw [if_neg c7] at H
              exact absurd H (by simp)
          · replace c6 := Bool.eq_false_iff.mpr c6
            subst c6
            have H1 : ((flywheellaw18_wakes.f kj3).bind fun t489 => (some t489)) = some r := by rw [if_neg (show ¬ (false = true) by decide)] at H; exact H
            clear H
            have H := H1
            clear H1
            replace H := Option.bind_eq_some_iff.mp H
            obtain ⟨t489, A380, H⟩ := H
            replace H : (some t489) = some r := H
            have A38 := Aside0.mk A380
            clear A380
            obtain rfl := Option.some.inj H
            go_wp2_with (first | ((with_reducible refine gate_callee (f := 34) rfl ?_); refine goesL_ (some 57) rfl rfl Try.func34 (by kernel_rfl) rfl #[] rfl (by (try simp only [List.map_toArray, List.map_cons, List.map_nil]); first | done | rfl | (simp only [List.length_drop, List.length_take]; rfl)) ?_; (with_reducible refine (flywheellaw18_wakes.calls kj3  t489 _ A38.out).mono ?_); rintro e w39 ⟨rfl, hb⟩; refine ⟨_, rfl, ?_⟩; have n0_ := Aside0.mk (IsS75.below (by repeat (first | (with_reducible first | exact HI488.out | apply IsS75.alloc | apply IsS75.drewN | apply IsS75.drew | apply IsS75.set_0 | apply IsS75.set_1 | apply IsS75.set_2 | apply IsS75.set_3 | apply IsS75.set_4 | apply IsS75.set_5) | exact HI488.out)) hb); have n1_ := Aside0.mk (below_step (by repeat (first | (with_reducible first | exact HB.out | apply below_alloc | apply pw_below_drewN | apply below_drew1 | refine below_set ?_ (IsS75.ge HI488.out)) | exact HB.out)) hb); clear HI488; clear HB; have HI488 := n0_; have HB := n1_; clear n0_ n1_; (try clear hb); (try clear hb2); (try clear hk); (try clear hi)))
            go_ret
            exact ⟨by first | rfl | (simp [errW_none, errW_some] <;> rfl) | (simp [*, errW_none, errW_some] <;> rfl), by repeat (first | (with_reducible first | exact HB.out | apply below_alloc | apply pw_below_drewN | apply below_drew1 | refine below_set ?_ (IsS75.ge HI488.out)) | exact HB.out)⟩
def flywheellaw18_DetectHolds.Pure : Prop := ∀ (l0 : List (S51)), l0.length ≤ maxLen → l0.length * 32 ≤ 140737488351232 → (∀ x ∈ l0, (Lit.int .i64 x.f0).wf = true ∧ (Lit.int .i64 x.f1).wf = true ∧ (Lit.int .i64 x.f2).wf = true ∧ (Lit.int .i64 x.f3).wf = true) → ∃ k, flywheellaw18_DetectHolds.f k l0 = some true
theorem flywheellaw18_DetectHolds.walk (P : flywheellaw18_DetectHolds.Pure) (A0 : Option Addr) (c0 : Nat) (l0 : List (S51)) (w : World) (hm0 : l0.length ≤ maxLen) (y0 : l0.length * 32 ≤ 140737488351232) (hw0 : (∀ x ∈ l0, (Lit.int .i64 x.f0).wf = true ∧ (Lit.int .i64 x.f1).wf = true ∧ (Lit.int .i64 x.f2).wf = true ∧ (Lit.int .i64 x.f3).wf = true)) (hr0 : Kd.C k51 w A0 l0.length l0) (hc0 : l0.length ≤ c0) :
    Calls Try.prog 9 #[.slice A0 l0.length c0] w fun e w' => e = .returned (.bool true) ∧ Below w.heap.size w w' := by
  obtain ⟨k, h⟩ := P l0 hm0 y0 hw0
  refine (flywheellaw18_DetectHolds.calls k A0 c0 l0 true w hr0 hc0 h).mono ?_
  rintro e w' ⟨rfl, hd⟩
  exact ⟨rfl, hd⟩
end Go.Proofs.Ytaelmmbodigheaa.P
end

section
namespace Go.Proofs.Ytaelmmbodigheaa.P
open Go.RowKit Go.Proofs.YtaelmmbodigheaaW.PrintWords Go.Proofs.YtaelmmbodigheaaW.PrintLast Go.Proofs.YtaelmmbodigheaaW.PrintMore
attribute [local go_sem] max2_int min2_int max_two min_two max_three min_three max_four min_four   -- for this text's walks alone
set_option linter.unusedVariables false
set_option linter.unusedSimpArgs false
end Go.Proofs.Ytaelmmbodigheaa.P
end

section
namespace Go.Proofs.Ytaelmmbodigheaa.P
open Go.RowKit Go.Proofs.YtaelmmbodigheaaW.PrintWords Go.Proofs.YtaelmmbodigheaaW.PrintLast Go.Proofs.YtaelmmbodigheaaW.PrintMore
attribute [local go_sem] max2_int min2_int max_two min_two max_three min_three max_four min_four   -- for this text's walks alone
set_option linter.unusedVariables false
set_option linter.unusedSimpArgs false
end Go.Proofs.Ytaelmmbodigheaa.P
end

section
namespace Go.Proofs.Ytaelmmbodigheaa.P
open Go.RowKit Go.Proofs.YtaelmmbodigheaaW.PrintWords Go.Proofs.YtaelmmbodigheaaW.PrintLast Go.Proofs.YtaelmmbodigheaaW.PrintMore
attribute [local go_sem] max2_int min2_int max_two min_two max_three min_three max_four min_four   -- for this text's walks alone
set_option linter.unusedVariables false
set_option linter.unusedSimpArgs false
end Go.Proofs.Ytaelmmbodigheaa.P
end

section
namespace Go.Proofs.Ytaelmmbodigheaa.P
open Go.RowKit Go.Proofs.YtaelmmbodigheaaW.PrintWords Go.Proofs.YtaelmmbodigheaaW.PrintLast Go.Proofs.YtaelmmbodigheaaW.PrintMore
attribute [local go_sem] max2_int min2_int max_two min_two max_three min_three max_four min_four   -- for this text's walks alone
set_option linter.unusedVariables false
set_option linter.unusedSimpArgs false
end Go.Proofs.Ytaelmmbodigheaa.P
end

section
namespace Go.Proofs.Ytaelmmbodigheaa.P
open Go.RowKit Go.Proofs.YtaelmmbodigheaaW.PrintWords Go.Proofs.YtaelmmbodigheaaW.PrintLast Go.Proofs.YtaelmmbodigheaaW.PrintMore
attribute [local go_sem] max2_int min2_int max_two min_two max_three min_three max_four min_four   -- for this text's walks alone
set_option linter.unusedVariables false
set_option linter.unusedSimpArgs false
end Go.Proofs.Ytaelmmbodigheaa.P
end

section
namespace Go.Proofs.Ytaelmmbodigheaa.P
open Go.RowKit Go.Proofs.YtaelmmbodigheaaW.PrintWords Go.Proofs.YtaelmmbodigheaaW.PrintLast Go.Proofs.YtaelmmbodigheaaW.PrintMore
attribute [local go_sem] max2_int min2_int max_two min_two max_three min_three max_four min_four   -- for this text's walks alone
set_option linter.unusedVariables false
set_option linter.unusedSimpArgs false
end Go.Proofs.Ytaelmmbodigheaa.P
end

section
namespace Go.Proofs.Ytaelmmbodigheaa.P
open Go.RowKit Go.Proofs.YtaelmmbodigheaaW.PrintWords Go.Proofs.YtaelmmbodigheaaW.PrintLast Go.Proofs.YtaelmmbodigheaaW.PrintMore
attribute [local go_sem] max2_int min2_int max_two min_two max_three min_three max_four min_four   -- for this text's walks alone
set_option linter.unusedVariables false
set_option linter.unusedSimpArgs false
end Go.Proofs.Ytaelmmbodigheaa.P
end

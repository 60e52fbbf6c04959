-- PUT TOGETHER by a program of this session: of the claim's texts, what is used
import Derived.Test.YtmcfgaokimlngaaKTrendLines5
import Derived.Test.YtmcfgaokimlngaaKTrendLines7
import Derived.Test.YtmcfgaokimlngaaKTrendLines10
section
namespace Go.Proofs.Ytmcfgaokimlngaa.P
open Go.RowKit Go.Proofs.YtmcfgaokimlngaaW.PrintWords Go.Proofs.YtmcfgaokimlngaaW.PrintLast Go.Proofs.YtmcfgaokimlngaaW.PrintMore
attribute [local go_sem] max2_int min2_int max_two min_two max_three min_three max_four min_four   -- for this text's walks alone
set_option linter.unusedVariables false
set_option linter.unusedSimpArgs false
mutual
def flywheelref01_Mul.j0 : Nat → Int → Int → Bool → Option (Int)
 | 0, _, _, _ => none
 | k + 1, x0, x1, x13 => if x13 = true then (some 0) else (if x0 = 1 then (some x1) else (if x1 = 1 then (some x0) else (if x0 > 0 then (if x1 > 0 then (flywheelref01_Mul.j1 k x0 x1 true) else (flywheelref01_Mul.j1 k x0 x1 false)) else (if x1 > 0 then (flywheelref01_Mul.j1 k x0 x1 false) else (flywheelref01_Mul.j1 k x0 x1 true)))))
def flywheelref01_Mul.j1 : Nat → Int → Int → Bool → Option (Int)
 | 0, _, _, _ => none
 | k + 1, x0, x1, x5 => if x0 = (-9223372036854775808) then (flywheelref01_Mul.j2 k x0 x1 x5 true) else (flywheelref01_Mul.j2 k x0 x1 x5 (x1 == (-9223372036854775808)))
def flywheelref01_Mul.j2 : Nat → Int → Int → Bool → Bool → Option (Int)
 | 0, _, _, _, _ => none
 | k + 1, x0, x1, x5, x30 => if x30 = true then (if x5 = true then (some 9223372036854775807) else (some (-9223372036854775808))) else ((flywheelref01_Abs.f k x0).bind fun t269 => ((flywheelref01_Abs.f k x1).bind fun t270 => (if x5 = true then (if t270 = 0 then (none) else (if t269 > (wrap64 (Int.tdiv 9223372036854775807 t270)) then (some 9223372036854775807) else (some (wrap64 (x0 * x1))))) else (if t270 = 0 then (none) else (if t269 > (wrap64 (Int.tdiv 9223372036854775807 t270)) then (some (-9223372036854775808)) else (some (wrap64 (x0 * x1))))))))
end
def flywheelref01_Mul.f (k : Nat) (a0 : Int) (a1 : Int) : Option (Int) := if a0 = 0 then (flywheelref01_Mul.j0 k a0 a1 true) else (flywheelref01_Mul.j0 k a0 a1 (a1 == 0))
set_option maxHeartbeats 8000000 in
set_option maxRecDepth 100000 in
theorem flywheelref01_Mul.calls (k : Nat) (a0 : Int) (a1 : Int) (r : Int) (w : World) (h : flywheelref01_Mul.f k a0 a1 = some r) :
  Calls Try.prog 32 #[.int .i64 a0, .int .i64 a1] w fun e w' => e = .returned (.int .i64 r) ∧ Drawn0 w w' := by
 have H : (if a0 = 0 then (flywheelref01_Mul.j0 k a0 a1 true) else (flywheelref01_Mul.j0 k a0 a1 (a1 == 0))) = some r := h
 clear h
 have HC3 := Aside0.mk H
 clear H
 go_enter Try.func32, Try.ntmps32
 go_upto_region 1 with (fail)
 go_cut [13] (fun v13 wc => ∃ (kq : Nat) (x13_2 : Bool), v13 = .bool x13_2 ∧ Aside0 (flywheelref01_Mul.j0 kq a0 a1 x13_2 = some r) ∧ Aside0 (kq ≤ k) ∧ Drawn0 w wc)
 case first =>
  have H := HC3.out
  clear HC3
  by_cases c4 : a0 = 0
  ·rw [if_pos c4] at H
   have c4b0 : (a0 == 0) = true := beq_iff_eq.mpr c4
   have c4b1 : (a0 != 0) = false := bne_eq_false_iff_eq.mpr c4
   clear c4
   (first | rw [c4b0] | (simp only [i64_w, i32_w]; rw [c4b0]) | skip)
   have H' := Aside0.mk H
   clear H
   go_wp2
   go_meet
   case rel => exact ⟨_, (true), (by first | rfl | (simp; done) | (simp [*]; done)), H', ⟨by first | omega | exact Nat.le_refl _⟩, by repeat (first | exact Drawn0.refl _ | apply Drawn0.step)⟩
  ·rw [if_neg c4] at H
   have c4b0 : (a0 == 0) = false := beq_eq_false_iff_ne.mpr c4
   have c4b1 : (a0 != 0) = true := bne_iff_ne.mpr c4
   (first | rw [c4b0] | (simp only [i64_w, i32_w]; rw [c4b0]) | skip)
   have H' := Aside0.mk H
   clear H
   go_wp2
   go_meet
   case rel => exact ⟨_, ((a1 == 0)), (by first | rfl | (simp; done) | (simp [*]; done)), H', ⟨by first | omega | exact Nat.le_refl _⟩, by repeat (first | exact Drawn0.refl _ | apply Drawn0.step)⟩
 case rest =>
  clear HC3
  try clear p2
  try clear c3
  try clear c4
  try clear c4b0
  try clear c4b1
  obtain ⟨kq, x13_2, rfl, HA, HJ2, ⟨mc2, rfl⟩⟩ := hcut
  cases kq with
  | zero => exact absurd HA.out (by simp [flywheelref01_Mul.j0])
  | succ kj2 =>
   have H := HA.out
   clear HA
   simp only [flywheelref01_Mul.j0] at H
   by_cases c5 : x13_2 = true
   ·subst c5
    have H1 : (some 0) = some r := by rw [if_pos rfl] at H; exact H
    clear H
    have H := H1
    clear H1
    obtain rfl := Option.some.inj H
    go_wp2
    go_ret
    exact ⟨by first | rfl | (simp; done) | (simp [*]; done), by repeat (first | exact Drawn0.refl _ | apply Drawn0.step)⟩
   ·replace c5 := Bool.eq_false_iff.mpr c5
    subst c5
    have H1 : (if a0 = 1 then (some a1) else (if a1 = 1 then (some a0) else (if a0 > 0 then (if a1 > 0 then (flywheelref01_Mul.j1 kj2 a0 a1 true) else (flywheelref01_Mul.j1 kj2 a0 a1 false)) else (if a1 > 0 then (flywheelref01_Mul.j1 kj2 a0 a1 false) else (flywheelref01_Mul.j1 kj2 a0 a1 true))))) = some r := by rw [if_neg (show ¬ (false = true) by decide)] at H; exact H
    clear H
    have H := H1
    clear H1
    by_cases c6 : a0 = 1
    ·rw [if_pos c6] at H
     have c6b0 : (a0 == 1) = true := beq_iff_eq.mpr c6
     have c6b1 : (a0 != 1) = false := bne_eq_false_iff_eq.mpr c6
     clear c6
     obtain rfl := Option.some.inj H
     go_wp2
     go_ret
     exact ⟨by first | rfl | (simp; done) | (simp [*]; done), by repeat (first | exact Drawn0.refl _ | apply Drawn0.step)⟩
    ·rw [if_neg c6] at H
     have c6b0 : (a0 == 1) = false := beq_eq_false_iff_ne.mpr c6
     have c6b1 : (a0 != 1) = true := bne_iff_ne.mpr c6
     by_cases c7 : a1 = 1
     ·rw [if_pos c7] at H
      have c7b0 : (a1 == 1) = true := beq_iff_eq.mpr c7
      have c7b1 : (a1 != 1) = false := bne_eq_false_iff_eq.mpr c7
      clear c7
      obtain rfl := Option.some.inj H
      go_wp2
      go_ret
      exact ⟨by first | rfl | (simp; done) | (simp [*]; done), by repeat (first | exact Drawn0.refl _ | apply Drawn0.step)⟩
     ·rw [if_neg c7] at H
      have c7b0 : (a1 == 1) = false := beq_eq_false_iff_ne.mpr c7
      have c7b1 : (a1 != 1) = true := bne_iff_ne.mpr c7
      have HC8 := Aside0.mk H
      clear H
      go_upto_region 7 with (fail)
      go_cut [5] (fun v5 wc => ∃ (kq : Nat) (x5_7 : Bool), v5 = .bool x5_7 ∧ Aside0 (flywheelref01_Mul.j1 kq a0 a1 x5_7 = some r) ∧ Aside0 (kq ≤ kj2) ∧ Drawn0 w wc)
      case first =>
       have H := HC8.out
       clear HC8
       by_cases c9 : a0 > 0
       ·rw [if_pos c9] at H
        have c9b0 : decide (0 < a0) = true := decide_eq_true c9
        clear c9
        (first | rw [c9b0] | (simp only [i64_w, i32_w]; rw [c9b0]) | skip)
        by_cases c10 : a1 > 0
        ·rw [if_pos c10] at H
         have c10b0 : decide (0 < a1) = true := decide_eq_true c10
         clear c10
         have H' := Aside0.mk H
         clear H
         go_wp2
         go_meet
         case rel => exact ⟨_, (true), (by first | rfl | (simp; done) | (simp [*]; done)), H', ⟨by have := HJ2.out; first | omega | exact Nat.le_refl _⟩, by repeat (first | exact Drawn0.refl _ | apply Drawn0.step)⟩
        ·rw [if_neg c10] at H
         have c10b0 : decide (0 < a1) = false := decide_eq_false c10
         clear c10
         have H' := Aside0.mk H
         clear H
         go_wp2
         go_meet
         case rel => exact ⟨_, (false), (by first | rfl | (simp; done) | (simp [*]; done)), H', ⟨by have := HJ2.out; first | omega | exact Nat.le_refl _⟩, by repeat (first | exact Drawn0.refl _ | apply Drawn0.step)⟩
       ·rw [if_neg c9] at H
        have c9b0 : decide (0 < a0) = false := decide_eq_false c9
        clear c9
        (first | rw [c9b0] | (simp only [i64_w, i32_w]; rw [c9b0]) | skip)
        by_cases c11 : a1 > 0
        ·rw [if_pos c11] at H
         have c11b0 : decide (0 < a1) = true := decide_eq_true c11
         clear c11
         have H' := Aside0.mk H
         clear H
         go_wp2
         go_meet
         case rel => exact ⟨_, (false), (by first | rfl | (simp; done) | (simp [*]; done)), H', ⟨by have := HJ2.out; first | omega | exact Nat.le_refl _⟩, by repeat (first | exact Drawn0.refl _ | apply Drawn0.step)⟩
        ·rw [if_neg c11] at H
         have c11b0 : decide (0 < a1) = false := decide_eq_false c11
         clear c11
         have H' := Aside0.mk H
         clear H
         go_wp2
         go_meet
         case rel => exact ⟨_, (true), (by first | rfl | (simp; done) | (simp [*]; done)), H', ⟨by have := HJ2.out; first | omega | exact Nat.le_refl _⟩, by repeat (first | exact Drawn0.refl _ | apply Drawn0.step)⟩
      case rest =>
       clear HC8
       try clear c1
       try clear c2
       try clear p2
       try clear c3
       try clear c4
       try clear c4b0
       try clear c4b1
       try clear c5
       try clear c6
       try clear c6b0
       try clear c6b1
       try clear c7
       try clear c7b0
       try clear c7b1
       try clear c9
       try clear c9b0
       try clear c10
       try clear c10b0
       try clear c11
       try clear c11b0
       try clear p2
       obtain ⟨kq, x5_7, rfl, HA, HJ7, ⟨mc7, rfl⟩⟩ := hcut
       cases kq with
       | zero => exact absurd HA.out (by simp [flywheelref01_Mul.j1])
       | succ kj7 =>
        have H := HA.out
        clear HA
        simp only [flywheelref01_Mul.j1] at H
        have HC12 := Aside0.mk H
        clear H
        go_upto_region 8 with (fail)
        go_cut [30] (fun v30 wc => ∃ (kq : Nat) (x30_11 : Bool), v30 = .bool x30_11 ∧ Aside0 (flywheelref01_Mul.j2 kq a0 a1 x5_7 x30_11 = some r) ∧ Aside0 (kq ≤ kj7) ∧ Drawn0 w wc)
        case first =>
         have H := HC12.out
         clear HC12
         by_cases c13 : a0 = (-9223372036854775808)
         ·rw [if_pos c13] at H
          have c13b0 : (a0 == (-9223372036854775808)) = true := beq_iff_eq.mpr c13
          have c13b1 : (a0 != (-9223372036854775808)) = false := bne_eq_false_iff_eq.mpr c13
          clear c13
          (first | rw [c13b0] | (simp only [i64_w, i32_w]; rw [c13b0]) | skip)
          have H' := Aside0.mk H
          clear H
          go_wp2
          go_meet
          case rel => exact ⟨_, (true), (by first | rfl | (simp; done) | (simp [*]; done)), H', ⟨by have := HJ2.out; have := HJ7.out; first | omega | exact Nat.le_refl _⟩, by repeat (first | exact Drawn0.refl _ | apply Drawn0.step)⟩
         ·rw [if_neg c13] at H
          have c13b0 : (a0 == (-9223372036854775808)) = false := beq_eq_false_iff_ne.mpr c13
          have c13b1 : (a0 != (-9223372036854775808)) = true := bne_iff_ne.mpr c13
          (first | rw [c13b0] | (simp only [i64_w, i32_w]; rw [c13b0]) | skip)
          have H' := Aside0.mk H
          clear H
          go_wp2
          go_meet
          case rel => exact ⟨_, ((a1 == (-9223372036854775808))), (by first | rfl | (simp; done) | (simp [*]; done)), H', ⟨by have := HJ2.out; have := HJ7.out; first | omega | exact Nat.le_refl _⟩, by repeat (first | exact Drawn0.refl _ | apply Drawn0.step)⟩
        case rest =>
         clear HC12
         try clear c1
         try clear c2
         try clear p2
         try clear c3
         try clear c4
         try clear c4b0
         try clear c4b1
         try clear c5
         try clear c6
         try clear c6b0
         try clear c6b1
         try clear c7
         try clear c7b0
         try clear c7b1
         try clear c9
         try clear c9b0
         try clear c10
         try clear c10b0
         try clear c11
         try clear c11b0
         try clear c13
         try clear c13b0
         try clear c13b1
         try clear p2
         obtain ⟨kq, x30_11, rfl, HA, HJ11, ⟨mc11, rfl⟩⟩ := hcut
         cases kq with
         | zero => exact absurd HA.out (by simp [flywheelref01_Mul.j2])
         | succ kj11 =>
          have H := HA.out
          clear HA
          simp only [flywheelref01_Mul.j2] at H
          by_cases c14 : x30_11 = true
          ·subst c14
           have H1 : (if x5_7 = true then (some 9223372036854775807) else (some (-9223372036854775808))) = some r := by rw [if_pos rfl] at H; exact H
           clear H
           have H := H1
           clear H1
           by_cases c15 : x5_7 = true
           ·subst c15
            have H1 : (some 9223372036854775807) = some r := by rw [if_pos rfl] at H; exact H
            clear H
            have H := H1
            clear H1
            obtain rfl := Option.some.inj H
            go_wp2
            go_ret
            exact ⟨by first | rfl | (simp; done) | (simp [*]; done), by repeat (first | exact Drawn0.refl _ | apply Drawn0.step)⟩
           ·replace c15 := Bool.eq_false_iff.mpr c15
            subst c15
            have H1 : (some (-9223372036854775808)) = some r := by rw [if_neg (show ¬ (false = true) by decide)] at H; exact H
            clear H
            have H := H1
            clear H1
            obtain rfl := Option.some.inj H
            go_wp2
            go_ret
            exact ⟨by first | rfl | (simp; done) | (simp [*]; done), by repeat (first | exact Drawn0.refl _ | apply Drawn0.step)⟩
          ·replace c14 := Bool.eq_false_iff.mpr c14
           subst c14
           have H1 : ((flywheelref01_Abs.f kj11 a0).bind fun t269 => ((flywheelref01_Abs.f kj11 a1).bind fun t270 => (if x5_7 = true then (if t270 = 0 then (none) else (if t269 > (wrap64 (Int.tdiv 9223372036854775807 t270)) then (some 9223372036854775807) else (some (wrap64 (a0 * a1))))) else (if t270 = 0 then (none) else (if t269 > (wrap64 (Int.tdiv 9223372036854775807 t270)) then (some (-9223372036854775808)) else (some (wrap64 (a0 * a1)))))))) = some r := by rw [if_neg (show ¬ (false = true) by decide)] at H; exact H
           clear H
           have H := H1
           clear H1
           replace H := Option.bind_eq_some_iff.mp H
           obtain ⟨t269, A160, H⟩ := H
           replace H : ((flywheelref01_Abs.f kj11 a1).bind fun t270 => (if x5_7 = true then (if t270 = 0 then (none) else (if t269 > (wrap64 (Int.tdiv 9223372036854775807 t270)) then (some 9223372036854775807) else (some (wrap64 (a0 * a1))))) else (if t270 = 0 then (none) else (if t269 > (wrap64 (Int.tdiv 9223372036854775807 t270)) then (some (-9223372036854775808)) else (some (wrap64 (a0 * a1))))))) = some r := H
           have A16 := Aside0.mk A160
           clear A160
           replace H := Option.bind_eq_some_iff.mp H
           obtain ⟨t270, A170, H⟩ := H
           replace H : (if x5_7 = true then (if t270 = 0 then (none) else (if t269 > (wrap64 (Int.tdiv 9223372036854775807 t270)) then (some 9223372036854775807) else (some (wrap64 (a0 * a1))))) else (if t270 = 0 then (none) else (if t269 > (wrap64 (Int.tdiv 9223372036854775807 t270)) then (some (-9223372036854775808)) else (some (wrap64 (a0 * a1)))))) = some r := H
           have A17 := Aside0.mk A170
           clear A170
           by_cases c18 : x5_7 = true
           ·subst c18
            have H1 : (if t270 = 0 then (none) else (if t269 > (wrap64 (Int.tdiv 9223372036854775807 t270)) then (some 9223372036854775807) else (some (wrap64 (a0 * a1))))) = some r := by rw [if_pos rfl] at H; exact H
            clear H
            have H := H1
            clear H1
            by_cases c19 : t270 = 0
            ·rw [if_pos c19] at H
             exact absurd H (by simp)
            ·rw [if_neg c19] at H
             have c19b0 : (t270 == 0) = false := beq_eq_false_iff_ne.mpr c19
             have c19b1 : (t270 != 0) = true := bne_iff_ne.mpr c19
             by_cases c20 : t269 > (wrap64 (Int.tdiv 9223372036854775807 t270))
             ·rw [if_pos c20] at H
              have c20b0 : decide ((wrap64 (Int.tdiv 9223372036854775807 t270)) < t269) = true := decide_eq_true c20
              clear c20
              obtain rfl := Option.some.inj H
              go_wp2_with (first | ((with_reducible refine gate_callee (f := 46) rfl ?_); refine goesL_ (some 33) rfl rfl Try.func46 (by kernel_rfl) rfl #[.int .i64 a0] rfl (by (try simp only [List.map_toArray, List.map_cons, List.map_nil]); first | done | rfl | (simp only [List.length_drop, List.length_take]; rfl)) ?_; (with_reducible refine (flywheelref01_Abs.calls kj11 a0 t269 _ A16.out).mono ?_); rintro e w' ⟨rfl, ⟨nd, rfl⟩⟩; refine ⟨_, rfl, ?_⟩) | ((with_reducible refine gate_callee (f := 46) rfl ?_); refine goesL_ (some 35) rfl rfl Try.func46 (by kernel_rfl) rfl #[.int .i64 a1] rfl (by (try simp only [List.map_toArray, List.map_cons, List.map_nil]); first | done | rfl | (simp only [List.length_drop, List.length_take]; rfl)) ?_; (with_reducible refine (flywheelref01_Abs.calls kj11 a1 t270 _ A17.out).mono ?_); rintro e w' ⟨rfl, ⟨nd, rfl⟩⟩; refine ⟨_, rfl, ?_⟩))
              go_ret
              exact ⟨by first | rfl | (simp; done) | (simp [*]; done), by repeat (first | exact Drawn0.refl _ | apply Drawn0.step)⟩
             ·rw [if_neg c20] at H
              have c20b0 : decide ((wrap64 (Int.tdiv 9223372036854775807 t270)) < t269) = false := decide_eq_false c20
              clear c20
              obtain rfl := Option.some.inj H
              go_wp2_with (first | ((with_reducible refine gate_callee (f := 46) rfl ?_); refine goesL_ (some 33) rfl rfl Try.func46 (by kernel_rfl) rfl #[.int .i64 a0] rfl (by (try simp only [List.map_toArray, List.map_cons, List.map_nil]); first | done | rfl | (simp only [List.length_drop, List.length_take]; rfl)) ?_; (with_reducible refine (flywheelref01_Abs.calls kj11 a0 t269 _ A16.out).mono ?_); rintro e w' ⟨rfl, ⟨nd, rfl⟩⟩; refine ⟨_, rfl, ?_⟩) | ((with_reducible refine gate_callee (f := 46) rfl ?_); refine goesL_ (some 35) rfl rfl Try.func46 (by kernel_rfl) rfl #[.int .i64 a1] rfl (by (try simp only [List.map_toArray, List.map_cons, List.map_nil]); first | done | rfl | (simp only [List.length_drop, List.length_take]; rfl)) ?_; (with_reducible refine (flywheelref01_Abs.calls kj11 a1 t270 _ A17.out).mono ?_); rintro e w' ⟨rfl, ⟨nd, rfl⟩⟩; refine ⟨_, rfl, ?_⟩))
              go_ret
              exact ⟨by first | rfl | (simp; done) | (simp [*]; done), by repeat (first | exact Drawn0.refl _ | apply Drawn0.step)⟩
           ·replace c18 := Bool.eq_false_iff.mpr c18
            subst c18
            have H1 : (if t270 = 0 then (none) else (if t269 > (wrap64 (Int.tdiv 9223372036854775807 t270)) then (some (-9223372036854775808)) else (some (wrap64 (a0 * a1))))) = some r := by rw [if_neg (show ¬ (false = true) by decide)] at H; exact H
            clear H
            have H := H1
            clear H1
            by_cases c21 : t270 = 0
            ·rw [if_pos c21] at H
             exact absurd H (by simp)
            ·rw [if_neg c21] at H
             have c21b0 : (t270 == 0) = false := beq_eq_false_iff_ne.mpr c21
             have c21b1 : (t270 != 0) = true := bne_iff_ne.mpr c21
             by_cases c22 : t269 > (wrap64 (Int.tdiv 9223372036854775807 t270))
             ·rw [if_pos c22] at H
              have c22b0 : decide ((wrap64 (Int.tdiv 9223372036854775807 t270)) < t269) = true := decide_eq_true c22
              clear c22
              obtain rfl := Option.some.inj H
              go_wp2_with (first | ((with_reducible refine gate_callee (f := 46) rfl ?_); refine goesL_ (some 33) rfl rfl Try.func46 (by kernel_rfl) rfl #[.int .i64 a0] rfl (by (try simp only [List.map_toArray, List.map_cons, List.map_nil]); first | done | rfl | (simp only [List.length_drop, List.length_take]; rfl)) ?_; (with_reducible refine (flywheelref01_Abs.calls kj11 a0 t269 _ A16.out).mono ?_); rintro e w' ⟨rfl, ⟨nd, rfl⟩⟩; refine ⟨_, rfl, ?_⟩) | ((with_reducible refine gate_callee (f := 46) rfl ?_); refine goesL_ (some 35) rfl rfl Try.func46 (by kernel_rfl) rfl #[.int .i64 a1] rfl (by (try simp only [List.map_toArray, List.map_cons, List.map_nil]); first | done | rfl | (simp only [List.length_drop, List.length_take]; rfl)) ?_; (with_reducible refine (flywheelref01_Abs.calls kj11 a1 t270 _ A17.out).mono ?_); rintro e w' ⟨rfl, ⟨nd, rfl⟩⟩; refine ⟨_, rfl, ?_⟩))
              go_ret
              exact ⟨by first | rfl | (simp; done) | (simp [*]; done), by repeat (first | exact Drawn0.refl _ | apply Drawn0.step)⟩
             ·rw [if_neg c22] at H
              have c22b0 : decide ((wrap64 (Int.tdiv 9223372036854775807 t270)) < t269) = false := decide_eq_false c22
              clear c22
              obtain rfl := Option.some.inj H
              go_wp2_with (first | ((with_reducible refine gate_callee (f := 46) rfl ?_); refine goesL_ (some 33) rfl rfl Try.func46 (by kernel_rfl) rfl #[.int .i64 a0] rfl (by (try simp only [List.map_toArray, List.map_cons, List.map_nil]); first | done | rfl | (simp only [List.length_drop, List.length_take]; rfl)) ?_; (with_reducible refine (flywheelref01_Abs.calls kj11 a0 t269 _ A16.out).mono ?_); rintro e w' ⟨rfl, ⟨nd, rfl⟩⟩; refine ⟨_, rfl, ?_⟩) | ((with_reducible refine gate_callee (f := 46) rfl ?_); refine goesL_ (some 35) rfl rfl Try.func46 (by kernel_rfl) rfl #[.int .i64 a1] rfl (by (try simp only [List.map_toArray, List.map_cons, List.map_nil]); first | done | rfl | (simp only [List.length_drop, List.length_take]; rfl)) ?_; (with_reducible refine (flywheelref01_Abs.calls kj11 a1 t270 _ A17.out).mono ?_); rintro e w' ⟨rfl, ⟨nd, rfl⟩⟩; refine ⟨_, rfl, ?_⟩))
              go_ret
              exact ⟨by first | rfl | (simp; done) | (simp [*]; done), by repeat (first | exact Drawn0.refl _ | apply Drawn0.step)⟩
def flywheelref02_part.l0 : Nat → Int → Int → Int → Int → Int → Bool → Int → Option (Int × Bool × Int)
 | 0, _, _, _, _, _, _, _ => none
 | k + 1, x1, x6, x272000, x272001, x274000, x274001, x274002 => if x6 ≥ 0 then (if x274001 = true then (if (IntKind.u64.wrap ((IntKind.u64.wrap (x274002 * 2)) + (x272000 / 9223372036854775808))) ≥ x1 then (flywheelref02_part.l0 k x1 (wrap64 (x6 - 1)) (IntKind.u64.wrap ((IntKind.u64.wrap (x272000 * 2)) + (x272001 / 9223372036854775808))) (IntKind.u64.wrap (x272001 * 2)) (IntKind.u64.wrap ((IntKind.u64.wrap (x274000 * 2)) + 1)) true (IntKind.u64.wrap ((IntKind.u64.wrap ((IntKind.u64.wrap (x274002 * 2)) + (x272000 / 9223372036854775808))) - x1))) else (flywheelref02_part.l0 k x1 (wrap64 (x6 - 1)) (IntKind.u64.wrap ((IntKind.u64.wrap (x272000 * 2)) + (x272001 / 9223372036854775808))) (IntKind.u64.wrap (x272001 * 2)) (IntKind.u64.wrap (x274000 * 2)) true (IntKind.u64.wrap ((IntKind.u64.wrap (x274002 * 2)) + (x272000 / 9223372036854775808))))) else (if (IntKind.u64.wrap ((IntKind.u64.wrap (x274002 * 2)) + (x272000 / 9223372036854775808))) ≥ x1 then (flywheelref02_part.l0 k x1 (wrap64 (x6 - 1)) (IntKind.u64.wrap ((IntKind.u64.wrap (x272000 * 2)) + (x272001 / 9223372036854775808))) (IntKind.u64.wrap (x272001 * 2)) (IntKind.u64.wrap ((IntKind.u64.wrap (x274000 * 2)) + 1)) ((x274000 / 9223372036854775808) == 1) (IntKind.u64.wrap ((IntKind.u64.wrap ((IntKind.u64.wrap (x274002 * 2)) + (x272000 / 9223372036854775808))) - x1))) else (flywheelref02_part.l0 k x1 (wrap64 (x6 - 1)) (IntKind.u64.wrap ((IntKind.u64.wrap (x272000 * 2)) + (x272001 / 9223372036854775808))) (IntKind.u64.wrap (x272001 * 2)) (IntKind.u64.wrap (x274000 * 2)) ((x274000 / 9223372036854775808) == 1) (IntKind.u64.wrap ((IntKind.u64.wrap (x274002 * 2)) + (x272000 / 9223372036854775808)))))) else (some (x274000, x274001, x274002))
def flywheelref02_part.f (k : Nat) (a0_0 : Int) (a0_1 : Int) (a1 : Int) : Option (Int × Bool × Int) := flywheelref02_part.l0 k a1 127 a0_0 a0_1 0 false 0
set_option maxHeartbeats 8000000 in
set_option maxRecDepth 100000 in
theorem flywheelref02_part.calls (k : Nat) (a0_0 : Int) (a0_1 : Int) (a1 : Int) (r1 : Int) (r2 : Bool) (r3 : Int) (w : World) (h : flywheelref02_part.f k a0_0 a0_1 a1 = some (r1, r2, r3)) :
  Calls Try.prog 60 #[.agg #[.int .u64 a0_0, .int .u64 a0_1], .int .u64 a1] w fun e w' => e = .returned (.agg #[.int .u64 r1, .bool r2, .int .u64 r3]) ∧ Below w.heap.size w w' := by
 have hu92 := Try.underlying92
 have hu89 := Try.underlying89
 have HB := Aside0.mk (Below.refl w.heap.size w)
 have H : (flywheelref02_part.l0 k a1 127 a0_0 a0_1 0 false 0) = some (r1, r2, r3) := h
 clear h
 have H' := Aside0.mk H
 clear H
 go_enter Try.func60, Try.ntmps60
 go_wp2_with (first | ((with_reducible refine gate_dst (N := 2) rfl ?_); refine box_event ?hg (N := 2) ?hd (cs := #[.int .u64 a0_0, .int .u64 a0_1]) (t := 92) ?hr ?_; (case hd => rfl); (case hg => rfl); (case hr => first | (go_simp; done) | (go_simp; rfl)); intro gb271 hg w3 hbox hb; have n0_ := Aside0.mk (below_step (by repeat (first | (with_reducible first | exact HB.out | apply below_alloc | apply pw_below_drewN | apply below_drew1) | exact HB.out)) hb); have n1_ := Aside0.mk (hbox); have n2_ := Aside0.mk ((by rw [hg]; exact (below_size (by repeat (first | (with_reducible first | exact HB.out | apply below_alloc | apply pw_below_drewN | apply below_drew1) | exact HB.out))) : w.heap.size ≤ gb271)); have n3_ := Aside0.mk ((by rw [hg]; exact (below_size (by repeat (first | (with_reducible first | exact HB.out | apply below_alloc | apply pw_below_drewN | apply below_drew1) | exact HB.out))) : w.heap.size ≤ gb271)); clear HB; have HB := n0_; have BK271 := n1_; have GW271 := n2_; have GE271 := n3_; clear n0_ n1_ n2_ n3_; clear hb hbox hg) | ((with_reducible refine gate_dst (N := 4) rfl ?_); refine box_event ?hg (N := 4) ?hd (cs := #[.int .u64 0, .bool false, .int .u64 0]) (t := 89) ?hr ?_; (case hd => rfl); (case hg => rfl); (case hr => first | (go_simp; done) | (go_simp; rfl)); intro gb272 hg w4 hbox hb; have n0_ := Aside0.mk (blk_below (g := gb271) (o := .cells #[.int .u64 a0_0, .int .u64 a0_1] 92 (0, 0)) (by (with_reducible repeat (first | refine blk_drewN ?_ _ | refine blk_drew ?_ | refine blk_alloc ?_ _)); exact BK271.out) hb); have n1_ := Aside0.mk (below_step (by repeat (first | (with_reducible first | exact HB.out | apply below_alloc | apply pw_below_drewN | apply below_drew1 | refine below_set ?_ GE271.out) | exact HB.out)) hb); have n2_ := Aside0.mk (hbox); have n3_ := Aside0.mk ((by rw [hg]; exact (below_size (by repeat (first | (with_reducible first | exact HB.out | apply below_alloc | apply pw_below_drewN | apply below_drew1 | refine below_set ?_ GE271.out) | exact HB.out))) : w.heap.size ≤ gb272)); have n4_ := Aside0.mk ((by rw [hg]; exact (below_size (by repeat (first | (with_reducible first | exact HB.out | apply below_alloc | apply pw_below_drewN | apply below_drew1 | refine below_set ?_ GE271.out) | exact HB.out))) : w.heap.size ≤ gb272)); have n5_ := Aside0.mk ((by rw [hg]; exact Nat.ne_of_lt (blk_lt (g := gb271) (o := .cells #[.int .u64 a0_0, .int .u64 a0_1] 92 (0, 0)) (by (with_reducible repeat (first | refine blk_drewN ?_ _ | refine blk_drew ?_ | refine blk_alloc ?_ _)); exact BK271.out)) : gb271 ≠ gb272)); have n6_ := Aside0.mk ((by rw [hg]; exact Nat.ne_of_gt (blk_lt (g := gb271) (o := .cells #[.int .u64 a0_0, .int .u64 a0_1] 92 (0, 0)) (by (with_reducible repeat (first | refine blk_drewN ?_ _ | refine blk_drew ?_ | refine blk_alloc ?_ _)); exact BK271.out)) : gb272 ≠ gb271)); clear BK271; clear HB; have BK271 := n0_; have HB := n1_; have BK272 := n2_; have GW272 := n3_; have GE272 := n4_; have NB271_272 := n5_; have NB272_271 := n6_; clear n0_ n1_ n2_ n3_ n4_ n5_ n6_; clear hb hbox hg) | ((with_reducible refine gate_dst (N := 5) rfl ?_); refine box_event ?hg (N := 5) ?hd (cs := #[.int .u64 0, .bool false, .int .u64 0]) (t := 89) ?hr ?_; (case hd => rfl); (case hg => rfl); (case hr => first | (go_simp; done) | (go_simp; rfl)); intro gb273 hg w5 hbox hb; have n0_ := Aside0.mk (blk_below (g := gb271) (o := .cells #[.int .u64 a0_0, .int .u64 a0_1] 92 (0, 0)) (by (with_reducible repeat (first | refine blk_drewN ?_ _ | refine blk_drew ?_ | refine blk_alloc ?_ _)); exact BK271.out) hb); have n1_ := Aside0.mk (blk_below (g := gb272) (o := .cells #[.int .u64 0, .bool false, .int .u64 0] 89 (0, 0)) (by (with_reducible repeat (first | refine blk_drewN ?_ _ | refine blk_drew ?_ | refine blk_alloc ?_ _)); exact BK272.out) hb); have n2_ := Aside0.mk (below_step (by repeat (first | (with_reducible first | exact HB.out | apply below_alloc | apply pw_below_drewN | apply below_drew1 | refine below_set ?_ GE271.out | refine below_set ?_ GE272.out) | exact HB.out)) hb); have n3_ := Aside0.mk (hbox); have n4_ := Aside0.mk ((by rw [hg]; exact (below_size (by repeat (first | (with_reducible first | exact HB.out | apply below_alloc | apply pw_below_drewN | apply below_drew1 | refine below_set ?_ GE271.out | refine below_set ?_ GE272.out) | exact HB.out))) : w.heap.size ≤ gb273)); have n5_ := Aside0.mk ((by rw [hg]; exact (below_size (by repeat (first | (with_reducible first | exact HB.out | apply below_alloc | apply pw_below_drewN | apply below_drew1 | refine below_set ?_ GE271.out | refine below_set ?_ GE272.out) | exact HB.out))) : w.heap.size ≤ gb273)); have n6_ := Aside0.mk ((by rw [hg]; exact Nat.ne_of_lt (blk_lt (g := gb271) (o := .cells #[.int .u64 a0_0, .int .u64 a0_1] 92 (0, 0)) (by (with_reducible repeat (first | refine blk_drewN ?_ _ | refine blk_drew ?_ | refine blk_alloc ?_ _)); exact BK271.out)) : gb271 ≠ gb273)); have n7_ := Aside0.mk ((by rw [hg]; exact Nat.ne_of_gt (blk_lt (g := gb271) (o := .cells #[.int .u64 a0_0, .int .u64 a0_1] 92 (0, 0)) (by (with_reducible repeat (first | refine blk_drewN ?_ _ | refine blk_drew ?_ | refine blk_alloc ?_ _)); exact BK271.out)) : gb273 ≠ gb271)); have n8_ := Aside0.mk ((by rw [hg]; exact Nat.ne_of_lt (blk_lt (g := gb272) (o := .cells #[.int .u64 0, .bool false, .int .u64 0] 89 (0, 0)) (by (with_reducible repeat (first | refine blk_drewN ?_ _ | refine blk_drew ?_ | refine blk_alloc ?_ _)); exact BK272.out)) : gb272 ≠ gb273)); have n9_ := Aside0.mk ((by rw [hg]; exact Nat.ne_of_gt (blk_lt (g := gb272) (o := .cells #[.int .u64 0, .bool false, .int .u64 0] 89 (0, 0)) (by (with_reducible repeat (first | refine blk_drewN ?_ _ | refine blk_drew ?_ | refine blk_alloc ?_ _)); exact BK272.out)) : gb273 ≠ gb272)); clear BK271; clear BK272; clear HB; have BK271 := n0_; have BK272 := n1_; have HB := n2_; have BK273 := n3_; have GW273 := n4_; have GE273 := n5_; have NB271_273 := n6_; have NB273_271 := n7_; have NB272_273 := n8_; have NB273_272 := n9_; clear n0_ n1_ n2_ n3_ n4_ n5_ n6_ n7_ n8_ n9_; clear hb hbox hg; have hnb6 := NB273_271.out; have hnc6 := NB271_273.out; have hnb7 := NB273_272.out; have hnc7 := NB272_273.out; have hcz8_0 : w5.cell? ⟨gb273, 0, none⟩ = some (.int .u64 0) := (blk_cell BK273.out 0).trans rfl; have hcz8_1 : w5.cell? ⟨gb273, 1, none⟩ = some (.bool false) := (blk_cell BK273.out 1).trans rfl; have hcz8_2 : w5.cell? ⟨gb273, 2, none⟩ = some (.int .u64 0) := (blk_cell BK273.out 2).trans rfl; have hfz8_0 := blk_frozen BK273.out 0; have hfz8_1 := blk_frozen BK273.out 1; have hfz8_2 := blk_frozen BK273.out 2))
 go_loopg [6] k (fun kq v6 w' => ∃ (x6_1 : Int) (x272000_1 : Int) (x272001_1 : Int) (x274000_1 : Int) (x274001_1 : Bool) (x274002_1 : Int), v6 = .int .i64 x6_1 ∧ Aside0 (flywheelref02_part.l0 kq a1 x6_1 x272000_1 x272001_1 x274000_1 x274001_1 x274002_1 = some (r1, r2, r3)) ∧ Aside0 (kq ≤ k) ∧ Aside0 (w'.heap[gb271]? = some (.cells #[.int .u64 x272000_1, .int .u64 x272001_1] 92 (0, 0))) ∧ Aside0 (w'.heap[gb272]? = some (.cells #[.int .u64 0, .bool false, .int .u64 0] 89 (0, 0))) ∧ Aside0 (w'.heap[gb273]? = some (.cells #[.int .u64 x274000_1, .bool x274001_1, .int .u64 x274002_1] 89 (0, 0))) ∧ Aside0 (Below w.heap.size w w'))
 case atStart => exact ⟨(127), (a0_0), (a0_1), (0), (false), (0), (by first | rfl | (simp; done) | (simp [*]; done)), H', ⟨Nat.le_refl _⟩, ⟨by (with_reducible repeat (first | refine blk_drewN ?_ _ | refine blk_drew ?_ | refine blk_alloc ?_ _)); refine blk_far ?_ NB271_273.out _; (with_reducible repeat (first | refine blk_drewN ?_ _ | refine blk_drew ?_ | refine blk_alloc ?_ _)); refine blk_far ?_ NB271_273.out _; (with_reducible repeat (first | refine blk_drewN ?_ _ | refine blk_drew ?_ | refine blk_alloc ?_ _)); refine blk_far ?_ NB271_273.out _; (with_reducible repeat (first | refine blk_drewN ?_ _ | refine blk_drew ?_ | refine blk_alloc ?_ _)); exact BK271.out⟩, ⟨by (with_reducible repeat (first | refine blk_drewN ?_ _ | refine blk_drew ?_ | refine blk_alloc ?_ _)); refine blk_far ?_ NB272_273.out _; (with_reducible repeat (first | refine blk_drewN ?_ _ | refine blk_drew ?_ | refine blk_alloc ?_ _)); refine blk_far ?_ NB272_273.out _; (with_reducible repeat (first | refine blk_drewN ?_ _ | refine blk_drew ?_ | refine blk_alloc ?_ _)); refine blk_far ?_ NB272_273.out _; (with_reducible repeat (first | refine blk_drewN ?_ _ | refine blk_drew ?_ | refine blk_alloc ?_ _)); exact BK272.out⟩, ⟨by (with_reducible repeat (first | refine blk_drewN ?_ _ | refine blk_drew ?_ | refine blk_alloc ?_ _)); refine blk_put (cs := #[.int .u64 0, .bool false, .int .u64 0]) ?_ 2 _ rfl; (with_reducible repeat (first | refine blk_drewN ?_ _ | refine blk_drew ?_ | refine blk_alloc ?_ _)); refine blk_put (cs := #[.int .u64 0, .bool false, .int .u64 0]) ?_ 1 _ rfl; (with_reducible repeat (first | refine blk_drewN ?_ _ | refine blk_drew ?_ | refine blk_alloc ?_ _)); refine blk_put (cs := #[.int .u64 0, .bool false, .int .u64 0]) ?_ 0 _ rfl; (with_reducible repeat (first | refine blk_drewN ?_ _ | refine blk_drew ?_ | refine blk_alloc ?_ _)); exact BK273.out⟩, ⟨by repeat (first | (with_reducible first | exact HB.out | apply below_alloc | apply pw_below_drewN | apply below_drew1 | refine below_set ?_ GE271.out | refine below_set ?_ GE272.out | refine below_set ?_ GE273.out) | exact HB.out)⟩⟩
 case round =>
  clear H'
  try clear p2
  try clear c6
  try clear c7
  try clear hcz8_0
  try clear hcz8_1
  try clear hcz8_2
  try clear hfz8_0
  try clear hfz8_1
  try clear hfz8_2
  obtain ⟨x6_1, x272000_1, x272001_1, x274000_1, x274001_1, x274002_1, rfl, HA, HK1, BK271, BK272, BK273, HB⟩ := hrel
  cases gk with
  | zero => exact absurd HA.out (by simp [flywheelref02_part.l0])
  | succ k1 =>
   have H := HA.out
   clear HA
   simp only [flywheelref02_part.l0] at H
   by_cases c9 : x6_1 ≥ 0
   ·rw [if_pos c9] at H
    have c9b0 : decide (0 ≤ x6_1) = true := decide_eq_true c9
    clear c9
    by_cases c10 : x274001_1 = true
    ·subst c10
     have H1 : (if (IntKind.u64.wrap ((IntKind.u64.wrap (x274002_1 * 2)) + (x272000_1 / 9223372036854775808))) ≥ a1 then (flywheelref02_part.l0 k1 a1 (wrap64 (x6_1 - 1)) (IntKind.u64.wrap ((IntKind.u64.wrap (x272000_1 * 2)) + (x272001_1 / 9223372036854775808))) (IntKind.u64.wrap (x272001_1 * 2)) (IntKind.u64.wrap ((IntKind.u64.wrap (x274000_1 * 2)) + 1)) true (IntKind.u64.wrap ((IntKind.u64.wrap ((IntKind.u64.wrap (x274002_1 * 2)) + (x272000_1 / 9223372036854775808))) - a1))) else (flywheelref02_part.l0 k1 a1 (wrap64 (x6_1 - 1)) (IntKind.u64.wrap ((IntKind.u64.wrap (x272000_1 * 2)) + (x272001_1 / 9223372036854775808))) (IntKind.u64.wrap (x272001_1 * 2)) (IntKind.u64.wrap (x274000_1 * 2)) true (IntKind.u64.wrap ((IntKind.u64.wrap (x274002_1 * 2)) + (x272000_1 / 9223372036854775808))))) = some (r1, r2, r3) := by rw [if_pos rfl] at H; exact H
     clear H
     have H := H1
     clear H1
     by_cases c11 : (IntKind.u64.wrap ((IntKind.u64.wrap (x274002_1 * 2)) + (x272000_1 / 9223372036854775808))) ≥ a1
     ·rw [if_pos c11] at H
      have c11b0 : decide (a1 ≤ (IntKind.u64.wrap ((IntKind.u64.wrap (x274002_1 * 2)) + (x272000_1 / 9223372036854775808)))) = true := decide_eq_true c11
      clear c11
      have H' := Aside0.mk H
      clear H
      have hnb12 := NB271_272.out
      have hnc12 := NB272_271.out
      have hnb13 := NB271_273.out
      have hnc13 := NB273_271.out
      have hcz14_0 : wr.cell? ⟨gb271, 0, none⟩ = some (.int .u64 x272000_1) := (blk_cell BK271.out 0).trans rfl
      have hcz14_1 : wr.cell? ⟨gb271, 1, none⟩ = some (.int .u64 x272001_1) := (blk_cell BK271.out 1).trans rfl
      have hfz14_0 := blk_frozen BK271.out 0
      have hfz14_1 := blk_frozen BK271.out 1
      have hnb15 := NB273_272.out
      have hnc15 := NB272_273.out
      have hcz16_0 : wr.cell? ⟨gb273, 0, none⟩ = some (.int .u64 x274000_1) := (blk_cell BK273.out 0).trans rfl
      have hcz16_1 : wr.cell? ⟨gb273, 1, none⟩ = some (.bool true) := (blk_cell BK273.out 1).trans rfl
      have hcz16_2 : wr.cell? ⟨gb273, 2, none⟩ = some (.int .u64 x274002_1) := (blk_cell BK273.out 2).trans rfl
      have hfz16_0 := blk_frozen BK273.out 0
      have hfz16_1 := blk_frozen BK273.out 1
      have hfz16_2 := blk_frozen BK273.out 2
      go_wp2
      go_roundg k1
      case measure => have := HK1.out; omega
      case rel => exact ⟨(wrap64 (x6_1 - 1)), (IntKind.u64.wrap ((IntKind.u64.wrap (x272000_1 * 2)) + (x272001_1 / 9223372036854775808))), (IntKind.u64.wrap (x272001_1 * 2)), (IntKind.u64.wrap ((IntKind.u64.wrap (x274000_1 * 2)) + 1)), (true), (IntKind.u64.wrap ((IntKind.u64.wrap ((IntKind.u64.wrap (x274002_1 * 2)) + (x272000_1 / 9223372036854775808))) - a1)), (by first | rfl | (simp; done) | (simp [*]; done)), H', ⟨by have := HK1.out; omega⟩, ⟨by (with_reducible repeat (first | refine blk_drewN ?_ _ | refine blk_drew ?_ | refine blk_alloc ?_ _)); refine blk_far ?_ NB271_273.out _; (with_reducible repeat (first | refine blk_drewN ?_ _ | refine blk_drew ?_ | refine blk_alloc ?_ _)); refine blk_far ?_ NB271_273.out _; (with_reducible repeat (first | refine blk_drewN ?_ _ | refine blk_drew ?_ | refine blk_alloc ?_ _)); refine blk_far ?_ NB271_273.out _; (with_reducible repeat (first | refine blk_drewN ?_ _ | refine blk_drew ?_ | refine blk_alloc ?_ _)); refine blk_far ?_ NB271_273.out _; (with_reducible repeat (first | refine blk_drewN ?_ _ | refine blk_drew ?_ | refine blk_alloc ?_ _)); refine blk_far ?_ NB271_273.out _; (with_reducible repeat (first | refine blk_drewN ?_ _ | refine blk_drew ?_ | refine blk_alloc ?_ _)); refine blk_put (cs := #[.int .u64 (IntKind.u64.wrap ((IntKind.u64.wrap (x272000_1 * 2)) + (x272001_1 / 9223372036854775808))), .int .u64 x272001_1]) ?_ 1 _ rfl; (with_reducible repeat (first | refine blk_drewN ?_ _ | refine blk_drew ?_ | refine blk_alloc ?_ _)); refine blk_put (cs := #[.int .u64 x272000_1, .int .u64 x272001_1]) ?_ 0 _ rfl; (with_reducible repeat (first | refine blk_drewN ?_ _ | refine blk_drew ?_ | refine blk_alloc ?_ _)); exact BK271.out⟩, ⟨by (with_reducible repeat (first | refine blk_drewN ?_ _ | refine blk_drew ?_ | refine blk_alloc ?_ _)); refine blk_far ?_ NB272_273.out _; (with_reducible repeat (first | refine blk_drewN ?_ _ | refine blk_drew ?_ | refine blk_alloc ?_ _)); refine blk_far ?_ NB272_273.out _; (with_reducible repeat (first | refine blk_drewN ?_ _ | refine blk_drew ?_ | refine blk_alloc ?_ _)); refine blk_far ?_ NB272_273.out _; (with_reducible repeat (first | refine blk_drewN ?_ _ | refine blk_drew ?_ | refine blk_alloc ?_ _)); refine blk_far ?_ NB272_273.out _; (with_reducible repeat (first | refine blk_drewN ?_ _ | refine blk_drew ?_ | refine blk_alloc ?_ _)); refine blk_far ?_ NB272_273.out _; (with_reducible repeat (first | refine blk_drewN ?_ _ | refine blk_drew ?_ | refine blk_alloc ?_ _)); refine blk_far ?_ NB272_271.out _; (with_reducible repeat (first | refine blk_drewN ?_ _ | refine blk_drew ?_ | refine blk_alloc ?_ _)); refine blk_far ?_ NB272_271.out _; (with_reducible repeat (first | refine blk_drewN ?_ _ | refine blk_drew ?_ | refine blk_alloc ?_ _)); exact BK272.out⟩, ⟨by (with_reducible repeat (first | refine blk_drewN ?_ _ | refine blk_drew ?_ | refine blk_alloc ?_ _)); refine blk_put (cs := #[.int .u64 (IntKind.u64.wrap (x274000_1 * 2)), .bool true, .int .u64 (IntKind.u64.wrap ((IntKind.u64.wrap ((IntKind.u64.wrap (x274002_1 * 2)) + (x272000_1 / 9223372036854775808))) - a1))]) ?_ 0 _ rfl; (with_reducible repeat (first | refine blk_drewN ?_ _ | refine blk_drew ?_ | refine blk_alloc ?_ _)); refine blk_put (cs := #[.int .u64 (IntKind.u64.wrap (x274000_1 * 2)), .bool true, .int .u64 (IntKind.u64.wrap ((IntKind.u64.wrap (x274002_1 * 2)) + (x272000_1 / 9223372036854775808)))]) ?_ 2 _ rfl; (with_reducible repeat (first | refine blk_drewN ?_ _ | refine blk_drew ?_ | refine blk_alloc ?_ _)); refine blk_put (cs := #[.int .u64 x274000_1, .bool true, .int .u64 (IntKind.u64.wrap ((IntKind.u64.wrap (x274002_1 * 2)) + (x272000_1 / 9223372036854775808)))]) ?_ 0 _ rfl; (with_reducible repeat (first | refine blk_drewN ?_ _ | refine blk_drew ?_ | refine blk_alloc ?_ _)); refine blk_put (cs := #[.int .u64 x274000_1, .bool true, .int .u64 (IntKind.u64.wrap ((IntKind.u64.wrap (x274002_1 * 2)) + (x272000_1 / 9223372036854775808)))]) ?_ 1 _ rfl; (with_reducible repeat (first | refine blk_drewN ?_ _ | refine blk_drew ?_ | refine blk_alloc ?_ _)); refine blk_put (cs := #[.int .u64 x274000_1, .bool true, .int .u64 x274002_1]) ?_ 2 _ rfl; (with_reducible repeat (first | refine blk_drewN ?_ _ | refine blk_drew ?_ | refine blk_alloc ?_ _)); refine blk_far ?_ NB273_271.out _; (with_reducible repeat (first | refine blk_drewN ?_ _ | refine blk_drew ?_ | refine blk_alloc ?_ _)); refine blk_far ?_ NB273_271.out _; (with_reducible repeat (first | refine blk_drewN ?_ _ | refine blk_drew ?_ | refine blk_alloc ?_ _)); exact BK273.out⟩, ⟨by repeat (first | (with_reducible first | exact HB.out | apply below_alloc | apply pw_below_drewN | apply below_drew1 | refine below_set ?_ GE271.out | refine below_set ?_ GE272.out | refine below_set ?_ GE273.out) | exact HB.out)⟩⟩
     ·rw [if_neg c11] at H
      have c11b0 : decide (a1 ≤ (IntKind.u64.wrap ((IntKind.u64.wrap (x274002_1 * 2)) + (x272000_1 / 9223372036854775808)))) = false := decide_eq_false c11
      clear c11
      have H' := Aside0.mk H
      clear H
      have hnb17 := NB271_272.out
      have hnc17 := NB272_271.out
      have hnb18 := NB271_273.out
      have hnc18 := NB273_271.out
      have hcz19_0 : wr.cell? ⟨gb271, 0, none⟩ = some (.int .u64 x272000_1) := (blk_cell BK271.out 0).trans rfl
      have hcz19_1 : wr.cell? ⟨gb271, 1, none⟩ = some (.int .u64 x272001_1) := (blk_cell BK271.out 1).trans rfl
      have hfz19_0 := blk_frozen BK271.out 0
      have hfz19_1 := blk_frozen BK271.out 1
      have hnb20 := NB273_272.out
      have hnc20 := NB272_273.out
      have hcz21_0 : wr.cell? ⟨gb273, 0, none⟩ = some (.int .u64 x274000_1) := (blk_cell BK273.out 0).trans rfl
      have hcz21_1 : wr.cell? ⟨gb273, 1, none⟩ = some (.bool true) := (blk_cell BK273.out 1).trans rfl
      have hcz21_2 : wr.cell? ⟨gb273, 2, none⟩ = some (.int .u64 x274002_1) := (blk_cell BK273.out 2).trans rfl
      have hfz21_0 := blk_frozen BK273.out 0
      have hfz21_1 := blk_frozen BK273.out 1
      have hfz21_2 := blk_frozen BK273.out 2
      go_wp2
      go_roundg k1
      case measure => have := HK1.out; omega
      case rel => exact ⟨(wrap64 (x6_1 - 1)), (IntKind.u64.wrap ((IntKind.u64.wrap (x272000_1 * 2)) + (x272001_1 / 9223372036854775808))), (IntKind.u64.wrap (x272001_1 * 2)), (IntKind.u64.wrap (x274000_1 * 2)), (true), (IntKind.u64.wrap ((IntKind.u64.wrap (x274002_1 * 2)) + (x272000_1 / 9223372036854775808))), (by first | rfl | (simp; done) | (simp [*]; done)), H', ⟨by have := HK1.out; omega⟩, ⟨by (with_reducible repeat (first | refine blk_drewN ?_ _ | refine blk_drew ?_ | refine blk_alloc ?_ _)); refine blk_far ?_ NB271_273.out _; (with_reducible repeat (first | refine blk_drewN ?_ _ | refine blk_drew ?_ | refine blk_alloc ?_ _)); refine blk_far ?_ NB271_273.out _; (with_reducible repeat (first | refine blk_drewN ?_ _ | refine blk_drew ?_ | refine blk_alloc ?_ _)); refine blk_far ?_ NB271_273.out _; (with_reducible repeat (first | refine blk_drewN ?_ _ | refine blk_drew ?_ | refine blk_alloc ?_ _)); refine blk_put (cs := #[.int .u64 (IntKind.u64.wrap ((IntKind.u64.wrap (x272000_1 * 2)) + (x272001_1 / 9223372036854775808))), .int .u64 x272001_1]) ?_ 1 _ rfl; (with_reducible repeat (first | refine blk_drewN ?_ _ | refine blk_drew ?_ | refine blk_alloc ?_ _)); refine blk_put (cs := #[.int .u64 x272000_1, .int .u64 x272001_1]) ?_ 0 _ rfl; (with_reducible repeat (first | refine blk_drewN ?_ _ | refine blk_drew ?_ | refine blk_alloc ?_ _)); exact BK271.out⟩, ⟨by (with_reducible repeat (first | refine blk_drewN ?_ _ | refine blk_drew ?_ | refine blk_alloc ?_ _)); refine blk_far ?_ NB272_273.out _; (with_reducible repeat (first | refine blk_drewN ?_ _ | refine blk_drew ?_ | refine blk_alloc ?_ _)); refine blk_far ?_ NB272_273.out _; (with_reducible repeat (first | refine blk_drewN ?_ _ | refine blk_drew ?_ | refine blk_alloc ?_ _)); refine blk_far ?_ NB272_273.out _; (with_reducible repeat (first | refine blk_drewN ?_ _ | refine blk_drew ?_ | refine blk_alloc ?_ _)); refine blk_far ?_ NB272_271.out _; (with_reducible repeat (first | refine blk_drewN ?_ _ | refine blk_drew ?_ | refine blk_alloc ?_ _)); refine blk_far ?_ NB272_271.out _; (with_reducible repeat (first | refine blk_drewN ?_ _ | refine blk_drew ?_ | refine blk_alloc ?_ _)); exact BK272.out⟩, ⟨by (with_reducible repeat (first | refine blk_drewN ?_ _ | refine blk_drew ?_ | refine blk_alloc ?_ _)); refine blk_put (cs := #[.int .u64 x274000_1, .bool true, .int .u64 (IntKind.u64.wrap ((IntKind.u64.wrap (x274002_1 * 2)) + (x272000_1 / 9223372036854775808)))]) ?_ 0 _ rfl; (with_reducible repeat (first | refine blk_drewN ?_ _ | refine blk_drew ?_ | refine blk_alloc ?_ _)); refine blk_put (cs := #[.int .u64 x274000_1, .bool true, .int .u64 (IntKind.u64.wrap ((IntKind.u64.wrap (x274002_1 * 2)) + (x272000_1 / 9223372036854775808)))]) ?_ 1 _ rfl; (with_reducible repeat (first | refine blk_drewN ?_ _ | refine blk_drew ?_ | refine blk_alloc ?_ _)); refine blk_put (cs := #[.int .u64 x274000_1, .bool true, .int .u64 x274002_1]) ?_ 2 _ rfl; (with_reducible repeat (first | refine blk_drewN ?_ _ | refine blk_drew ?_ | refine blk_alloc ?_ _)); refine blk_far ?_ NB273_271.out _; (with_reducible repeat (first | refine blk_drewN ?_ _ | refine blk_drew ?_ | refine blk_alloc ?_ _)); refine blk_far ?_ NB273_271.out _; (with_reducible repeat (first | refine blk_drewN ?_ _ | refine blk_drew ?_ | refine blk_alloc ?_ _)); exact BK273.out⟩, ⟨by repeat (first | (with_reducible first | exact HB.out | apply below_alloc | apply pw_below_drewN | apply below_drew1 | refine below_set ?_ GE271.out | refine below_set ?_ GE272.out | refine below_set ?_ GE273.out) | exact HB.out)⟩⟩
    ·replace c10 := Bool.eq_false_iff.mpr c10
     subst c10
     have H1 : (if (IntKind.u64.wrap ((IntKind.u64.wrap (x274002_1 * 2)) + (x272000_1 / 9223372036854775808))) ≥ a1 then (flywheelref02_part.l0 k1 a1 (wrap64 (x6_1 - 1)) (IntKind.u64.wrap ((IntKind.u64.wrap (x272000_1 * 2)) + (x272001_1 / 9223372036854775808))) (IntKind.u64.wrap (x272001_1 * 2)) (IntKind.u64.wrap ((IntKind.u64.wrap (x274000_1 * 2)) + 1)) ((x274000_1 / 9223372036854775808) == 1) (IntKind.u64.wrap ((IntKind.u64.wrap ((IntKind.u64.wrap (x274002_1 * 2)) + (x272000_1 / 9223372036854775808))) - a1))) else (flywheelref02_part.l0 k1 a1 (wrap64 (x6_1 - 1)) (IntKind.u64.wrap ((IntKind.u64.wrap (x272000_1 * 2)) + (x272001_1 / 9223372036854775808))) (IntKind.u64.wrap (x272001_1 * 2)) (IntKind.u64.wrap (x274000_1 * 2)) ((x274000_1 / 9223372036854775808) == 1) (IntKind.u64.wrap ((IntKind.u64.wrap (x274002_1 * 2)) + (x272000_1 / 9223372036854775808))))) = some (r1, r2, r3) := by rw [if_neg (show ¬ (false = true) by decide)] at H; exact H
     clear H
     have H := H1
     clear H1
     by_cases c22 : (IntKind.u64.wrap ((IntKind.u64.wrap (x274002_1 * 2)) + (x272000_1 / 9223372036854775808))) ≥ a1
     ·rw [if_pos c22] at H
      have c22b0 : decide (a1 ≤ (IntKind.u64.wrap ((IntKind.u64.wrap (x274002_1 * 2)) + (x272000_1 / 9223372036854775808)))) = true := decide_eq_true c22
      clear c22
      have H' := Aside0.mk H
      clear H
      have hnb23 := NB271_272.out
      have hnc23 := NB272_271.out
      have hnb24 := NB271_273.out
      have hnc24 := NB273_271.out
      have hcz25_0 : wr.cell? ⟨gb271, 0, none⟩ = some (.int .u64 x272000_1) := (blk_cell BK271.out 0).trans rfl
      have hcz25_1 : wr.cell? ⟨gb271, 1, none⟩ = some (.int .u64 x272001_1) := (blk_cell BK271.out 1).trans rfl
      have hfz25_0 := blk_frozen BK271.out 0
      have hfz25_1 := blk_frozen BK271.out 1
      have hnb26 := NB273_272.out
      have hnc26 := NB272_273.out
      have hcz27_0 : wr.cell? ⟨gb273, 0, none⟩ = some (.int .u64 x274000_1) := (blk_cell BK273.out 0).trans rfl
      have hcz27_1 : wr.cell? ⟨gb273, 1, none⟩ = some (.bool false) := (blk_cell BK273.out 1).trans rfl
      have hcz27_2 : wr.cell? ⟨gb273, 2, none⟩ = some (.int .u64 x274002_1) := (blk_cell BK273.out 2).trans rfl
      have hfz27_0 := blk_frozen BK273.out 0
      have hfz27_1 := blk_frozen BK273.out 1
      have hfz27_2 := blk_frozen BK273.out 2
      go_wp2
      go_roundg k1
      case measure => have := HK1.out; omega
      case rel => exact ⟨(wrap64 (x6_1 - 1)), (IntKind.u64.wrap ((IntKind.u64.wrap (x272000_1 * 2)) + (x272001_1 / 9223372036854775808))), (IntKind.u64.wrap (x272001_1 * 2)), (IntKind.u64.wrap ((IntKind.u64.wrap (x274000_1 * 2)) + 1)), (((x274000_1 / 9223372036854775808) == 1)), (IntKind.u64.wrap ((IntKind.u64.wrap ((IntKind.u64.wrap (x274002_1 * 2)) + (x272000_1 / 9223372036854775808))) - a1)), (by first | rfl | (simp; done) | (simp [*]; done)), H', ⟨by have := HK1.out; omega⟩, ⟨by (with_reducible repeat (first | refine blk_drewN ?_ _ | refine blk_drew ?_ | refine blk_alloc ?_ _)); refine blk_far ?_ NB271_273.out _; (with_reducible repeat (first | refine blk_drewN ?_ _ | refine blk_drew ?_ | refine blk_alloc ?_ _)); refine blk_far ?_ NB271_273.out _; (with_reducible repeat (first | refine blk_drewN ?_ _ | refine blk_drew ?_ | refine blk_alloc ?_ _)); refine blk_far ?_ NB271_273.out _; (with_reducible repeat (first | refine blk_drewN ?_ _ | refine blk_drew ?_ | refine blk_alloc ?_ _)); refine blk_far ?_ NB271_273.out _; (with_reducible repeat (first | refine blk_drewN ?_ _ | refine blk_drew ?_ | refine blk_alloc ?_ _)); refine blk_far ?_ NB271_273.out _; (with_reducible repeat (first | refine blk_drewN ?_ _ | refine blk_drew ?_ | refine blk_alloc ?_ _)); refine blk_put (cs := #[.int .u64 (IntKind.u64.wrap ((IntKind.u64.wrap (x272000_1 * 2)) + (x272001_1 / 9223372036854775808))), .int .u64 x272001_1]) ?_ 1 _ rfl; (with_reducible repeat (first | refine blk_drewN ?_ _ | refine blk_drew ?_ | refine blk_alloc ?_ _)); refine blk_put (cs := #[.int .u64 x272000_1, .int .u64 x272001_1]) ?_ 0 _ rfl; (with_reducible repeat (first | refine blk_drewN ?_ _ | refine blk_drew ?_ | refine blk_alloc ?_ _)); exact BK271.out⟩, ⟨by (with_reducible repeat (first | refine blk_drewN ?_ _ | refine blk_drew ?_ | refine blk_alloc ?_ _)); refine blk_far ?_ NB272_273.out _; (with_reducible repeat (first | refine blk_drewN ?_ _ | refine blk_drew ?_ | refine blk_alloc ?_ _)); refine blk_far ?_ NB272_273.out _; (with_reducible repeat (first | refine blk_drewN ?_ _ | refine blk_drew ?_ | refine blk_alloc ?_ _)); refine blk_far ?_ NB272_273.out _; (with_reducible repeat (first | refine blk_drewN ?_ _ | refine blk_drew ?_ | refine blk_alloc ?_ _)); refine blk_far ?_ NB272_273.out _; (with_reducible repeat (first | refine blk_drewN ?_ _ | refine blk_drew ?_ | refine blk_alloc ?_ _)); refine blk_far ?_ NB272_273.out _; (with_reducible repeat (first | refine blk_drewN ?_ _ | refine blk_drew ?_ | refine blk_alloc ?_ _)); refine blk_far ?_ NB272_271.out _; (with_reducible repeat (first | refine blk_drewN ?_ _ | refine blk_drew ?_ | refine blk_alloc ?_ _)); refine blk_far ?_ NB272_271.out _; (with_reducible repeat (first | refine blk_drewN ?_ _ | refine blk_drew ?_ | refine blk_alloc ?_ _)); exact BK272.out⟩, ⟨by (with_reducible repeat (first | refine blk_drewN ?_ _ | refine blk_drew ?_ | refine blk_alloc ?_ _)); refine blk_put (cs := #[.int .u64 (IntKind.u64.wrap (x274000_1 * 2)), .bool ((x274000_1 / 9223372036854775808) == 1), .int .u64 (IntKind.u64.wrap ((IntKind.u64.wrap ((IntKind.u64.wrap (x274002_1 * 2)) + (x272000_1 / 9223372036854775808))) - a1))]) ?_ 0 _ rfl; (with_reducible repeat (first | refine blk_drewN ?_ _ | refine blk_drew ?_ | refine blk_alloc ?_ _)); refine blk_put (cs := #[.int .u64 (IntKind.u64.wrap (x274000_1 * 2)), .bool ((x274000_1 / 9223372036854775808) == 1), .int .u64 (IntKind.u64.wrap ((IntKind.u64.wrap (x274002_1 * 2)) + (x272000_1 / 9223372036854775808)))]) ?_ 2 _ rfl; (with_reducible repeat (first | refine blk_drewN ?_ _ | refine blk_drew ?_ | refine blk_alloc ?_ _)); refine blk_put (cs := #[.int .u64 x274000_1, .bool ((x274000_1 / 9223372036854775808) == 1), .int .u64 (IntKind.u64.wrap ((IntKind.u64.wrap (x274002_1 * 2)) + (x272000_1 / 9223372036854775808)))]) ?_ 0 _ rfl; (with_reducible repeat (first | refine blk_drewN ?_ _ | refine blk_drew ?_ | refine blk_alloc ?_ _)); refine blk_put (cs := #[.int .u64 x274000_1, .bool false, .int .u64 (IntKind.u64.wrap ((IntKind.u64.wrap (x274002_1 * 2)) + (x272000_1 / 9223372036854775808)))]) ?_ 1 _ rfl; (with_reducible repeat (first | refine blk_drewN ?_ _ | refine blk_drew ?_ | refine blk_alloc ?_ _)); refine blk_put (cs := #[.int .u64 x274000_1, .bool false, .int .u64 x274002_1]) ?_ 2 _ rfl; (with_reducible repeat (first | refine blk_drewN ?_ _ | refine blk_drew ?_ | refine blk_alloc ?_ _)); refine blk_far ?_ NB273_271.out _; (with_reducible repeat (first | refine blk_drewN ?_ _ | refine blk_drew ?_ | refine blk_alloc ?_ _)); refine blk_far ?_ NB273_271.out _; (with_reducible repeat (first | refine blk_drewN ?_ _ | refine blk_drew ?_ | refine blk_alloc ?_ _)); exact BK273.out⟩, ⟨by repeat (first | (with_reducible first | exact HB.out | apply below_alloc | apply pw_below_drewN | apply below_drew1 | refine below_set ?_ GE271.out | refine below_set ?_ GE272.out | refine below_set ?_ GE273.out) | exact HB.out)⟩⟩
     ·rw [if_neg c22] at H
      have c22b0 : decide (a1 ≤ (IntKind.u64.wrap ((IntKind.u64.wrap (x274002_1 * 2)) + (x272000_1 / 9223372036854775808)))) = false := decide_eq_false c22
      clear c22
      have H' := Aside0.mk H
      clear H
      have hnb28 := NB271_272.out
      have hnc28 := NB272_271.out
      have hnb29 := NB271_273.out
      have hnc29 := NB273_271.out
      have hcz30_0 : wr.cell? ⟨gb271, 0, none⟩ = some (.int .u64 x272000_1) := (blk_cell BK271.out 0).trans rfl
      have hcz30_1 : wr.cell? ⟨gb271, 1, none⟩ = some (.int .u64 x272001_1) := (blk_cell BK271.out 1).trans rfl
      have hfz30_0 := blk_frozen BK271.out 0
      have hfz30_1 := blk_frozen BK271.out 1
      have hnb31 := NB273_272.out
      have hnc31 := NB272_273.out
      have hcz32_0 : wr.cell? ⟨gb273, 0, none⟩ = some (.int .u64 x274000_1) := (blk_cell BK273.out 0).trans rfl
      have hcz32_1 : wr.cell? ⟨gb273, 1, none⟩ = some (.bool false) := (blk_cell BK273.out 1).trans rfl
      have hcz32_2 : wr.cell? ⟨gb273, 2, none⟩ = some (.int .u64 x274002_1) := (blk_cell BK273.out 2).trans rfl
      have hfz32_0 := blk_frozen BK273.out 0
      have hfz32_1 := blk_frozen BK273.out 1
      have hfz32_2 := blk_frozen BK273.out 2
      go_wp2
      go_roundg k1
      case measure => have := HK1.out; omega
      case rel => exact ⟨(wrap64 (x6_1 - 1)), (IntKind.u64.wrap ((IntKind.u64.wrap (x272000_1 * 2)) + (x272001_1 / 9223372036854775808))), (IntKind.u64.wrap (x272001_1 * 2)), (IntKind.u64.wrap (x274000_1 * 2)), (((x274000_1 / 9223372036854775808) == 1)), (IntKind.u64.wrap ((IntKind.u64.wrap (x274002_1 * 2)) + (x272000_1 / 9223372036854775808))), (by first | rfl | (simp; done) | (simp [*]; done)), H', ⟨by have := HK1.out; omega⟩, ⟨by (with_reducible repeat (first | refine blk_drewN ?_ _ | refine blk_drew ?_ | refine blk_alloc ?_ _)); refine blk_far ?_ NB271_273.out _; (with_reducible repeat (first | refine blk_drewN ?_ _ | refine blk_drew ?_ | refine blk_alloc ?_ _)); refine blk_far ?_ NB271_273.out _; (with_reducible repeat (first | refine blk_drewN ?_ _ | refine blk_drew ?_ | refine blk_alloc ?_ _)); refine blk_far ?_ NB271_273.out _; (with_reducible repeat (first | refine blk_drewN ?_ _ | refine blk_drew ?_ | refine blk_alloc ?_ _)); refine blk_put (cs := #[.int .u64 (IntKind.u64.wrap ((IntKind.u64.wrap (x272000_1 * 2)) + (x272001_1 / 9223372036854775808))), .int .u64 x272001_1]) ?_ 1 _ rfl; (with_reducible repeat (first | refine blk_drewN ?_ _ | refine blk_drew ?_ | refine blk_alloc ?_ _)); refine blk_put (cs := #[.int .u64 x272000_1, .int .u64 x272001_1]) ?_ 0 _ rfl; (with_reducible repeat (first | refine blk_drewN ?_ _ | refine blk_drew ?_ | refine blk_alloc ?_ _)); exact BK271.out⟩, ⟨by (with_reducible repeat (first | refine blk_drewN ?_ _ | refine blk_drew ?_ | refine blk_alloc ?_ _)); refine blk_far ?_ NB272_273.out _; (with_reducible repeat (first | refine blk_drewN ?_ _ | refine blk_drew ?_ | refine blk_alloc ?_ _)); refine blk_far ?_ NB272_273.out _; (with_reducible repeat (first | refine blk_drewN ?_ _ | refine blk_drew ?_ | refine blk_alloc ?_ _)); refine blk_far ?_ NB272_273.out _; (with_reducible repeat (first | refine blk_drewN ?_ _ | refine blk_drew ?_ | refine blk_alloc ?_ _)); refine blk_far ?_ NB272_271.out _; (with_reducible repeat (first | refine blk_drewN ?_ _ | refine blk_drew ?_ | refine blk_alloc ?_ _)); refine blk_far ?_ NB272_271.out _; (with_reducible repeat (first | refine blk_drewN ?_ _ | refine blk_drew ?_ | refine blk_alloc ?_ _)); exact BK272.out⟩, ⟨by (with_reducible repeat (first | refine blk_drewN ?_ _ | refine blk_drew ?_ | refine blk_alloc ?_ _)); refine blk_put (cs := #[.int .u64 x274000_1, .bool ((x274000_1 / 9223372036854775808) == 1), .int .u64 (IntKind.u64.wrap ((IntKind.u64.wrap (x274002_1 * 2)) + (x272000_1 / 9223372036854775808)))]) ?_ 0 _ rfl; (with_reducible repeat (first | refine blk_drewN ?_ _ | refine blk_drew ?_ | refine blk_alloc ?_ _)); refine blk_put (cs := #[.int .u64 x274000_1, .bool false, .int .u64 (IntKind.u64.wrap ((IntKind.u64.wrap (x274002_1 * 2)) + (x272000_1 / 9223372036854775808)))]) ?_ 1 _ rfl; (with_reducible repeat (first | refine blk_drewN ?_ _ | refine blk_drew ?_ | refine blk_alloc ?_ _)); refine blk_put (cs := #[.int .u64 x274000_1, .bool false, .int .u64 x274002_1]) ?_ 2 _ rfl; (with_reducible repeat (first | refine blk_drewN ?_ _ | refine blk_drew ?_ | refine blk_alloc ?_ _)); refine blk_far ?_ NB273_271.out _; (with_reducible repeat (first | refine blk_drewN ?_ _ | refine blk_drew ?_ | refine blk_alloc ?_ _)); refine blk_far ?_ NB273_271.out _; (with_reducible repeat (first | refine blk_drewN ?_ _ | refine blk_drew ?_ | refine blk_alloc ?_ _)); exact BK273.out⟩, ⟨by repeat (first | (with_reducible first | exact HB.out | apply below_alloc | apply pw_below_drewN | apply below_drew1 | refine below_set ?_ GE271.out | refine below_set ?_ GE272.out | refine below_set ?_ GE273.out) | exact HB.out)⟩⟩
   ·rw [if_neg c9] at H
    have c9b0 : decide (0 ≤ x6_1) = false := decide_eq_false c9
    clear c9
    simp only [Option.some.injEq, Prod.mk.injEq] at H
    obtain ⟨rfl, rfl, rfl⟩ := H
    have hnb33 := NB273_271.out
    have hnc33 := NB271_273.out
    have hnb34 := NB273_272.out
    have hnc34 := NB272_273.out
    have hcz35_0 : wr.cell? ⟨gb273, 0, none⟩ = some (.int .u64 x274000_1) := (blk_cell BK273.out 0).trans rfl
    have hcz35_1 : wr.cell? ⟨gb273, 1, none⟩ = some (.bool x274001_1) := (blk_cell BK273.out 1).trans rfl
    have hcz35_2 : wr.cell? ⟨gb273, 2, none⟩ = some (.int .u64 x274002_1) := (blk_cell BK273.out 2).trans rfl
    have hfz35_0 := blk_frozen BK273.out 0
    have hfz35_1 := blk_frozen BK273.out 1
    have hfz35_2 := blk_frozen BK273.out 2
    have hnb36 := NB272_271.out
    have hnc36 := NB271_272.out
    have hcz37_0 : wr.cell? ⟨gb272, 0, none⟩ = some (.int .u64 0) := (blk_cell BK272.out 0).trans rfl
    have hcz37_1 : wr.cell? ⟨gb272, 1, none⟩ = some (.bool false) := (blk_cell BK272.out 1).trans rfl
    have hcz37_2 : wr.cell? ⟨gb272, 2, none⟩ = some (.int .u64 0) := (blk_cell BK272.out 2).trans rfl
    have hfz37_0 := blk_frozen BK272.out 0
    have hfz37_1 := blk_frozen BK272.out 1
    have hfz37_2 := blk_frozen BK272.out 2
    go_wp2
    refine bodyPost_ret (results_cell_row rfl _ _ gb272 89 #[.int .u64 x274000_1, .bool x274001_1, .int .u64 x274002_1] (0, 0) _ rfl (by (with_reducible repeat (first | refine blk_drewN ?_ _ | refine blk_drew ?_ | refine blk_alloc ?_ _)); refine blk_put (cs := #[.int .u64 x274000_1, .bool x274001_1, .int .u64 0]) ?_ 2 _ rfl; (with_reducible repeat (first | refine blk_drewN ?_ _ | refine blk_drew ?_ | refine blk_alloc ?_ _)); refine blk_put (cs := #[.int .u64 x274000_1, .bool false, .int .u64 0]) ?_ 1 _ rfl; (with_reducible repeat (first | refine blk_drewN ?_ _ | refine blk_drew ?_ | refine blk_alloc ?_ _)); refine blk_put (cs := #[.int .u64 0, .bool false, .int .u64 0]) ?_ 0 _ rfl; (with_reducible repeat (first | refine blk_drewN ?_ _ | refine blk_drew ?_ | refine blk_alloc ?_ _)); exact BK272.out) Try.underlying89 rfl (by kernel_rfl)) rfl ?_
    exact ⟨by first | rfl | (simp [errW_none, errW_some] <;> rfl) | (simp [*, errW_none, errW_some] <;> rfl), by repeat (first | (with_reducible first | exact HB.out | apply below_alloc | apply pw_below_drewN | apply below_drew1 | refine below_set ?_ GE271.out | refine below_set ?_ GE272.out | refine below_set ?_ GE273.out) | exact HB.out)⟩
def flywheelref02_times.f (a0 : Int) (a1 : Int) : Option (Int × Int) := some (IntKind.u64.wrap ((IntKind.u64.wrap ((IntKind.u64.wrap ((a0 / 4294967296) * (a1 / 4294967296))) + ((IntKind.u64.wrap ((IntKind.u64.wrap ((a0 / 4294967296) * (Go.bits .and .u64 a1 4294967295))) + ((IntKind.u64.wrap ((Go.bits .and .u64 a0 4294967295) * (Go.bits .and .u64 a1 4294967295))) / 4294967296))) / 4294967296))) + ((IntKind.u64.wrap ((IntKind.u64.wrap ((Go.bits .and .u64 a0 4294967295) * (a1 / 4294967296))) + (Go.bits .and .u64 (IntKind.u64.wrap ((IntKind.u64.wrap ((a0 / 4294967296) * (Go.bits .and .u64 a1 4294967295))) + ((IntKind.u64.wrap ((Go.bits .and .u64 a0 4294967295) * (Go.bits .and .u64 a1 4294967295))) / 4294967296))) 4294967295))) / 4294967296)), IntKind.u64.wrap ((IntKind.u64.wrap ((IntKind.u64.wrap ((IntKind.u64.wrap ((Go.bits .and .u64 a0 4294967295) * (a1 / 4294967296))) + (Go.bits .and .u64 (IntKind.u64.wrap ((IntKind.u64.wrap ((a0 / 4294967296) * (Go.bits .and .u64 a1 4294967295))) + ((IntKind.u64.wrap ((Go.bits .and .u64 a0 4294967295) * (Go.bits .and .u64 a1 4294967295))) / 4294967296))) 4294967295))) * 4294967296)) + (Go.bits .and .u64 (IntKind.u64.wrap ((Go.bits .and .u64 a0 4294967295) * (Go.bits .and .u64 a1 4294967295))) 4294967295)))
set_option maxHeartbeats 8000000 in
set_option maxRecDepth 100000 in
theorem flywheelref02_times.calls (a0 : Int) (a1 : Int) (r1 : Int) (r2 : Int) (w : World) (h : flywheelref02_times.f a0 a1 = some (r1, r2)) :
  Calls Try.prog 61 #[.int .u64 a0, .int .u64 a1] w fun e w' => e = .returned (.agg #[.int .u64 r1, .int .u64 r2]) ∧ Below w.heap.size w w' := by
 have hu92 := Try.underlying92
 have HB := Aside0.mk (Below.refl w.heap.size w)
 have H : (some (IntKind.u64.wrap ((IntKind.u64.wrap ((IntKind.u64.wrap ((a0 / 4294967296) * (a1 / 4294967296))) + ((IntKind.u64.wrap ((IntKind.u64.wrap ((a0 / 4294967296) * (Go.bits .and .u64 a1 4294967295))) + ((IntKind.u64.wrap ((Go.bits .and .u64 a0 4294967295) * (Go.bits .and .u64 a1 4294967295))) / 4294967296))) / 4294967296))) + ((IntKind.u64.wrap ((IntKind.u64.wrap ((Go.bits .and .u64 a0 4294967295) * (a1 / 4294967296))) + (Go.bits .and .u64 (IntKind.u64.wrap ((IntKind.u64.wrap ((a0 / 4294967296) * (Go.bits .and .u64 a1 4294967295))) + ((IntKind.u64.wrap ((Go.bits .and .u64 a0 4294967295) * (Go.bits .and .u64 a1 4294967295))) / 4294967296))) 4294967295))) / 4294967296)), IntKind.u64.wrap ((IntKind.u64.wrap ((IntKind.u64.wrap ((IntKind.u64.wrap ((Go.bits .and .u64 a0 4294967295) * (a1 / 4294967296))) + (Go.bits .and .u64 (IntKind.u64.wrap ((IntKind.u64.wrap ((a0 / 4294967296) * (Go.bits .and .u64 a1 4294967295))) + ((IntKind.u64.wrap ((Go.bits .and .u64 a0 4294967295) * (Go.bits .and .u64 a1 4294967295))) / 4294967296))) 4294967295))) * 4294967296)) + (Go.bits .and .u64 (IntKind.u64.wrap ((Go.bits .and .u64 a0 4294967295) * (Go.bits .and .u64 a1 4294967295))) 4294967295)))) = some (r1, r2) := h
 clear h
 simp only [Option.some.injEq, Prod.mk.injEq] at H
 obtain ⟨rfl, rfl⟩ := H
 go_enter Try.func61, Try.ntmps61
 go_wp2_with (first | ((with_reducible refine gate_dst (N := 4) rfl ?_); refine box_event ?hg (N := 4) ?hd (cs := #[.int .u64 0, .int .u64 0]) (t := 92) ?hr ?_; (case hd => rfl); (case hg => rfl); (case hr => first | (go_simp; done) | (go_simp; rfl)); intro gb274 hg w3 hbox hb; have n0_ := Aside0.mk (below_step (by repeat (first | (with_reducible first | exact HB.out | apply below_alloc | apply pw_below_drewN | apply below_drew1) | exact HB.out)) hb); have n1_ := Aside0.mk (hbox); have n2_ := Aside0.mk ((by rw [hg]; exact (below_size (by repeat (first | (with_reducible first | exact HB.out | apply below_alloc | apply pw_below_drewN | apply below_drew1) | exact HB.out))) : w.heap.size ≤ gb274)); have n3_ := Aside0.mk ((by rw [hg]; exact (below_size (by repeat (first | (with_reducible first | exact HB.out | apply below_alloc | apply pw_below_drewN | apply below_drew1) | exact HB.out))) : w.heap.size ≤ gb274)); clear HB; have HB := n0_; have BK274 := n1_; have GW274 := n2_; have GE274 := n3_; clear n0_ n1_ n2_ n3_; clear hb hbox hg; have hcz4_0 : w3.cell? ⟨gb274, 0, none⟩ = some (.int .u64 0) := (blk_cell BK274.out 0).trans rfl; have hcz4_1 : w3.cell? ⟨gb274, 1, none⟩ = some (.int .u64 0) := (blk_cell BK274.out 1).trans rfl; have hfz4_0 := blk_frozen BK274.out 0; have hfz4_1 := blk_frozen BK274.out 1))
 refine bodyPost_ret (results_cell_row rfl _ _ gb274 92 #[.int .u64 (IntKind.u64.wrap ((IntKind.u64.wrap ((IntKind.u64.wrap ((a0 / 4294967296) * (a1 / 4294967296))) + ((IntKind.u64.wrap ((IntKind.u64.wrap ((a0 / 4294967296) * (Go.bits .and .u64 a1 4294967295))) + ((IntKind.u64.wrap ((Go.bits .and .u64 a0 4294967295) * (Go.bits .and .u64 a1 4294967295))) / 4294967296))) / 4294967296))) + ((IntKind.u64.wrap ((IntKind.u64.wrap ((Go.bits .and .u64 a0 4294967295) * (a1 / 4294967296))) + (Go.bits .and .u64 (IntKind.u64.wrap ((IntKind.u64.wrap ((a0 / 4294967296) * (Go.bits .and .u64 a1 4294967295))) + ((IntKind.u64.wrap ((Go.bits .and .u64 a0 4294967295) * (Go.bits .and .u64 a1 4294967295))) / 4294967296))) 4294967295))) / 4294967296))), .int .u64 (IntKind.u64.wrap ((IntKind.u64.wrap ((IntKind.u64.wrap ((IntKind.u64.wrap ((Go.bits .and .u64 a0 4294967295) * (a1 / 4294967296))) + (Go.bits .and .u64 (IntKind.u64.wrap ((IntKind.u64.wrap ((a0 / 4294967296) * (Go.bits .and .u64 a1 4294967295))) + ((IntKind.u64.wrap ((Go.bits .and .u64 a0 4294967295) * (Go.bits .and .u64 a1 4294967295))) / 4294967296))) 4294967295))) * 4294967296)) + (Go.bits .and .u64 (IntKind.u64.wrap ((Go.bits .and .u64 a0 4294967295) * (Go.bits .and .u64 a1 4294967295))) 4294967295)))] (0, 0) _ rfl (by (with_reducible repeat (first | refine blk_drewN ?_ _ | refine blk_drew ?_ | refine blk_alloc ?_ _)); refine blk_put (cs := #[.int .u64 (IntKind.u64.wrap ((IntKind.u64.wrap ((IntKind.u64.wrap ((a0 / 4294967296) * (a1 / 4294967296))) + ((IntKind.u64.wrap ((IntKind.u64.wrap ((a0 / 4294967296) * (Go.bits .and .u64 a1 4294967295))) + ((IntKind.u64.wrap ((Go.bits .and .u64 a0 4294967295) * (Go.bits .and .u64 a1 4294967295))) / 4294967296))) / 4294967296))) + ((IntKind.u64.wrap ((IntKind.u64.wrap ((Go.bits .and .u64 a0 4294967295) * (a1 / 4294967296))) + (Go.bits .and .u64 (IntKind.u64.wrap ((IntKind.u64.wrap ((a0 / 4294967296) * (Go.bits .and .u64 a1 4294967295))) + ((IntKind.u64.wrap ((Go.bits .and .u64 a0 4294967295) * (Go.bits .and .u64 a1 4294967295))) / 4294967296))) 4294967295))) / 4294967296))), .int .u64 0]) ?_ 1 _ rfl; (with_reducible repeat (first | refine blk_drewN ?_ _ | refine blk_drew ?_ | refine blk_alloc ?_ _)); refine blk_put (cs := #[.int .u64 0, .int .u64 0]) ?_ 0 _ rfl; (with_reducible repeat (first | refine blk_drewN ?_ _ | refine blk_drew ?_ | refine blk_alloc ?_ _)); exact BK274.out) Try.underlying92 rfl (by kernel_rfl)) rfl ?_
 exact ⟨by first | rfl | (simp [errW_none, errW_some] <;> rfl) | (simp [*, errW_none, errW_some] <;> rfl), by repeat (first | (with_reducible first | exact HB.out | apply below_alloc | apply pw_below_drewN | apply below_drew1 | refine below_set ?_ GE274.out) | exact HB.out)⟩
def flywheelref02_size.f (a0 : Int) : Option (Int) := if a0 < 0 then (some (IntKind.u64.wrap ((IntKind.u64.wrap (wrap64 (-(wrap64 (a0 + 1))))) + 1))) else (some (IntKind.u64.wrap (a0)))
set_option maxHeartbeats 8000000 in
set_option maxRecDepth 100000 in
theorem flywheelref02_size.calls (a0 : Int) (r : Int) (w : World) (h : flywheelref02_size.f a0 = some r) :
  Calls Try.prog 62 #[.int .i64 a0] w fun e w' => e = .returned (.int .u64 r) ∧ Drawn0 w w' := by
 have H : (if a0 < 0 then (some (IntKind.u64.wrap ((IntKind.u64.wrap (wrap64 (-(wrap64 (a0 + 1))))) + 1))) else (some (IntKind.u64.wrap (a0)))) = some r := h
 clear h
 by_cases c2 : a0 < 0
 ·rw [if_pos c2] at H
  have c2b0 : decide (a0 < 0) = true := decide_eq_true c2
  clear c2
  obtain rfl := Option.some.inj H
  go_enter Try.func62, Try.ntmps62
  go_wp2
  go_ret
  exact ⟨by first | rfl | (simp; done) | (simp [*]; done), by repeat (first | exact Drawn0.refl _ | apply Drawn0.step)⟩
 ·rw [if_neg c2] at H
  have c2b0 : decide (a0 < 0) = false := decide_eq_false c2
  clear c2
  obtain rfl := Option.some.inj H
  go_enter Try.func62, Try.ntmps62
  go_wp2
  go_ret
  exact ⟨by first | rfl | (simp; done) | (simp [*]; done), by repeat (first | exact Drawn0.refl _ | apply Drawn0.step)⟩
end Go.Proofs.Ytmcfgaokimlngaa.P
end

section
namespace Go.Proofs.Ytmcfgaokimlngaa.P
open Go.RowKit Go.Proofs.YtmcfgaokimlngaaW.PrintWords Go.Proofs.YtmcfgaokimlngaaW.PrintLast Go.Proofs.YtmcfgaokimlngaaW.PrintMore
attribute [local go_sem] max2_int min2_int max_two min_two max_three min_three max_four min_four   -- for this text's walks alone
set_option linter.unusedVariables false
set_option linter.unusedSimpArgs false
mutual
def flywheelref02_Did.j0 : Nat → Int → Int → Int → Int → Bool → Option (Int × Bool)
 | 0, _, _, _, _, _ => none
 | k + 1, x0, x1, x2, x3, x23 => if x23 = true then (some (0, false)) else ((flywheelref02_size.f x0).bind fun t276 => ((flywheelref02_size.f x1).bind fun t277 => ((flywheelref02_times.f t276 t277).bind fun bt278 => ((flywheelref02_size.f x2).bind fun t280 => ((flywheelref02_part.f k bt278.1 bt278.2 t280).bind fun bt281 => (if x0 < 0 then (if x1 < 0 then (if x2 < 0 then (flywheelref02_Did.j1 k x2 x3 true bt281.1 bt281.2.1 bt281.2.2) else (flywheelref02_Did.j1 k x2 x3 false bt281.1 bt281.2.1 bt281.2.2)) else (if x2 < 0 then (flywheelref02_Did.j1 k x2 x3 false bt281.1 bt281.2.1 bt281.2.2) else (flywheelref02_Did.j1 k x2 x3 true bt281.1 bt281.2.1 bt281.2.2))) else (if x1 < 0 then (if x2 < 0 then (flywheelref02_Did.j1 k x2 x3 false bt281.1 bt281.2.1 bt281.2.2) else (flywheelref02_Did.j1 k x2 x3 true bt281.1 bt281.2.1 bt281.2.2)) else (if x2 < 0 then (flywheelref02_Did.j1 k x2 x3 true bt281.1 bt281.2.1 bt281.2.2) else (flywheelref02_Did.j1 k x2 x3 false bt281.1 bt281.2.1 bt281.2.2)))))))))
def flywheelref02_Did.j1 : Nat → Int → Int → Bool → Int → Bool → Int → Option (Int × Bool)
 | 0, _, _, _, _, _, _ => none
 | k + 1, x2, x3, x10, x285000, x285001, x285002 => if x285002 = 0 then (flywheelref02_Did.j2 k x10 false x285000 x285001 x285002) else (if x3 = 1 then (flywheelref02_Did.j2 k x10 x10 x285000 x285001 x285002) else (if x3 = 3 then (flywheelref02_Did.j2 k x10 (!x10) x285000 x285001 x285002) else (if x10 = true then ((flywheelref02_size.f x2).bind fun t285 => (flywheelref02_Did.j2 k x10 (decide (x285002 > (IntKind.u64.wrap (t285 - x285002)))) x285000 x285001 x285002)) else ((flywheelref02_size.f x2).bind fun t286 => (flywheelref02_Did.j2 k x10 (decide (x285002 ≥ (IntKind.u64.wrap (t286 - x285002)))) x285000 x285001 x285002)))))
def flywheelref02_Did.j2 : Nat → Bool → Bool → Int → Bool → Int → Option (Int × Bool)
 | 0, _, _, _, _, _ => none
 | k + 1, x10, x11, x285000, x285001, x285002 => if x11 = true then (if x285001 = true then (flywheelref02_Did.j3 k x10 (IntKind.u64.wrap (x285000 + 1)) true) else (flywheelref02_Did.j3 k x10 (IntKind.u64.wrap (x285000 + 1)) ((IntKind.u64.wrap (x285000 + 1)) == 0))) else (flywheelref02_Did.j3 k x10 x285000 x285001)
def flywheelref02_Did.j3 : Nat → Bool → Int → Bool → Option (Int × Bool)
 | 0, _, _, _ => none
 | k + 1, x10, x12, x13 => if x10 = true then (if x13 = true then (flywheelref02_Did.j4 k x12 true) else (flywheelref02_Did.j4 k x12 (decide (x12 > 9223372036854775808)))) else (if x13 = true then (some (9223372036854775807, false)) else (if x12 > 9223372036854775807 then (some (9223372036854775807, false)) else (some (wrap64 (x12), true))))
def flywheelref02_Did.j4 : Nat → Int → Bool → Option (Int × Bool)
 | 0, _, _ => none
 | k + 1, x12, x89 => if x89 = true then (some ((-9223372036854775808), false)) else (some (wrap64 (-(wrap64 (x12))), true))
end
def flywheelref02_Did.f (k : Nat) (a0 : Int) (a1 : Int) (a2 : Int) (a3 : Int) : Option (Int × Bool) := if a2 = 0 then (flywheelref02_Did.j0 k a0 a1 a2 a3 true) else (if a3 < 1 then (flywheelref02_Did.j0 k a0 a1 a2 a3 true) else (flywheelref02_Did.j0 k a0 a1 a2 a3 (decide (a3 > 3))))
set_option maxHeartbeats 8000000 in
set_option maxRecDepth 100000 in
theorem flywheelref02_Did.calls (k : Nat) (a0 : Int) (a1 : Int) (a2 : Int) (a3 : Int) (r1 : Int) (r2 : Bool) (w : World) (h : flywheelref02_Did.f k a0 a1 a2 a3 = some (r1, r2)) :
  Calls Try.prog 55 #[.int .i64 a0, .int .i64 a1, .int .i64 a2, .int .i64 a3] w fun e w' => e = .returned (.agg #[.int .i64 r1, .bool r2]) ∧ Below w.heap.size w w' := by
 have hu80 := Try.underlying80
 have hu89 := Try.underlying89
 have HB := Aside0.mk (Below.refl w.heap.size w)
 have H : (if a2 = 0 then (flywheelref02_Did.j0 k a0 a1 a2 a3 true) else (if a3 < 1 then (flywheelref02_Did.j0 k a0 a1 a2 a3 true) else (flywheelref02_Did.j0 k a0 a1 a2 a3 (decide (a3 > 3))))) = some (r1, r2) := h
 clear h
 have HC5 := Aside0.mk H
 clear H
 go_enter Try.func55, Try.ntmps55
 go_upto_region 1 with (first | ((with_reducible refine gate_dst (N := 8) rfl ?_); refine box_event ?hg (N := 8) ?hd (cs := #[.int .i64 0, .bool false]) (t := 80) ?hr ?_; (case hd => rfl); (case hg => rfl); (case hr => first | (go_simp; done) | (go_simp; rfl)); intro gb275 hg w6 hbox hb; have n0_ := Aside0.mk (below_step (by repeat (first | (with_reducible first | exact HB.out | apply below_alloc | apply pw_below_drewN | apply below_drew1) | exact HB.out)) hb); have n1_ := Aside0.mk (hbox); have n2_ := Aside0.mk ((by rw [hg]; exact (below_size (by repeat (first | (with_reducible first | exact HB.out | apply below_alloc | apply pw_below_drewN | apply below_drew1) | exact HB.out))) : w.heap.size ≤ gb275)); have n3_ := Aside0.mk ((by rw [hg]; exact (below_size (by repeat (first | (with_reducible first | exact HB.out | apply below_alloc | apply pw_below_drewN | apply below_drew1) | exact HB.out))) : w.heap.size ≤ gb275)); clear HB; have HB := n0_; have BK275 := n1_; have GW275 := n2_; have GE275 := n3_; clear n0_ n1_ n2_ n3_; clear hb hbox hg))
 repeat (go_quiet (first | ((with_reducible refine gate_dst (N := 8) rfl ?_); refine box_event ?hg (N := 8) ?hd (cs := #[.int .i64 0, .bool false]) (t := 80) ?hr ?_; (case hd => rfl); (case hg => rfl); (case hr => first | (go_simp; done) | (go_simp; rfl)); intro gb275 hg w6 hbox hb; have n0_ := Aside0.mk (below_step (by repeat (first | (with_reducible first | exact HB.out | apply below_alloc | apply pw_below_drewN | apply below_drew1) | exact HB.out)) hb); have n1_ := Aside0.mk (hbox); have n2_ := Aside0.mk ((by rw [hg]; exact (below_size (by repeat (first | (with_reducible first | exact HB.out | apply below_alloc | apply pw_below_drewN | apply below_drew1) | exact HB.out))) : w.heap.size ≤ gb275)); have n3_ := Aside0.mk ((by rw [hg]; exact (below_size (by repeat (first | (with_reducible first | exact HB.out | apply below_alloc | apply pw_below_drewN | apply below_drew1) | exact HB.out))) : w.heap.size ≤ gb275)); clear HB; have HB := n0_; have BK275 := n1_; have GW275 := n2_; have GE275 := n3_; clear n0_ n1_ n2_ n3_; clear hb hbox hg)); go_upto_region 1 with (first | ((with_reducible refine gate_dst (N := 8) rfl ?_); refine box_event ?hg (N := 8) ?hd (cs := #[.int .i64 0, .bool false]) (t := 80) ?hr ?_; (case hd => rfl); (case hg => rfl); (case hr => first | (go_simp; done) | (go_simp; rfl)); intro gb275 hg w6 hbox hb; have n0_ := Aside0.mk (below_step (by repeat (first | (with_reducible first | exact HB.out | apply below_alloc | apply pw_below_drewN | apply below_drew1) | exact HB.out)) hb); have n1_ := Aside0.mk (hbox); have n2_ := Aside0.mk ((by rw [hg]; exact (below_size (by repeat (first | (with_reducible first | exact HB.out | apply below_alloc | apply pw_below_drewN | apply below_drew1) | exact HB.out))) : w.heap.size ≤ gb275)); have n3_ := Aside0.mk ((by rw [hg]; exact (below_size (by repeat (first | (with_reducible first | exact HB.out | apply below_alloc | apply pw_below_drewN | apply below_drew1) | exact HB.out))) : w.heap.size ≤ gb275)); clear HB; have HB := n0_; have BK275 := n1_; have GW275 := n2_; have GE275 := n3_; clear n0_ n1_ n2_ n3_; clear hb hbox hg)))
 (try simp only [Act.put, List.setIfInBounds_toArray, List.set_cons_zero, List.set_cons_succ])
 go_cut [23] (fun v23 wc => ∃ (kq : Nat) (x23_4 : Bool), v23 = .bool x23_4 ∧ Aside0 (flywheelref02_Did.j0 kq a0 a1 a2 a3 x23_4 = some (r1, r2)) ∧ Aside0 (kq ≤ k) ∧ Aside0 (wc.heap[gb275]? = some (.cells #[.int .i64 0, .bool false] 80 (0, 0))) ∧ Aside0 (Below w.heap.size w wc))
 case first =>
  have H := HC5.out
  clear HC5
  by_cases c7 : a2 = 0
  ·rw [if_pos c7] at H
   have c7b0 : (a2 == 0) = true := beq_iff_eq.mpr c7
   have c7b1 : (a2 != 0) = false := bne_eq_false_iff_eq.mpr c7
   clear c7
   (first | rw [c7b0] | (simp only [i64_w, i32_w]; rw [c7b0]) | skip)
   have H' := Aside0.mk H
   clear H
   go_wp2
   repeat (go_quiet (fail); try go_wp2)
   go_meet
   case rel => exact ⟨_, (true), (by first | rfl | (simp; done) | (simp [*]; done)), H', ⟨by first | omega | exact Nat.le_refl _⟩, ⟨by (with_reducible repeat (first | refine blk_drewN ?_ _ | refine blk_drew ?_ | refine blk_alloc ?_ _)); exact BK275.out⟩, ⟨by repeat (first | (with_reducible first | exact HB.out | apply below_alloc | apply pw_below_drewN | apply below_drew1 | refine below_set ?_ GE275.out) | exact HB.out)⟩⟩
  ·rw [if_neg c7] at H
   have c7b0 : (a2 == 0) = false := beq_eq_false_iff_ne.mpr c7
   have c7b1 : (a2 != 0) = true := bne_iff_ne.mpr c7
   (first | rw [c7b0] | (simp only [i64_w, i32_w]; rw [c7b0]) | skip)
   by_cases c8 : a3 < 1
   ·rw [if_pos c8] at H
    have c8b0 : decide (a3 < 1) = true := decide_eq_true c8
    clear c8
    have H' := Aside0.mk H
    clear H
    go_wp2
    repeat (go_quiet (fail); try go_wp2)
    go_meet
    case rel => exact ⟨_, (true), (by first | rfl | (simp; done) | (simp [*]; done)), H', ⟨by first | omega | exact Nat.le_refl _⟩, ⟨by (with_reducible repeat (first | refine blk_drewN ?_ _ | refine blk_drew ?_ | refine blk_alloc ?_ _)); exact BK275.out⟩, ⟨by repeat (first | (with_reducible first | exact HB.out | apply below_alloc | apply pw_below_drewN | apply below_drew1 | refine below_set ?_ GE275.out) | exact HB.out)⟩⟩
   ·rw [if_neg c8] at H
    have c8b0 : decide (a3 < 1) = false := decide_eq_false c8
    clear c8
    have H' := Aside0.mk H
    clear H
    go_wp2
    repeat (go_quiet (fail); try go_wp2)
    go_meet
    case rel => exact ⟨_, (decide (a3 > 3)), (by first | rfl | (simp; done) | (simp [*]; done)), H', ⟨by first | omega | exact Nat.le_refl _⟩, ⟨by (with_reducible repeat (first | refine blk_drewN ?_ _ | refine blk_drew ?_ | refine blk_alloc ?_ _)); exact BK275.out⟩, ⟨by repeat (first | (with_reducible first | exact HB.out | apply below_alloc | apply pw_below_drewN | apply below_drew1 | refine below_set ?_ GE275.out) | exact HB.out)⟩⟩
 case rest =>
  clear HC5
  try clear p2
  try clear c5
  try clear c7
  try clear c7b0
  try clear c7b1
  try clear c8
  try clear c8b0
  obtain ⟨kq, x23_4, rfl, HA, HJ4, BK275, HB⟩ := hcut
  cases kq with
  | zero => exact absurd HA.out (by simp [flywheelref02_Did.j0])
  | succ kj4 =>
   have H := HA.out
   clear HA
   simp only [flywheelref02_Did.j0] at H
   by_cases c9 : x23_4 = true
   ·subst c9
    have H1 : (some (0, false)) = some (r1, r2) := by rw [if_pos rfl] at H; exact H
    clear H
    have H := H1
    clear H1
    simp only [Option.some.injEq, Prod.mk.injEq] at H
    obtain ⟨rfl, rfl⟩ := H
    have hcz10_0 : wc.cell? ⟨gb275, 0, none⟩ = some (.int .i64 0) := (blk_cell BK275.out 0).trans rfl
    have hcz10_1 : wc.cell? ⟨gb275, 1, none⟩ = some (.bool false) := (blk_cell BK275.out 1).trans rfl
    have hfz10_0 := blk_frozen BK275.out 0
    have hfz10_1 := blk_frozen BK275.out 1
    go_wp2
    repeat (go_quiet (fail); try go_wp2)
    refine bodyPost_ret (results_cell_row rfl _ _ gb275 80 #[.int .i64 0, .bool false] (0, 0) _ rfl (by (with_reducible repeat (first | refine blk_drewN ?_ _ | refine blk_drew ?_ | refine blk_alloc ?_ _)); refine blk_put (cs := #[.int .i64 0, .bool false]) ?_ 1 _ rfl; (with_reducible repeat (first | refine blk_drewN ?_ _ | refine blk_drew ?_ | refine blk_alloc ?_ _)); refine blk_put (cs := #[.int .i64 0, .bool false]) ?_ 0 _ rfl; (with_reducible repeat (first | refine blk_drewN ?_ _ | refine blk_drew ?_ | refine blk_alloc ?_ _)); exact BK275.out) Try.underlying80 rfl (by kernel_rfl)) rfl ?_
    exact ⟨by first | rfl | (simp [errW_none, errW_some] <;> rfl) | (simp [*, errW_none, errW_some] <;> rfl), by repeat (first | (with_reducible first | exact HB.out | apply below_alloc | apply pw_below_drewN | apply below_drew1 | refine below_set ?_ GE275.out) | exact HB.out)⟩
   ·replace c9 := Bool.eq_false_iff.mpr c9
    subst c9
    have H1 : ((flywheelref02_size.f a0).bind fun t276 => ((flywheelref02_size.f a1).bind fun t277 => ((flywheelref02_times.f t276 t277).bind fun bt278 => ((flywheelref02_size.f a2).bind fun t280 => ((flywheelref02_part.f kj4 bt278.1 bt278.2 t280).bind fun bt281 => (if a0 < 0 then (if a1 < 0 then (if a2 < 0 then (flywheelref02_Did.j1 kj4 a2 a3 true bt281.1 bt281.2.1 bt281.2.2) else (flywheelref02_Did.j1 kj4 a2 a3 false bt281.1 bt281.2.1 bt281.2.2)) else (if a2 < 0 then (flywheelref02_Did.j1 kj4 a2 a3 false bt281.1 bt281.2.1 bt281.2.2) else (flywheelref02_Did.j1 kj4 a2 a3 true bt281.1 bt281.2.1 bt281.2.2))) else (if a1 < 0 then (if a2 < 0 then (flywheelref02_Did.j1 kj4 a2 a3 false bt281.1 bt281.2.1 bt281.2.2) else (flywheelref02_Did.j1 kj4 a2 a3 true bt281.1 bt281.2.1 bt281.2.2)) else (if a2 < 0 then (flywheelref02_Did.j1 kj4 a2 a3 true bt281.1 bt281.2.1 bt281.2.2) else (flywheelref02_Did.j1 kj4 a2 a3 false bt281.1 bt281.2.1 bt281.2.2))))))))) = some (r1, r2) := by rw [if_neg (show ¬ (false = true) by decide)] at H; exact H
    clear H
    have H := H1
    clear H1
    replace H := Option.bind_eq_some_iff.mp H
    obtain ⟨t276, A110, H⟩ := H
    replace H : ((flywheelref02_size.f a1).bind fun t277 => ((flywheelref02_times.f t276 t277).bind fun bt278 => ((flywheelref02_size.f a2).bind fun t280 => ((flywheelref02_part.f kj4 bt278.1 bt278.2 t280).bind fun bt281 => (if a0 < 0 then (if a1 < 0 then (if a2 < 0 then (flywheelref02_Did.j1 kj4 a2 a3 true bt281.1 bt281.2.1 bt281.2.2) else (flywheelref02_Did.j1 kj4 a2 a3 false bt281.1 bt281.2.1 bt281.2.2)) else (if a2 < 0 then (flywheelref02_Did.j1 kj4 a2 a3 false bt281.1 bt281.2.1 bt281.2.2) else (flywheelref02_Did.j1 kj4 a2 a3 true bt281.1 bt281.2.1 bt281.2.2))) else (if a1 < 0 then (if a2 < 0 then (flywheelref02_Did.j1 kj4 a2 a3 false bt281.1 bt281.2.1 bt281.2.2) else (flywheelref02_Did.j1 kj4 a2 a3 true bt281.1 bt281.2.1 bt281.2.2)) else (if a2 < 0 then (flywheelref02_Did.j1 kj4 a2 a3 true bt281.1 bt281.2.1 bt281.2.2) else (flywheelref02_Did.j1 kj4 a2 a3 false bt281.1 bt281.2.1 bt281.2.2)))))))) = some (r1, r2) := H
    have A11 := Aside0.mk A110
    clear A110
    replace H := Option.bind_eq_some_iff.mp H
    obtain ⟨t277, A120, H⟩ := H
    replace H : ((flywheelref02_times.f t276 t277).bind fun bt278 => ((flywheelref02_size.f a2).bind fun t280 => ((flywheelref02_part.f kj4 bt278.1 bt278.2 t280).bind fun bt281 => (if a0 < 0 then (if a1 < 0 then (if a2 < 0 then (flywheelref02_Did.j1 kj4 a2 a3 true bt281.1 bt281.2.1 bt281.2.2) else (flywheelref02_Did.j1 kj4 a2 a3 false bt281.1 bt281.2.1 bt281.2.2)) else (if a2 < 0 then (flywheelref02_Did.j1 kj4 a2 a3 false bt281.1 bt281.2.1 bt281.2.2) else (flywheelref02_Did.j1 kj4 a2 a3 true bt281.1 bt281.2.1 bt281.2.2))) else (if a1 < 0 then (if a2 < 0 then (flywheelref02_Did.j1 kj4 a2 a3 false bt281.1 bt281.2.1 bt281.2.2) else (flywheelref02_Did.j1 kj4 a2 a3 true bt281.1 bt281.2.1 bt281.2.2)) else (if a2 < 0 then (flywheelref02_Did.j1 kj4 a2 a3 true bt281.1 bt281.2.1 bt281.2.2) else (flywheelref02_Did.j1 kj4 a2 a3 false bt281.1 bt281.2.1 bt281.2.2))))))) = some (r1, r2) := H
    have A12 := Aside0.mk A120
    clear A120
    replace H := Option.bind_eq_some_iff.mp H
    obtain ⟨⟨t278, t279⟩, A130, H⟩ := H
    replace H : ((flywheelref02_size.f a2).bind fun t280 => ((flywheelref02_part.f kj4 t278 t279 t280).bind fun bt281 => (if a0 < 0 then (if a1 < 0 then (if a2 < 0 then (flywheelref02_Did.j1 kj4 a2 a3 true bt281.1 bt281.2.1 bt281.2.2) else (flywheelref02_Did.j1 kj4 a2 a3 false bt281.1 bt281.2.1 bt281.2.2)) else (if a2 < 0 then (flywheelref02_Did.j1 kj4 a2 a3 false bt281.1 bt281.2.1 bt281.2.2) else (flywheelref02_Did.j1 kj4 a2 a3 true bt281.1 bt281.2.1 bt281.2.2))) else (if a1 < 0 then (if a2 < 0 then (flywheelref02_Did.j1 kj4 a2 a3 false bt281.1 bt281.2.1 bt281.2.2) else (flywheelref02_Did.j1 kj4 a2 a3 true bt281.1 bt281.2.1 bt281.2.2)) else (if a2 < 0 then (flywheelref02_Did.j1 kj4 a2 a3 true bt281.1 bt281.2.1 bt281.2.2) else (flywheelref02_Did.j1 kj4 a2 a3 false bt281.1 bt281.2.1 bt281.2.2)))))) = some (r1, r2) := H
    have A13 := Aside0.mk A130
    clear A130
    replace H := Option.bind_eq_some_iff.mp H
    obtain ⟨t280, A140, H⟩ := H
    replace H : ((flywheelref02_part.f kj4 t278 t279 t280).bind fun bt281 => (if a0 < 0 then (if a1 < 0 then (if a2 < 0 then (flywheelref02_Did.j1 kj4 a2 a3 true bt281.1 bt281.2.1 bt281.2.2) else (flywheelref02_Did.j1 kj4 a2 a3 false bt281.1 bt281.2.1 bt281.2.2)) else (if a2 < 0 then (flywheelref02_Did.j1 kj4 a2 a3 false bt281.1 bt281.2.1 bt281.2.2) else (flywheelref02_Did.j1 kj4 a2 a3 true bt281.1 bt281.2.1 bt281.2.2))) else (if a1 < 0 then (if a2 < 0 then (flywheelref02_Did.j1 kj4 a2 a3 false bt281.1 bt281.2.1 bt281.2.2) else (flywheelref02_Did.j1 kj4 a2 a3 true bt281.1 bt281.2.1 bt281.2.2)) else (if a2 < 0 then (flywheelref02_Did.j1 kj4 a2 a3 true bt281.1 bt281.2.1 bt281.2.2) else (flywheelref02_Did.j1 kj4 a2 a3 false bt281.1 bt281.2.1 bt281.2.2))))) = some (r1, r2) := H
    have A14 := Aside0.mk A140
    clear A140
    replace H := Option.bind_eq_some_iff.mp H
    obtain ⟨⟨t281, t282, t283⟩, A150, H⟩ := H
    replace H : (if a0 < 0 then (if a1 < 0 then (if a2 < 0 then (flywheelref02_Did.j1 kj4 a2 a3 true t281 t282 t283) else (flywheelref02_Did.j1 kj4 a2 a3 false t281 t282 t283)) else (if a2 < 0 then (flywheelref02_Did.j1 kj4 a2 a3 false t281 t282 t283) else (flywheelref02_Did.j1 kj4 a2 a3 true t281 t282 t283))) else (if a1 < 0 then (if a2 < 0 then (flywheelref02_Did.j1 kj4 a2 a3 false t281 t282 t283) else (flywheelref02_Did.j1 kj4 a2 a3 true t281 t282 t283)) else (if a2 < 0 then (flywheelref02_Did.j1 kj4 a2 a3 true t281 t282 t283) else (flywheelref02_Did.j1 kj4 a2 a3 false t281 t282 t283)))) = some (r1, r2) := H
    have A15 := Aside0.mk A150
    clear A150
    have HC16 := Aside0.mk H
    clear H
    go_upto_region 4 with (first | (go_at_call 62; (with_reducible refine (flywheelref02_size.calls a0 t276 _ A11.out).mono ?_); rintro e w' ⟨rfl, ⟨nd, rfl⟩⟩; (try first | exact ⟨rfl, _, World.drewN_drewN _ _ _⟩ | exact ⟨rfl, _, Eq.trans (World.drewN_drewN _ _ _) (congrArg (World.drewN _) (Nat.add_assoc _ _ _))⟩)) | (go_at_call 62; (with_reducible refine (flywheelref02_size.calls a1 t277 _ A12.out).mono ?_); rintro e w' ⟨rfl, ⟨nd, rfl⟩⟩; (try first | exact ⟨rfl, _, World.drewN_drewN _ _ _⟩ | exact ⟨rfl, _, Eq.trans (World.drewN_drewN _ _ _) (congrArg (World.drewN _) (Nat.add_assoc _ _ _))⟩)) | (go_at_call 61; (with_reducible refine (flywheelref02_times.calls t276 t277 t278 t279 _ A13.out).mono ?_); rintro e w17 ⟨rfl, hb⟩; have n0_ := Aside0.mk (blk_below (g := gb275) (o := .cells #[.int .i64 0, .bool false] 80 (0, 0)) (by (with_reducible repeat (first | refine blk_drewN ?_ _ | refine blk_drew ?_ | refine blk_alloc ?_ _)); exact BK275.out) hb); have n1_ := Aside0.mk (below_step (by repeat (first | (with_reducible first | exact HB.out | apply below_alloc | apply pw_below_drewN | apply below_drew1 | refine below_set ?_ GE275.out) | exact HB.out)) hb); clear BK275; clear HB; have BK275 := n0_; have HB := n1_; clear n0_ n1_; (try clear hb); (try clear hb2); (try clear hk); (try clear hi)) | (go_at_call 62; (with_reducible refine (flywheelref02_size.calls a2 t280 _ A14.out).mono ?_); rintro e w' ⟨rfl, ⟨nd, rfl⟩⟩; (try first | exact ⟨rfl, _, World.drewN_drewN _ _ _⟩ | exact ⟨rfl, _, Eq.trans (World.drewN_drewN _ _ _) (congrArg (World.drewN _) (Nat.add_assoc _ _ _))⟩)) | (go_at_call 60; (with_reducible refine (flywheelref02_part.calls kj4 t278 t279 t280 t281 t282 t283 _ A15.out).mono ?_); rintro e w18 ⟨rfl, hb⟩; have n0_ := Aside0.mk (blk_below (g := gb275) (o := .cells #[.int .i64 0, .bool false] 80 (0, 0)) (by (with_reducible repeat (first | refine blk_drewN ?_ _ | refine blk_drew ?_ | refine blk_alloc ?_ _)); exact BK275.out) hb); have n1_ := Aside0.mk (below_step (by repeat (first | (with_reducible first | exact HB.out | apply below_alloc | apply pw_below_drewN | apply below_drew1 | refine below_set ?_ GE275.out) | exact HB.out)) hb); clear BK275; clear HB; have BK275 := n0_; have HB := n1_; clear n0_ n1_; (try clear hb); (try clear hb2); (try clear hk); (try clear hi)) | ((with_reducible refine gate_dst (N := 9) rfl ?_); refine box_event ?hg (N := 9) ?hd (cs := #[.int .u64 0, .bool false, .int .u64 0]) (t := 89) ?hr ?_; (case hd => rfl); (case hg => rfl); (case hr => first | (go_simp; done) | (go_simp; rfl)); intro gb284 hg w19 hbox hb; have n0_ := Aside0.mk (blk_below (g := gb275) (o := .cells #[.int .i64 0, .bool false] 80 (0, 0)) (by (with_reducible repeat (first | refine blk_drewN ?_ _ | refine blk_drew ?_ | refine blk_alloc ?_ _)); exact BK275.out) hb); have n1_ := Aside0.mk (below_step (by repeat (first | (with_reducible first | exact HB.out | apply below_alloc | apply pw_below_drewN | apply below_drew1 | refine below_set ?_ GE275.out) | exact HB.out)) hb); have n2_ := Aside0.mk (hbox); have n3_ := Aside0.mk ((by rw [hg]; exact (below_size (by repeat (first | (with_reducible first | exact HB.out | apply below_alloc | apply pw_below_drewN | apply below_drew1 | refine below_set ?_ GE275.out) | exact HB.out))) : w.heap.size ≤ gb284)); have n4_ := Aside0.mk ((by rw [hg]; exact (below_size (by repeat (first | (with_reducible first | exact HB.out | apply below_alloc | apply pw_below_drewN | apply below_drew1 | refine below_set ?_ GE275.out) | exact HB.out))) : w.heap.size ≤ gb284)); have n5_ := Aside0.mk ((by rw [hg]; exact Nat.ne_of_lt (blk_lt (g := gb275) (o := .cells #[.int .i64 0, .bool false] 80 (0, 0)) (by (with_reducible repeat (first | refine blk_drewN ?_ _ | refine blk_drew ?_ | refine blk_alloc ?_ _)); exact BK275.out)) : gb275 ≠ gb284)); have n6_ := Aside0.mk ((by rw [hg]; exact Nat.ne_of_gt (blk_lt (g := gb275) (o := .cells #[.int .i64 0, .bool false] 80 (0, 0)) (by (with_reducible repeat (first | refine blk_drewN ?_ _ | refine blk_drew ?_ | refine blk_alloc ?_ _)); exact BK275.out)) : gb284 ≠ gb275)); clear BK275; clear HB; have BK275 := n0_; have HB := n1_; have BK284 := n2_; have GW284 := n3_; have GE284 := n4_; have NB275_284 := n5_; have NB284_275 := n6_; clear n0_ n1_ n2_ n3_ n4_ n5_ n6_; clear hb hbox hg; have hnb20 := NB284_275.out; have hnc20 := NB275_284.out; have hcz21_0 : w19.cell? ⟨gb284, 0, none⟩ = some (.int .u64 0) := (blk_cell BK284.out 0).trans rfl; have hcz21_1 : w19.cell? ⟨gb284, 1, none⟩ = some (.bool false) := (blk_cell BK284.out 1).trans rfl; have hcz21_2 : w19.cell? ⟨gb284, 2, none⟩ = some (.int .u64 0) := (blk_cell BK284.out 2).trans rfl; have hfz21_0 := blk_frozen BK284.out 0; have hfz21_1 := blk_frozen BK284.out 1; have hfz21_2 := blk_frozen BK284.out 2))
    repeat (go_quiet (first | (go_at_call 62; (with_reducible refine (flywheelref02_size.calls a0 t276 _ A11.out).mono ?_); rintro e w' ⟨rfl, ⟨nd, rfl⟩⟩; (try first | exact ⟨rfl, _, World.drewN_drewN _ _ _⟩ | exact ⟨rfl, _, Eq.trans (World.drewN_drewN _ _ _) (congrArg (World.drewN _) (Nat.add_assoc _ _ _))⟩)) | (go_at_call 62; (with_reducible refine (flywheelref02_size.calls a1 t277 _ A12.out).mono ?_); rintro e w' ⟨rfl, ⟨nd, rfl⟩⟩; (try first | exact ⟨rfl, _, World.drewN_drewN _ _ _⟩ | exact ⟨rfl, _, Eq.trans (World.drewN_drewN _ _ _) (congrArg (World.drewN _) (Nat.add_assoc _ _ _))⟩)) | (go_at_call 61; (with_reducible refine (flywheelref02_times.calls t276 t277 t278 t279 _ A13.out).mono ?_); rintro e w17 ⟨rfl, hb⟩; have n0_ := Aside0.mk (blk_below (g := gb275) (o := .cells #[.int .i64 0, .bool false] 80 (0, 0)) (by (with_reducible repeat (first | refine blk_drewN ?_ _ | refine blk_drew ?_ | refine blk_alloc ?_ _)); exact BK275.out) hb); have n1_ := Aside0.mk (below_step (by repeat (first | (with_reducible first | exact HB.out | apply below_alloc | apply pw_below_drewN | apply below_drew1 | refine below_set ?_ GE275.out) | exact HB.out)) hb); clear BK275; clear HB; have BK275 := n0_; have HB := n1_; clear n0_ n1_; (try clear hb); (try clear hb2); (try clear hk); (try clear hi)) | (go_at_call 62; (with_reducible refine (flywheelref02_size.calls a2 t280 _ A14.out).mono ?_); rintro e w' ⟨rfl, ⟨nd, rfl⟩⟩; (try first | exact ⟨rfl, _, World.drewN_drewN _ _ _⟩ | exact ⟨rfl, _, Eq.trans (World.drewN_drewN _ _ _) (congrArg (World.drewN _) (Nat.add_assoc _ _ _))⟩)) | (go_at_call 60; (with_reducible refine (flywheelref02_part.calls kj4 t278 t279 t280 t281 t282 t283 _ A15.out).mono ?_); rintro e w18 ⟨rfl, hb⟩; have n0_ := Aside0.mk (blk_below (g := gb275) (o := .cells #[.int .i64 0, .bool false] 80 (0, 0)) (by (with_reducible repeat (first | refine blk_drewN ?_ _ | refine blk_drew ?_ | refine blk_alloc ?_ _)); exact BK275.out) hb); have n1_ := Aside0.mk (below_step (by repeat (first | (with_reducible first | exact HB.out | apply below_alloc | apply pw_below_drewN | apply below_drew1 | refine below_set ?_ GE275.out) | exact HB.out)) hb); clear BK275; clear HB; have BK275 := n0_; have HB := n1_; clear n0_ n1_; (try clear hb); (try clear hb2); (try clear hk); (try clear hi)) | ((with_reducible refine gate_dst (N := 9) rfl ?_); refine box_event ?hg (N := 9) ?hd (cs := #[.int .u64 0, .bool false, .int .u64 0]) (t := 89) ?hr ?_; (case hd => rfl); (case hg => rfl); (case hr => first | (go_simp; done) | (go_simp; rfl)); intro gb284 hg w19 hbox hb; have n0_ := Aside0.mk (blk_below (g := gb275) (o := .cells #[.int .i64 0, .bool false] 80 (0, 0)) (by (with_reducible repeat (first | refine blk_drewN ?_ _ | refine blk_drew ?_ | refine blk_alloc ?_ _)); exact BK275.out) hb); have n1_ := Aside0.mk (below_step (by repeat (first | (with_reducible first | exact HB.out | apply below_alloc | apply pw_below_drewN | apply below_drew1 | refine below_set ?_ GE275.out) | exact HB.out)) hb); have n2_ := Aside0.mk (hbox); have n3_ := Aside0.mk ((by rw [hg]; exact (below_size (by repeat (first | (with_reducible first | exact HB.out | apply below_alloc | apply pw_below_drewN | apply below_drew1 | refine below_set ?_ GE275.out) | exact HB.out))) : w.heap.size ≤ gb284)); have n4_ := Aside0.mk ((by rw [hg]; exact (below_size (by repeat (first | (with_reducible first | exact HB.out | apply below_alloc | apply pw_below_drewN | apply below_drew1 | refine below_set ?_ GE275.out) | exact HB.out))) : w.heap.size ≤ gb284)); have n5_ := Aside0.mk ((by rw [hg]; exact Nat.ne_of_lt (blk_lt (g := gb275) (o := .cells #[.int .i64 0, .bool false] 80 (0, 0)) (by (with_reducible repeat (first | refine blk_drewN ?_ _ | refine blk_drew ?_ | refine blk_alloc ?_ _)); exact BK275.out)) : gb275 ≠ gb284)); have n6_ := Aside0.mk ((by rw [hg]; exact Nat.ne_of_gt (blk_lt (g := gb275) (o := .cells #[.int .i64 0, .bool false] 80 (0, 0)) (by (with_reducible repeat (first | refine blk_drewN ?_ _ | refine blk_drew ?_ | refine blk_alloc ?_ _)); exact BK275.out)) : gb284 ≠ gb275)); clear BK275; clear HB; have BK275 := n0_; have HB := n1_; have BK284 := n2_; have GW284 := n3_; have GE284 := n4_; have NB275_284 := n5_; have NB284_275 := n6_; clear n0_ n1_ n2_ n3_ n4_ n5_ n6_; clear hb hbox hg; have hnb20 := NB284_275.out; have hnc20 := NB275_284.out; have hcz21_0 : w19.cell? ⟨gb284, 0, none⟩ = some (.int .u64 0) := (blk_cell BK284.out 0).trans rfl; have hcz21_1 : w19.cell? ⟨gb284, 1, none⟩ = some (.bool false) := (blk_cell BK284.out 1).trans rfl; have hcz21_2 : w19.cell? ⟨gb284, 2, none⟩ = some (.int .u64 0) := (blk_cell BK284.out 2).trans rfl; have hfz21_0 := blk_frozen BK284.out 0; have hfz21_1 := blk_frozen BK284.out 1; have hfz21_2 := blk_frozen BK284.out 2)); go_upto_region 4 with (first | (go_at_call 62; (with_reducible refine (flywheelref02_size.calls a0 t276 _ A11.out).mono ?_); rintro e w' ⟨rfl, ⟨nd, rfl⟩⟩; (try first | exact ⟨rfl, _, World.drewN_drewN _ _ _⟩ | exact ⟨rfl, _, Eq.trans (World.drewN_drewN _ _ _) (congrArg (World.drewN _) (Nat.add_assoc _ _ _))⟩)) | (go_at_call 62; (with_reducible refine (flywheelref02_size.calls a1 t277 _ A12.out).mono ?_); rintro e w' ⟨rfl, ⟨nd, rfl⟩⟩; (try first | exact ⟨rfl, _, World.drewN_drewN _ _ _⟩ | exact ⟨rfl, _, Eq.trans (World.drewN_drewN _ _ _) (congrArg (World.drewN _) (Nat.add_assoc _ _ _))⟩)) | (go_at_call 61; (with_reducible refine (flywheelref02_times.calls t276 t277 t278 t279 _ A13.out).mono ?_); rintro e w17 ⟨rfl, hb⟩; have n0_ := Aside0.mk (blk_below (g := gb275) (o := .cells #[.int .i64 0, .bool false] 80 (0, 0)) (by (with_reducible repeat (first | refine blk_drewN ?_ _ | refine blk_drew ?_ | refine blk_alloc ?_ _)); exact BK275.out) hb); have n1_ := Aside0.mk (below_step (by repeat (first | (with_reducible first | exact HB.out | apply below_alloc | apply pw_below_drewN | apply below_drew1 | refine below_set ?_ GE275.out) | exact HB.out)) hb); clear BK275; clear HB; have BK275 := n0_; have HB := n1_; clear n0_ n1_; (try clear hb); (try clear hb2); (try clear hk); (try clear hi)) | (go_at_call 62; (with_reducible refine (flywheelref02_size.calls a2 t280 _ A14.out).mono ?_); rintro e w' ⟨rfl, ⟨nd, rfl⟩⟩; (try first | exact ⟨rfl, _, World.drewN_drewN _ _ _⟩ | exact ⟨rfl, _, Eq.trans (World.drewN_drewN _ _ _) (congrArg (World.drewN _) (Nat.add_assoc _ _ _))⟩)) | (go_at_call 60; (with_reducible refine (flywheelref02_part.calls kj4 t278 t279 t280 t281 t282 t283 _ A15.out).mono ?_); rintro e w18 ⟨rfl, hb⟩; have n0_ := Aside0.mk (blk_below (g := gb275) (o := .cells #[.int .i64 0, .bool false] 80 (0, 0)) (by (with_reducible repeat (first | refine blk_drewN ?_ _ | refine blk_drew ?_ | refine blk_alloc ?_ _)); exact BK275.out) hb); have n1_ := Aside0.mk (below_step (by repeat (first | (with_reducible first | exact HB.out | apply below_alloc | apply pw_below_drewN | apply below_drew1 | refine below_set ?_ GE275.out) | exact HB.out)) hb); clear BK275; clear HB; have BK275 := n0_; have HB := n1_; clear n0_ n1_; (try clear hb); (try clear hb2); (try clear hk); (try clear hi)) | ((with_reducible refine gate_dst (N := 9) rfl ?_); refine box_event ?hg (N := 9) ?hd (cs := #[.int .u64 0, .bool false, .int .u64 0]) (t := 89) ?hr ?_; (case hd => rfl); (case hg => rfl); (case hr => first | (go_simp; done) | (go_simp; rfl)); intro gb284 hg w19 hbox hb; have n0_ := Aside0.mk (blk_below (g := gb275) (o := .cells #[.int .i64 0, .bool false] 80 (0, 0)) (by (with_reducible repeat (first | refine blk_drewN ?_ _ | refine blk_drew ?_ | refine blk_alloc ?_ _)); exact BK275.out) hb); have n1_ := Aside0.mk (below_step (by repeat (first | (with_reducible first | exact HB.out | apply below_alloc | apply pw_below_drewN | apply below_drew1 | refine below_set ?_ GE275.out) | exact HB.out)) hb); have n2_ := Aside0.mk (hbox); have n3_ := Aside0.mk ((by rw [hg]; exact (below_size (by repeat (first | (with_reducible first | exact HB.out | apply below_alloc | apply pw_below_drewN | apply below_drew1 | refine below_set ?_ GE275.out) | exact HB.out))) : w.heap.size ≤ gb284)); have n4_ := Aside0.mk ((by rw [hg]; exact (below_size (by repeat (first | (with_reducible first | exact HB.out | apply below_alloc | apply pw_below_drewN | apply below_drew1 | refine below_set ?_ GE275.out) | exact HB.out))) : w.heap.size ≤ gb284)); have n5_ := Aside0.mk ((by rw [hg]; exact Nat.ne_of_lt (blk_lt (g := gb275) (o := .cells #[.int .i64 0, .bool false] 80 (0, 0)) (by (with_reducible repeat (first | refine blk_drewN ?_ _ | refine blk_drew ?_ | refine blk_alloc ?_ _)); exact BK275.out)) : gb275 ≠ gb284)); have n6_ := Aside0.mk ((by rw [hg]; exact Nat.ne_of_gt (blk_lt (g := gb275) (o := .cells #[.int .i64 0, .bool false] 80 (0, 0)) (by (with_reducible repeat (first | refine blk_drewN ?_ _ | refine blk_drew ?_ | refine blk_alloc ?_ _)); exact BK275.out)) : gb284 ≠ gb275)); clear BK275; clear HB; have BK275 := n0_; have HB := n1_; have BK284 := n2_; have GW284 := n3_; have GE284 := n4_; have NB275_284 := n5_; have NB284_275 := n6_; clear n0_ n1_ n2_ n3_ n4_ n5_ n6_; clear hb hbox hg; have hnb20 := NB284_275.out; have hnc20 := NB275_284.out; have hcz21_0 : w19.cell? ⟨gb284, 0, none⟩ = some (.int .u64 0) := (blk_cell BK284.out 0).trans rfl; have hcz21_1 : w19.cell? ⟨gb284, 1, none⟩ = some (.bool false) := (blk_cell BK284.out 1).trans rfl; have hcz21_2 : w19.cell? ⟨gb284, 2, none⟩ = some (.int .u64 0) := (blk_cell BK284.out 2).trans rfl; have hfz21_0 := blk_frozen BK284.out 0; have hfz21_1 := blk_frozen BK284.out 1; have hfz21_2 := blk_frozen BK284.out 2)))
    (try simp only [Act.put, List.setIfInBounds_toArray, List.set_cons_zero, List.set_cons_succ])
    go_cut [10] (fun v10 wc => ∃ (kq : Nat) (x10_15 : Bool), v10 = .bool x10_15 ∧ Aside0 (flywheelref02_Did.j1 kq a2 a3 x10_15 t281 t282 t283 = some (r1, r2)) ∧ Aside0 (kq ≤ kj4) ∧ Aside0 (wc.heap[gb275]? = some (.cells #[.int .i64 0, .bool false] 80 (0, 0))) ∧ Aside0 (wc.heap[gb284]? = some (.cells #[.int .u64 t281, .bool t282, .int .u64 t283] 89 (0, 0))) ∧ Aside0 (Below w.heap.size w wc))
    case first =>
     have H := HC16.out
     clear HC16
     by_cases c22 : a0 < 0
     ·rw [if_pos c22] at H
      have c22b0 : decide (a0 < 0) = true := decide_eq_true c22
      clear c22
      (first | rw [c22b0] | (simp only [i64_w, i32_w]; rw [c22b0]) | skip)
      by_cases c23 : a1 < 0
      ·rw [if_pos c23] at H
       have c23b0 : decide (a1 < 0) = true := decide_eq_true c23
       clear c23
       by_cases c24 : a2 < 0
       ·rw [if_pos c24] at H
        have c24b0 : decide (a2 < 0) = true := decide_eq_true c24
        clear c24
        have H' := Aside0.mk H
        clear H
        go_wp2
        repeat (go_quiet (fail); try go_wp2)
        go_meet
        case rel => exact ⟨_, (true), (by first | rfl | (simp; done) | (simp [*]; done)), H', ⟨by have := HJ4.out; first | omega | exact Nat.le_refl _⟩, ⟨by (with_reducible repeat (first | refine blk_drewN ?_ _ | refine blk_drew ?_ | refine blk_alloc ?_ _)); refine blk_far ?_ NB275_284.out _; (with_reducible repeat (first | refine blk_drewN ?_ _ | refine blk_drew ?_ | refine blk_alloc ?_ _)); refine blk_far ?_ NB275_284.out _; (with_reducible repeat (first | refine blk_drewN ?_ _ | refine blk_drew ?_ | refine blk_alloc ?_ _)); refine blk_far ?_ NB275_284.out _; (with_reducible repeat (first | refine blk_drewN ?_ _ | refine blk_drew ?_ | refine blk_alloc ?_ _)); exact BK275.out⟩, ⟨by (with_reducible repeat (first | refine blk_drewN ?_ _ | refine blk_drew ?_ | refine blk_alloc ?_ _)); refine blk_put (cs := #[.int .u64 t281, .bool t282, .int .u64 0]) ?_ 2 _ rfl; (with_reducible repeat (first | refine blk_drewN ?_ _ | refine blk_drew ?_ | refine blk_alloc ?_ _)); refine blk_put (cs := #[.int .u64 t281, .bool false, .int .u64 0]) ?_ 1 _ rfl; (with_reducible repeat (first | refine blk_drewN ?_ _ | refine blk_drew ?_ | refine blk_alloc ?_ _)); refine blk_put (cs := #[.int .u64 0, .bool false, .int .u64 0]) ?_ 0 _ rfl; (with_reducible repeat (first | refine blk_drewN ?_ _ | refine blk_drew ?_ | refine blk_alloc ?_ _)); exact BK284.out⟩, ⟨by repeat (first | (with_reducible first | exact HB.out | apply below_alloc | apply pw_below_drewN | apply below_drew1 | refine below_set ?_ GE275.out | refine below_set ?_ GE284.out) | exact HB.out)⟩⟩
       ·rw [if_neg c24] at H
        have c24b0 : decide (a2 < 0) = false := decide_eq_false c24
        clear c24
        have H' := Aside0.mk H
        clear H
        go_wp2
        repeat (go_quiet (fail); try go_wp2)
        go_meet
        case rel => exact ⟨_, (false), (by first | rfl | (simp; done) | (simp [*]; done)), H', ⟨by have := HJ4.out; first | omega | exact Nat.le_refl _⟩, ⟨by (with_reducible repeat (first | refine blk_drewN ?_ _ | refine blk_drew ?_ | refine blk_alloc ?_ _)); refine blk_far ?_ NB275_284.out _; (with_reducible repeat (first | refine blk_drewN ?_ _ | refine blk_drew ?_ | refine blk_alloc ?_ _)); refine blk_far ?_ NB275_284.out _; (with_reducible repeat (first | refine blk_drewN ?_ _ | refine blk_drew ?_ | refine blk_alloc ?_ _)); refine blk_far ?_ NB275_284.out _; (with_reducible repeat (first | refine blk_drewN ?_ _ | refine blk_drew ?_ | refine blk_alloc ?_ _)); exact BK275.out⟩, ⟨by (with_reducible repeat (first | refine blk_drewN ?_ _ | refine blk_drew ?_ | refine blk_alloc ?_ _)); refine blk_put (cs := #[.int .u64 t281, .bool t282, .int .u64 0]) ?_ 2 _ rfl; (with_reducible repeat (first | refine blk_drewN ?_ _ | refine blk_drew ?_ | refine blk_alloc ?_ _)); refine blk_put (cs := #[.int .u64 t281, .bool false, .int .u64 0]) ?_ 1 _ rfl; (with_reducible repeat (first | refine blk_drewN ?_ _ | refine blk_drew ?_ | refine blk_alloc ?_ _)); refine blk_put (cs := #[.int .u64 0, .bool false, .int .u64 0]) ?_ 0 _ rfl; (with_reducible repeat (first | refine blk_drewN ?_ _ | refine blk_drew ?_ | refine blk_alloc ?_ _)); exact BK284.out⟩, ⟨by repeat (first | (with_reducible first | exact HB.out | apply below_alloc | apply pw_below_drewN | apply below_drew1 | refine below_set ?_ GE275.out | refine below_set ?_ GE284.out) | exact HB.out)⟩⟩
      ·rw [if_neg c23] at H
       have c23b0 : decide (a1 < 0) = false := decide_eq_false c23
       clear c23
       by_cases c25 : a2 < 0
       ·rw [if_pos c25] at H
        have c25b0 : decide (a2 < 0) = true := decide_eq_true c25
        clear c25
        have H' := Aside0.mk H
        clear H
        go_wp2
        repeat (go_quiet (fail); try go_wp2)
        go_meet
        case rel => exact ⟨_, (false), (by first | rfl | (simp; done) | (simp [*]; done)), H', ⟨by have := HJ4.out; first | omega | exact Nat.le_refl _⟩, ⟨by (with_reducible repeat (first | refine blk_drewN ?_ _ | refine blk_drew ?_ | refine blk_alloc ?_ _)); refine blk_far ?_ NB275_284.out _; (with_reducible repeat (first | refine blk_drewN ?_ _ | refine blk_drew ?_ | refine blk_alloc ?_ _)); refine blk_far ?_ NB275_284.out _; (with_reducible repeat (first | refine blk_drewN ?_ _ | refine blk_drew ?_ | refine blk_alloc ?_ _)); refine blk_far ?_ NB275_284.out _; (with_reducible repeat (first | refine blk_drewN ?_ _ | refine blk_drew ?_ | refine blk_alloc ?_ _)); exact BK275.out⟩, ⟨by (with_reducible repeat (first | refine blk_drewN ?_ _ | refine blk_drew ?_ | refine blk_alloc ?_ _)); refine blk_put (cs := #[.int .u64 t281, .bool t282, .int .u64 0]) ?_ 2 _ rfl; (with_reducible repeat (first | refine blk_drewN ?_ _ | refine blk_drew ?_ | refine blk_alloc ?_ _)); refine blk_put (cs := #[.int .u64 t281, .bool false, .int .u64 0]) ?_ 1 _ rfl; (with_reducible repeat (first | refine blk_drewN ?_ _ | refine blk_drew ?_ | refine blk_alloc ?_ _)); refine blk_put (cs := #[.int .u64 0, .bool false, .int .u64 0]) ?_ 0 _ rfl; (with_reducible repeat (first | refine blk_drewN ?_ _ | refine blk_drew ?_ | refine blk_alloc ?_ _)); exact BK284.out⟩, ⟨by repeat (first | (with_reducible first | exact HB.out | apply below_alloc | apply pw_below_drewN | apply below_drew1 | refine below_set ?_ GE275.out | refine below_set ?_ GE284.out) | exact HB.out)⟩⟩
       ·rw [if_neg c25] at H
        have c25b0 : decide (a2 < 0) = false := decide_eq_false c25
        clear c25
        have H' := Aside0.mk H
        clear H
        go_wp2
        repeat (go_quiet (fail); try go_wp2)
        go_meet
        case rel => exact ⟨_, (true), (by first | rfl | (simp; done) | (simp [*]; done)), H', ⟨by have := HJ4.out; first | omega | exact Nat.le_refl _⟩, ⟨by (with_reducible repeat (first | refine blk_drewN ?_ _ | refine blk_drew ?_ | refine blk_alloc ?_ _)); refine blk_far ?_ NB275_284.out _; (with_reducible repeat (first | refine blk_drewN ?_ _ | refine blk_drew ?_ | refine blk_alloc ?_ _)); refine blk_far ?_ NB275_284.out _; (with_reducible repeat (first | refine blk_drewN ?_ _ | refine blk_drew ?_ | refine blk_alloc ?_ _)); refine blk_far ?_ NB275_284.out _; (with_reducible repeat (first | refine blk_drewN ?_ _ | refine blk_drew ?_ | refine blk_alloc ?_ _)); exact BK275.out⟩, ⟨by (with_reducible repeat (first | refine blk_drewN ?_ _ | refine blk_drew ?_ | refine blk_alloc ?_ _)); refine blk_put (cs := #[.int .u64 t281, .bool t282, .int .u64 0]) ?_ 2 _ rfl; (with_reducible repeat (first | refine blk_drewN ?_ _ | refine blk_drew ?_ | refine blk_alloc ?_ _)); refine blk_put (cs := #[.int .u64 t281, .bool false, .int .u64 0]) ?_ 1 _ rfl; (with_reducible repeat (first | refine blk_drewN ?_ _ | refine blk_drew ?_ | refine blk_alloc ?_ _)); refine blk_put (cs := #[.int .u64 0, .bool false, .int .u64 0]) ?_ 0 _ rfl; (with_reducible repeat (first | refine blk_drewN ?_ _ | refine blk_drew ?_ | refine blk_alloc ?_ _)); exact BK284.out⟩, ⟨by repeat (first | (with_reducible first | exact HB.out | apply below_alloc | apply pw_below_drewN | apply below_drew1 | refine below_set ?_ GE275.out | refine below_set ?_ GE284.out) | exact HB.out)⟩⟩
     ·rw [if_neg c22] at H
      have c22b0 : decide (a0 < 0) = false := decide_eq_false c22
      clear c22
      (first | rw [c22b0] | (simp only [i64_w, i32_w]; rw [c22b0]) | skip)
      by_cases c26 : a1 < 0
      ·rw [if_pos c26] at H
       have c26b0 : decide (a1 < 0) = true := decide_eq_true c26
       clear c26
       by_cases c27 : a2 < 0
       ·rw [if_pos c27] at H
        have c27b0 : decide (a2 < 0) = true := decide_eq_true c27
        clear c27
        have H' := Aside0.mk H
        clear H
        go_wp2
        repeat (go_quiet (fail); try go_wp2)
        go_meet
        case rel => exact ⟨_, (false), (by first | rfl | (simp; done) | (simp [*]; done)), H', ⟨by have := HJ4.out; first | omega | exact Nat.le_refl _⟩, ⟨by (with_reducible repeat (first | refine blk_drewN ?_ _ | refine blk_drew ?_ | refine blk_alloc ?_ _)); refine blk_far ?_ NB275_284.out _; (with_reducible repeat (first | refine blk_drewN ?_ _ | refine blk_drew ?_ | refine blk_alloc ?_ _)); refine blk_far ?_ NB275_284.out _; (with_reducible repeat (first | refine blk_drewN ?_ _ | refine blk_drew ?_ | refine blk_alloc ?_ _)); refine blk_far ?_ NB275_284.out _; (with_reducible repeat (first | refine blk_drewN ?_ _ | refine blk_drew ?_ | refine blk_alloc ?_ _)); exact BK275.out⟩, ⟨by (with_reducible repeat (first | refine blk_drewN ?_ _ | refine blk_drew ?_ | refine blk_alloc ?_ _)); refine blk_put (cs := #[.int .u64 t281, .bool t282, .int .u64 0]) ?_ 2 _ rfl; (with_reducible repeat (first | refine blk_drewN ?_ _ | refine blk_drew ?_ | refine blk_alloc ?_ _)); refine blk_put (cs := #[.int .u64 t281, .bool false, .int .u64 0]) ?_ 1 _ rfl; (with_reducible repeat (first | refine blk_drewN ?_ _ | refine blk_drew ?_ | refine blk_alloc ?_ _)); refine blk_put (cs := #[.int .u64 0, .bool false, .int .u64 0]) ?_ 0 _ rfl; (with_reducible repeat (first | refine blk_drewN ?_ _ | refine blk_drew ?_ | refine blk_alloc ?_ _)); exact BK284.out⟩, ⟨by repeat (first | (with_reducible first | exact HB.out | apply below_alloc | apply pw_below_drewN | apply below_drew1 | refine below_set ?_ GE275.out | refine below_set ?_ GE284.out) | exact HB.out)⟩⟩
       ·rw [if_neg c27] at H
        have c27b0 : decide (a2 < 0) = false := decide_eq_false c27
        clear c27
        have H' := Aside0.mk H
        clear H
        go_wp2
        repeat (go_quiet (fail); try go_wp2)
        go_meet
        case rel => exact ⟨_, (true), (by first | rfl | (simp; done) | (simp [*]; done)), H', ⟨by have := HJ4.out; first | omega | exact Nat.le_refl _⟩, ⟨by (with_reducible repeat (first | refine blk_drewN ?_ _ | refine blk_drew ?_ | refine blk_alloc ?_ _)); refine blk_far ?_ NB275_284.out _; (with_reducible repeat (first | refine blk_drewN ?_ _ | refine blk_drew ?_ | refine blk_alloc ?_ _)); refine blk_far ?_ NB275_284.out _; (with_reducible repeat (first | refine blk_drewN ?_ _ | refine blk_drew ?_ | refine blk_alloc ?_ _)); refine blk_far ?_ NB275_284.out _; (with_reducible repeat (first | refine blk_drewN ?_ _ | refine blk_drew ?_ | refine blk_alloc ?_ _)); exact BK275.out⟩, ⟨by (with_reducible repeat (first | refine blk_drewN ?_ _ | refine blk_drew ?_ | refine blk_alloc ?_ _)); refine blk_put (cs := #[.int .u64 t281, .bool t282, .int .u64 0]) ?_ 2 _ rfl; (with_reducible repeat (first | refine blk_drewN ?_ _ | refine blk_drew ?_ | refine blk_alloc ?_ _)); refine blk_put (cs := #[.int .u64 t281, .bool false, .int .u64 0]) ?_ 1 _ rfl; (with_reducible repeat (first | refine blk_drewN ?_ _ | refine blk_drew ?_ | refine blk_alloc ?_ _)); refine blk_put (cs := #[.int .u64 0, .bool false, .int .u64 0]) ?_ 0 _ rfl; (with_reducible repeat (first | refine blk_drewN ?_ _ | refine blk_drew ?_ | refine blk_alloc ?_ _)); exact BK284.out⟩, ⟨by repeat (first | (with_reducible first | exact HB.out | apply below_alloc | apply pw_below_drewN | apply below_drew1 | refine below_set ?_ GE275.out | refine below_set ?_ GE284.out) | exact HB.out)⟩⟩
      ·rw [if_neg c26] at H
       have c26b0 : decide (a1 < 0) = false := decide_eq_false c26
       clear c26
       by_cases c28 : a2 < 0
       ·rw [if_pos c28] at H
        have c28b0 : decide (a2 < 0) = true := decide_eq_true c28
        clear c28
        have H' := Aside0.mk H
        clear H
        go_wp2
        repeat (go_quiet (fail); try go_wp2)
        go_meet
        case rel => exact ⟨_, (true), (by first | rfl | (simp; done) | (simp [*]; done)), H', ⟨by have := HJ4.out; first | omega | exact Nat.le_refl _⟩, ⟨by (with_reducible repeat (first | refine blk_drewN ?_ _ | refine blk_drew ?_ | refine blk_alloc ?_ _)); refine blk_far ?_ NB275_284.out _; (with_reducible repeat (first | refine blk_drewN ?_ _ | refine blk_drew ?_ | refine blk_alloc ?_ _)); refine blk_far ?_ NB275_284.out _; (with_reducible repeat (first | refine blk_drewN ?_ _ | refine blk_drew ?_ | refine blk_alloc ?_ _)); refine blk_far ?_ NB275_284.out _; (with_reducible repeat (first | refine blk_drewN ?_ _ | refine blk_drew ?_ | refine blk_alloc ?_ _)); exact BK275.out⟩, ⟨by (with_reducible repeat (first | refine blk_drewN ?_ _ | refine blk_drew ?_ | refine blk_alloc ?_ _)); refine blk_put (cs := #[.int .u64 t281, .bool t282, .int .u64 0]) ?_ 2 _ rfl; (with_reducible repeat (first | refine blk_drewN ?_ _ | refine blk_drew ?_ | refine blk_alloc ?_ _)); refine blk_put (cs := #[.int .u64 t281, .bool false, .int .u64 0]) ?_ 1 _ rfl; (with_reducible repeat (first | refine blk_drewN ?_ _ | refine blk_drew ?_ | refine blk_alloc ?_ _)); refine blk_put (cs := #[.int .u64 0, .bool false, .int .u64 0]) ?_ 0 _ rfl; (with_reducible repeat (first | refine blk_drewN ?_ _ | refine blk_drew ?_ | refine blk_alloc ?_ _)); exact BK284.out⟩, ⟨by repeat (first | (with_reducible first | exact HB.out | apply below_alloc | apply pw_below_drewN | apply below_drew1 | refine below_set ?_ GE275.out | refine below_set ?_ GE284.out) | exact HB.out)⟩⟩
       ·rw [if_neg c28] at H
        have c28b0 : decide (a2 < 0) = false := decide_eq_false c28
        clear c28
        have H' := Aside0.mk H
        clear H
        go_wp2
        repeat (go_quiet (fail); try go_wp2)
        go_meet
        case rel => exact ⟨_, (false), (by first | rfl | (simp; done) | (simp [*]; done)), H', ⟨by have := HJ4.out; first | omega | exact Nat.le_refl _⟩, ⟨by (with_reducible repeat (first | refine blk_drewN ?_ _ | refine blk_drew ?_ | refine blk_alloc ?_ _)); refine blk_far ?_ NB275_284.out _; (with_reducible repeat (first | refine blk_drewN ?_ _ | refine blk_drew ?_ | refine blk_alloc ?_ _)); refine blk_far ?_ NB275_284.out _; (with_reducible repeat (first | refine blk_drewN ?_ _ | refine blk_drew ?_ | refine blk_alloc ?_ _)); refine blk_far ?_ NB275_284.out _; (with_reducible repeat (first | refine blk_drewN ?_ _ | refine blk_drew ?_ | refine blk_alloc ?_ _)); exact BK275.out⟩, ⟨by (with_reducible repeat (first | refine blk_drewN ?_ _ | refine blk_drew ?_ | refine blk_alloc ?_ _)); refine blk_put (cs := #[.int .u64 t281, .bool t282, .int .u64 0]) ?_ 2 _ rfl; (with_reducible repeat (first | refine blk_drewN ?_ _ | refine blk_drew ?_ | refine blk_alloc ?_ _)); refine blk_put (cs := #[.int .u64 t281, .bool false, .int .u64 0]) ?_ 1 _ rfl; (with_reducible repeat (first | refine blk_drewN ?_ _ | refine blk_drew ?_ | refine blk_alloc ?_ _)); refine blk_put (cs := #[.int .u64 0, .bool false, .int .u64 0]) ?_ 0 _ rfl; (with_reducible repeat (first | refine blk_drewN ?_ _ | refine blk_drew ?_ | refine blk_alloc ?_ _)); exact BK284.out⟩, ⟨by repeat (first | (with_reducible first | exact HB.out | apply below_alloc | apply pw_below_drewN | apply below_drew1 | refine below_set ?_ GE275.out | refine below_set ?_ GE284.out) | exact HB.out)⟩⟩
    case rest =>
     clear HC16
     try clear c2
     try clear p2
     try clear c5
     try clear c7
     try clear c7b0
     try clear c7b1
     try clear c8
     try clear c8b0
     try clear c9
     try clear c20
     try clear c22
     try clear c22b0
     try clear c23
     try clear c23b0
     try clear c24
     try clear c24b0
     try clear c25
     try clear c25b0
     try clear c26
     try clear c26b0
     try clear c27
     try clear c27b0
     try clear c28
     try clear c28b0
     try clear hcz10_0
     try clear hcz10_1
     try clear hcz21_0
     try clear hcz21_1
     try clear hcz21_2
     try clear hfz10_0
     try clear hfz10_1
     try clear hfz21_0
     try clear hfz21_1
     try clear hfz21_2
     try clear p2
     obtain ⟨kq, x10_15, rfl, HA, HJ15, BK275, BK284, HB⟩ := hcut
     cases kq with
     | zero => exact absurd HA.out (by simp [flywheelref02_Did.j1])
     | succ kj15 =>
      have H := HA.out
      clear HA
      simp only [flywheelref02_Did.j1] at H
      have HC29 := Aside0.mk H
      clear H
      go_upto_block 0 with (fail)
      repeat (go_quiet (fail); go_upto_block 0 with (fail))
      go_cut [11] (fun v11 wc => ∃ (kq : Nat) (x11_28 : Bool), v11 = .bool x11_28 ∧ Aside0 (flywheelref02_Did.j2 kq x10_15 x11_28 t281 t282 t283 = some (r1, r2)) ∧ Aside0 (kq ≤ kj15) ∧ Aside0 (wc.heap[gb275]? = some (.cells #[.int .i64 0, .bool false] 80 (0, 0))) ∧ Aside0 (wc.heap[gb284]? = some (.cells #[.int .u64 t281, .bool t282, .int .u64 t283] 89 (0, 0))) ∧ Aside0 (Below w.heap.size w wc))
      case first =>
       have H := HC29.out
       clear HC29
       by_cases c30 : t283 = 0
       ·rw [if_pos c30] at H
        have c30b0 : (t283 == 0) = true := beq_iff_eq.mpr c30
        have c30b1 : (t283 != 0) = false := bne_eq_false_iff_eq.mpr c30
        clear c30
        (first | rw [c30b0] | (simp only [i64_w, i32_w]; rw [c30b0]) | skip)
        have H' := Aside0.mk H
        clear H
        have hnb31 := NB284_275.out
        have hnc31 := NB275_284.out
        have hcz32_0 : wc.cell? ⟨gb284, 0, none⟩ = some (.int .u64 t281) := (blk_cell BK284.out 0).trans rfl
        have hcz32_1 : wc.cell? ⟨gb284, 1, none⟩ = some (.bool t282) := (blk_cell BK284.out 1).trans rfl
        have hcz32_2 : wc.cell? ⟨gb284, 2, none⟩ = some (.int .u64 t283) := (blk_cell BK284.out 2).trans rfl
        have hfz32_0 := blk_frozen BK284.out 0
        have hfz32_1 := blk_frozen BK284.out 1
        have hfz32_2 := blk_frozen BK284.out 2
        go_wp2
        repeat (go_quiet (fail); try go_wp2)
        go_meet
        case rel => exact ⟨_, (false), (by first | rfl | (simp; done) | (simp [*]; done)), H', ⟨by have := HJ4.out; have := HJ15.out; first | omega | exact Nat.le_refl _⟩, ⟨by (with_reducible repeat (first | refine blk_drewN ?_ _ | refine blk_drew ?_ | refine blk_alloc ?_ _)); exact BK275.out⟩, ⟨by (with_reducible repeat (first | refine blk_drewN ?_ _ | refine blk_drew ?_ | refine blk_alloc ?_ _)); exact BK284.out⟩, ⟨by repeat (first | (with_reducible first | exact HB.out | apply below_alloc | apply pw_below_drewN | apply below_drew1 | refine below_set ?_ GE275.out | refine below_set ?_ GE284.out) | exact HB.out)⟩⟩
       ·rw [if_neg c30] at H
        have c30b0 : (t283 == 0) = false := beq_eq_false_iff_ne.mpr c30
        have c30b1 : (t283 != 0) = true := bne_iff_ne.mpr c30
        (first | rw [c30b0] | (simp only [i64_w, i32_w]; rw [c30b0]) | skip)
        by_cases c33 : a3 = 1
        ·rw [if_pos c33] at H
         have c33b0 : (a3 == 1) = true := beq_iff_eq.mpr c33
         have c33b1 : (a3 != 1) = false := bne_eq_false_iff_eq.mpr c33
         clear c33
         have H' := Aside0.mk H
         clear H
         have hnb34 := NB284_275.out
         have hnc34 := NB275_284.out
         have hcz35_0 : wc.cell? ⟨gb284, 0, none⟩ = some (.int .u64 t281) := (blk_cell BK284.out 0).trans rfl
         have hcz35_1 : wc.cell? ⟨gb284, 1, none⟩ = some (.bool t282) := (blk_cell BK284.out 1).trans rfl
         have hcz35_2 : wc.cell? ⟨gb284, 2, none⟩ = some (.int .u64 t283) := (blk_cell BK284.out 2).trans rfl
         have hfz35_0 := blk_frozen BK284.out 0
         have hfz35_1 := blk_frozen BK284.out 1
         have hfz35_2 := blk_frozen BK284.out 2
         go_wp2
         repeat (go_quiet (fail); try go_wp2)
         go_meet
         case rel => exact ⟨_, (x10_15), (by first | rfl | (simp; done) | (simp [*]; done)), H', ⟨by have := HJ4.out; have := HJ15.out; first | omega | exact Nat.le_refl _⟩, ⟨by (with_reducible repeat (first | refine blk_drewN ?_ _ | refine blk_drew ?_ | refine blk_alloc ?_ _)); exact BK275.out⟩, ⟨by (with_reducible repeat (first | refine blk_drewN ?_ _ | refine blk_drew ?_ | refine blk_alloc ?_ _)); exact BK284.out⟩, ⟨by repeat (first | (with_reducible first | exact HB.out | apply below_alloc | apply pw_below_drewN | apply below_drew1 | refine below_set ?_ GE275.out | refine below_set ?_ GE284.out) | exact HB.out)⟩⟩
        ·rw [if_neg c33] at H
         have c33b0 : (a3 == 1) = false := beq_eq_false_iff_ne.mpr c33
         have c33b1 : (a3 != 1) = true := bne_iff_ne.mpr c33
         by_cases c36 : a3 = 3
         ·rw [if_pos c36] at H
          have c36b0 : (a3 == 3) = true := beq_iff_eq.mpr c36
          have c36b1 : (a3 != 3) = false := bne_eq_false_iff_eq.mpr c36
          clear c36
          have H' := Aside0.mk H
          clear H
          have hnb37 := NB284_275.out
          have hnc37 := NB275_284.out
          have hcz38_0 : wc.cell? ⟨gb284, 0, none⟩ = some (.int .u64 t281) := (blk_cell BK284.out 0).trans rfl
          have hcz38_1 : wc.cell? ⟨gb284, 1, none⟩ = some (.bool t282) := (blk_cell BK284.out 1).trans rfl
          have hcz38_2 : wc.cell? ⟨gb284, 2, none⟩ = some (.int .u64 t283) := (blk_cell BK284.out 2).trans rfl
          have hfz38_0 := blk_frozen BK284.out 0
          have hfz38_1 := blk_frozen BK284.out 1
          have hfz38_2 := blk_frozen BK284.out 2
          go_wp2
          repeat (go_quiet (fail); try go_wp2)
          go_meet
          case rel => exact ⟨_, (!x10_15), (by first | rfl | (simp; done) | (simp [*]; done)), H', ⟨by have := HJ4.out; have := HJ15.out; first | omega | exact Nat.le_refl _⟩, ⟨by (with_reducible repeat (first | refine blk_drewN ?_ _ | refine blk_drew ?_ | refine blk_alloc ?_ _)); exact BK275.out⟩, ⟨by (with_reducible repeat (first | refine blk_drewN ?_ _ | refine blk_drew ?_ | refine blk_alloc ?_ _)); exact BK284.out⟩, ⟨by repeat (first | (with_reducible first | exact HB.out | apply below_alloc | apply pw_below_drewN | apply below_drew1 | refine below_set ?_ GE275.out | refine below_set ?_ GE284.out) | exact HB.out)⟩⟩
         ·rw [if_neg c36] at H
          have c36b0 : (a3 == 3) = false := beq_eq_false_iff_ne.mpr c36
          have c36b1 : (a3 != 3) = true := bne_iff_ne.mpr c36
          by_cases c39 : x10_15 = true
          ·subst c39
           have H1 : ((flywheelref02_size.f a2).bind fun t285 => (flywheelref02_Did.j2 kj15 true (decide (t283 > (IntKind.u64.wrap (t285 - t283)))) t281 t282 t283)) = some (r1, r2) := by rw [if_pos rfl] at H; exact H
           clear H
           have H := H1
           clear H1
           replace H := Option.bind_eq_some_iff.mp H
           obtain ⟨t285, A400, H⟩ := H
           replace H : (flywheelref02_Did.j2 kj15 true (decide (t283 > (IntKind.u64.wrap (t285 - t283)))) t281 t282 t283) = some (r1, r2) := H
           have A40 := Aside0.mk A400
           clear A400
           have H' := Aside0.mk H
           clear H
           have hnb41 := NB284_275.out
           have hnc41 := NB275_284.out
           have hcz42_0 : wc.cell? ⟨gb284, 0, none⟩ = some (.int .u64 t281) := (blk_cell BK284.out 0).trans rfl
           have hcz42_1 : wc.cell? ⟨gb284, 1, none⟩ = some (.bool t282) := (blk_cell BK284.out 1).trans rfl
           have hcz42_2 : wc.cell? ⟨gb284, 2, none⟩ = some (.int .u64 t283) := (blk_cell BK284.out 2).trans rfl
           have hfz42_0 := blk_frozen BK284.out 0
           have hfz42_1 := blk_frozen BK284.out 1
           have hfz42_2 := blk_frozen BK284.out 2
           go_wp2_with (first | (go_at_call 62; (with_reducible refine (flywheelref02_size.calls a2 t285 _ A40.out).mono ?_); rintro e w' ⟨rfl, ⟨nd, rfl⟩⟩; (try first | exact ⟨rfl, _, World.drewN_drewN _ _ _⟩ | exact ⟨rfl, _, Eq.trans (World.drewN_drewN _ _ _) (congrArg (World.drewN _) (Nat.add_assoc _ _ _))⟩)))
           repeat (go_quiet (first | (go_at_call 62; (with_reducible refine (flywheelref02_size.calls a2 t285 _ A40.out).mono ?_); rintro e w' ⟨rfl, ⟨nd, rfl⟩⟩; (try first | exact ⟨rfl, _, World.drewN_drewN _ _ _⟩ | exact ⟨rfl, _, Eq.trans (World.drewN_drewN _ _ _) (congrArg (World.drewN _) (Nat.add_assoc _ _ _))⟩))); try go_wp2_with (first | (go_at_call 62; (with_reducible refine (flywheelref02_size.calls a2 t285 _ A40.out).mono ?_); rintro e w' ⟨rfl, ⟨nd, rfl⟩⟩; (try first | exact ⟨rfl, _, World.drewN_drewN _ _ _⟩ | exact ⟨rfl, _, Eq.trans (World.drewN_drewN _ _ _) (congrArg (World.drewN _) (Nat.add_assoc _ _ _))⟩))))
           go_meet
           case rel => exact ⟨_, (decide (t283 > (IntKind.u64.wrap (t285 - t283)))), (by first | rfl | (simp; done) | (simp [*]; done)), H', ⟨by have := HJ4.out; have := HJ15.out; first | omega | exact Nat.le_refl _⟩, ⟨by (with_reducible repeat (first | refine blk_drewN ?_ _ | refine blk_drew ?_ | refine blk_alloc ?_ _)); exact BK275.out⟩, ⟨by (with_reducible repeat (first | refine blk_drewN ?_ _ | refine blk_drew ?_ | refine blk_alloc ?_ _)); exact BK284.out⟩, ⟨by repeat (first | (with_reducible first | exact HB.out | apply below_alloc | apply pw_below_drewN | apply below_drew1 | refine below_set ?_ GE275.out | refine below_set ?_ GE284.out) | exact HB.out)⟩⟩
          ·replace c39 := Bool.eq_false_iff.mpr c39
           subst c39
           have H1 : ((flywheelref02_size.f a2).bind fun t286 => (flywheelref02_Did.j2 kj15 false (decide (t283 ≥ (IntKind.u64.wrap (t286 - t283)))) t281 t282 t283)) = some (r1, r2) := by rw [if_neg (show ¬ (false = true) by decide)] at H; exact H
           clear H
           have H := H1
           clear H1
           replace H := Option.bind_eq_some_iff.mp H
           obtain ⟨t286, A430, H⟩ := H
           replace H : (flywheelref02_Did.j2 kj15 false (decide (t283 ≥ (IntKind.u64.wrap (t286 - t283)))) t281 t282 t283) = some (r1, r2) := H
           have A43 := Aside0.mk A430
           clear A430
           have H' := Aside0.mk H
           clear H
           have hnb44 := NB284_275.out
           have hnc44 := NB275_284.out
           have hcz45_0 : wc.cell? ⟨gb284, 0, none⟩ = some (.int .u64 t281) := (blk_cell BK284.out 0).trans rfl
           have hcz45_1 : wc.cell? ⟨gb284, 1, none⟩ = some (.bool t282) := (blk_cell BK284.out 1).trans rfl
           have hcz45_2 : wc.cell? ⟨gb284, 2, none⟩ = some (.int .u64 t283) := (blk_cell BK284.out 2).trans rfl
           have hfz45_0 := blk_frozen BK284.out 0
           have hfz45_1 := blk_frozen BK284.out 1
           have hfz45_2 := blk_frozen BK284.out 2
           go_wp2_with (first | (go_at_call 62; (with_reducible refine (flywheelref02_size.calls a2 t286 _ A43.out).mono ?_); rintro e w' ⟨rfl, ⟨nd, rfl⟩⟩; (try first | exact ⟨rfl, _, World.drewN_drewN _ _ _⟩ | exact ⟨rfl, _, Eq.trans (World.drewN_drewN _ _ _) (congrArg (World.drewN _) (Nat.add_assoc _ _ _))⟩)))
           repeat (go_quiet (first | (go_at_call 62; (with_reducible refine (flywheelref02_size.calls a2 t286 _ A43.out).mono ?_); rintro e w' ⟨rfl, ⟨nd, rfl⟩⟩; (try first | exact ⟨rfl, _, World.drewN_drewN _ _ _⟩ | exact ⟨rfl, _, Eq.trans (World.drewN_drewN _ _ _) (congrArg (World.drewN _) (Nat.add_assoc _ _ _))⟩))); try go_wp2_with (first | (go_at_call 62; (with_reducible refine (flywheelref02_size.calls a2 t286 _ A43.out).mono ?_); rintro e w' ⟨rfl, ⟨nd, rfl⟩⟩; (try first | exact ⟨rfl, _, World.drewN_drewN _ _ _⟩ | exact ⟨rfl, _, Eq.trans (World.drewN_drewN _ _ _) (congrArg (World.drewN _) (Nat.add_assoc _ _ _))⟩))))
           go_meet
           case rel => exact ⟨_, (decide (t283 ≥ (IntKind.u64.wrap (t286 - t283)))), (by first | rfl | (simp; done) | (simp [*]; done)), H', ⟨by have := HJ4.out; have := HJ15.out; first | omega | exact Nat.le_refl _⟩, ⟨by (with_reducible repeat (first | refine blk_drewN ?_ _ | refine blk_drew ?_ | refine blk_alloc ?_ _)); exact BK275.out⟩, ⟨by (with_reducible repeat (first | refine blk_drewN ?_ _ | refine blk_drew ?_ | refine blk_alloc ?_ _)); exact BK284.out⟩, ⟨by repeat (first | (with_reducible first | exact HB.out | apply below_alloc | apply pw_below_drewN | apply below_drew1 | refine below_set ?_ GE275.out | refine below_set ?_ GE284.out) | exact HB.out)⟩⟩
      case rest =>
       clear HC29
       try clear c2
       try clear p2
       try clear c3
       try clear c4
       try clear c5
       try clear c7
       try clear c7b0
       try clear c7b1
       try clear c8
       try clear c8b0
       try clear c9
       try clear c20
       try clear c22
       try clear c22b0
       try clear c23
       try clear c23b0
       try clear c24
       try clear c24b0
       try clear c25
       try clear c25b0
       try clear c26
       try clear c26b0
       try clear c27
       try clear c27b0
       try clear c28
       try clear c28b0
       try clear c30
       try clear c30b0
       try clear c30b1
       try clear c31
       try clear c33
       try clear c33b0
       try clear c33b1
       try clear c34
       try clear c36
       try clear c36b0
       try clear c36b1
       try clear c37
       try clear c39
       try clear c41
       try clear c44
       try clear hcz10_0
       try clear hcz10_1
       try clear hcz21_0
       try clear hcz21_1
       try clear hcz21_2
       try clear hcz32_0
       try clear hcz32_1
       try clear hcz32_2
       try clear hcz35_0
       try clear hcz35_1
       try clear hcz35_2
       try clear hcz38_0
       try clear hcz38_1
       try clear hcz38_2
       try clear hcz42_0
       try clear hcz42_1
       try clear hcz42_2
       try clear hcz45_0
       try clear hcz45_1
       try clear hcz45_2
       try clear hfz10_0
       try clear hfz10_1
       try clear hfz21_0
       try clear hfz21_1
       try clear hfz21_2
       try clear hfz32_0
       try clear hfz32_1
       try clear hfz32_2
       try clear hfz35_0
       try clear hfz35_1
       try clear hfz35_2
       try clear hfz38_0
       try clear hfz38_1
       try clear hfz38_2
       try clear hfz42_0
       try clear hfz42_1
       try clear hfz42_2
       try clear hfz45_0
       try clear hfz45_1
       try clear hfz45_2
       try clear p2
       obtain ⟨kq, x11_28, rfl, HA, HJ28, BK275, BK284, HB⟩ := hcut
       cases kq with
       | zero => exact absurd HA.out (by simp [flywheelref02_Did.j2])
       | succ kj28 =>
        have H := HA.out
        clear HA
        simp only [flywheelref02_Did.j2] at H
        have HC46 := Aside0.mk H
        clear H
        have hnb47 := NB284_275.out
        have hnc47 := NB275_284.out
        have hcz48_0 : wc.cell? ⟨gb284, 0, none⟩ = some (.int .u64 t281) := (blk_cell BK284.out 0).trans rfl
        have hcz48_1 : wc.cell? ⟨gb284, 1, none⟩ = some (.bool t282) := (blk_cell BK284.out 1).trans rfl
        have hcz48_2 : wc.cell? ⟨gb284, 2, none⟩ = some (.int .u64 t283) := (blk_cell BK284.out 2).trans rfl
        have hfz48_0 := blk_frozen BK284.out 0
        have hfz48_1 := blk_frozen BK284.out 1
        have hfz48_2 := blk_frozen BK284.out 2
        go_upto_if 76 with (fail)
        repeat (go_quiet (fail); go_upto_if 76 with (fail))
        go_cut [12, 13] (fun v12 v13 wc => ∃ (kq : Nat) (x12_45 : Int) (x13_45 : Bool), v12 = .int .u64 x12_45 ∧ v13 = .bool x13_45 ∧ Aside0 (flywheelref02_Did.j3 kq x10_15 x12_45 x13_45 = some (r1, r2)) ∧ Aside0 (kq ≤ kj28) ∧ Aside0 (wc.heap[gb275]? = some (.cells #[.int .i64 0, .bool false] 80 (0, 0))) ∧ Aside0 (wc.heap[gb284]? = some (.cells #[.int .u64 t281, .bool t282, .int .u64 t283] 89 (0, 0))) ∧ Aside0 (Below w.heap.size w wc))
        case first =>
         have H := HC46.out
         clear HC46
         by_cases c49 : x11_28 = true
         ·subst c49
          have H1 : (if t282 = true then (flywheelref02_Did.j3 kj28 x10_15 (IntKind.u64.wrap (t281 + 1)) true) else (flywheelref02_Did.j3 kj28 x10_15 (IntKind.u64.wrap (t281 + 1)) ((IntKind.u64.wrap (t281 + 1)) == 0))) = some (r1, r2) := by rw [if_pos rfl] at H; exact H
          clear H
          have H := H1
          clear H1
          by_cases c50 : t282 = true
          ·subst c50
           have H1 : (flywheelref02_Did.j3 kj28 x10_15 (IntKind.u64.wrap (t281 + 1)) true) = some (r1, r2) := by rw [if_pos rfl] at H; exact H
           clear H
           have H := H1
           clear H1
           have H' := Aside0.mk H
           clear H
           go_wp2
           repeat (go_quiet (fail); try go_wp2)
           go_meet
           case rel => exact ⟨_, (IntKind.u64.wrap (t281 + 1)), (true), (by first | rfl | (simp; done) | (simp [*]; done)), (by first | rfl | (simp; done) | (simp [*]; done)), H', ⟨by have := HJ4.out; have := HJ15.out; have := HJ28.out; first | omega | exact Nat.le_refl _⟩, ⟨by (with_reducible repeat (first | refine blk_drewN ?_ _ | refine blk_drew ?_ | refine blk_alloc ?_ _)); exact BK275.out⟩, ⟨by (with_reducible repeat (first | refine blk_drewN ?_ _ | refine blk_drew ?_ | refine blk_alloc ?_ _)); exact BK284.out⟩, ⟨by repeat (first | (with_reducible first | exact HB.out | apply below_alloc | apply pw_below_drewN | apply below_drew1 | refine below_set ?_ GE275.out | refine below_set ?_ GE284.out) | exact HB.out)⟩⟩
          ·replace c50 := Bool.eq_false_iff.mpr c50
           subst c50
           have H1 : (flywheelref02_Did.j3 kj28 x10_15 (IntKind.u64.wrap (t281 + 1)) ((IntKind.u64.wrap (t281 + 1)) == 0)) = some (r1, r2) := by rw [if_neg (show ¬ (false = true) by decide)] at H; exact H
           clear H
           have H := H1
           clear H1
           have H' := Aside0.mk H
           clear H
           go_wp2
           repeat (go_quiet (fail); try go_wp2)
           go_meet
           case rel => exact ⟨_, (IntKind.u64.wrap (t281 + 1)), (((IntKind.u64.wrap (t281 + 1)) == 0)), (by first | rfl | (simp; done) | (simp [*]; done)), (by first | rfl | (simp; done) | (simp [*]; done)), H', ⟨by have := HJ4.out; have := HJ15.out; have := HJ28.out; first | omega | exact Nat.le_refl _⟩, ⟨by (with_reducible repeat (first | refine blk_drewN ?_ _ | refine blk_drew ?_ | refine blk_alloc ?_ _)); exact BK275.out⟩, ⟨by (with_reducible repeat (first | refine blk_drewN ?_ _ | refine blk_drew ?_ | refine blk_alloc ?_ _)); exact BK284.out⟩, ⟨by repeat (first | (with_reducible first | exact HB.out | apply below_alloc | apply pw_below_drewN | apply below_drew1 | refine below_set ?_ GE275.out | refine below_set ?_ GE284.out) | exact HB.out)⟩⟩
         ·replace c49 := Bool.eq_false_iff.mpr c49
          subst c49
          have H1 : (flywheelref02_Did.j3 kj28 x10_15 t281 t282) = some (r1, r2) := by rw [if_neg (show ¬ (false = true) by decide)] at H; exact H
          clear H
          have H := H1
          clear H1
          have H' := Aside0.mk H
          clear H
          go_wp2
          repeat (go_quiet (fail); try go_wp2)
          go_meet
          case rel => exact ⟨_, (t281), (t282), (by first | rfl | (simp; done) | (simp [*]; done)), (by first | rfl | (simp; done) | (simp [*]; done)), H', ⟨by have := HJ4.out; have := HJ15.out; have := HJ28.out; first | omega | exact Nat.le_refl _⟩, ⟨by (with_reducible repeat (first | refine blk_drewN ?_ _ | refine blk_drew ?_ | refine blk_alloc ?_ _)); exact BK275.out⟩, ⟨by (with_reducible repeat (first | refine blk_drewN ?_ _ | refine blk_drew ?_ | refine blk_alloc ?_ _)); exact BK284.out⟩, ⟨by repeat (first | (with_reducible first | exact HB.out | apply below_alloc | apply pw_below_drewN | apply below_drew1 | refine below_set ?_ GE275.out | refine below_set ?_ GE284.out) | exact HB.out)⟩⟩
        case rest =>
         clear HC46
         try clear c2
         try clear p2
         try clear c3
         try clear c4
         try clear c5
         try clear c7
         try clear c7b0
         try clear c7b1
         try clear c8
         try clear c8b0
         try clear c9
         try clear c20
         try clear c22
         try clear c22b0
         try clear c23
         try clear c23b0
         try clear c24
         try clear c24b0
         try clear c25
         try clear c25b0
         try clear c26
         try clear c26b0
         try clear c27
         try clear c27b0
         try clear c28
         try clear c28b0
         try clear c30
         try clear c30b0
         try clear c30b1
         try clear c31
         try clear c33
         try clear c33b0
         try clear c33b1
         try clear c34
         try clear c36
         try clear c36b0
         try clear c36b1
         try clear c37
         try clear c39
         try clear c41
         try clear c44
         try clear c47
         try clear c49
         try clear c50
         try clear hcz10_0
         try clear hcz10_1
         try clear hcz21_0
         try clear hcz21_1
         try clear hcz21_2
         try clear hcz32_0
         try clear hcz32_1
         try clear hcz32_2
         try clear hcz35_0
         try clear hcz35_1
         try clear hcz35_2
         try clear hcz38_0
         try clear hcz38_1
         try clear hcz38_2
         try clear hcz42_0
         try clear hcz42_1
         try clear hcz42_2
         try clear hcz45_0
         try clear hcz45_1
         try clear hcz45_2
         try clear hcz48_0
         try clear hcz48_1
         try clear hcz48_2
         try clear hfz10_0
         try clear hfz10_1
         try clear hfz21_0
         try clear hfz21_1
         try clear hfz21_2
         try clear hfz32_0
         try clear hfz32_1
         try clear hfz32_2
         try clear hfz35_0
         try clear hfz35_1
         try clear hfz35_2
         try clear hfz38_0
         try clear hfz38_1
         try clear hfz38_2
         try clear hfz42_0
         try clear hfz42_1
         try clear hfz42_2
         try clear hfz45_0
         try clear hfz45_1
         try clear hfz45_2
         try clear hfz48_0
         try clear hfz48_1
         try clear hfz48_2
         try clear p2
         obtain ⟨kq, x12_45, x13_45, rfl, rfl, HA, HJ45, BK275, BK284, HB⟩ := hcut
         cases kq with
         | zero => exact absurd HA.out (by simp [flywheelref02_Did.j3])
         | succ kj45 =>
          have H := HA.out
          clear HA
          simp only [flywheelref02_Did.j3] at H
          by_cases c51 : x10_15 = true
          ·subst c51
           have H1 : (if x13_45 = true then (flywheelref02_Did.j4 kj45 x12_45 true) else (flywheelref02_Did.j4 kj45 x12_45 (decide (x12_45 > 9223372036854775808)))) = some (r1, r2) := by rw [if_pos rfl] at H; exact H
           clear H
           have H := H1
           clear H1
           have HC52 := Aside0.mk H
           clear H
           go_upto_region 19 with (fail)
           repeat (go_quiet (fail); go_upto_region 19 with (fail))
           go_cut [89] (fun v89 wc => ∃ (kq : Nat) (x89_51 : Bool), v89 = .bool x89_51 ∧ Aside0 (flywheelref02_Did.j4 kq x12_45 x89_51 = some (r1, r2)) ∧ Aside0 (kq ≤ kj45) ∧ Aside0 (wc.heap[gb275]? = some (.cells #[.int .i64 0, .bool false] 80 (0, 0))) ∧ Aside0 (wc.heap[gb284]? = some (.cells #[.int .u64 t281, .bool t282, .int .u64 t283] 89 (0, 0))) ∧ Aside0 (Below w.heap.size w wc))
           case first =>
            have H := HC52.out
            clear HC52
            by_cases c53 : x13_45 = true
            ·subst c53
             have H1 : (flywheelref02_Did.j4 kj45 x12_45 true) = some (r1, r2) := by rw [if_pos rfl] at H; exact H
             clear H
             have H := H1
             clear H1
             have H' := Aside0.mk H
             clear H
             go_wp2
             repeat (go_quiet (fail); try go_wp2)
             go_meet
             case rel => exact ⟨_, (true), (by first | rfl | (simp; done) | (simp [*]; done)), H', ⟨by have := HJ4.out; have := HJ15.out; have := HJ28.out; have := HJ45.out; first | omega | exact Nat.le_refl _⟩, ⟨by (with_reducible repeat (first | refine blk_drewN ?_ _ | refine blk_drew ?_ | refine blk_alloc ?_ _)); exact BK275.out⟩, ⟨by (with_reducible repeat (first | refine blk_drewN ?_ _ | refine blk_drew ?_ | refine blk_alloc ?_ _)); exact BK284.out⟩, ⟨by repeat (first | (with_reducible first | exact HB.out | apply below_alloc | apply pw_below_drewN | apply below_drew1 | refine below_set ?_ GE275.out | refine below_set ?_ GE284.out) | exact HB.out)⟩⟩
            ·replace c53 := Bool.eq_false_iff.mpr c53
             subst c53
             have H1 : (flywheelref02_Did.j4 kj45 x12_45 (decide (x12_45 > 9223372036854775808))) = some (r1, r2) := by rw [if_neg (show ¬ (false = true) by decide)] at H; exact H
             clear H
             have H := H1
             clear H1
             have H' := Aside0.mk H
             clear H
             go_wp2
             repeat (go_quiet (fail); try go_wp2)
             go_meet
             case rel => exact ⟨_, (decide (x12_45 > 9223372036854775808)), (by first | rfl | (simp; done) | (simp [*]; done)), H', ⟨by have := HJ4.out; have := HJ15.out; have := HJ28.out; have := HJ45.out; first | omega | exact Nat.le_refl _⟩, ⟨by (with_reducible repeat (first | refine blk_drewN ?_ _ | refine blk_drew ?_ | refine blk_alloc ?_ _)); exact BK275.out⟩, ⟨by (with_reducible repeat (first | refine blk_drewN ?_ _ | refine blk_drew ?_ | refine blk_alloc ?_ _)); exact BK284.out⟩, ⟨by repeat (first | (with_reducible first | exact HB.out | apply below_alloc | apply pw_below_drewN | apply below_drew1 | refine below_set ?_ GE275.out | refine below_set ?_ GE284.out) | exact HB.out)⟩⟩
           case rest =>
            clear HC52
            try clear c2
            try clear p2
            try clear c3
            try clear c4
            try clear c5
            try clear c7
            try clear c7b0
            try clear c7b1
            try clear c8
            try clear c8b0
            try clear c9
            try clear c20
            try clear c22
            try clear c22b0
            try clear c23
            try clear c23b0
            try clear c24
            try clear c24b0
            try clear c25
            try clear c25b0
            try clear c26
            try clear c26b0
            try clear c27
            try clear c27b0
            try clear c28
            try clear c28b0
            try clear c30
            try clear c30b0
            try clear c30b1
            try clear c31
            try clear c33
            try clear c33b0
            try clear c33b1
            try clear c34
            try clear c36
            try clear c36b0
            try clear c36b1
            try clear c37
            try clear c39
            try clear c41
            try clear c44
            try clear c47
            try clear c49
            try clear c50
            try clear c51
            try clear c53
            try clear hcz10_0
            try clear hcz10_1
            try clear hcz21_0
            try clear hcz21_1
            try clear hcz21_2
            try clear hcz32_0
            try clear hcz32_1
            try clear hcz32_2
            try clear hcz35_0
            try clear hcz35_1
            try clear hcz35_2
            try clear hcz38_0
            try clear hcz38_1
            try clear hcz38_2
            try clear hcz42_0
            try clear hcz42_1
            try clear hcz42_2
            try clear hcz45_0
            try clear hcz45_1
            try clear hcz45_2
            try clear hcz48_0
            try clear hcz48_1
            try clear hcz48_2
            try clear hfz10_0
            try clear hfz10_1
            try clear hfz21_0
            try clear hfz21_1
            try clear hfz21_2
            try clear hfz32_0
            try clear hfz32_1
            try clear hfz32_2
            try clear hfz35_0
            try clear hfz35_1
            try clear hfz35_2
            try clear hfz38_0
            try clear hfz38_1
            try clear hfz38_2
            try clear hfz42_0
            try clear hfz42_1
            try clear hfz42_2
            try clear hfz45_0
            try clear hfz45_1
            try clear hfz45_2
            try clear hfz48_0
            try clear hfz48_1
            try clear hfz48_2
            try clear p2
            obtain ⟨kq, x89_51, rfl, HA, HJ51, BK275, BK284, HB⟩ := hcut
            cases kq with
            | zero => exact absurd HA.out (by simp [flywheelref02_Did.j4])
            | succ kj51 =>
             have H := HA.out
             clear HA
             simp only [flywheelref02_Did.j4] at H
             by_cases c54 : x89_51 = true
             ·subst c54
              have H1 : (some ((-9223372036854775808), false)) = some (r1, r2) := by rw [if_pos rfl] at H; exact H
              clear H
              have H := H1
              clear H1
              simp only [Option.some.injEq, Prod.mk.injEq] at H
              obtain ⟨rfl, rfl⟩ := H
              have hnb55 := NB275_284.out
              have hnc55 := NB284_275.out
              have hcz56_0 : wc.cell? ⟨gb275, 0, none⟩ = some (.int .i64 0) := (blk_cell BK275.out 0).trans rfl
              have hcz56_1 : wc.cell? ⟨gb275, 1, none⟩ = some (.bool false) := (blk_cell BK275.out 1).trans rfl
              have hfz56_0 := blk_frozen BK275.out 0
              have hfz56_1 := blk_frozen BK275.out 1
              go_wp2
              repeat (go_quiet (fail); try go_wp2)
              refine bodyPost_ret (results_cell_row rfl _ _ gb275 80 #[.int .i64 (-9223372036854775808), .bool false] (0, 0) _ rfl (by (with_reducible repeat (first | refine blk_drewN ?_ _ | refine blk_drew ?_ | refine blk_alloc ?_ _)); refine blk_put (cs := #[.int .i64 (-9223372036854775808), .bool false]) ?_ 1 _ rfl; (with_reducible repeat (first | refine blk_drewN ?_ _ | refine blk_drew ?_ | refine blk_alloc ?_ _)); refine blk_put (cs := #[.int .i64 0, .bool false]) ?_ 0 _ rfl; (with_reducible repeat (first | refine blk_drewN ?_ _ | refine blk_drew ?_ | refine blk_alloc ?_ _)); exact BK275.out) Try.underlying80 rfl (by kernel_rfl)) rfl ?_
              exact ⟨by first | rfl | (simp [errW_none, errW_some] <;> rfl) | (simp [*, errW_none, errW_some] <;> rfl), by repeat (first | (with_reducible first | exact HB.out | apply below_alloc | apply pw_below_drewN | apply below_drew1 | refine below_set ?_ GE275.out | refine below_set ?_ GE284.out) | exact HB.out)⟩
             ·replace c54 := Bool.eq_false_iff.mpr c54
              subst c54
              have H1 : (some (wrap64 (-(wrap64 (x12_45))), true)) = some (r1, r2) := by rw [if_neg (show ¬ (false = true) by decide)] at H; exact H
              clear H
              have H := H1
              clear H1
              simp only [Option.some.injEq, Prod.mk.injEq] at H
              obtain ⟨rfl, rfl⟩ := H
              have hnb57 := NB275_284.out
              have hnc57 := NB284_275.out
              have hcz58_0 : wc.cell? ⟨gb275, 0, none⟩ = some (.int .i64 0) := (blk_cell BK275.out 0).trans rfl
              have hcz58_1 : wc.cell? ⟨gb275, 1, none⟩ = some (.bool false) := (blk_cell BK275.out 1).trans rfl
              have hfz58_0 := blk_frozen BK275.out 0
              have hfz58_1 := blk_frozen BK275.out 1
              go_wp2
              repeat (go_quiet (fail); try go_wp2)
              refine bodyPost_ret (results_cell_row rfl _ _ gb275 80 #[.int .i64 (wrap64 (-(wrap64 (x12_45)))), .bool true] (0, 0) _ rfl (by (with_reducible repeat (first | refine blk_drewN ?_ _ | refine blk_drew ?_ | refine blk_alloc ?_ _)); refine blk_put (cs := #[.int .i64 (wrap64 (-(wrap64 (x12_45)))), .bool false]) ?_ 1 _ rfl; (with_reducible repeat (first | refine blk_drewN ?_ _ | refine blk_drew ?_ | refine blk_alloc ?_ _)); refine blk_put (cs := #[.int .i64 0, .bool false]) ?_ 0 _ rfl; (with_reducible repeat (first | refine blk_drewN ?_ _ | refine blk_drew ?_ | refine blk_alloc ?_ _)); exact BK275.out) Try.underlying80 rfl (by kernel_rfl)) rfl ?_
              exact ⟨by first | rfl | (simp [errW_none, errW_some] <;> rfl) | (simp [*, errW_none, errW_some] <;> rfl), by repeat (first | (with_reducible first | exact HB.out | apply below_alloc | apply pw_below_drewN | apply below_drew1 | refine below_set ?_ GE275.out | refine below_set ?_ GE284.out) | exact HB.out)⟩
          ·replace c51 := Bool.eq_false_iff.mpr c51
           subst c51
           have H1 : (if x13_45 = true then (some (9223372036854775807, false)) else (if x12_45 > 9223372036854775807 then (some (9223372036854775807, false)) else (some (wrap64 (x12_45), true)))) = some (r1, r2) := by rw [if_neg (show ¬ (false = true) by decide)] at H; exact H
           clear H
           have H := H1
           clear H1
           by_cases c59 : x13_45 = true
           ·subst c59
            have H1 : (some (9223372036854775807, false)) = some (r1, r2) := by rw [if_pos rfl] at H; exact H
            clear H
            have H := H1
            clear H1
            simp only [Option.some.injEq, Prod.mk.injEq] at H
            obtain ⟨rfl, rfl⟩ := H
            have hnb60 := NB275_284.out
            have hnc60 := NB284_275.out
            have hcz61_0 : wc.cell? ⟨gb275, 0, none⟩ = some (.int .i64 0) := (blk_cell BK275.out 0).trans rfl
            have hcz61_1 : wc.cell? ⟨gb275, 1, none⟩ = some (.bool false) := (blk_cell BK275.out 1).trans rfl
            have hfz61_0 := blk_frozen BK275.out 0
            have hfz61_1 := blk_frozen BK275.out 1
            go_wp2
            repeat (go_quiet (fail); try go_wp2)
            refine bodyPost_ret (results_cell_row rfl _ _ gb275 80 #[.int .i64 9223372036854775807, .bool false] (0, 0) _ rfl (by (with_reducible repeat (first | refine blk_drewN ?_ _ | refine blk_drew ?_ | refine blk_alloc ?_ _)); refine blk_put (cs := #[.int .i64 9223372036854775807, .bool false]) ?_ 1 _ rfl; (with_reducible repeat (first | refine blk_drewN ?_ _ | refine blk_drew ?_ | refine blk_alloc ?_ _)); refine blk_put (cs := #[.int .i64 0, .bool false]) ?_ 0 _ rfl; (with_reducible repeat (first | refine blk_drewN ?_ _ | refine blk_drew ?_ | refine blk_alloc ?_ _)); exact BK275.out) Try.underlying80 rfl (by kernel_rfl)) rfl ?_
            exact ⟨by first | rfl | (simp [errW_none, errW_some] <;> rfl) | (simp [*, errW_none, errW_some] <;> rfl), by repeat (first | (with_reducible first | exact HB.out | apply below_alloc | apply pw_below_drewN | apply below_drew1 | refine below_set ?_ GE275.out | refine below_set ?_ GE284.out) | exact HB.out)⟩
           ·replace c59 := Bool.eq_false_iff.mpr c59
            subst c59
            have H1 : (if x12_45 > 9223372036854775807 then (some (9223372036854775807, false)) else (some (wrap64 (x12_45), true))) = some (r1, r2) := by rw [if_neg (show ¬ (false = true) by decide)] at H; exact H
            clear H
            have H := H1
            clear H1
            by_cases c62 : x12_45 > 9223372036854775807
            ·rw [if_pos c62] at H
             have c62b0 : decide (9223372036854775807 < x12_45) = true := decide_eq_true c62
             clear c62
             simp only [Option.some.injEq, Prod.mk.injEq] at H
             obtain ⟨rfl, rfl⟩ := H
             have hnb63 := NB275_284.out
             have hnc63 := NB284_275.out
             have hcz64_0 : wc.cell? ⟨gb275, 0, none⟩ = some (.int .i64 0) := (blk_cell BK275.out 0).trans rfl
             have hcz64_1 : wc.cell? ⟨gb275, 1, none⟩ = some (.bool false) := (blk_cell BK275.out 1).trans rfl
             have hfz64_0 := blk_frozen BK275.out 0
             have hfz64_1 := blk_frozen BK275.out 1
             go_wp2
             repeat (go_quiet (fail); try go_wp2)
             refine bodyPost_ret (results_cell_row rfl _ _ gb275 80 #[.int .i64 9223372036854775807, .bool false] (0, 0) _ rfl (by (with_reducible repeat (first | refine blk_drewN ?_ _ | refine blk_drew ?_ | refine blk_alloc ?_ _)); refine blk_put (cs := #[.int .i64 9223372036854775807, .bool false]) ?_ 1 _ rfl; (with_reducible repeat (first | refine blk_drewN ?_ _ | refine blk_drew ?_ | refine blk_alloc ?_ _)); refine blk_put (cs := #[.int .i64 0, .bool false]) ?_ 0 _ rfl; (with_reducible repeat (first | refine blk_drewN ?_ _ | refine blk_drew ?_ | refine blk_alloc ?_ _)); exact BK275.out) Try.underlying80 rfl (by kernel_rfl)) rfl ?_
             exact ⟨by first | rfl | (simp [errW_none, errW_some] <;> rfl) | (simp [*, errW_none, errW_some] <;> rfl), by repeat (first | (with_reducible first | exact HB.out | apply below_alloc | apply pw_below_drewN | apply below_drew1 | refine below_set ?_ GE275.out | refine below_set ?_ GE284.out) | exact HB.out)⟩
            ·rw [if_neg c62] at H
             have c62b0 : decide (9223372036854775807 < x12_45) = false := decide_eq_false c62
             clear c62
             simp only [Option.some.injEq, Prod.mk.injEq] at H
             obtain ⟨rfl, rfl⟩ := H
             have hnb65 := NB275_284.out
             have hnc65 := NB284_275.out
             have hcz66_0 : wc.cell? ⟨gb275, 0, none⟩ = some (.int .i64 0) := (blk_cell BK275.out 0).trans rfl
             have hcz66_1 : wc.cell? ⟨gb275, 1, none⟩ = some (.bool false) := (blk_cell BK275.out 1).trans rfl
             have hfz66_0 := blk_frozen BK275.out 0
             have hfz66_1 := blk_frozen BK275.out 1
             go_wp2
             repeat (go_quiet (fail); try go_wp2)
             refine bodyPost_ret (results_cell_row rfl _ _ gb275 80 #[.int .i64 (wrap64 (x12_45)), .bool true] (0, 0) _ rfl (by (with_reducible repeat (first | refine blk_drewN ?_ _ | refine blk_drew ?_ | refine blk_alloc ?_ _)); refine blk_put (cs := #[.int .i64 (wrap64 (x12_45)), .bool false]) ?_ 1 _ rfl; (with_reducible repeat (first | refine blk_drewN ?_ _ | refine blk_drew ?_ | refine blk_alloc ?_ _)); refine blk_put (cs := #[.int .i64 0, .bool false]) ?_ 0 _ rfl; (with_reducible repeat (first | refine blk_drewN ?_ _ | refine blk_drew ?_ | refine blk_alloc ?_ _)); exact BK275.out) Try.underlying80 rfl (by kernel_rfl)) rfl ?_
             exact ⟨by first | rfl | (simp [errW_none, errW_some] <;> rfl) | (simp [*, errW_none, errW_some] <;> rfl), by repeat (first | (with_reducible first | exact HB.out | apply below_alloc | apply pw_below_drewN | apply below_drew1 | refine below_set ?_ GE275.out | refine below_set ?_ GE284.out) | exact HB.out)⟩
end Go.Proofs.Ytmcfgaokimlngaa.P
end

section
namespace Go.Proofs.Ytmcfgaokimlngaa.P
open Go.RowKit Go.Proofs.YtmcfgaokimlngaaW.PrintWords Go.Proofs.YtmcfgaokimlngaaW.PrintLast Go.Proofs.YtmcfgaokimlngaaW.PrintMore
attribute [local go_sem] max2_int min2_int max_two min_two max_three min_three max_four min_four   -- for this text's walks alone
set_option linter.unusedVariables false
set_option linter.unusedSimpArgs false
theorem rsize (a : Int) (h : isI64 a) : flywheelref02_size.f a = some (if a < 0 then -a else a) := by
 unfold isI64 at h
 unfold flywheelref02_size.f wrap64
 simp only [u64_mod]
 split
 ·congr 1; omega
 ·congr 1; omega
theorem times_ok (a b : Int) (ha : 0 ≤ a) (ha1 : a < 18446744073709551616) (hb : 0 ≤ b) (hb1 : b < 18446744073709551616) :
  flywheelref02_times.f a b = some (a * b / 18446744073709551616, a * b % 18446744073709551616) := by
 obtain ⟨x, rfl⟩ := Int.eq_ofNat_of_zero_le ha
 obtain ⟨y, rfl⟩ := Int.eq_ofNat_of_zero_le hb
 have hx : x < 18446744073709551616 := by omega
 have hy : y < 18446744073709551616 := by omega
 have e1 : Go.bits .and .u64 (x : Int) 4294967295 = ((x % 4294967296 : Nat) : Int) := by rw [and_low32 _ ha (by omega)]; omega
 have e2 : Go.bits .and .u64 (y : Int) 4294967295 = ((y % 4294967296 : Nat) : Int) := by rw [and_low32 _ hb (by omega)]; omega
 have d1 : (x : Int) / 4294967296 = ((x / 4294967296 : Nat) : Int) := by omega
 have d2 : (y : Int) / 4294967296 = ((y / 4294967296 : Nat) : Int) := by omega
 have sp : x * y = (x / 4294967296) * (y / 4294967296) * (4294967296 * 4294967296) + ((x / 4294967296) * (y % 4294967296) + (x % 4294967296) * (y / 4294967296)) * 4294967296 + (x % 4294967296) * (y % 4294967296) := by
  rw [← Lib.split_mul, Nat.div_add_mod' x 4294967296, Nat.div_add_mod' y 4294967296]
 unfold flywheelref02_times.f
 rw [e1, e2, d1, d2]
 simp only [← Int.natCast_mul]
 have b2 := Lib.half_mul_le (a := x % 4294967296) (b := y % 4294967296) (by omega) (by omega)
 have b3 := Lib.half_mul_le (a := x / 4294967296) (b := y % 4294967296) (by omega) (by omega)
 have b4 := Lib.half_mul_le (a := x % 4294967296) (b := y / 4294967296) (by omega) (by omega)
 have b5 := Lib.half_mul_le (a := x / 4294967296) (b := y / 4294967296) (by omega) (by omega)
 rw [sp]
 generalize (x % 4294967296) * (y % 4294967296) = w0 at *
 generalize (x / 4294967296) * (y % 4294967296) = p1 at *
 generalize (x % 4294967296) * (y / 4294967296) = p2 at *
 generalize (x / 4294967296) * (y / 4294967296) = p3 at *
 have w1 : IntKind.u64.wrap ((w0 : Nat) : Int) = (w0 : Int) := u64_id _ (by omega) (by omega)
 have w2 : IntKind.u64.wrap ((p1 : Nat) : Int) = (p1 : Int) := u64_id _ (by omega) (by omega)
 have w3 : IntKind.u64.wrap ((p2 : Nat) : Int) = (p2 : Int) := u64_id _ (by omega) (by omega)
 have w4 : IntKind.u64.wrap ((p3 : Nat) : Int) = (p3 : Int) := u64_id _ (by omega) (by omega)
 rw [w1, w2, w3, w4]
 have t : (p1 : Int) + (w0 : Int) / 4294967296 = ((p1 + w0 / 4294967296 : Nat) : Int) := by omega
 rw [t]
 generalize hT : p1 + w0 / 4294967296 = T at *
 have w5 : IntKind.u64.wrap ((T : Nat) : Int) = (T : Int) := u64_id _ (by omega) (by omega)
 have e3 : Go.bits .and .u64 (T : Int) 4294967295 = ((T % 4294967296 : Nat) : Int) := by rw [and_low32 _ (by omega) (by omega)]; omega
 have e4 : Go.bits .and .u64 (w0 : Int) 4294967295 = ((w0 % 4294967296 : Nat) : Int) := by rw [and_low32 _ (by omega) (by omega)]; omega
 rw [w5, e3, e4]
 rw [u64_id ((p2 : Int) + ((T % 4294967296 : Nat) : Int)) (by omega) (by omega), u64_id ((p3 : Int) + (T : Int) / 4294967296) (by omega) (by omega), u64_id _ (by omega) (by omega), u64_mod, u64_mod]
 congr 2
 ·omega
 ·omega
theorem part_loop (c : Int) (hc : 0 < c) (hc1 : c ≤ 9223372036854775808) (n : Nat) (hn : n ≤ 128) : ∀ (hi lo q : Int) (over : Bool) (left T U : Int), 0 ≤ hi → hi < 18446744073709551616 → 0 ≤ lo → lo < 18446744073709551616 → 0 ≤ q → q < 18446744073709551616 → 0 ≤ left → left < c →
  (hi * 18446744073709551616 + lo) * pw n = T * 340282366920938463463374607431768211456 + U → 0 ≤ U → U < 340282366920938463463374607431768211456 →
  flywheelref02_part.l0 (n + 1) c ((n : Int) - 1) hi lo q over left = some ((q * pw n + (left * pw n + T) / c) % 18446744073709551616, over || decide (18446744073709551616 ≤ q * pw n + (left * pw n + T) / c), (left * pw n + T) % c) := by
 induction n with
 | zero =>
  intro hi lo q over left T U h0 h1 l0 l1 q0 q1 f0 f1 e u0 u1
  have p0 : pw 0 = 1 := rfl
  rw [p0, Int.mul_one] at e
  have hT : T = 0 := by omega
  subst hT
  simp only [flywheelref02_part.l0]
  rw [if_neg (by omega), p0, Int.mul_one, Int.mul_one, Int.add_zero, Int.ediv_eq_zero_of_lt f0 f1, Int.emod_eq_of_lt f0 f1, Int.add_zero, Int.emod_eq_of_lt q0 q1, decide_eq_false (by omega), Bool.or_false]
 | succ n ih =>
  intro hi lo q over left T U h0 h1 l0 l1 q0 q1 f0 f1 e u0 u1
  have IH := ih (by omega)
  have pp := pw_pos n
  have w1 : IntKind.u64.wrap (IntKind.u64.wrap (left * 2) + hi / 9223372036854775808) = left * 2 + hi / 9223372036854775808 := by rw [u64_id (left * 2) (by omega) (by omega), u64_id _ (by omega) (by omega)]
  have w2 : wrap64 (((n + 1 : Nat) : Int) - 1 - 1) = (n : Int) - 1 := by unfold wrap64; omega
  rw [pw_succ] at e ⊢
  -- the shifted number
  have sh : IntKind.u64.wrap (IntKind.u64.wrap (hi * 2) + lo / 9223372036854775808) = hi * 2 + lo / 9223372036854775808 - hi / 9223372036854775808 * 18446744073709551616 := by simp only [u64_mod]; omega
  have sl : IntKind.u64.wrap (lo * 2) = lo * 2 - lo / 9223372036854775808 * 18446744073709551616 := by simp only [u64_mod]; omega
  have b01 : hi / 9223372036854775808 = 0 ∨ hi / 9223372036854775808 = 1 := by omega
  have e' : ((hi * 2 + lo / 9223372036854775808 - hi / 9223372036854775808 * 18446744073709551616) * 18446744073709551616 + (lo * 2 - lo / 9223372036854775808 * 18446744073709551616)) * pw n = (T - hi / 9223372036854775808 * pw n) * 340282366920938463463374607431768211456 + U := by
   have : (hi * 2 + lo / 9223372036854775808 - hi / 9223372036854775808 * 18446744073709551616) * 18446744073709551616 + (lo * 2 - lo / 9223372036854775808 * 18446744073709551616) = (hi * 18446744073709551616 + lo) * 2 - hi / 9223372036854775808 * 340282366920938463463374607431768211456 := by omega
   rw [this, Int.sub_mul, Int.mul_assoc, e, Int.sub_mul, Int.mul_right_comm]
   omega
  -- the two ways of a round
  have way : ∀ (ov : Bool), (if left * 2 + hi / 9223372036854775808 ≥ c then
     flywheelref02_part.l0 (n + 1) c ((n : Int) - 1) (hi * 2 + lo / 9223372036854775808 - hi / 9223372036854775808 * 18446744073709551616) (lo * 2 - lo / 9223372036854775808 * 18446744073709551616) (IntKind.u64.wrap (IntKind.u64.wrap (q * 2) + 1)) ov (IntKind.u64.wrap (left * 2 + hi / 9223372036854775808 - c))
    else flywheelref02_part.l0 (n + 1) c ((n : Int) - 1) (hi * 2 + lo / 9223372036854775808 - hi / 9223372036854775808 * 18446744073709551616) (lo * 2 - lo / 9223372036854775808 * 18446744073709551616) (IntKind.u64.wrap (q * 2)) ov (left * 2 + hi / 9223372036854775808)) =
    some ((q * (2 * pw n) + (left * (2 * pw n) + T) / c) % 18446744073709551616, ov || decide (18446744073709551616 ≤ (q * 2 - q / 9223372036854775808 * 18446744073709551616) * pw n + (left * (2 * pw n) + T) / c), (left * (2 * pw n) + T) % c) := by
   intro ov
   have W : left * (2 * pw n) + T = (left * 2 + hi / 9223372036854775808) * pw n + (T - hi / 9223372036854775808 * pw n) := by rw [Int.add_mul, Int.mul_assoc]; omega
   have s2 : IntKind.u64.wrap (q * 2) = q * 2 - q / 9223372036854775808 * 18446744073709551616 := by simp only [u64_mod]; omega
   have s1 : IntKind.u64.wrap (IntKind.u64.wrap (q * 2) + 1) = q * 2 - q / 9223372036854775808 * 18446744073709551616 + 1 := by simp only [u64_mod]; omega
   have Q2 : (q * (2 * pw n)) = (q * 2 - q / 9223372036854775808 * 18446744073709551616) * pw n + 18446744073709551616 * (q / 9223372036854775808 * pw n) := by rw [Int.sub_mul, Int.mul_assoc, Int.mul_right_comm]; omega
   by_cases hge : left * 2 + hi / 9223372036854775808 ≥ c
   ·rw [if_pos hge, s1, u64_id (left * 2 + hi / 9223372036854775808 - c) (by omega) (by omega)]
    rw [IH _ _ _ ov _ _ U (by omega) (by omega) (by omega) (by omega) (by omega) (by omega) (by omega) (by omega) e' u0 u1]
    have X : (left * 2 + hi / 9223372036854775808 - c) * pw n + (T - hi / 9223372036854775808 * pw n) = left * (2 * pw n) + T + (-(pw n)) * c := by rw [W, Int.sub_mul, Int.neg_mul, Int.mul_comm c]; omega
    rw [X, Int.add_mul_ediv_right _ _ (by omega), Int.add_mul_emod_self_right, Q2]
    generalize (q * 2 - q / 9223372036854775808 * 18446744073709551616) = z at *
    have Z : (z + 1) * pw n + ((left * (2 * pw n) + T) / c + -pw n) = z * pw n + (left * (2 * pw n) + T) / c := by rw [Int.add_mul]; omega
    rw [Z]
    congr 2
    omega
   ·rw [if_neg hge, s2, IH _ _ _ ov _ _ U (by omega) (by omega) (by omega) (by omega) (by omega) (by omega) (by omega) (by omega) e' u0 u1, ← W, Q2]
    generalize (q * 2 - q / 9223372036854775808 * 18446744073709551616) = z at *
    congr 2
    omega
  have T0 : 0 ≤ (left * (2 * pw n) + T) / c := by
   apply Int.ediv_nonneg _ (by omega)
   have a1 := Int.mul_nonneg f0 (show 0 ≤ 2 * pw n by omega)
   have a2 := Int.mul_nonneg (show 0 ≤ hi * 18446744073709551616 + lo by omega) (show 0 ≤ 2 * pw n by omega)
   omega
  have final : ∀ ov : Bool, ov = (over || ((q / 9223372036854775808) == 1)) → (ov || decide (18446744073709551616 ≤ (q * 2 - q / 9223372036854775808 * 18446744073709551616) * pw n + (left * (2 * pw n) + T) / c)) = (over || decide (18446744073709551616 ≤ q * (2 * pw n) + (left * (2 * pw n) + T) / c)) := by
   intro ov hov
   subst hov
   cases over with
   | true => rfl
   | false =>
    simp only [Bool.false_or]
    have q01 : q / 9223372036854775808 = 0 ∨ q / 9223372036854775808 = 1 := by omega
    rcases q01 with hq | hq
    ·rw [hq, Int.zero_mul, Int.sub_zero, Int.mul_assoc]; simp
    ·have a3 : 9223372036854775808 * (2 * pw n) ≤ q * (2 * pw n) := Int.mul_le_mul_of_nonneg_right (by omega) (by omega)
     rw [hq, decide_eq_true (show 18446744073709551616 ≤ q * (2 * pw n) + (left * (2 * pw n) + T) / c by omega)]
     rfl
  rw [flywheelref02_part.l0]
  rw [if_pos (by omega)]
  simp only [w1, w2, sh, sl]
  cases over with
  | true =>
   rw [if_pos rfl, way true, final true (by simp)]
  | false =>
   rw [if_neg (by simp), way _, final _ (by simp)]
theorem part_ok (N c : Int) (hN : 0 ≤ N) (hN1 : N < 340282366920938463463374607431768211456) (hc : 0 < c) (hc1 : c ≤ 9223372036854775808) :
  flywheelref02_part.f 129 (N / 18446744073709551616) (N % 18446744073709551616) c = some (N / c % 18446744073709551616, decide (18446744073709551616 ≤ N / c), N % c) := by
 unfold flywheelref02_part.f
 have p : pw 128 = 340282366920938463463374607431768211456 := rfl
 have h := part_loop c hc hc1 128 (Nat.le_refl _) (N / 18446744073709551616) (N % 18446744073709551616) 0 false 0 N 0 (by omega) (by omega) (by omega) (by omega) (by omega) (by omega) (by omega) hc (by rw [p]; omega) (by omega) (by omega)
 simp only [Int.zero_mul, Int.zero_add, Bool.false_or] at h
 exact h
theorem did_tail (below ov : Bool) (q V : Int) (k : Nat) (h0 : 0 ≤ V) (hq : q = V % 18446744073709551616) (hov : ov = decide (18446744073709551616 ≤ V)) :
  flywheelref02_Did.j3 (k + 2) below q ov = some (hold64 (if below = true then -V else V)) := by
 subst hq; subst hov
 by_cases hb : 18446744073709551616 ≤ V
 ·rw [decide_eq_true hb]
  cases below with
  | true =>
   simp only [flywheelref02_Did.j3, flywheelref02_Did.j4, if_true]
   unfold hold64
   rw [if_pos (by omega)]
  | false =>
   simp only [flywheelref02_Did.j3, if_true, Bool.false_eq_true, if_false]
   unfold hold64
   rw [if_neg (by omega), if_pos (by omega)]
 ·rw [decide_eq_false hb, Int.emod_eq_of_lt h0 (by omega)]
  cases below with
  | true =>
   simp only [flywheelref02_Did.j3, flywheelref02_Did.j4, if_true, Bool.false_eq_true, if_false]
   unfold hold64
   by_cases hl : V > 9223372036854775808
   ·rw [decide_eq_true hl, if_pos rfl, if_pos (by omega)]
   ·rw [decide_eq_false hl, if_neg (by simp), if_neg (by omega), if_neg (by omega)]
    congr 2
    unfold wrap64; omega
  | false =>
   simp only [flywheelref02_Did.j3, Bool.false_eq_true, if_false]
   unfold hold64
   by_cases hl : V > 9223372036854775807
   ·rw [if_pos hl, if_neg (by omega), if_pos hl]
   ·rw [if_neg hl, if_neg (by omega), if_neg hl]
    congr 2
    unfold wrap64; omega
theorem did_j2 (below up : Bool) (Q L : Int) (k : Nat) (h0 : 0 ≤ Q) :
  flywheelref02_Did.j2 (k + 3) below up (Q % 18446744073709551616) (decide (18446744073709551616 ≤ Q)) L = some (hold64 (if below = true then -(Q + if up = true then 1 else 0) else Q + if up = true then 1 else 0)) := by
 cases up with
 | false =>
  simp only [flywheelref02_Did.j2, Bool.false_eq_true, if_false, Int.add_zero]
  exact did_tail below _ _ Q k h0 rfl rfl
 | true =>
  simp only [flywheelref02_Did.j2, if_true]
  have e : IntKind.u64.wrap (Q % 18446744073709551616 + 1) = (Q + 1) % 18446744073709551616 := by rw [u64_mod]; omega
  by_cases hb : 18446744073709551616 ≤ Q
  ·rw [decide_eq_true hb, if_pos rfl, e]
   exact did_tail below _ _ (Q + 1) k (by omega) rfl (decide_eq_true (by omega)).symm
  ·rw [decide_eq_false hb, if_neg (by simp), e]
   refine did_tail below _ _ (Q + 1) k (by omega) rfl ?_
   by_cases hz : Q = 18446744073709551615
   ·subst hz; rfl
   ·rw [decide_eq_false (by omega), beq_eq_false_iff_ne]; omega
theorem did_j1 (x2 how N C : Int) (below : Bool) (k : Nat) (hx : isI64 x2) (hC : C = if x2 < 0 then -x2 else x2) (hC0 : 0 < C) (hN : 0 ≤ N) (hh : how = 1 ∨ how = 2 ∨ how = 3) :
  flywheelref02_Did.j1 (k + 4) x2 how below (N / C % 18446744073709551616) (decide (18446744073709551616 ≤ N / C)) (N % C) = some (hold64 (rnd (if below = true then -N else N) C how)) := by
 have rs := rsize x2 hx
 rw [← hC] at rs
 have hCu : C ≤ 9223372036854775808 := by unfold isI64 at hx; rw [hC]; split <;> omega
 have r0 := Int.emod_nonneg N (show C ≠ 0 by omega)
 have r1 := Int.emod_lt_of_pos N hC0
 have q0 : 0 ≤ N / C := Int.ediv_nonneg hN (by omega)
 simp only [flywheelref02_Did.j1, rs, Option.bind_some]
 rw [u64_id (C - N % C) (by omega) (by omega)]
 have J := fun up => did_j2 below up (N / C) (N % C) k q0
 simp only [J]
 have c1 : ¬ C < 0 := by omega
 have c2 : ¬ C ≤ 0 := by omega
 cases below with
 | true =>
  simp only [if_true]
  rw [rnd_neg N C how hC0]
  have e1 : decide (N % C > C - N % C) = decide (C < 2 * (N % C)) := by rw [Bool.eq_iff_iff]; simp only [decide_eq_true_eq]; omega
  simp only [e1]
  by_cases hz : N % C = 0
  ·rcases hh with rfl | rfl | rfl <;> simp [hz, c1]
  ·have hp : 0 < N % C := by omega
   by_cases h : C < 2 * (N % C) <;> rcases hh with rfl | rfl | rfl <;> simp [hz, hp, h]
 | false =>
  simp only [Bool.false_eq_true, if_false]
  rw [rnd_pos N C how hC0]
  have e1 : decide (N % C ≥ C - N % C) = decide (C ≤ 2 * (N % C)) := by rw [Bool.eq_iff_iff]; simp only [decide_eq_true_eq]; omega
  simp only [e1]
  by_cases hz : N % C = 0
  ·rcases hh with rfl | rfl | rfl <;> simp [hz, c2]
  ·have hp : 0 < N % C := by omega
   by_cases h : C ≤ 2 * (N % C) <;> rcases hh with rfl | rfl | rfl <;> simp [hz, hp, h]
theorem did_ok (a b c how : Int) (ha : isI64 a) (hb : isI64 b) (hc : isI64 c) : flywheelref02_Did.f 130 a b c how = some (mdq a b c how) := by
 unfold flywheelref02_Did.f mdq
 by_cases hz : c = 0
 ·rw [if_pos hz, if_pos (Or.inl hz)]; rfl
 rw [if_neg hz]
 by_cases hl : how < 1
 ·rw [if_pos hl, if_pos (Or.inr (Or.inl hl))]; rfl
 rw [if_neg hl]
 by_cases hg : how > 3
 ·rw [decide_eq_true hg, if_pos (Or.inr (Or.inr hg))]; rfl
 rw [decide_eq_false hg, if_neg (by omega)]
 rw [flywheelref02_Did.j0, if_neg (by simp), rsize a ha, rsize b hb, rsize c hc]
 simp only [Option.bind_some]
 have ha' := ha; have hb' := hb; have hc' := hc
 unfold isI64 at ha' hb' hc'
 rw [times_ok _ _ (by split <;> omega) (by split <;> omega) (by split <;> omega) (by split <;> omega)]
 simp only [Option.bind_some]
 have hN := abs_mul_le (a := if a < 0 then -a else a) (b := if b < 0 then -b else b) (by split <;> omega) (by split <;> omega) (by split <;> omega) (by split <;> omega)
 have hN0 := Int.mul_nonneg (a := if a < 0 then -a else a) (b := if b < 0 then -b else b) (by split <;> omega) (by split <;> omega)
 rw [part_ok _ _ hN0 (by omega) (by split <;> omega) (by split <;> omega)]
 simp only [Option.bind_some]
 have J := fun bl => did_j1 c how ((if a < 0 then -a else a) * (if b < 0 then -b else b)) (if c < 0 then -c else c) bl 125 hc rfl (by split <;> omega) hN0 (by omega)
 simp only [J]
 by_cases h1 : a < 0 <;> by_cases h2 : b < 0 <;> by_cases h3 : c < 0 <;> simp [h1, h2, h3, Int.neg_mul, Int.mul_neg]
def flywheelref02_Did_s.f (a0 : Int) (a1 : Int) (a2 : Int) (a3 : Int) : Option (Int × Bool) := if isI64 a0 ∧ isI64 a1 ∧ isI64 a2 then some (mdq a0 a1 a2 a3) else none
theorem flywheelref02_Did_s.calls (a0 : Int) (a1 : Int) (a2 : Int) (a3 : Int) (r1 : Int) (r2 : Bool) (w : World) (h : flywheelref02_Did_s.f a0 a1 a2 a3 = some (r1, r2)) :
  Calls Try.prog 55 #[.int .i64 a0, .int .i64 a1, .int .i64 a2, .int .i64 a3] w fun e w' => e = .returned (.agg #[.int .i64 r1, .bool r2]) ∧ Below w.heap.size w w' := by
 unfold flywheelref02_Did_s.f at h
 split at h
 ·rename_i hb
  exact flywheelref02_Did.calls 130 a0 a1 a2 a3 r1 r2 w ((did_ok a0 a1 a2 a3 hb.1 hb.2.1 hb.2.2).trans h)
 ·cases h
def flywheelref02_Do.f (a0 : Int) (a1 : Int) (a2 : Int) (a3 : Int) : Option (Int) := (flywheelref02_Did_s.f a0 a1 a2 a3).bind fun bt287 => (some bt287.1)
set_option maxHeartbeats 8000000 in
set_option maxRecDepth 100000 in
theorem flywheelref02_Do.calls (a0 : Int) (a1 : Int) (a2 : Int) (a3 : Int) (r : Int) (w : World) (h : flywheelref02_Do.f a0 a1 a2 a3 = some r) :
  Calls Try.prog 47 #[.int .i64 a0, .int .i64 a1, .int .i64 a2, .int .i64 a3] w fun e w' => e = .returned (.int .i64 r) ∧ Below w.heap.size w w' := by
 have hfd80_0 : ∀ (v0 v1 : Value) (W : World), (Instr.field 80 (.agg #[v0, v1]) 0).run Try.prog W = .ok v0 W := fun _ _ _ => by kernel_rfl
 have HB := Aside0.mk (Below.refl w.heap.size w)
 have H : ((flywheelref02_Did_s.f a0 a1 a2 a3).bind fun bt287 => (some bt287.1)) = some r := h
 clear h
 replace H := Option.bind_eq_some_iff.mp H
 obtain ⟨⟨t287, t288⟩, A50, H⟩ := H
 replace H : (some t287) = some r := H
 have A5 := Aside0.mk A50
 clear A50
 obtain rfl := Option.some.inj H
 go_enter Try.func47, Try.ntmps47
 go_wp2_with (first | ((with_reducible refine gate_callee (f := 55) rfl ?_); refine goesL_ (some 13) rfl rfl Try.func55 (by kernel_rfl) rfl #[.int .i64 a0, .int .i64 a1, .int .i64 a2, .int .i64 a3] rfl (by (try simp only [List.map_toArray, List.map_cons, List.map_nil]); first | done | rfl | (simp only [List.length_drop, List.length_take]; rfl)) ?_; (with_reducible refine (flywheelref02_Did_s.calls a0 a1 a2 a3 t287 t288 _ A5.out).mono ?_); rintro e w6 ⟨rfl, hb⟩; refine ⟨_, rfl, ?_⟩; have n0_ := Aside0.mk (below_step (by repeat (first | (with_reducible first | exact HB.out | apply below_alloc | apply pw_below_drewN | apply below_drew1) | exact HB.out)) hb); clear HB; have HB := n0_; clear n0_; (try clear hb); (try clear hb2); (try clear hk); (try clear hi)))
 go_ret
 exact ⟨by first | rfl | (simp [errW_none, errW_some] <;> rfl) | (simp [*, errW_none, errW_some] <;> rfl), by repeat (first | (with_reducible first | exact HB.out | apply below_alloc | apply pw_below_drewN | apply below_drew1) | exact HB.out)⟩
def flywheelref03_Div.f (a0 : Int) (a1 : Int) : Option (Int) := (flywheelref02_Do.f a0 4294967296 a1 2).bind fun t289 => (some t289)
set_option maxHeartbeats 8000000 in
set_option maxRecDepth 100000 in
theorem flywheelref03_Div.calls (a0 : Int) (a1 : Int) (r : Int) (w : World) (h : flywheelref03_Div.f a0 a1 = some r) :
  Calls Try.prog 33 #[.int .i64 a0, .int .i64 a1] w fun e w' => e = .returned (.int .i64 r) ∧ Below w.heap.size w w' := by
 have HB := Aside0.mk (Below.refl w.heap.size w)
 have H : ((flywheelref02_Do.f a0 4294967296 a1 2).bind fun t289 => (some t289)) = some r := h
 clear h
 replace H := Option.bind_eq_some_iff.mp H
 obtain ⟨t289, A30, H⟩ := H
 replace H : (some t289) = some r := H
 have A3 := Aside0.mk A30
 clear A30
 obtain rfl := Option.some.inj H
 go_enter Try.func33, Try.ntmps33
 go_wp2_with (first | ((with_reducible refine gate_callee (f := 47) rfl ?_); refine goesL_ (some 7) rfl rfl Try.func47 (by kernel_rfl) rfl #[.int .i64 a0, .int .i64 4294967296, .int .i64 a1, .int .i64 2] rfl (by (try simp only [List.map_toArray, List.map_cons, List.map_nil]); first | done | rfl | (simp only [List.length_drop, List.length_take]; rfl)) ?_; (with_reducible refine (flywheelref02_Do.calls a0 4294967296 a1 2 t289 _ A3.out).mono ?_); rintro e w4 ⟨rfl, hb⟩; refine ⟨_, rfl, ?_⟩; have n0_ := Aside0.mk (below_step (by repeat (first | (with_reducible first | exact HB.out | apply below_alloc | apply pw_below_drewN | apply below_drew1) | exact HB.out)) hb); clear HB; have HB := n0_; clear n0_; (try clear hb); (try clear hb2); (try clear hk); (try clear hi)))
 go_ret
 exact ⟨by first | rfl | (simp [errW_none, errW_some] <;> rfl) | (simp [*, errW_none, errW_some] <;> rfl), by repeat (first | (with_reducible first | exact HB.out | apply below_alloc | apply pw_below_drewN | apply below_drew1) | exact HB.out)⟩
end Go.Proofs.Ytmcfgaokimlngaa.P
end

section
namespace Go.Proofs.Ytmcfgaokimlngaa.P
open Go.RowKit Go.Proofs.YtmcfgaokimlngaaW.PrintWords Go.Proofs.YtmcfgaokimlngaaW.PrintLast Go.Proofs.YtmcfgaokimlngaaW.PrintMore
attribute [local go_sem] max2_int min2_int max_two min_two max_three min_three max_four min_four   -- for this text's walks alone
set_option linter.unusedVariables false
set_option linter.unusedSimpArgs false
mutual
def flywheelref17_Line.l0 : Nat → List Int → List Int → Int → List Int → List Int → Int → Option (Int)
 | 0, _, _, _, _, _, _ => none
 | k + 1, x0, x1, x5, x6, x7, x8 => if x8 < x5 then (if 0 ≤ x8 then (if x8 < (x0.length : Int) then (if 0 < (x0.length : Int) then ((flywheelref01_Sub.f k (rd x0 x8) (rd x0 0)).bind fun t292 => (if x6.length < 17592186044416 then (if x8 < (x1.length : Int) then (if 0 < (x1.length : Int) then ((flywheelref01_Sub.f k (rd x1 x8) (rd x1 0)).bind fun t298 => (if x7.length < 17592186044416 then (flywheelref17_Line.l0 k x0 x1 x5 (x6 ++ [t292]) (x7 ++ [t298]) (wrap64 (x8 + 1))) else (none))) else (none)) else (none)) else (none))) else (none)) else (none)) else (none)) else ((flywheelref01_Sum.f k x6).bind fun t302 => ((flywheelref01_Sum.f k x7).bind fun t303 => (flywheelref17_Line.l1 k x5 x6 x7 t302 t303 ([] : List Int) ([] : List Int) 0)))
def flywheelref17_Line.l1 : Nat → Int → List Int → List Int → Int → Int → List Int → List Int → Int → Option (Int)
 | 0, _, _, _, _, _, _, _, _ => none
 | k + 1, x5, x6, x7, x9, x10, x11, x12, x13 => if x13 < x5 then (if 0 ≤ x13 then (if x13 < (x6.length : Int) then ((flywheelref01_Mul.f k x5 (rd x6 x13)).bind fun t305 => ((flywheelref01_Sub.f k t305 x9).bind fun t306 => (if x13 < (x7.length : Int) then ((flywheelref01_Mul.f k x5 (rd x7 x13)).bind fun t308 => ((flywheelref01_Sub.f k t308 x10).bind fun t309 => ((flywheelref01_Mul.f k t306 t309).bind fun t310 => (if x11.length < 17592186044416 then ((flywheelref01_Mul.f k t306 t306).bind fun t314 => (if x12.length < 17592186044416 then (flywheelref17_Line.l1 k x5 x6 x7 x9 x10 (x11 ++ [t310]) (x12 ++ [t314]) (wrap64 (x13 + 1))) else (none))) else (none))))) else (none)))) else (none)) else (none)) else ((flywheelref01_Sum.f k x12).bind fun t318 => (if t318 = 0 then (some 0) else ((flywheelref01_Sum.f k x11).bind fun t319 => ((flywheelref03_Div.f t319 t318).bind fun t320 => (some t320)))))
end
def flywheelref17_Line.f (k : Nat) (l0 : List Int) (l1 : List Int) : Option (Int) := if (mn (mn (l0.length : Int) (l1.length : Int)) 64) < 2 then (some 0) else (flywheelref17_Line.l0 k l0 l1 (mn (mn (l0.length : Int) (l1.length : Int)) 64) ([] : List Int) ([] : List Int) 0)
def flywheelref17_Line.T8 : Bool × List (List Nat × List Nat) := (true, [([], []), ([], []), ([], []), ([1, 2], [1, 2]), ([3], [3]), ([], []), ([5], [5]), ([6], [6]), ([4, 7], [4, 7]), ([8], [8]), ([0, 9, 8], [0, 9]), ([10, 10, 0, 1, 2, 3, 4, 5, 6, 7, 8, 9, 10], [0, 10])])
def flywheelref17_Line.B8 : List Nat := [0, 0, 0, 6, 14, 0, 32, 96, 254, 510, 1023, 2047]
theorem flywheelref17_Line.tab8 : rtab .any (opsOf Try.f12 8) = flywheelref17_Line.T8 := by kernel_rfl
theorem flywheelref17_Line.bits8 : waitsOk flywheelref17_Line.T8.2 flywheelref17_Line.B8 = true := by kernel_rfl
def flywheelref17_Line.T9 : Bool × List (List Nat × List Nat) := (true, [([], []), ([], []), ([], []), ([1, 2], [1, 2]), ([3], [3]), ([], []), ([5], [5]), ([6], [6]), ([4, 7], [4, 7]), ([8], [8]), ([0, 9, 8], [0, 9]), ([10, 10, 0, 1, 2, 3, 4, 5, 6, 7, 8, 9, 10], [0, 10])])
def flywheelref17_Line.B9 : List Nat := [0, 0, 0, 6, 14, 0, 32, 96, 254, 510, 1023, 2047]
theorem flywheelref17_Line.tab9 : rtab .any (opsOf Try.f12 9) = flywheelref17_Line.T9 := by kernel_rfl
theorem flywheelref17_Line.bits9 : waitsOk flywheelref17_Line.T9.2 flywheelref17_Line.B9 = true := by kernel_rfl
set_option maxHeartbeats 8000000 in
set_option maxRecDepth 100000 in
theorem flywheelref17_Line.calls (k : Nat) (A0 : Option Addr) (c0 : Nat) (l0 : List Int) (A1 : Option Addr) (c1 : Nat) (l1 : List Int) (r : Int) (w : World) (hr0 : Kd.C (Kd.int .i64) w A0 l0.length l0) (hc0 : l0.length ≤ c0) (hr1 : Kd.C (Kd.int .i64) w A1 l1.length l1) (hc1 : l1.length ≤ c1) (h : flywheelref17_Line.f k l0 l1 = some r) :
  Calls Try.prog 12 #[.slice A0 l0.length c0, .slice A1 l1.length c1] w fun e w' => e = .returned (.int .i64 r) ∧ Below w.heap.size w w' := by
 have HR0 := Aside0.mk hr0
 have HC0 := Aside0.mk hc0
 clear hr0 hc0
 have HR1 := Aside0.mk hr1
 have HC1 := Aside0.mk hc1
 clear hr1 hc1
 have HB := Aside0.mk (Below.refl w.heap.size w)
 have H : (if (mn (mn (l0.length : Int) (l1.length : Int)) 64) < 2 then (some 0) else (flywheelref17_Line.l0 k l0 l1 (mn (mn (l0.length : Int) (l1.length : Int)) 64) ([] : List Int) ([] : List Int) 0)) = some r := h
 clear h
 obtain ⟨ji3, hji3⟩ : ∃ j_ : Int, (mn (l0.length : Int) (l1.length : Int)) = j_ := ⟨_, rfl⟩
 replace H : (if (mn (ji3) 64) < 2 then (some 0) else (flywheelref17_Line.l0 k l0 l1 (mn (ji3) 64) ([] : List Int) ([] : List Int) 0)) = some r := by first | (rw [hji3] at H; exact H) | (simp only [hji3] at H ⊢; exact H)
 (try (have hji3l : 0 ≤ ji3 := by (rw [← hji3]; unfold mn; (repeat' split) <;> omega)))
 (try (have hji3m : 0 ≤ ji3 := by omega))
 have hji3_ : (if (l1.length : Int) < (l0.length : Int) then (l1.length : Int) else (l0.length : Int)) = ji3 := hji3
 have hji3n_ : (if l1.length < l0.length then (l1.length : Int) else (l0.length : Int)) = ji3 := by rw [← hji3_]; simp only [Int.ofNat_lt]
 obtain ⟨ji4, hji4⟩ : ∃ j_ : Int, (mn (ji3) 64) = j_ := ⟨_, rfl⟩
 replace H : (if (ji4) < 2 then (some 0) else (flywheelref17_Line.l0 k l0 l1 ji4 ([] : List Int) ([] : List Int) 0)) = some r := by first | (rw [hji4] at H; exact H) | (simp only [hji4] at H ⊢; exact H)
 have hji4_ : (if 64 < (ji3) then 64 else (ji3)) = ji4 := hji4
 by_cases c5 : (ji4) < 2
 ·rw [if_pos c5] at H
  have c5b0 : decide ((ji4) < 2) = true := decide_eq_true c5
  clear c5
  obtain rfl := Option.some.inj H
  go_enter Try.func12, Try.ntmps12
  go_wp2
  go_ret
  exact ⟨by first | rfl | (simp [errW_none, errW_some] <;> rfl) | (simp only [← hji3, ← hji4]; first | rfl | (simp [errW_none, errW_some] <;> rfl)) | (simp [*, errW_none, errW_some] <;> rfl), by repeat (first | (with_reducible first | exact HB.out | apply below_alloc | apply pw_below_drewN | apply below_drew1) | exact HB.out)⟩
 ·rw [if_neg c5] at H
  have c5b0 : decide ((ji4) < 2) = false := decide_eq_false c5
  clear c5
  have H' := Aside0.mk H
  clear H
  go_enter Try.func12, Try.ntmps12
  go_wp2
  go_loopg [6, 7, 8] k (fun kq v6 v7 v8 w' => ∃ (x6_1 : List Int) (x7_1 : List Int) (x8_1 : Int), v8 = .int .i64 x8_1 ∧ Aside0 (flywheelref17_Line.l0 kq l0 l1 ji4 x6_1 x7_1 x8_1 = some r) ∧ Aside0 (kq ≤ k) ∧ Aside0 (Kd.R (Kd.int .i64) 2 w' w.heap.size (fun k_ => some k_ ≠ (v7 : Value).ownBlock) v6 x6_1) ∧ Aside0 (Kd.R (Kd.int .i64) 2 w' w.heap.size (fun k_ => some k_ ≠ (v6 : Value).ownBlock) v7 x7_1) ∧ Aside0 (Below w.heap.size w w'))
  case atStart => exact ⟨(([] : List Int)), (([] : List Int)), (0), (by first | rfl | (simp; done) | (simp [*]; done)), H', ⟨Nat.le_refl _⟩, ⟨by first | exact Kd.R_nil _ _ _ _ _ | exact Kd.N_nil _ _ _ _ _ | exact Kd.V_nil _ _ _ _ _ | exact Kd.Q_nil _ _ _ _ _ | exact Kd.S_nil _ _ _ _ _⟩, ⟨by first | exact Kd.R_nil _ _ _ _ _ | exact Kd.N_nil _ _ _ _ _ | exact Kd.V_nil _ _ _ _ _ | exact Kd.Q_nil _ _ _ _ _ | exact Kd.S_nil _ _ _ _ _⟩, ⟨by repeat (first | (with_reducible first | exact HB.out | apply below_alloc | apply pw_below_drewN | apply below_drew1) | exact HB.out)⟩⟩
  case round =>
   clear H'
   try clear c1
   try clear p2
   try clear c5
   try clear c5b0
   obtain ⟨x6_1, x7_1, x8_1, rfl, HA, HK1, HO_6, HO_7, HB⟩ := hrel
   cases gk with
   | zero => exact absurd HA.out (by simp [flywheelref17_Line.l0])
   | succ k1 =>
    have H := HA.out
    clear HA
    simp only [flywheelref17_Line.l0] at H
    by_cases c6 : x8_1 < ji4
    ·rw [if_pos c6] at H
     have c6b0 : decide (x8_1 < ji4) = true := decide_eq_true c6
     clear c6
     by_cases c7 : 0 ≤ x8_1
     ·rw [if_pos c7] at H
      have c7b0 : decide (0 ≤ x8_1) = true := decide_eq_true c7
      clear c7
      by_cases c8 : x8_1 < (l0.length : Int)
      ·rw [if_pos c8] at H
       have c8b0 : decide (x8_1 < (l0.length : Int)) = true := decide_eq_true c8
       clear c8
       by_cases c9 : 0 < (l0.length : Int)
       ·rw [if_pos c9] at H
        have c9b0 : decide (0 < (l0.length : Int)) = true := decide_eq_true c9
        have c9b1 : decide (0 < l0.length) = true := decide_eq_true (by omega)
        clear c9
        replace H := Option.bind_eq_some_iff.mp H
        obtain ⟨t292, A100, H⟩ := H
        replace H : (if x6_1.length < 17592186044416 then (if x8_1 < (l1.length : Int) then (if 0 < (l1.length : Int) then ((flywheelref01_Sub.f k1 (rd l1 x8_1) (rd l1 0)).bind fun t298 => (if x7_1.length < 17592186044416 then (flywheelref17_Line.l0 k1 l0 l1 ji4 (x6_1 ++ [t292]) (x7_1 ++ [t298]) (wrap64 (x8_1 + 1))) else (none))) else (none)) else (none)) else (none)) = some r := H
        have A10 := Aside0.mk A100
        clear A100
        by_cases c11 : x6_1.length < 17592186044416
        ·rw [if_pos c11] at H
         have LMc11 := Aside0.mk c11
         clear c11
         obtain ⟨y293, hy293⟩ : ∃ y_ : List Int, y_ = (x6_1 ++ [t292]) := ⟨_, rfl⟩
         replace H : (if x8_1 < (l1.length : Int) then (if 0 < (l1.length : Int) then ((flywheelref01_Sub.f k1 (rd l1 x8_1) (rd l1 0)).bind fun t298 => (if x7_1.length < 17592186044416 then (flywheelref17_Line.l0 k1 l0 l1 ji4 y293 (x7_1 ++ [t298]) (wrap64 (x8_1 + 1))) else (none))) else (none)) else (none)) = some r := by first | (rw [hy293]; with_reducible exact H) | (have H2_ := (Option.bind_some _ _).symm.trans H; rw [hy293]; with_reducible exact H2_) | (have H2_ := (Option.bind_some _ _).symm.trans H; with_reducible exact H2_) | with_reducible exact H | (rw [hy293]; exact H) | exact H
         have Ny293 := Aside0.mk hy293
         clear hy293
         by_cases c12 : x8_1 < (l1.length : Int)
         ·rw [if_pos c12] at H
          have c12b0 : decide (x8_1 < (l1.length : Int)) = true := decide_eq_true c12
          clear c12
          by_cases c13 : 0 < (l1.length : Int)
          ·rw [if_pos c13] at H
           have c13b0 : decide (0 < (l1.length : Int)) = true := decide_eq_true c13
           have c13b1 : decide (0 < l1.length) = true := decide_eq_true (by omega)
           clear c13
           replace H := Option.bind_eq_some_iff.mp H
           obtain ⟨t298, A140, H⟩ := H
           replace H : (if x7_1.length < 17592186044416 then (flywheelref17_Line.l0 k1 l0 l1 ji4 y293 (x7_1 ++ [t298]) (wrap64 (x8_1 + 1))) else (none)) = some r := H
           have A14 := Aside0.mk A140
           clear A140
           by_cases c15 : x7_1.length < 17592186044416
           ·rw [if_pos c15] at H
            have LMc15 := Aside0.mk c15
            clear c15
            obtain ⟨y299, hy299⟩ : ∃ y_ : List Int, y_ = (x7_1 ++ [t298]) := ⟨_, rfl⟩
            replace H : (flywheelref17_Line.l0 k1 l0 l1 ji4 y293 y299 (wrap64 (x8_1 + 1))) = some r := by first | (rw [hy299]; with_reducible exact H) | (have H2_ := (Option.bind_some _ _).symm.trans H; rw [hy299]; with_reducible exact H2_) | (have H2_ := (Option.bind_some _ _).symm.trans H; with_reducible exact H2_) | with_reducible exact H | (rw [hy299]; exact H) | exact H
            have Ny299 := Aside0.mk hy299
            clear hy299
            have H' := Aside0.mk H
            clear H
            try go_wp2
            have n0_ := Aside0.mk (Kd.R_drew HO_6.out)
            have n1_ := Aside0.mk (Kd.R_drew HO_7.out)
            have n2_ := Aside0.mk (below_drew1 HB.out)
            clear HO_6
            clear HO_7
            clear HB
            have HO_6 := n0_
            have HO_7 := n1_
            have HB := n2_
            clear n0_ n1_ n2_
            have p290 : 0 ≤ (x8_1 : Int) := of_decide_eq_true (by first | (with_reducible assumption) | assumption)
            have q290 : x8_1 < (l0.length : Int) := of_decide_eq_true (by first | (with_reducible assumption) | assumption)
            obtain ⟨ad290, e290, hx290_0⟩ := Kd.at_int HR0.out x8_1 p290 q290
            have hw290_0 := hx290_0
            cases e290
            replace hx290_0 := (HB.out.cell (World.block_lt_of_cell? w _ hx290_0)).trans hx290_0
            replace p290 := eq_true p290
            replace q290 := eq_true q290
            have p291 : 0 ≤ (0 : Int) := (by omega)
            have q291 : 0 < (l0.length : Int) := of_decide_eq_true (by first | (with_reducible assumption) | assumption)
            obtain ⟨ad291, e291, hx291_0⟩ := Kd.at_int HR0.out 0 p291 q291
            have hw291_0 := hx291_0
            (try rw [show ((0 : Int)).toNat = 0 from rfl] at hw291_0)
            (try rw [show 0 * 1 = 0 from rfl] at hw291_0)
            (try rw [Addr.add_zero'] at hw291_0)
            obtain rfl : ad290 = ad291 := (by injection e291)
            have qi291 : (0 < l0.length) = True := eq_true (by omega)
            (try rw [show ((0 : Int)).toNat = 0 from rfl] at hx291_0)
            (try rw [Addr.add_zero'] at hx291_0)
            replace hx291_0 := (HB.out.cell (World.block_lt_of_cell? w _ hx291_0)).trans hx291_0
            replace p291 := eq_true p291
            replace q291 := eq_true q291
            refine start_ (n := 12) (S := fun w' => w'.cell? (ad290.add (x8_1).toNat) = some (.int .i64 (rd l0 x8_1)) ∧ w'.cell? ad290 = some (.int .i64 (rd l0 0))) (ds := []) #[false, false, false, false, false, false, false, false, false, false, false, false] (by kernel_rfl) rfl rfl ⟨((HB.out.cell (World.block_lt_of_cell? w _ hw290_0)).trans hw290_0), ((HB.out.cell (World.block_lt_of_cell? w _ hw291_0)).trans hw291_0)⟩ (fun hHeld => ?_); refine with_tabW flywheelref17_Line.tab8 flywheelref17_Line.bits8 (fun HT_ HW_ => ?_)
            generalize wr.drew = w16 at HO_6 HO_7 HB hx290_0 hx291_0 hHeld ⊢
            refine pure_ (i := 0) (N := some 29) (v := ?_) (a' := ?_) (bl 12 1) rfl rfl (any_of HT_.out (by kernel_rfl)) (fun _ _ _ h => h) (Or.inl ⟨by rfl, ?_⟩) ?_ ?_
            rotate_left
            ·intro w'
             go_simp
             with_reducible rfl
            rotate_left
            ·simp only [puts_]
             rfl
            refine pure_ (i := 1) (N := some 30) (v := ?_) (a' := ?_) (bl 12 3) rfl rfl (any_of HT_.out (by kernel_rfl)) (fun _ _ _ h => h) (Or.inl ⟨by rfl, ?_⟩) ?_ ?_
            rotate_left
            ·intro w'
             go_simp
             with_reducible rfl
            rotate_left
            ·simp only [puts_]
             rfl
            refine pure_ (i := 2) (N := some 31) (v := ?_) (a' := ?_) (bl 12 7) rfl rfl (any_of HT_.out (by kernel_rfl)) (fun _ _ _ h => h) (Or.inl ⟨by rfl, ?_⟩) ?_ ?_
            rotate_left
            ·intro w'
             go_simp
             with_reducible rfl
            rotate_left
            ·simp only [puts_]
             rfl
            refine pure_ (i := 3) (N := some 32) (v := ?_) (a' := ?_) (bl 12 15) rfl rfl (any_of HT_.out (by kernel_rfl)) (fun _ _ _ h => h) (Or.inl ⟨by rfl, ?_⟩) ?_ ?_
            rotate_left
            ·intro w'
             go_simp
             with_reducible rfl
            rotate_left
            ·simp only [puts_]
             rfl
            refine pure_ (i := 5) (N := some 34) (v := ?_) (a' := ?_) (bl 12 47) rfl rfl (any_of HT_.out (by kernel_rfl)) (fun _ _ _ h => h) (Or.inl ⟨by rfl, ?_⟩) ?_ ?_
            rotate_left
            ·intro w'
             go_simp
             with_reducible rfl
            rotate_left
            ·simp only [puts_]
             rfl
            refine pure_ (i := 6) (N := some 35) (v := ?_) (a' := ?_) (bl 12 111) rfl rfl (any_of HT_.out (by kernel_rfl)) (fun _ _ _ h => h) (Or.inl ⟨by rfl, ?_⟩) ?_ ?_
            rotate_left
            ·intro w'
             go_simp
             with_reducible rfl
            rotate_left
            ·simp only [puts_]
             rfl
            refine take_ (i := 4) (N := some 33) (v := ?_) (a' := ?_) (bl 12 127) rfl rfl (take_ofW HT_.out HW_.out (by kernel_rfl)) (fun _ _ _ h => h) (Or.inl ⟨by rfl, ?_⟩) hHeld ?_ ?_
            rotate_left
            ·rintro w' ⟨s0, s1⟩
             go_simp
             with_reducible rfl
            rotate_left
            ·simp only [puts_]
             rfl
            refine take_ (i := 7) (N := some 36) (v := ?_) (a' := ?_) (bl 12 255) rfl rfl (take_ofW HT_.out HW_.out (by kernel_rfl)) (fun _ _ _ h => h) (Or.inl ⟨by rfl, ?_⟩) hHeld ?_ ?_
            rotate_left
            ·rintro w' ⟨s0, s1⟩
             go_simp
             with_reducible rfl
            rotate_left
            ·simp only [puts_]
             rfl
            refine one_ (i := 8) (N := some 37) (bl 12 511) rfl rfl (one_of HT_.out (by kernel_rfl)) (by decide) (fun K hK => ?_)
            refine goes_ Try.func30 (by kernel_rfl) rfl #[.int .i64 (rd l0 x8_1), .int .i64 (rd l0 0)] (by rfl) rfl rfl (by (try simp only [List.map_toArray, List.map_cons, List.map_nil]); first | done | rfl | (simp only [List.length_drop, List.length_take]; rfl)) ?_
            with_reducible refine (flywheelref01_Sub.calls k1 (rd l0 x8_1) (rd l0 0) t292 _ A10.out).mono ?_
            rintro e w' ⟨rfl, ⟨nd, rfl⟩⟩
            refine ⟨_, rfl, ?_⟩
            refine hK.out _ _ ⟨((HB.out.cell (World.block_lt_of_cell? w _ hw290_0)).trans hw290_0), ((HB.out.cell (World.block_lt_of_cell? w _ hw291_0)).trans hw291_0)⟩ (fun hHeld => ?_)
            clear hK K
            refine norm_ (a' := ?_) ?_ ?_
            rotate_left
            ·show Act.put _ (some 37) _ = _
             simp only [puts_]
             rfl
            refine one_ (i := 9) (N := some 38) (bl 12 1023) rfl rfl (one_of HT_.out (by kernel_rfl)) (by decide) (fun K hK => ?_)
            refine value_ (w1 := ?_) (v := ?_) (by rfl) rfl ?_ ?_
            rotate_left 2
            ·go_simp
             constructor
             ·rfl
             ·rfl
            refine hK.out _ _ ⟨(World.cell?_alloc_lt _ _ _ (World.block_lt_of_cell? _ _ (((HB.out.cell (World.block_lt_of_cell? w _ hw290_0)).trans hw290_0)))).trans (((HB.out.cell (World.block_lt_of_cell? w _ hw290_0)).trans hw290_0)), (World.cell?_alloc_lt _ _ _ (World.block_lt_of_cell? _ _ (((HB.out.cell (World.block_lt_of_cell? w _ hw291_0)).trans hw291_0)))).trans (((HB.out.cell (World.block_lt_of_cell? w _ hw291_0)).trans hw291_0))⟩ (fun hHeld => ?_)
            clear hK K
            refine norm_ (a' := ?_) ?_ ?_
            rotate_left
            ·show Act.put _ (some 38) _ = _
             simp only [puts_]
             rfl
            refine one_ (i := 10) (N := some 39) (bl 12 2047) rfl rfl (one_of HT_.out (by kernel_rfl)) (by decide) (fun K hK => ?_)
            refine Kd.R_append_step (Kd.int .i64) (w0 := w) w.heap.size (by rfl) (.tmp 29) (.tmp 38) 22 2 (.int .i64 0) 8 rfl Try.underlying22 info2 rfl (by decide) (by omega) u6 x6_1 t292 [.int .i64 t292] (fun k_ => some k_ ≠ (u7 : Value).ownBlock) (fun _ => False) rfl rfl ?aP (fun _ hk => hk.elim) ?aF ?aO ?aB ?aS ?aL ?_
            (case aP => exact rfl)
            (case aB => exact (by repeat (first | (with_reducible first | exact HB.out | apply below_alloc | apply pw_below_drewN | apply below_drew1) | exact HB.out)))
            (case aF => exact (fun k_ hk => Kd.fresh' (Kd.R_lt (by (with_reducible repeat (first | apply Kd.R_alloc | apply Kd.R_drewN | apply Kd.R_drew)); exact HO_7.out)) k_ hk))
            (case aO => exact (by (with_reducible repeat (first | apply Kd.R_alloc | apply Kd.R_drewN | apply Kd.R_drew)); exact HO_6.out))
            (case aS => exact (below_size (by repeat (first | (with_reducible first | exact HB.out | apply below_alloc | apply pw_below_drewN | apply below_drew1) | exact HB.out))))
            (case aL => have := LMc11.out; omega)
            intro v294 w17 ho hb hg hat
            rw [← Ny293.out] at ho
            have n0_ := Aside0.mk (Kd.R_after (ok := (fun _ => True)) (by (with_reducible repeat (first | apply Kd.R_alloc | apply Kd.R_drewN | apply Kd.R_drew)); exact Kd.R_mono HO_7.out (fun _ hk => ⟨trivial, hk⟩)) hg hat)
            have n1_ := Aside0.mk (hb)
            have n2_ := Aside0.mk (ho)
            clear HO_7
            clear HB
            clear HO_6
            have HO_7 := n0_
            have HB := n1_
            have HO295 := n2_
            clear n0_ n1_ n2_
            clear ho hb hg hat
            refine hK.out _ _ ⟨((HB.out.cell (World.block_lt_of_cell? w _ hw290_0)).trans hw290_0), ((HB.out.cell (World.block_lt_of_cell? w _ hw291_0)).trans hw291_0)⟩ (fun hHeld => ?_)
            clear hK K
            refine norm_ (a' := ?_) ?_ ?_
            rotate_left
            ·show Act.put _ (some 39) _ = _
             simp only [puts_]
             rfl
            refine pure_ (i := 11) (N := some 6) (v := ?_) (a' := ?_) (bl 12 4095) rfl rfl (any_of HT_.out (by kernel_rfl)) (fun _ _ _ h => h) (Or.inl ⟨by rfl, ?_⟩) ?_ ?_
            rotate_left
            ·intro w'
             go_simp
             with_reducible rfl
            rotate_left
            ·simp only [puts_]
             rfl
            refine done_ (done_of HT_.out (by kernel_rfl)) ?_
            try go_wp2
            have n0_ := Aside0.mk (Kd.R_drew HO_7.out)
            have n1_ := Aside0.mk (Kd.R_drew HO295.out)
            have n2_ := Aside0.mk (below_drew1 HB.out)
            clear HO_7
            clear HO295
            clear HB
            have HO_7 := n0_
            have HO295 := n1_
            have HB := n2_
            clear n0_ n1_ n2_
            have p296 : 0 ≤ (x8_1 : Int) := of_decide_eq_true (by first | (with_reducible assumption) | assumption)
            have q296 : x8_1 < (l1.length : Int) := of_decide_eq_true (by first | (with_reducible assumption) | assumption)
            obtain ⟨ad296, e296, hx296_0⟩ := Kd.at_int HR1.out x8_1 p296 q296
            have hw296_0 := hx296_0
            cases e296
            replace hx296_0 := (HB.out.cell (World.block_lt_of_cell? w _ hx296_0)).trans hx296_0
            replace p296 := eq_true p296
            replace q296 := eq_true q296
            have p297 : 0 ≤ (0 : Int) := (by omega)
            have q297 : 0 < (l1.length : Int) := of_decide_eq_true (by first | (with_reducible assumption) | assumption)
            obtain ⟨ad297, e297, hx297_0⟩ := Kd.at_int HR1.out 0 p297 q297
            have hw297_0 := hx297_0
            (try rw [show ((0 : Int)).toNat = 0 from rfl] at hw297_0)
            (try rw [show 0 * 1 = 0 from rfl] at hw297_0)
            (try rw [Addr.add_zero'] at hw297_0)
            obtain rfl : ad296 = ad297 := (by injection e297)
            have qi297 : (0 < l1.length) = True := eq_true (by omega)
            (try rw [show ((0 : Int)).toNat = 0 from rfl] at hx297_0)
            (try rw [Addr.add_zero'] at hx297_0)
            replace hx297_0 := (HB.out.cell (World.block_lt_of_cell? w _ hx297_0)).trans hx297_0
            replace p297 := eq_true p297
            replace q297 := eq_true q297
            refine start_ (n := 12) (S := fun w' => w'.cell? (ad296.add (x8_1).toNat) = some (.int .i64 (rd l1 x8_1)) ∧ w'.cell? ad296 = some (.int .i64 (rd l1 0))) (ds := []) #[false, false, false, false, false, false, false, false, false, false, false, false] (by kernel_rfl) rfl rfl ⟨((HB.out.cell (World.block_lt_of_cell? w _ hw296_0)).trans hw296_0), ((HB.out.cell (World.block_lt_of_cell? w _ hw297_0)).trans hw297_0)⟩ (fun hHeld => ?_); refine with_tabW flywheelref17_Line.tab9 flywheelref17_Line.bits9 (fun HT_ HW_ => ?_)
            generalize w17.drew = w18 at HO_7 HO295 HB hx296_0 hx297_0 hHeld ⊢
            refine pure_ (i := 0) (N := some 40) (v := ?_) (a' := ?_) (bl 12 1) rfl rfl (any_of HT_.out (by kernel_rfl)) (fun _ _ _ h => h) (Or.inl ⟨by rfl, ?_⟩) ?_ ?_
            rotate_left
            ·intro w'
             go_simp
             with_reducible rfl
            rotate_left
            ·simp only [puts_]
             rfl
            refine pure_ (i := 1) (N := some 41) (v := ?_) (a' := ?_) (bl 12 3) rfl rfl (any_of HT_.out (by kernel_rfl)) (fun _ _ _ h => h) (Or.inl ⟨by rfl, ?_⟩) ?_ ?_
            rotate_left
            ·intro w'
             go_simp
             with_reducible rfl
            rotate_left
            ·simp only [puts_]
             rfl
            refine pure_ (i := 2) (N := some 42) (v := ?_) (a' := ?_) (bl 12 7) rfl rfl (any_of HT_.out (by kernel_rfl)) (fun _ _ _ h => h) (Or.inl ⟨by rfl, ?_⟩) ?_ ?_
            rotate_left
            ·intro w'
             go_simp
             with_reducible rfl
            rotate_left
            ·simp only [puts_]
             rfl
            refine pure_ (i := 3) (N := some 43) (v := ?_) (a' := ?_) (bl 12 15) rfl rfl (any_of HT_.out (by kernel_rfl)) (fun _ _ _ h => h) (Or.inl ⟨by rfl, ?_⟩) ?_ ?_
            rotate_left
            ·intro w'
             go_simp
             with_reducible rfl
            rotate_left
            ·simp only [puts_]
             rfl
            refine pure_ (i := 5) (N := some 45) (v := ?_) (a' := ?_) (bl 12 47) rfl rfl (any_of HT_.out (by kernel_rfl)) (fun _ _ _ h => h) (Or.inl ⟨by rfl, ?_⟩) ?_ ?_
            rotate_left
            ·intro w'
             go_simp
             with_reducible rfl
            rotate_left
            ·simp only [puts_]
             rfl
            refine pure_ (i := 6) (N := some 46) (v := ?_) (a' := ?_) (bl 12 111) rfl rfl (any_of HT_.out (by kernel_rfl)) (fun _ _ _ h => h) (Or.inl ⟨by rfl, ?_⟩) ?_ ?_
            rotate_left
            ·intro w'
             go_simp
             with_reducible rfl
            rotate_left
            ·simp only [puts_]
             rfl
            refine take_ (i := 4) (N := some 44) (v := ?_) (a' := ?_) (bl 12 127) rfl rfl (take_ofW HT_.out HW_.out (by kernel_rfl)) (fun _ _ _ h => h) (Or.inl ⟨by rfl, ?_⟩) hHeld ?_ ?_
            rotate_left
            ·rintro w' ⟨s0, s1⟩
             go_simp
             with_reducible rfl
            rotate_left
            ·simp only [puts_]
             rfl
            refine take_ (i := 7) (N := some 47) (v := ?_) (a' := ?_) (bl 12 255) rfl rfl (take_ofW HT_.out HW_.out (by kernel_rfl)) (fun _ _ _ h => h) (Or.inl ⟨by rfl, ?_⟩) hHeld ?_ ?_
            rotate_left
            ·rintro w' ⟨s0, s1⟩
             go_simp
             with_reducible rfl
            rotate_left
            ·simp only [puts_]
             rfl
            refine one_ (i := 8) (N := some 48) (bl 12 511) rfl rfl (one_of HT_.out (by kernel_rfl)) (by decide) (fun K hK => ?_)
            refine goes_ Try.func30 (by kernel_rfl) rfl #[.int .i64 (rd l1 x8_1), .int .i64 (rd l1 0)] (by rfl) rfl rfl (by (try simp only [List.map_toArray, List.map_cons, List.map_nil]); first | done | rfl | (simp only [List.length_drop, List.length_take]; rfl)) ?_
            with_reducible refine (flywheelref01_Sub.calls k1 (rd l1 x8_1) (rd l1 0) t298 _ A14.out).mono ?_
            rintro e w' ⟨rfl, ⟨nd, rfl⟩⟩
            refine ⟨_, rfl, ?_⟩
            refine hK.out _ _ ⟨((HB.out.cell (World.block_lt_of_cell? w _ hw296_0)).trans hw296_0), ((HB.out.cell (World.block_lt_of_cell? w _ hw297_0)).trans hw297_0)⟩ (fun hHeld => ?_)
            clear hK K
            refine norm_ (a' := ?_) ?_ ?_
            rotate_left
            ·show Act.put _ (some 48) _ = _
             simp only [puts_]
             rfl
            refine one_ (i := 9) (N := some 49) (bl 12 1023) rfl rfl (one_of HT_.out (by kernel_rfl)) (by decide) (fun K hK => ?_)
            refine value_ (w1 := ?_) (v := ?_) (by rfl) rfl ?_ ?_
            rotate_left 2
            ·go_simp
             constructor
             ·rfl
             ·rfl
            refine hK.out _ _ ⟨(World.cell?_alloc_lt _ _ _ (World.block_lt_of_cell? _ _ (((HB.out.cell (World.block_lt_of_cell? w _ hw296_0)).trans hw296_0)))).trans (((HB.out.cell (World.block_lt_of_cell? w _ hw296_0)).trans hw296_0)), (World.cell?_alloc_lt _ _ _ (World.block_lt_of_cell? _ _ (((HB.out.cell (World.block_lt_of_cell? w _ hw297_0)).trans hw297_0)))).trans (((HB.out.cell (World.block_lt_of_cell? w _ hw297_0)).trans hw297_0))⟩ (fun hHeld => ?_)
            clear hK K
            refine norm_ (a' := ?_) ?_ ?_
            rotate_left
            ·show Act.put _ (some 49) _ = _
             simp only [puts_]
             rfl
            refine one_ (i := 10) (N := some 50) (bl 12 2047) rfl rfl (one_of HT_.out (by kernel_rfl)) (by decide) (fun K hK => ?_)
            refine Kd.R_append_step (Kd.int .i64) (w0 := w) w.heap.size (by rfl) (.tmp 40) (.tmp 49) 22 2 (.int .i64 0) 8 rfl Try.underlying22 info2 rfl (by decide) (by omega) u7 x7_1 t298 [.int .i64 t298] (fun k_ => some k_ ≠ (v294 : Value).ownBlock) (fun _ => False) rfl rfl ?aP (fun _ hk => hk.elim) ?aF ?aO ?aB ?aS ?aL ?_
            (case aP => exact rfl)
            (case aB => exact (by repeat (first | (with_reducible first | exact HB.out | apply below_alloc | apply pw_below_drewN | apply below_drew1) | exact HB.out)))
            (case aF => exact (fun k_ hk => Kd.fresh' (Kd.R_lt (by (with_reducible repeat (first | apply Kd.R_alloc | apply Kd.R_drewN | apply Kd.R_drew)); exact HO295.out)) k_ hk))
            (case aO => exact (by (with_reducible repeat (first | apply Kd.R_alloc | apply Kd.R_drewN | apply Kd.R_drew)); exact Kd.R_mono HO_7.out (fun _ hk => hk.2)))
            (case aS => exact (below_size (by repeat (first | (with_reducible first | exact HB.out | apply below_alloc | apply pw_below_drewN | apply below_drew1) | exact HB.out))))
            (case aL => have := LMc15.out; omega)
            intro v300 w19 ho hb hg hat
            rw [← Ny299.out] at ho
            have n0_ := Aside0.mk (Kd.R_after (ok := (fun _ => True)) (by (with_reducible repeat (first | apply Kd.R_alloc | apply Kd.R_drewN | apply Kd.R_drew)); exact Kd.R_mono HO295.out (fun _ hk => ⟨trivial, hk⟩)) hg hat)
            have n1_ := Aside0.mk (hb)
            have n2_ := Aside0.mk (ho)
            clear HO295
            clear HB
            clear HO_7
            have HO295 := n0_
            have HB := n1_
            have HO301 := n2_
            clear n0_ n1_ n2_
            clear ho hb hg hat
            refine hK.out _ _ ⟨((HB.out.cell (World.block_lt_of_cell? w _ hw296_0)).trans hw296_0), ((HB.out.cell (World.block_lt_of_cell? w _ hw297_0)).trans hw297_0)⟩ (fun hHeld => ?_)
            clear hK K
            refine norm_ (a' := ?_) ?_ ?_
            rotate_left
            ·show Act.put _ (some 50) _ = _
             simp only [puts_]
             rfl
            refine pure_ (i := 11) (N := some 7) (v := ?_) (a' := ?_) (bl 12 4095) rfl rfl (any_of HT_.out (by kernel_rfl)) (fun _ _ _ h => h) (Or.inl ⟨by rfl, ?_⟩) ?_ ?_
            rotate_left
            ·intro w'
             go_simp
             with_reducible rfl
            rotate_left
            ·simp only [puts_]
             rfl
            refine done_ (done_of HT_.out (by kernel_rfl)) ?_
            try go_wp2
            go_roundg k1
            case measure => have := HK1.out; omega
            case rel => exact ⟨(y293), (y299), (wrap64 (x8_1 + 1)), (by first | rfl | (simp; done) | (simp [*]; done)), H', ⟨by have := HK1.out; omega⟩, ⟨by (with_reducible repeat (first | apply Kd.R_alloc | apply Kd.R_drewN | apply Kd.R_drew)); exact Kd.R_mono HO295.out (fun _ hk => hk.2)⟩, ⟨by (with_reducible repeat (first | apply Kd.R_alloc | apply Kd.R_drewN | apply Kd.R_drew)); exact HO301.out⟩, ⟨by repeat (first | (with_reducible first | exact HB.out | apply below_alloc | apply pw_below_drewN | apply below_drew1) | exact HB.out)⟩⟩
           ·rw [if_neg c15] at H
            exact absurd H (by simp)
          ·rw [if_neg c13] at H
           exact absurd H (by simp)
         ·rw [if_neg c12] at H
          exact absurd H (by simp)
        ·rw [if_neg c11] at H
         exact absurd H (by simp)
       ·rw [if_neg c9] at H
        exact absurd H (by simp)
      ·rw [if_neg c8] at H
       exact absurd H (by simp)
     ·rw [if_neg c7] at H
      exact absurd H (by simp)
    ·rw [if_neg c6] at H
     have c6b0 : decide (x8_1 < ji4) = false := decide_eq_false c6
     clear c6
     replace H := Option.bind_eq_some_iff.mp H
     obtain ⟨t302, A200, H⟩ := H
     replace H : ((flywheelref01_Sum.f k1 x7_1).bind fun t303 => (flywheelref17_Line.l1 k1 ji4 x6_1 x7_1 t302 t303 ([] : List Int) ([] : List Int) 0)) = some r := H
     have A20 := Aside0.mk A200
     clear A200
     replace H := Option.bind_eq_some_iff.mp H
     obtain ⟨t303, A210, H⟩ := H
     replace H : (flywheelref17_Line.l1 k1 ji4 x6_1 x7_1 t302 t303 ([] : List Int) ([] : List Int) 0) = some r := H
     have A21 := Aside0.mk A210
     clear A210
     have H' := Aside0.mk H
     clear H
     obtain ⟨Ao22, co22, eo22⟩ := Kd.R_slice HO_6.out
     subst eo22
     go_wp2_with (first | ((with_reducible refine gate_callee (f := 31) rfl ?_); refine goesL_ (some 52) rfl rfl Try.func31 (by kernel_rfl) rfl #[.slice Ao22 x6_1.length co22] rfl (by (try simp only [List.map_toArray, List.map_cons, List.map_nil]); first | done | rfl | (simp only [List.length_drop, List.length_take]; rfl)) ?_; (with_reducible refine (flywheelref01_Sum.calls k1 _ _ x6_1 t302 _ ?side1 ?side2 A20.out).mono ?_); (case side1 => repeat (first | exact (Kd.R_reads' HO_6.out).2.2 | (with_reducible refine Kd.C_alloc ?_ _) | (with_reducible refine Kd.C_drewN ?_ _) | (with_reducible refine Kd.C_drew ?_))); (case side2 => exact (Kd.R_reads' HO_6.out).2.1); rintro e w' ⟨rfl, ⟨nd, rfl⟩⟩; refine ⟨_, rfl, ?_⟩; obtain ⟨Ao23, co23, eo23⟩ := Kd.R_slice HO_7.out; subst eo23) | ((with_reducible refine gate_callee (f := 31) rfl ?_); refine goesL_ (some 54) rfl rfl Try.func31 (by kernel_rfl) rfl #[.slice Ao23 x7_1.length co23] rfl (by (try simp only [List.map_toArray, List.map_cons, List.map_nil]); first | done | rfl | (simp only [List.length_drop, List.length_take]; rfl)) ?_; (with_reducible refine (flywheelref01_Sum.calls k1 _ _ x7_1 t303 _ ?side1 ?side2 A21.out).mono ?_); (case side1 => repeat (first | exact (Kd.R_reads' HO_7.out).2.2 | (with_reducible refine Kd.C_alloc ?_ _) | (with_reducible refine Kd.C_drewN ?_ _) | (with_reducible refine Kd.C_drew ?_))); (case side2 => exact (Kd.R_reads' HO_7.out).2.1); rintro e w' ⟨rfl, ⟨nd, rfl⟩⟩; refine ⟨_, rfl, ?_⟩))
     go_loopg [11, 12, 13] k1 (fun kq v11 v12 v13 w' => ∃ (x11_2 : List Int) (x12_2 : List Int) (x13_2 : Int), v13 = .int .i64 x13_2 ∧ Aside0 (flywheelref17_Line.l1 kq ji4 x6_1 x7_1 t302 t303 x11_2 x12_2 x13_2 = some r) ∧ Aside0 (kq ≤ k1) ∧ Aside0 (Kd.R (Kd.int .i64) 2 w' w.heap.size (fun k_ => some k_ ≠ ((.slice Ao23 x7_1.length co23) : Value).ownBlock ∧ some k_ ≠ (v11 : Value).ownBlock ∧ some k_ ≠ (v12 : Value).ownBlock) (.slice Ao22 x6_1.length co22) x6_1) ∧ Aside0 (Kd.R (Kd.int .i64) 2 w' w.heap.size (fun k_ => some k_ ≠ ((.slice Ao22 x6_1.length co22) : Value).ownBlock ∧ some k_ ≠ (v11 : Value).ownBlock ∧ some k_ ≠ (v12 : Value).ownBlock) (.slice Ao23 x7_1.length co23) x7_1) ∧ Aside0 (Kd.R (Kd.int .i64) 2 w' w.heap.size (fun k_ => some k_ ≠ ((.slice Ao22 x6_1.length co22) : Value).ownBlock ∧ some k_ ≠ ((.slice Ao23 x7_1.length co23) : Value).ownBlock ∧ some k_ ≠ (v12 : Value).ownBlock) v11 x11_2) ∧ Aside0 (Kd.R (Kd.int .i64) 2 w' w.heap.size (fun k_ => some k_ ≠ ((.slice Ao22 x6_1.length co22) : Value).ownBlock ∧ some k_ ≠ ((.slice Ao23 x7_1.length co23) : Value).ownBlock ∧ some k_ ≠ (v11 : Value).ownBlock) v12 x12_2) ∧ Aside0 (Below w.heap.size w w'))
     case atStart => exact ⟨(([] : List Int)), (([] : List Int)), (0), (by first | rfl | (simp; done) | (simp [*]; done)), H', ⟨Nat.le_refl _⟩, ⟨by (with_reducible repeat (first | apply Kd.R_alloc | apply Kd.R_drewN | apply Kd.R_drew)); exact Kd.R_mono HO_6.out (fun _ hk => ⟨hk, ⟨(by simp [Value.ownBlock]), (by simp [Value.ownBlock])⟩⟩)⟩, ⟨by (with_reducible repeat (first | apply Kd.R_alloc | apply Kd.R_drewN | apply Kd.R_drew)); exact Kd.R_mono HO_7.out (fun _ hk => ⟨hk, ⟨(by simp [Value.ownBlock]), (by simp [Value.ownBlock])⟩⟩)⟩, ⟨by first | exact Kd.R_nil _ _ _ _ _ | exact Kd.N_nil _ _ _ _ _ | exact Kd.V_nil _ _ _ _ _ | exact Kd.Q_nil _ _ _ _ _ | exact Kd.S_nil _ _ _ _ _⟩, ⟨by first | exact Kd.R_nil _ _ _ _ _ | exact Kd.N_nil _ _ _ _ _ | exact Kd.V_nil _ _ _ _ _ | exact Kd.Q_nil _ _ _ _ _ | exact Kd.S_nil _ _ _ _ _⟩, ⟨by repeat (first | (with_reducible first | exact HB.out | apply below_alloc | apply pw_below_drewN | apply below_drew1) | exact HB.out)⟩⟩
     case round =>
      clear H'
      try clear c1
      try clear p2
      try clear q2
      try clear hx2
      try clear qi2
      try clear c3
      try clear c5
      try clear c5b0
      try clear c6
      try clear c6b0
      try clear p6
      try clear c7
      try clear c7b0
      try clear c8
      try clear c8b0
      try clear c9
      try clear c9b0
      try clear c9b1
      try clear c11
      try clear c12
      try clear c12b0
      try clear c13
      try clear c13b0
      try clear c13b1
      try clear c15
      try clear hx290_0
      try clear hx291_0
      try clear hx296_0
      try clear hx297_0
      try clear p2
      try clear p290
      try clear p291
      try clear p296
      try clear p297
      try clear q290
      try clear q291
      try clear q296
      try clear q297
      obtain ⟨x11_2, x12_2, x13_2, rfl, HA, HK2, HO_6, HO_7, HO_11, HO_12, HB⟩ := hrel
      cases gk with
      | zero => exact absurd HA.out (by simp [flywheelref17_Line.l1])
      | succ k2 =>
       have H := HA.out
       clear HA
       simp only [flywheelref17_Line.l1] at H
       by_cases c24 : x13_2 < ji4
       ·rw [if_pos c24] at H
        have c24b0 : decide (x13_2 < ji4) = true := decide_eq_true c24
        clear c24
        by_cases c25 : 0 ≤ x13_2
        ·rw [if_pos c25] at H
         have c25b0 : decide (0 ≤ x13_2) = true := decide_eq_true c25
         clear c25
         by_cases c26 : x13_2 < (x6_1.length : Int)
         ·rw [if_pos c26] at H
          have c26b0 : decide (x13_2 < (x6_1.length : Int)) = true := decide_eq_true c26
          clear c26
          replace H := Option.bind_eq_some_iff.mp H
          obtain ⟨t305, A270, H⟩ := H
          replace H : ((flywheelref01_Sub.f k2 t305 t302).bind fun t306 => (if x13_2 < (x7_1.length : Int) then ((flywheelref01_Mul.f k2 ji4 (rd x7_1 x13_2)).bind fun t308 => ((flywheelref01_Sub.f k2 t308 t303).bind fun t309 => ((flywheelref01_Mul.f k2 t306 t309).bind fun t310 => (if x11_2.length < 17592186044416 then ((flywheelref01_Mul.f k2 t306 t306).bind fun t314 => (if x12_2.length < 17592186044416 then (flywheelref17_Line.l1 k2 ji4 x6_1 x7_1 t302 t303 (x11_2 ++ [t310]) (x12_2 ++ [t314]) (wrap64 (x13_2 + 1))) else (none))) else (none))))) else (none))) = some r := H
          have A27 := Aside0.mk A270
          clear A270
          replace H := Option.bind_eq_some_iff.mp H
          obtain ⟨t306, A280, H⟩ := H
          replace H : (if x13_2 < (x7_1.length : Int) then ((flywheelref01_Mul.f k2 ji4 (rd x7_1 x13_2)).bind fun t308 => ((flywheelref01_Sub.f k2 t308 t303).bind fun t309 => ((flywheelref01_Mul.f k2 t306 t309).bind fun t310 => (if x11_2.length < 17592186044416 then ((flywheelref01_Mul.f k2 t306 t306).bind fun t314 => (if x12_2.length < 17592186044416 then (flywheelref17_Line.l1 k2 ji4 x6_1 x7_1 t302 t303 (x11_2 ++ [t310]) (x12_2 ++ [t314]) (wrap64 (x13_2 + 1))) else (none))) else (none))))) else (none)) = some r := H
          have A28 := Aside0.mk A280
          clear A280
          by_cases c29 : x13_2 < (x7_1.length : Int)
          ·rw [if_pos c29] at H
           have c29b0 : decide (x13_2 < (x7_1.length : Int)) = true := decide_eq_true c29
           clear c29
           replace H := Option.bind_eq_some_iff.mp H
           obtain ⟨t308, A300, H⟩ := H
           replace H : ((flywheelref01_Sub.f k2 t308 t303).bind fun t309 => ((flywheelref01_Mul.f k2 t306 t309).bind fun t310 => (if x11_2.length < 17592186044416 then ((flywheelref01_Mul.f k2 t306 t306).bind fun t314 => (if x12_2.length < 17592186044416 then (flywheelref17_Line.l1 k2 ji4 x6_1 x7_1 t302 t303 (x11_2 ++ [t310]) (x12_2 ++ [t314]) (wrap64 (x13_2 + 1))) else (none))) else (none)))) = some r := H
           have A30 := Aside0.mk A300
           clear A300
           replace H := Option.bind_eq_some_iff.mp H
           obtain ⟨t309, A310, H⟩ := H
           replace H : ((flywheelref01_Mul.f k2 t306 t309).bind fun t310 => (if x11_2.length < 17592186044416 then ((flywheelref01_Mul.f k2 t306 t306).bind fun t314 => (if x12_2.length < 17592186044416 then (flywheelref17_Line.l1 k2 ji4 x6_1 x7_1 t302 t303 (x11_2 ++ [t310]) (x12_2 ++ [t314]) (wrap64 (x13_2 + 1))) else (none))) else (none))) = some r := H
           have A31 := Aside0.mk A310
           clear A310
           replace H := Option.bind_eq_some_iff.mp H
           obtain ⟨t310, A320, H⟩ := H
           replace H : (if x11_2.length < 17592186044416 then ((flywheelref01_Mul.f k2 t306 t306).bind fun t314 => (if x12_2.length < 17592186044416 then (flywheelref17_Line.l1 k2 ji4 x6_1 x7_1 t302 t303 (x11_2 ++ [t310]) (x12_2 ++ [t314]) (wrap64 (x13_2 + 1))) else (none))) else (none)) = some r := H
           have A32 := Aside0.mk A320
           clear A320
           by_cases c33 : x11_2.length < 17592186044416
           ·rw [if_pos c33] at H
            have LMc33 := Aside0.mk c33
            clear c33
            obtain ⟨y311, hy311⟩ : ∃ y_ : List Int, y_ = (x11_2 ++ [t310]) := ⟨_, rfl⟩
            replace H : ((flywheelref01_Mul.f k2 t306 t306).bind fun t314 => (if x12_2.length < 17592186044416 then (flywheelref17_Line.l1 k2 ji4 x6_1 x7_1 t302 t303 y311 (x12_2 ++ [t314]) (wrap64 (x13_2 + 1))) else (none))) = some r := by first | (rw [hy311]; with_reducible exact H) | (have H2_ := (Option.bind_some _ _).symm.trans H; rw [hy311]; with_reducible exact H2_) | (have H2_ := (Option.bind_some _ _).symm.trans H; with_reducible exact H2_) | with_reducible exact H | (rw [hy311]; exact H) | exact H
            have Ny311 := Aside0.mk hy311
            clear hy311
            replace H := Option.bind_eq_some_iff.mp H
            obtain ⟨t314, A340, H⟩ := H
            replace H : (if x12_2.length < 17592186044416 then (flywheelref17_Line.l1 k2 ji4 x6_1 x7_1 t302 t303 y311 (x12_2 ++ [t314]) (wrap64 (x13_2 + 1))) else (none)) = some r := H
            have A34 := Aside0.mk A340
            clear A340
            by_cases c35 : x12_2.length < 17592186044416
            ·rw [if_pos c35] at H
             have LMc35 := Aside0.mk c35
             clear c35
             obtain ⟨y315, hy315⟩ : ∃ y_ : List Int, y_ = (x12_2 ++ [t314]) := ⟨_, rfl⟩
             replace H : (flywheelref17_Line.l1 k2 ji4 x6_1 x7_1 t302 t303 y311 y315 (wrap64 (x13_2 + 1))) = some r := by first | (rw [hy315]; with_reducible exact H) | (have H2_ := (Option.bind_some _ _).symm.trans H; rw [hy315]; with_reducible exact H2_) | (have H2_ := (Option.bind_some _ _).symm.trans H; with_reducible exact H2_) | with_reducible exact H | (rw [hy315]; exact H) | exact H
             have Ny315 := Aside0.mk hy315
             clear hy315
             have H' := Aside0.mk H
             clear H
             have p304 : 0 ≤ (x13_2 : Int) := of_decide_eq_true (by first | (with_reducible assumption) | assumption)
             have q304 : x13_2 < (x6_1.length : Int) := of_decide_eq_true (by first | (with_reducible assumption) | assumption)
             obtain ⟨ad304, e304, hx304_0⟩ := Kd.at_int (Kd.R_reads' HO_6.out).2.2 x13_2 p304 q304
             cases e304
             replace p304 := eq_true p304
             replace q304 := eq_true q304
             go_wp2_with (first | ((with_reducible refine gate_callee (f := 32) rfl ?_); refine goesL_ (some 65) rfl rfl Try.func32 (by kernel_rfl) rfl #[.int .i64 ji4, .int .i64 (rd x6_1 x13_2)] rfl (by (try simp only [List.map_toArray, List.map_cons, List.map_nil]); first | done | (simp only [hji4]; rfl) | rfl | (simp only [List.length_drop, List.length_take]; rfl)) ?_; (with_reducible refine (flywheelref01_Mul.calls k2 ji4 (rd x6_1 x13_2) t305 _ A27.out).mono ?_); rintro e w' ⟨rfl, ⟨nd, rfl⟩⟩; refine ⟨_, rfl, ?_⟩) | ((with_reducible refine gate_callee (f := 30) rfl ?_); refine goesL_ (some 67) rfl rfl Try.func30 (by kernel_rfl) rfl #[.int .i64 t305, .int .i64 t302] rfl (by (try simp only [List.map_toArray, List.map_cons, List.map_nil]); first | done | rfl | (simp only [List.length_drop, List.length_take]; rfl)) ?_; (with_reducible refine (flywheelref01_Sub.calls k2 t305 t302 t306 _ A28.out).mono ?_); rintro e w' ⟨rfl, ⟨nd, rfl⟩⟩; refine ⟨_, rfl, ?_⟩; have p307 : 0 ≤ (x13_2 : Int) := of_decide_eq_true (by first | (with_reducible assumption) | assumption); have q307 : x13_2 < (x7_1.length : Int) := of_decide_eq_true (by first | (with_reducible assumption) | assumption); obtain ⟨ad307, e307, hx307_0⟩ := Kd.at_int (Kd.R_reads' HO_7.out).2.2 x13_2 p307 q307; cases e307; replace p307 := eq_true p307; replace q307 := eq_true q307) | ((with_reducible refine gate_callee (f := 32) rfl ?_); refine goesL_ (some 73) rfl rfl Try.func32 (by kernel_rfl) rfl #[.int .i64 ji4, .int .i64 (rd x7_1 x13_2)] rfl (by (try simp only [List.map_toArray, List.map_cons, List.map_nil]); first | done | (simp only [hji4]; rfl) | rfl | (simp only [List.length_drop, List.length_take]; rfl)) ?_; (with_reducible refine (flywheelref01_Mul.calls k2 ji4 (rd x7_1 x13_2) t308 _ A30.out).mono ?_); rintro e w' ⟨rfl, ⟨nd, rfl⟩⟩; refine ⟨_, rfl, ?_⟩) | ((with_reducible refine gate_callee (f := 30) rfl ?_); refine goesL_ (some 75) rfl rfl Try.func30 (by kernel_rfl) rfl #[.int .i64 t308, .int .i64 t303] rfl (by (try simp only [List.map_toArray, List.map_cons, List.map_nil]); first | done | rfl | (simp only [List.length_drop, List.length_take]; rfl)) ?_; (with_reducible refine (flywheelref01_Sub.calls k2 t308 t303 t309 _ A31.out).mono ?_); rintro e w' ⟨rfl, ⟨nd, rfl⟩⟩; refine ⟨_, rfl, ?_⟩) | ((with_reducible refine gate_callee (f := 32) rfl ?_); refine goesL_ (some 79) rfl rfl Try.func32 (by kernel_rfl) rfl #[.int .i64 t306, .int .i64 t309] rfl (by (try simp only [List.map_toArray, List.map_cons, List.map_nil]); first | done | rfl | (simp only [List.length_drop, List.length_take]; rfl)) ?_; (with_reducible refine (flywheelref01_Mul.calls k2 t306 t309 t310 _ A32.out).mono ?_); rintro e w' ⟨rfl, ⟨nd, rfl⟩⟩; refine ⟨_, rfl, ?_⟩) | ((with_reducible refine gate_builtin (b := .append) (xs := #[.tmp 76, .tmp 80]) rfl ?_); at_builtin; refine Kd.R_append (Kd.int .i64) (w0 := w) w.heap.size rfl (.tmp 76) (.tmp 80) 22 2 (.int .i64 0) 8 rfl Try.underlying22 info2 rfl (by decide) (by omega) u11 x11_2 t310 [.int .i64 t310] (fun k_ => some k_ ≠ (.slice (some ad304) x6_1.length co22 : Value).ownBlock ∧ some k_ ≠ (.slice (some ad307) x7_1.length co23 : Value).ownBlock ∧ some k_ ≠ (u12 : Value).ownBlock) (fun _ => False) rfl rfl ?aP (fun _ hk => hk.elim) ?aF ?aO ?aB ?aS ?aL ?_; (case aP => exact rfl); (case aB => exact (by repeat (first | (with_reducible first | exact HB.out | apply below_alloc | apply pw_below_drewN | apply below_drew1) | exact HB.out))); (case aF => exact (fun k_ hk => ⟨Kd.fresh' (Kd.R_lt (by (with_reducible repeat (first | apply Kd.R_alloc | apply Kd.R_drewN | apply Kd.R_drew)); exact HO_6.out)) k_ hk, Kd.fresh' (Kd.R_lt (by (with_reducible repeat (first | apply Kd.R_alloc | apply Kd.R_drewN | apply Kd.R_drew)); exact HO_7.out)) k_ hk, Kd.fresh' (Kd.R_lt (by (with_reducible repeat (first | apply Kd.R_alloc | apply Kd.R_drewN | apply Kd.R_drew)); exact HO_12.out)) k_ hk⟩)); (case aO => exact (by (with_reducible repeat (first | apply Kd.R_alloc | apply Kd.R_drewN | apply Kd.R_drew)); exact HO_11.out)); (case aS => exact (below_size (by repeat (first | (with_reducible first | exact HB.out | apply below_alloc | apply pw_below_drewN | apply below_drew1) | exact HB.out)))); (case aL => have := LMc33.out; omega); intro v312 w36 ho hb hg hat; rw [← Ny311.out] at ho; have n0_ := Aside0.mk (Kd.R_after (ok := (fun k_ => some k_ ≠ (.slice (some ad307) x7_1.length co23 : Value).ownBlock ∧ some k_ ≠ (u12 : Value).ownBlock)) (by (with_reducible repeat (first | apply Kd.R_alloc | apply Kd.R_drewN | apply Kd.R_drew)); exact Kd.R_mono HO_6.out (fun _ hk => ⟨⟨hk.1, hk.2.2⟩, hk.2.1⟩)) hg hat); have n1_ := Aside0.mk (Kd.R_after (ok := (fun k_ => some k_ ≠ (.slice (some ad304) x6_1.length co22 : Value).ownBlock ∧ some k_ ≠ (u12 : Value).ownBlock)) (by (with_reducible repeat (first | apply Kd.R_alloc | apply Kd.R_drewN | apply Kd.R_drew)); exact Kd.R_mono HO_7.out (fun _ hk => ⟨⟨hk.1, hk.2.2⟩, hk.2.1⟩)) hg hat); have n2_ := Aside0.mk (Kd.R_after (ok := (fun k_ => some k_ ≠ (.slice (some ad304) x6_1.length co22 : Value).ownBlock ∧ some k_ ≠ (.slice (some ad307) x7_1.length co23 : Value).ownBlock)) (by (with_reducible repeat (first | apply Kd.R_alloc | apply Kd.R_drewN | apply Kd.R_drew)); exact Kd.R_mono HO_12.out (fun _ hk => ⟨⟨hk.1, hk.2.1⟩, hk.2.2⟩)) hg hat); have n3_ := Aside0.mk (hb); have n4_ := Aside0.mk (ho); clear HO_6; clear HO_7; clear HO_12; clear HB; clear HO_11; have HO_6 := n0_; have HO_7 := n1_; have HO_12 := n2_; have HB := n3_; have HO313 := n4_; clear n0_ n1_ n2_ n3_ n4_; clear ho hb hg hat) | ((with_reducible refine gate_callee (f := 32) rfl ?_); refine goesL_ (some 85) rfl rfl Try.func32 (by kernel_rfl) rfl #[.int .i64 t306, .int .i64 t306] rfl (by (try simp only [List.map_toArray, List.map_cons, List.map_nil]); first | done | rfl | (simp only [List.length_drop, List.length_take]; rfl)) ?_; (with_reducible refine (flywheelref01_Mul.calls k2 t306 t306 t314 _ A34.out).mono ?_); rintro e w' ⟨rfl, ⟨nd, rfl⟩⟩; refine ⟨_, rfl, ?_⟩) | ((with_reducible refine gate_builtin (b := .append) (xs := #[.tmp 82, .tmp 86]) rfl ?_); at_builtin; refine Kd.R_append (Kd.int .i64) (w0 := w) w.heap.size rfl (.tmp 82) (.tmp 86) 22 2 (.int .i64 0) 8 rfl Try.underlying22 info2 rfl (by decide) (by omega) u12 x12_2 t314 [.int .i64 t314] (fun k_ => some k_ ≠ (.slice (some ad304) x6_1.length co22 : Value).ownBlock ∧ some k_ ≠ (.slice (some ad307) x7_1.length co23 : Value).ownBlock ∧ some k_ ≠ (v312 : Value).ownBlock) (fun _ => False) rfl rfl ?aP (fun _ hk => hk.elim) ?aF ?aO ?aB ?aS ?aL ?_; (case aP => exact rfl); (case aB => exact (by repeat (first | (with_reducible first | exact HB.out | apply below_alloc | apply pw_below_drewN | apply below_drew1) | exact HB.out))); (case aF => exact (fun k_ hk => ⟨Kd.fresh' (Kd.R_lt (by (with_reducible repeat (first | apply Kd.R_alloc | apply Kd.R_drewN | apply Kd.R_drew)); exact HO_6.out)) k_ hk, Kd.fresh' (Kd.R_lt (by (with_reducible repeat (first | apply Kd.R_alloc | apply Kd.R_drewN | apply Kd.R_drew)); exact HO_7.out)) k_ hk, Kd.fresh' (Kd.R_lt (by (with_reducible repeat (first | apply Kd.R_alloc | apply Kd.R_drewN | apply Kd.R_drew)); exact HO313.out)) k_ hk⟩)); (case aO => exact (by (with_reducible repeat (first | apply Kd.R_alloc | apply Kd.R_drewN | apply Kd.R_drew)); exact Kd.R_mono HO_12.out (fun _ hk => ⟨hk.1.1, ⟨hk.1.2, hk.2⟩⟩))); (case aS => exact (below_size (by repeat (first | (with_reducible first | exact HB.out | apply below_alloc | apply pw_below_drewN | apply below_drew1) | exact HB.out)))); (case aL => have := LMc35.out; omega); intro v316 w37 ho hb hg hat; rw [← Ny315.out] at ho; have n0_ := Aside0.mk (Kd.R_after (ok := (fun k_ => some k_ ≠ (.slice (some ad307) x7_1.length co23 : Value).ownBlock ∧ some k_ ≠ (v312 : Value).ownBlock)) (by (with_reducible repeat (first | apply Kd.R_alloc | apply Kd.R_drewN | apply Kd.R_drew)); exact Kd.R_mono HO_6.out (fun _ hk => ⟨⟨hk.1.1, hk.2⟩, hk.1.2⟩)) hg hat); have n1_ := Aside0.mk (Kd.R_after (ok := (fun k_ => some k_ ≠ (.slice (some ad304) x6_1.length co22 : Value).ownBlock ∧ some k_ ≠ (v312 : Value).ownBlock)) (by (with_reducible repeat (first | apply Kd.R_alloc | apply Kd.R_drewN | apply Kd.R_drew)); exact Kd.R_mono HO_7.out (fun _ hk => ⟨⟨hk.1.1, hk.2⟩, hk.1.2⟩)) hg hat); have n2_ := Aside0.mk (Kd.R_after (ok := (fun k_ => some k_ ≠ (.slice (some ad304) x6_1.length co22 : Value).ownBlock ∧ some k_ ≠ (.slice (some ad307) x7_1.length co23 : Value).ownBlock)) (by (with_reducible repeat (first | apply Kd.R_alloc | apply Kd.R_drewN | apply Kd.R_drew)); exact Kd.R_mono HO313.out (fun _ hk => ⟨⟨hk.1, hk.2.1⟩, hk.2.2⟩)) hg hat); have n3_ := Aside0.mk (hb); have n4_ := Aside0.mk (ho); clear HO_6; clear HO_7; clear HO313; clear HB; clear HO_12; have HO_6 := n0_; have HO_7 := n1_; have HO313 := n2_; have HB := n3_; have HO317 := n4_; clear n0_ n1_ n2_ n3_ n4_; clear ho hb hg hat))
             go_roundg k2
             case measure => have := HK1.out; have := HK2.out; omega
             case rel => exact ⟨(y311), (y315), (wrap64 (x13_2 + 1)), (by first | rfl | (simp; done) | (simp [*]; done)), H', ⟨by have := HK1.out; have := HK2.out; omega⟩, ⟨by (with_reducible repeat (first | apply Kd.R_alloc | apply Kd.R_drewN | apply Kd.R_drew)); exact Kd.R_mono HO_6.out (fun _ hk => ⟨hk.1.1, ⟨hk.1.2, hk.2⟩⟩)⟩, ⟨by (with_reducible repeat (first | apply Kd.R_alloc | apply Kd.R_drewN | apply Kd.R_drew)); exact Kd.R_mono HO_7.out (fun _ hk => ⟨hk.1.1, ⟨hk.1.2, hk.2⟩⟩)⟩, ⟨by (with_reducible repeat (first | apply Kd.R_alloc | apply Kd.R_drewN | apply Kd.R_drew)); exact Kd.R_mono HO313.out (fun _ hk => ⟨hk.1.1, ⟨hk.1.2, hk.2⟩⟩)⟩, ⟨by (with_reducible repeat (first | apply Kd.R_alloc | apply Kd.R_drewN | apply Kd.R_drew)); exact HO317.out⟩, ⟨by repeat (first | (with_reducible first | exact HB.out | apply below_alloc | apply pw_below_drewN | apply below_drew1) | exact HB.out)⟩⟩
            ·rw [if_neg c35] at H
             exact absurd H (by simp)
           ·rw [if_neg c33] at H
            exact absurd H (by simp)
          ·rw [if_neg c29] at H
           exact absurd H (by simp)
         ·rw [if_neg c26] at H
          exact absurd H (by simp)
        ·rw [if_neg c25] at H
         exact absurd H (by simp)
       ·rw [if_neg c24] at H
        have c24b0 : decide (x13_2 < ji4) = false := decide_eq_false c24
        clear c24
        replace H := Option.bind_eq_some_iff.mp H
        obtain ⟨t318, A380, H⟩ := H
        replace H : (if t318 = 0 then (some 0) else ((flywheelref01_Sum.f k2 x11_2).bind fun t319 => ((flywheelref03_Div.f t319 t318).bind fun t320 => (some t320)))) = some r := H
        have A38 := Aside0.mk A380
        clear A380
        by_cases c39 : t318 = 0
        ·rw [if_pos c39] at H
         have c39b0 : (t318 == 0) = true := beq_iff_eq.mpr c39
         have c39b1 : (t318 != 0) = false := bne_eq_false_iff_eq.mpr c39
         clear c39
         obtain rfl := Option.some.inj H
         obtain ⟨Ao40, co40, eo40⟩ := Kd.R_slice HO_12.out
         subst eo40
         go_wp2_with (first | ((with_reducible refine gate_callee (f := 31) rfl ?_); refine goesL_ (some 89) rfl rfl Try.func31 (by kernel_rfl) rfl #[.slice Ao40 x12_2.length co40] rfl (by (try simp only [List.map_toArray, List.map_cons, List.map_nil]); first | done | rfl | (simp only [List.length_drop, List.length_take]; rfl)) ?_; (with_reducible refine (flywheelref01_Sum.calls k2 _ _ x12_2 t318 _ ?side1 ?side2 A38.out).mono ?_); (case side1 => repeat (first | exact (Kd.R_reads' HO_12.out).2.2 | (with_reducible refine Kd.C_alloc ?_ _) | (with_reducible refine Kd.C_drewN ?_ _) | (with_reducible refine Kd.C_drew ?_))); (case side2 => exact (Kd.R_reads' HO_12.out).2.1); rintro e w' ⟨rfl, ⟨nd, rfl⟩⟩; refine ⟨_, rfl, ?_⟩))
         go_ret
         exact ⟨by first | rfl | (simp [errW_none, errW_some] <;> rfl) | (simp only [← hji3, ← hji4]; first | rfl | (simp [errW_none, errW_some] <;> rfl)) | (simp [*, errW_none, errW_some] <;> rfl), by repeat (first | (with_reducible first | exact HB.out | apply below_alloc | apply pw_below_drewN | apply below_drew1) | exact HB.out)⟩
        ·rw [if_neg c39] at H
         have c39b0 : (t318 == 0) = false := beq_eq_false_iff_ne.mpr c39
         have c39b1 : (t318 != 0) = true := bne_iff_ne.mpr c39
         replace H := Option.bind_eq_some_iff.mp H
         obtain ⟨t319, A410, H⟩ := H
         replace H : ((flywheelref03_Div.f t319 t318).bind fun t320 => (some t320)) = some r := H
         have A41 := Aside0.mk A410
         clear A410
         replace H := Option.bind_eq_some_iff.mp H
         obtain ⟨t320, A420, H⟩ := H
         replace H : (some t320) = some r := H
         have A42 := Aside0.mk A420
         clear A420
         obtain rfl := Option.some.inj H
         obtain ⟨Ao43, co43, eo43⟩ := Kd.R_slice HO_12.out
         subst eo43
         go_wp2_with (first | ((with_reducible refine gate_callee (f := 31) rfl ?_); refine goesL_ (some 89) rfl rfl Try.func31 (by kernel_rfl) rfl #[.slice Ao43 x12_2.length co43] rfl (by (try simp only [List.map_toArray, List.map_cons, List.map_nil]); first | done | rfl | (simp only [List.length_drop, List.length_take]; rfl)) ?_; (with_reducible refine (flywheelref01_Sum.calls k2 _ _ x12_2 t318 _ ?side1 ?side2 A38.out).mono ?_); (case side1 => repeat (first | exact (Kd.R_reads' HO_12.out).2.2 | (with_reducible refine Kd.C_alloc ?_ _) | (with_reducible refine Kd.C_drewN ?_ _) | (with_reducible refine Kd.C_drew ?_))); (case side2 => exact (Kd.R_reads' HO_12.out).2.1); rintro e w' ⟨rfl, ⟨nd, rfl⟩⟩; refine ⟨_, rfl, ?_⟩; obtain ⟨Ao44, co44, eo44⟩ := Kd.R_slice HO_11.out; subst eo44) | ((with_reducible refine gate_callee (f := 31) rfl ?_); refine goesL_ (some 93) rfl rfl Try.func31 (by kernel_rfl) rfl #[.slice Ao44 x11_2.length co44] rfl (by (try simp only [List.map_toArray, List.map_cons, List.map_nil]); first | done | rfl | (simp only [List.length_drop, List.length_take]; rfl)) ?_; (with_reducible refine (flywheelref01_Sum.calls k2 _ _ x11_2 t319 _ ?side1 ?side2 A41.out).mono ?_); (case side1 => repeat (first | exact (Kd.R_reads' HO_11.out).2.2 | (with_reducible refine Kd.C_alloc ?_ _) | (with_reducible refine Kd.C_drewN ?_ _) | (with_reducible refine Kd.C_drew ?_))); (case side2 => exact (Kd.R_reads' HO_11.out).2.1); rintro e w' ⟨rfl, ⟨nd, rfl⟩⟩; refine ⟨_, rfl, ?_⟩) | ((with_reducible refine gate_callee (f := 33) rfl ?_); refine goesL_ (some 95) rfl rfl Try.func33 (by kernel_rfl) rfl #[.int .i64 t319, .int .i64 t318] rfl (by (try simp only [List.map_toArray, List.map_cons, List.map_nil]); first | done | rfl | (simp only [List.length_drop, List.length_take]; rfl)) ?_; (with_reducible refine (flywheelref03_Div.calls t319 t318 t320 _ A42.out).mono ?_); rintro e w45 ⟨rfl, hb⟩; refine ⟨_, rfl, ?_⟩; have n0_ := Aside0.mk (Kd.R_below (by (with_reducible repeat (first | apply Kd.R_alloc | apply Kd.R_drewN | apply Kd.R_drew)); exact HO_6.out) hb); have n1_ := Aside0.mk (Kd.R_below (by (with_reducible repeat (first | apply Kd.R_alloc | apply Kd.R_drewN | apply Kd.R_drew)); exact HO_7.out) hb); have n2_ := Aside0.mk (Kd.R_below (by (with_reducible repeat (first | apply Kd.R_alloc | apply Kd.R_drewN | apply Kd.R_drew)); exact HO_11.out) hb); have n3_ := Aside0.mk (Kd.R_below (by (with_reducible repeat (first | apply Kd.R_alloc | apply Kd.R_drewN | apply Kd.R_drew)); exact HO_12.out) hb); have n4_ := Aside0.mk (below_step (by repeat (first | (with_reducible first | exact HB.out | apply below_alloc | apply pw_below_drewN | apply below_drew1) | exact HB.out)) hb); clear HO_6; clear HO_7; clear HO_11; clear HO_12; clear HB; have HO_6 := n0_; have HO_7 := n1_; have HO_11 := n2_; have HO_12 := n3_; have HB := n4_; clear n0_ n1_ n2_ n3_ n4_; (try clear hb); (try clear hb2); (try clear hk); (try clear hi)))
         go_ret
         exact ⟨by first | rfl | (simp [errW_none, errW_some] <;> rfl) | (simp only [← hji3, ← hji4]; first | rfl | (simp [errW_none, errW_some] <;> rfl)) | (simp [*, errW_none, errW_some] <;> rfl), by repeat (first | (with_reducible first | exact HB.out | apply below_alloc | apply pw_below_drewN | apply below_drew1) | exact HB.out)⟩
def flywheelkeep_Longs.l0 : Nat → List Int → List Int → Int → Option (Bool)
 | 0, _, _, _ => none
 | k + 1, x0, x1, x5 => if x5 < (x0.length : Int) then (if 0 ≤ x5 then (if x5 < (x1.length : Int) then (if (rd x0 x5) = (rd x1 x5) then (flywheelkeep_Longs.l0 k x0 x1 (wrap64 (x5 + 1))) else (some false)) else (none)) else (none)) else (some true)
def flywheelkeep_Longs.f (k : Nat) (l0 : List Int) (l1 : List Int) : Option (Bool) := if (l0.length : Int) = (l1.length : Int) then (flywheelkeep_Longs.l0 k l0 l1 0) else (some false)
set_option maxHeartbeats 8000000 in
set_option maxRecDepth 100000 in
theorem flywheelkeep_Longs.calls (k : Nat) (A0 : Option Addr) (c0 : Nat) (l0 : List Int) (A1 : Option Addr) (c1 : Nat) (l1 : List Int) (r : Bool) (w : World) (hr0 : Kd.C (Kd.int .i64) w A0 l0.length l0) (hc0 : l0.length ≤ c0) (hr1 : Kd.C (Kd.int .i64) w A1 l1.length l1) (hc1 : l1.length ≤ c1) (h : flywheelkeep_Longs.f k l0 l1 = some r) :
  Calls Try.prog 13 #[.slice A0 l0.length c0, .slice A1 l1.length c1] w fun e w' => e = .returned (.bool r) ∧ Drawn0 w w' := by
 have HR0 := Aside0.mk hr0
 have HC0 := Aside0.mk hc0
 clear hr0 hc0
 have HR1 := Aside0.mk hr1
 have HC1 := Aside0.mk hc1
 clear hr1 hc1
 have H : (if (l0.length : Int) = (l1.length : Int) then (flywheelkeep_Longs.l0 k l0 l1 0) else (some false)) = some r := h
 clear h
 by_cases c3 : (l0.length : Int) = (l1.length : Int)
 ·rw [if_pos c3] at H
  have c3b0 : ((l0.length : Int) == (l1.length : Int)) = true := beq_iff_eq.mpr c3
  have c3b1 : ((l0.length : Int) != (l1.length : Int)) = false := bne_eq_false_iff_eq.mpr c3
  have c3b2 : (l0.length == l1.length) = true := by first | simpa using c3 | (simp at c3 ⊢; omega)
  clear c3
  have H' := Aside0.mk H
  clear H
  go_enter Try.func13, Try.ntmps13
  go_wp2
  repeat (go_quiet (fail); try go_wp2)
  go_loopg [5] k (fun kq v5 w' => ∃ (x5_1 : Int), v5 = .int .i64 x5_1 ∧ Aside0 (flywheelkeep_Longs.l0 kq l0 l1 x5_1 = some r) ∧ Aside0 (kq ≤ k) ∧ Drawn0 w w')
  case atStart => exact ⟨(0), (by first | rfl | (simp; done) | (simp [*]; done)), H', ⟨Nat.le_refl _⟩, by repeat (first | exact Drawn0.refl _ | apply Drawn0.step)⟩
  case round =>
   clear H'
   try clear c1
   try clear p2
   try clear c3
   try clear c3b0
   try clear c3b1
   try clear c3b2
   obtain ⟨x5_1, rfl, HA, HK1, ⟨m1, rfl⟩⟩ := hrel
   cases gk with
   | zero => exact absurd HA.out (by simp [flywheelkeep_Longs.l0])
   | succ k1 =>
    have H := HA.out
    clear HA
    simp only [flywheelkeep_Longs.l0] at H
    by_cases c4 : x5_1 < (l0.length : Int)
    ·rw [if_pos c4] at H
     have c4b0 : decide (x5_1 < (l0.length : Int)) = true := decide_eq_true c4
     clear c4
     by_cases c5 : 0 ≤ x5_1
     ·rw [if_pos c5] at H
      have c5b0 : decide (0 ≤ x5_1) = true := decide_eq_true c5
      clear c5
      by_cases c6 : x5_1 < (l1.length : Int)
      ·rw [if_pos c6] at H
       have c6b0 : decide (x5_1 < (l1.length : Int)) = true := decide_eq_true c6
       clear c6
       by_cases c7 : (rd l0 x5_1) = (rd l1 x5_1)
       ·rw [if_pos c7] at H
        have c7b0 : ((rd l0 x5_1) == (rd l1 x5_1)) = true := beq_iff_eq.mpr c7
        have c7b1 : ((rd l0 x5_1) != (rd l1 x5_1)) = false := bne_eq_false_iff_eq.mpr c7
        clear c7
        have H' := Aside0.mk H
        clear H
        have p321 : 0 ≤ (x5_1 : Int) := of_decide_eq_true (by first | (with_reducible assumption) | assumption)
        have q321 : x5_1 < (l0.length : Int) := of_decide_eq_true (by first | (with_reducible assumption) | assumption)
        obtain ⟨ad321, e321, hx321_0⟩ := Kd.at_int HR0.out x5_1 p321 q321
        cases e321
        replace p321 := eq_true p321
        replace q321 := eq_true q321
        have p322 : 0 ≤ (x5_1 : Int) := of_decide_eq_true (by first | (with_reducible assumption) | assumption)
        have q322 : x5_1 < (l1.length : Int) := of_decide_eq_true (by first | (with_reducible assumption) | assumption)
        obtain ⟨ad322, e322, hx322_0⟩ := Kd.at_int HR1.out x5_1 p322 q322
        cases e322
        replace p322 := eq_true p322
        replace q322 := eq_true q322
        go_wp2
        repeat (go_quiet (fail); try go_wp2)
        go_roundg k1
        case measure => have := HK1.out; omega
        case rel => exact ⟨(wrap64 (x5_1 + 1)), (by first | rfl | (simp; done) | (simp [*]; done)), H', ⟨by have := HK1.out; omega⟩, by repeat (first | exact Drawn0.refl _ | apply Drawn0.step)⟩
       ·rw [if_neg c7] at H
        have c7b0 : ((rd l0 x5_1) == (rd l1 x5_1)) = false := beq_eq_false_iff_ne.mpr c7
        have c7b1 : ((rd l0 x5_1) != (rd l1 x5_1)) = true := bne_iff_ne.mpr c7
        obtain rfl := Option.some.inj H
        have p321 : 0 ≤ (x5_1 : Int) := of_decide_eq_true (by first | (with_reducible assumption) | assumption)
        have q321 : x5_1 < (l0.length : Int) := of_decide_eq_true (by first | (with_reducible assumption) | assumption)
        obtain ⟨ad321, e321, hx321_0⟩ := Kd.at_int HR0.out x5_1 p321 q321
        cases e321
        replace p321 := eq_true p321
        replace q321 := eq_true q321
        have p322 : 0 ≤ (x5_1 : Int) := of_decide_eq_true (by first | (with_reducible assumption) | assumption)
        have q322 : x5_1 < (l1.length : Int) := of_decide_eq_true (by first | (with_reducible assumption) | assumption)
        obtain ⟨ad322, e322, hx322_0⟩ := Kd.at_int HR1.out x5_1 p322 q322
        cases e322
        replace p322 := eq_true p322
        replace q322 := eq_true q322
        go_wp2
        repeat (go_quiet (fail); try go_wp2)
        go_ret
        exact ⟨by first | rfl | (simp; done) | (simp [*]; done), by repeat (first | exact Drawn0.refl _ | apply Drawn0.step)⟩
      ·rw [if_neg c6] at H
       exact absurd H (by simp)
     ·rw [if_neg c5] at H
      exact absurd H (by simp)
    ·rw [if_neg c4] at H
     have c4b0 : decide (x5_1 < (l0.length : Int)) = false := decide_eq_false c4
     clear c4
     obtain rfl := Option.some.inj H
     go_wp2
     repeat (go_quiet (fail); try go_wp2)
     go_ret
     exact ⟨by first | rfl | (simp; done) | (simp [*]; done), by repeat (first | exact Drawn0.refl _ | apply Drawn0.step)⟩
 ·rw [if_neg c3] at H
  have c3b0 : ((l0.length : Int) == (l1.length : Int)) = false := beq_eq_false_iff_ne.mpr c3
  have c3b1 : ((l0.length : Int) != (l1.length : Int)) = true := bne_iff_ne.mpr c3
  have c3b2 : (l0.length == l1.length) = false := by first | simpa using c3 | (simp at c3 ⊢; omega)
  obtain rfl := Option.some.inj H
  go_enter Try.func13, Try.ntmps13
  go_wp2
  repeat (go_quiet (fail); try go_wp2)
  go_ret
  exact ⟨by first | rfl | (simp; done) | (simp [*]; done), by repeat (first | exact Drawn0.refl _ | apply Drawn0.step)⟩
end Go.Proofs.Ytmcfgaokimlngaa.P
end

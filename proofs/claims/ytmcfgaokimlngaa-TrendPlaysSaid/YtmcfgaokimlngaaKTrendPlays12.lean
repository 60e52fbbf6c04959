-- PUT TOGETHER by a program of this session: of the claim's texts, what is used
import Derived.Test.YtmcfgaokimlngaaKTrendPlays2
import Derived.Test.YtmcfgaokimlngaaKTrendPlays7
import Derived.Test.YtmcfgaokimlngaaKTrendPlays10
import Derived.Test.YtmcfgaokimlngaaKTrendPlays11
section
namespace Go.Proofs.Ytmcfgaokimlngaa.P
open Go.RowKit Go.Proofs.YtmcfgaokimlngaaW.PrintWords Go.Proofs.YtmcfgaokimlngaaW.PrintLast Go.Proofs.YtmcfgaokimlngaaW.PrintMore
attribute [local go_sem] max2_int min2_int max_two min_two max_three min_three max_four min_four   -- for this text's walks alone
set_option linter.unusedVariables false
set_option linter.unusedSimpArgs false
def flywheelref01_Add.j0 : Nat → Int → Int → Bool → Option (Int)
 | 0, _, _, _ => none
 | k + 1, x0, x1, x12 => if x12 = true then (some 9223372036854775807) else (if x1 < 0 then (if x0 < (wrap64 ((-9223372036854775808) - x1)) then (some (-9223372036854775808)) else (some (wrap64 (x0 + x1)))) else (some (wrap64 (x0 + x1))))
def flywheelref01_Add.f (k : Nat) (a0 : Int) (a1 : Int) : Option (Int) := if a1 > 0 then (flywheelref01_Add.j0 k a0 a1 (decide (a0 > (wrap64 (9223372036854775807 - a1))))) else (flywheelref01_Add.j0 k a0 a1 false)
set_option maxHeartbeats 8000000 in
set_option maxRecDepth 100000 in
theorem flywheelref01_Add.calls (k : Nat) (a0 : Int) (a1 : Int) (r : Int) (w : World) (h : flywheelref01_Add.f k a0 a1 = some r) :
  Calls Try.prog 38 #[.int .i64 a0, .int .i64 a1] w fun e w' => e = .returned (.int .i64 r) ∧ Drawn0 w w' := by
 have H : (if a1 > 0 then (flywheelref01_Add.j0 k a0 a1 (decide (a0 > (wrap64 (9223372036854775807 - a1))))) else (flywheelref01_Add.j0 k a0 a1 false)) = some r := h
 clear h
 have HC3 := Aside0.mk H
 clear H
 go_enter Try.func38, Try.ntmps38
 go_upto_region 1 with (fail)
 go_cut [12] (fun v12 wc => ∃ (kq : Nat) (x12_2 : Bool), v12 = .bool x12_2 ∧ Aside0 (flywheelref01_Add.j0 kq a0 a1 x12_2 = some r) ∧ Aside0 (kq ≤ k) ∧ Drawn0 w wc)
 case first =>
  have H := HC3.out
  clear HC3
  by_cases c4 : a1 > 0
  ·rw [if_pos c4] at H
   have c4b0 : decide (0 < a1) = true := decide_eq_true c4
   clear c4
   (first | rw [c4b0] | (simp only [i64_w, i32_w]; rw [c4b0]) | skip)
   have H' := Aside0.mk H
   clear H
   go_wp2
   go_meet
   case rel => exact ⟨_, (decide (a0 > (wrap64 (9223372036854775807 - a1)))), (by first | rfl | (simp; done) | (simp [*]; done)), H', ⟨by first | omega | exact Nat.le_refl _⟩, by repeat (first | exact Drawn0.refl _ | apply Drawn0.step)⟩
  ·rw [if_neg c4] at H
   have c4b0 : decide (0 < a1) = false := decide_eq_false c4
   clear c4
   (first | rw [c4b0] | (simp only [i64_w, i32_w]; rw [c4b0]) | skip)
   have H' := Aside0.mk H
   clear H
   go_wp2
   go_meet
   case rel => exact ⟨_, (false), (by first | rfl | (simp; done) | (simp [*]; done)), H', ⟨by first | omega | exact Nat.le_refl _⟩, by repeat (first | exact Drawn0.refl _ | apply Drawn0.step)⟩
 case rest =>
  clear HC3
  try clear p2
  try clear c3
  try clear c4
  try clear c4b0
  obtain ⟨kq, x12_2, rfl, HA, HJ2, ⟨mc2, rfl⟩⟩ := hcut
  cases kq with
  | zero => exact absurd HA.out (by simp [flywheelref01_Add.j0])
  | succ kj2 =>
   have H := HA.out
   clear HA
   simp only [flywheelref01_Add.j0] at H
   by_cases c5 : x12_2 = true
   ·subst c5
    have H1 : (some 9223372036854775807) = some r := by rw [if_pos rfl] at H; exact H
    clear H
    have H := H1
    clear H1
    obtain rfl := Option.some.inj H
    go_wp2
    go_ret
    exact ⟨by first | rfl | (simp; done) | (simp [*]; done), by repeat (first | exact Drawn0.refl _ | apply Drawn0.step)⟩
   ·replace c5 := Bool.eq_false_iff.mpr c5
    subst c5
    have H1 : (if a1 < 0 then (if a0 < (wrap64 ((-9223372036854775808) - a1)) then (some (-9223372036854775808)) else (some (wrap64 (a0 + a1)))) else (some (wrap64 (a0 + a1)))) = some r := by rw [if_neg (show ¬ (false = true) by decide)] at H; exact H
    clear H
    have H := H1
    clear H1
    by_cases c6 : a1 < 0
    ·rw [if_pos c6] at H
     have c6b0 : decide (a1 < 0) = true := decide_eq_true c6
     clear c6
     by_cases c7 : a0 < (wrap64 ((-9223372036854775808) - a1))
     ·rw [if_pos c7] at H
      have c7b0 : decide (a0 < (wrap64 ((-9223372036854775808) - a1))) = true := decide_eq_true c7
      clear c7
      obtain rfl := Option.some.inj H
      go_wp2
      go_ret
      exact ⟨by first | rfl | (simp; done) | (simp [*]; done), by repeat (first | exact Drawn0.refl _ | apply Drawn0.step)⟩
     ·rw [if_neg c7] at H
      have c7b0 : decide (a0 < (wrap64 ((-9223372036854775808) - a1))) = false := decide_eq_false c7
      clear c7
      obtain rfl := Option.some.inj H
      go_wp2
      go_ret
      exact ⟨by first | rfl | (simp; done) | (simp [*]; done), by repeat (first | exact Drawn0.refl _ | apply Drawn0.step)⟩
    ·rw [if_neg c6] at H
     have c6b0 : decide (a1 < 0) = false := decide_eq_false c6
     clear c6
     obtain rfl := Option.some.inj H
     go_wp2
     go_ret
     exact ⟨by first | rfl | (simp; done) | (simp [*]; done), by repeat (first | exact Drawn0.refl _ | apply Drawn0.step)⟩
def flywheelref03_Mul.f (a0 : Int) (a1 : Int) : Option (Int) := (flywheelref02_Do.f a0 a1 4294967296 2).bind fun t343 => (some t343)
set_option maxHeartbeats 8000000 in
set_option maxRecDepth 100000 in
theorem flywheelref03_Mul.calls (a0 : Int) (a1 : Int) (r : Int) (w : World) (h : flywheelref03_Mul.f a0 a1 = some r) :
  Calls Try.prog 49 #[.int .i64 a0, .int .i64 a1] w fun e w' => e = .returned (.int .i64 r) ∧ Below w.heap.size w w' := by
 have HB := Aside0.mk (Below.refl w.heap.size w)
 have H : ((flywheelref02_Do.f a0 a1 4294967296 2).bind fun t343 => (some t343)) = some r := h
 clear h
 replace H := Option.bind_eq_some_iff.mp H
 obtain ⟨t343, A30, H⟩ := H
 replace H : (some t343) = some r := H
 have A3 := Aside0.mk A30
 clear A30
 obtain rfl := Option.some.inj H
 go_enter Try.func49, Try.ntmps49
 go_wp2_with (first | ((with_reducible refine gate_callee (f := 47) rfl ?_); refine goesL_ (some 7) rfl rfl Try.func47 (by kernel_rfl) rfl #[.int .i64 a0, .int .i64 a1, .int .i64 4294967296, .int .i64 2] rfl (by (try simp only [List.map_toArray, List.map_cons, List.map_nil]); first | done | rfl | (simp only [List.length_drop, List.length_take]; rfl)) ?_; (with_reducible refine (flywheelref02_Do.calls a0 a1 4294967296 2 t343 _ A3.out).mono ?_); rintro e w4 ⟨rfl, hb⟩; refine ⟨_, rfl, ?_⟩; have n0_ := Aside0.mk (below_step (by repeat (first | (with_reducible first | exact HB.out | apply below_alloc | apply pw_below_drewN | apply below_drew1) | exact HB.out)) hb); clear HB; have HB := n0_; clear n0_; (try clear hb); (try clear hb2); (try clear hk); (try clear hi)))
 go_ret
 exact ⟨by first | rfl | (simp [errW_none, errW_some] <;> rfl) | (simp [*, errW_none, errW_some] <;> rfl), by repeat (first | (with_reducible first | exact HB.out | apply below_alloc | apply pw_below_drewN | apply below_drew1) | exact HB.out)⟩
def flywheelref03_Mix.f (k : Nat) (a0 : Int) (a1 : Int) (a2 : Int) : Option (Int) := (flywheelref01_Sub.f k a1 a0).bind fun t344 => ((flywheelref03_Mul.f t344 a2).bind fun t345 => ((flywheelref01_Add.f k a0 t345).bind fun t346 => (some t346)))
set_option maxHeartbeats 8000000 in
set_option maxRecDepth 100000 in
theorem flywheelref03_Mix.calls (k : Nat) (a0 : Int) (a1 : Int) (a2 : Int) (r : Int) (w : World) (h : flywheelref03_Mix.f k a0 a1 a2 = some r) :
  Calls Try.prog 39 #[.int .i64 a0, .int .i64 a1, .int .i64 a2] w fun e w' => e = .returned (.int .i64 r) ∧ Below w.heap.size w w' := by
 have HB := Aside0.mk (Below.refl w.heap.size w)
 have H : ((flywheelref01_Sub.f k a1 a0).bind fun t344 => ((flywheelref03_Mul.f t344 a2).bind fun t345 => ((flywheelref01_Add.f k a0 t345).bind fun t346 => (some t346)))) = some r := h
 clear h
 replace H := Option.bind_eq_some_iff.mp H
 obtain ⟨t344, A40, H⟩ := H
 replace H : ((flywheelref03_Mul.f t344 a2).bind fun t345 => ((flywheelref01_Add.f k a0 t345).bind fun t346 => (some t346))) = some r := H
 have A4 := Aside0.mk A40
 clear A40
 replace H := Option.bind_eq_some_iff.mp H
 obtain ⟨t345, A50, H⟩ := H
 replace H : ((flywheelref01_Add.f k a0 t345).bind fun t346 => (some t346)) = some r := H
 have A5 := Aside0.mk A50
 clear A50
 replace H := Option.bind_eq_some_iff.mp H
 obtain ⟨t346, A60, H⟩ := H
 replace H : (some t346) = some r := H
 have A6 := Aside0.mk A60
 clear A60
 obtain rfl := Option.some.inj H
 go_enter Try.func39, Try.ntmps39
 go_wp2_with (first | ((with_reducible refine gate_callee (f := 30) rfl ?_); refine goesL_ (some 10) rfl rfl Try.func30 (by kernel_rfl) rfl #[.int .i64 a1, .int .i64 a0] rfl (by (try simp only [List.map_toArray, List.map_cons, List.map_nil]); first | done | rfl | (simp only [List.length_drop, List.length_take]; rfl)) ?_; (with_reducible refine (flywheelref01_Sub.calls k a1 a0 t344 _ A4.out).mono ?_); rintro e w' ⟨rfl, ⟨nd, rfl⟩⟩; refine ⟨_, rfl, ?_⟩) | ((with_reducible refine gate_callee (f := 49) rfl ?_); refine goesL_ (some 12) rfl rfl Try.func49 (by kernel_rfl) rfl #[.int .i64 t344, .int .i64 a2] rfl (by (try simp only [List.map_toArray, List.map_cons, List.map_nil]); first | done | rfl | (simp only [List.length_drop, List.length_take]; rfl)) ?_; (with_reducible refine (flywheelref03_Mul.calls t344 a2 t345 _ A5.out).mono ?_); rintro e w7 ⟨rfl, hb⟩; refine ⟨_, rfl, ?_⟩; have n0_ := Aside0.mk (below_step (by repeat (first | (with_reducible first | exact HB.out | apply below_alloc | apply pw_below_drewN | apply below_drew1) | exact HB.out)) hb); clear HB; have HB := n0_; clear n0_; (try clear hb); (try clear hb2); (try clear hk); (try clear hi)) | ((with_reducible refine gate_callee (f := 38) rfl ?_); refine goesL_ (some 13) rfl rfl Try.func38 (by kernel_rfl) rfl #[.int .i64 a0, .int .i64 t345] rfl (by (try simp only [List.map_toArray, List.map_cons, List.map_nil]); first | done | rfl | (simp only [List.length_drop, List.length_take]; rfl)) ?_; (with_reducible refine (flywheelref01_Add.calls k a0 t345 t346 _ A6.out).mono ?_); rintro e w' ⟨rfl, ⟨nd, rfl⟩⟩; refine ⟨_, rfl, ?_⟩))
 go_ret
 exact ⟨by first | rfl | (simp [errW_none, errW_some] <;> rfl) | (simp [*, errW_none, errW_some] <;> rfl), by repeat (first | (with_reducible first | exact HB.out | apply below_alloc | apply pw_below_drewN | apply below_drew1) | exact HB.out)⟩
end Go.Proofs.Ytmcfgaokimlngaa.P
end

section
namespace Go.Proofs.Ytmcfgaokimlngaa.P
open Go.RowKit Go.Proofs.YtmcfgaokimlngaaW.PrintWords Go.Proofs.YtmcfgaokimlngaaW.PrintLast Go.Proofs.YtmcfgaokimlngaaW.PrintMore
attribute [local go_sem] max2_int min2_int max_two min_two max_three min_three max_four min_four   -- for this text's walks alone
set_option linter.unusedVariables false
set_option linter.unusedSimpArgs false
def flywheelref17_Trend_Add.f (k : Nat) (s0_0 : Int) (s0_1 : Int) (s0_2 : List Int) (s0_3 : List Int) (s0_4 : Int) (s0_5 : Int) (s0_6 : Int) (s0_7 : Int) (a1 : Int) (a2 : Int) : Option (Int × Int × Int × List Int × List Int × Int × Int × Int × Int) := (flywheelref01_Clamp.f a1 (-1125899906842624) 1125899906842624).bind fun t348 => ((flywheelref01_Clamp.f a2 (-1125899906842624) 1125899906842624).bind fun t349 => ((flywheelref01_Add.f k s0_5 (wrap64 (t349 - t348))).bind fun t350 => ((flywheelref03_Mix.f k t350 s0_6 s0_1).bind fun t351 => ((flywheelref01_Add.f k s0_4 t348).bind fun t352 => (if s0_2.length = s0_3.length ∧ s0_2.length < 17592186044416 then (if s0_0 < ((s0_2 ++ [t352]).length : Int) then flywheelref17_Trend_Slope.f k s0_0 s0_1 ((s0_2 ++ [t352]).drop 1) ((s0_3 ++ [t351]).drop 1) t352 t350 t351 (mn (wrap64 (s0_7 + 1)) 1000) else flywheelref17_Trend_Slope.f k s0_0 s0_1 (s0_2 ++ [t352]) (s0_3 ++ [t351]) t352 t350 t351 (mn (wrap64 (s0_7 + 1)) 1000)) else none)))))
def flywheelref17_Trend_Add.T4 : Bool × List (List Nat × List Nat) := (true, [([], []), ([], []), ([1], [1]), ([2], [2]), ([3], [3]), ([], []), ([5], [5]), ([6], [6]), ([7], [7]), ([], []), ([9], [9]), ([10], [10]), ([11], [11]), ([4, 8, 12], [4, 8, 12]), ([0, 0, 1, 2, 3, 4, 5, 6, 7, 8, 9, 10, 11, 12, 13], [0]), ([14, 0, 1, 2, 3, 4, 5, 6, 7, 8, 9, 10, 11, 12, 13], [14]), ([15, 13, 13, 0, 1, 2, 3, 4, 5, 6, 7, 8, 9, 10, 11, 12, 13], [13, 15])])
def flywheelref17_Trend_Add.B4 : List Nat := [0, 0, 2, 6, 14, 0, 32, 96, 224, 0, 512, 1536, 3584, 8190, 16383, 32767, 65535]
theorem flywheelref17_Trend_Add.tab4 : rtab .any (opsOf Try.f17 4) = flywheelref17_Trend_Add.T4 := by kernel_rfl
theorem flywheelref17_Trend_Add.bits4 : waitsOk flywheelref17_Trend_Add.T4.2 flywheelref17_Trend_Add.B4 = true := by kernel_rfl
def flywheelref17_Trend_Add.T6 : Bool × List (List Nat × List Nat) := (true, [([], []), ([], []), ([], []), ([2], [2]), ([3], [3]), ([4], [4]), ([1, 5], [1, 5]), ([], []), ([7], [7]), ([8], [8]), ([9], [9]), ([10], [10]), ([6, 11, 6], [6, 11]), ([0, 0, 1, 2, 3, 4, 5, 6, 7, 8, 9, 10, 11, 12], [0]), ([13, 0, 1, 2, 3, 4, 5, 6, 7, 8, 9, 10, 11, 12], [13]), ([14, 12, 12, 0, 1, 2, 3, 4, 5, 6, 7, 8, 9, 10, 11, 12], [12, 14])])
def flywheelref17_Trend_Add.B6 : List Nat := [0, 0, 0, 4, 12, 28, 62, 0, 128, 384, 896, 1920, 4094, 8191, 16383, 32767]
theorem flywheelref17_Trend_Add.tab6 : rtab .any (opsOf Try.f17 6) = flywheelref17_Trend_Add.T6 := by kernel_rfl
theorem flywheelref17_Trend_Add.bits6 : waitsOk flywheelref17_Trend_Add.T6.2 flywheelref17_Trend_Add.B6 = true := by kernel_rfl
def flywheelref17_Trend_Add.T7 : Bool × List (List Nat × List Nat) := (true, [([], []), ([], []), ([], []), ([2], [2]), ([3], [3]), ([4], [4]), ([1, 5], [1, 5]), ([], []), ([7], [7]), ([8], [8]), ([9], [9]), ([10], [10]), ([6, 11, 6], [6, 11]), ([0, 0, 1, 2, 3, 4, 5, 6, 7, 8, 9, 10, 11, 12], [0]), ([13, 0, 1, 2, 3, 4, 5, 6, 7, 8, 9, 10, 11, 12], [13]), ([14, 12, 12, 0, 1, 2, 3, 4, 5, 6, 7, 8, 9, 10, 11, 12], [12, 14])])
def flywheelref17_Trend_Add.B7 : List Nat := [0, 0, 0, 4, 12, 28, 62, 0, 128, 384, 896, 1920, 4094, 8191, 16383, 32767]
theorem flywheelref17_Trend_Add.tab7 : rtab .any (opsOf Try.f17 7) = flywheelref17_Trend_Add.T7 := by kernel_rfl
theorem flywheelref17_Trend_Add.bits7 : waitsOk flywheelref17_Trend_Add.T7.2 flywheelref17_Trend_Add.B7 = true := by kernel_rfl
def flywheelref17_Trend_Add.T8 : Bool × List (List Nat × List Nat) := (true, [([], []), ([0], [0]), ([1], [1]), ([2], [2]), ([3], [3]), ([], []), ([5], [5]), ([6], [6]), ([7], [7]), ([4, 8], [4, 8])])
def flywheelref17_Trend_Add.B8 : List Nat := [0, 1, 3, 7, 15, 0, 32, 96, 224, 511]
theorem flywheelref17_Trend_Add.tab8 : rtab .any (opsOf Try.f17 8) = flywheelref17_Trend_Add.T8 := by kernel_rfl
theorem flywheelref17_Trend_Add.bits8 : waitsOk flywheelref17_Trend_Add.T8.2 flywheelref17_Trend_Add.B8 = true := by kernel_rfl
def flywheelref17_Trend_Add.T9 : Bool × List (List Nat × List Nat) := (true, [([], []), ([], []), ([], []), ([2], [2]), ([3], [3]), ([4], [4]), ([5], [5]), ([], []), ([7], [7]), ([8], [8]), ([9], [9]), ([10], [10]), ([0, 0, 2, 3, 4, 5, 6, 10], [0]), ([12, 0, 2, 3, 4, 5, 6, 10], [12]), ([13, 6, 0, 2, 3, 4, 5, 6, 10], [6, 13]), ([1, 0, 1, 2, 3, 4, 5, 6, 7, 8, 9, 10, 11, 12, 13, 14], [1]), ([15, 0, 1, 2, 3, 4, 5, 6, 7, 8, 9, 10, 11, 12, 13, 14], [15]), ([16, 11, 14, 0, 1, 2, 3, 4, 5, 6, 7, 8, 9, 10, 11, 12, 13, 14], [11, 16])])
def flywheelref17_Trend_Add.B9 : List Nat := [0, 0, 0, 4, 12, 28, 60, 0, 128, 384, 896, 1920, 2045, 6141, 14333, 32767, 65535, 131071]
theorem flywheelref17_Trend_Add.tab9 : rtab .any (opsOf Try.f17 9) = flywheelref17_Trend_Add.T9 := by kernel_rfl
theorem flywheelref17_Trend_Add.bits9 : waitsOk flywheelref17_Trend_Add.T9.2 flywheelref17_Trend_Add.B9 = true := by kernel_rfl
set_option maxHeartbeats 16000000 in
set_option maxRecDepth 100000 in
theorem flywheelref17_Trend_Add.callsP (P : Nat → Prop) (k : Nat) (g : Nat) (s0_0 : Int) (s0_1 : Int) (s0_2 : List Int) (s0_3 : List Int) (s0_4 : Int) (s0_5 : Int) (s0_6 : Int) (s0_7 : Int) (a1 : Int) (a2 : Int) (r1 : Int) (r2 : Int) (r3 : Int) (r4 : List Int) (r5 : List Int) (r6 : Int) (r7 : Int) (r8 : Int) (r9 : Int) (w0 w : World) (hPf : ∀ j, w.heap.size ≤ j → P j) (hI : IsS62P P w0 w g s0_0 s0_1 s0_2 s0_3 s0_4 s0_5 s0_6 s0_7) (hB : Below w0.heap.size w0 w) (h : flywheelref17_Trend_Add.f k s0_0 s0_1 s0_2 s0_3 s0_4 s0_5 s0_6 s0_7 a1 a2 = some (r1, r2, r3, r4, r5, r6, r7, r8, r9)) :
  Calls Try.prog 17 #[.pointer (some ⟨g, 0, none⟩), .int .i64 a1, .int .i64 a2] w fun e w' => e = .returned (.int .i64 r1) ∧ IsS62P P w0 w' g r2 r3 r4 r5 r6 r7 r8 r9 ∧ Below w0.heap.size w0 w' ∧ Kept w w' P := by
 have hpn31_eql : ∀ (a_ : Addr) (W_ : World), (Go.binOp .eql 31 (.pointer (some a_)) (.pointer none)).run Try.prog W_ = .ok (.bool false) W_ := fun _ _ => by kernel_rfl
 have hPg := hI.pg
 have HI0 := Aside0.mk hI
 have HK := Aside0.mk (Kept.refl w P)
 have HL := Aside0.mk hB.size
 have HB := Aside0.mk hB
 clear hI hB
 simp only [flywheelref17_Trend_Add.f, Option.bind_eq_some_iff] at h
 obtain ⟨t348, A4_, t349, A5_, t350, A6_, t351, A7_, t352, A8_, H⟩ := h
 have A4 := Aside0.mk A4_
 clear A4_
 have A5 := Aside0.mk A5_
 clear A5_
 have A6 := Aside0.mk A6_
 clear A6_
 have A7 := Aside0.mk A7_
 clear A7_
 have A8 := Aside0.mk A8_
 clear A8_
 by_cases hl : s0_2.length = s0_3.length ∧ s0_2.length < 17592186044416
 rotate_left
 ·rw [if_neg hl] at H; exact absurd H (by simp)
 rw [if_pos hl] at H
 have HLN := Aside0.mk hl
 clear hl
 have HH := Aside0.mk H
 clear H
 obtain ⟨cnt, hcnt⟩ : ∃ j_ : Int, (mn (wrap64 (s0_7 + 1)) 1000) = j_ := ⟨_, rfl⟩
 rw [hcnt] at HH
 have hcnt_ : (if 1000 < (wrap64 (s0_7 + 1)) then 1000 else (wrap64 (s0_7 + 1))) = cnt := hcnt
 clear hcnt
 go_enter Try.func17, Try.ntmps17
 try go_wp2_with (first | ((with_reducible refine gate_callee (f := 37) rfl ?_); refine goesL_ (some 8) rfl rfl Try.func37 (by kernel_rfl) rfl #[.int .i64 a1, .int .i64 (-1125899906842624), .int .i64 1125899906842624] rfl (by (try simp only [List.map_toArray, List.map_cons, List.map_nil]); first | done | rfl | (simp only [List.length_drop, List.length_take]; rfl)) ?_; (with_reducible refine (flywheelref01_Clamp.calls a1 (-1125899906842624) 1125899906842624 t348 _ A4.out).mono ?_); rintro e w' ⟨rfl, ⟨nd, rfl⟩⟩; refine ⟨_, rfl, ?_⟩; (generalize hq_ : World.drewN w _ = w11; have n0_ : Aside0 (IsS62P P w0 w11 g s0_0 s0_1 s0_2 s0_3 s0_4 s0_5 s0_6 s0_7) := ⟨by rw [← hq_]; exact (by repeat (first | (with_reducible first | exact HI0.out | apply IsS62P.alloc | apply IsS62P.drewN | apply IsS62P.drew | apply IsS62P.set_0 | apply IsS62P.set_1 | apply IsS62P.set_2 | apply IsS62P.set_3 | apply IsS62P.set_4 | apply IsS62P.set_5 | apply IsS62P.set_6 | apply IsS62P.set_7) | exact HI0.out))⟩; have n1_ : Aside0 (Kept w w11 P) := ⟨by rw [← hq_]; exact (by repeat (first | (with_reducible first | exact HK.out | refine kp_set hPg ?_ | apply Kept.drewN | apply Kept.drew | apply Kept.alloc) | exact HK.out))⟩; have n2_ : Aside0 (Below w0.heap.size w0 w11) := ⟨by rw [← hq_]; exact (by repeat (first | (with_reducible first | exact HB.out | apply below_alloc | apply pw_below_drewN | apply below_drew1 | refine below_set ?_ (IsS62P.ge HI0.out)) | exact HB.out))⟩; clear HI0 HK HB hq_; have HI0 := n0_; have HK := n1_; have HB := n2_; clear n0_ n1_ n2_)) | ((with_reducible refine gate_callee (f := 37) rfl ?_); refine goesL_ (some 10) rfl rfl Try.func37 (by kernel_rfl) rfl #[.int .i64 a2, .int .i64 (-1125899906842624), .int .i64 1125899906842624] rfl (by (try simp only [List.map_toArray, List.map_cons, List.map_nil]); first | done | rfl | (simp only [List.length_drop, List.length_take]; rfl)) ?_; (with_reducible refine (flywheelref01_Clamp.calls a2 (-1125899906842624) 1125899906842624 t349 _ A5.out).mono ?_); rintro e w' ⟨rfl, ⟨nd, rfl⟩⟩; refine ⟨_, rfl, ?_⟩; (try (rw [drewN_self w11]; generalize hq_ : World.drewN w11 _ = w11; have n0_ : Aside0 (IsS62P P w0 w11 g s0_0 s0_1 s0_2 s0_3 s0_4 s0_5 s0_6 s0_7) := ⟨by rw [← hq_]; exact (by repeat (first | (with_reducible first | exact HI0.out | apply IsS62P.alloc | apply IsS62P.drewN | apply IsS62P.drew | apply IsS62P.set_0 | apply IsS62P.set_1 | apply IsS62P.set_2 | apply IsS62P.set_3 | apply IsS62P.set_4 | apply IsS62P.set_5 | apply IsS62P.set_6 | apply IsS62P.set_7) | exact HI0.out))⟩; have n1_ : Aside0 (Kept w w11 P) := ⟨by rw [← hq_]; exact (by repeat (first | (with_reducible first | exact HK.out | refine kp_set hPg ?_ | apply Kept.drewN | apply Kept.drew | apply Kept.alloc) | exact HK.out))⟩; have n2_ : Aside0 (Below w0.heap.size w0 w11) := ⟨by rw [← hq_]; exact (by repeat (first | (with_reducible first | exact HB.out | apply below_alloc | apply pw_below_drewN | apply below_drew1 | refine below_set ?_ (IsS62P.ge HI0.out)) | exact HB.out))⟩; clear HI0 HK HB hq_; have HI0 := n0_; have HK := n1_; have HB := n2_; clear n0_ n1_ n2_)); obtain ⟨ASz12_2, cSz12_2, ASz12_3, cSz12_3, HGz12, hgz12, HSz12_2, HSz12_3⟩ := HI0.out; have hcz12_0 := cellS62_0 HGz12; have hcz12_1 := cellS62_1 HGz12; have hcz12_2 := cellS62_2 HGz12; have hcz12_3 := cellS62_3 HGz12; have hcz12_4 := cellS62_4 HGz12; have hcz12_5 := cellS62_5 HGz12; have hcz12_6 := cellS62_6 HGz12; have hcz12_7 := cellS62_7 HGz12; have hfz12_0 := blk_frozen HGz12 0; have hfz12_1 := blk_frozen HGz12 1; have hfz12_2 := blk_frozen HGz12 2; have hfz12_3 := blk_frozen HGz12 3; have hfz12_4 := blk_frozen HGz12 4; have hfz12_5 := blk_frozen HGz12 5; have hfz12_6 := blk_frozen HGz12 6; have hfz12_7 := blk_frozen HGz12 7; clear HGz12 hgz12) | ((with_reducible refine gate_callee (f := 38) rfl ?_); refine goesL_ (some 19) rfl rfl Try.func38 (by kernel_rfl) rfl #[.int .i64 s0_5, .int .i64 (wrap64 (t349 - t348))] rfl (by (try simp only [List.map_toArray, List.map_cons, List.map_nil]); first | done | rfl | (simp only [List.length_drop, List.length_take]; rfl)) ?_; (with_reducible refine (flywheelref01_Add.calls k s0_5 (wrap64 (t349 - t348)) t350 _ A6.out).mono ?_); rintro e w' ⟨rfl, ⟨nd, rfl⟩⟩; refine ⟨_, rfl, ?_⟩; (try (rw [drewN_self w11]; generalize hq_ : World.drewN w11 _ = w11; have n0_ : Aside0 (IsS62P P w0 w11 g s0_0 s0_1 s0_2 s0_3 s0_4 s0_5 s0_6 s0_7) := ⟨by rw [← hq_]; exact (by repeat (first | (with_reducible first | exact HI0.out | apply IsS62P.alloc | apply IsS62P.drewN | apply IsS62P.drew | apply IsS62P.set_0 | apply IsS62P.set_1 | apply IsS62P.set_2 | apply IsS62P.set_3 | apply IsS62P.set_4 | apply IsS62P.set_5 | apply IsS62P.set_6 | apply IsS62P.set_7) | exact HI0.out))⟩; have n1_ : Aside0 (Kept w w11 P) := ⟨by rw [← hq_]; exact (by repeat (first | (with_reducible first | exact HK.out | refine kp_set hPg ?_ | apply Kept.drewN | apply Kept.drew | apply Kept.alloc) | exact HK.out))⟩; have n2_ : Aside0 (Below w0.heap.size w0 w11) := ⟨by rw [← hq_]; exact (by repeat (first | (with_reducible first | exact HB.out | apply below_alloc | apply pw_below_drewN | apply below_drew1 | refine below_set ?_ (IsS62P.ge HI0.out)) | exact HB.out))⟩; clear HI0 HK HB hq_; have HI0 := n0_; have HK := n1_; have HB := n2_; clear n0_ n1_ n2_)); obtain ⟨ASz99_2, cSz99_2, ASz99_3, cSz99_3, HGz99, hgz99, HSz99_2, HSz99_3⟩ := HI0.out; have hcz99_0 := cellS62_0 HGz99; have hcz99_1 := cellS62_1 HGz99; have hcz99_2 := cellS62_2 HGz99; have hcz99_3 := cellS62_3 HGz99; have hcz99_4 := cellS62_4 HGz99; have hcz99_5 := cellS62_5 HGz99; have hcz99_6 := cellS62_6 HGz99; have hcz99_7 := cellS62_7 HGz99; have hfz99_0 := blk_frozen HGz99 0; have hfz99_1 := blk_frozen HGz99 1; have hfz99_2 := blk_frozen HGz99 2; have hfz99_3 := blk_frozen HGz99 3; have hfz99_4 := blk_frozen HGz99 4; have hfz99_5 := blk_frozen HGz99 5; have hfz99_6 := blk_frozen HGz99 6; have hfz99_7 := blk_frozen HGz99 7; clear HGz99 hgz99))
 have n0_ : Aside0 (IsS62P P w0 (w11.setCell ⟨g, 5, none⟩ (.int .i64 t350)) g s0_0 s0_1 s0_2 s0_3 s0_4 t350 s0_6 s0_7) := ⟨by repeat (first | (with_reducible first | exact HI0.out | apply IsS62P.alloc | apply IsS62P.drewN | apply IsS62P.drew | apply IsS62P.set_0 | apply IsS62P.set_1 | apply IsS62P.set_2 | apply IsS62P.set_3 | apply IsS62P.set_4 | apply IsS62P.set_5 | apply IsS62P.set_6 | apply IsS62P.set_7) | exact HI0.out)⟩
 have n1_ : Aside0 (Kept w (w11.setCell ⟨g, 5, none⟩ (.int .i64 t350)) P) := ⟨by repeat (first | (with_reducible first | exact HK.out | refine kp_set hPg ?_ | apply Kept.drewN | apply Kept.drew | apply Kept.alloc) | exact HK.out)⟩
 have n2_ : Aside0 (Below w0.heap.size w0 (w11.setCell ⟨g, 5, none⟩ (.int .i64 t350))) := ⟨by repeat (first | (with_reducible first | exact HB.out | apply below_alloc | apply pw_below_drewN | apply below_drew1 | refine below_set ?_ (IsS62P.ge HI0.out)) | exact HB.out)⟩
 (try clear HI0)
 (try clear HK)
 (try clear HB)
 generalize (w11.setCell ⟨g, 5, none⟩ (.int .i64 t350)) = w13 at n0_ n1_ n2_ ⊢
 have HI0 := n0_
 have HK := n1_
 have HB := n2_
 clear n0_ n1_ n2_
 have n0_ := Aside0.mk (IsS62P.drew HI0.out)
 have n1_ := Aside0.mk (Kept.drew HK.out)
 have n2_ := Aside0.mk (below_drew1 HB.out)
 clear HI0
 clear HK
 clear HB
 have HI0 := n0_
 have HK := n1_
 have HB := n2_
 clear n0_ n1_ n2_
 refine start_ (n := 17) (S := fun w' => w'.cell? ⟨g, 0, none⟩ = some (.int .i64 s0_0) ∧ w'.cell? ⟨g, 1, none⟩ = some (.int .i64 s0_1) ∧ w'.cell? ⟨g, 4, none⟩ = some (.int .i64 s0_4) ∧ w'.cell? ⟨g, 5, none⟩ = some (.int .i64 t350) ∧ w'.cell? ⟨g, 6, none⟩ = some (.int .i64 s0_6) ∧ w'.cell? ⟨g, 7, none⟩ = some (.int .i64 s0_7)) (ds := [16]) #[false, false, false, false, false, false, false, false, false, false, false, false, false, false, false, false, false] (by kernel_rfl) rfl rfl ⟨(IsS62P.cell_0 HI0.out), (IsS62P.cell_1 HI0.out), (IsS62P.cell_4 HI0.out), (IsS62P.cell_5 HI0.out), (IsS62P.cell_6 HI0.out), (IsS62P.cell_7 HI0.out)⟩ (fun hHeld => ?_); refine with_tabW flywheelref17_Trend_Add.tab4 flywheelref17_Trend_Add.bits4 (fun HT_ HW_ => ?_)
 generalize w13.drew = w14 at HI0 HK HB hHeld ⊢
 refine pure_ (i := 0) (N := some 22) (v := ?_) (a' := ?_) (bl 17 1) rfl rfl (any_of HT_.out (by kernel_rfl)) (fun _ _ _ h => h) (Or.inl ⟨by rfl, ?_⟩) ?_ ?_
 rotate_left
 ·intro w'
  go_simp
  with_reducible rfl
 rotate_left
 ·simp only [puts_]
  rfl
 refine pure_ (i := 1) (N := some 23) (v := ?_) (a' := ?_) (bl 17 3) rfl rfl (any_of HT_.out (by kernel_rfl)) (fun _ _ _ h => h) (Or.inl ⟨by rfl, ?_⟩) ?_ ?_
 rotate_left
 ·intro w'
  go_simp
  with_reducible rfl
 rotate_left
 ·simp only [puts_]
  rfl
 refine pure_ (i := 2) (N := some 24) (v := ?_) (a' := ?_) (bl 17 7) rfl rfl (any_of HT_.out (by kernel_rfl)) (fun _ _ _ h => h) (Or.inl ⟨by rfl, ?_⟩) ?_ ?_
 rotate_left
 ·intro w'
  go_simp
  with_reducible rfl
 rotate_left
 ·simp only [puts_]
  rfl
 refine pure_ (i := 3) (N := some 25) (v := ?_) (a' := ?_) (bl 17 15) rfl rfl (any_of HT_.out (by kernel_rfl)) (fun _ _ _ h => h) (Or.inl ⟨by rfl, ?_⟩) ?_ ?_
 rotate_left
 ·intro w'
  go_simp
  with_reducible rfl
 rotate_left
 ·simp only [puts_]
  rfl
 refine pure_ (i := 5) (N := some 27) (v := ?_) (a' := ?_) (bl 17 47) rfl rfl (any_of HT_.out (by kernel_rfl)) (fun _ _ _ h => h) (Or.inl ⟨by rfl, ?_⟩) ?_ ?_
 rotate_left
 ·intro w'
  go_simp
  with_reducible rfl
 rotate_left
 ·simp only [puts_]
  rfl
 refine pure_ (i := 6) (N := some 28) (v := ?_) (a' := ?_) (bl 17 111) rfl rfl (any_of HT_.out (by kernel_rfl)) (fun _ _ _ h => h) (Or.inl ⟨by rfl, ?_⟩) ?_ ?_
 rotate_left
 ·intro w'
  go_simp
  with_reducible rfl
 rotate_left
 ·simp only [puts_]
  rfl
 refine pure_ (i := 7) (N := some 29) (v := ?_) (a' := ?_) (bl 17 239) rfl rfl (any_of HT_.out (by kernel_rfl)) (fun _ _ _ h => h) (Or.inl ⟨by rfl, ?_⟩) ?_ ?_
 rotate_left
 ·intro w'
  go_simp
  with_reducible rfl
 rotate_left
 ·simp only [puts_]
  rfl
 refine pure_ (i := 9) (N := some 31) (v := ?_) (a' := ?_) (bl 17 751) rfl rfl (any_of HT_.out (by kernel_rfl)) (fun _ _ _ h => h) (Or.inl ⟨by rfl, ?_⟩) ?_ ?_
 rotate_left
 ·intro w'
  go_simp
  with_reducible rfl
 rotate_left
 ·simp only [puts_]
  rfl
 refine pure_ (i := 10) (N := some 32) (v := ?_) (a' := ?_) (bl 17 1775) rfl rfl (any_of HT_.out (by kernel_rfl)) (fun _ _ _ h => h) (Or.inl ⟨by rfl, ?_⟩) ?_ ?_
 rotate_left
 ·intro w'
  go_simp
  with_reducible rfl
 rotate_left
 ·simp only [puts_]
  rfl
 refine pure_ (i := 11) (N := some 33) (v := ?_) (a' := ?_) (bl 17 3823) rfl rfl (any_of HT_.out (by kernel_rfl)) (fun _ _ _ h => h) (Or.inl ⟨by rfl, ?_⟩) ?_ ?_
 rotate_left
 ·intro w'
  go_simp
  with_reducible rfl
 rotate_left
 ·simp only [puts_]
  rfl
 refine take_ (i := 4) (N := some 26) (v := ?_) (a' := ?_) (bl 17 3839) rfl rfl (take_ofW HT_.out HW_.out (by kernel_rfl)) (fun _ _ _ h => h) (Or.inl ⟨by rfl, ?_⟩) hHeld ?_ ?_
 rotate_left
 ·rintro w' ⟨s0, s1, s2, s3, s4, s5⟩
  go_simp
  with_reducible rfl
 rotate_left
 ·simp only [puts_]
  rfl
 refine take_ (i := 8) (N := some 30) (v := ?_) (a' := ?_) (bl 17 4095) rfl rfl (take_ofW HT_.out HW_.out (by kernel_rfl)) (fun _ _ _ h => h) (Or.inl ⟨by rfl, ?_⟩) hHeld ?_ ?_
 rotate_left
 ·rintro w' ⟨s0, s1, s2, s3, s4, s5⟩
  go_simp
  with_reducible rfl
 rotate_left
 ·simp only [puts_]
  rfl
 refine take_ (i := 12) (N := some 34) (v := ?_) (a' := ?_) (bl 17 8191) rfl rfl (take_ofW HT_.out HW_.out (by kernel_rfl)) (fun _ _ _ h => h) (Or.inl ⟨by rfl, ?_⟩) hHeld ?_ ?_
 rotate_left
 ·rintro w' ⟨s0, s1, s2, s3, s4, s5⟩
  go_simp
  with_reducible rfl
 rotate_left
 ·simp only [puts_]
  rfl
 refine one_ (i := 13) (N := some 35) (bl 17 16383) rfl rfl (one_of HT_.out (by kernel_rfl)) (by decide) (fun K hK => ?_)
 refine goes_ Try.func39 (by kernel_rfl) rfl #[.int .i64 t350, .int .i64 s0_6, .int .i64 s0_1] (by rfl) rfl rfl (by (try simp only [List.map_toArray, List.map_cons, List.map_nil]); first | done | rfl | (simp only [List.length_drop, List.length_take]; rfl)) ?_
 with_reducible refine (flywheelref03_Mix.calls k t350 s0_6 s0_1 t351 _ A7.out).mono ?_
 rintro e w15 ⟨rfl, hb⟩
 refine ⟨_, rfl, ?_⟩
 have n0_ := Aside0.mk (IsS62P.below (by repeat (first | (with_reducible first | exact HI0.out | apply IsS62P.alloc | apply IsS62P.drewN | apply IsS62P.drew | apply IsS62P.set_0 | apply IsS62P.set_1 | apply IsS62P.set_2 | apply IsS62P.set_3 | apply IsS62P.set_4 | apply IsS62P.set_5 | apply IsS62P.set_6 | apply IsS62P.set_7) | exact HI0.out)) hb)
 have n1_ := Aside0.mk (Kept.below (S := P) (by repeat (first | (with_reducible first | exact HK.out | refine kp_set hPg ?_ | apply Kept.drewN | apply Kept.drew | apply Kept.alloc) | exact HK.out)) hb)
 have n2_ := Aside0.mk (below_step (by repeat (first | (with_reducible first | exact HB.out | apply below_alloc | apply pw_below_drewN | apply below_drew1 | refine below_set ?_ (IsS62P.ge HI0.out)) | exact HB.out)) hb)
 clear HI0
 clear HK
 clear HB
 have HI0 := n0_
 have HK := n1_
 have HB := n2_
 clear n0_ n1_ n2_
 (try clear hb)
 (try clear hb2)
 (try clear hk)
 (try clear hi)
 refine hK.out _ _ ⟨(IsS62P.cell_0 HI0.out), (IsS62P.cell_1 HI0.out), (IsS62P.cell_4 HI0.out), (IsS62P.cell_5 HI0.out), (IsS62P.cell_6 HI0.out), (IsS62P.cell_7 HI0.out)⟩ (fun hHeld => ?_)
 clear hK K
 refine norm_ (a' := ?_) ?_ ?_
 rotate_left
 ·show Act.put _ (some 35) _ = _
  simp only [puts_]
  rfl
 refine pure_ (i := 14) (N := some 36) (v := ?_) (a' := ?_) (bl 17 32767) rfl rfl (any_of HT_.out (by kernel_rfl)) (fun _ _ _ h => h) (Or.inl ⟨by rfl, ?_⟩) ?_ ?_
 rotate_left
 ·intro w'
  go_simp
  with_reducible rfl
 rotate_left
 ·simp only [puts_]
  rfl
 refine pure_ (i := 15) (N := some 37) (v := ?_) (a' := ?_) (bl 17 65535) rfl rfl (any_of HT_.out (by kernel_rfl)) (fun _ _ _ h => h) (Or.inl ⟨by rfl, ?_⟩) ?_ ?_
 rotate_left
 ·intro w'
  go_simp
  with_reducible rfl
 rotate_left
 ·simp only [puts_]
  rfl
 refine last_ (i := 16) (N := none) (bl 17 131071) rfl rfl (one_of HT_.out (by kernel_rfl)) (by decide) (fun K hK => ?_)
 have hs16 : w15.cell? ⟨g, 6, none⟩ = some (.int .i64 s0_6) := IsS62P.cell_6 HI0.out
 have hfs16 := IsS62P.froz_6 HI0.out
 refine skip_ (w1 := ?_) (by rfl) rfl ?_ ?_
 rotate_left
 ·go_simp
  rfl
 refine hK.out _ _ ?_
 clear hK K
 refine done_ (done_of HT_.out (by kernel_rfl)) ?_
 obtain ⟨ASz17_2, cSz17_2, ASz17_3, cSz17_3, HGz17, hgz17, HSz17_2, HSz17_3⟩ := HI0.out
 have hcz17_0 := cellS62_0 HGz17
 have hcz17_1 := cellS62_1 HGz17
 have hcz17_2 := cellS62_2 HGz17
 have hcz17_3 := cellS62_3 HGz17
 have hcz17_4 := cellS62_4 HGz17
 have hcz17_5 := cellS62_5 HGz17
 have hcz17_6 := cellS62_6 HGz17
 have hcz17_7 := cellS62_7 HGz17
 have hfz17_0 := blk_frozen HGz17 0
 have hfz17_1 := blk_frozen HGz17 1
 have hfz17_2 := blk_frozen HGz17 2
 have hfz17_3 := blk_frozen HGz17 3
 have hfz17_4 := blk_frozen HGz17 4
 have hfz17_5 := blk_frozen HGz17 5
 have hfz17_6 := blk_frozen HGz17 6
 have hfz17_7 := blk_frozen HGz17 7
 clear HGz17 hgz17
 go_wp2_with (first | ((with_reducible refine gate_callee (f := 38) rfl ?_); refine goesL_ (some 44) rfl rfl Try.func38 (by kernel_rfl) rfl #[.int .i64 s0_4, .int .i64 t348] rfl (by (try simp only [List.map_toArray, List.map_cons, List.map_nil]); first | done | rfl | (simp only [List.length_drop, List.length_take]; rfl)) ?_; (with_reducible refine (flywheelref01_Add.calls k s0_4 t348 t352 _ A8.out).mono ?_); rintro e w' ⟨rfl, ⟨nd, rfl⟩⟩; refine ⟨_, rfl, ?_⟩))
 refine namedW_ (fun W9 hW9 => ?_)
 have hIx : IsS62P P w0 W9 g s0_0 s0_1 s0_2 s0_3 t352 t350 t351 s0_7 := by rw [hW9]; repeat (first | (with_reducible first | exact HI0.out | apply IsS62P.alloc | apply IsS62P.drewN | apply IsS62P.drew | apply IsS62P.set_4 | apply IsS62P.set_5 | apply IsS62P.set_6) | exact HI0.out)
 have hBx : Below w0.heap.size w0 W9 := by rw [hW9]; repeat (first | (with_reducible first | exact HB.out | apply below_alloc | apply pw_below_drewN | apply below_drew1 | refine below_set ?_ (IsS62P.ge HI0.out)) | exact HB.out)
 have hKx : Kept w W9 P := by rw [hW9]; repeat (first | (with_reducible first | exact HK.out | refine kp_set hPg ?_ | apply Kept.drewN | apply Kept.drew | apply Kept.alloc) | exact HK.out)
 clear hW9 HI0 HB HK
 obtain ⟨A5, c5, A6, c6, hT⟩ := TR.of_state hIx hPf hBx hKx
 have HT := Aside0.mk hT
 clear hIx hBx hKx hT
 (try clear hcz99_0 hcz99_1 hcz99_2 hcz99_3 hcz99_4 hcz99_5 hcz99_6 hcz99_7)
 have n0_ := Aside0.mk (TR.drew HT.out)
 clear HT
 have HT := n0_
 clear n0_
 refine start_ (n := 16) (S := fun w' => w'.cell? ⟨g, 2, none⟩ = some (.slice A5 s0_2.length c5) ∧ w'.cell? ⟨g, 4, none⟩ = some (.int .i64 t352)) (ds := [15]) #[false, false, false, false, false, false, false, false, false, false, false, false, false, false, false, false] (by kernel_rfl) rfl rfl ⟨(blk_cell HT.out.1 2).trans rfl, (blk_cell HT.out.1 4).trans rfl⟩ (fun hHeld => ?_); refine with_tabW flywheelref17_Trend_Add.tab6 flywheelref17_Trend_Add.bits6 (fun HT_ HW_ => ?_)
 generalize World.drew W9 = w6 at HT hHeld ⊢
 refine pure_ (i := 0) (N := some 47) (v := ?_) (a' := ?_) (bl 16 1) rfl rfl (any_of HT_.out (by kernel_rfl)) (fun _ _ _ h => h) (Or.inl ⟨by rfl, ?_⟩) ?_ ?_
 rotate_left
 ·intro w'
  go_simp
  with_reducible rfl
 rotate_left
 ·simp only [puts_]
  rfl
 refine pure_ (i := 2) (N := some 49) (v := ?_) (a' := ?_) (bl 16 5) rfl rfl (any_of HT_.out (by kernel_rfl)) (fun _ _ _ h => h) (Or.inl ⟨by rfl, ?_⟩) ?_ ?_
 rotate_left
 ·intro w'
  go_simp
  with_reducible rfl
 rotate_left
 ·simp only [puts_]
  rfl
 refine pure_ (i := 3) (N := some 50) (v := ?_) (a' := ?_) (bl 16 13) rfl rfl (any_of HT_.out (by kernel_rfl)) (fun _ _ _ h => h) (Or.inl ⟨by rfl, ?_⟩) ?_ ?_
 rotate_left
 ·intro w'
  go_simp
  with_reducible rfl
 rotate_left
 ·simp only [puts_]
  rfl
 refine pure_ (i := 4) (N := some 51) (v := ?_) (a' := ?_) (bl 16 29) rfl rfl (any_of HT_.out (by kernel_rfl)) (fun _ _ _ h => h) (Or.inl ⟨by rfl, ?_⟩) ?_ ?_
 rotate_left
 ·intro w'
  go_simp
  with_reducible rfl
 rotate_left
 ·simp only [puts_]
  rfl
 refine take_ (i := 5) (N := some 52) (v := ?_) (a' := ?_) (bl 16 61) rfl rfl (take_ofW HT_.out HW_.out (by kernel_rfl)) (fun _ _ _ h => h) (Or.inl ⟨by rfl, ?_⟩) hHeld ?_ ?_
 rotate_left
 ·rintro w' ⟨s0, s1⟩
  go_simp
  with_reducible rfl
 rotate_left
 ·simp only [puts_]
  rfl
 refine pure_ (i := 7) (N := some 54) (v := ?_) (a' := ?_) (bl 16 189) rfl rfl (any_of HT_.out (by kernel_rfl)) (fun _ _ _ h => h) (Or.inl ⟨by rfl, ?_⟩) ?_ ?_
 rotate_left
 ·intro w'
  go_simp
  with_reducible rfl
 rotate_left
 ·simp only [puts_]
  rfl
 refine pure_ (i := 8) (N := some 55) (v := ?_) (a' := ?_) (bl 16 445) rfl rfl (any_of HT_.out (by kernel_rfl)) (fun _ _ _ h => h) (Or.inl ⟨by rfl, ?_⟩) ?_ ?_
 rotate_left
 ·intro w'
  go_simp
  with_reducible rfl
 rotate_left
 ·simp only [puts_]
  rfl
 refine pure_ (i := 9) (N := some 56) (v := ?_) (a' := ?_) (bl 16 957) rfl rfl (any_of HT_.out (by kernel_rfl)) (fun _ _ _ h => h) (Or.inl ⟨by rfl, ?_⟩) ?_ ?_
 rotate_left
 ·intro w'
  go_simp
  with_reducible rfl
 rotate_left
 ·simp only [puts_]
  rfl
 refine take_ (i := 10) (N := some 57) (v := ?_) (a' := ?_) (bl 16 1981) rfl rfl (take_ofW HT_.out HW_.out (by kernel_rfl)) (fun _ _ _ h => h) (Or.inl ⟨by rfl, ?_⟩) hHeld ?_ ?_
 rotate_left
 ·rintro w' ⟨s0, s1⟩
  go_simp
  with_reducible rfl
 rotate_left
 ·simp only [puts_]
  rfl
 have HB9 := Aside0.mk (Below.refl w6.heap.size w6)
 refine join_ (σ := Value × Value × Nat) 4 #[true, true, true, true, true, true, true, true, true, true, true, true, false, false, false, false] (fun s_ => [(48, s_.1), (53, s_.2.1), (58, .slice (some ⟨s_.2.2, 0, none⟩) 1 1)]) (fun s_ w' => (w'.cell? ⟨g, 2, none⟩ = some (.slice A5 s0_2.length c5) ∧ w'.cell? ⟨g, 4, none⟩ = some (.int .i64 t352)) ∧ Kd.R (Kd.int .i64) 2 w' w6.heap.size (fun k => w6.heap.size ≤ k) s_.2.1 s0_2 ∧ w'.cell? ⟨s_.2.2, 0, none⟩ = some (.int .i64 t352) ∧ Below w6.heap.size w6 w') ?_ ?_
 rotate_left
 ·intro hCont
  refine two_ (i := 1) (j := 11) (Ni := some 48) (Nj := some 58) (bl 16 1983) (bl 16 4029) rfl rfl rfl rfl (two_of HT_.out (by kernel_rfl)) (by decide) (by decide) (fun K hK => ?_) (fun K hK => ?_)
  ·refine Kd.R_lit_step (Kd.int .i64) (w0 := w6) w6.heap.size 2 (by rfl) (N := 48) rfl (xs := ([] : List Int)) (inner := []) (ok := (fun k => w6.heap.size ≤ k)) (okp := fun _ => False) (by first | (go_simp; done) | (go_simp; rfl)) (Reps.none _ _) (fun _ h => h.elim) HB9.out.size HB9.out HB9.out.size (by simp) ?_
   intro v1 wr6_1 ho hb hg hnew
   clear HB9 hg hnew
   have HB9 := Aside0.mk hb
   have Hv := Aside0.mk ho
   clear hb ho
   refine hK.out _ _ ⟨(blk_cell (blk_below HT.out.1 HB9.out) 2).trans rfl, (blk_cell (blk_below HT.out.1 HB9.out) 4).trans rfl⟩ (fun hHeld => ?_)
   clear hK K
   refine norm_ (a' := ?_) ?_ ?_
   rotate_left
   ·show Act.put _ (some 48) _ = _
    simp only [puts_]
    rfl
   refine two_ (i := 6) (j := 11) (Ni := some 53) (Nj := some 58) (bl 16 2047) (bl 16 4031) rfl rfl rfl rfl (two_of HT_.out (by kernel_rfl)) (by decide) (by decide) (fun K hK => ?_) (fun K hK => ?_)
   ·refine Kd.R_append_rows_step (Kd.int .i64) (w0 := w6) w6.heap.size (by rfl) (.tmp 48) (.tmp 52) 22 2 (.int .i64 0) 8 rfl Try.underlying22 (by kernel_rfl) rfl (by decide) (by omega) v1 [] s0_2 A5 s0_2.length c5 (fun k => w6.heap.size ≤ k) (fun _ => False) rfl rfl Hv.out (TR.reads5 (TR.below HT.out HB9.out)).2.2 (fun _ _ h => h) (fun _ h => h.elim) (fun k hk => Nat.le_trans HB9.out.size hk) HB9.out HB9.out.size (by have := HLN.out; simp only [List.length_nil]; omega) ?_
    intro v2 wr6_2 ho hb hg hat
    clear HB9 Hv hg hat
    have HB9 := Aside0.mk hb
    have Hv : Aside0 (Kd.R (Kd.int .i64) 2 wr6_2 w6.heap.size (fun k => w6.heap.size ≤ k) v2 s0_2) := ⟨ho⟩
    clear hb ho
    refine hK.out _ _ ⟨(blk_cell (blk_below HT.out.1 HB9.out) 2).trans rfl, (blk_cell (blk_below HT.out.1 HB9.out) 4).trans rfl⟩ (fun hHeld => ?_)
    clear hK K
    refine norm_ (a' := ?_) ?_ ?_
    rotate_left
    ·show Act.put _ (some 53) _ = _
     simp only [puts_]
     rfl
    refine one_ (i := 11) (N := some 58) (bl 16 4095) rfl rfl (one_of HT_.out (by kernel_rfl)) (by decide) (fun K hK => ?_)
    refine value_ (v := .slice (some ⟨wr6_2.heap.size, 0, none⟩) 1 1) (w1 := wr6_2.alloc (.cells #[.int .i64 t352] 2)) (by rfl) rfl (by first | (go_simp; done) | (go_simp; rfl)) ?_
    have n1_ : (wr6_2.alloc (.cells #[.int .i64 t352] 2)).cell? ⟨wr6_2.heap.size, 0, none⟩ = some (.int .i64 t352) := (blk_cell (t := 2) (blk_new wr6_2 (.cells #[.int .i64 t352] 2)) 0).trans rfl
    have n0_ := Aside0.mk (below_alloc HB9.out (.cells #[.int .i64 t352] 2))
    have n2_ : some wr6_2.heap.size ≠ (v2 : Value).ownBlock := fun e_ => by have := Kd.R_lt Hv.out _ e_.symm; omega
    have n3_ := Aside0.mk (Kd.R_alloc Hv.out (.cells #[.int .i64 t352] 2))
    clear Hv
    have Hv := n3_
    clear n3_
    clear HB9
    have HB9 := n0_
    clear n0_
    generalize hE_ : wr6_2.heap.size = b2 at n1_ n2_ ⊢
    clear hE_
    generalize (wr6_2.alloc (.cells #[.int .i64 t352] 2)) = wr6_3 at HB9 n1_ Hv ⊢
    have Hb2 := Aside0.mk n1_
    clear n1_
    have Nb2 := Aside0.mk n2_
    clear n2_
    refine hK.out _ _ ⟨(blk_cell (blk_below HT.out.1 HB9.out) 2).trans rfl, (blk_cell (blk_below HT.out.1 HB9.out) 4).trans rfl⟩ (fun hHeld => ?_)
    clear hK K
    refine norm_ (a' := ?_) ?_ ?_
    rotate_left
    ·show Act.put _ (some 58) _ = _
     simp only [puts_]
     rfl
    exact norm_ (by simp only [putAll, Act.put, List.setIfInBounds_toArray, List.set_cons_zero, List.set_cons_succ]) (hCont (v1, v2, b2) _ ⟨hHeld, Hv.out, Hb2.out, HB9.out⟩)
   ·refine value_ (v := .slice (some ⟨wr6_1.heap.size, 0, none⟩) 1 1) (w1 := wr6_1.alloc (.cells #[.int .i64 t352] 2)) (by rfl) rfl (by first | (go_simp; done) | (go_simp; rfl)) ?_
    have n1_ : (wr6_1.alloc (.cells #[.int .i64 t352] 2)).cell? ⟨wr6_1.heap.size, 0, none⟩ = some (.int .i64 t352) := (blk_cell (t := 2) (blk_new wr6_1 (.cells #[.int .i64 t352] 2)) 0).trans rfl
    have n0_ := Aside0.mk (below_alloc HB9.out (.cells #[.int .i64 t352] 2))
    have n2_ : some wr6_1.heap.size ≠ (v1 : Value).ownBlock := fun e_ => by have := Kd.R_lt Hv.out _ e_.symm; omega
    have n3_ := Aside0.mk (Kd.R_alloc Hv.out (.cells #[.int .i64 t352] 2))
    clear Hv
    have Hv := n3_
    clear n3_
    clear HB9
    have HB9 := n0_
    clear n0_
    generalize hE_ : wr6_1.heap.size = b2 at n1_ n2_ ⊢
    clear hE_
    generalize (wr6_1.alloc (.cells #[.int .i64 t352] 2)) = wr6_4 at HB9 n1_ Hv ⊢
    have Hb2 := Aside0.mk n1_
    clear n1_
    have Nb2 := Aside0.mk n2_
    clear n2_
    refine hK.out _ _ ⟨(blk_cell (blk_below HT.out.1 HB9.out) 2).trans rfl, (blk_cell (blk_below HT.out.1 HB9.out) 4).trans rfl⟩ (fun hHeld => ?_)
    clear hK K
    refine norm_ (a' := ?_) ?_ ?_
    rotate_left
    ·show Act.put _ (some 58) _ = _
     simp only [puts_]
     rfl
    refine one_ (i := 6) (N := some 53) (bl 16 4095) rfl rfl (one_of HT_.out (by kernel_rfl)) (by decide) (fun K hK => ?_)
    refine Kd.R_append_rows_step (Kd.int .i64) (w0 := w6) w6.heap.size (by rfl) (.tmp 48) (.tmp 52) 22 2 (.int .i64 0) 8 rfl Try.underlying22 (by kernel_rfl) rfl (by decide) (by omega) v1 [] s0_2 A5 s0_2.length c5 (fun k => w6.heap.size ≤ k) (fun _ => False) rfl rfl Hv.out (TR.reads5 (TR.below HT.out HB9.out)).2.2 (fun _ _ h => h) (fun _ h => h.elim) (fun k hk => Nat.le_trans HB9.out.size hk) HB9.out HB9.out.size (by have := HLN.out; simp only [List.length_nil]; omega) ?_
    intro v2 wr6_5 ho hb hg hat
    have n1_ := Aside0.mk (cell_grown hg Hb2.out Nb2.out)
    clear Hb2 Nb2
    have Hb2 := n1_
    clear n1_
    clear HB9 Hv hg hat
    have HB9 := Aside0.mk hb
    have Hv : Aside0 (Kd.R (Kd.int .i64) 2 wr6_5 w6.heap.size (fun k => w6.heap.size ≤ k) v2 s0_2) := ⟨ho⟩
    clear hb ho
    refine hK.out _ _ ⟨(blk_cell (blk_below HT.out.1 HB9.out) 2).trans rfl, (blk_cell (blk_below HT.out.1 HB9.out) 4).trans rfl⟩ (fun hHeld => ?_)
    clear hK K
    refine norm_ (a' := ?_) ?_ ?_
    rotate_left
    ·show Act.put _ (some 53) _ = _
     simp only [puts_]
     rfl
    exact norm_ (by simp only [putAll, Act.put, List.setIfInBounds_toArray, List.set_cons_zero, List.set_cons_succ]) (hCont (v1, v2, b2) _ ⟨hHeld, Hv.out, Hb2.out, HB9.out⟩)
  ·refine value_ (v := .slice (some ⟨w6.heap.size, 0, none⟩) 1 1) (w1 := w6.alloc (.cells #[.int .i64 t352] 2)) (by rfl) rfl (by first | (go_simp; done) | (go_simp; rfl)) ?_
   have n1_ : (w6.alloc (.cells #[.int .i64 t352] 2)).cell? ⟨w6.heap.size, 0, none⟩ = some (.int .i64 t352) := (blk_cell (t := 2) (blk_new w6 (.cells #[.int .i64 t352] 2)) 0).trans rfl
   have n0_ := Aside0.mk (below_alloc HB9.out (.cells #[.int .i64 t352] 2))
   clear HB9
   have HB9 := n0_
   clear n0_
   generalize hE_ : w6.heap.size = b2 at n1_  ⊢
   clear hE_
   generalize (w6.alloc (.cells #[.int .i64 t352] 2)) = wr6_6 at HB9 n1_  ⊢
   have Hb2 := Aside0.mk n1_
   clear n1_
   refine hK.out _ _ ⟨(blk_cell (blk_below HT.out.1 HB9.out) 2).trans rfl, (blk_cell (blk_below HT.out.1 HB9.out) 4).trans rfl⟩ (fun hHeld => ?_)
   clear hK K
   refine norm_ (a' := ?_) ?_ ?_
   rotate_left
   ·show Act.put _ (some 58) _ = _
    simp only [puts_]
    rfl
   refine one_ (i := 1) (N := some 48) (bl 16 4031) rfl rfl (one_of HT_.out (by kernel_rfl)) (by decide) (fun K hK => ?_)
   refine Kd.R_lit_step (Kd.int .i64) (w0 := w6) w6.heap.size 2 (by rfl) (N := 48) rfl (xs := ([] : List Int)) (inner := []) (ok := (fun k => w6.heap.size ≤ k)) (okp := fun _ => False) (by first | (go_simp; done) | (go_simp; rfl)) (Reps.none _ _) (fun _ h => h.elim) HB9.out.size HB9.out HB9.out.size (by simp) ?_
   intro v1 wr6_7 ho hb hg hnew
   have n1_ := Aside0.mk (cell_grown hg Hb2.out (by simp))
   have n2_ : some b2 ≠ v1.ownBlock := by obtain ⟨b_, hb_, hle_⟩ := hnew; rw [hb_]; intro e_; injection e_ with e_; have := World.block_lt_of_cell? _ _ Hb2.out; dsimp only at this; omega
   clear Hb2
   have Hb2 := n1_
   have Nb2 := Aside0.mk n2_
   clear n1_ n2_
   clear HB9 hg hnew
   have HB9 := Aside0.mk hb
   have Hv := Aside0.mk ho
   clear hb ho
   refine hK.out _ _ ⟨(blk_cell (blk_below HT.out.1 HB9.out) 2).trans rfl, (blk_cell (blk_below HT.out.1 HB9.out) 4).trans rfl⟩ (fun hHeld => ?_)
   clear hK K
   refine norm_ (a' := ?_) ?_ ?_
   rotate_left
   ·show Act.put _ (some 48) _ = _
    simp only [puts_]
    rfl
   refine one_ (i := 6) (N := some 53) (bl 16 4095) rfl rfl (one_of HT_.out (by kernel_rfl)) (by decide) (fun K hK => ?_)
   refine Kd.R_append_rows_step (Kd.int .i64) (w0 := w6) w6.heap.size (by rfl) (.tmp 48) (.tmp 52) 22 2 (.int .i64 0) 8 rfl Try.underlying22 (by kernel_rfl) rfl (by decide) (by omega) v1 [] s0_2 A5 s0_2.length c5 (fun k => w6.heap.size ≤ k) (fun _ => False) rfl rfl Hv.out (TR.reads5 (TR.below HT.out HB9.out)).2.2 (fun _ _ h => h) (fun _ h => h.elim) (fun k hk => Nat.le_trans HB9.out.size hk) HB9.out HB9.out.size (by have := HLN.out; simp only [List.length_nil]; omega) ?_
   intro v2 wr6_8 ho hb hg hat
   have n1_ := Aside0.mk (cell_grown hg Hb2.out Nb2.out)
   clear Hb2 Nb2
   have Hb2 := n1_
   clear n1_
   clear HB9 Hv hg hat
   have HB9 := Aside0.mk hb
   have Hv : Aside0 (Kd.R (Kd.int .i64) 2 wr6_8 w6.heap.size (fun k => w6.heap.size ≤ k) v2 s0_2) := ⟨ho⟩
   clear hb ho
   refine hK.out _ _ ⟨(blk_cell (blk_below HT.out.1 HB9.out) 2).trans rfl, (blk_cell (blk_below HT.out.1 HB9.out) 4).trans rfl⟩ (fun hHeld => ?_)
   clear hK K
   refine norm_ (a' := ?_) ?_ ?_
   rotate_left
   ·show Act.put _ (some 53) _ = _
    simp only [puts_]
    rfl
   exact norm_ (by simp only [putAll, Act.put, List.setIfInBounds_toArray, List.set_cons_zero, List.set_cons_succ]) (hCont (v1, v2, b2) _ ⟨hHeld, Hv.out, Hb2.out, HB9.out⟩)
 clear HB9
 rintro ⟨v1, v2, b2⟩ wz6 ⟨hHeld, hv, hb2, hb9⟩
 try dsimp only at hv hb2 hHeld
 have HB9 := Aside0.mk hb9
 have Hv := Aside0.mk hv
 have Hb2 := Aside0.mk hb2
 clear hb9 hv hb2
 refine norm_ (a' := ?_) ?_ ?_
 rotate_left
 ·simp only [putAll, Act.put, List.setIfInBounds_toArray, List.set_cons_zero, List.set_cons_succ]
  rfl
 refine one_ (i := 12) (N := some 59) (bl 16 8191) rfl rfl (one_of HT_.out (by kernel_rfl)) (by decide) (fun K hK => ?_)
 obtain ⟨v3, wy6, hr, hq, hb1, hg, hat⟩ := Qi_run (w0 := w6) w6.heap.size 22 v2 s0_2 t352 b2 (fun k => w6.heap.size ≤ k) Hb2.out (fun k hk => Nat.le_trans HB9.out.size hk) (Kd.Q_of_R Hv.out) HB9.out HB9.out.size (by have := HLN.out; omega)
 refine app_step (by rfl) (.tmp 53) (.tmp 58) rfl rfl rfl hr ?_
 obtain ⟨D5, d5, hv3, _⟩ := Kd.Q_slice hq
 subst hv3
 have n0_ := Aside0.mk (TR.fresh5 HT.out hb1 hq)
 clear HT HB9 Hv Hb2 hr hq hb1 hg hat
 have HT := n0_
 clear n0_
 generalize hX5 : (s0_2 ++ [t352]) = X5 at HT HH ⊢
 refine hK.out _ _ ⟨(blk_cell HT.out.1 2).trans rfl, (blk_cell HT.out.1 4).trans rfl⟩ (fun hHeld => ?_)
 clear hK K
 refine norm_ (a' := ?_) ?_ ?_
 rotate_left
 ·show Act.put _ (some 59) _ = _
  simp only [puts_]
  rfl
 refine pure_ (i := 13) (N := some 60) (v := ?_) (a' := ?_) (bl 16 16383) rfl rfl (any_of HT_.out (by kernel_rfl)) (fun _ _ _ h => h) (Or.inl ⟨by rfl, ?_⟩) ?_ ?_
 rotate_left
 ·intro w'
  go_simp
  with_reducible rfl
 rotate_left
 ·simp only [puts_]
  rfl
 refine pure_ (i := 14) (N := some 61) (v := ?_) (a' := ?_) (bl 16 32767) rfl rfl (any_of HT_.out (by kernel_rfl)) (fun _ _ _ h => h) (Or.inl ⟨by rfl, ?_⟩) ?_ ?_
 rotate_left
 ·intro w'
  go_simp
  with_reducible rfl
 rotate_left
 ·simp only [puts_]
  rfl
 refine last_ (i := 15) (N := none) (bl 16 65535) rfl rfl (one_of HT_.out (by kernel_rfl)) (by decide) (fun K hK => ?_)
 have hs_ : wy6.cell? ⟨g, 2, none⟩ = some (.slice A5 s0_2.length c5) := (blk_cell HT.out.1 2).trans rfl
 have hfs_ := blk_frozen HT.out.1 2
 refine skip_ (w1 := ?_) (by rfl) rfl ?_ ?_
 rotate_left
 ·go_simp
  rfl
 have n0_ : Aside0 (TR P w0 w (wy6.setCell ⟨g, 2, none⟩ (.slice D5 X5.length d5)) g #[.int .i64 s0_0, .int .i64 s0_1, .slice D5 X5.length d5, .slice A6 s0_3.length c6, .int .i64 t352, .int .i64 t350, .int .i64 t351, .int .i64 s0_7] (.slice D5 X5.length d5) X5 (.slice A6 s0_3.length c6) s0_3) := ⟨HT.out.set 2 _⟩
 clear HT hs_ hfs_
 have HT := n0_
 clear n0_
 generalize (wy6.setCell ⟨g, 2, none⟩ (.slice D5 X5.length d5)) = w60 at HT ⊢
 refine hK.out _ _ ?_
 clear hK K
 refine done_ (done_of HT_.out (by kernel_rfl)) ?_
 clear hHeld HT_ HW_
 try go_wp2
 have n0_ := Aside0.mk (TR.drew HT.out)
 clear HT
 have HT := n0_
 clear n0_
 refine start_ (n := 16) (S := fun w' => w'.cell? ⟨g, 3, none⟩ = some (.slice A6 s0_3.length c6) ∧ w'.cell? ⟨g, 6, none⟩ = some (.int .i64 t351)) (ds := [15]) #[false, false, false, false, false, false, false, false, false, false, false, false, false, false, false, false] (by kernel_rfl) rfl rfl ⟨(blk_cell HT.out.1 3).trans rfl, (blk_cell HT.out.1 6).trans rfl⟩ (fun hHeld => ?_); refine with_tabW flywheelref17_Trend_Add.tab7 flywheelref17_Trend_Add.bits7 (fun HT_ HW_ => ?_)
 generalize World.drew w60 = w7 at HT hHeld ⊢
 refine pure_ (i := 0) (N := some 62) (v := ?_) (a' := ?_) (bl 16 1) rfl rfl (any_of HT_.out (by kernel_rfl)) (fun _ _ _ h => h) (Or.inl ⟨by rfl, ?_⟩) ?_ ?_
 rotate_left
 ·intro w'
  go_simp
  with_reducible rfl
 rotate_left
 ·simp only [puts_]
  rfl
 refine pure_ (i := 2) (N := some 64) (v := ?_) (a' := ?_) (bl 16 5) rfl rfl (any_of HT_.out (by kernel_rfl)) (fun _ _ _ h => h) (Or.inl ⟨by rfl, ?_⟩) ?_ ?_
 rotate_left
 ·intro w'
  go_simp
  with_reducible rfl
 rotate_left
 ·simp only [puts_]
  rfl
 refine pure_ (i := 3) (N := some 65) (v := ?_) (a' := ?_) (bl 16 13) rfl rfl (any_of HT_.out (by kernel_rfl)) (fun _ _ _ h => h) (Or.inl ⟨by rfl, ?_⟩) ?_ ?_
 rotate_left
 ·intro w'
  go_simp
  with_reducible rfl
 rotate_left
 ·simp only [puts_]
  rfl
 refine pure_ (i := 4) (N := some 66) (v := ?_) (a' := ?_) (bl 16 29) rfl rfl (any_of HT_.out (by kernel_rfl)) (fun _ _ _ h => h) (Or.inl ⟨by rfl, ?_⟩) ?_ ?_
 rotate_left
 ·intro w'
  go_simp
  with_reducible rfl
 rotate_left
 ·simp only [puts_]
  rfl
 refine take_ (i := 5) (N := some 67) (v := ?_) (a' := ?_) (bl 16 61) rfl rfl (take_ofW HT_.out HW_.out (by kernel_rfl)) (fun _ _ _ h => h) (Or.inl ⟨by rfl, ?_⟩) hHeld ?_ ?_
 rotate_left
 ·rintro w' ⟨s0, s1⟩
  go_simp
  with_reducible rfl
 rotate_left
 ·simp only [puts_]
  rfl
 refine pure_ (i := 7) (N := some 69) (v := ?_) (a' := ?_) (bl 16 189) rfl rfl (any_of HT_.out (by kernel_rfl)) (fun _ _ _ h => h) (Or.inl ⟨by rfl, ?_⟩) ?_ ?_
 rotate_left
 ·intro w'
  go_simp
  with_reducible rfl
 rotate_left
 ·simp only [puts_]
  rfl
 refine pure_ (i := 8) (N := some 70) (v := ?_) (a' := ?_) (bl 16 445) rfl rfl (any_of HT_.out (by kernel_rfl)) (fun _ _ _ h => h) (Or.inl ⟨by rfl, ?_⟩) ?_ ?_
 rotate_left
 ·intro w'
  go_simp
  with_reducible rfl
 rotate_left
 ·simp only [puts_]
  rfl
 refine pure_ (i := 9) (N := some 71) (v := ?_) (a' := ?_) (bl 16 957) rfl rfl (any_of HT_.out (by kernel_rfl)) (fun _ _ _ h => h) (Or.inl ⟨by rfl, ?_⟩) ?_ ?_
 rotate_left
 ·intro w'
  go_simp
  with_reducible rfl
 rotate_left
 ·simp only [puts_]
  rfl
 refine take_ (i := 10) (N := some 72) (v := ?_) (a' := ?_) (bl 16 1981) rfl rfl (take_ofW HT_.out HW_.out (by kernel_rfl)) (fun _ _ _ h => h) (Or.inl ⟨by rfl, ?_⟩) hHeld ?_ ?_
 rotate_left
 ·rintro w' ⟨s0, s1⟩
  go_simp
  with_reducible rfl
 rotate_left
 ·simp only [puts_]
  rfl
 have HB9 := Aside0.mk (Below.refl w7.heap.size w7)
 refine join_ (σ := Value × Value × Nat) 4 #[true, true, true, true, true, true, true, true, true, true, true, true, false, false, false, false] (fun s_ => [(63, s_.1), (68, s_.2.1), (73, .slice (some ⟨s_.2.2, 0, none⟩) 1 1)]) (fun s_ w' => (w'.cell? ⟨g, 3, none⟩ = some (.slice A6 s0_3.length c6) ∧ w'.cell? ⟨g, 6, none⟩ = some (.int .i64 t351)) ∧ Kd.R (Kd.int .i64) 2 w' w7.heap.size (fun k => w7.heap.size ≤ k) s_.2.1 s0_3 ∧ w'.cell? ⟨s_.2.2, 0, none⟩ = some (.int .i64 t351) ∧ Below w7.heap.size w7 w') ?_ ?_
 rotate_left
 ·intro hCont
  refine two_ (i := 1) (j := 11) (Ni := some 63) (Nj := some 73) (bl 16 1983) (bl 16 4029) rfl rfl rfl rfl (two_of HT_.out (by kernel_rfl)) (by decide) (by decide) (fun K hK => ?_) (fun K hK => ?_)
  ·refine Kd.R_lit_step (Kd.int .i64) (w0 := w7) w7.heap.size 2 (by rfl) (N := 63) rfl (xs := ([] : List Int)) (inner := []) (ok := (fun k => w7.heap.size ≤ k)) (okp := fun _ => False) (by first | (go_simp; done) | (go_simp; rfl)) (Reps.none _ _) (fun _ h => h.elim) HB9.out.size HB9.out HB9.out.size (by simp) ?_
   intro v1 wr7_1 ho hb hg hnew
   clear HB9 hg hnew
   have HB9 := Aside0.mk hb
   have Hv := Aside0.mk ho
   clear hb ho
   refine hK.out _ _ ⟨(blk_cell (blk_below HT.out.1 HB9.out) 3).trans rfl, (blk_cell (blk_below HT.out.1 HB9.out) 6).trans rfl⟩ (fun hHeld => ?_)
   clear hK K
   refine norm_ (a' := ?_) ?_ ?_
   rotate_left
   ·show Act.put _ (some 63) _ = _
    simp only [puts_]
    rfl
   refine two_ (i := 6) (j := 11) (Ni := some 68) (Nj := some 73) (bl 16 2047) (bl 16 4031) rfl rfl rfl rfl (two_of HT_.out (by kernel_rfl)) (by decide) (by decide) (fun K hK => ?_) (fun K hK => ?_)
   ·refine Kd.R_append_rows_step (Kd.int .i64) (w0 := w7) w7.heap.size (by rfl) (.tmp 63) (.tmp 67) 22 2 (.int .i64 0) 8 rfl Try.underlying22 (by kernel_rfl) rfl (by decide) (by omega) v1 [] s0_3 A6 s0_3.length c6 (fun k => w7.heap.size ≤ k) (fun _ => False) rfl rfl Hv.out (TR.reads6 (TR.below HT.out HB9.out)).2.2 (fun _ _ h => h) (fun _ h => h.elim) (fun k hk => Nat.le_trans HB9.out.size hk) HB9.out HB9.out.size (by have := HLN.out; simp only [List.length_nil]; omega) ?_
    intro v2 wr7_2 ho hb hg hat
    clear HB9 Hv hg hat
    have HB9 := Aside0.mk hb
    have Hv : Aside0 (Kd.R (Kd.int .i64) 2 wr7_2 w7.heap.size (fun k => w7.heap.size ≤ k) v2 s0_3) := ⟨ho⟩
    clear hb ho
    refine hK.out _ _ ⟨(blk_cell (blk_below HT.out.1 HB9.out) 3).trans rfl, (blk_cell (blk_below HT.out.1 HB9.out) 6).trans rfl⟩ (fun hHeld => ?_)
    clear hK K
    refine norm_ (a' := ?_) ?_ ?_
    rotate_left
    ·show Act.put _ (some 68) _ = _
     simp only [puts_]
     rfl
    refine one_ (i := 11) (N := some 73) (bl 16 4095) rfl rfl (one_of HT_.out (by kernel_rfl)) (by decide) (fun K hK => ?_)
    refine value_ (v := .slice (some ⟨wr7_2.heap.size, 0, none⟩) 1 1) (w1 := wr7_2.alloc (.cells #[.int .i64 t351] 2)) (by rfl) rfl (by first | (go_simp; done) | (go_simp; rfl)) ?_
    have n1_ : (wr7_2.alloc (.cells #[.int .i64 t351] 2)).cell? ⟨wr7_2.heap.size, 0, none⟩ = some (.int .i64 t351) := (blk_cell (t := 2) (blk_new wr7_2 (.cells #[.int .i64 t351] 2)) 0).trans rfl
    have n0_ := Aside0.mk (below_alloc HB9.out (.cells #[.int .i64 t351] 2))
    have n2_ : some wr7_2.heap.size ≠ (v2 : Value).ownBlock := fun e_ => by have := Kd.R_lt Hv.out _ e_.symm; omega
    have n3_ := Aside0.mk (Kd.R_alloc Hv.out (.cells #[.int .i64 t351] 2))
    clear Hv
    have Hv := n3_
    clear n3_
    clear HB9
    have HB9 := n0_
    clear n0_
    generalize hE_ : wr7_2.heap.size = b2 at n1_ n2_ ⊢
    clear hE_
    generalize (wr7_2.alloc (.cells #[.int .i64 t351] 2)) = wr7_3 at HB9 n1_ Hv ⊢
    have Hb2 := Aside0.mk n1_
    clear n1_
    have Nb2 := Aside0.mk n2_
    clear n2_
    refine hK.out _ _ ⟨(blk_cell (blk_below HT.out.1 HB9.out) 3).trans rfl, (blk_cell (blk_below HT.out.1 HB9.out) 6).trans rfl⟩ (fun hHeld => ?_)
    clear hK K
    refine norm_ (a' := ?_) ?_ ?_
    rotate_left
    ·show Act.put _ (some 73) _ = _
     simp only [puts_]
     rfl
    exact norm_ (by simp only [putAll, Act.put, List.setIfInBounds_toArray, List.set_cons_zero, List.set_cons_succ]) (hCont (v1, v2, b2) _ ⟨hHeld, Hv.out, Hb2.out, HB9.out⟩)
   ·refine value_ (v := .slice (some ⟨wr7_1.heap.size, 0, none⟩) 1 1) (w1 := wr7_1.alloc (.cells #[.int .i64 t351] 2)) (by rfl) rfl (by first | (go_simp; done) | (go_simp; rfl)) ?_
    have n1_ : (wr7_1.alloc (.cells #[.int .i64 t351] 2)).cell? ⟨wr7_1.heap.size, 0, none⟩ = some (.int .i64 t351) := (blk_cell (t := 2) (blk_new wr7_1 (.cells #[.int .i64 t351] 2)) 0).trans rfl
    have n0_ := Aside0.mk (below_alloc HB9.out (.cells #[.int .i64 t351] 2))
    have n2_ : some wr7_1.heap.size ≠ (v1 : Value).ownBlock := fun e_ => by have := Kd.R_lt Hv.out _ e_.symm; omega
    have n3_ := Aside0.mk (Kd.R_alloc Hv.out (.cells #[.int .i64 t351] 2))
    clear Hv
    have Hv := n3_
    clear n3_
    clear HB9
    have HB9 := n0_
    clear n0_
    generalize hE_ : wr7_1.heap.size = b2 at n1_ n2_ ⊢
    clear hE_
    generalize (wr7_1.alloc (.cells #[.int .i64 t351] 2)) = wr7_4 at HB9 n1_ Hv ⊢
    have Hb2 := Aside0.mk n1_
    clear n1_
    have Nb2 := Aside0.mk n2_
    clear n2_
    refine hK.out _ _ ⟨(blk_cell (blk_below HT.out.1 HB9.out) 3).trans rfl, (blk_cell (blk_below HT.out.1 HB9.out) 6).trans rfl⟩ (fun hHeld => ?_)
    clear hK K
    refine norm_ (a' := ?_) ?_ ?_
    rotate_left
    ·show Act.put _ (some 73) _ = _
     simp only [puts_]
     rfl
    refine one_ (i := 6) (N := some 68) (bl 16 4095) rfl rfl (one_of HT_.out (by kernel_rfl)) (by decide) (fun K hK => ?_)
    refine Kd.R_append_rows_step (Kd.int .i64) (w0 := w7) w7.heap.size (by rfl) (.tmp 63) (.tmp 67) 22 2 (.int .i64 0) 8 rfl Try.underlying22 (by kernel_rfl) rfl (by decide) (by omega) v1 [] s0_3 A6 s0_3.length c6 (fun k => w7.heap.size ≤ k) (fun _ => False) rfl rfl Hv.out (TR.reads6 (TR.below HT.out HB9.out)).2.2 (fun _ _ h => h) (fun _ h => h.elim) (fun k hk => Nat.le_trans HB9.out.size hk) HB9.out HB9.out.size (by have := HLN.out; simp only [List.length_nil]; omega) ?_
    intro v2 wr7_5 ho hb hg hat
    have n1_ := Aside0.mk (cell_grown hg Hb2.out Nb2.out)
    clear Hb2 Nb2
    have Hb2 := n1_
    clear n1_
    clear HB9 Hv hg hat
    have HB9 := Aside0.mk hb
    have Hv : Aside0 (Kd.R (Kd.int .i64) 2 wr7_5 w7.heap.size (fun k => w7.heap.size ≤ k) v2 s0_3) := ⟨ho⟩
    clear hb ho
    refine hK.out _ _ ⟨(blk_cell (blk_below HT.out.1 HB9.out) 3).trans rfl, (blk_cell (blk_below HT.out.1 HB9.out) 6).trans rfl⟩ (fun hHeld => ?_)
    clear hK K
    refine norm_ (a' := ?_) ?_ ?_
    rotate_left
    ·show Act.put _ (some 68) _ = _
     simp only [puts_]
     rfl
    exact norm_ (by simp only [putAll, Act.put, List.setIfInBounds_toArray, List.set_cons_zero, List.set_cons_succ]) (hCont (v1, v2, b2) _ ⟨hHeld, Hv.out, Hb2.out, HB9.out⟩)
  ·refine value_ (v := .slice (some ⟨w7.heap.size, 0, none⟩) 1 1) (w1 := w7.alloc (.cells #[.int .i64 t351] 2)) (by rfl) rfl (by first | (go_simp; done) | (go_simp; rfl)) ?_
   have n1_ : (w7.alloc (.cells #[.int .i64 t351] 2)).cell? ⟨w7.heap.size, 0, none⟩ = some (.int .i64 t351) := (blk_cell (t := 2) (blk_new w7 (.cells #[.int .i64 t351] 2)) 0).trans rfl
   have n0_ := Aside0.mk (below_alloc HB9.out (.cells #[.int .i64 t351] 2))
   clear HB9
   have HB9 := n0_
   clear n0_
   generalize hE_ : w7.heap.size = b2 at n1_  ⊢
   clear hE_
   generalize (w7.alloc (.cells #[.int .i64 t351] 2)) = wr7_6 at HB9 n1_  ⊢
   have Hb2 := Aside0.mk n1_
   clear n1_
   refine hK.out _ _ ⟨(blk_cell (blk_below HT.out.1 HB9.out) 3).trans rfl, (blk_cell (blk_below HT.out.1 HB9.out) 6).trans rfl⟩ (fun hHeld => ?_)
   clear hK K
   refine norm_ (a' := ?_) ?_ ?_
   rotate_left
   ·show Act.put _ (some 73) _ = _
    simp only [puts_]
    rfl
   refine one_ (i := 1) (N := some 63) (bl 16 4031) rfl rfl (one_of HT_.out (by kernel_rfl)) (by decide) (fun K hK => ?_)
   refine Kd.R_lit_step (Kd.int .i64) (w0 := w7) w7.heap.size 2 (by rfl) (N := 63) rfl (xs := ([] : List Int)) (inner := []) (ok := (fun k => w7.heap.size ≤ k)) (okp := fun _ => False) (by first | (go_simp; done) | (go_simp; rfl)) (Reps.none _ _) (fun _ h => h.elim) HB9.out.size HB9.out HB9.out.size (by simp) ?_
   intro v1 wr7_7 ho hb hg hnew
   have n1_ := Aside0.mk (cell_grown hg Hb2.out (by simp))
   have n2_ : some b2 ≠ v1.ownBlock := by obtain ⟨b_, hb_, hle_⟩ := hnew; rw [hb_]; intro e_; injection e_ with e_; have := World.block_lt_of_cell? _ _ Hb2.out; dsimp only at this; omega
   clear Hb2
   have Hb2 := n1_
   have Nb2 := Aside0.mk n2_
   clear n1_ n2_
   clear HB9 hg hnew
   have HB9 := Aside0.mk hb
   have Hv := Aside0.mk ho
   clear hb ho
   refine hK.out _ _ ⟨(blk_cell (blk_below HT.out.1 HB9.out) 3).trans rfl, (blk_cell (blk_below HT.out.1 HB9.out) 6).trans rfl⟩ (fun hHeld => ?_)
   clear hK K
   refine norm_ (a' := ?_) ?_ ?_
   rotate_left
   ·show Act.put _ (some 63) _ = _
    simp only [puts_]
    rfl
   refine one_ (i := 6) (N := some 68) (bl 16 4095) rfl rfl (one_of HT_.out (by kernel_rfl)) (by decide) (fun K hK => ?_)
   refine Kd.R_append_rows_step (Kd.int .i64) (w0 := w7) w7.heap.size (by rfl) (.tmp 63) (.tmp 67) 22 2 (.int .i64 0) 8 rfl Try.underlying22 (by kernel_rfl) rfl (by decide) (by omega) v1 [] s0_3 A6 s0_3.length c6 (fun k => w7.heap.size ≤ k) (fun _ => False) rfl rfl Hv.out (TR.reads6 (TR.below HT.out HB9.out)).2.2 (fun _ _ h => h) (fun _ h => h.elim) (fun k hk => Nat.le_trans HB9.out.size hk) HB9.out HB9.out.size (by have := HLN.out; simp only [List.length_nil]; omega) ?_
   intro v2 wr7_8 ho hb hg hat
   have n1_ := Aside0.mk (cell_grown hg Hb2.out Nb2.out)
   clear Hb2 Nb2
   have Hb2 := n1_
   clear n1_
   clear HB9 Hv hg hat
   have HB9 := Aside0.mk hb
   have Hv : Aside0 (Kd.R (Kd.int .i64) 2 wr7_8 w7.heap.size (fun k => w7.heap.size ≤ k) v2 s0_3) := ⟨ho⟩
   clear hb ho
   refine hK.out _ _ ⟨(blk_cell (blk_below HT.out.1 HB9.out) 3).trans rfl, (blk_cell (blk_below HT.out.1 HB9.out) 6).trans rfl⟩ (fun hHeld => ?_)
   clear hK K
   refine norm_ (a' := ?_) ?_ ?_
   rotate_left
   ·show Act.put _ (some 68) _ = _
    simp only [puts_]
    rfl
   exact norm_ (by simp only [putAll, Act.put, List.setIfInBounds_toArray, List.set_cons_zero, List.set_cons_succ]) (hCont (v1, v2, b2) _ ⟨hHeld, Hv.out, Hb2.out, HB9.out⟩)
 clear HB9
 rintro ⟨v1, v2, b2⟩ wz7 ⟨hHeld, hv, hb2, hb9⟩
 try dsimp only at hv hb2 hHeld
 have HB9 := Aside0.mk hb9
 have Hv := Aside0.mk hv
 have Hb2 := Aside0.mk hb2
 clear hb9 hv hb2
 refine norm_ (a' := ?_) ?_ ?_
 rotate_left
 ·simp only [putAll, Act.put, List.setIfInBounds_toArray, List.set_cons_zero, List.set_cons_succ]
  rfl
 refine one_ (i := 12) (N := some 74) (bl 16 8191) rfl rfl (one_of HT_.out (by kernel_rfl)) (by decide) (fun K hK => ?_)
 obtain ⟨v3, wy7, hr, hq, hb1, hg, hat⟩ := Qi_run (w0 := w7) w7.heap.size 22 v2 s0_3 t351 b2 (fun k => w7.heap.size ≤ k) Hb2.out (fun k hk => Nat.le_trans HB9.out.size hk) (Kd.Q_of_R Hv.out) HB9.out HB9.out.size (by have := HLN.out; omega)
 refine app_step (by rfl) (.tmp 68) (.tmp 73) rfl rfl rfl hr ?_
 obtain ⟨D6, d6, hv3, _⟩ := Kd.Q_slice hq
 subst hv3
 have n0_ := Aside0.mk (TR.fresh6 HT.out hb1 hq)
 clear HT HB9 Hv Hb2 hr hq hb1 hg hat
 have HT := n0_
 clear n0_
 generalize hX6 : (s0_3 ++ [t351]) = X6 at HT HH ⊢
 refine hK.out _ _ ⟨(blk_cell HT.out.1 3).trans rfl, (blk_cell HT.out.1 6).trans rfl⟩ (fun hHeld => ?_)
 clear hK K
 refine norm_ (a' := ?_) ?_ ?_
 rotate_left
 ·show Act.put _ (some 74) _ = _
  simp only [puts_]
  rfl
 refine pure_ (i := 13) (N := some 75) (v := ?_) (a' := ?_) (bl 16 16383) rfl rfl (any_of HT_.out (by kernel_rfl)) (fun _ _ _ h => h) (Or.inl ⟨by rfl, ?_⟩) ?_ ?_
 rotate_left
 ·intro w'
  go_simp
  with_reducible rfl
 rotate_left
 ·simp only [puts_]
  rfl
 refine pure_ (i := 14) (N := some 76) (v := ?_) (a' := ?_) (bl 16 32767) rfl rfl (any_of HT_.out (by kernel_rfl)) (fun _ _ _ h => h) (Or.inl ⟨by rfl, ?_⟩) ?_ ?_
 rotate_left
 ·intro w'
  go_simp
  with_reducible rfl
 rotate_left
 ·simp only [puts_]
  rfl
 refine last_ (i := 15) (N := none) (bl 16 65535) rfl rfl (one_of HT_.out (by kernel_rfl)) (by decide) (fun K hK => ?_)
 have hs_ : wy7.cell? ⟨g, 3, none⟩ = some (.slice A6 s0_3.length c6) := (blk_cell HT.out.1 3).trans rfl
 have hfs_ := blk_frozen HT.out.1 3
 refine skip_ (w1 := ?_) (by rfl) rfl ?_ ?_
 rotate_left
 ·go_simp
  rfl
 have n0_ : Aside0 (TR P w0 w (wy7.setCell ⟨g, 3, none⟩ (.slice D6 X6.length d6)) g #[.int .i64 s0_0, .int .i64 s0_1, .slice D5 X5.length d5, .slice D6 X6.length d6, .int .i64 t352, .int .i64 t350, .int .i64 t351, .int .i64 s0_7] (.slice D5 X5.length d5) X5 (.slice D6 X6.length d6) X6) := ⟨HT.out.set 3 _⟩
 clear HT hs_ hfs_
 have HT := n0_
 clear n0_
 generalize (wy7.setCell ⟨g, 3, none⟩ (.slice D6 X6.length d6)) = w70 at HT ⊢
 refine hK.out _ _ ?_
 clear hK K
 refine done_ (done_of HT_.out (by kernel_rfl)) ?_
 clear hHeld HT_ HW_
 try go_wp2
 have hXY : Aside0 (X5.length = X6.length) := ⟨by rw [← hX5, ← hX6, List.length_append, List.length_append, HLN.out.1]; rfl⟩
 have hX1 : Aside0 (1 ≤ X5.length) := ⟨by rw [← hX5, List.length_append]; simp⟩
 clear hX5 hX6 HLN
 have n0_ := Aside0.mk (TR.drew HT.out)
 clear HT
 have HT := n0_
 clear n0_
 refine start_ (n := 10) (S := fun w' => w'.cell? ⟨g, 0, none⟩ = some (.int .i64 s0_0) ∧ w'.cell? ⟨g, 2, none⟩ = some (.slice D5 X5.length d5) ∧ w'.cell? ⟨g, 3, none⟩ = some (.slice D6 X6.length d6)) (ds := []) #[false, false, false, false, false, false, false, false, false, false] (by kernel_rfl) rfl rfl ⟨(blk_cell HT.out.1 0).trans rfl, (blk_cell HT.out.1 2).trans rfl, (blk_cell HT.out.1 3).trans rfl⟩ (fun hHeld => ?_); refine with_tabW flywheelref17_Trend_Add.tab8 flywheelref17_Trend_Add.bits8 (fun HT_ HW_ => ?_)
 generalize World.drew w70 = w13 at HT hHeld ⊢
 refine pure_ (i := 0) (N := some 77) (v := ?_) (a' := ?_) (bl 10 1) rfl rfl (any_of HT_.out (by kernel_rfl)) (fun _ _ _ h => h) (Or.inl ⟨by rfl, ?_⟩) ?_ ?_
 rotate_left
 ·intro w'
  go_simp
  with_reducible rfl
 rotate_left
 ·simp only [puts_]
  rfl
 refine pure_ (i := 1) (N := some 78) (v := ?_) (a' := ?_) (bl 10 3) rfl rfl (any_of HT_.out (by kernel_rfl)) (fun _ _ _ h => h) (Or.inl ⟨by rfl, ?_⟩) ?_ ?_
 rotate_left
 ·intro w'
  go_simp
  with_reducible rfl
 rotate_left
 ·simp only [puts_]
  rfl
 refine pure_ (i := 2) (N := some 79) (v := ?_) (a' := ?_) (bl 10 7) rfl rfl (any_of HT_.out (by kernel_rfl)) (fun _ _ _ h => h) (Or.inl ⟨by rfl, ?_⟩) ?_ ?_
 rotate_left
 ·intro w'
  go_simp
  with_reducible rfl
 rotate_left
 ·simp only [puts_]
  rfl
 refine take_ (i := 3) (N := some 80) (v := ?_) (a' := ?_) (bl 10 15) rfl rfl (take_ofW HT_.out HW_.out (by kernel_rfl)) (fun _ _ _ h => h) (Or.inl ⟨by rfl, ?_⟩) hHeld ?_ ?_
 rotate_left
 ·rintro w' ⟨s0, s1, s2⟩
  go_simp
  with_reducible rfl
 rotate_left
 ·simp only [puts_]
  rfl
 refine pure_ (i := 4) (N := some 81) (v := ?_) (a' := ?_) (bl 10 31) rfl rfl (any_of HT_.out (by kernel_rfl)) (fun _ _ _ h => h) (Or.inl ⟨by rfl, ?_⟩) ?_ ?_
 rotate_left
 ·intro w'
  go_simp
  with_reducible rfl
 rotate_left
 ·simp only [puts_]
  rfl
 refine pure_ (i := 5) (N := some 82) (v := ?_) (a' := ?_) (bl 10 63) rfl rfl (any_of HT_.out (by kernel_rfl)) (fun _ _ _ h => h) (Or.inl ⟨by rfl, ?_⟩) ?_ ?_
 rotate_left
 ·intro w'
  go_simp
  with_reducible rfl
 rotate_left
 ·simp only [puts_]
  rfl
 refine pure_ (i := 6) (N := some 83) (v := ?_) (a' := ?_) (bl 10 127) rfl rfl (any_of HT_.out (by kernel_rfl)) (fun _ _ _ h => h) (Or.inl ⟨by rfl, ?_⟩) ?_ ?_
 rotate_left
 ·intro w'
  go_simp
  with_reducible rfl
 rotate_left
 ·simp only [puts_]
  rfl
 refine pure_ (i := 7) (N := some 84) (v := ?_) (a' := ?_) (bl 10 255) rfl rfl (any_of HT_.out (by kernel_rfl)) (fun _ _ _ h => h) (Or.inl ⟨by rfl, ?_⟩) ?_ ?_
 rotate_left
 ·intro w'
  go_simp
  with_reducible rfl
 rotate_left
 ·simp only [puts_]
  rfl
 refine take_ (i := 8) (N := some 85) (v := ?_) (a' := ?_) (bl 10 511) rfl rfl (take_ofW HT_.out HW_.out (by kernel_rfl)) (fun _ _ _ h => h) (Or.inl ⟨by rfl, ?_⟩) hHeld ?_ ?_
 rotate_left
 ·rintro w' ⟨s0, s1, s2⟩
  go_simp
  with_reducible rfl
 rotate_left
 ·simp only [puts_]
  rfl
 refine pure_ (i := 9) (N := some 86) (v := ?_) (a' := ?_) (bl 10 1023) rfl rfl (any_of HT_.out (by kernel_rfl)) (fun _ _ _ h => h) (Or.inl ⟨by rfl, ?_⟩) ?_ ?_
 rotate_left
 ·intro w'
  go_simp
  with_reducible rfl
 rotate_left
 ·simp only [puts_]
  rfl
 refine done_ (done_of HT_.out (by kernel_rfl)) ?_
 clear hHeld HT_ HW_
 by_cases c9 : s0_0 < (X5.length : Int)
 ·rw [if_pos c9] at HH
  have c9b0 : decide (s0_0 < (X5.length : Int)) = true := decide_eq_true c9
  try go_wp2
  obtain ⟨i2, hi2, hzz⟩ := Option.map_eq_some_iff.1 (show (Try.prog.info? 2).map (fun i => i.size) = some 1 by kernel_rfl)
  have hcut5 : ∀ W_ : World, (Instr.slice 22 (.slice D5 X5.length d5) (some (.int .i64 1)) none none).run Try.prog W_ = .ok (.slice (if d5 = 1 then D5 else D5.map (·.add (1 * 1))) (X5.length - 1) (d5 - 1)) W_ := cut_from 22 2 .i64 Try.underlying22 hi2 1 hzz D5 X5.length d5 1 (by decide) (by have := hX1.out; omega)
  have hcut6 : ∀ W_ : World, (Instr.slice 22 (.slice D6 X6.length d6) (some (.int .i64 1)) none none).run Try.prog W_ = .ok (.slice (if d6 = 1 then D6 else D6.map (·.add (1 * 1))) (X6.length - 1) (d6 - 1)) W_ := cut_from 22 2 .i64 Try.underlying22 hi2 1 hzz D6 X6.length d6 1 (by decide) (by have := hX1.out; have := hXY.out; omega)
  have HT2 := Aside0.mk (TR.cut (m := 1) HT.out hX1.out (by have := hX1.out; have := hXY.out; omega))
  clear HT
  have HT := HT2
  clear HT2
  generalize hE5 : (if d5 = 1 then D5 else D5.map (·.add (1 * 1))) = E5 at hcut5 HT
  generalize hE6 : (if d6 = 1 then D6 else D6.map (·.add (1 * 1))) = E6 at hcut6 HT
  generalize hG5 : d5 - 1 = e5 at hcut5 HT
  generalize hG6 : d6 - 1 = e6 at hcut6 HT
  rw [show X5.length - 1 = (X5.drop 1).length from List.length_drop.symm] at hcut5 HT
  rw [show X6.length - 1 = (X6.drop 1).length from List.length_drop.symm] at hcut6 HT
  clear hE5 hE6 hG5 hG6
  generalize hZ5 : X5.drop 1 = Z5 at HT HH hcut5
  generalize hZ6 : X6.drop 1 = Z6 at HT HH hcut6
  have n0_ := Aside0.mk (TR.drew HT.out)
  clear HT
  have HT := n0_
  clear n0_
  refine start_ (n := 18) (S := fun w' => w'.cell? ⟨g, 0, none⟩ = some (.int .i64 s0_0) ∧ w'.cell? ⟨g, 2, none⟩ = some (.slice D5 X5.length d5) ∧ w'.cell? ⟨g, 3, none⟩ = some (.slice D6 X6.length d6)) (ds := [14, 17]) #[false, false, false, false, false, false, false, false, false, false, false, false, false, false, false, false, false, false] (by kernel_rfl) rfl rfl ⟨(blk_cell HT.out.1 0).trans rfl, (blk_cell HT.out.1 2).trans rfl, (blk_cell HT.out.1 3).trans rfl⟩ (fun hHeld => ?_); refine with_tabW flywheelref17_Trend_Add.tab9 flywheelref17_Trend_Add.bits9 (fun HT_ HW_ => ?_)
  generalize World.drew w13 = w14 at HT hHeld ⊢
  refine pure_ (i := 0) (N := some 87) (v := ?_) (a' := ?_) (bl 18 1) rfl rfl (any_of HT_.out (by kernel_rfl)) (fun _ _ _ h => h) (Or.inl ⟨by rfl, ?_⟩) ?_ ?_
  rotate_left
  ·intro w'
   go_simp
   with_reducible rfl
  rotate_left
  ·simp only [puts_]
   rfl
  refine pure_ (i := 1) (N := some 88) (v := ?_) (a' := ?_) (bl 18 3) rfl rfl (any_of HT_.out (by kernel_rfl)) (fun _ _ _ h => h) (Or.inl ⟨by rfl, ?_⟩) ?_ ?_
  rotate_left
  ·intro w'
   go_simp
   with_reducible rfl
  rotate_left
  ·simp only [puts_]
   rfl
  refine pure_ (i := 2) (N := some 89) (v := ?_) (a' := ?_) (bl 18 7) rfl rfl (any_of HT_.out (by kernel_rfl)) (fun _ _ _ h => h) (Or.inl ⟨by rfl, ?_⟩) ?_ ?_
  rotate_left
  ·intro w'
   go_simp
   with_reducible rfl
  rotate_left
  ·simp only [puts_]
   rfl
  refine pure_ (i := 3) (N := some 90) (v := ?_) (a' := ?_) (bl 18 15) rfl rfl (any_of HT_.out (by kernel_rfl)) (fun _ _ _ h => h) (Or.inl ⟨by rfl, ?_⟩) ?_ ?_
  rotate_left
  ·intro w'
   go_simp
   with_reducible rfl
  rotate_left
  ·simp only [puts_]
   rfl
  refine pure_ (i := 4) (N := some 91) (v := ?_) (a' := ?_) (bl 18 31) rfl rfl (any_of HT_.out (by kernel_rfl)) (fun _ _ _ h => h) (Or.inl ⟨by rfl, ?_⟩) ?_ ?_
  rotate_left
  ·intro w'
   go_simp
   with_reducible rfl
  rotate_left
  ·simp only [puts_]
   rfl
  refine take_ (i := 5) (N := some 92) (v := ?_) (a' := ?_) (bl 18 63) rfl rfl (take_ofW HT_.out HW_.out (by kernel_rfl)) (fun _ _ _ h => h) (Or.inl ⟨by rfl, ?_⟩) hHeld ?_ ?_
  rotate_left
  ·rintro w' ⟨s0, s1, s2⟩
   go_simp
   with_reducible rfl
  rotate_left
  ·simp only [puts_]
   rfl
  refine pure_ (i := 6) (N := some 93) (v := ?_) (a' := ?_) (bl 18 127) rfl rfl (any_of HT_.out (by kernel_rfl)) (fun _ _ _ h => h) (Or.inl ⟨by rfl, ?_⟩) ?_ ?_
  rotate_left
  ·intro w'
   go_simp
   with_reducible rfl
  rotate_left
  ·simp only [puts_]
   rfl
  refine pure_ (i := 7) (N := some 94) (v := ?_) (a' := ?_) (bl 18 255) rfl rfl (any_of HT_.out (by kernel_rfl)) (fun _ _ _ h => h) (Or.inl ⟨by rfl, ?_⟩) ?_ ?_
  rotate_left
  ·intro w'
   go_simp
   with_reducible rfl
  rotate_left
  ·simp only [puts_]
   rfl
  refine pure_ (i := 8) (N := some 95) (v := ?_) (a' := ?_) (bl 18 511) rfl rfl (any_of HT_.out (by kernel_rfl)) (fun _ _ _ h => h) (Or.inl ⟨by rfl, ?_⟩) ?_ ?_
  rotate_left
  ·intro w'
   go_simp
   with_reducible rfl
  rotate_left
  ·simp only [puts_]
   rfl
  refine pure_ (i := 9) (N := some 96) (v := ?_) (a' := ?_) (bl 18 1023) rfl rfl (any_of HT_.out (by kernel_rfl)) (fun _ _ _ h => h) (Or.inl ⟨by rfl, ?_⟩) ?_ ?_
  rotate_left
  ·intro w'
   go_simp
   with_reducible rfl
  rotate_left
  ·simp only [puts_]
   rfl
  refine take_ (i := 10) (N := some 97) (v := ?_) (a' := ?_) (bl 18 2047) rfl rfl (take_ofW HT_.out HW_.out (by kernel_rfl)) (fun _ _ _ h => h) (Or.inl ⟨by rfl, ?_⟩) hHeld ?_ ?_
  rotate_left
  ·rintro w' ⟨s0, s1, s2⟩
   go_simp
   with_reducible rfl
  rotate_left
  ·simp only [puts_]
   rfl
  refine pure_ (i := 11) (N := some 98) (v := ?_) (a' := ?_) (bl 18 4095) rfl rfl (any_of HT_.out (by kernel_rfl)) (fun _ _ _ h => h) (Or.inl ⟨by rfl, ?_⟩) ?_ ?_
  rotate_left
  ·intro w'
   go_simp
   with_reducible rfl
  rotate_left
  ·simp only [puts_]
   rfl
  refine pure_ (i := 12) (N := some 99) (v := ?_) (a' := ?_) (bl 18 8191) rfl rfl (any_of HT_.out (by kernel_rfl)) (fun _ _ _ h => h) (Or.inl ⟨by rfl, ?_⟩) ?_ ?_
  rotate_left
  ·intro w'
   go_simp
   with_reducible rfl
  rotate_left
  ·simp only [puts_]
   rfl
  refine pure_ (i := 13) (N := some 100) (v := ?_) (a' := ?_) (bl 18 16383) rfl rfl (any_of HT_.out (by kernel_rfl)) (fun _ _ _ h => h) (Or.inl ⟨by rfl, ?_⟩) ?_ ?_
  rotate_left
  ·intro w'
   go_simp
   with_reducible rfl
  rotate_left
  ·simp only [puts_]
   rfl
  refine last_ (i := 14) (N := none) (bl 18 32767) rfl rfl (one_of HT_.out (by kernel_rfl)) (by decide) (fun K hK => ?_)
  have hs_ : w14.cell? ⟨g, 2, none⟩ = some (.slice D5 X5.length d5) := (blk_cell HT.out.1 2).trans rfl
  have hfs_ := blk_frozen HT.out.1 2
  refine skip_ (w1 := ?_) (by rfl) rfl ?_ ?_
  rotate_left
  ·go_simp
   rfl
  have n0_ : Aside0 (TR P w0 w (w14.setCell ⟨g, 2, none⟩ (.slice E5 Z5.length e5)) g #[.int .i64 s0_0, .int .i64 s0_1, .slice E5 Z5.length e5, .slice D6 X6.length d6, .int .i64 t352, .int .i64 t350, .int .i64 t351, .int .i64 s0_7] (.slice E5 Z5.length e5) Z5 (.slice E6 Z6.length e6) Z6) := ⟨HT.out.set 2 _⟩
  clear HT hs_ hfs_
  have HT := n0_
  clear n0_
  generalize (w14.setCell ⟨g, 2, none⟩ (.slice E5 Z5.length e5)) = w16 at HT ⊢
  refine hK.out _ _ ?_
  clear hK K
  refine pure_ (i := 15) (N := some 101) (v := ?_) (a' := ?_) (bl 18 65535) rfl rfl (any_of HT_.out (by kernel_rfl)) (fun _ _ _ h => h) (Or.inl ⟨by rfl, ?_⟩) ?_ ?_
  rotate_left
  ·intro w'
   go_simp
   with_reducible rfl
  rotate_left
  ·simp only [puts_]
   rfl
  refine pure_ (i := 16) (N := some 102) (v := ?_) (a' := ?_) (bl 18 131071) rfl rfl (any_of HT_.out (by kernel_rfl)) (fun _ _ _ h => h) (Or.inl ⟨by rfl, ?_⟩) ?_ ?_
  rotate_left
  ·intro w'
   go_simp
   with_reducible rfl
  rotate_left
  ·simp only [puts_]
   rfl
  refine last_ (i := 17) (N := none) (bl 18 262143) rfl rfl (one_of HT_.out (by kernel_rfl)) (by decide) (fun K hK => ?_)
  have hs_ : w16.cell? ⟨g, 3, none⟩ = some (.slice D6 X6.length d6) := (blk_cell HT.out.1 3).trans rfl
  have hfs_ := blk_frozen HT.out.1 3
  refine skip_ (w1 := ?_) (by rfl) rfl ?_ ?_
  rotate_left
  ·go_simp
   rfl
  have n0_ : Aside0 (TR P w0 w (w16.setCell ⟨g, 3, none⟩ (.slice E6 Z6.length e6)) g #[.int .i64 s0_0, .int .i64 s0_1, .slice E5 Z5.length e5, .slice E6 Z6.length e6, .int .i64 t352, .int .i64 t350, .int .i64 t351, .int .i64 s0_7] (.slice E5 Z5.length e5) Z5 (.slice E6 Z6.length e6) Z6) := ⟨HT.out.set 3 _⟩
  clear HT hs_ hfs_
  have HT := n0_
  clear n0_
  generalize (w16.setCell ⟨g, 3, none⟩ (.slice E6 Z6.length e6)) = w17 at HT ⊢
  refine hK.out _ _ ?_
  clear hK K
  refine done_ (done_of HT_.out (by kernel_rfl)) ?_
  clear hHeld HT_ HW_
  have hcq_0 := (blk_cell HT.out.1 0).trans rfl
  have hcq_1 := (blk_cell HT.out.1 1).trans rfl
  have hcq_2 := (blk_cell HT.out.1 2).trans rfl
  have hcq_3 := (blk_cell HT.out.1 3).trans rfl
  have hcq_4 := (blk_cell HT.out.1 4).trans rfl
  have hcq_5 := (blk_cell HT.out.1 5).trans rfl
  have hcq_6 := (blk_cell HT.out.1 6).trans rfl
  have hcq_7 := (blk_cell HT.out.1 7).trans rfl
  have hfq_0 := blk_frozen HT.out.1 0
  have hfq_1 := blk_frozen HT.out.1 1
  have hfq_2 := blk_frozen HT.out.1 2
  have hfq_3 := blk_frozen HT.out.1 3
  have hfq_4 := blk_frozen HT.out.1 4
  have hfq_5 := blk_frozen HT.out.1 5
  have hfq_6 := blk_frozen HT.out.1 6
  have hfq_7 := blk_frozen HT.out.1 7
  go_wp2_with (first | ((with_reducible refine gate_callee (f := 19) rfl ?_); refine goesL_ (some 113) rfl rfl Try.func19 (by kernel_rfl) rfl #[.pointer (some ⟨g, 0, none⟩)] rfl (by (try simp only [List.map_toArray, List.map_cons, List.map_nil]); first | done | rfl) ?_; have n0_ : TR P w0 w (w17.setCell ⟨g, 7, none⟩ (.int .i64 cnt)) g #[.int .i64 s0_0, .int .i64 s0_1, .slice E5 Z5.length e5, .slice E6 Z6.length e6, .int .i64 t352, .int .i64 t350, .int .i64 t351, .int .i64 cnt] (.slice E5 Z5.length e5) Z5 (.slice E6 Z6.length e6) Z6 := HT.out.set 7 _; (refine (flywheelref17_Trend_Slope.callsP P k g s0_0 s0_1 Z5 Z6 t352 t350 t351 cnt r1 r2 r3 r4 r5 r6 r7 r8 r9 w0 _ (fun j hj => hPf j (Nat.le_trans n0_.2.2.2.2.2.2.2.1 hj)) (TR.to_state n0_) n0_.2.2.2.2.2.2.1 HH.out).mono ?_); rintro e w15 ⟨rfl, hi, hb, hk⟩; refine ⟨_, rfl, ?_⟩))
  go_ret
  exact ⟨rfl, hi, hb, n0_.2.2.2.2.2.2.2.then_ hk (fun _ h => .inl h)⟩
 ·rw [if_neg c9] at HH
  have c9b0 : decide (s0_0 < (X5.length : Int)) = false := decide_eq_false c9
  have hcq_0 := (blk_cell HT.out.1 0).trans rfl
  have hcq_1 := (blk_cell HT.out.1 1).trans rfl
  have hcq_2 := (blk_cell HT.out.1 2).trans rfl
  have hcq_3 := (blk_cell HT.out.1 3).trans rfl
  have hcq_4 := (blk_cell HT.out.1 4).trans rfl
  have hcq_5 := (blk_cell HT.out.1 5).trans rfl
  have hcq_6 := (blk_cell HT.out.1 6).trans rfl
  have hcq_7 := (blk_cell HT.out.1 7).trans rfl
  have hfq_0 := blk_frozen HT.out.1 0
  have hfq_1 := blk_frozen HT.out.1 1
  have hfq_2 := blk_frozen HT.out.1 2
  have hfq_3 := blk_frozen HT.out.1 3
  have hfq_4 := blk_frozen HT.out.1 4
  have hfq_5 := blk_frozen HT.out.1 5
  have hfq_6 := blk_frozen HT.out.1 6
  have hfq_7 := blk_frozen HT.out.1 7
  go_wp2_with (first | ((with_reducible refine gate_callee (f := 19) rfl ?_); refine goesL_ (some 113) rfl rfl Try.func19 (by kernel_rfl) rfl #[.pointer (some ⟨g, 0, none⟩)] rfl (by (try simp only [List.map_toArray, List.map_cons, List.map_nil]); first | done | rfl) ?_; have n0_ : TR P w0 w (w13.setCell ⟨g, 7, none⟩ (.int .i64 cnt)) g #[.int .i64 s0_0, .int .i64 s0_1, .slice D5 X5.length d5, .slice D6 X6.length d6, .int .i64 t352, .int .i64 t350, .int .i64 t351, .int .i64 cnt] (.slice D5 X5.length d5) X5 (.slice D6 X6.length d6) X6 := HT.out.set 7 _; (refine (flywheelref17_Trend_Slope.callsP P k g s0_0 s0_1 X5 X6 t352 t350 t351 cnt r1 r2 r3 r4 r5 r6 r7 r8 r9 w0 _ (fun j hj => hPf j (Nat.le_trans n0_.2.2.2.2.2.2.2.1 hj)) (TR.to_state n0_) n0_.2.2.2.2.2.2.1 HH.out).mono ?_); rintro e w15 ⟨rfl, hi, hb, hk⟩; refine ⟨_, rfl, ?_⟩))
  go_ret
  exact ⟨rfl, hi, hb, n0_.2.2.2.2.2.2.2.then_ hk (fun _ h => .inl h)⟩
end Go.Proofs.Ytmcfgaokimlngaa.P
end

section
namespace Go.Proofs.Ytmcfgaokimlngaa.P
open Go.RowKit Go.Proofs.YtmcfgaokimlngaaW.PrintWords Go.Proofs.YtmcfgaokimlngaaW.PrintLast Go.Proofs.YtmcfgaokimlngaaW.PrintMore
attribute [local go_sem] max2_int min2_int max_two min_two max_three min_three max_four min_four   -- for this text's walks alone
set_option linter.unusedVariables false
set_option linter.unusedSimpArgs false
def flywheelref17_Trend_Count.f (s0_0 : Int) (s0_1 : Int) (s0_2 : List Int) (s0_3 : List Int) (s0_4 : Int) (s0_5 : Int) (s0_6 : Int) (s0_7 : Int) : Option (Int × Int × Int × List Int × List Int × Int × Int × Int × Int) := some (s0_7, s0_0, s0_1, s0_2, s0_3, s0_4, s0_5, s0_6, s0_7)
set_option maxHeartbeats 8000000 in
set_option maxRecDepth 100000 in
theorem flywheelref17_Trend_Count.callsP {P : Nat → Prop} (g : Nat) (s0_0 : Int) (s0_1 : Int) (s0_2 : List Int) (s0_3 : List Int) (s0_4 : Int) (s0_5 : Int) (s0_6 : Int) (s0_7 : Int) (r1 : Int) (r2 : Int) (r3 : Int) (r4 : List Int) (r5 : List Int) (r6 : Int) (r7 : Int) (r8 : Int) (r9 : Int) (w0 w : World) (hI : IsS62P P w0 w g s0_0 s0_1 s0_2 s0_3 s0_4 s0_5 s0_6 s0_7) (hB : Below w0.heap.size w0 w) (h : flywheelref17_Trend_Count.f s0_0 s0_1 s0_2 s0_3 s0_4 s0_5 s0_6 s0_7 = some (r1, r2, r3, r4, r5, r6, r7, r8, r9)) :
  Calls Try.prog 21 #[.pointer (some ⟨g, 0, none⟩)] w fun e w' => e = .returned (.int .i64 r1) ∧ IsS62P P w0 w' g r2 r3 r4 r5 r6 r7 r8 r9 ∧ Below w0.heap.size w0 w' ∧ KeepBut w w' g none := by
 have HI0 := Aside0.mk hI
 have HK := Aside0.mk (KeepBut.refl w g none)
 have HL := Aside0.mk hB.size
 clear hI
 have HW0 := Aside0.mk hB.size
 have HB := Aside0.mk hB
 clear hB
 have H : (some (s0_7, s0_0, s0_1, s0_2, s0_3, s0_4, s0_5, s0_6, s0_7)) = some (r1, r2, r3, r4, r5, r6, r7, r8, r9) := h
 clear h
 simp only [Option.some.injEq, Prod.mk.injEq] at H
 obtain ⟨rfl, rfl, rfl, rfl, rfl, rfl, rfl, rfl, rfl⟩ := H
 obtain ⟨ASz2_2, cSz2_2, ASz2_3, cSz2_3, HGz2, hgz2, HSz2_2, HSz2_3⟩ := HI0.out
 have hcz2_0 := cellS62_0 HGz2
 have hcz2_1 := cellS62_1 HGz2
 have hcz2_2 := cellS62_2 HGz2
 have hcz2_3 := cellS62_3 HGz2
 have hcz2_4 := cellS62_4 HGz2
 have hcz2_5 := cellS62_5 HGz2
 have hcz2_6 := cellS62_6 HGz2
 have hcz2_7 := cellS62_7 HGz2
 have hfz2_0 := blk_frozen HGz2 0
 have hfz2_1 := blk_frozen HGz2 1
 have hfz2_2 := blk_frozen HGz2 2
 have hfz2_3 := blk_frozen HGz2 3
 have hfz2_4 := blk_frozen HGz2 4
 have hfz2_5 := blk_frozen HGz2 5
 have hfz2_6 := blk_frozen HGz2 6
 have hfz2_7 := blk_frozen HGz2 7
 clear HGz2 hgz2
 go_enter Try.func21, Try.ntmps21
 go_wp2
 go_ret
 exact ⟨by first | rfl | (simp [errW_none, errW_some] <;> rfl) | (simp [*, errW_none, errW_some] <;> rfl), by repeat (first | (with_reducible first | exact HI0.out | apply IsS62P.alloc | apply IsS62P.drewN | apply IsS62P.drew | apply IsS62P.set_0 | apply IsS62P.set_1 | apply IsS62P.set_2 | apply IsS62P.set_3 | apply IsS62P.set_4 | apply IsS62P.set_5 | apply IsS62P.set_6 | apply IsS62P.set_7) | exact HI0.out), by repeat (first | (with_reducible first | exact HB.out | apply below_alloc | apply pw_below_drewN | apply below_drew1 | refine below_set ?_ (IsS62P.ge HI0.out)) | exact HB.out), by repeat (first | (with_reducible first | exact HK.out | apply KeepBut.set_ | apply keep_drewN | apply keep_drew | apply keep_alloc) | exact HK.out)⟩
end Go.Proofs.Ytmcfgaokimlngaa.P
end

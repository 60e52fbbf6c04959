-- PUT TOGETHER by a program of this session: of the claim's texts, what is used
import Derived.Test.YtaelmmbodigheaaKDetectUnder7
section
namespace Go.Proofs.Ytaelmmbodigheaa.P
open Go.RowKit Go.Proofs.YtaelmmbodigheaaW.PrintWords Go.Proofs.YtaelmmbodigheaaW.PrintLast Go.Proofs.YtaelmmbodigheaaW.PrintMore
attribute [local go_sem] max2_int min2_int max_two min_two max_three min_three max_four min_four   -- for this text's walks alone
set_option linter.unusedVariables false
set_option linter.unusedSimpArgs false
def detect_Detector_Add.f (k : Nat) (s0_0 : Int) (s0_1 : Int) (s0_2 : Int) (s0_3 : Int) (s0_4 : Int) (s0_5 : Int) (a1 : Int) (a2 : Int) (a3 : Int) (a4 : Int) : Option (Int × Int × Int × Int × Int × Int × Int) := (sat_Clamp.f a3 0 1000000).bind fun t299 => ((sat_Mul.f (4 * (mn (mx a2 0) 60)) a1).bind fun t300 => (if t300 > s0_1 then (if s0_2 > 0 then (if (wrap64 (s0_2 + t299)) > 10000 then (if (wrap64 (s0_3 + 1)) > 1 then (if t300 ≥ s0_4 then ((sat_Abs.f t300).bind fun t301 => ((detect_Detector_moves.f k 1 s0_1 0 0 s0_4 s0_5 t301 (mn t299 100000)).bind fun bt302 => (some (bt302.1, bt302.1, bt302.2.1, bt302.2.2.1, bt302.2.2.2.1, t300, bt302.2.2.2.2.2)))) else ((sat_Abs.f t300).bind fun t308 => ((detect_Detector_moves.f k s0_0 s0_1 (wrap64 (s0_2 + t299)) (wrap64 (s0_3 + 1)) s0_4 s0_5 t308 (mn t299 100000)).bind fun bt309 => (some (bt309.1, bt309.1, bt309.2.1, bt309.2.2.1, bt309.2.2.2.1, t300, bt309.2.2.2.2.2))))) else ((sat_Abs.f t300).bind fun t315 => ((detect_Detector_moves.f k s0_0 s0_1 (wrap64 (s0_2 + t299)) (wrap64 (s0_3 + 1)) s0_4 s0_5 t315 (mn t299 100000)).bind fun bt316 => (some (bt316.1, bt316.1, bt316.2.1, bt316.2.2.1, bt316.2.2.2.1, t300, bt316.2.2.2.2.2))))) else ((sat_Abs.f t300).bind fun t322 => ((detect_Detector_moves.f k s0_0 s0_1 (wrap64 (s0_2 + t299)) (wrap64 (s0_3 + 1)) s0_4 s0_5 t322 (mn t299 100000)).bind fun bt323 => (some (bt323.1, bt323.1, bt323.2.1, bt323.2.2.1, bt323.2.2.2.1, t300, bt323.2.2.2.2.2))))) else (if (mx (wrap64 (Int.tdiv t299 2)) 1) > 10000 then (if (wrap64 (s0_3 + 1)) > 1 then (if t300 ≥ s0_4 then ((sat_Abs.f t300).bind fun t329 => ((detect_Detector_moves.f k 1 s0_1 0 0 s0_4 s0_5 t329 (mn t299 100000)).bind fun bt330 => (some (bt330.1, bt330.1, bt330.2.1, bt330.2.2.1, bt330.2.2.2.1, t300, bt330.2.2.2.2.2)))) else ((sat_Abs.f t300).bind fun t336 => ((detect_Detector_moves.f k s0_0 s0_1 (mx (wrap64 (Int.tdiv t299 2)) 1) (wrap64 (s0_3 + 1)) s0_4 s0_5 t336 (mn t299 100000)).bind fun bt337 => (some (bt337.1, bt337.1, bt337.2.1, bt337.2.2.1, bt337.2.2.2.1, t300, bt337.2.2.2.2.2))))) else ((sat_Abs.f t300).bind fun t343 => ((detect_Detector_moves.f k s0_0 s0_1 (mx (wrap64 (Int.tdiv t299 2)) 1) (wrap64 (s0_3 + 1)) s0_4 s0_5 t343 (mn t299 100000)).bind fun bt344 => (some (bt344.1, bt344.1, bt344.2.1, bt344.2.2.1, bt344.2.2.2.1, t300, bt344.2.2.2.2.2))))) else ((sat_Abs.f t300).bind fun t350 => ((detect_Detector_moves.f k s0_0 s0_1 (mx (wrap64 (Int.tdiv t299 2)) 1) (wrap64 (s0_3 + 1)) s0_4 s0_5 t350 (mn t299 100000)).bind fun bt351 => (some (bt351.1, bt351.1, bt351.2.1, bt351.2.2.1, bt351.2.2.2.1, t300, bt351.2.2.2.2.2)))))) else (if t300 < (wrap64 (-s0_1)) then ((sat_Abs.f t300).bind fun t357 => ((detect_Detector_moves.f k 2 s0_1 0 0 s0_4 s0_5 t357 (mn t299 100000)).bind fun bt358 => (some (bt358.1, bt358.1, bt358.2.1, bt358.2.2.1, bt358.2.2.2.1, t300, bt358.2.2.2.2.2)))) else ((sat_Abs.f t300).bind fun t364 => ((detect_Detector_moves.f k 0 s0_1 0 0 s0_4 s0_5 t364 (mn t299 100000)).bind fun bt365 => (some (bt365.1, bt365.1, bt365.2.1, bt365.2.2.1, bt365.2.2.2.1, t300, bt365.2.2.2.2.2)))))))
theorem detect_Detector_Add.mono : ∀ a0 a1 a2 a3 a4 a5 a6 a7 a8 a9 k, LeO (detect_Detector_Add.f k a0 a1 a2 a3 a4 a5 a6 a7 a8 a9) (detect_Detector_Add.f (k + 1) a0 a1 a2 a3 a4 a5 a6 a7 a8 a9) := by
  intro a0 a1 a2 a3 a4 a5 a6 a7 a8 a9 k
  unfold detect_Detector_Add.f
  repeat' first
      | (with_reducible exact detect_Detector_moves.mono _ _ _ _ _ _ _ _ _)
      | (with_reducible exact LeO.refl _)
      | (with_reducible exact LeO.none _)
      | (with_reducible refine LeO.ite ?_ ?_)
      | (with_reducible refine LeO.bind ?_ (fun _ => ?_))
      | exact detect_Detector_moves.mono _ _ _ _ _ _ _ _ _
      | exact LeO.none _
      | refine LeO.ite ?_ ?_
      | refine LeO.bind ?_ (fun _ => ?_)
set_option maxHeartbeats 8000000 in
set_option maxRecDepth 100000 in
theorem detect_Detector_Add.calls (k : Nat) (g : Nat) (s0_0 : Int) (s0_1 : Int) (s0_2 : Int) (s0_3 : Int) (s0_4 : Int) (s0_5 : Int) (a1 : Int) (a2 : Int) (a3 : Int) (a4 : Int) (r1 : Int) (r2 : Int) (r3 : Int) (r4 : Int) (r5 : Int) (r6 : Int) (r7 : Int) (w0 w : World) (hI : IsS75 w0 w g s0_0 s0_1 s0_2 s0_3 s0_4 s0_5) (hB : Below w0.heap.size w0 w) (h : detect_Detector_Add.f k s0_0 s0_1 s0_2 s0_3 s0_4 s0_5 a1 a2 a3 a4 = some (r1, r2, r3, r4, r5, r6, r7)) :
    Calls Try.prog 28 #[.pointer (some ⟨g, 0, none⟩), .int .i64 a1, .int .i64 a2, .int .i64 a3, .int .i64 a4] w fun e w' => e = .returned (.int .i64 r1) ∧ IsS75 w0 w' g r2 r3 r4 r5 r6 r7 ∧ Below w0.heap.size w0 w' ∧ KeepBut w w' g none := by
  have hpn46_eql : ∀ (a_ : Addr) (W_ : World), (Go.binOp .eql 46 (.pointer (some a_)) (.pointer none)).run Try.prog W_ = .ok (.bool false) W_ := fun _ _ => by kernel_rfl
  have hnn46_eql : ∀ (W_ : World), (Go.binOp .eql 46 (.pointer none) (.pointer none)).run Try.prog W_ = .ok (.bool true) W_ := fun _ => by kernel_rfl
  have HI0 := Aside0.mk hI
  have HK := Aside0.mk (KeepBut.refl w g none)
  have HL := Aside0.mk hB.size
  clear hI
  have HW0 := Aside0.mk hB.size
  have HB := Aside0.mk hB
  clear hB
  have H : ((sat_Clamp.f a3 0 1000000).bind fun t299 => ((sat_Mul.f (4 * (mn (mx a2 0) 60)) a1).bind fun t300 => (if t300 > s0_1 then (if s0_2 > 0 then (if (wrap64 (s0_2 + t299)) > 10000 then (if (wrap64 (s0_3 + 1)) > 1 then (if t300 ≥ s0_4 then ((sat_Abs.f t300).bind fun t301 => ((detect_Detector_moves.f k 1 s0_1 0 0 s0_4 s0_5 t301 (mn t299 100000)).bind fun bt302 => (some (bt302.1, bt302.1, bt302.2.1, bt302.2.2.1, bt302.2.2.2.1, t300, bt302.2.2.2.2.2)))) else ((sat_Abs.f t300).bind fun t308 => ((detect_Detector_moves.f k s0_0 s0_1 (wrap64 (s0_2 + t299)) (wrap64 (s0_3 + 1)) s0_4 s0_5 t308 (mn t299 100000)).bind fun bt309 => (some (bt309.1, bt309.1, bt309.2.1, bt309.2.2.1, bt309.2.2.2.1, t300, bt309.2.2.2.2.2))))) else ((sat_Abs.f t300).bind fun t315 => ((detect_Detector_moves.f k s0_0 s0_1 (wrap64 (s0_2 + t299)) (wrap64 (s0_3 + 1)) s0_4 s0_5 t315 (mn t299 100000)).bind fun bt316 => (some (bt316.1, bt316.1, bt316.2.1, bt316.2.2.1, bt316.2.2.2.1, t300, bt316.2.2.2.2.2))))) else ((sat_Abs.f t300).bind fun t322 => ((detect_Detector_moves.f k s0_0 s0_1 (wrap64 (s0_2 + t299)) (wrap64 (s0_3 + 1)) s0_4 s0_5 t322 (mn t299 100000)).bind fun bt323 => (some (bt323.1, bt323.1, bt323.2.1, bt323.2.2.1, bt323.2.2.2.1, t300, bt323.2.2.2.2.2))))) else (if (mx (wrap64 (Int.tdiv t299 2)) 1) > 10000 then (if (wrap64 (s0_3 + 1)) > 1 then (if t300 ≥ s0_4 then ((sat_Abs.f t300).bind fun t329 => ((detect_Detector_moves.f k 1 s0_1 0 0 s0_4 s0_5 t329 (mn t299 100000)).bind fun bt330 => (some (bt330.1, bt330.1, bt330.2.1, bt330.2.2.1, bt330.2.2.2.1, t300, bt330.2.2.2.2.2)))) else ((sat_Abs.f t300).bind fun t336 => ((detect_Detector_moves.f k s0_0 s0_1 (mx (wrap64 (Int.tdiv t299 2)) 1) (wrap64 (s0_3 + 1)) s0_4 s0_5 t336 (mn t299 100000)).bind fun bt337 => (some (bt337.1, bt337.1, bt337.2.1, bt337.2.2.1, bt337.2.2.2.1, t300, bt337.2.2.2.2.2))))) else ((sat_Abs.f t300).bind fun t343 => ((detect_Detector_moves.f k s0_0 s0_1 (mx (wrap64 (Int.tdiv t299 2)) 1) (wrap64 (s0_3 + 1)) s0_4 s0_5 t343 (mn t299 100000)).bind fun bt344 => (some (bt344.1, bt344.1, bt344.2.1, bt344.2.2.1, bt344.2.2.2.1, t300, bt344.2.2.2.2.2))))) else ((sat_Abs.f t300).bind fun t350 => ((detect_Detector_moves.f k s0_0 s0_1 (mx (wrap64 (Int.tdiv t299 2)) 1) (wrap64 (s0_3 + 1)) s0_4 s0_5 t350 (mn t299 100000)).bind fun bt351 => (some (bt351.1, bt351.1, bt351.2.1, bt351.2.2.1, bt351.2.2.2.1, t300, bt351.2.2.2.2.2)))))) else (if t300 < (wrap64 (-s0_1)) then ((sat_Abs.f t300).bind fun t357 => ((detect_Detector_moves.f k 2 s0_1 0 0 s0_4 s0_5 t357 (mn t299 100000)).bind fun bt358 => (some (bt358.1, bt358.1, bt358.2.1, bt358.2.2.1, bt358.2.2.2.1, t300, bt358.2.2.2.2.2)))) else ((sat_Abs.f t300).bind fun t364 => ((detect_Detector_moves.f k 0 s0_1 0 0 s0_4 s0_5 t364 (mn t299 100000)).bind fun bt365 => (some (bt365.1, bt365.1, bt365.2.1, bt365.2.2.1, bt365.2.2.2.1, t300, bt365.2.2.2.2.2)))))))) = some (r1, r2, r3, r4, r5, r6, r7) := h
  clear h
  replace H := Option.bind_eq_some_iff.mp H
  obtain ⟨t299, A60, H⟩ := H
  replace H : ((sat_Mul.f (4 * (mn (mx a2 0) 60)) a1).bind fun t300 => (if t300 > s0_1 then (if s0_2 > 0 then (if (wrap64 (s0_2 + t299)) > 10000 then (if (wrap64 (s0_3 + 1)) > 1 then (if t300 ≥ s0_4 then ((sat_Abs.f t300).bind fun t301 => ((detect_Detector_moves.f k 1 s0_1 0 0 s0_4 s0_5 t301 (mn t299 100000)).bind fun bt302 => (some (bt302.1, bt302.1, bt302.2.1, bt302.2.2.1, bt302.2.2.2.1, t300, bt302.2.2.2.2.2)))) else ((sat_Abs.f t300).bind fun t308 => ((detect_Detector_moves.f k s0_0 s0_1 (wrap64 (s0_2 + t299)) (wrap64 (s0_3 + 1)) s0_4 s0_5 t308 (mn t299 100000)).bind fun bt309 => (some (bt309.1, bt309.1, bt309.2.1, bt309.2.2.1, bt309.2.2.2.1, t300, bt309.2.2.2.2.2))))) else ((sat_Abs.f t300).bind fun t315 => ((detect_Detector_moves.f k s0_0 s0_1 (wrap64 (s0_2 + t299)) (wrap64 (s0_3 + 1)) s0_4 s0_5 t315 (mn t299 100000)).bind fun bt316 => (some (bt316.1, bt316.1, bt316.2.1, bt316.2.2.1, bt316.2.2.2.1, t300, bt316.2.2.2.2.2))))) else ((sat_Abs.f t300).bind fun t322 => ((detect_Detector_moves.f k s0_0 s0_1 (wrap64 (s0_2 + t299)) (wrap64 (s0_3 + 1)) s0_4 s0_5 t322 (mn t299 100000)).bind fun bt323 => (some (bt323.1, bt323.1, bt323.2.1, bt323.2.2.1, bt323.2.2.2.1, t300, bt323.2.2.2.2.2))))) else (if (mx (wrap64 (Int.tdiv t299 2)) 1) > 10000 then (if (wrap64 (s0_3 + 1)) > 1 then (if t300 ≥ s0_4 then ((sat_Abs.f t300).bind fun t329 => ((detect_Detector_moves.f k 1 s0_1 0 0 s0_4 s0_5 t329 (mn t299 100000)).bind fun bt330 => (some (bt330.1, bt330.1, bt330.2.1, bt330.2.2.1, bt330.2.2.2.1, t300, bt330.2.2.2.2.2)))) else ((sat_Abs.f t300).bind fun t336 => ((detect_Detector_moves.f k s0_0 s0_1 (mx (wrap64 (Int.tdiv t299 2)) 1) (wrap64 (s0_3 + 1)) s0_4 s0_5 t336 (mn t299 100000)).bind fun bt337 => (some (bt337.1, bt337.1, bt337.2.1, bt337.2.2.1, bt337.2.2.2.1, t300, bt337.2.2.2.2.2))))) else ((sat_Abs.f t300).bind fun t343 => ((detect_Detector_moves.f k s0_0 s0_1 (mx (wrap64 (Int.tdiv t299 2)) 1) (wrap64 (s0_3 + 1)) s0_4 s0_5 t343 (mn t299 100000)).bind fun bt344 => (some (bt344.1, bt344.1, bt344.2.1, bt344.2.2.1, bt344.2.2.2.1, t300, bt344.2.2.2.2.2))))) else ((sat_Abs.f t300).bind fun t350 => ((detect_Detector_moves.f k s0_0 s0_1 (mx (wrap64 (Int.tdiv t299 2)) 1) (wrap64 (s0_3 + 1)) s0_4 s0_5 t350 (mn t299 100000)).bind fun bt351 => (some (bt351.1, bt351.1, bt351.2.1, bt351.2.2.1, bt351.2.2.2.1, t300, bt351.2.2.2.2.2)))))) else (if t300 < (wrap64 (-s0_1)) then ((sat_Abs.f t300).bind fun t357 => ((detect_Detector_moves.f k 2 s0_1 0 0 s0_4 s0_5 t357 (mn t299 100000)).bind fun bt358 => (some (bt358.1, bt358.1, bt358.2.1, bt358.2.2.1, bt358.2.2.2.1, t300, bt358.2.2.2.2.2)))) else ((sat_Abs.f t300).bind fun t364 => ((detect_Detector_moves.f k 0 s0_1 0 0 s0_4 s0_5 t364 (mn t299 100000)).bind fun bt365 => (some (bt365.1, bt365.1, bt365.2.1, bt365.2.2.1, bt365.2.2.2.1, t300, bt365.2.2.2.2.2))))))) = some (r1, r2, r3, r4, r5, r6, r7) := H
  have A6 := Aside0.mk A60
  clear A60
  obtain ⟨ji7, hji7⟩ : ∃ j_ : Int, (mx a2 0) = j_ := ⟨_, rfl⟩
  replace H : ((sat_Mul.f (4 * (mn (ji7) 60)) a1).bind fun t300 => (if t300 > s0_1 then (if s0_2 > 0 then (if (wrap64 (s0_2 + t299)) > 10000 then (if (wrap64 (s0_3 + 1)) > 1 then (if t300 ≥ s0_4 then ((sat_Abs.f t300).bind fun t301 => ((detect_Detector_moves.f k 1 s0_1 0 0 s0_4 s0_5 t301 (mn t299 100000)).bind fun bt302 => (some (bt302.1, bt302.1, bt302.2.1, bt302.2.2.1, bt302.2.2.2.1, t300, bt302.2.2.2.2.2)))) else ((sat_Abs.f t300).bind fun t308 => ((detect_Detector_moves.f k s0_0 s0_1 (wrap64 (s0_2 + t299)) (wrap64 (s0_3 + 1)) s0_4 s0_5 t308 (mn t299 100000)).bind fun bt309 => (some (bt309.1, bt309.1, bt309.2.1, bt309.2.2.1, bt309.2.2.2.1, t300, bt309.2.2.2.2.2))))) else ((sat_Abs.f t300).bind fun t315 => ((detect_Detector_moves.f k s0_0 s0_1 (wrap64 (s0_2 + t299)) (wrap64 (s0_3 + 1)) s0_4 s0_5 t315 (mn t299 100000)).bind fun bt316 => (some (bt316.1, bt316.1, bt316.2.1, bt316.2.2.1, bt316.2.2.2.1, t300, bt316.2.2.2.2.2))))) else ((sat_Abs.f t300).bind fun t322 => ((detect_Detector_moves.f k s0_0 s0_1 (wrap64 (s0_2 + t299)) (wrap64 (s0_3 + 1)) s0_4 s0_5 t322 (mn t299 100000)).bind fun bt323 => (some (bt323.1, bt323.1, bt323.2.1, bt323.2.2.1, bt323.2.2.2.1, t300, bt323.2.2.2.2.2))))) else (if (mx (wrap64 (Int.tdiv t299 2)) 1) > 10000 then (if (wrap64 (s0_3 + 1)) > 1 then (if t300 ≥ s0_4 then ((sat_Abs.f t300).bind fun t329 => ((detect_Detector_moves.f k 1 s0_1 0 0 s0_4 s0_5 t329 (mn t299 100000)).bind fun bt330 => (some (bt330.1, bt330.1, bt330.2.1, bt330.2.2.1, bt330.2.2.2.1, t300, bt330.2.2.2.2.2)))) else ((sat_Abs.f t300).bind fun t336 => ((detect_Detector_moves.f k s0_0 s0_1 (mx (wrap64 (Int.tdiv t299 2)) 1) (wrap64 (s0_3 + 1)) s0_4 s0_5 t336 (mn t299 100000)).bind fun bt337 => (some (bt337.1, bt337.1, bt337.2.1, bt337.2.2.1, bt337.2.2.2.1, t300, bt337.2.2.2.2.2))))) else ((sat_Abs.f t300).bind fun t343 => ((detect_Detector_moves.f k s0_0 s0_1 (mx (wrap64 (Int.tdiv t299 2)) 1) (wrap64 (s0_3 + 1)) s0_4 s0_5 t343 (mn t299 100000)).bind fun bt344 => (some (bt344.1, bt344.1, bt344.2.1, bt344.2.2.1, bt344.2.2.2.1, t300, bt344.2.2.2.2.2))))) else ((sat_Abs.f t300).bind fun t350 => ((detect_Detector_moves.f k s0_0 s0_1 (mx (wrap64 (Int.tdiv t299 2)) 1) (wrap64 (s0_3 + 1)) s0_4 s0_5 t350 (mn t299 100000)).bind fun bt351 => (some (bt351.1, bt351.1, bt351.2.1, bt351.2.2.1, bt351.2.2.2.1, t300, bt351.2.2.2.2.2)))))) else (if t300 < (wrap64 (-s0_1)) then ((sat_Abs.f t300).bind fun t357 => ((detect_Detector_moves.f k 2 s0_1 0 0 s0_4 s0_5 t357 (mn t299 100000)).bind fun bt358 => (some (bt358.1, bt358.1, bt358.2.1, bt358.2.2.1, bt358.2.2.2.1, t300, bt358.2.2.2.2.2)))) else ((sat_Abs.f t300).bind fun t364 => ((detect_Detector_moves.f k 0 s0_1 0 0 s0_4 s0_5 t364 (mn t299 100000)).bind fun bt365 => (some (bt365.1, bt365.1, bt365.2.1, bt365.2.2.1, bt365.2.2.2.1, t300, bt365.2.2.2.2.2))))))) = some (r1, r2, r3, r4, r5, r6, r7) := by first | (rw [hji7] at H; exact H) | (simp only [hji7] at H ⊢; exact H)
  (try rw [hji7] at A6)
  (try (have hji7l : 0 ≤ ji7 := by (rw [← hji7]; unfold mx; (repeat' split) <;> omega)))
  (try (have hji7m : 0 ≤ ji7 := by omega))
  have hji7_ : (if a2 < 0 then 0 else a2) = ji7 := hji7
  obtain ⟨ji8, hji8⟩ : ∃ j_ : Int, (mn (ji7) 60) = j_ := ⟨_, rfl⟩
  replace H : ((sat_Mul.f (4 * (ji8)) a1).bind fun t300 => (if t300 > s0_1 then (if s0_2 > 0 then (if (wrap64 (s0_2 + t299)) > 10000 then (if (wrap64 (s0_3 + 1)) > 1 then (if t300 ≥ s0_4 then ((sat_Abs.f t300).bind fun t301 => ((detect_Detector_moves.f k 1 s0_1 0 0 s0_4 s0_5 t301 (mn t299 100000)).bind fun bt302 => (some (bt302.1, bt302.1, bt302.2.1, bt302.2.2.1, bt302.2.2.2.1, t300, bt302.2.2.2.2.2)))) else ((sat_Abs.f t300).bind fun t308 => ((detect_Detector_moves.f k s0_0 s0_1 (wrap64 (s0_2 + t299)) (wrap64 (s0_3 + 1)) s0_4 s0_5 t308 (mn t299 100000)).bind fun bt309 => (some (bt309.1, bt309.1, bt309.2.1, bt309.2.2.1, bt309.2.2.2.1, t300, bt309.2.2.2.2.2))))) else ((sat_Abs.f t300).bind fun t315 => ((detect_Detector_moves.f k s0_0 s0_1 (wrap64 (s0_2 + t299)) (wrap64 (s0_3 + 1)) s0_4 s0_5 t315 (mn t299 100000)).bind fun bt316 => (some (bt316.1, bt316.1, bt316.2.1, bt316.2.2.1, bt316.2.2.2.1, t300, bt316.2.2.2.2.2))))) else ((sat_Abs.f t300).bind fun t322 => ((detect_Detector_moves.f k s0_0 s0_1 (wrap64 (s0_2 + t299)) (wrap64 (s0_3 + 1)) s0_4 s0_5 t322 (mn t299 100000)).bind fun bt323 => (some (bt323.1, bt323.1, bt323.2.1, bt323.2.2.1, bt323.2.2.2.1, t300, bt323.2.2.2.2.2))))) else (if (mx (wrap64 (Int.tdiv t299 2)) 1) > 10000 then (if (wrap64 (s0_3 + 1)) > 1 then (if t300 ≥ s0_4 then ((sat_Abs.f t300).bind fun t329 => ((detect_Detector_moves.f k 1 s0_1 0 0 s0_4 s0_5 t329 (mn t299 100000)).bind fun bt330 => (some (bt330.1, bt330.1, bt330.2.1, bt330.2.2.1, bt330.2.2.2.1, t300, bt330.2.2.2.2.2)))) else ((sat_Abs.f t300).bind fun t336 => ((detect_Detector_moves.f k s0_0 s0_1 (mx (wrap64 (Int.tdiv t299 2)) 1) (wrap64 (s0_3 + 1)) s0_4 s0_5 t336 (mn t299 100000)).bind fun bt337 => (some (bt337.1, bt337.1, bt337.2.1, bt337.2.2.1, bt337.2.2.2.1, t300, bt337.2.2.2.2.2))))) else ((sat_Abs.f t300).bind fun t343 => ((detect_Detector_moves.f k s0_0 s0_1 (mx (wrap64 (Int.tdiv t299 2)) 1) (wrap64 (s0_3 + 1)) s0_4 s0_5 t343 (mn t299 100000)).bind fun bt344 => (some (bt344.1, bt344.1, bt344.2.1, bt344.2.2.1, bt344.2.2.2.1, t300, bt344.2.2.2.2.2))))) else ((sat_Abs.f t300).bind fun t350 => ((detect_Detector_moves.f k s0_0 s0_1 (mx (wrap64 (Int.tdiv t299 2)) 1) (wrap64 (s0_3 + 1)) s0_4 s0_5 t350 (mn t299 100000)).bind fun bt351 => (some (bt351.1, bt351.1, bt351.2.1, bt351.2.2.1, bt351.2.2.2.1, t300, bt351.2.2.2.2.2)))))) else (if t300 < (wrap64 (-s0_1)) then ((sat_Abs.f t300).bind fun t357 => ((detect_Detector_moves.f k 2 s0_1 0 0 s0_4 s0_5 t357 (mn t299 100000)).bind fun bt358 => (some (bt358.1, bt358.1, bt358.2.1, bt358.2.2.1, bt358.2.2.2.1, t300, bt358.2.2.2.2.2)))) else ((sat_Abs.f t300).bind fun t364 => ((detect_Detector_moves.f k 0 s0_1 0 0 s0_4 s0_5 t364 (mn t299 100000)).bind fun bt365 => (some (bt365.1, bt365.1, bt365.2.1, bt365.2.2.1, bt365.2.2.2.1, t300, bt365.2.2.2.2.2))))))) = some (r1, r2, r3, r4, r5, r6, r7) := by first | (rw [hji8] at H; exact H) | (simp only [hji8] at H ⊢; exact H)
  (try rw [hji8] at A6)
  have hji8_ : (if 60 < (ji7) then 60 else (ji7)) = ji8 := hji8
  replace H := Option.bind_eq_some_iff.mp H
  obtain ⟨t300, A90, H⟩ := H
  replace H : (if t300 > s0_1 then (if s0_2 > 0 then (if (wrap64 (s0_2 + t299)) > 10000 then (if (wrap64 (s0_3 + 1)) > 1 then (if t300 ≥ s0_4 then ((sat_Abs.f t300).bind fun t301 => ((detect_Detector_moves.f k 1 s0_1 0 0 s0_4 s0_5 t301 (mn t299 100000)).bind fun bt302 => (some (bt302.1, bt302.1, bt302.2.1, bt302.2.2.1, bt302.2.2.2.1, t300, bt302.2.2.2.2.2)))) else ((sat_Abs.f t300).bind fun t308 => ((detect_Detector_moves.f k s0_0 s0_1 (wrap64 (s0_2 + t299)) (wrap64 (s0_3 + 1)) s0_4 s0_5 t308 (mn t299 100000)).bind fun bt309 => (some (bt309.1, bt309.1, bt309.2.1, bt309.2.2.1, bt309.2.2.2.1, t300, bt309.2.2.2.2.2))))) else ((sat_Abs.f t300).bind fun t315 => ((detect_Detector_moves.f k s0_0 s0_1 (wrap64 (s0_2 + t299)) (wrap64 (s0_3 + 1)) s0_4 s0_5 t315 (mn t299 100000)).bind fun bt316 => (some (bt316.1, bt316.1, bt316.2.1, bt316.2.2.1, bt316.2.2.2.1, t300, bt316.2.2.2.2.2))))) else ((sat_Abs.f t300).bind fun t322 => ((detect_Detector_moves.f k s0_0 s0_1 (wrap64 (s0_2 + t299)) (wrap64 (s0_3 + 1)) s0_4 s0_5 t322 (mn t299 100000)).bind fun bt323 => (some (bt323.1, bt323.1, bt323.2.1, bt323.2.2.1, bt323.2.2.2.1, t300, bt323.2.2.2.2.2))))) else (if (mx (wrap64 (Int.tdiv t299 2)) 1) > 10000 then (if (wrap64 (s0_3 + 1)) > 1 then (if t300 ≥ s0_4 then ((sat_Abs.f t300).bind fun t329 => ((detect_Detector_moves.f k 1 s0_1 0 0 s0_4 s0_5 t329 (mn t299 100000)).bind fun bt330 => (some (bt330.1, bt330.1, bt330.2.1, bt330.2.2.1, bt330.2.2.2.1, t300, bt330.2.2.2.2.2)))) else ((sat_Abs.f t300).bind fun t336 => ((detect_Detector_moves.f k s0_0 s0_1 (mx (wrap64 (Int.tdiv t299 2)) 1) (wrap64 (s0_3 + 1)) s0_4 s0_5 t336 (mn t299 100000)).bind fun bt337 => (some (bt337.1, bt337.1, bt337.2.1, bt337.2.2.1, bt337.2.2.2.1, t300, bt337.2.2.2.2.2))))) else ((sat_Abs.f t300).bind fun t343 => ((detect_Detector_moves.f k s0_0 s0_1 (mx (wrap64 (Int.tdiv t299 2)) 1) (wrap64 (s0_3 + 1)) s0_4 s0_5 t343 (mn t299 100000)).bind fun bt344 => (some (bt344.1, bt344.1, bt344.2.1, bt344.2.2.1, bt344.2.2.2.1, t300, bt344.2.2.2.2.2))))) else ((sat_Abs.f t300).bind fun t350 => ((detect_Detector_moves.f k s0_0 s0_1 (mx (wrap64 (Int.tdiv t299 2)) 1) (wrap64 (s0_3 + 1)) s0_4 s0_5 t350 (mn t299 100000)).bind fun bt351 => (some (bt351.1, bt351.1, bt351.2.1, bt351.2.2.1, bt351.2.2.2.1, t300, bt351.2.2.2.2.2)))))) else (if t300 < (wrap64 (-s0_1)) then ((sat_Abs.f t300).bind fun t357 => ((detect_Detector_moves.f k 2 s0_1 0 0 s0_4 s0_5 t357 (mn t299 100000)).bind fun bt358 => (some (bt358.1, bt358.1, bt358.2.1, bt358.2.2.1, bt358.2.2.2.1, t300, bt358.2.2.2.2.2)))) else ((sat_Abs.f t300).bind fun t364 => ((detect_Detector_moves.f k 0 s0_1 0 0 s0_4 s0_5 t364 (mn t299 100000)).bind fun bt365 => (some (bt365.1, bt365.1, bt365.2.1, bt365.2.2.1, bt365.2.2.2.1, t300, bt365.2.2.2.2.2)))))) = some (r1, r2, r3, r4, r5, r6, r7) := H
  have A9 := Aside0.mk A90
  clear A90
  by_cases c10 : t300 > s0_1
  · rw [if_pos c10] at H
    have c10b0 : decide (s0_1 < t300) = true := decide_eq_true c10
    clear c10
    by_cases c11 : s0_2 > 0
    · rw [if_pos c11] at H
      have c11b0 : decide (0 < s0_2) = true := decide_eq_true c11
      clear c11
      by_cases c12 : (wrap64 (s0_2 + t299)) > 10000
      · rw [if_pos c12] at H
        have c12b0 : decide (10000 < (wrap64 (s0_2 + t299))) = true := decide_eq_true c12
        clear c12
        by_cases c13 : (wrap64 (s0_3 + 1)) > 1
        · rw [if_pos c13] at H
          have c13b0 : decide (1 < (wrap64 (s0_3 + 1))) = true := decide_eq_true c13
          clear c13
          by_cases c14 : t300 ≥ s0_4
          · rw [if_pos c14] at H
            have c14b0 : decide (s0_4 ≤ t300) = true := decide_eq_true c14
            clear c14
            replace H := Option.bind_eq_some_iff.mp H
            obtain ⟨t301, A150, H⟩ := H
            replace H : ((detect_Detector_moves.f k 1 s0_1 0 0 s0_4 s0_5 t301 (mn t299 100000)).bind fun bt302 => (some (bt302.1, bt302.1, bt302.2.1, bt302.2.2.1, bt302.2.2.2.1, t300, bt302.2.2.2.2.2))) = some (r1, r2, r3, r4, r5, r6, r7) := H
            have A15 := Aside0.mk A150
            clear A150
            obtain ⟨ji16, hji16⟩ : ∃ j_ : Int, (mn t299 100000) = j_ := ⟨_, rfl⟩
            replace H : ((detect_Detector_moves.f k 1 s0_1 0 0 s0_4 s0_5 t301 (ji16)).bind fun bt302 => (some (bt302.1, bt302.1, bt302.2.1, bt302.2.2.1, bt302.2.2.2.1, t300, bt302.2.2.2.2.2))) = some (r1, r2, r3, r4, r5, r6, r7) := by first | (rw [hji16] at H; exact H) | (simp only [hji16] at H ⊢; exact H)
            (try rw [hji16] at A6)
            (try rw [hji16] at A9)
            (try rw [hji16] at A15)
            (try (have hji16h : ji16 ≤ 100000 := by (rw [← hji16]; unfold mn; (repeat' split) <;> omega)))
            (try (have hji16g : ji16 ≤ 64 := by omega))
            have hji16_ : (if 100000 < t299 then 100000 else t299) = ji16 := hji16
            replace H := Option.bind_eq_some_iff.mp H
            obtain ⟨⟨t302, t303, t304, t305, t306, t307⟩, A170, H⟩ := H
            replace H : (some (t302, t302, t303, t304, t305, t300, t307)) = some (r1, r2, r3, r4, r5, r6, r7) := H
            have A17 := Aside0.mk A170
            clear A170
            simp only [Option.some.injEq, Prod.mk.injEq] at H
            obtain ⟨rfl, rfl, rfl, rfl, rfl, rfl, rfl⟩ := H
            go_enter Try.func28, Try.ntmps28
            go_wp2
            repeat ((first | refine wp_scope_fwd 2 ?_ | refine Exit.fwd_goto rfl ?_ | (refine wp_label ?_; dsimp only [Exit.then]) | refine wp_label ?_ | (go_step3; refine Exit.fwd_goto rfl ?_) | (go_step3; (try simp only [Exit.then, Exit.inBlock]); refine Exit.fwd_goto rfl ?_)); try go_wp2_with (first | ((with_reducible refine gate_callee (f := 36) rfl ?_); refine goesL_ (some 15) rfl rfl Try.func36 (by kernel_rfl) rfl #[.int .i64 a3, .int .i64 0, .int .i64 1000000] rfl (by (try simp only [List.map_toArray, List.map_cons, List.map_nil]); first | done | rfl | (simp only [List.length_drop, List.length_take]; rfl)) ?_; (with_reducible refine (sat_Clamp.calls a3 0 1000000 t299 _ A6.out).mono ?_); rintro e w' ⟨rfl, ⟨nd, rfl⟩⟩; refine ⟨_, rfl, ?_⟩; (generalize hq_ : World.drewN w _ = w18; have n0_ : Aside0 (IsS75 w0 w18 g s0_0 s0_1 s0_2 s0_3 s0_4 s0_5) := ⟨by rw [← hq_]; exact (by repeat (first | (with_reducible first | exact HI0.out | apply IsS75.alloc | apply IsS75.drewN | apply IsS75.drew | apply IsS75.set_0 | apply IsS75.set_1 | apply IsS75.set_2 | apply IsS75.set_3 | apply IsS75.set_4 | apply IsS75.set_5) | exact HI0.out))⟩; have n1_ : Aside0 (KeepBut w w18 g none) := ⟨by rw [← hq_]; exact (by repeat (first | (with_reducible first | exact HK.out | apply KeepBut.set_ | apply keep_drewN | apply keep_drew | apply keep_alloc) | exact HK.out))⟩; have n2_ : Aside0 (Below w0.heap.size w0 w18) := ⟨by rw [← hq_]; exact (by repeat (first | (with_reducible first | exact HB.out | apply below_alloc | apply pw_below_drewN | apply below_drew1 | refine below_set ?_ (IsS75.ge HI0.out)) | exact HB.out))⟩; clear HI0 HK HB hq_; have HI0 := n0_; have HK := n1_; have HB := n2_; clear n0_ n1_ n2_)) | ((with_reducible refine gate_callee (f := 44) rfl ?_); refine goesL_ (some 21) rfl rfl Try.func44 (by kernel_rfl) rfl #[.int .i64 (4 * (ji8)), .int .i64 a1] rfl (by (try simp only [List.map_toArray, List.map_cons, List.map_nil]); first | done | (simp only [hji8]; rfl) | rfl | (simp only [List.length_drop, List.length_take]; rfl)) ?_; (with_reducible refine (sat_Mul.calls (4 * (ji8)) a1 t300 _ A9.out).mono ?_); rintro e w19 ⟨rfl, hb⟩; refine ⟨_, rfl, ?_⟩; have n0_ := Aside0.mk (IsS75.below (by repeat (first | (with_reducible first | exact HI0.out | apply IsS75.alloc | apply IsS75.drewN | apply IsS75.drew | apply IsS75.set_0 | apply IsS75.set_1 | apply IsS75.set_2 | apply IsS75.set_3 | apply IsS75.set_4 | apply IsS75.set_5) | exact HI0.out)) hb); have n1_ := Aside0.mk (KeepBut.trans (by repeat (first | (with_reducible first | exact HK.out | apply KeepBut.set_ | apply keep_drewN | apply keep_drew | apply keep_alloc) | exact HK.out)) (KeepBut.of_below hb g none) (.inl rfl)); have n2_ := Aside0.mk (below_step (by repeat (first | (with_reducible first | exact HB.out | apply below_alloc | apply pw_below_drewN | apply below_drew1 | refine below_set ?_ (IsS75.ge HI0.out)) | exact HB.out)) hb); clear HI0; clear HK; clear HB; have HI0 := n0_; have HK := n1_; have HB := n2_; clear n0_ n1_ n2_; (try clear hb); (try clear hb2); (try clear hk); (try clear hi); obtain ⟨HGz20, hgz20⟩ := HI0.out; have hcz20_0 := cellS75_0 HGz20; have hcz20_1 := cellS75_1 HGz20; have hcz20_2 := cellS75_2 HGz20; have hcz20_3 := cellS75_3 HGz20; have hcz20_4 := cellS75_4 HGz20; have hcz20_5 := cellS75_5 HGz20; have hfz20_0 := blk_frozen HGz20 0; have hfz20_1 := blk_frozen HGz20 1; have hfz20_2 := blk_frozen HGz20 2; have hfz20_3 := blk_frozen HGz20 3; have hfz20_4 := blk_frozen HGz20 4; have hfz20_5 := blk_frozen HGz20 5; clear HGz20 hgz20) | ((with_reducible refine gate_callee (f := 46) rfl ?_); refine goesL_ (some 104) rfl rfl Try.func46 (by kernel_rfl) rfl #[.int .i64 t300] rfl (by (try simp only [List.map_toArray, List.map_cons, List.map_nil]); first | done | rfl | (simp only [List.length_drop, List.length_take]; rfl)) ?_; (with_reducible refine (sat_Abs.calls t300 t301 _ A15.out).mono ?_); rintro e w21 ⟨rfl, hb⟩; refine ⟨_, rfl, ?_⟩; have n0_ := Aside0.mk (IsS75.below (show IsS75 w0 (((((w19.setCell ⟨g, 2, none⟩ (.int .i64 (wrap64 (s0_2 + t299)))).setCell ⟨g, 3, none⟩ (.int .i64 (wrap64 (s0_3 + 1)))).setCell ⟨g, 2, none⟩ (.int .i64 0)).setCell ⟨g, 3, none⟩ (.int .i64 0)).setCell ⟨g, 0, none⟩ (.int .i64 1)) g 1 s0_1 0 0 s0_4 s0_5 from by repeat (first | (with_reducible first | exact HI0.out | apply IsS75.alloc | apply IsS75.drewN | apply IsS75.drew | apply IsS75.set_0 | apply IsS75.set_1 | apply IsS75.set_2 | apply IsS75.set_3 | apply IsS75.set_4 | apply IsS75.set_5) | exact HI0.out)) hb); have n1_ := Aside0.mk (KeepBut.trans (by repeat (first | (with_reducible first | exact HK.out | apply KeepBut.set_ | apply keep_drewN | apply keep_drew | apply keep_alloc) | exact HK.out)) (KeepBut.of_below hb g none) (.inl rfl)); have n2_ := Aside0.mk (below_step (by repeat (first | (with_reducible first | exact HB.out | apply below_alloc | apply pw_below_drewN | apply below_drew1 | refine below_set ?_ (IsS75.ge HI0.out)) | exact HB.out)) hb); clear HI0; clear HK; clear HB; have HI0 := n0_; have HK := n1_; have HB := n2_; clear n0_ n1_ n2_; (try clear hb); (try clear hb2); (try clear hk); (try clear hi)) | ((with_reducible refine gate_callee (f := 45) rfl ?_); refine goesL_ (some 107) rfl rfl Try.func45 (by kernel_rfl) rfl #[.pointer (some ⟨g, 0, none⟩), .int .i64 t301, .int .i64 ji16] rfl (by (try simp only [List.map_toArray, List.map_cons, List.map_nil]); first | done | (simp only [hji16]; rfl) | rfl | (simp only [List.length_drop, List.length_take]; rfl)) ?_; (with_reducible refine (detect_Detector_moves.calls k g 1 s0_1 0 0 s0_4 s0_5 t301 ji16 t302 t303 t304 t305 t306 t307 w0 _ ?side1 ?side2 A17.out).mono ?_); (case side1 => repeat (first | (with_reducible first | exact HI0.out | apply IsS75.alloc | apply IsS75.drewN | apply IsS75.drew | apply IsS75.set_0 | apply IsS75.set_1 | apply IsS75.set_2 | apply IsS75.set_3 | apply IsS75.set_4 | apply IsS75.set_5) | exact HI0.out)); (case side2 => repeat (first | (with_reducible first | exact HB.out | apply below_alloc | apply pw_below_drewN | apply below_drew1 | refine below_set ?_ (IsS75.ge HI0.out)) | exact HB.out)); rintro e w22 ⟨rfl, hi, hb, hk⟩; refine ⟨_, rfl, ?_⟩; have n0_ := Aside0.mk (KeepBut.trans (by repeat (first | (with_reducible first | exact HK.out | apply KeepBut.set_ | apply keep_drewN | apply keep_drew | apply keep_alloc) | exact HK.out)) hk (.inl rfl)); have n1_ := Aside0.mk (hb); have n2_ := Aside0.mk (hi); clear HK; clear HB; clear HI0; have HK := n0_; have HB := n1_; have HI0 := n2_; clear n0_ n1_ n2_; (try clear hb); (try clear hb2); (try clear hk); (try clear hi); obtain ⟨HGz23, hgz23⟩ := HI0.out; have hcz23_0 := cellS75_0 HGz23; have hcz23_1 := cellS75_1 HGz23; have hcz23_2 := cellS75_2 HGz23; have hcz23_3 := cellS75_3 HGz23; have hcz23_4 := cellS75_4 HGz23; have hcz23_5 := cellS75_5 HGz23; have hfz23_0 := blk_frozen HGz23 0; have hfz23_1 := blk_frozen HGz23 1; have hfz23_2 := blk_frozen HGz23 2; have hfz23_3 := blk_frozen HGz23 3; have hfz23_4 := blk_frozen HGz23 4; have hfz23_5 := blk_frozen HGz23 5; clear HGz23 hgz23)))
            (try rw [Exit.fwd_ret])
            (try rw [Exit.fwd_normal])
            go_ret
            exact ⟨by first | rfl | (simp [errW_none, errW_some] <;> rfl) | (simp only [← hji7, ← hji8, ← hji16]; first | rfl | (simp [errW_none, errW_some] <;> rfl)) | (simp [*, errW_none, errW_some] <;> rfl), by repeat (first | (with_reducible first | exact HI0.out | apply IsS75.alloc | apply IsS75.drewN | apply IsS75.drew | apply IsS75.set_0 | apply IsS75.set_1 | apply IsS75.set_2 | apply IsS75.set_3 | apply IsS75.set_4 | apply IsS75.set_5) | exact HI0.out), by repeat (first | (with_reducible first | exact HB.out | apply below_alloc | apply pw_below_drewN | apply below_drew1 | refine below_set ?_ (IsS75.ge HI0.out)) | exact HB.out), by repeat (first | (with_reducible first | exact HK.out | apply KeepBut.set_ | apply keep_drewN | apply keep_drew | apply keep_alloc) | exact HK.out)⟩
          · rw [if_neg c14] at H
            have c14b0 : decide (s0_4 ≤ t300) = false := decide_eq_false c14
            clear c14
            replace H := Option.bind_eq_some_iff.mp H
            obtain ⟨t308, A240, H⟩ := H
            replace H : ((detect_Detector_moves.f k s0_0 s0_1 (wrap64 (s0_2 + t299)) (wrap64 (s0_3 + 1)) s0_4 s0_5 t308 (mn t299 100000)).bind fun bt309 => (some (bt309.1, bt309.1, bt309.2.1, bt309.2.2.1, bt309.2.2.2.1, t300, bt309.2.2.2.2.2))) = some (r1, r2, r3, r4, r5, r6, r7) := H
            have A24 := Aside0.mk A240
            clear A240
            obtain ⟨ji25, hji25⟩ : ∃ j_ : Int, (mn t299 100000) = j_ := ⟨_, rfl⟩
            replace H : ((detect_Detector_moves.f k s0_0 s0_1 (wrap64 (s0_2 + t299)) (wrap64 (s0_3 + 1)) s0_4 s0_5 t308 (ji25)).bind fun bt309 => (some (bt309.1, bt309.1, bt309.2.1, bt309.2.2.1, bt309.2.2.2.1, t300, bt309.2.2.2.2.2))) = some (r1, r2, r3, r4, r5, r6, r7) := by first | (rw [hji25] at H; exact H) | (simp only [hji25] at H ⊢; exact H)
            (try rw [hji25] at A6)
            (try rw [hji25] at A9)
            (try rw [hji25] at A24)
            (try (have hji25h : ji25 ≤ 100000 := by (rw [← hji25]; unfold mn; (repeat' split) <;> omega)))
            (try (have hji25g : ji25 ≤ 64 := by omega))
            have hji25_ : (if 100000 < t299 then 100000 else t299) = ji25 := hji25
            replace H := Option.bind_eq_some_iff.mp H
            obtain ⟨⟨t309, t310, t311, t312, t313, t314⟩, A260, H⟩ := H
            replace H : (some (t309, t309, t310, t311, t312, t300, t314)) = some (r1, r2, r3, r4, r5, r6, r7) := H
            have A26 := Aside0.mk A260
            clear A260
            simp only [Option.some.injEq, Prod.mk.injEq] at H
            obtain ⟨rfl, rfl, rfl, rfl, rfl, rfl, rfl⟩ := H
            go_enter Try.func28, Try.ntmps28
            go_wp2
            repeat ((first | refine wp_scope_fwd 2 ?_ | refine Exit.fwd_goto rfl ?_ | (refine wp_label ?_; dsimp only [Exit.then]) | refine wp_label ?_ | (go_step3; refine Exit.fwd_goto rfl ?_) | (go_step3; (try simp only [Exit.then, Exit.inBlock]); refine Exit.fwd_goto rfl ?_)); try go_wp2_with (first | ((with_reducible refine gate_callee (f := 36) rfl ?_); refine goesL_ (some 15) rfl rfl Try.func36 (by kernel_rfl) rfl #[.int .i64 a3, .int .i64 0, .int .i64 1000000] rfl (by (try simp only [List.map_toArray, List.map_cons, List.map_nil]); first | done | rfl | (simp only [List.length_drop, List.length_take]; rfl)) ?_; (with_reducible refine (sat_Clamp.calls a3 0 1000000 t299 _ A6.out).mono ?_); rintro e w' ⟨rfl, ⟨nd, rfl⟩⟩; refine ⟨_, rfl, ?_⟩; (generalize hq_ : World.drewN w _ = w27; have n0_ : Aside0 (IsS75 w0 w27 g s0_0 s0_1 s0_2 s0_3 s0_4 s0_5) := ⟨by rw [← hq_]; exact (by repeat (first | (with_reducible first | exact HI0.out | apply IsS75.alloc | apply IsS75.drewN | apply IsS75.drew | apply IsS75.set_0 | apply IsS75.set_1 | apply IsS75.set_2 | apply IsS75.set_3 | apply IsS75.set_4 | apply IsS75.set_5) | exact HI0.out))⟩; have n1_ : Aside0 (KeepBut w w27 g none) := ⟨by rw [← hq_]; exact (by repeat (first | (with_reducible first | exact HK.out | apply KeepBut.set_ | apply keep_drewN | apply keep_drew | apply keep_alloc) | exact HK.out))⟩; have n2_ : Aside0 (Below w0.heap.size w0 w27) := ⟨by rw [← hq_]; exact (by repeat (first | (with_reducible first | exact HB.out | apply below_alloc | apply pw_below_drewN | apply below_drew1 | refine below_set ?_ (IsS75.ge HI0.out)) | exact HB.out))⟩; clear HI0 HK HB hq_; have HI0 := n0_; have HK := n1_; have HB := n2_; clear n0_ n1_ n2_)) | ((with_reducible refine gate_callee (f := 44) rfl ?_); refine goesL_ (some 21) rfl rfl Try.func44 (by kernel_rfl) rfl #[.int .i64 (4 * (ji8)), .int .i64 a1] rfl (by (try simp only [List.map_toArray, List.map_cons, List.map_nil]); first | done | (simp only [hji8]; rfl) | rfl | (simp only [List.length_drop, List.length_take]; rfl)) ?_; (with_reducible refine (sat_Mul.calls (4 * (ji8)) a1 t300 _ A9.out).mono ?_); rintro e w28 ⟨rfl, hb⟩; refine ⟨_, rfl, ?_⟩; have n0_ := Aside0.mk (IsS75.below (by repeat (first | (with_reducible first | exact HI0.out | apply IsS75.alloc | apply IsS75.drewN | apply IsS75.drew | apply IsS75.set_0 | apply IsS75.set_1 | apply IsS75.set_2 | apply IsS75.set_3 | apply IsS75.set_4 | apply IsS75.set_5) | exact HI0.out)) hb); have n1_ := Aside0.mk (KeepBut.trans (by repeat (first | (with_reducible first | exact HK.out | apply KeepBut.set_ | apply keep_drewN | apply keep_drew | apply keep_alloc) | exact HK.out)) (KeepBut.of_below hb g none) (.inl rfl)); have n2_ := Aside0.mk (below_step (by repeat (first | (with_reducible first | exact HB.out | apply below_alloc | apply pw_below_drewN | apply below_drew1 | refine below_set ?_ (IsS75.ge HI0.out)) | exact HB.out)) hb); clear HI0; clear HK; clear HB; have HI0 := n0_; have HK := n1_; have HB := n2_; clear n0_ n1_ n2_; (try clear hb); (try clear hb2); (try clear hk); (try clear hi); obtain ⟨HGz29, hgz29⟩ := HI0.out; have hcz29_0 := cellS75_0 HGz29; have hcz29_1 := cellS75_1 HGz29; have hcz29_2 := cellS75_2 HGz29; have hcz29_3 := cellS75_3 HGz29; have hcz29_4 := cellS75_4 HGz29; have hcz29_5 := cellS75_5 HGz29; have hfz29_0 := blk_frozen HGz29 0; have hfz29_1 := blk_frozen HGz29 1; have hfz29_2 := blk_frozen HGz29 2; have hfz29_3 := blk_frozen HGz29 3; have hfz29_4 := blk_frozen HGz29 4; have hfz29_5 := blk_frozen HGz29 5; clear HGz29 hgz29) | ((with_reducible refine gate_callee (f := 46) rfl ?_); refine goesL_ (some 104) rfl rfl Try.func46 (by kernel_rfl) rfl #[.int .i64 t300] rfl (by (try simp only [List.map_toArray, List.map_cons, List.map_nil]); first | done | rfl | (simp only [List.length_drop, List.length_take]; rfl)) ?_; (with_reducible refine (sat_Abs.calls t300 t308 _ A24.out).mono ?_); rintro e w30 ⟨rfl, hb⟩; refine ⟨_, rfl, ?_⟩; have n0_ := Aside0.mk (IsS75.below (show IsS75 w0 ((w28.setCell ⟨g, 2, none⟩ (.int .i64 (wrap64 (s0_2 + t299)))).setCell ⟨g, 3, none⟩ (.int .i64 (wrap64 (s0_3 + 1)))) g s0_0 s0_1 (wrap64 (s0_2 + t299)) (wrap64 (s0_3 + 1)) s0_4 s0_5 from by repeat (first | (with_reducible first | exact HI0.out | apply IsS75.alloc | apply IsS75.drewN | apply IsS75.drew | apply IsS75.set_0 | apply IsS75.set_1 | apply IsS75.set_2 | apply IsS75.set_3 | apply IsS75.set_4 | apply IsS75.set_5) | exact HI0.out)) hb); have n1_ := Aside0.mk (KeepBut.trans (by repeat (first | (with_reducible first | exact HK.out | apply KeepBut.set_ | apply keep_drewN | apply keep_drew | apply keep_alloc) | exact HK.out)) (KeepBut.of_below hb g none) (.inl rfl)); have n2_ := Aside0.mk (below_step (by repeat (first | (with_reducible first | exact HB.out | apply below_alloc | apply pw_below_drewN | apply below_drew1 | refine below_set ?_ (IsS75.ge HI0.out)) | exact HB.out)) hb); clear HI0; clear HK; clear HB; have HI0 := n0_; have HK := n1_; have HB := n2_; clear n0_ n1_ n2_; (try clear hb); (try clear hb2); (try clear hk); (try clear hi)) | ((with_reducible refine gate_callee (f := 45) rfl ?_); refine goesL_ (some 107) rfl rfl Try.func45 (by kernel_rfl) rfl #[.pointer (some ⟨g, 0, none⟩), .int .i64 t308, .int .i64 ji25] rfl (by (try simp only [List.map_toArray, List.map_cons, List.map_nil]); first | done | (simp only [hji25]; rfl) | rfl | (simp only [List.length_drop, List.length_take]; rfl)) ?_; (with_reducible refine (detect_Detector_moves.calls k g s0_0 s0_1 (wrap64 (s0_2 + t299)) (wrap64 (s0_3 + 1)) s0_4 s0_5 t308 ji25 t309 t310 t311 t312 t313 t314 w0 _ ?side1 ?side2 A26.out).mono ?_); (case side1 => repeat (first | (with_reducible first | exact HI0.out | apply IsS75.alloc | apply IsS75.drewN | apply IsS75.drew | apply IsS75.set_0 | apply IsS75.set_1 | apply IsS75.set_2 | apply IsS75.set_3 | apply IsS75.set_4 | apply IsS75.set_5) | exact HI0.out)); (case side2 => repeat (first | (with_reducible first | exact HB.out | apply below_alloc | apply pw_below_drewN | apply below_drew1 | refine below_set ?_ (IsS75.ge HI0.out)) | exact HB.out)); rintro e w31 ⟨rfl, hi, hb, hk⟩; refine ⟨_, rfl, ?_⟩; have n0_ := Aside0.mk (KeepBut.trans (by repeat (first | (with_reducible first | exact HK.out | apply KeepBut.set_ | apply keep_drewN | apply keep_drew | apply keep_alloc) | exact HK.out)) hk (.inl rfl)); have n1_ := Aside0.mk (hb); have n2_ := Aside0.mk (hi); clear HK; clear HB; clear HI0; have HK := n0_; have HB := n1_; have HI0 := n2_; clear n0_ n1_ n2_; (try clear hb); (try clear hb2); (try clear hk); (try clear hi); obtain ⟨HGz32, hgz32⟩ := HI0.out; have hcz32_0 := cellS75_0 HGz32; have hcz32_1 := cellS75_1 HGz32; have hcz32_2 := cellS75_2 HGz32; have hcz32_3 := cellS75_3 HGz32; have hcz32_4 := cellS75_4 HGz32; have hcz32_5 := cellS75_5 HGz32; have hfz32_0 := blk_frozen HGz32 0; have hfz32_1 := blk_frozen HGz32 1; have hfz32_2 := blk_frozen HGz32 2; have hfz32_3 := blk_frozen HGz32 3; have hfz32_4 := blk_frozen HGz32 4; have hfz32_5 := blk_frozen HGz32 5; clear HGz32 hgz32)))
            (try rw [Exit.fwd_ret])
            (try rw [Exit.fwd_normal])
            go_ret
            exact ⟨by first | rfl | (simp [errW_none, errW_some] <;> rfl) | (simp only [← hji7, ← hji8, ← hji25]; first | rfl | (simp [errW_none, errW_some] <;> rfl)) | (simp [*, errW_none, errW_some] <;> rfl), by repeat (first | (with_reducible first | exact HI0.out | apply IsS75.alloc | apply IsS75.drewN | apply IsS75.drew | apply IsS75.set_0 | apply IsS75.set_1 | apply IsS75.set_2 | apply IsS75.set_3 | apply IsS75.set_4 | apply IsS75.set_5) | exact HI0.out), by repeat (first | (with_reducible first | exact HB.out | apply below_alloc | apply pw_below_drewN | apply below_drew1 | refine below_set ?_ (IsS75.ge HI0.out)) | exact HB.out), by repeat (first | (with_reducible first | exact HK.out | apply KeepBut.set_ | apply keep_drewN | apply keep_drew | apply keep_alloc) | exact HK.out)⟩
        · rw [if_neg c13] at H
          have c13b0 : decide (1 < (wrap64 (s0_3 + 1))) = false := decide_eq_false c13
          clear c13
          replace H := Option.bind_eq_some_iff.mp H
          obtain ⟨t315, A330, H⟩ := H
          replace H : ((detect_Detector_moves.f k s0_0 s0_1 (wrap64 (s0_2 + t299)) (wrap64 (s0_3 + 1)) s0_4 s0_5 t315 (mn t299 100000)).bind fun bt316 => (some (bt316.1, bt316.1, bt316.2.1, bt316.2.2.1, bt316.2.2.2.1, t300, bt316.2.2.2.2.2))) = some (r1, r2, r3, r4, r5, r6, r7) := H
          have A33 := Aside0.mk A330
          clear A330
          obtain ⟨ji34, hji34⟩ : ∃ j_ : Int, (mn t299 100000) = j_ := ⟨_, rfl⟩
          replace H : ((detect_Detector_moves.f k s0_0 s0_1 (wrap64 (s0_2 + t299)) (wrap64 (s0_3 + 1)) s0_4 s0_5 t315 (ji34)).bind fun bt316 => (some (bt316.1, bt316.1, bt316.2.1, bt316.2.2.1, bt316.2.2.2.1, t300, bt316.2.2.2.2.2))) = some (r1, r2, r3, r4, r5, r6, r7) := by first | (rw [hji34] at H; exact H) | (simp only [hji34] at H ⊢; exact H)
          (try rw [hji34] at A6)
          (try rw [hji34] at A9)
          (try rw [hji34] at A33)
          (try (have hji34h : ji34 ≤ 100000 := by (rw [← hji34]; unfold mn; (repeat' split) <;> omega)))
          (try (have hji34g : ji34 ≤ 64 := by omega))
          have hji34_ : (if 100000 < t299 then 100000 else t299) = ji34 := hji34
          replace H := Option.bind_eq_some_iff.mp H
          obtain ⟨⟨t316, t317, t318, t319, t320, t321⟩, A350, H⟩ := H
          replace H : (some (t316, t316, t317, t318, t319, t300, t321)) = some (r1, r2, r3, r4, r5, r6, r7) := H
          have A35 := Aside0.mk A350
          clear A350
          simp only [Option.some.injEq, Prod.mk.injEq] at H
          obtain ⟨rfl, rfl, rfl, rfl, rfl, rfl, rfl⟩ := H
          go_enter Try.func28, Try.ntmps28
          go_wp2
          repeat ((first | refine wp_scope_fwd 2 ?_ | refine Exit.fwd_goto rfl ?_ | (refine wp_label ?_; dsimp only [Exit.then]) | refine wp_label ?_ | (go_step3; refine Exit.fwd_goto rfl ?_) | (go_step3; (try simp only [Exit.then, Exit.inBlock]); refine Exit.fwd_goto rfl ?_)); try go_wp2_with (first | ((with_reducible refine gate_callee (f := 36) rfl ?_); refine goesL_ (some 15) rfl rfl Try.func36 (by kernel_rfl) rfl #[.int .i64 a3, .int .i64 0, .int .i64 1000000] rfl (by (try simp only [List.map_toArray, List.map_cons, List.map_nil]); first | done | rfl | (simp only [List.length_drop, List.length_take]; rfl)) ?_; (with_reducible refine (sat_Clamp.calls a3 0 1000000 t299 _ A6.out).mono ?_); rintro e w' ⟨rfl, ⟨nd, rfl⟩⟩; refine ⟨_, rfl, ?_⟩; (generalize hq_ : World.drewN w _ = w36; have n0_ : Aside0 (IsS75 w0 w36 g s0_0 s0_1 s0_2 s0_3 s0_4 s0_5) := ⟨by rw [← hq_]; exact (by repeat (first | (with_reducible first | exact HI0.out | apply IsS75.alloc | apply IsS75.drewN | apply IsS75.drew | apply IsS75.set_0 | apply IsS75.set_1 | apply IsS75.set_2 | apply IsS75.set_3 | apply IsS75.set_4 | apply IsS75.set_5) | exact HI0.out))⟩; have n1_ : Aside0 (KeepBut w w36 g none) := ⟨by rw [← hq_]; exact (by repeat (first | (with_reducible first | exact HK.out | apply KeepBut.set_ | apply keep_drewN | apply keep_drew | apply keep_alloc) | exact HK.out))⟩; have n2_ : Aside0 (Below w0.heap.size w0 w36) := ⟨by rw [← hq_]; exact (by repeat (first | (with_reducible first | exact HB.out | apply below_alloc | apply pw_below_drewN | apply below_drew1 | refine below_set ?_ (IsS75.ge HI0.out)) | exact HB.out))⟩; clear HI0 HK HB hq_; have HI0 := n0_; have HK := n1_; have HB := n2_; clear n0_ n1_ n2_)) | ((with_reducible refine gate_callee (f := 44) rfl ?_); refine goesL_ (some 21) rfl rfl Try.func44 (by kernel_rfl) rfl #[.int .i64 (4 * (ji8)), .int .i64 a1] rfl (by (try simp only [List.map_toArray, List.map_cons, List.map_nil]); first | done | (simp only [hji8]; rfl) | rfl | (simp only [List.length_drop, List.length_take]; rfl)) ?_; (with_reducible refine (sat_Mul.calls (4 * (ji8)) a1 t300 _ A9.out).mono ?_); rintro e w37 ⟨rfl, hb⟩; refine ⟨_, rfl, ?_⟩; have n0_ := Aside0.mk (IsS75.below (by repeat (first | (with_reducible first | exact HI0.out | apply IsS75.alloc | apply IsS75.drewN | apply IsS75.drew | apply IsS75.set_0 | apply IsS75.set_1 | apply IsS75.set_2 | apply IsS75.set_3 | apply IsS75.set_4 | apply IsS75.set_5) | exact HI0.out)) hb); have n1_ := Aside0.mk (KeepBut.trans (by repeat (first | (with_reducible first | exact HK.out | apply KeepBut.set_ | apply keep_drewN | apply keep_drew | apply keep_alloc) | exact HK.out)) (KeepBut.of_below hb g none) (.inl rfl)); have n2_ := Aside0.mk (below_step (by repeat (first | (with_reducible first | exact HB.out | apply below_alloc | apply pw_below_drewN | apply below_drew1 | refine below_set ?_ (IsS75.ge HI0.out)) | exact HB.out)) hb); clear HI0; clear HK; clear HB; have HI0 := n0_; have HK := n1_; have HB := n2_; clear n0_ n1_ n2_; (try clear hb); (try clear hb2); (try clear hk); (try clear hi); obtain ⟨HGz38, hgz38⟩ := HI0.out; have hcz38_0 := cellS75_0 HGz38; have hcz38_1 := cellS75_1 HGz38; have hcz38_2 := cellS75_2 HGz38; have hcz38_3 := cellS75_3 HGz38; have hcz38_4 := cellS75_4 HGz38; have hcz38_5 := cellS75_5 HGz38; have hfz38_0 := blk_frozen HGz38 0; have hfz38_1 := blk_frozen HGz38 1; have hfz38_2 := blk_frozen HGz38 2; have hfz38_3 := blk_frozen HGz38 3; have hfz38_4 := blk_frozen HGz38 4; have hfz38_5 := blk_frozen HGz38 5; clear HGz38 hgz38) | ((with_reducible refine gate_callee (f := 46) rfl ?_); refine goesL_ (some 104) rfl rfl Try.func46 (by kernel_rfl) rfl #[.int .i64 t300] rfl (by (try simp only [List.map_toArray, List.map_cons, List.map_nil]); first | done | rfl | (simp only [List.length_drop, List.length_take]; rfl)) ?_; (with_reducible refine (sat_Abs.calls t300 t315 _ A33.out).mono ?_); rintro e w39 ⟨rfl, hb⟩; refine ⟨_, rfl, ?_⟩; have n0_ := Aside0.mk (IsS75.below (show IsS75 w0 ((w37.setCell ⟨g, 2, none⟩ (.int .i64 (wrap64 (s0_2 + t299)))).setCell ⟨g, 3, none⟩ (.int .i64 (wrap64 (s0_3 + 1)))) g s0_0 s0_1 (wrap64 (s0_2 + t299)) (wrap64 (s0_3 + 1)) s0_4 s0_5 from by repeat (first | (with_reducible first | exact HI0.out | apply IsS75.alloc | apply IsS75.drewN | apply IsS75.drew | apply IsS75.set_0 | apply IsS75.set_1 | apply IsS75.set_2 | apply IsS75.set_3 | apply IsS75.set_4 | apply IsS75.set_5) | exact HI0.out)) hb); have n1_ := Aside0.mk (KeepBut.trans (by repeat (first | (with_reducible first | exact HK.out | apply KeepBut.set_ | apply keep_drewN | apply keep_drew | apply keep_alloc) | exact HK.out)) (KeepBut.of_below hb g none) (.inl rfl)); have n2_ := Aside0.mk (below_step (by repeat (first | (with_reducible first | exact HB.out | apply below_alloc | apply pw_below_drewN | apply below_drew1 | refine below_set ?_ (IsS75.ge HI0.out)) | exact HB.out)) hb); clear HI0; clear HK; clear HB; have HI0 := n0_; have HK := n1_; have HB := n2_; clear n0_ n1_ n2_; (try clear hb); (try clear hb2); (try clear hk); (try clear hi)) | ((with_reducible refine gate_callee (f := 45) rfl ?_); refine goesL_ (some 107) rfl rfl Try.func45 (by kernel_rfl) rfl #[.pointer (some ⟨g, 0, none⟩), .int .i64 t315, .int .i64 ji34] rfl (by (try simp only [List.map_toArray, List.map_cons, List.map_nil]); first | done | (simp only [hji34]; rfl) | rfl | (simp only [List.length_drop, List.length_take]; rfl)) ?_; (with_reducible refine (detect_Detector_moves.calls k g s0_0 s0_1 (wrap64 (s0_2 + t299)) (wrap64 (s0_3 + 1)) s0_4 s0_5 t315 ji34 t316 t317 t318 t319 t320 t321 w0 _ ?side1 ?side2 A35.out).mono ?_); (case side1 => repeat (first | (with_reducible first | exact HI0.out | apply IsS75.alloc | apply IsS75.drewN | apply IsS75.drew | apply IsS75.set_0 | apply IsS75.set_1 | apply IsS75.set_2 | apply IsS75.set_3 | apply IsS75.set_4 | apply IsS75.set_5) | exact HI0.out)); (case side2 => repeat (first | (with_reducible first | exact HB.out | apply below_alloc | apply pw_below_drewN | apply below_drew1 | refine below_set ?_ (IsS75.ge HI0.out)) | exact HB.out)); rintro e w40 ⟨rfl, hi, hb, hk⟩; refine ⟨_, rfl, ?_⟩; have n0_ := Aside0.mk (KeepBut.trans (by repeat (first | (with_reducible first | exact HK.out | apply KeepBut.set_ | apply keep_drewN | apply keep_drew | apply keep_alloc) | exact HK.out)) hk (.inl rfl)); have n1_ := Aside0.mk (hb); have n2_ := Aside0.mk (hi); clear HK; clear HB; clear HI0; have HK := n0_; have HB := n1_; have HI0 := n2_; clear n0_ n1_ n2_; (try clear hb); (try clear hb2); (try clear hk); (try clear hi); obtain ⟨HGz41, hgz41⟩ := HI0.out; have hcz41_0 := cellS75_0 HGz41; have hcz41_1 := cellS75_1 HGz41; have hcz41_2 := cellS75_2 HGz41; have hcz41_3 := cellS75_3 HGz41; have hcz41_4 := cellS75_4 HGz41; have hcz41_5 := cellS75_5 HGz41; have hfz41_0 := blk_frozen HGz41 0; have hfz41_1 := blk_frozen HGz41 1; have hfz41_2 := blk_frozen HGz41 2; have hfz41_3 := blk_frozen HGz41 3; have hfz41_4 := blk_frozen HGz41 4; have hfz41_5 := blk_frozen HGz41 5; clear HGz41 hgz41)))
          (try rw [Exit.fwd_ret])
          (try rw [Exit.fwd_normal])
          go_ret
          exact ⟨by first | rfl | (simp [errW_none, errW_some] <;> rfl) | (simp only [← hji7, ← hji8, ← hji34]; first | rfl | (simp [errW_none, errW_some] <;> rfl)) | (simp [*, errW_none, errW_some] <;> rfl), by repeat (first | (with_reducible first | exact HI0.out | apply IsS75.alloc | apply IsS75.drewN | apply IsS75.drew | apply IsS75.set_0 | apply IsS75.set_1 | apply IsS75.set_2 | apply IsS75.set_3 | apply IsS75.set_4 | apply IsS75.set_5) | exact HI0.out), by repeat (first | (with_reducible first | exact HB.out | apply below_alloc | apply pw_below_drewN | apply below_drew1 | refine below_set ?_ (IsS75.ge HI0.out)) | exact HB.out), by repeat (first | (with_reducible first | exact HK.out | apply KeepBut.set_ | apply keep_drewN | apply keep_drew | apply keep_alloc) | exact HK.out)⟩
      · rw [if_neg c12] at H
        have c12b0 : decide (10000 < (wrap64 (s0_2 + t299))) = false := decide_eq_false c12
        clear c12
        replace H := Option.bind_eq_some_iff.mp H
        obtain ⟨t322, A420, H⟩ := H
        replace H : ((detect_Detector_moves.f k s0_0 s0_1 (wrap64 (s0_2 + t299)) (wrap64 (s0_3 + 1)) s0_4 s0_5 t322 (mn t299 100000)).bind fun bt323 => (some (bt323.1, bt323.1, bt323.2.1, bt323.2.2.1, bt323.2.2.2.1, t300, bt323.2.2.2.2.2))) = some (r1, r2, r3, r4, r5, r6, r7) := H
        have A42 := Aside0.mk A420
        clear A420
        obtain ⟨ji43, hji43⟩ : ∃ j_ : Int, (mn t299 100000) = j_ := ⟨_, rfl⟩
        replace H : ((detect_Detector_moves.f k s0_0 s0_1 (wrap64 (s0_2 + t299)) (wrap64 (s0_3 + 1)) s0_4 s0_5 t322 (ji43)).bind fun bt323 => (some (bt323.1, bt323.1, bt323.2.1, bt323.2.2.1, bt323.2.2.2.1, t300, bt323.2.2.2.2.2))) = some (r1, r2, r3, r4, r5, r6, r7) := by first | (rw [hji43] at H; exact H) | (simp only [hji43] at H ⊢; exact H)
        (try rw [hji43] at A6)
        (try rw [hji43] at A9)
        (try rw [hji43] at A42)
        (try (have hji43h : ji43 ≤ 100000 := by (rw [← hji43]; unfold mn; (repeat' split) <;> omega)))
        (try (have hji43g : ji43 ≤ 64 := by omega))
        have hji43_ : (if 100000 < t299 then 100000 else t299) = ji43 := hji43
        replace H := Option.bind_eq_some_iff.mp H
        obtain ⟨⟨t323, t324, t325, t326, t327, t328⟩, A440, H⟩ := H
        replace H : (some (t323, t323, t324, t325, t326, t300, t328)) = some (r1, r2, r3, r4, r5, r6, r7) := H
        have A44 := Aside0.mk A440
        clear A440
        simp only [Option.some.injEq, Prod.mk.injEq] at H
        obtain ⟨rfl, rfl, rfl, rfl, rfl, rfl, rfl⟩ := H
        go_enter Try.func28, Try.ntmps28
        go_wp2
        repeat ((first | refine wp_scope_fwd 2 ?_ | refine Exit.fwd_goto rfl ?_ | (refine wp_label ?_; dsimp only [Exit.then]) | refine wp_label ?_ | (go_step3; refine Exit.fwd_goto rfl ?_) | (go_step3; (try simp only [Exit.then, Exit.inBlock]); refine Exit.fwd_goto rfl ?_)); try go_wp2_with (first | ((with_reducible refine gate_callee (f := 36) rfl ?_); refine goesL_ (some 15) rfl rfl Try.func36 (by kernel_rfl) rfl #[.int .i64 a3, .int .i64 0, .int .i64 1000000] rfl (by (try simp only [List.map_toArray, List.map_cons, List.map_nil]); first | done | rfl | (simp only [List.length_drop, List.length_take]; rfl)) ?_; (with_reducible refine (sat_Clamp.calls a3 0 1000000 t299 _ A6.out).mono ?_); rintro e w' ⟨rfl, ⟨nd, rfl⟩⟩; refine ⟨_, rfl, ?_⟩; (generalize hq_ : World.drewN w _ = w45; have n0_ : Aside0 (IsS75 w0 w45 g s0_0 s0_1 s0_2 s0_3 s0_4 s0_5) := ⟨by rw [← hq_]; exact (by repeat (first | (with_reducible first | exact HI0.out | apply IsS75.alloc | apply IsS75.drewN | apply IsS75.drew | apply IsS75.set_0 | apply IsS75.set_1 | apply IsS75.set_2 | apply IsS75.set_3 | apply IsS75.set_4 | apply IsS75.set_5) | exact HI0.out))⟩; have n1_ : Aside0 (KeepBut w w45 g none) := ⟨by rw [← hq_]; exact (by repeat (first | (with_reducible first | exact HK.out | apply KeepBut.set_ | apply keep_drewN | apply keep_drew | apply keep_alloc) | exact HK.out))⟩; have n2_ : Aside0 (Below w0.heap.size w0 w45) := ⟨by rw [← hq_]; exact (by repeat (first | (with_reducible first | exact HB.out | apply below_alloc | apply pw_below_drewN | apply below_drew1 | refine below_set ?_ (IsS75.ge HI0.out)) | exact HB.out))⟩; clear HI0 HK HB hq_; have HI0 := n0_; have HK := n1_; have HB := n2_; clear n0_ n1_ n2_)) | ((with_reducible refine gate_callee (f := 44) rfl ?_); refine goesL_ (some 21) rfl rfl Try.func44 (by kernel_rfl) rfl #[.int .i64 (4 * (ji8)), .int .i64 a1] rfl (by (try simp only [List.map_toArray, List.map_cons, List.map_nil]); first | done | (simp only [hji8]; rfl) | rfl | (simp only [List.length_drop, List.length_take]; rfl)) ?_; (with_reducible refine (sat_Mul.calls (4 * (ji8)) a1 t300 _ A9.out).mono ?_); rintro e w46 ⟨rfl, hb⟩; refine ⟨_, rfl, ?_⟩; have n0_ := Aside0.mk (IsS75.below (by repeat (first | (with_reducible first | exact HI0.out | apply IsS75.alloc | apply IsS75.drewN | apply IsS75.drew | apply IsS75.set_0 | apply IsS75.set_1 | apply IsS75.set_2 | apply IsS75.set_3 | apply IsS75.set_4 | apply IsS75.set_5) | exact HI0.out)) hb); have n1_ := Aside0.mk (KeepBut.trans (by repeat (first | (with_reducible first | exact HK.out | apply KeepBut.set_ | apply keep_drewN | apply keep_drew | apply keep_alloc) | exact HK.out)) (KeepBut.of_below hb g none) (.inl rfl)); have n2_ := Aside0.mk (below_step (by repeat (first | (with_reducible first | exact HB.out | apply below_alloc | apply pw_below_drewN | apply below_drew1 | refine below_set ?_ (IsS75.ge HI0.out)) | exact HB.out)) hb); clear HI0; clear HK; clear HB; have HI0 := n0_; have HK := n1_; have HB := n2_; clear n0_ n1_ n2_; (try clear hb); (try clear hb2); (try clear hk); (try clear hi); obtain ⟨HGz47, hgz47⟩ := HI0.out; have hcz47_0 := cellS75_0 HGz47; have hcz47_1 := cellS75_1 HGz47; have hcz47_2 := cellS75_2 HGz47; have hcz47_3 := cellS75_3 HGz47; have hcz47_4 := cellS75_4 HGz47; have hcz47_5 := cellS75_5 HGz47; have hfz47_0 := blk_frozen HGz47 0; have hfz47_1 := blk_frozen HGz47 1; have hfz47_2 := blk_frozen HGz47 2; have hfz47_3 := blk_frozen HGz47 3; have hfz47_4 := blk_frozen HGz47 4; have hfz47_5 := blk_frozen HGz47 5; clear HGz47 hgz47) | ((with_reducible refine gate_callee (f := 46) rfl ?_); refine goesL_ (some 104) rfl rfl Try.func46 (by kernel_rfl) rfl #[.int .i64 t300] rfl (by (try simp only [List.map_toArray, List.map_cons, List.map_nil]); first | done | rfl | (simp only [List.length_drop, List.length_take]; rfl)) ?_; (with_reducible refine (sat_Abs.calls t300 t322 _ A42.out).mono ?_); rintro e w48 ⟨rfl, hb⟩; refine ⟨_, rfl, ?_⟩; have n0_ := Aside0.mk (IsS75.below (show IsS75 w0 ((w46.setCell ⟨g, 2, none⟩ (.int .i64 (wrap64 (s0_2 + t299)))).setCell ⟨g, 3, none⟩ (.int .i64 (wrap64 (s0_3 + 1)))) g s0_0 s0_1 (wrap64 (s0_2 + t299)) (wrap64 (s0_3 + 1)) s0_4 s0_5 from by repeat (first | (with_reducible first | exact HI0.out | apply IsS75.alloc | apply IsS75.drewN | apply IsS75.drew | apply IsS75.set_0 | apply IsS75.set_1 | apply IsS75.set_2 | apply IsS75.set_3 | apply IsS75.set_4 | apply IsS75.set_5) | exact HI0.out)) hb); have n1_ := Aside0.mk (KeepBut.trans (by repeat (first | (with_reducible first | exact HK.out | apply KeepBut.set_ | apply keep_drewN | apply keep_drew | apply keep_alloc) | exact HK.out)) (KeepBut.of_below hb g none) (.inl rfl)); have n2_ := Aside0.mk (below_step (by repeat (first | (with_reducible first | exact HB.out | apply below_alloc | apply pw_below_drewN | apply below_drew1 | refine below_set ?_ (IsS75.ge HI0.out)) | exact HB.out)) hb); clear HI0; clear HK; clear HB; have HI0 := n0_; have HK := n1_; have HB := n2_; clear n0_ n1_ n2_; (try clear hb); (try clear hb2); (try clear hk); (try clear hi)) | ((with_reducible refine gate_callee (f := 45) rfl ?_); refine goesL_ (some 107) rfl rfl Try.func45 (by kernel_rfl) rfl #[.pointer (some ⟨g, 0, none⟩), .int .i64 t322, .int .i64 ji43] rfl (by (try simp only [List.map_toArray, List.map_cons, List.map_nil]); first | done | (simp only [hji43]; rfl) | rfl | (simp only [List.length_drop, List.length_take]; rfl)) ?_; (with_reducible refine (detect_Detector_moves.calls k g s0_0 s0_1 (wrap64 (s0_2 + t299)) (wrap64 (s0_3 + 1)) s0_4 s0_5 t322 ji43 t323 t324 t325 t326 t327 t328 w0 _ ?side1 ?side2 A44.out).mono ?_); (case side1 => repeat (first | (with_reducible first | exact HI0.out | apply IsS75.alloc | apply IsS75.drewN | apply IsS75.drew | apply IsS75.set_0 | apply IsS75.set_1 | apply IsS75.set_2 | apply IsS75.set_3 | apply IsS75.set_4 | apply IsS75.set_5) | exact HI0.out)); (case side2 => repeat (first | (with_reducible first | exact HB.out | apply below_alloc | apply pw_below_drewN | apply below_drew1 | refine below_set ?_ (IsS75.ge HI0.out)) | exact HB.out)); rintro e w49 ⟨rfl, hi, hb, hk⟩; refine ⟨_, rfl, ?_⟩; have n0_ := Aside0.mk (KeepBut.trans (by repeat (first | (with_reducible first | exact HK.out | apply KeepBut.set_ | apply keep_drewN | apply keep_drew | apply keep_alloc) | exact HK.out)) hk (.inl rfl)); have n1_ := Aside0.mk (hb); have n2_ := Aside0.mk (hi); clear HK; clear HB; clear HI0; have HK := n0_; have HB := n1_; have HI0 := n2_; clear n0_ n1_ n2_; (try clear hb); (try clear hb2); (try clear hk); (try clear hi); obtain ⟨HGz50, hgz50⟩ := HI0.out; have hcz50_0 := cellS75_0 HGz50; have hcz50_1 := cellS75_1 HGz50; have hcz50_2 := cellS75_2 HGz50; have hcz50_3 := cellS75_3 HGz50; have hcz50_4 := cellS75_4 HGz50; have hcz50_5 := cellS75_5 HGz50; have hfz50_0 := blk_frozen HGz50 0; have hfz50_1 := blk_frozen HGz50 1; have hfz50_2 := blk_frozen HGz50 2; have hfz50_3 := blk_frozen HGz50 3; have hfz50_4 := blk_frozen HGz50 4; have hfz50_5 := blk_frozen HGz50 5; clear HGz50 hgz50)))
        (try rw [Exit.fwd_ret])
        (try rw [Exit.fwd_normal])
        go_ret
        exact ⟨by first | rfl | (simp [errW_none, errW_some] <;> rfl) | (simp only [← hji7, ← hji8, ← hji43]; first | rfl | (simp [errW_none, errW_some] <;> rfl)) | (simp [*, errW_none, errW_some] <;> rfl), by repeat (first | (with_reducible first | exact HI0.out | apply IsS75.alloc | apply IsS75.drewN | apply IsS75.drew | apply IsS75.set_0 | apply IsS75.set_1 | apply IsS75.set_2 | apply IsS75.set_3 | apply IsS75.set_4 | apply IsS75.set_5) | exact HI0.out), by repeat (first | (with_reducible first | exact HB.out | apply below_alloc | apply pw_below_drewN | apply below_drew1 | refine below_set ?_ (IsS75.ge HI0.out)) | exact HB.out), by repeat (first | (with_reducible first | exact HK.out | apply KeepBut.set_ | apply keep_drewN | apply keep_drew | apply keep_alloc) | exact HK.out)⟩
    · rw [if_neg c11] at H
      have c11b0 : decide (0 < s0_2) = false := decide_eq_false c11
      clear c11
      obtain ⟨ji51, hji51⟩ : ∃ j_ : Int, (mx (wrap64 (Int.tdiv t299 2)) 1) = j_ := ⟨_, rfl⟩
      replace H : (if (ji51) > 10000 then (if (wrap64 (s0_3 + 1)) > 1 then (if t300 ≥ s0_4 then ((sat_Abs.f t300).bind fun t329 => ((detect_Detector_moves.f k 1 s0_1 0 0 s0_4 s0_5 t329 (mn t299 100000)).bind fun bt330 => (some (bt330.1, bt330.1, bt330.2.1, bt330.2.2.1, bt330.2.2.2.1, t300, bt330.2.2.2.2.2)))) else ((sat_Abs.f t300).bind fun t336 => ((detect_Detector_moves.f k s0_0 s0_1 (ji51) (wrap64 (s0_3 + 1)) s0_4 s0_5 t336 (mn t299 100000)).bind fun bt337 => (some (bt337.1, bt337.1, bt337.2.1, bt337.2.2.1, bt337.2.2.2.1, t300, bt337.2.2.2.2.2))))) else ((sat_Abs.f t300).bind fun t343 => ((detect_Detector_moves.f k s0_0 s0_1 (ji51) (wrap64 (s0_3 + 1)) s0_4 s0_5 t343 (mn t299 100000)).bind fun bt344 => (some (bt344.1, bt344.1, bt344.2.1, bt344.2.2.1, bt344.2.2.2.1, t300, bt344.2.2.2.2.2))))) else ((sat_Abs.f t300).bind fun t350 => ((detect_Detector_moves.f k s0_0 s0_1 (ji51) (wrap64 (s0_3 + 1)) s0_4 s0_5 t350 (mn t299 100000)).bind fun bt351 => (some (bt351.1, bt351.1, bt351.2.1, bt351.2.2.1, bt351.2.2.2.1, t300, bt351.2.2.2.2.2))))) = some (r1, r2, r3, r4, r5, r6, r7) := by first | (rw [hji51] at H; exact H) | (simp only [hji51] at H ⊢; exact H)
      (try rw [hji51] at A6)
      (try rw [hji51] at A9)
      (try (have hji51l : 1 ≤ ji51 := by (rw [← hji51]; unfold mx; (repeat' split) <;> omega)))
      (try (have hji51m : 0 ≤ ji51 := by omega))
      have hji51_ : (if (wrap64 (Int.tdiv t299 2)) < 1 then 1 else (wrap64 (Int.tdiv t299 2))) = ji51 := hji51
      by_cases c52 : (ji51) > 10000
      · rw [if_pos c52] at H
        have c52b0 : decide (10000 < (ji51)) = true := decide_eq_true c52
        clear c52
        by_cases c53 : (wrap64 (s0_3 + 1)) > 1
        · rw [if_pos c53] at H
          have c53b0 : decide (1 < (wrap64 (s0_3 + 1))) = true := decide_eq_true c53
          clear c53
          by_cases c54 : t300 ≥ s0_4
          · rw [if_pos c54] at H
            have c54b0 : decide (s0_4 ≤ t300) = true := decide_eq_true c54
            clear c54
            replace H := Option.bind_eq_some_iff.mp H
            obtain ⟨t329, A550, H⟩ := H
            replace H : ((detect_Detector_moves.f k 1 s0_1 0 0 s0_4 s0_5 t329 (mn t299 100000)).bind fun bt330 => (some (bt330.1, bt330.1, bt330.2.1, bt330.2.2.1, bt330.2.2.2.1, t300, bt330.2.2.2.2.2))) = some (r1, r2, r3, r4, r5, r6, r7) := H
            have A55 := Aside0.mk A550
            clear A550
            obtain ⟨ji56, hji56⟩ : ∃ j_ : Int, (mn t299 100000) = j_ := ⟨_, rfl⟩
            replace H : ((detect_Detector_moves.f k 1 s0_1 0 0 s0_4 s0_5 t329 (ji56)).bind fun bt330 => (some (bt330.1, bt330.1, bt330.2.1, bt330.2.2.1, bt330.2.2.2.1, t300, bt330.2.2.2.2.2))) = some (r1, r2, r3, r4, r5, r6, r7) := by first | (rw [hji56] at H; exact H) | (simp only [hji56] at H ⊢; exact H)
            (try rw [hji56] at A6)
            (try rw [hji56] at A9)
            (try rw [hji56] at A55)
            (try (have hji56h : ji56 ≤ 100000 := by (rw [← hji56]; unfold mn; (repeat' split) <;> omega)))
            (try (have hji56g : ji56 ≤ 64 := by omega))
            have hji56_ : (if 100000 < t299 then 100000 else t299) = ji56 := hji56
            replace H := Option.bind_eq_some_iff.mp H
            obtain ⟨⟨t330, t331, t332, t333, t334, t335⟩, A570, H⟩ := H
            replace H : (some (t330, t330, t331, t332, t333, t300, t335)) = some (r1, r2, r3, r4, r5, r6, r7) := H
            have A57 := Aside0.mk A570
            clear A570
            simp only [Option.some.injEq, Prod.mk.injEq] at H
            obtain ⟨rfl, rfl, rfl, rfl, rfl, rfl, rfl⟩ := H
            go_enter Try.func28, Try.ntmps28
            go_wp2
            repeat ((first | refine wp_scope_fwd 2 ?_ | refine Exit.fwd_goto rfl ?_ | (refine wp_label ?_; dsimp only [Exit.then]) | refine wp_label ?_ | (go_step3; refine Exit.fwd_goto rfl ?_) | (go_step3; (try simp only [Exit.then, Exit.inBlock]); refine Exit.fwd_goto rfl ?_)); try go_wp2_with (first | ((with_reducible refine gate_callee (f := 36) rfl ?_); refine goesL_ (some 15) rfl rfl Try.func36 (by kernel_rfl) rfl #[.int .i64 a3, .int .i64 0, .int .i64 1000000] rfl (by (try simp only [List.map_toArray, List.map_cons, List.map_nil]); first | done | rfl | (simp only [List.length_drop, List.length_take]; rfl)) ?_; (with_reducible refine (sat_Clamp.calls a3 0 1000000 t299 _ A6.out).mono ?_); rintro e w' ⟨rfl, ⟨nd, rfl⟩⟩; refine ⟨_, rfl, ?_⟩; (generalize hq_ : World.drewN w _ = w58; have n0_ : Aside0 (IsS75 w0 w58 g s0_0 s0_1 s0_2 s0_3 s0_4 s0_5) := ⟨by rw [← hq_]; exact (by repeat (first | (with_reducible first | exact HI0.out | apply IsS75.alloc | apply IsS75.drewN | apply IsS75.drew | apply IsS75.set_0 | apply IsS75.set_1 | apply IsS75.set_2 | apply IsS75.set_3 | apply IsS75.set_4 | apply IsS75.set_5) | exact HI0.out))⟩; have n1_ : Aside0 (KeepBut w w58 g none) := ⟨by rw [← hq_]; exact (by repeat (first | (with_reducible first | exact HK.out | apply KeepBut.set_ | apply keep_drewN | apply keep_drew | apply keep_alloc) | exact HK.out))⟩; have n2_ : Aside0 (Below w0.heap.size w0 w58) := ⟨by rw [← hq_]; exact (by repeat (first | (with_reducible first | exact HB.out | apply below_alloc | apply pw_below_drewN | apply below_drew1 | refine below_set ?_ (IsS75.ge HI0.out)) | exact HB.out))⟩; clear HI0 HK HB hq_; have HI0 := n0_; have HK := n1_; have HB := n2_; clear n0_ n1_ n2_)) | ((with_reducible refine gate_callee (f := 44) rfl ?_); refine goesL_ (some 21) rfl rfl Try.func44 (by kernel_rfl) rfl #[.int .i64 (4 * (ji8)), .int .i64 a1] rfl (by (try simp only [List.map_toArray, List.map_cons, List.map_nil]); first | done | (simp only [hji8]; rfl) | rfl | (simp only [List.length_drop, List.length_take]; rfl)) ?_; (with_reducible refine (sat_Mul.calls (4 * (ji8)) a1 t300 _ A9.out).mono ?_); rintro e w59 ⟨rfl, hb⟩; refine ⟨_, rfl, ?_⟩; have n0_ := Aside0.mk (IsS75.below (by repeat (first | (with_reducible first | exact HI0.out | apply IsS75.alloc | apply IsS75.drewN | apply IsS75.drew | apply IsS75.set_0 | apply IsS75.set_1 | apply IsS75.set_2 | apply IsS75.set_3 | apply IsS75.set_4 | apply IsS75.set_5) | exact HI0.out)) hb); have n1_ := Aside0.mk (KeepBut.trans (by repeat (first | (with_reducible first | exact HK.out | apply KeepBut.set_ | apply keep_drewN | apply keep_drew | apply keep_alloc) | exact HK.out)) (KeepBut.of_below hb g none) (.inl rfl)); have n2_ := Aside0.mk (below_step (by repeat (first | (with_reducible first | exact HB.out | apply below_alloc | apply pw_below_drewN | apply below_drew1 | refine below_set ?_ (IsS75.ge HI0.out)) | exact HB.out)) hb); clear HI0; clear HK; clear HB; have HI0 := n0_; have HK := n1_; have HB := n2_; clear n0_ n1_ n2_; (try clear hb); (try clear hb2); (try clear hk); (try clear hi); obtain ⟨HGz60, hgz60⟩ := HI0.out; have hcz60_0 := cellS75_0 HGz60; have hcz60_1 := cellS75_1 HGz60; have hcz60_2 := cellS75_2 HGz60; have hcz60_3 := cellS75_3 HGz60; have hcz60_4 := cellS75_4 HGz60; have hcz60_5 := cellS75_5 HGz60; have hfz60_0 := blk_frozen HGz60 0; have hfz60_1 := blk_frozen HGz60 1; have hfz60_2 := blk_frozen HGz60 2; have hfz60_3 := blk_frozen HGz60 3; have hfz60_4 := blk_frozen HGz60 4; have hfz60_5 := blk_frozen HGz60 5; clear HGz60 hgz60) | ((with_reducible refine gate_callee (f := 46) rfl ?_); refine goesL_ (some 104) rfl rfl Try.func46 (by kernel_rfl) rfl #[.int .i64 t300] rfl (by (try simp only [List.map_toArray, List.map_cons, List.map_nil]); first | done | rfl | (simp only [List.length_drop, List.length_take]; rfl)) ?_; (with_reducible refine (sat_Abs.calls t300 t329 _ A55.out).mono ?_); rintro e w61 ⟨rfl, hb⟩; refine ⟨_, rfl, ?_⟩; have n0_ := Aside0.mk (IsS75.below (show IsS75 w0 (((((w59.setCell ⟨g, 2, none⟩ (.int .i64 ji51)).setCell ⟨g, 3, none⟩ (.int .i64 (wrap64 (s0_3 + 1)))).setCell ⟨g, 2, none⟩ (.int .i64 0)).setCell ⟨g, 3, none⟩ (.int .i64 0)).setCell ⟨g, 0, none⟩ (.int .i64 1)) g 1 s0_1 0 0 s0_4 s0_5 from by repeat (first | (with_reducible first | exact HI0.out | apply IsS75.alloc | apply IsS75.drewN | apply IsS75.drew | apply IsS75.set_0 | apply IsS75.set_1 | apply IsS75.set_2 | apply IsS75.set_3 | apply IsS75.set_4 | apply IsS75.set_5) | exact HI0.out)) hb); have n1_ := Aside0.mk (KeepBut.trans (by repeat (first | (with_reducible first | exact HK.out | apply KeepBut.set_ | apply keep_drewN | apply keep_drew | apply keep_alloc) | exact HK.out)) (KeepBut.of_below hb g none) (.inl rfl)); have n2_ := Aside0.mk (below_step (by repeat (first | (with_reducible first | exact HB.out | apply below_alloc | apply pw_below_drewN | apply below_drew1 | refine below_set ?_ (IsS75.ge HI0.out)) | exact HB.out)) hb); clear HI0; clear HK; clear HB; have HI0 := n0_; have HK := n1_; have HB := n2_; clear n0_ n1_ n2_; (try clear hb); (try clear hb2); (try clear hk); (try clear hi)) | ((with_reducible refine gate_callee (f := 45) rfl ?_); refine goesL_ (some 107) rfl rfl Try.func45 (by kernel_rfl) rfl #[.pointer (some ⟨g, 0, none⟩), .int .i64 t329, .int .i64 ji56] rfl (by (try simp only [List.map_toArray, List.map_cons, List.map_nil]); first | done | (simp only [hji56]; rfl) | rfl | (simp only [List.length_drop, List.length_take]; rfl)) ?_; (with_reducible refine (detect_Detector_moves.calls k g 1 s0_1 0 0 s0_4 s0_5 t329 ji56 t330 t331 t332 t333 t334 t335 w0 _ ?side1 ?side2 A57.out).mono ?_); (case side1 => repeat (first | (with_reducible first | exact HI0.out | apply IsS75.alloc | apply IsS75.drewN | apply IsS75.drew | apply IsS75.set_0 | apply IsS75.set_1 | apply IsS75.set_2 | apply IsS75.set_3 | apply IsS75.set_4 | apply IsS75.set_5) | exact HI0.out)); (case side2 => repeat (first | (with_reducible first | exact HB.out | apply below_alloc | apply pw_below_drewN | apply below_drew1 | refine below_set ?_ (IsS75.ge HI0.out)) | exact HB.out)); rintro e w62 ⟨rfl, hi, hb, hk⟩; refine ⟨_, rfl, ?_⟩; have n0_ := Aside0.mk (KeepBut.trans (by repeat (first | (with_reducible first | exact HK.out | apply KeepBut.set_ | apply keep_drewN | apply keep_drew | apply keep_alloc) | exact HK.out)) hk (.inl rfl)); have n1_ := Aside0.mk (hb); have n2_ := Aside0.mk (hi); clear HK; clear HB; clear HI0; have HK := n0_; have HB := n1_; have HI0 := n2_; clear n0_ n1_ n2_; (try clear hb); (try clear hb2); (try clear hk); (try clear hi); obtain ⟨HGz63, hgz63⟩ := HI0.out; have hcz63_0 := cellS75_0 HGz63; have hcz63_1 := cellS75_1 HGz63; have hcz63_2 := cellS75_2 HGz63; have hcz63_3 := cellS75_3 HGz63; have hcz63_4 := cellS75_4 HGz63; have hcz63_5 := cellS75_5 HGz63; have hfz63_0 := blk_frozen HGz63 0; have hfz63_1 := blk_frozen HGz63 1; have hfz63_2 := blk_frozen HGz63 2; have hfz63_3 := blk_frozen HGz63 3; have hfz63_4 := blk_frozen HGz63 4; have hfz63_5 := blk_frozen HGz63 5; clear HGz63 hgz63)))
            (try rw [Exit.fwd_ret])
            (try rw [Exit.fwd_normal])
            go_ret
            exact ⟨by first | rfl | (simp [errW_none, errW_some] <;> rfl) | (simp only [← hji7, ← hji8, ← hji51, ← hji56]; first | rfl | (simp [errW_none, errW_some] <;> rfl)) | (simp [*, errW_none, errW_some] <;> rfl), by repeat (first | (with_reducible first | exact HI0.out | apply IsS75.alloc | apply IsS75.drewN | apply IsS75.drew | apply IsS75.set_0 | apply IsS75.set_1 | apply IsS75.set_2 | apply IsS75.set_3 | apply IsS75.set_4 | apply IsS75.set_5) | exact HI0.out), by repeat (first | (with_reducible first | exact HB.out | apply below_alloc | apply pw_below_drewN | apply below_drew1 | refine below_set ?_ (IsS75.ge HI0.out)) | exact HB.out), by repeat (first | (with_reducible first | exact HK.out | apply KeepBut.set_ | apply keep_drewN | apply keep_drew | apply keep_alloc) | exact HK.out)⟩
          · rw [if_neg c54] at H
            have c54b0 : decide (s0_4 ≤ t300) = false := decide_eq_false c54
            clear c54
            replace H := Option.bind_eq_some_iff.mp H
            obtain ⟨t336, A640, H⟩ := H
            replace H : ((detect_Detector_moves.f k s0_0 s0_1 (ji51) (wrap64 (s0_3 + 1)) s0_4 s0_5 t336 (mn t299 100000)).bind fun bt337 => (some (bt337.1, bt337.1, bt337.2.1, bt337.2.2.1, bt337.2.2.2.1, t300, bt337.2.2.2.2.2))) = some (r1, r2, r3, r4, r5, r6, r7) := H
            have A64 := Aside0.mk A640
            clear A640
            obtain ⟨ji65, hji65⟩ : ∃ j_ : Int, (mn t299 100000) = j_ := ⟨_, rfl⟩
            replace H : ((detect_Detector_moves.f k s0_0 s0_1 (ji51) (wrap64 (s0_3 + 1)) s0_4 s0_5 t336 (ji65)).bind fun bt337 => (some (bt337.1, bt337.1, bt337.2.1, bt337.2.2.1, bt337.2.2.2.1, t300, bt337.2.2.2.2.2))) = some (r1, r2, r3, r4, r5, r6, r7) := by first | (rw [hji65] at H; exact H) | (simp only [hji65] at H ⊢; exact H)
            (try rw [hji65] at A6)
            (try rw [hji65] at A9)
            (try rw [hji65] at A64)
            (try (have hji65h : ji65 ≤ 100000 := by (rw [← hji65]; unfold mn; (repeat' split) <;> omega)))
            (try (have hji65g : ji65 ≤ 64 := by omega))
            have hji65_ : (if 100000 < t299 then 100000 else t299) = ji65 := hji65
            replace H := Option.bind_eq_some_iff.mp H
            obtain ⟨⟨t337, t338, t339, t340, t341, t342⟩, A660, H⟩ := H
            replace H : (some (t337, t337, t338, t339, t340, t300, t342)) = some (r1, r2, r3, r4, r5, r6, r7) := H
            have A66 := Aside0.mk A660
            clear A660
            simp only [Option.some.injEq, Prod.mk.injEq] at H
            obtain ⟨rfl, rfl, rfl, rfl, rfl, rfl, rfl⟩ := H
            go_enter Try.func28, Try.ntmps28
            go_wp2
            repeat ((first | refine wp_scope_fwd 2 ?_ | refine Exit.fwd_goto rfl ?_ | (refine wp_label ?_; dsimp only [Exit.then]) | refine wp_label ?_ | (go_step3; refine Exit.fwd_goto rfl ?_) | (go_step3; (try simp only [Exit.then, Exit.inBlock]); refine Exit.fwd_goto rfl ?_)); try go_wp2_with (first | ((with_reducible refine gate_callee (f := 36) rfl ?_); refine goesL_ (some 15) rfl rfl Try.func36 (by kernel_rfl) rfl #[.int .i64 a3, .int .i64 0, .int .i64 1000000] rfl (by (try simp only [List.map_toArray, List.map_cons, List.map_nil]); first | done | rfl | (simp only [List.length_drop, List.length_take]; rfl)) ?_; (with_reducible refine (sat_Clamp.calls a3 0 1000000 t299 _ A6.out).mono ?_); rintro e w' ⟨rfl, ⟨nd, rfl⟩⟩; refine ⟨_, rfl, ?_⟩; (generalize hq_ : World.drewN w _ = w67; have n0_ : Aside0 (IsS75 w0 w67 g s0_0 s0_1 s0_2 s0_3 s0_4 s0_5) := ⟨by rw [← hq_]; exact (by repeat (first | (with_reducible first | exact HI0.out | apply IsS75.alloc | apply IsS75.drewN | apply IsS75.drew | apply IsS75.set_0 | apply IsS75.set_1 | apply IsS75.set_2 | apply IsS75.set_3 | apply IsS75.set_4 | apply IsS75.set_5) | exact HI0.out))⟩; have n1_ : Aside0 (KeepBut w w67 g none) := ⟨by rw [← hq_]; exact (by repeat (first | (with_reducible first | exact HK.out | apply KeepBut.set_ | apply keep_drewN | apply keep_drew | apply keep_alloc) | exact HK.out))⟩; have n2_ : Aside0 (Below w0.heap.size w0 w67) := ⟨by rw [← hq_]; exact (by repeat (first | (with_reducible first | exact HB.out | apply below_alloc | apply pw_below_drewN | apply below_drew1 | refine below_set ?_ (IsS75.ge HI0.out)) | exact HB.out))⟩; clear HI0 HK HB hq_; have HI0 := n0_; have HK := n1_; have HB := n2_; clear n0_ n1_ n2_)) | ((with_reducible refine gate_callee (f := 44) rfl ?_); refine goesL_ (some 21) rfl rfl Try.func44 (by kernel_rfl) rfl #[.int .i64 (4 * (ji8)), .int .i64 a1] rfl (by (try simp only [List.map_toArray, List.map_cons, List.map_nil]); first | done | (simp only [hji8]; rfl) | rfl | (simp only [List.length_drop, List.length_take]; rfl)) ?_; (with_reducible refine (sat_Mul.calls (4 * (ji8)) a1 t300 _ A9.out).mono ?_); rintro e w68 ⟨rfl, hb⟩; refine ⟨_, rfl, ?_⟩; have n0_ := Aside0.mk (IsS75.below (by repeat (first | (with_reducible first | exact HI0.out | apply IsS75.alloc | apply IsS75.drewN | apply IsS75.drew | apply IsS75.set_0 | apply IsS75.set_1 | apply IsS75.set_2 | apply IsS75.set_3 | apply IsS75.set_4 | apply IsS75.set_5) | exact HI0.out)) hb); have n1_ := Aside0.mk (KeepBut.trans (by repeat (first | (with_reducible first | exact HK.out | apply KeepBut.set_ | apply keep_drewN | apply keep_drew | apply keep_alloc) | exact HK.out)) (KeepBut.of_below hb g none) (.inl rfl)); have n2_ := Aside0.mk (below_step (by repeat (first | (with_reducible first | exact HB.out | apply below_alloc | apply pw_below_drewN | apply below_drew1 | refine below_set ?_ (IsS75.ge HI0.out)) | exact HB.out)) hb); clear HI0; clear HK; clear HB; have HI0 := n0_; have HK := n1_; have HB := n2_; clear n0_ n1_ n2_; (try clear hb); (try clear hb2); (try clear hk); (try clear hi); obtain ⟨HGz69, hgz69⟩ := HI0.out; have hcz69_0 := cellS75_0 HGz69; have hcz69_1 := cellS75_1 HGz69; have hcz69_2 := cellS75_2 HGz69; have hcz69_3 := cellS75_3 HGz69; have hcz69_4 := cellS75_4 HGz69; have hcz69_5 := cellS75_5 HGz69; have hfz69_0 := blk_frozen HGz69 0; have hfz69_1 := blk_frozen HGz69 1; have hfz69_2 := blk_frozen HGz69 2; have hfz69_3 := blk_frozen HGz69 3; have hfz69_4 := blk_frozen HGz69 4; have hfz69_5 := blk_frozen HGz69 5; clear HGz69 hgz69) | ((with_reducible refine gate_callee (f := 46) rfl ?_); refine goesL_ (some 104) rfl rfl Try.func46 (by kernel_rfl) rfl #[.int .i64 t300] rfl (by (try simp only [List.map_toArray, List.map_cons, List.map_nil]); first | done | rfl | (simp only [List.length_drop, List.length_take]; rfl)) ?_; (with_reducible refine (sat_Abs.calls t300 t336 _ A64.out).mono ?_); rintro e w70 ⟨rfl, hb⟩; refine ⟨_, rfl, ?_⟩; have n0_ := Aside0.mk (IsS75.below (show IsS75 w0 ((w68.setCell ⟨g, 2, none⟩ (.int .i64 ji51)).setCell ⟨g, 3, none⟩ (.int .i64 (wrap64 (s0_3 + 1)))) g s0_0 s0_1 ji51 (wrap64 (s0_3 + 1)) s0_4 s0_5 from by repeat (first | (with_reducible first | exact HI0.out | apply IsS75.alloc | apply IsS75.drewN | apply IsS75.drew | apply IsS75.set_0 | apply IsS75.set_1 | apply IsS75.set_2 | apply IsS75.set_3 | apply IsS75.set_4 | apply IsS75.set_5) | exact HI0.out)) hb); have n1_ := Aside0.mk (KeepBut.trans (by repeat (first | (with_reducible first | exact HK.out | apply KeepBut.set_ | apply keep_drewN | apply keep_drew | apply keep_alloc) | exact HK.out)) (KeepBut.of_below hb g none) (.inl rfl)); have n2_ := Aside0.mk (below_step (by repeat (first | (with_reducible first | exact HB.out | apply below_alloc | apply pw_below_drewN | apply below_drew1 | refine below_set ?_ (IsS75.ge HI0.out)) | exact HB.out)) hb); clear HI0; clear HK; clear HB; have HI0 := n0_; have HK := n1_; have HB := n2_; clear n0_ n1_ n2_; (try clear hb); (try clear hb2); (try clear hk); (try clear hi)) | ((with_reducible refine gate_callee (f := 45) rfl ?_); refine goesL_ (some 107) rfl rfl Try.func45 (by kernel_rfl) rfl #[.pointer (some ⟨g, 0, none⟩), .int .i64 t336, .int .i64 ji65] rfl (by (try simp only [List.map_toArray, List.map_cons, List.map_nil]); first | done | (simp only [hji65]; rfl) | rfl | (simp only [List.length_drop, List.length_take]; rfl)) ?_; (with_reducible refine (detect_Detector_moves.calls k g s0_0 s0_1 ji51 (wrap64 (s0_3 + 1)) s0_4 s0_5 t336 ji65 t337 t338 t339 t340 t341 t342 w0 _ ?side1 ?side2 A66.out).mono ?_); (case side1 => repeat (first | (with_reducible first | exact HI0.out | apply IsS75.alloc | apply IsS75.drewN | apply IsS75.drew | apply IsS75.set_0 | apply IsS75.set_1 | apply IsS75.set_2 | apply IsS75.set_3 | apply IsS75.set_4 | apply IsS75.set_5) | exact HI0.out)); (case side2 => repeat (first | (with_reducible first | exact HB.out | apply below_alloc | apply pw_below_drewN | apply below_drew1 | refine below_set ?_ (IsS75.ge HI0.out)) | exact HB.out)); rintro e w71 ⟨rfl, hi, hb, hk⟩; refine ⟨_, rfl, ?_⟩; have n0_ := Aside0.mk (KeepBut.trans (by repeat (first | (with_reducible first | exact HK.out | apply KeepBut.set_ | apply keep_drewN | apply keep_drew | apply keep_alloc) | exact HK.out)) hk (.inl rfl)); have n1_ := Aside0.mk (hb); have n2_ := Aside0.mk (hi); clear HK; clear HB; clear HI0; have HK := n0_; have HB := n1_; have HI0 := n2_; clear n0_ n1_ n2_; (try clear hb); (try clear hb2); (try clear hk); (try clear hi); obtain ⟨HGz72, hgz72⟩ := HI0.out; have hcz72_0 := cellS75_0 HGz72; have hcz72_1 := cellS75_1 HGz72; have hcz72_2 := cellS75_2 HGz72; have hcz72_3 := cellS75_3 HGz72; have hcz72_4 := cellS75_4 HGz72; have hcz72_5 := cellS75_5 HGz72; have hfz72_0 := blk_frozen HGz72 0; have hfz72_1 := blk_frozen HGz72 1; have hfz72_2 := blk_frozen HGz72 2; have hfz72_3 := blk_frozen HGz72 3; have hfz72_4 := blk_frozen HGz72 4; have hfz72_5 := blk_frozen HGz72 5; clear HGz72 hgz72)))
            (try rw [Exit.fwd_ret])
            (try rw [Exit.fwd_normal])
            go_ret
            exact ⟨by first | rfl | (simp [errW_none, errW_some] <;> rfl) | (simp only [← hji7, ← hji8, ← hji51, ← hji65]; first | rfl | (simp [errW_none, errW_some] <;> rfl)) | (simp [*, errW_none, errW_some] <;> rfl), by repeat (first | (with_reducible first | exact HI0.out | apply IsS75.alloc | apply IsS75.drewN | apply IsS75.drew | apply IsS75.set_0 | apply IsS75.set_1 | apply IsS75.set_2 | apply IsS75.set_3 | apply IsS75.set_4 | apply IsS75.set_5) | exact HI0.out), by repeat (first | (with_reducible first | exact HB.out | apply below_alloc | apply pw_below_drewN | apply below_drew1 | refine below_set ?_ (IsS75.ge HI0.out)) | exact HB.out), by repeat (first | (with_reducible first | exact HK.out | apply KeepBut.set_ | apply keep_drewN | apply keep_drew | apply keep_alloc) | exact HK.out)⟩
        · rw [if_neg c53] at H
          have c53b0 : decide (1 < (wrap64 (s0_3 + 1))) = false := decide_eq_false c53
          clear c53
          replace H := Option.bind_eq_some_iff.mp H
          obtain ⟨t343, A730, H⟩ := H
          replace H : ((detect_Detector_moves.f k s0_0 s0_1 (ji51) (wrap64 (s0_3 + 1)) s0_4 s0_5 t343 (mn t299 100000)).bind fun bt344 => (some (bt344.1, bt344.1, bt344.2.1, bt344.2.2.1, bt344.2.2.2.1, t300, bt344.2.2.2.2.2))) = some (r1, r2, r3, r4, r5, r6, r7) := H
          have A73 := Aside0.mk A730
          clear A730
          obtain ⟨ji74, hji74⟩ : ∃ j_ : Int, (mn t299 100000) = j_ := ⟨_, rfl⟩
          replace H : ((detect_Detector_moves.f k s0_0 s0_1 (ji51) (wrap64 (s0_3 + 1)) s0_4 s0_5 t343 (ji74)).bind fun bt344 => (some (bt344.1, bt344.1, bt344.2.1, bt344.2.2.1, bt344.2.2.2.1, t300, bt344.2.2.2.2.2))) = some (r1, r2, r3, r4, r5, r6, r7) := by first | (rw [hji74] at H; exact H) | (simp only [hji74] at H ⊢; exact H)
          (try rw [hji74] at A6)
          (try rw [hji74] at A9)
          (try rw [hji74] at A73)
          (try (have hji74h : ji74 ≤ 100000 := by (rw [← hji74]; unfold mn; (repeat' split) <;> omega)))
          (try (have hji74g : ji74 ≤ 64 := by omega))
          have hji74_ : (if 100000 < t299 then 100000 else t299) = ji74 := hji74
          replace H := Option.bind_eq_some_iff.mp H
          obtain ⟨⟨t344, t345, t346, t347, t348, t349⟩, A750, H⟩ := H
          replace H : (some (t344, t344, t345, t346, t347, t300, t349)) = some (r1, r2, r3, r4, r5, r6, r7) := H
          have A75 := Aside0.mk A750
          clear A750
          simp only [Option.some.injEq, Prod.mk.injEq] at H
          obtain ⟨rfl, rfl, rfl, rfl, rfl, rfl, rfl⟩ := H
          go_enter Try.func28, Try.ntmps28
          go_wp2
          repeat ((first | refine wp_scope_fwd 2 ?_ | refine Exit.fwd_goto rfl ?_ | (refine wp_label ?_; dsimp only [Exit.then]) | refine wp_label ?_ | (go_step3; refine Exit.fwd_goto rfl ?_) | (go_step3; (try simp only [Exit.then, Exit.inBlock]); refine Exit.fwd_goto rfl ?_)); try go_wp2_with (first | ((with_reducible refine gate_callee (f := 36) rfl ?_); refine goesL_ (some 15) rfl rfl Try.func36 (by kernel_rfl) rfl #[.int .i64 a3, .int .i64 0, .int .i64 1000000] rfl (by (try simp only [List.map_toArray, List.map_cons, List.map_nil]); first | done | rfl | (simp only [List.length_drop, List.length_take]; rfl)) ?_; (with_reducible refine (sat_Clamp.calls a3 0 1000000 t299 _ A6.out).mono ?_); rintro e w' ⟨rfl, ⟨nd, rfl⟩⟩; refine ⟨_, rfl, ?_⟩; (generalize hq_ : World.drewN w _ = w76; have n0_ : Aside0 (IsS75 w0 w76 g s0_0 s0_1 s0_2 s0_3 s0_4 s0_5) := ⟨by rw [← hq_]; exact (by repeat (first | (with_reducible first | exact HI0.out | apply IsS75.alloc | apply IsS75.drewN | apply IsS75.drew | apply IsS75.set_0 | apply IsS75.set_1 | apply IsS75.set_2 | apply IsS75.set_3 | apply IsS75.set_4 | apply IsS75.set_5) | exact HI0.out))⟩; have n1_ : Aside0 (KeepBut w w76 g none) := ⟨by rw [← hq_]; exact (by repeat (first | (with_reducible first | exact HK.out | apply KeepBut.set_ | apply keep_drewN | apply keep_drew | apply keep_alloc) | exact HK.out))⟩; have n2_ : Aside0 (Below w0.heap.size w0 w76) := ⟨by rw [← hq_]; exact (by repeat (first | (with_reducible first | exact HB.out | apply below_alloc | apply pw_below_drewN | apply below_drew1 | refine below_set ?_ (IsS75.ge HI0.out)) | exact HB.out))⟩; clear HI0 HK HB hq_; have HI0 := n0_; have HK := n1_; have HB := n2_; clear n0_ n1_ n2_)) | ((with_reducible refine gate_callee (f := 44) rfl ?_); refine goesL_ (some 21) rfl rfl Try.func44 (by kernel_rfl) rfl #[.int .i64 (4 * (ji8)), .int .i64 a1] rfl (by (try simp only [List.map_toArray, List.map_cons, List.map_nil]); first | done | (simp only [hji8]; rfl) | rfl | (simp only [List.length_drop, List.length_take]; rfl)) ?_; (with_reducible refine (sat_Mul.calls (4 * (ji8)) a1 t300 _ A9.out).mono ?_); rintro e w77 ⟨rfl, hb⟩; refine ⟨_, rfl, ?_⟩; have n0_ := Aside0.mk (IsS75.below (by repeat (first | (with_reducible first | exact HI0.out | apply IsS75.alloc | apply IsS75.drewN | apply IsS75.drew | apply IsS75.set_0 | apply IsS75.set_1 | apply IsS75.set_2 | apply IsS75.set_3 | apply IsS75.set_4 | apply IsS75.set_5) | exact HI0.out)) hb); have n1_ := Aside0.mk (KeepBut.trans (by repeat (first | (with_reducible first | exact HK.out | apply KeepBut.set_ | apply keep_drewN | apply keep_drew | apply keep_alloc) | exact HK.out)) (KeepBut.of_below hb g none) (.inl rfl)); have n2_ := Aside0.mk (below_step (by repeat (first | (with_reducible first | exact HB.out | apply below_alloc | apply pw_below_drewN | apply below_drew1 | refine below_set ?_ (IsS75.ge HI0.out)) | exact HB.out)) hb); clear HI0; clear HK; clear HB; have HI0 := n0_; have HK := n1_; have HB := n2_; clear n0_ n1_ n2_; (try clear hb); (try clear hb2); (try clear hk); (try clear hi); obtain ⟨HGz78, hgz78⟩ := HI0.out; have hcz78_0 := cellS75_0 HGz78; have hcz78_1 := cellS75_1 HGz78; have hcz78_2 := cellS75_2 HGz78; have hcz78_3 := cellS75_3 HGz78; have hcz78_4 := cellS75_4 HGz78; have hcz78_5 := cellS75_5 HGz78; have hfz78_0 := blk_frozen HGz78 0; have hfz78_1 := blk_frozen HGz78 1; have hfz78_2 := blk_frozen HGz78 2; have hfz78_3 := blk_frozen HGz78 3; have hfz78_4 := blk_frozen HGz78 4; have hfz78_5 := blk_frozen HGz78 5; clear HGz78 hgz78) | ((with_reducible refine gate_callee (f := 46) rfl ?_); refine goesL_ (some 104) rfl rfl Try.func46 (by kernel_rfl) rfl #[.int .i64 t300] rfl (by (try simp only [List.map_toArray, List.map_cons, List.map_nil]); first | done | rfl | (simp only [List.length_drop, List.length_take]; rfl)) ?_; (with_reducible refine (sat_Abs.calls t300 t343 _ A73.out).mono ?_); rintro e w79 ⟨rfl, hb⟩; refine ⟨_, rfl, ?_⟩; have n0_ := Aside0.mk (IsS75.below (show IsS75 w0 ((w77.setCell ⟨g, 2, none⟩ (.int .i64 ji51)).setCell ⟨g, 3, none⟩ (.int .i64 (wrap64 (s0_3 + 1)))) g s0_0 s0_1 ji51 (wrap64 (s0_3 + 1)) s0_4 s0_5 from by repeat (first | (with_reducible first | exact HI0.out | apply IsS75.alloc | apply IsS75.drewN | apply IsS75.drew | apply IsS75.set_0 | apply IsS75.set_1 | apply IsS75.set_2 | apply IsS75.set_3 | apply IsS75.set_4 | apply IsS75.set_5) | exact HI0.out)) hb); have n1_ := Aside0.mk (KeepBut.trans (by repeat (first | (with_reducible first | exact HK.out | apply KeepBut.set_ | apply keep_drewN | apply keep_drew | apply keep_alloc) | exact HK.out)) (KeepBut.of_below hb g none) (.inl rfl)); have n2_ := Aside0.mk (below_step (by repeat (first | (with_reducible first | exact HB.out | apply below_alloc | apply pw_below_drewN | apply below_drew1 | refine below_set ?_ (IsS75.ge HI0.out)) | exact HB.out)) hb); clear HI0; clear HK; clear HB; have HI0 := n0_; have HK := n1_; have HB := n2_; clear n0_ n1_ n2_; (try clear hb); (try clear hb2); (try clear hk); (try clear hi)) | ((with_reducible refine gate_callee (f := 45) rfl ?_); refine goesL_ (some 107) rfl rfl Try.func45 (by kernel_rfl) rfl #[.pointer (some ⟨g, 0, none⟩), .int .i64 t343, .int .i64 ji74] rfl (by (try simp only [List.map_toArray, List.map_cons, List.map_nil]); first | done | (simp only [hji74]; rfl) | rfl | (simp only [List.length_drop, List.length_take]; rfl)) ?_; (with_reducible refine (detect_Detector_moves.calls k g s0_0 s0_1 ji51 (wrap64 (s0_3 + 1)) s0_4 s0_5 t343 ji74 t344 t345 t346 t347 t348 t349 w0 _ ?side1 ?side2 A75.out).mono ?_); (case side1 => repeat (first | (with_reducible first | exact HI0.out | apply IsS75.alloc | apply IsS75.drewN | apply IsS75.drew | apply IsS75.set_0 | apply IsS75.set_1 | apply IsS75.set_2 | apply IsS75.set_3 | apply IsS75.set_4 | apply IsS75.set_5) | exact HI0.out)); (case side2 => repeat (first | (with_reducible first | exact HB.out | apply below_alloc | apply pw_below_drewN | apply below_drew1 | refine below_set ?_ (IsS75.ge HI0.out)) | exact HB.out)); rintro e w80 ⟨rfl, hi, hb, hk⟩; refine ⟨_, rfl, ?_⟩; have n0_ := Aside0.mk (KeepBut.trans (by repeat (first | (with_reducible first | exact HK.out | apply KeepBut.set_ | apply keep_drewN | apply keep_drew | apply keep_alloc) | exact HK.out)) hk (.inl rfl)); have n1_ := Aside0.mk (hb); have n2_ := Aside0.mk (hi); clear HK; clear HB; clear HI0; have HK := n0_; have HB := n1_; have HI0 := n2_; clear n0_ n1_ n2_; (try clear hb); (try clear hb2); (try clear hk); (try clear hi); obtain ⟨HGz81, hgz81⟩ := HI0.out; have hcz81_0 := cellS75_0 HGz81; have hcz81_1 := cellS75_1 HGz81; have hcz81_2 := cellS75_2 HGz81; have hcz81_3 := cellS75_3 HGz81; have hcz81_4 := cellS75_4 HGz81; have hcz81_5 := cellS75_5 HGz81; have hfz81_0 := blk_frozen HGz81 0; have hfz81_1 := blk_frozen HGz81 1; have hfz81_2 := blk_frozen HGz81 2; have hfz81_3 := blk_frozen HGz81 3; have hfz81_4 := blk_frozen HGz81 4; have hfz81_5 := blk_frozen HGz81 5; clear HGz81 hgz81)))
          (try rw [Exit.fwd_ret])
          (try rw [Exit.fwd_normal])
          go_ret
          exact ⟨by first | rfl | (simp [errW_none, errW_some] <;> rfl) | (simp only [← hji7, ← hji8, ← hji51, ← hji74]; first | rfl | (simp [errW_none, errW_some] <;> rfl)) | (simp [*, errW_none, errW_some] <;> rfl), by repeat (first | (with_reducible first | exact HI0.out | apply IsS75.alloc | apply IsS75.drewN | apply IsS75.drew | apply IsS75.set_0 | apply IsS75.set_1 | apply IsS75.set_2 | apply IsS75.set_3 | apply IsS75.set_4 | apply IsS75.set_5) | exact HI0.out), by repeat (first | (with_reducible first | exact HB.out | apply below_alloc | apply pw_below_drewN | apply below_drew1 | refine below_set ?_ (IsS75.ge HI0.out)) | exact HB.out), by repeat (first | (with_reducible first | exact HK.out | apply KeepBut.set_ | apply keep_drewN | apply keep_drew | apply keep_alloc) | exact HK.out)⟩
      · rw [if_neg c52] at H
        have c52b0 : decide (10000 < (ji51)) = false := decide_eq_false c52
        clear c52
        replace H := Option.bind_eq_some_iff.mp H
        obtain ⟨t350, A820, H⟩ := H
        replace H : ((detect_Detector_moves.f k s0_0 s0_1 (ji51) (wrap64 (s0_3 + 1)) s0_4 s0_5 t350 (mn t299 100000)).bind fun bt351 => (some (bt351.1, bt351.1, bt351.2.1, bt351.2.2.1, bt351.2.2.2.1, t300, bt351.2.2.2.2.2))) = some (r1, r2, r3, r4, r5, r6, r7) := H
        have A82 := Aside0.mk A820
        clear A820
        obtain ⟨ji83, hji83⟩ : ∃ j_ : Int, (mn t299 100000) = j_ := ⟨_, rfl⟩
        replace H : ((detect_Detector_moves.f k s0_0 s0_1 (ji51) (wrap64 (s0_3 + 1)) s0_4 s0_5 t350 (ji83)).bind fun bt351 => (some (bt351.1, bt351.1, bt351.2.1, bt351.2.2.1, bt351.2.2.2.1, t300, bt351.2.2.2.2.2))) = some (r1, r2, r3, r4, r5, r6, r7) := by first | (rw [hji83] at H; exact H) | (simp only [hji83] at H ⊢; exact H)
        (try rw [hji83] at A6)
        (try rw [hji83] at A9)
        (try rw [hji83] at A82)
        (try (have hji83h : ji83 ≤ 100000 := by (rw [← hji83]; unfold mn; (repeat' split) <;> omega)))
        (try (have hji83g : ji83 ≤ 64 := by omega))
        have hji83_ : (if 100000 < t299 then 100000 else t299) = ji83 := hji83
        replace H := Option.bind_eq_some_iff.mp H
        obtain ⟨⟨t351, t352, t353, t354, t355, t356⟩, A840, H⟩ := H
        replace H : (some (t351, t351, t352, t353, t354, t300, t356)) = some (r1, r2, r3, r4, r5, r6, r7) := H
        have A84 := Aside0.mk A840
        clear A840
        simp only [Option.some.injEq, Prod.mk.injEq] at H
        obtain ⟨rfl, rfl, rfl, rfl, rfl, rfl, rfl⟩ := H
        go_enter Try.func28, Try.ntmps28
        go_wp2
        repeat ((first | refine wp_scope_fwd 2 ?_ | refine Exit.fwd_goto rfl ?_ | (refine wp_label ?_; dsimp only [Exit.then]) | refine wp_label ?_ | (go_step3; refine Exit.fwd_goto rfl ?_) | (go_step3; (try simp only [Exit.then, Exit.inBlock]); refine Exit.fwd_goto rfl ?_)); try go_wp2_with (first | ((with_reducible refine gate_callee (f := 36) rfl ?_); refine goesL_ (some 15) rfl rfl Try.func36 (by kernel_rfl) rfl #[.int .i64 a3, .int .i64 0, .int .i64 1000000] rfl (by (try simp only [List.map_toArray, List.map_cons, List.map_nil]); first | done | rfl | (simp only [List.length_drop, List.length_take]; rfl)) ?_; (with_reducible refine (sat_Clamp.calls a3 0 1000000 t299 _ A6.out).mono ?_); rintro e w' ⟨rfl, ⟨nd, rfl⟩⟩; refine ⟨_, rfl, ?_⟩; (generalize hq_ : World.drewN w _ = w85; have n0_ : Aside0 (IsS75 w0 w85 g s0_0 s0_1 s0_2 s0_3 s0_4 s0_5) := ⟨by rw [← hq_]; exact (by repeat (first | (with_reducible first | exact HI0.out | apply IsS75.alloc | apply IsS75.drewN | apply IsS75.drew | apply IsS75.set_0 | apply IsS75.set_1 | apply IsS75.set_2 | apply IsS75.set_3 | apply IsS75.set_4 | apply IsS75.set_5) | exact HI0.out))⟩; have n1_ : Aside0 (KeepBut w w85 g none) := ⟨by rw [← hq_]; exact (by repeat (first | (with_reducible first | exact HK.out | apply KeepBut.set_ | apply keep_drewN | apply keep_drew | apply keep_alloc) | exact HK.out))⟩; have n2_ : Aside0 (Below w0.heap.size w0 w85) := ⟨by rw [← hq_]; exact (by repeat (first | (with_reducible first | exact HB.out | apply below_alloc | apply pw_below_drewN | apply below_drew1 | refine below_set ?_ (IsS75.ge HI0.out)) | exact HB.out))⟩; clear HI0 HK HB hq_; have HI0 := n0_; have HK := n1_; have HB := n2_; clear n0_ n1_ n2_)) | ((with_reducible refine gate_callee (f := 44) rfl ?_); refine goesL_ (some 21) rfl rfl Try.func44 (by kernel_rfl) rfl #[.int .i64 (4 * (ji8)), .int .i64 a1] rfl (by (try simp only [List.map_toArray, List.map_cons, List.map_nil]); first | done | (simp only [hji8]; rfl) | rfl | (simp only [List.length_drop, List.length_take]; rfl)) ?_; (with_reducible refine (sat_Mul.calls (4 * (ji8)) a1 t300 _ A9.out).mono ?_); rintro e w86 ⟨rfl, hb⟩; refine ⟨_, rfl, ?_⟩; have n0_ := Aside0.mk (IsS75.below (by repeat (first | (with_reducible first | exact HI0.out | apply IsS75.alloc | apply IsS75.drewN | apply IsS75.drew | apply IsS75.set_0 | apply IsS75.set_1 | apply IsS75.set_2 | apply IsS75.set_3 | apply IsS75.set_4 | apply IsS75.set_5) | exact HI0.out)) hb); have n1_ := Aside0.mk (KeepBut.trans (by repeat (first | (with_reducible first | exact HK.out | apply KeepBut.set_ | apply keep_drewN | apply keep_drew | apply keep_alloc) | exact HK.out)) (KeepBut.of_below hb g none) (.inl rfl)); have n2_ := Aside0.mk (below_step (by repeat (first | (with_reducible first | exact HB.out | apply below_alloc | apply pw_below_drewN | apply below_drew1 | refine below_set ?_ (IsS75.ge HI0.out)) | exact HB.out)) hb); clear HI0; clear HK; clear HB; have HI0 := n0_; have HK := n1_; have HB := n2_; clear n0_ n1_ n2_; (try clear hb); (try clear hb2); (try clear hk); (try clear hi); obtain ⟨HGz87, hgz87⟩ := HI0.out; have hcz87_0 := cellS75_0 HGz87; have hcz87_1 := cellS75_1 HGz87; have hcz87_2 := cellS75_2 HGz87; have hcz87_3 := cellS75_3 HGz87; have hcz87_4 := cellS75_4 HGz87; have hcz87_5 := cellS75_5 HGz87; have hfz87_0 := blk_frozen HGz87 0; have hfz87_1 := blk_frozen HGz87 1; have hfz87_2 := blk_frozen HGz87 2; have hfz87_3 := blk_frozen HGz87 3; have hfz87_4 := blk_frozen HGz87 4; have hfz87_5 := blk_frozen HGz87 5; clear HGz87 hgz87) | ((with_reducible refine gate_callee (f := 46) rfl ?_); refine goesL_ (some 104) rfl rfl Try.func46 (by kernel_rfl) rfl #[.int .i64 t300] rfl (by (try simp only [List.map_toArray, List.map_cons, List.map_nil]); first | done | rfl | (simp only [List.length_drop, List.length_take]; rfl)) ?_; (with_reducible refine (sat_Abs.calls t300 t350 _ A82.out).mono ?_); rintro e w88 ⟨rfl, hb⟩; refine ⟨_, rfl, ?_⟩; have n0_ := Aside0.mk (IsS75.below (show IsS75 w0 ((w86.setCell ⟨g, 2, none⟩ (.int .i64 ji51)).setCell ⟨g, 3, none⟩ (.int .i64 (wrap64 (s0_3 + 1)))) g s0_0 s0_1 ji51 (wrap64 (s0_3 + 1)) s0_4 s0_5 from by repeat (first | (with_reducible first | exact HI0.out | apply IsS75.alloc | apply IsS75.drewN | apply IsS75.drew | apply IsS75.set_0 | apply IsS75.set_1 | apply IsS75.set_2 | apply IsS75.set_3 | apply IsS75.set_4 | apply IsS75.set_5) | exact HI0.out)) hb); have n1_ := Aside0.mk (KeepBut.trans (by repeat (first | (with_reducible first | exact HK.out | apply KeepBut.set_ | apply keep_drewN | apply keep_drew | apply keep_alloc) | exact HK.out)) (KeepBut.of_below hb g none) (.inl rfl)); have n2_ := Aside0.mk (below_step (by repeat (first | (with_reducible first | exact HB.out | apply below_alloc | apply pw_below_drewN | apply below_drew1 | refine below_set ?_ (IsS75.ge HI0.out)) | exact HB.out)) hb); clear HI0; clear HK; clear HB; have HI0 := n0_; have HK := n1_; have HB := n2_; clear n0_ n1_ n2_; (try clear hb); (try clear hb2); (try clear hk); (try clear hi)) | ((with_reducible refine gate_callee (f := 45) rfl ?_); refine goesL_ (some 107) rfl rfl Try.func45 (by kernel_rfl) rfl #[.pointer (some ⟨g, 0, none⟩), .int .i64 t350, .int .i64 ji83] rfl (by (try simp only [List.map_toArray, List.map_cons, List.map_nil]); first | done | (simp only [hji83]; rfl) | rfl | (simp only [List.length_drop, List.length_take]; rfl)) ?_; (with_reducible refine (detect_Detector_moves.calls k g s0_0 s0_1 ji51 (wrap64 (s0_3 + 1)) s0_4 s0_5 t350 ji83 t351 t352 t353 t354 t355 t356 w0 _ ?side1 ?side2 A84.out).mono ?_); (case side1 => repeat (first | (with_reducible first | exact HI0.out | apply IsS75.alloc | apply IsS75.drewN | apply IsS75.drew | apply IsS75.set_0 | apply IsS75.set_1 | apply IsS75.set_2 | apply IsS75.set_3 | apply IsS75.set_4 | apply IsS75.set_5) | exact HI0.out)); (case side2 => repeat (first | (with_reducible first | exact HB.out | apply below_alloc | apply pw_below_drewN | apply below_drew1 | refine below_set ?_ (IsS75.ge HI0.out)) | exact HB.out)); rintro e w89 ⟨rfl, hi, hb, hk⟩; refine ⟨_, rfl, ?_⟩; have n0_ := Aside0.mk (KeepBut.trans (by repeat (first | (with_reducible first | exact HK.out | apply KeepBut.set_ | apply keep_drewN | apply keep_drew | apply keep_alloc) | exact HK.out)) hk (.inl rfl)); have n1_ := Aside0.mk (hb); have n2_ := Aside0.mk (hi); clear HK; clear HB; clear HI0; have HK := n0_; have HB := n1_; have HI0 := n2_; clear n0_ n1_ n2_; (try clear hb); (try clear hb2); (try clear hk); (try clear hi); obtain ⟨HGz90, hgz90⟩ := HI0.out; have hcz90_0 := cellS75_0 HGz90; have hcz90_1 := cellS75_1 HGz90; have hcz90_2 := cellS75_2 HGz90; have hcz90_3 := cellS75_3 HGz90; have hcz90_4 := cellS75_4 HGz90; have hcz90_5 := cellS75_5 HGz90; have hfz90_0 := blk_frozen HGz90 0; have hfz90_1 := blk_frozen HGz90 1; have hfz90_2 := blk_frozen HGz90 2; have hfz90_3 := blk_frozen HGz90 3; have hfz90_4 := blk_frozen HGz90 4; have hfz90_5 := blk_frozen HGz90 5; clear HGz90 hgz90)))
        (try rw [Exit.fwd_ret])
        (try rw [Exit.fwd_normal])
        go_ret
        exact ⟨by first | rfl | (simp [errW_none, errW_some] <;> rfl) | (simp only [← hji7, ← hji8, ← hji51, ← hji83]; first | rfl | (simp [errW_none, errW_some] <;> rfl)) | (simp [*, errW_none, errW_some] <;> rfl), by repeat (first | (with_reducible first | exact HI0.out | apply IsS75.alloc | apply IsS75.drewN | apply IsS75.drew | apply IsS75.set_0 | apply IsS75.set_1 | apply IsS75.set_2 | apply IsS75.set_3 | apply IsS75.set_4 | apply IsS75.set_5) | exact HI0.out), by repeat (first | (with_reducible first | exact HB.out | apply below_alloc | apply pw_below_drewN | apply below_drew1 | refine below_set ?_ (IsS75.ge HI0.out)) | exact HB.out), by repeat (first | (with_reducible first | exact HK.out | apply KeepBut.set_ | apply keep_drewN | apply keep_drew | apply keep_alloc) | exact HK.out)⟩
  · rw [if_neg c10] at H
    have c10b0 : decide (s0_1 < t300) = false := decide_eq_false c10
    clear c10
    by_cases c91 : t300 < (wrap64 (-s0_1))
    · rw [if_pos c91] at H
      have c91b0 : decide (t300 < (wrap64 (-s0_1))) = true := decide_eq_true c91
      clear c91
      replace H := Option.bind_eq_some_iff.mp H
      obtain ⟨t357, A920, H⟩ := H
      replace H : ((detect_Detector_moves.f k 2 s0_1 0 0 s0_4 s0_5 t357 (mn t299 100000)).bind fun bt358 => (some (bt358.1, bt358.1, bt358.2.1, bt358.2.2.1, bt358.2.2.2.1, t300, bt358.2.2.2.2.2))) = some (r1, r2, r3, r4, r5, r6, r7) := H
      have A92 := Aside0.mk A920
      clear A920
      obtain ⟨ji93, hji93⟩ : ∃ j_ : Int, (mn t299 100000) = j_ := ⟨_, rfl⟩
      replace H : ((detect_Detector_moves.f k 2 s0_1 0 0 s0_4 s0_5 t357 (ji93)).bind fun bt358 => (some (bt358.1, bt358.1, bt358.2.1, bt358.2.2.1, bt358.2.2.2.1, t300, bt358.2.2.2.2.2))) = some (r1, r2, r3, r4, r5, r6, r7) := by first | (rw [hji93] at H; exact H) | (simp only [hji93] at H ⊢; exact H)
      (try rw [hji93] at A6)
      (try rw [hji93] at A9)
      (try rw [hji93] at A92)
      (try (have hji93h : ji93 ≤ 100000 := by (rw [← hji93]; unfold mn; (repeat' split) <;> omega)))
      (try (have hji93g : ji93 ≤ 64 := by omega))
      have hji93_ : (if 100000 < t299 then 100000 else t299) = ji93 := hji93
      replace H := Option.bind_eq_some_iff.mp H
      obtain ⟨⟨t358, t359, t360, t361, t362, t363⟩, A940, H⟩ := H
      replace H : (some (t358, t358, t359, t360, t361, t300, t363)) = some (r1, r2, r3, r4, r5, r6, r7) := H
      have A94 := Aside0.mk A940
      clear A940
      simp only [Option.some.injEq, Prod.mk.injEq] at H
      obtain ⟨rfl, rfl, rfl, rfl, rfl, rfl, rfl⟩ := H
      go_enter Try.func28, Try.ntmps28
      go_wp2
      repeat ((first | refine wp_scope_fwd 2 ?_ | refine Exit.fwd_goto rfl ?_ | (refine wp_label ?_; dsimp only [Exit.then]) | refine wp_label ?_ | (go_step3; refine Exit.fwd_goto rfl ?_) | (go_step3; (try simp only [Exit.then, Exit.inBlock]); refine Exit.fwd_goto rfl ?_)); try go_wp2_with (first | ((with_reducible refine gate_callee (f := 36) rfl ?_); refine goesL_ (some 15) rfl rfl Try.func36 (by kernel_rfl) rfl #[.int .i64 a3, .int .i64 0, .int .i64 1000000] rfl (by (try simp only [List.map_toArray, List.map_cons, List.map_nil]); first | done | rfl | (simp only [List.length_drop, List.length_take]; rfl)) ?_; (with_reducible refine (sat_Clamp.calls a3 0 1000000 t299 _ A6.out).mono ?_); rintro e w' ⟨rfl, ⟨nd, rfl⟩⟩; refine ⟨_, rfl, ?_⟩; (generalize hq_ : World.drewN w _ = w95; have n0_ : Aside0 (IsS75 w0 w95 g s0_0 s0_1 s0_2 s0_3 s0_4 s0_5) := ⟨by rw [← hq_]; exact (by repeat (first | (with_reducible first | exact HI0.out | apply IsS75.alloc | apply IsS75.drewN | apply IsS75.drew | apply IsS75.set_0 | apply IsS75.set_1 | apply IsS75.set_2 | apply IsS75.set_3 | apply IsS75.set_4 | apply IsS75.set_5) | exact HI0.out))⟩; have n1_ : Aside0 (KeepBut w w95 g none) := ⟨by rw [← hq_]; exact (by repeat (first | (with_reducible first | exact HK.out | apply KeepBut.set_ | apply keep_drewN | apply keep_drew | apply keep_alloc) | exact HK.out))⟩; have n2_ : Aside0 (Below w0.heap.size w0 w95) := ⟨by rw [← hq_]; exact (by repeat (first | (with_reducible first | exact HB.out | apply below_alloc | apply pw_below_drewN | apply below_drew1 | refine below_set ?_ (IsS75.ge HI0.out)) | exact HB.out))⟩; clear HI0 HK HB hq_; have HI0 := n0_; have HK := n1_; have HB := n2_; clear n0_ n1_ n2_)) | ((with_reducible refine gate_callee (f := 44) rfl ?_); refine goesL_ (some 21) rfl rfl Try.func44 (by kernel_rfl) rfl #[.int .i64 (4 * (ji8)), .int .i64 a1] rfl (by (try simp only [List.map_toArray, List.map_cons, List.map_nil]); first | done | (simp only [hji8]; rfl) | rfl | (simp only [List.length_drop, List.length_take]; rfl)) ?_; (with_reducible refine (sat_Mul.calls (4 * (ji8)) a1 t300 _ A9.out).mono ?_); rintro e w96 ⟨rfl, hb⟩; refine ⟨_, rfl, ?_⟩; have n0_ := Aside0.mk (IsS75.below (by repeat (first | (with_reducible first | exact HI0.out | apply IsS75.alloc | apply IsS75.drewN | apply IsS75.drew | apply IsS75.set_0 | apply IsS75.set_1 | apply IsS75.set_2 | apply IsS75.set_3 | apply IsS75.set_4 | apply IsS75.set_5) | exact HI0.out)) hb); have n1_ := Aside0.mk (KeepBut.trans (by repeat (first | (with_reducible first | exact HK.out | apply KeepBut.set_ | apply keep_drewN | apply keep_drew | apply keep_alloc) | exact HK.out)) (KeepBut.of_below hb g none) (.inl rfl)); have n2_ := Aside0.mk (below_step (by repeat (first | (with_reducible first | exact HB.out | apply below_alloc | apply pw_below_drewN | apply below_drew1 | refine below_set ?_ (IsS75.ge HI0.out)) | exact HB.out)) hb); clear HI0; clear HK; clear HB; have HI0 := n0_; have HK := n1_; have HB := n2_; clear n0_ n1_ n2_; (try clear hb); (try clear hb2); (try clear hk); (try clear hi); obtain ⟨HGz97, hgz97⟩ := HI0.out; have hcz97_0 := cellS75_0 HGz97; have hcz97_1 := cellS75_1 HGz97; have hcz97_2 := cellS75_2 HGz97; have hcz97_3 := cellS75_3 HGz97; have hcz97_4 := cellS75_4 HGz97; have hcz97_5 := cellS75_5 HGz97; have hfz97_0 := blk_frozen HGz97 0; have hfz97_1 := blk_frozen HGz97 1; have hfz97_2 := blk_frozen HGz97 2; have hfz97_3 := blk_frozen HGz97 3; have hfz97_4 := blk_frozen HGz97 4; have hfz97_5 := blk_frozen HGz97 5; clear HGz97 hgz97) | ((with_reducible refine gate_callee (f := 46) rfl ?_); refine goesL_ (some 104) rfl rfl Try.func46 (by kernel_rfl) rfl #[.int .i64 t300] rfl (by (try simp only [List.map_toArray, List.map_cons, List.map_nil]); first | done | rfl | (simp only [List.length_drop, List.length_take]; rfl)) ?_; (with_reducible refine (sat_Abs.calls t300 t357 _ A92.out).mono ?_); rintro e w98 ⟨rfl, hb⟩; refine ⟨_, rfl, ?_⟩; have n0_ := Aside0.mk (IsS75.below (show IsS75 w0 ((((w96.setCell ⟨g, 2, none⟩ (.int .i64 0)).setCell ⟨g, 3, none⟩ (.int .i64 0)).setCell ⟨g, 0, none⟩ (.int .i64 0)).setCell ⟨g, 0, none⟩ (.int .i64 2)) g 2 s0_1 0 0 s0_4 s0_5 from by repeat (first | (with_reducible first | exact HI0.out | apply IsS75.alloc | apply IsS75.drewN | apply IsS75.drew | apply IsS75.set_0 | apply IsS75.set_1 | apply IsS75.set_2 | apply IsS75.set_3 | apply IsS75.set_4 | apply IsS75.set_5) | exact HI0.out)) hb); have n1_ := Aside0.mk (KeepBut.trans (by repeat (first | (with_reducible first | exact HK.out | apply KeepBut.set_ | apply keep_drewN | apply keep_drew | apply keep_alloc) | exact HK.out)) (KeepBut.of_below hb g none) (.inl rfl)); have n2_ := Aside0.mk (below_step (by repeat (first | (with_reducible first | exact HB.out | apply below_alloc | apply pw_below_drewN | apply below_drew1 | refine below_set ?_ (IsS75.ge HI0.out)) | exact HB.out)) hb); clear HI0; clear HK; clear HB; have HI0 := n0_; have HK := n1_; have HB := n2_; clear n0_ n1_ n2_; (try clear hb); (try clear hb2); (try clear hk); (try clear hi)) | ((with_reducible refine gate_callee (f := 45) rfl ?_); refine goesL_ (some 107) rfl rfl Try.func45 (by kernel_rfl) rfl #[.pointer (some ⟨g, 0, none⟩), .int .i64 t357, .int .i64 ji93] rfl (by (try simp only [List.map_toArray, List.map_cons, List.map_nil]); first | done | (simp only [hji93]; rfl) | rfl | (simp only [List.length_drop, List.length_take]; rfl)) ?_; (with_reducible refine (detect_Detector_moves.calls k g 2 s0_1 0 0 s0_4 s0_5 t357 ji93 t358 t359 t360 t361 t362 t363 w0 _ ?side1 ?side2 A94.out).mono ?_); (case side1 => repeat (first | (with_reducible first | exact HI0.out | apply IsS75.alloc | apply IsS75.drewN | apply IsS75.drew | apply IsS75.set_0 | apply IsS75.set_1 | apply IsS75.set_2 | apply IsS75.set_3 | apply IsS75.set_4 | apply IsS75.set_5) | exact HI0.out)); (case side2 => repeat (first | (with_reducible first | exact HB.out | apply below_alloc | apply pw_below_drewN | apply below_drew1 | refine below_set ?_ (IsS75.ge HI0.out)) | exact HB.out)); rintro e w99 ⟨rfl, hi, hb, hk⟩; refine ⟨_, rfl, ?_⟩; have n0_ := Aside0.mk (KeepBut.trans (by repeat (first | (with_reducible first | exact HK.out | apply KeepBut.set_ | apply keep_drewN | apply keep_drew | apply keep_alloc) | exact HK.out)) hk (.inl rfl)); have n1_ := Aside0.mk (hb); have n2_ := Aside0.mk (hi); clear HK; clear HB; clear HI0; have HK := n0_; have HB := n1_; have HI0 := n2_; clear n0_ n1_ n2_; (try clear hb); (try clear hb2); (try clear hk); (try clear hi); obtain ⟨HGz100, hgz100⟩ := HI0.out; have hcz100_0 := cellS75_0 HGz100; have hcz100_1 := cellS75_1 HGz100; have hcz100_2 := cellS75_2 HGz100; have hcz100_3 := cellS75_3 HGz100; have hcz100_4 := cellS75_4 HGz100; have hcz100_5 := cellS75_5 HGz100; have hfz100_0 := blk_frozen HGz100 0; have hfz100_1 := blk_frozen HGz100 1; have hfz100_2 := blk_frozen HGz100 2; have hfz100_3 := blk_frozen HGz100 3; have hfz100_4 := blk_frozen HGz100 4; have hfz100_5 := blk_frozen HGz100 5; clear HGz100 hgz100)))
      (try rw [Exit.fwd_ret])
      (try rw [Exit.fwd_normal])
      go_ret
      exact ⟨by first | rfl | (simp [errW_none, errW_some] <;> rfl) | (simp only [← hji7, ← hji8, ← hji93]; first | rfl | (simp [errW_none, errW_some] <;> rfl)) | (simp [*, errW_none, errW_some] <;> rfl), by repeat (first | (with_reducible first | exact HI0.out | apply IsS75.alloc | apply IsS75.drewN | apply IsS75.drew | apply IsS75.set_0 | apply IsS75.set_1 | apply IsS75.set_2 | apply IsS75.set_3 | apply IsS75.set_4 | apply IsS75.set_5) | exact HI0.out), by repeat (first | (with_reducible first | exact HB.out | apply below_alloc | apply pw_below_drewN | apply below_drew1 | refine below_set ?_ (IsS75.ge HI0.out)) | exact HB.out), by repeat (first | (with_reducible first | exact HK.out | apply KeepBut.set_ | apply keep_drewN | apply keep_drew | apply keep_alloc) | exact HK.out)⟩
    · rw [if_neg c91] at H
      have c91b0 : decide (t300 < (wrap64 (-s0_1))) = false := decide_eq_false c91
      clear c91
      replace H := Option.bind_eq_some_iff.mp H
      obtain ⟨t364, A1010, H⟩ := H
      replace H : ((detect_Detector_moves.f k 0 s0_1 0 0 s0_4 s0_5 t364 (mn t299 100000)).bind fun bt365 => (some (bt365.1, bt365.1, bt365.2.1, bt365.2.2.1, bt365.2.2.2.1, t300, bt365.2.2.2.2.2))) = some (r1, r2, r3, r4, r5, r6, r7) := H
      have A101 := Aside0.mk A1010
      clear A1010
      obtain ⟨ji102, hji102⟩ : ∃ j_ : Int, (mn t299 100000) = j_ := ⟨_, rfl⟩
      replace H : ((detect_Detector_moves.f k 0 s0_1 0 0 s0_4 s0_5 t364 (ji102)).bind fun bt365 => (some (bt365.1, bt365.1, bt365.2.1, bt365.2.2.1, bt365.2.2.2.1, t300, bt365.2.2.2.2.2))) = some (r1, r2, r3, r4, r5, r6, r7) := by first | (rw [hji102] at H; exact H) | (simp only [hji102] at H ⊢; exact H)
      (try rw [hji102] at A6)
      (try rw [hji102] at A9)
      (try rw [hji102] at A101)
      (try (have hji102h : ji102 ≤ 100000 := by (rw [← hji102]; unfold mn; (repeat' split) <;> omega)))
      (try (have hji102g : ji102 ≤ 64 := by omega))
      have hji102_ : (if 100000 < t299 then 100000 else t299) = ji102 := hji102
      replace H := Option.bind_eq_some_iff.mp H
      obtain ⟨⟨t365, t366, t367, t368, t369, t370⟩, A1030, H⟩ := H
      replace H : (some (t365, t365, t366, t367, t368, t300, t370)) = some (r1, r2, r3, r4, r5, r6, r7) := H
      have A103 := Aside0.mk A1030
      clear A1030
      simp only [Option.some.injEq, Prod.mk.injEq] at H
      obtain ⟨rfl, rfl, rfl, rfl, rfl, rfl, rfl⟩ := H
      go_enter Try.func28, Try.ntmps28
      go_wp2
      repeat ((first | refine wp_scope_fwd 2 ?_ | refine Exit.fwd_goto rfl ?_ | (refine wp_label ?_; dsimp only [Exit.then]) | refine wp_label ?_ | (go_step3; refine Exit.fwd_goto rfl ?_) | (go_step3; (try simp only [Exit.then, Exit.inBlock]); refine Exit.fwd_goto rfl ?_)); try go_wp2_with (first | ((with_reducible refine gate_callee (f := 36) rfl ?_); refine goesL_ (some 15) rfl rfl Try.func36 (by kernel_rfl) rfl #[.int .i64 a3, .int .i64 0, .int .i64 1000000] rfl (by (try simp only [List.map_toArray, List.map_cons, List.map_nil]); first | done | rfl | (simp only [List.length_drop, List.length_take]; rfl)) ?_; (with_reducible refine (sat_Clamp.calls a3 0 1000000 t299 _ A6.out).mono ?_); rintro e w' ⟨rfl, ⟨nd, rfl⟩⟩; refine ⟨_, rfl, ?_⟩; (generalize hq_ : World.drewN w _ = w104; have n0_ : Aside0 (IsS75 w0 w104 g s0_0 s0_1 s0_2 s0_3 s0_4 s0_5) := ⟨by rw [← hq_]; exact (by repeat (first | (with_reducible first | exact HI0.out | apply IsS75.alloc | apply IsS75.drewN | apply IsS75.drew | apply IsS75.set_0 | apply IsS75.set_1 | apply IsS75.set_2 | apply IsS75.set_3 | apply IsS75.set_4 | apply IsS75.set_5) | exact HI0.out))⟩; have n1_ : Aside0 (KeepBut w w104 g none) := ⟨by rw [← hq_]; exact (by repeat (first | (with_reducible first | exact HK.out | apply KeepBut.set_ | apply keep_drewN | apply keep_drew | apply keep_alloc) | exact HK.out))⟩; have n2_ : Aside0 (Below w0.heap.size w0 w104) := ⟨by rw [← hq_]; exact (by repeat (first | (with_reducible first | exact HB.out | apply below_alloc | apply pw_below_drewN | apply below_drew1 | refine below_set ?_ (IsS75.ge HI0.out)) | exact HB.out))⟩; clear HI0 HK HB hq_; have HI0 := n0_; have HK := n1_; have HB := n2_; clear n0_ n1_ n2_)) | ((with_reducible refine gate_callee (f := 44) rfl ?_); refine goesL_ (some 21) rfl rfl Try.func44 (by kernel_rfl) rfl #[.int .i64 (4 * (ji8)), .int .i64 a1] rfl (by (try simp only [List.map_toArray, List.map_cons, List.map_nil]); first | done | (simp only [hji8]; rfl) | rfl | (simp only [List.length_drop, List.length_take]; rfl)) ?_; (with_reducible refine (sat_Mul.calls (4 * (ji8)) a1 t300 _ A9.out).mono ?_); rintro e w105 ⟨rfl, hb⟩; refine ⟨_, rfl, ?_⟩; have n0_ := Aside0.mk (IsS75.below (by repeat (first | (with_reducible first | exact HI0.out | apply IsS75.alloc | apply IsS75.drewN | apply IsS75.drew | apply IsS75.set_0 | apply IsS75.set_1 | apply IsS75.set_2 | apply IsS75.set_3 | apply IsS75.set_4 | apply IsS75.set_5) | exact HI0.out)) hb); have n1_ := Aside0.mk (KeepBut.trans (by repeat (first | (with_reducible first | exact HK.out | apply KeepBut.set_ | apply keep_drewN | apply keep_drew | apply keep_alloc) | exact HK.out)) (KeepBut.of_below hb g none) (.inl rfl)); have n2_ := Aside0.mk (below_step (by repeat (first | (with_reducible first | exact HB.out | apply below_alloc | apply pw_below_drewN | apply below_drew1 | refine below_set ?_ (IsS75.ge HI0.out)) | exact HB.out)) hb); clear HI0; clear HK; clear HB; have HI0 := n0_; have HK := n1_; have HB := n2_; clear n0_ n1_ n2_; (try clear hb); (try clear hb2); (try clear hk); (try clear hi); obtain ⟨HGz106, hgz106⟩ := HI0.out; have hcz106_0 := cellS75_0 HGz106; have hcz106_1 := cellS75_1 HGz106; have hcz106_2 := cellS75_2 HGz106; have hcz106_3 := cellS75_3 HGz106; have hcz106_4 := cellS75_4 HGz106; have hcz106_5 := cellS75_5 HGz106; have hfz106_0 := blk_frozen HGz106 0; have hfz106_1 := blk_frozen HGz106 1; have hfz106_2 := blk_frozen HGz106 2; have hfz106_3 := blk_frozen HGz106 3; have hfz106_4 := blk_frozen HGz106 4; have hfz106_5 := blk_frozen HGz106 5; clear HGz106 hgz106) | ((with_reducible refine gate_callee (f := 46) rfl ?_); refine goesL_ (some 104) rfl rfl Try.func46 (by kernel_rfl) rfl #[.int .i64 t300] rfl (by (try simp only [List.map_toArray, List.map_cons, List.map_nil]); first | done | rfl | (simp only [List.length_drop, List.length_take]; rfl)) ?_; (with_reducible refine (sat_Abs.calls t300 t364 _ A101.out).mono ?_); rintro e w107 ⟨rfl, hb⟩; refine ⟨_, rfl, ?_⟩; have n0_ := Aside0.mk (IsS75.below (show IsS75 w0 (((w105.setCell ⟨g, 2, none⟩ (.int .i64 0)).setCell ⟨g, 3, none⟩ (.int .i64 0)).setCell ⟨g, 0, none⟩ (.int .i64 0)) g 0 s0_1 0 0 s0_4 s0_5 from by repeat (first | (with_reducible first | exact HI0.out | apply IsS75.alloc | apply IsS75.drewN | apply IsS75.drew | apply IsS75.set_0 | apply IsS75.set_1 | apply IsS75.set_2 | apply IsS75.set_3 | apply IsS75.set_4 | apply IsS75.set_5) | exact HI0.out)) hb); have n1_ := Aside0.mk (KeepBut.trans (by repeat (first | (with_reducible first | exact HK.out | apply KeepBut.set_ | apply keep_drewN | apply keep_drew | apply keep_alloc) | exact HK.out)) (KeepBut.of_below hb g none) (.inl rfl)); have n2_ := Aside0.mk (below_step (by repeat (first | (with_reducible first | exact HB.out | apply below_alloc | apply pw_below_drewN | apply below_drew1 | refine below_set ?_ (IsS75.ge HI0.out)) | exact HB.out)) hb); clear HI0; clear HK; clear HB; have HI0 := n0_; have HK := n1_; have HB := n2_; clear n0_ n1_ n2_; (try clear hb); (try clear hb2); (try clear hk); (try clear hi)) | ((with_reducible refine gate_callee (f := 45) rfl ?_); refine goesL_ (some 107) rfl rfl Try.func45 (by kernel_rfl) rfl #[.pointer (some ⟨g, 0, none⟩), .int .i64 t364, .int .i64 ji102] rfl (by (try simp only [List.map_toArray, List.map_cons, List.map_nil]); first | done | (simp only [hji102]; rfl) | rfl | (simp only [List.length_drop, List.length_take]; rfl)) ?_; (with_reducible refine (detect_Detector_moves.calls k g 0 s0_1 0 0 s0_4 s0_5 t364 ji102 t365 t366 t367 t368 t369 t370 w0 _ ?side1 ?side2 A103.out).mono ?_); (case side1 => repeat (first | (with_reducible first | exact HI0.out | apply IsS75.alloc | apply IsS75.drewN | apply IsS75.drew | apply IsS75.set_0 | apply IsS75.set_1 | apply IsS75.set_2 | apply IsS75.set_3 | apply IsS75.set_4 | apply IsS75.set_5) | exact HI0.out)); (case side2 => repeat (first | (with_reducible first | exact HB.out | apply below_alloc | apply pw_below_drewN | apply below_drew1 | refine below_set ?_ (IsS75.ge HI0.out)) | exact HB.out)); rintro e w108 ⟨rfl, hi, hb, hk⟩; refine ⟨_, rfl, ?_⟩; have n0_ := Aside0.mk (KeepBut.trans (by repeat (first | (with_reducible first | exact HK.out | apply KeepBut.set_ | apply keep_drewN | apply keep_drew | apply keep_alloc) | exact HK.out)) hk (.inl rfl)); have n1_ := Aside0.mk (hb); have n2_ := Aside0.mk (hi); clear HK; clear HB; clear HI0; have HK := n0_; have HB := n1_; have HI0 := n2_; clear n0_ n1_ n2_; (try clear hb); (try clear hb2); (try clear hk); (try clear hi); obtain ⟨HGz109, hgz109⟩ := HI0.out; have hcz109_0 := cellS75_0 HGz109; have hcz109_1 := cellS75_1 HGz109; have hcz109_2 := cellS75_2 HGz109; have hcz109_3 := cellS75_3 HGz109; have hcz109_4 := cellS75_4 HGz109; have hcz109_5 := cellS75_5 HGz109; have hfz109_0 := blk_frozen HGz109 0; have hfz109_1 := blk_frozen HGz109 1; have hfz109_2 := blk_frozen HGz109 2; have hfz109_3 := blk_frozen HGz109 3; have hfz109_4 := blk_frozen HGz109 4; have hfz109_5 := blk_frozen HGz109 5; clear HGz109 hgz109)))
      (try rw [Exit.fwd_ret])
      (try rw [Exit.fwd_normal])
      go_ret
      exact ⟨by first | rfl | (simp [errW_none, errW_some] <;> rfl) | (simp only [← hji7, ← hji8, ← hji102]; first | rfl | (simp [errW_none, errW_some] <;> rfl)) | (simp [*, errW_none, errW_some] <;> rfl), by repeat (first | (with_reducible first | exact HI0.out | apply IsS75.alloc | apply IsS75.drewN | apply IsS75.drew | apply IsS75.set_0 | apply IsS75.set_1 | apply IsS75.set_2 | apply IsS75.set_3 | apply IsS75.set_4 | apply IsS75.set_5) | exact HI0.out), by repeat (first | (with_reducible first | exact HB.out | apply below_alloc | apply pw_below_drewN | apply below_drew1 | refine below_set ?_ (IsS75.ge HI0.out)) | exact HB.out), by repeat (first | (with_reducible first | exact HK.out | apply KeepBut.set_ | apply keep_drewN | apply keep_drew | apply keep_alloc) | exact HK.out)⟩
end Go.Proofs.Ytaelmmbodigheaa.P
end

section
namespace Go.Proofs.Ytaelmmbodigheaa.P
open Go.RowKit Go.Proofs.YtaelmmbodigheaaW.PrintWords Go.Proofs.YtaelmmbodigheaaW.PrintLast Go.Proofs.YtaelmmbodigheaaW.PrintMore
attribute [local go_sem] max2_int min2_int max_two min_two max_three min_three max_four min_four   -- for this text's walks alone
set_option linter.unusedVariables false
set_option linter.unusedSimpArgs false
def detect_Detector_Usage.f (s0_0 : Int) (s0_1 : Int) (s0_2 : Int) (s0_3 : Int) (s0_4 : Int) (s0_5 : Int) : Option (Int × Int × Int × Int × Int × Int × Int) := some (s0_0, s0_0, s0_1, s0_2, s0_3, s0_4, s0_5)
set_option maxHeartbeats 8000000 in
set_option maxRecDepth 100000 in
theorem detect_Detector_Usage.calls (g : Nat) (s0_0 : Int) (s0_1 : Int) (s0_2 : Int) (s0_3 : Int) (s0_4 : Int) (s0_5 : Int) (r1 : Int) (r2 : Int) (r3 : Int) (r4 : Int) (r5 : Int) (r6 : Int) (r7 : Int) (w0 w : World) (hI : IsS75 w0 w g s0_0 s0_1 s0_2 s0_3 s0_4 s0_5) (hB : Below w0.heap.size w0 w) (h : detect_Detector_Usage.f s0_0 s0_1 s0_2 s0_3 s0_4 s0_5 = some (r1, r2, r3, r4, r5, r6, r7)) :
    Calls Try.prog 30 #[.pointer (some ⟨g, 0, none⟩)] w fun e w' => e = .returned (.int .i64 r1) ∧ IsS75 w0 w' g r2 r3 r4 r5 r6 r7 ∧ Below w0.heap.size w0 w' ∧ KeepBut w w' g none := by
  have hpn46_eql : ∀ (a_ : Addr) (W_ : World), (Go.binOp .eql 46 (.pointer (some a_)) (.pointer none)).run Try.prog W_ = .ok (.bool false) W_ := fun _ _ => by kernel_rfl
  have hnn46_eql : ∀ (W_ : World), (Go.binOp .eql 46 (.pointer none) (.pointer none)).run Try.prog W_ = .ok (.bool true) W_ := fun _ => by kernel_rfl
  have HI0 := Aside0.mk hI
  have HK := Aside0.mk (KeepBut.refl w g none)
  have HL := Aside0.mk hB.size
  clear hI
  have HW0 := Aside0.mk hB.size
  have HB := Aside0.mk hB
  clear hB
  have H : (some (s0_0, s0_0, s0_1, s0_2, s0_3, s0_4, s0_5)) = some (r1, r2, r3, r4, r5, r6, r7) := h
  clear h
  simp only [Option.some.injEq, Prod.mk.injEq] at H
  obtain ⟨rfl, rfl, rfl, rfl, rfl, rfl, rfl⟩ := H
  obtain ⟨HGz2, hgz2⟩ := HI0.out
  have hcz2_0 := cellS75_0 HGz2
  have hcz2_1 := cellS75_1 HGz2
  have hcz2_2 := cellS75_2 HGz2
  have hcz2_3 := cellS75_3 HGz2
  have hcz2_4 := cellS75_4 HGz2
  have hcz2_5 := cellS75_5 HGz2
  have hfz2_0 := blk_frozen HGz2 0
  have hfz2_1 := blk_frozen HGz2 1
  have hfz2_2 := blk_frozen HGz2 2
  have hfz2_3 := blk_frozen HGz2 3
  have hfz2_4 := blk_frozen HGz2 4
  have hfz2_5 := blk_frozen HGz2 5
  clear HGz2 hgz2
  go_enter Try.func30, Try.ntmps30
  go_wp2
  go_ret
  exact ⟨by first | rfl | (simp [errW_none, errW_some] <;> rfl) | (simp [*, errW_none, errW_some] <;> rfl), by repeat (first | (with_reducible first | exact HI0.out | apply IsS75.alloc | apply IsS75.drewN | apply IsS75.drew | apply IsS75.set_0 | apply IsS75.set_1 | apply IsS75.set_2 | apply IsS75.set_3 | apply IsS75.set_4 | apply IsS75.set_5) | exact HI0.out), by repeat (first | (with_reducible first | exact HB.out | apply below_alloc | apply pw_below_drewN | apply below_drew1 | refine below_set ?_ (IsS75.ge HI0.out)) | exact HB.out), by repeat (first | (with_reducible first | exact HK.out | apply KeepBut.set_ | apply keep_drewN | apply keep_drew | apply keep_alloc) | exact HK.out)⟩
def detect_Detector_Threshold.f (s0_0 : Int) (s0_1 : Int) (s0_2 : Int) (s0_3 : Int) (s0_4 : Int) (s0_5 : Int) : Option (Int × Int × Int × Int × Int × Int × Int) := some (s0_1, s0_0, s0_1, s0_2, s0_3, s0_4, s0_5)
set_option maxHeartbeats 8000000 in
set_option maxRecDepth 100000 in
theorem detect_Detector_Threshold.calls (g : Nat) (s0_0 : Int) (s0_1 : Int) (s0_2 : Int) (s0_3 : Int) (s0_4 : Int) (s0_5 : Int) (r1 : Int) (r2 : Int) (r3 : Int) (r4 : Int) (r5 : Int) (r6 : Int) (r7 : Int) (w0 w : World) (hI : IsS75 w0 w g s0_0 s0_1 s0_2 s0_3 s0_4 s0_5) (hB : Below w0.heap.size w0 w) (h : detect_Detector_Threshold.f s0_0 s0_1 s0_2 s0_3 s0_4 s0_5 = some (r1, r2, r3, r4, r5, r6, r7)) :
    Calls Try.prog 32 #[.pointer (some ⟨g, 0, none⟩)] w fun e w' => e = .returned (.int .i64 r1) ∧ IsS75 w0 w' g r2 r3 r4 r5 r6 r7 ∧ Below w0.heap.size w0 w' ∧ KeepBut w w' g none := by
  have hpn46_eql : ∀ (a_ : Addr) (W_ : World), (Go.binOp .eql 46 (.pointer (some a_)) (.pointer none)).run Try.prog W_ = .ok (.bool false) W_ := fun _ _ => by kernel_rfl
  have hnn46_eql : ∀ (W_ : World), (Go.binOp .eql 46 (.pointer none) (.pointer none)).run Try.prog W_ = .ok (.bool true) W_ := fun _ => by kernel_rfl
  have HI0 := Aside0.mk hI
  have HK := Aside0.mk (KeepBut.refl w g none)
  have HL := Aside0.mk hB.size
  clear hI
  have HW0 := Aside0.mk hB.size
  have HB := Aside0.mk hB
  clear hB
  have H : (some (s0_1, s0_0, s0_1, s0_2, s0_3, s0_4, s0_5)) = some (r1, r2, r3, r4, r5, r6, r7) := h
  clear h
  simp only [Option.some.injEq, Prod.mk.injEq] at H
  obtain ⟨rfl, rfl, rfl, rfl, rfl, rfl, rfl⟩ := H
  obtain ⟨HGz2, hgz2⟩ := HI0.out
  have hcz2_0 := cellS75_0 HGz2
  have hcz2_1 := cellS75_1 HGz2
  have hcz2_2 := cellS75_2 HGz2
  have hcz2_3 := cellS75_3 HGz2
  have hcz2_4 := cellS75_4 HGz2
  have hcz2_5 := cellS75_5 HGz2
  have hfz2_0 := blk_frozen HGz2 0
  have hfz2_1 := blk_frozen HGz2 1
  have hfz2_2 := blk_frozen HGz2 2
  have hfz2_3 := blk_frozen HGz2 3
  have hfz2_4 := blk_frozen HGz2 4
  have hfz2_5 := blk_frozen HGz2 5
  clear HGz2 hgz2
  go_enter Try.func32, Try.ntmps32
  go_wp2
  go_ret
  exact ⟨by first | rfl | (simp [errW_none, errW_some] <;> rfl) | (simp [*, errW_none, errW_some] <;> rfl), by repeat (first | (with_reducible first | exact HI0.out | apply IsS75.alloc | apply IsS75.drewN | apply IsS75.drew | apply IsS75.set_0 | apply IsS75.set_1 | apply IsS75.set_2 | apply IsS75.set_3 | apply IsS75.set_4 | apply IsS75.set_5) | exact HI0.out), by repeat (first | (with_reducible first | exact HB.out | apply below_alloc | apply pw_below_drewN | apply below_drew1 | refine below_set ?_ (IsS75.ge HI0.out)) | exact HB.out), by repeat (first | (with_reducible first | exact HK.out | apply KeepBut.set_ | apply keep_drewN | apply keep_drew | apply keep_alloc) | exact HK.out)⟩
def flywheellaw18_wakes.j0 : Nat → Bool → Int → Int → Int → Int → Int → Int → Option (Bool)
  | 0, _, _, _, _, _, _, _ => none
  | k + 1, x14, x389000, x389001, x389002, x389003, x389004, x389005 => if x14 = true then (some false) else ((fixed_Of.f 1).bind fun t403 => ((detect_Detector_Add.f k x389000 x389001 x389002 x389003 x389004 x389005 t403 60 10000 0).bind fun bt404 => ((fixed_Of.f 1).bind fun t411 => ((detect_Detector_Add.f k bt404.2.1 bt404.2.2.1 bt404.2.2.2.1 bt404.2.2.2.2.1 bt404.2.2.2.2.2.1 bt404.2.2.2.2.2.2 t411 60 10000 10000).bind fun bt412 => (if bt412.1 = 1 then ((fixed_Of.f (-1)).bind fun t419 => ((detect_Detector_Add.f k bt412.2.1 bt412.2.2.1 bt412.2.2.2.1 bt412.2.2.2.2.1 bt412.2.2.2.2.2.1 bt412.2.2.2.2.2.2 t419 60 10000 20000).bind fun bt420 => (some (bt420.1 == 2)))) else (some false))))))
def flywheellaw18_wakes.f (k : Nat)  : Option (Bool) := (detect_New.f).bind fun bt382 => ((detect_Detector_Threshold.f bt382.1 bt382.2.1 bt382.2.2.1 bt382.2.2.2.1 bt382.2.2.2.2.1 bt382.2.2.2.2.2).bind fun bt389 => (if bt389.1 = 53687091200 then ((detect_Detector_Usage.f bt389.2.1 bt389.2.2.1 bt389.2.2.2.1 bt389.2.2.2.2.1 bt389.2.2.2.2.2.1 bt389.2.2.2.2.2.2).bind fun bt396 => (flywheellaw18_wakes.j0 k (bt396.1 != 0) bt396.2.1 bt396.2.2.1 bt396.2.2.2.1 bt396.2.2.2.2.1 bt396.2.2.2.2.2.1 bt396.2.2.2.2.2.2)) else (flywheellaw18_wakes.j0 k true bt389.2.1 bt389.2.2.1 bt389.2.2.2.1 bt389.2.2.2.2.1 bt389.2.2.2.2.2.1 bt389.2.2.2.2.2.2)))
theorem flywheellaw18_wakes.mono_l : ∀ k, (∀ y0 y1 y2 y3 y4 y5 y6, LeO (flywheellaw18_wakes.j0 k y0 y1 y2 y3 y4 y5 y6) (flywheellaw18_wakes.j0 (k + 1) y0 y1 y2 y3 y4 y5 y6))
  | 0 => fun _ _ _ _ _ _ _ r h => by simp [flywheellaw18_wakes.j0] at h
  | k + 1 => by
    have ih0 := flywheellaw18_wakes.mono_l k
    · intro y0 y1 y2 y3 y4 y5 y6
      unfold flywheellaw18_wakes.j0
      repeat' first
      | (with_reducible exact ih0 _ _ _ _ _ _ _)
      | (with_reducible exact detect_Detector_Add.mono _ _ _ _ _ _ _ _ _ _ _)
      | (with_reducible exact LeO.refl _)
      | (with_reducible exact LeO.none _)
      | (with_reducible refine LeO.ite ?_ ?_)
      | (with_reducible refine LeO.bind ?_ (fun _ => ?_))
      | exact ih0 _ _ _ _ _ _ _
      | exact detect_Detector_Add.mono _ _ _ _ _ _ _ _ _ _ _
      | exact LeO.none _
      | refine LeO.ite ?_ ?_
      | refine LeO.bind ?_ (fun _ => ?_)
theorem flywheellaw18_wakes.mono : ∀ k, LeO (flywheellaw18_wakes.f k ) (flywheellaw18_wakes.f (k + 1) ) := by
  intro  k
  have ih0 := flywheellaw18_wakes.mono_l k
  unfold flywheellaw18_wakes.f
  repeat' first
      | (with_reducible exact ih0 _ _ _ _ _ _ _)
      | (with_reducible exact detect_Detector_Add.mono _ _ _ _ _ _ _ _ _ _ _)
      | (with_reducible exact LeO.refl _)
      | (with_reducible exact LeO.none _)
      | (with_reducible refine LeO.ite ?_ ?_)
      | (with_reducible refine LeO.bind ?_ (fun _ => ?_))
      | exact ih0 _ _ _ _ _ _ _
      | exact detect_Detector_Add.mono _ _ _ _ _ _ _ _ _ _ _
      | exact LeO.none _
      | refine LeO.ite ?_ ?_
      | refine LeO.bind ?_ (fun _ => ?_)
set_option maxHeartbeats 8000000 in
set_option maxRecDepth 100000 in
theorem flywheellaw18_wakes.calls (k : Nat)  (r : Bool) (w : World) (h : flywheellaw18_wakes.f k  = some r) :
    Calls Try.prog 34 #[] w fun e w' => e = .returned (.bool r) ∧ Below w.heap.size w w' := by
  have hpn46_eql : ∀ (a_ : Addr) (W_ : World), (Go.binOp .eql 46 (.pointer (some a_)) (.pointer none)).run Try.prog W_ = .ok (.bool false) W_ := fun _ _ => by kernel_rfl
  have hnn46_eql : ∀ (W_ : World), (Go.binOp .eql 46 (.pointer none) (.pointer none)).run Try.prog W_ = .ok (.bool true) W_ := fun _ => by kernel_rfl
  have HB := Aside0.mk (Below.refl w.heap.size w)
  have H : ((detect_New.f).bind fun bt382 => ((detect_Detector_Threshold.f bt382.1 bt382.2.1 bt382.2.2.1 bt382.2.2.2.1 bt382.2.2.2.2.1 bt382.2.2.2.2.2).bind fun bt389 => (if bt389.1 = 53687091200 then ((detect_Detector_Usage.f bt389.2.1 bt389.2.2.1 bt389.2.2.2.1 bt389.2.2.2.2.1 bt389.2.2.2.2.2.1 bt389.2.2.2.2.2.2).bind fun bt396 => (flywheellaw18_wakes.j0 k (bt396.1 != 0) bt396.2.1 bt396.2.2.1 bt396.2.2.2.1 bt396.2.2.2.2.1 bt396.2.2.2.2.2.1 bt396.2.2.2.2.2.2)) else (flywheellaw18_wakes.j0 k true bt389.2.1 bt389.2.2.1 bt389.2.2.2.1 bt389.2.2.2.2.1 bt389.2.2.2.2.2.1 bt389.2.2.2.2.2.2)))) = some r := h
  clear h
  replace H := Option.bind_eq_some_iff.mp H
  obtain ⟨⟨t382, t383, t384, t385, t386, t387⟩, A10, H⟩ := H
  replace H : ((detect_Detector_Threshold.f t382 t383 t384 t385 t386 t387).bind fun bt389 => (if bt389.1 = 53687091200 then ((detect_Detector_Usage.f bt389.2.1 bt389.2.2.1 bt389.2.2.2.1 bt389.2.2.2.2.1 bt389.2.2.2.2.2.1 bt389.2.2.2.2.2.2).bind fun bt396 => (flywheellaw18_wakes.j0 k (bt396.1 != 0) bt396.2.1 bt396.2.2.1 bt396.2.2.2.1 bt396.2.2.2.2.1 bt396.2.2.2.2.2.1 bt396.2.2.2.2.2.2)) else (flywheellaw18_wakes.j0 k true bt389.2.1 bt389.2.2.1 bt389.2.2.2.1 bt389.2.2.2.2.1 bt389.2.2.2.2.2.1 bt389.2.2.2.2.2.2))) = some r := H
  have A1 := Aside0.mk A10
  clear A10
  have HC2 := Aside0.mk H
  clear H
  go_enter Try.func34, Try.ntmps34
  go_upto_region 2 with (first | ((with_reducible refine gate_callee (f := 26) rfl ?_); refine goesL_ (some 2) rfl rfl Try.func26 (by kernel_rfl) rfl #[] rfl (by (try simp only [List.map_toArray, List.map_cons, List.map_nil]); first | done | rfl | (simp only [List.length_drop, List.length_take]; rfl)) ?_; (with_reducible refine (detect_New.calls  t382 t383 t384 t385 t386 t387 _ _ (Below.refl _ _) A1.out).mono ?_); rintro e w3 ⟨g388, rfl, hi, hb, hb2⟩; refine ⟨_, rfl, ?_⟩; have n0_ := Aside0.mk (below_step (by repeat (first | (with_reducible first | exact HB.out | apply below_alloc | apply pw_below_drewN | apply below_drew1) | exact HB.out)) hb2); have n1_ := Aside0.mk ((IsS75.rebase hi (below_size (by repeat (first | (with_reducible first | exact HB.out | apply below_alloc | apply pw_below_drewN | apply below_drew1) | exact HB.out))))); clear HB; have HB := n0_; have HI388 := n1_; clear n0_ n1_; (try clear hb); (try clear hb2); (try clear hk); (try clear hi)))
  (try simp only [Act.put, List.setIfInBounds_toArray, List.set_cons_zero, List.set_cons_succ])
  go_cut [14] (fun v14 wc => ∃ (kq : Nat) (x14_1 : Bool) (x389000_1 : Int) (x389001_1 : Int) (x389002_1 : Int) (x389003_1 : Int) (x389004_1 : Int) (x389005_1 : Int), v14 = .bool x14_1 ∧ Aside0 (flywheellaw18_wakes.j0 kq x14_1 x389000_1 x389001_1 x389002_1 x389003_1 x389004_1 x389005_1 = some r) ∧ Aside0 (kq ≤ k) ∧ Aside0 (IsS75 w wc g388 x389000_1 x389001_1 x389002_1 x389003_1 x389004_1 x389005_1) ∧ Aside0 (Below w.heap.size w wc))
  case first =>
    have H := HC2.out
    clear HC2
    replace H := Option.bind_eq_some_iff.mp H
    obtain ⟨⟨t389, t390, t391, t392, t393, t394, t395⟩, A40, H⟩ := H
    replace H : (if t389 = 53687091200 then ((detect_Detector_Usage.f t390 t391 t392 t393 t394 t395).bind fun bt396 => (flywheellaw18_wakes.j0 k (bt396.1 != 0) bt396.2.1 bt396.2.2.1 bt396.2.2.2.1 bt396.2.2.2.2.1 bt396.2.2.2.2.2.1 bt396.2.2.2.2.2.2)) else (flywheellaw18_wakes.j0 k true t390 t391 t392 t393 t394 t395)) = some r := H
    have A4 := Aside0.mk A40
    clear A40
    by_cases c5 : t389 = 53687091200
    · rw [if_pos c5] at H
      have c5b0 : (t389 == 53687091200) = true := beq_iff_eq.mpr c5
      have c5b1 : (t389 != 53687091200) = false := bne_eq_false_iff_eq.mpr c5
      clear c5
      (first | rw [c5b0] | (simp only [i64_w, i32_w]; rw [c5b0]) | skip)
      replace H := Option.bind_eq_some_iff.mp H
      obtain ⟨⟨t396, t397, t398, t399, t400, t401, t402⟩, A60, H⟩ := H
      replace H : (flywheellaw18_wakes.j0 k (t396 != 0) t397 t398 t399 t400 t401 t402) = some r := H
      have A6 := Aside0.mk A60
      clear A60
      have H' := Aside0.mk H
      clear H
      go_wp2_with (first | (go_at_call 32; (with_reducible refine (detect_Detector_Threshold.calls g388 t382 t383 t384 t385 t386 t387 t389 t390 t391 t392 t393 t394 t395 w _ ?side1 ?side2 A4.out).mono ?_); (case side1 => repeat (first | (with_reducible first | exact HI388.out | apply IsS75.alloc | apply IsS75.drewN | apply IsS75.drew | apply IsS75.set_0 | apply IsS75.set_1 | apply IsS75.set_2 | apply IsS75.set_3 | apply IsS75.set_4 | apply IsS75.set_5) | exact HI388.out)); (case side2 => repeat (first | (with_reducible first | exact HB.out | apply below_alloc | apply pw_below_drewN | apply below_drew1 | refine below_set ?_ (IsS75.ge HI388.out)) | exact HB.out)); rintro e w7 ⟨rfl, hi, hb, hk⟩; have n0_ := Aside0.mk (hb); have n1_ := Aside0.mk (hi); clear HB; clear HI388; have HB := n0_; have HI388 := n1_; clear n0_ n1_; (try clear hb); (try clear hb2); (try clear hk); (try clear hi)) | (go_at_call 30; (with_reducible refine (detect_Detector_Usage.calls g388 t390 t391 t392 t393 t394 t395 t396 t397 t398 t399 t400 t401 t402 w _ ?side1 ?side2 A6.out).mono ?_); (case side1 => repeat (first | (with_reducible first | exact HI388.out | apply IsS75.alloc | apply IsS75.drewN | apply IsS75.drew | apply IsS75.set_0 | apply IsS75.set_1 | apply IsS75.set_2 | apply IsS75.set_3 | apply IsS75.set_4 | apply IsS75.set_5) | exact HI388.out)); (case side2 => repeat (first | (with_reducible first | exact HB.out | apply below_alloc | apply pw_below_drewN | apply below_drew1 | refine below_set ?_ (IsS75.ge HI388.out)) | exact HB.out)); rintro e w8 ⟨rfl, hi, hb, hk⟩; have n0_ := Aside0.mk (hb); have n1_ := Aside0.mk (hi); clear HB; clear HI388; have HB := n0_; have HI388 := n1_; clear n0_ n1_; (try clear hb); (try clear hb2); (try clear hk); (try clear hi)))
      go_meet
      case rel => exact ⟨_, ((t396 != 0)), (t397), (t398), (t399), (t400), (t401), (t402), (by first | rfl | (simp; done) | (simp [*]; done)), H', ⟨by first | omega | exact Nat.le_refl _⟩, ⟨by repeat (first | (with_reducible first | exact HI388.out | apply IsS75.alloc | apply IsS75.drewN | apply IsS75.drew | apply IsS75.set_0 | apply IsS75.set_1 | apply IsS75.set_2 | apply IsS75.set_3 | apply IsS75.set_4 | apply IsS75.set_5) | exact HI388.out)⟩, ⟨by repeat (first | (with_reducible first | exact HB.out | apply below_alloc | apply pw_below_drewN | apply below_drew1 | refine below_set ?_ (IsS75.ge HI388.out)) | exact HB.out)⟩⟩
    · rw [if_neg c5] at H
      have c5b0 : (t389 == 53687091200) = false := beq_eq_false_iff_ne.mpr c5
      have c5b1 : (t389 != 53687091200) = true := bne_iff_ne.mpr c5
      (first | rw [c5b0] | (simp only [i64_w, i32_w]; rw [c5b0]) | skip)
      have H' := Aside0.mk H
      clear H
      go_wp2_with (first | (go_at_call 32; (with_reducible refine (detect_Detector_Threshold.calls g388 t382 t383 t384 t385 t386 t387 t389 t390 t391 t392 t393 t394 t395 w _ ?side1 ?side2 A4.out).mono ?_); (case side1 => repeat (first | (with_reducible first | exact HI388.out | apply IsS75.alloc | apply IsS75.drewN | apply IsS75.drew | apply IsS75.set_0 | apply IsS75.set_1 | apply IsS75.set_2 | apply IsS75.set_3 | apply IsS75.set_4 | apply IsS75.set_5) | exact HI388.out)); (case side2 => repeat (first | (with_reducible first | exact HB.out | apply below_alloc | apply pw_below_drewN | apply below_drew1 | refine below_set ?_ (IsS75.ge HI388.out)) | exact HB.out)); rintro e w9 ⟨rfl, hi, hb, hk⟩; have n0_ := Aside0.mk (hb); have n1_ := Aside0.mk (hi); clear HB; clear HI388; have HB := n0_; have HI388 := n1_; clear n0_ n1_; (try clear hb); (try clear hb2); (try clear hk); (try clear hi)))
      go_meet
      case rel => exact ⟨_, (true), (t390), (t391), (t392), (t393), (t394), (t395), (by first | rfl | (simp; done) | (simp [*]; done)), H', ⟨by first | omega | exact Nat.le_refl _⟩, ⟨by repeat (first | (with_reducible first | exact HI388.out | apply IsS75.alloc | apply IsS75.drewN | apply IsS75.drew | apply IsS75.set_0 | apply IsS75.set_1 | apply IsS75.set_2 | apply IsS75.set_3 | apply IsS75.set_4 | apply IsS75.set_5) | exact HI388.out)⟩, ⟨by repeat (first | (with_reducible first | exact HB.out | apply below_alloc | apply pw_below_drewN | apply below_drew1 | refine below_set ?_ (IsS75.ge HI388.out)) | exact HB.out)⟩⟩
  case rest =>
    clear HC2
    try clear c2
    try clear p2
    try clear c3
    try clear c5
    try clear c5b0
    try clear c5b1
    obtain ⟨kq, x14_1, x389000_1, x389001_1, x389002_1, x389003_1, x389004_1, x389005_1, rfl, HA, HJ1, HI388, HB⟩ := hcut
    cases kq with
    | zero => exact absurd HA.out (by simp [flywheellaw18_wakes.j0])
    | succ kj1 =>
      have H := HA.out
      clear HA
      simp only [flywheellaw18_wakes.j0] at H
      by_cases c10 : x14_1 = true
      · subst c10
        have H1 : (some false) = some r := by rw [if_pos rfl] at H; exact H
        clear H
        have H := H1
        clear H1
        obtain rfl := Option.some.inj H
        go_wp2
        go_ret
        exact ⟨by first | rfl | (simp [errW_none, errW_some] <;> rfl) | (simp [*, errW_none, errW_some] <;> rfl), by repeat (first | (with_reducible first | exact HB.out | apply below_alloc | apply pw_below_drewN | apply below_drew1 | refine below_set ?_ (IsS75.ge HI388.out)) | exact HB.out)⟩
      · replace c10 := Bool.eq_false_iff.mpr c10
        subst c10
        have H1 : ((fixed_Of.f 1).bind fun t403 => ((detect_Detector_Add.f kj1 x389000_1 x389001_1 x389002_1 x389003_1 x389004_1 x389005_1 t403 60 10000 0).bind fun bt404 => ((fixed_Of.f 1).bind fun t411 => ((detect_Detector_Add.f kj1 bt404.2.1 bt404.2.2.1 bt404.2.2.2.1 bt404.2.2.2.2.1 bt404.2.2.2.2.2.1 bt404.2.2.2.2.2.2 t411 60 10000 10000).bind fun bt412 => (if bt412.1 = 1 then ((fixed_Of.f (-1)).bind fun t419 => ((detect_Detector_Add.f kj1 bt412.2.1 bt412.2.2.1 bt412.2.2.2.1 bt412.2.2.2.2.1 bt412.2.2.2.2.2.1 bt412.2.2.2.2.2.2 t419 60 10000 20000).bind fun bt420 => (some (bt420.1 == 2)))) else (some false)))))) = some r := by rw [if_neg (show ¬ (false = true) by decide)] at H; exact H
        clear H
        have H := H1
        clear H1
        replace H := Option.bind_eq_some_iff.mp H
        obtain ⟨t403, A110, H⟩ := H
        replace H : ((detect_Detector_Add.f kj1 x389000_1 x389001_1 x389002_1 x389003_1 x389004_1 x389005_1 t403 60 10000 0).bind fun bt404 => ((fixed_Of.f 1).bind fun t411 => ((detect_Detector_Add.f kj1 bt404.2.1 bt404.2.2.1 bt404.2.2.2.1 bt404.2.2.2.2.1 bt404.2.2.2.2.2.1 bt404.2.2.2.2.2.2 t411 60 10000 10000).bind fun bt412 => (if bt412.1 = 1 then ((fixed_Of.f (-1)).bind fun t419 => ((detect_Detector_Add.f kj1 bt412.2.1 bt412.2.2.1 bt412.2.2.2.1 bt412.2.2.2.2.1 bt412.2.2.2.2.2.1 bt412.2.2.2.2.2.2 t419 60 10000 20000).bind fun bt420 => (some (bt420.1 == 2)))) else (some false))))) = some r := H
        have A11 := Aside0.mk A110
        clear A110
        replace H := Option.bind_eq_some_iff.mp H
        obtain ⟨⟨t404, t405, t406, t407, t408, t409, t410⟩, A120, H⟩ := H
        replace H : ((fixed_Of.f 1).bind fun t411 => ((detect_Detector_Add.f kj1 t405 t406 t407 t408 t409 t410 t411 60 10000 10000).bind fun bt412 => (if bt412.1 = 1 then ((fixed_Of.f (-1)).bind fun t419 => ((detect_Detector_Add.f kj1 bt412.2.1 bt412.2.2.1 bt412.2.2.2.1 bt412.2.2.2.2.1 bt412.2.2.2.2.2.1 bt412.2.2.2.2.2.2 t419 60 10000 20000).bind fun bt420 => (some (bt420.1 == 2)))) else (some false)))) = some r := H
        have A12 := Aside0.mk A120
        clear A120
        replace H := Option.bind_eq_some_iff.mp H
        obtain ⟨t411, A130, H⟩ := H
        replace H : ((detect_Detector_Add.f kj1 t405 t406 t407 t408 t409 t410 t411 60 10000 10000).bind fun bt412 => (if bt412.1 = 1 then ((fixed_Of.f (-1)).bind fun t419 => ((detect_Detector_Add.f kj1 bt412.2.1 bt412.2.2.1 bt412.2.2.2.1 bt412.2.2.2.2.1 bt412.2.2.2.2.2.1 bt412.2.2.2.2.2.2 t419 60 10000 20000).bind fun bt420 => (some (bt420.1 == 2)))) else (some false))) = some r := H
        have A13 := Aside0.mk A130
        clear A130
        replace H := Option.bind_eq_some_iff.mp H
        obtain ⟨⟨t412, t413, t414, t415, t416, t417, t418⟩, A140, H⟩ := H
        replace H : (if t412 = 1 then ((fixed_Of.f (-1)).bind fun t419 => ((detect_Detector_Add.f kj1 t413 t414 t415 t416 t417 t418 t419 60 10000 20000).bind fun bt420 => (some (bt420.1 == 2)))) else (some false)) = some r := H
        have A14 := Aside0.mk A140
        clear A140
        by_cases c15 : t412 = 1
        · rw [if_pos c15] at H
          have c15b0 : (t412 == 1) = true := beq_iff_eq.mpr c15
          have c15b1 : (t412 != 1) = false := bne_eq_false_iff_eq.mpr c15
          clear c15
          replace H := Option.bind_eq_some_iff.mp H
          obtain ⟨t419, A160, H⟩ := H
          replace H : ((detect_Detector_Add.f kj1 t413 t414 t415 t416 t417 t418 t419 60 10000 20000).bind fun bt420 => (some (bt420.1 == 2))) = some r := H
          have A16 := Aside0.mk A160
          clear A160
          replace H := Option.bind_eq_some_iff.mp H
          obtain ⟨⟨t420, t421, t422, t423, t424, t425, t426⟩, A170, H⟩ := H
          replace H : (some (t420 == 2)) = some r := H
          have A17 := Aside0.mk A170
          clear A170
          obtain rfl := Option.some.inj H
          go_wp2_with (first | ((with_reducible refine gate_callee (f := 35) rfl ?_); refine goesL_ (some 16) rfl rfl Try.func35 (by kernel_rfl) rfl #[.int .i64 1] rfl (by (try simp only [List.map_toArray, List.map_cons, List.map_nil]); first | done | rfl | (simp only [List.length_drop, List.length_take]; rfl)) ?_; (with_reducible refine (fixed_Of.calls 1 t403 _ A11.out).mono ?_); rintro e w18 ⟨rfl, hb⟩; refine ⟨_, rfl, ?_⟩; have n0_ := Aside0.mk (IsS75.below (by repeat (first | (with_reducible first | exact HI388.out | apply IsS75.alloc | apply IsS75.drewN | apply IsS75.drew | apply IsS75.set_0 | apply IsS75.set_1 | apply IsS75.set_2 | apply IsS75.set_3 | apply IsS75.set_4 | apply IsS75.set_5) | exact HI388.out)) hb); have n1_ := Aside0.mk (below_step (by repeat (first | (with_reducible first | exact HB.out | apply below_alloc | apply pw_below_drewN | apply below_drew1 | refine below_set ?_ (IsS75.ge HI388.out)) | exact HB.out)) hb); clear HI388; clear HB; have HI388 := n0_; have HB := n1_; clear n0_ n1_; (try clear hb); (try clear hb2); (try clear hk); (try clear hi)) | ((with_reducible refine gate_callee (f := 28) rfl ?_); refine goesL_ (some 17) rfl rfl Try.func28 (by kernel_rfl) rfl #[.pointer (some ⟨g388, 0, none⟩), .int .i64 t403, .int .i64 60, .int .i64 10000, .int .i64 0] rfl (by (try simp only [List.map_toArray, List.map_cons, List.map_nil]); first | done | rfl | (simp only [List.length_drop, List.length_take]; rfl)) ?_; (with_reducible refine (detect_Detector_Add.calls kj1 g388 x389000_1 x389001_1 x389002_1 x389003_1 x389004_1 x389005_1 t403 60 10000 0 t404 t405 t406 t407 t408 t409 t410 w _ ?side1 ?side2 A12.out).mono ?_); (case side1 => repeat (first | (with_reducible first | exact HI388.out | apply IsS75.alloc | apply IsS75.drewN | apply IsS75.drew | apply IsS75.set_0 | apply IsS75.set_1 | apply IsS75.set_2 | apply IsS75.set_3 | apply IsS75.set_4 | apply IsS75.set_5) | exact HI388.out)); (case side2 => repeat (first | (with_reducible first | exact HB.out | apply below_alloc | apply pw_below_drewN | apply below_drew1 | refine below_set ?_ (IsS75.ge HI388.out)) | exact HB.out)); rintro e w19 ⟨rfl, hi, hb, hk⟩; refine ⟨_, rfl, ?_⟩; have n0_ := Aside0.mk (hb); have n1_ := Aside0.mk (hi); clear HB; clear HI388; have HB := n0_; have HI388 := n1_; clear n0_ n1_; (try clear hb); (try clear hb2); (try clear hk); (try clear hi)) | ((with_reducible refine gate_callee (f := 35) rfl ?_); refine goesL_ (some 19) rfl rfl Try.func35 (by kernel_rfl) rfl #[.int .i64 1] rfl (by (try simp only [List.map_toArray, List.map_cons, List.map_nil]); first | done | rfl | (simp only [List.length_drop, List.length_take]; rfl)) ?_; (with_reducible refine (fixed_Of.calls 1 t411 _ A13.out).mono ?_); rintro e w20 ⟨rfl, hb⟩; refine ⟨_, rfl, ?_⟩; have n0_ := Aside0.mk (IsS75.below (by repeat (first | (with_reducible first | exact HI388.out | apply IsS75.alloc | apply IsS75.drewN | apply IsS75.drew | apply IsS75.set_0 | apply IsS75.set_1 | apply IsS75.set_2 | apply IsS75.set_3 | apply IsS75.set_4 | apply IsS75.set_5) | exact HI388.out)) hb); have n1_ := Aside0.mk (below_step (by repeat (first | (with_reducible first | exact HB.out | apply below_alloc | apply pw_below_drewN | apply below_drew1 | refine below_set ?_ (IsS75.ge HI388.out)) | exact HB.out)) hb); clear HI388; clear HB; have HI388 := n0_; have HB := n1_; clear n0_ n1_; (try clear hb); (try clear hb2); (try clear hk); (try clear hi)) | ((with_reducible refine gate_callee (f := 28) rfl ?_); refine goesL_ (some 20) rfl rfl Try.func28 (by kernel_rfl) rfl #[.pointer (some ⟨g388, 0, none⟩), .int .i64 t411, .int .i64 60, .int .i64 10000, .int .i64 10000] rfl (by (try simp only [List.map_toArray, List.map_cons, List.map_nil]); first | done | rfl | (simp only [List.length_drop, List.length_take]; rfl)) ?_; (with_reducible refine (detect_Detector_Add.calls kj1 g388 t405 t406 t407 t408 t409 t410 t411 60 10000 10000 t412 t413 t414 t415 t416 t417 t418 w _ ?side1 ?side2 A14.out).mono ?_); (case side1 => repeat (first | (with_reducible first | exact HI388.out | apply IsS75.alloc | apply IsS75.drewN | apply IsS75.drew | apply IsS75.set_0 | apply IsS75.set_1 | apply IsS75.set_2 | apply IsS75.set_3 | apply IsS75.set_4 | apply IsS75.set_5) | exact HI388.out)); (case side2 => repeat (first | (with_reducible first | exact HB.out | apply below_alloc | apply pw_below_drewN | apply below_drew1 | refine below_set ?_ (IsS75.ge HI388.out)) | exact HB.out)); rintro e w21 ⟨rfl, hi, hb, hk⟩; refine ⟨_, rfl, ?_⟩; have n0_ := Aside0.mk (hb); have n1_ := Aside0.mk (hi); clear HB; clear HI388; have HB := n0_; have HI388 := n1_; clear n0_ n1_; (try clear hb); (try clear hb2); (try clear hk); (try clear hi)) | (go_at_call 35; (with_reducible refine (fixed_Of.calls (-1) t419 _ A16.out).mono ?_); rintro e w22 ⟨rfl, hb⟩; have n0_ := Aside0.mk (IsS75.below (by repeat (first | (with_reducible first | exact HI388.out | apply IsS75.alloc | apply IsS75.drewN | apply IsS75.drew | apply IsS75.set_0 | apply IsS75.set_1 | apply IsS75.set_2 | apply IsS75.set_3 | apply IsS75.set_4 | apply IsS75.set_5) | exact HI388.out)) hb); have n1_ := Aside0.mk (below_step (by repeat (first | (with_reducible first | exact HB.out | apply below_alloc | apply pw_below_drewN | apply below_drew1 | refine below_set ?_ (IsS75.ge HI388.out)) | exact HB.out)) hb); clear HI388; clear HB; have HI388 := n0_; have HB := n1_; clear n0_ n1_; (try clear hb); (try clear hb2); (try clear hk); (try clear hi)) | (go_at_call 28; (with_reducible refine (detect_Detector_Add.calls kj1 g388 t413 t414 t415 t416 t417 t418 t419 60 10000 20000 t420 t421 t422 t423 t424 t425 t426 w _ ?side1 ?side2 A17.out).mono ?_); (case side1 => repeat (first | (with_reducible first | exact HI388.out | apply IsS75.alloc | apply IsS75.drewN | apply IsS75.drew | apply IsS75.set_0 | apply IsS75.set_1 | apply IsS75.set_2 | apply IsS75.set_3 | apply IsS75.set_4 | apply IsS75.set_5) | exact HI388.out)); (case side2 => repeat (first | (with_reducible first | exact HB.out | apply below_alloc | apply pw_below_drewN | apply below_drew1 | refine below_set ?_ (IsS75.ge HI388.out)) | exact HB.out)); rintro e w23 ⟨rfl, hi, hb, hk⟩; have n0_ := Aside0.mk (hb); have n1_ := Aside0.mk (hi); clear HB; clear HI388; have HB := n0_; have HI388 := n1_; clear n0_ n1_; (try clear hb); (try clear hb2); (try clear hk); (try clear hi)))
          go_ret
          exact ⟨by first | rfl | (simp [errW_none, errW_some] <;> rfl) | (simp [*, errW_none, errW_some] <;> rfl), by repeat (first | (with_reducible first | exact HB.out | apply below_alloc | apply pw_below_drewN | apply below_drew1 | refine below_set ?_ (IsS75.ge HI388.out)) | exact HB.out)⟩
        · rw [if_neg c15] at H
          have c15b0 : (t412 == 1) = false := beq_eq_false_iff_ne.mpr c15
          have c15b1 : (t412 != 1) = true := bne_iff_ne.mpr c15
          obtain rfl := Option.some.inj H
          go_wp2_with (first | ((with_reducible refine gate_callee (f := 35) rfl ?_); refine goesL_ (some 16) rfl rfl Try.func35 (by kernel_rfl) rfl #[.int .i64 1] rfl (by (try simp only [List.map_toArray, List.map_cons, List.map_nil]); first | done | rfl | (simp only [List.length_drop, List.length_take]; rfl)) ?_; (with_reducible refine (fixed_Of.calls 1 t403 _ A11.out).mono ?_); rintro e w24 ⟨rfl, hb⟩; refine ⟨_, rfl, ?_⟩; have n0_ := Aside0.mk (IsS75.below (by repeat (first | (with_reducible first | exact HI388.out | apply IsS75.alloc | apply IsS75.drewN | apply IsS75.drew | apply IsS75.set_0 | apply IsS75.set_1 | apply IsS75.set_2 | apply IsS75.set_3 | apply IsS75.set_4 | apply IsS75.set_5) | exact HI388.out)) hb); have n1_ := Aside0.mk (below_step (by repeat (first | (with_reducible first | exact HB.out | apply below_alloc | apply pw_below_drewN | apply below_drew1 | refine below_set ?_ (IsS75.ge HI388.out)) | exact HB.out)) hb); clear HI388; clear HB; have HI388 := n0_; have HB := n1_; clear n0_ n1_; (try clear hb); (try clear hb2); (try clear hk); (try clear hi)) | ((with_reducible refine gate_callee (f := 28) rfl ?_); refine goesL_ (some 17) rfl rfl Try.func28 (by kernel_rfl) rfl #[.pointer (some ⟨g388, 0, none⟩), .int .i64 t403, .int .i64 60, .int .i64 10000, .int .i64 0] rfl (by (try simp only [List.map_toArray, List.map_cons, List.map_nil]); first | done | rfl | (simp only [List.length_drop, List.length_take]; rfl)) ?_; (with_reducible refine (detect_Detector_Add.calls kj1 g388 x389000_1 x389001_1 x389002_1 x389003_1 x389004_1 x389005_1 t403 60 10000 0 t404 t405 t406 t407 t408 t409 t410 w _ ?side1 ?side2 A12.out).mono ?_); (case side1 => repeat (first | (with_reducible first | exact HI388.out | apply IsS75.alloc | apply IsS75.drewN | apply IsS75.drew | apply IsS75.set_0 | apply IsS75.set_1 | apply IsS75.set_2 | apply IsS75.set_3 | apply IsS75.set_4 | apply IsS75.set_5) | exact HI388.out)); (case side2 => repeat (first | (with_reducible first | exact HB.out | apply below_alloc | apply pw_below_drewN | apply below_drew1 | refine below_set ?_ (IsS75.ge HI388.out)) | exact HB.out)); rintro e w25 ⟨rfl, hi, hb, hk⟩; refine ⟨_, rfl, ?_⟩; have n0_ := Aside0.mk (hb); have n1_ := Aside0.mk (hi); clear HB; clear HI388; have HB := n0_; have HI388 := n1_; clear n0_ n1_; (try clear hb); (try clear hb2); (try clear hk); (try clear hi)) | ((with_reducible refine gate_callee (f := 35) rfl ?_); refine goesL_ (some 19) rfl rfl Try.func35 (by kernel_rfl) rfl #[.int .i64 1] rfl (by (try simp only [List.map_toArray, List.map_cons, List.map_nil]); first | done | rfl | (simp only [List.length_drop, List.length_take]; rfl)) ?_; (with_reducible refine (fixed_Of.calls 1 t411 _ A13.out).mono ?_); rintro e w26 ⟨rfl, hb⟩; refine ⟨_, rfl, ?_⟩; have n0_ := Aside0.mk (IsS75.below (by repeat (first | (with_reducible first | exact HI388.out | apply IsS75.alloc | apply IsS75.drewN | apply IsS75.drew | apply IsS75.set_0 | apply IsS75.set_1 | apply IsS75.set_2 | apply IsS75.set_3 | apply IsS75.set_4 | apply IsS75.set_5) | exact HI388.out)) hb); have n1_ := Aside0.mk (below_step (by repeat (first | (with_reducible first | exact HB.out | apply below_alloc | apply pw_below_drewN | apply below_drew1 | refine below_set ?_ (IsS75.ge HI388.out)) | exact HB.out)) hb); clear HI388; clear HB; have HI388 := n0_; have HB := n1_; clear n0_ n1_; (try clear hb); (try clear hb2); (try clear hk); (try clear hi)) | ((with_reducible refine gate_callee (f := 28) rfl ?_); refine goesL_ (some 20) rfl rfl Try.func28 (by kernel_rfl) rfl #[.pointer (some ⟨g388, 0, none⟩), .int .i64 t411, .int .i64 60, .int .i64 10000, .int .i64 10000] rfl (by (try simp only [List.map_toArray, List.map_cons, List.map_nil]); first | done | rfl | (simp only [List.length_drop, List.length_take]; rfl)) ?_; (with_reducible refine (detect_Detector_Add.calls kj1 g388 t405 t406 t407 t408 t409 t410 t411 60 10000 10000 t412 t413 t414 t415 t416 t417 t418 w _ ?side1 ?side2 A14.out).mono ?_); (case side1 => repeat (first | (with_reducible first | exact HI388.out | apply IsS75.alloc | apply IsS75.drewN | apply IsS75.drew | apply IsS75.set_0 | apply IsS75.set_1 | apply IsS75.set_2 | apply IsS75.set_3 | apply IsS75.set_4 | apply IsS75.set_5) | exact HI388.out)); (case side2 => repeat (first | (with_reducible first | exact HB.out | apply below_alloc | apply pw_below_drewN | apply below_drew1 | refine below_set ?_ (IsS75.ge HI388.out)) | exact HB.out)); rintro e w27 ⟨rfl, hi, hb, hk⟩; refine ⟨_, rfl, ?_⟩; have n0_ := Aside0.mk (hb); have n1_ := Aside0.mk (hi); clear HB; clear HI388; have HB := n0_; have HI388 := n1_; clear n0_ n1_; (try clear hb); (try clear hb2); (try clear hk); (try clear hi)))
          go_ret
          exact ⟨by first | rfl | (simp [errW_none, errW_some] <;> rfl) | (simp [*, errW_none, errW_some] <;> rfl), by repeat (first | (with_reducible first | exact HB.out | apply below_alloc | apply pw_below_drewN | apply below_drew1 | refine below_set ?_ (IsS75.ge HI388.out)) | exact HB.out)⟩
end Go.Proofs.Ytaelmmbodigheaa.P
end

section
namespace Go.Proofs.Ytaelmmbodigheaa.P
open Go.RowKit Go.Proofs.YtaelmmbodigheaaW.PrintWords Go.Proofs.YtaelmmbodigheaaW.PrintLast Go.Proofs.YtaelmmbodigheaaW.PrintMore
attribute [local go_sem] max2_int min2_int max_two min_two max_three min_three max_four min_four   -- for this text's walks alone
set_option linter.unusedVariables false
set_option linter.unusedSimpArgs false
mutual
def flywheellaw18_DetectUnder.j1 : Nat → Int → Int → Int → Int → Int → Int → Int → Int → Option (Bool)
  | 0, _, _, _, _, _, _, _, _ => none
  | k + 1, x1, x2, x616000, x616001, x616002, x616003, x616004, x616005 => (fixed_Of.f 601).bind fun t627 => ((detect_Detector_Add.f k x616000 x616001 x616002 x616003 x616004 x616005 (wrap64 (-(wrap64 (t627 + (wrap64 (x1)))))) (wrap64 (1 + (wrap64 (Int.tmod (IntKind.u64.wrap (x2)) 100)))) 1000 0).bind fun bt628 => (if bt628.1 = 2 then ((detect_Detector_Add.f k bt628.2.1 bt628.2.2.1 bt628.2.2.2.1 bt628.2.2.2.2.1 bt628.2.2.2.2.2.1 bt628.2.2.2.2.2.2 0 1 1000 0).bind fun bt635 => (if bt635.1 = 0 then ((detect_Detector_Add.f k bt635.2.1 bt635.2.2.1 bt635.2.2.2.1 bt635.2.2.2.2.1 bt635.2.2.2.2.2.1 bt635.2.2.2.2.2.2 (wrap64 (t627 + (wrap64 (x1)))) 1 1000 0).bind fun bt642 => (if bt642.1 = 2 then (some false) else ((flywheellaw18_wakes.f k).bind fun t649 => (some t649)))) else (some false))) else (some false)))
def flywheellaw18_DetectUnder.l0 : Nat → List (S51) → Int → Int → Int → Int → Int → Int → Int → Int → Int → Option (Bool)
  | 0, _, _, _, _, _, _, _, _, _, _ => none
  | k + 1, x0, x1, x2, x8, x616000, x616001, x616002, x616003, x616004, x616005 => if x8 < (x0.length : Int) then (if x8 < 200 then (if 0 ≤ x8 then ((detect_Detector_Add.f k x616000 x616001 x616002 x616003 x616004 x616005 ((rd_T51 x0 x8).f0) ((rd_T51 x0 x8).f1) ((rd_T51 x0 x8).f2) ((rd_T51 x0 x8).f3)).bind fun bt620 => (flywheellaw18_DetectUnder.l0 k x0 x1 x2 (wrap64 (x8 + 1)) bt620.2.1 bt620.2.2.1 bt620.2.2.2.1 bt620.2.2.2.2.1 bt620.2.2.2.2.2.1 bt620.2.2.2.2.2.2)) else (none)) else (flywheellaw18_DetectUnder.j1 k x1 x2 x616000 x616001 x616002 x616003 x616004 x616005)) else (flywheellaw18_DetectUnder.j1 k x1 x2 x616000 x616001 x616002 x616003 x616004 x616005)
end
def flywheellaw18_DetectUnder.f (k : Nat) (l0 : List (S51)) (a1 : Int) (a2 : Int) : Option (Bool) := (detect_New.f).bind fun bt609 => (flywheellaw18_DetectUnder.l0 k l0 a1 a2 0 bt609.1 bt609.2.1 bt609.2.2.1 bt609.2.2.2.1 bt609.2.2.2.2.1 bt609.2.2.2.2.2)
def flywheellaw18_DetectUnder.T5 : Bool × List (List Nat × List Nat) := (true, [([], []), ([], []), ([], []), ([1, 2], [1, 2]), ([3], [3]), ([4], [4]), ([], []), ([], []), ([6, 7], [6, 7]), ([8], [8]), ([9], [9]), ([], []), ([], []), ([11, 12], [11, 12]), ([13], [13]), ([14], [14]), ([], []), ([], []), ([16, 17], [16, 17]), ([18], [18]), ([19], [19]), ([0, 5, 10, 15, 20], [0, 5, 10, 15, 20])])
def flywheellaw18_DetectUnder.B5 : List Nat := [0, 0, 0, 6, 14, 30, 0, 0, 192, 448, 960, 0, 0, 6144, 14336, 30720, 0, 0, 196608, 458752, 983040, 2097151]
theorem flywheellaw18_DetectUnder.tab5 : rtab .any (opsOf Try.f13 5) = flywheellaw18_DetectUnder.T5 := by kernel_rfl
theorem flywheellaw18_DetectUnder.bits5 : waitsOk flywheellaw18_DetectUnder.T5.2 flywheellaw18_DetectUnder.B5 = true := by kernel_rfl
set_option maxHeartbeats 8000000 in
set_option maxRecDepth 100000 in
theorem flywheellaw18_DetectUnder.calls (k : Nat) (A0 : Option Addr) (c0 : Nat) (l0 : List (S51)) (a1 : Int) (a2 : Int) (r : Bool) (w : World) (hr0 : Kd.C k51 w A0 l0.length l0) (hc0 : l0.length ≤ c0) (h : flywheellaw18_DetectUnder.f k l0 a1 a2 = some r) :
    Calls Try.prog 13 #[.slice A0 l0.length c0, .int .u32 a1, .int .i64 a2] w fun e w' => e = .returned (.bool r) ∧ Below w.heap.size w w' := by
  have HR0 := Aside0.mk hr0
  have HC0 := Aside0.mk hc0
  clear hr0 hc0
  have HB := Aside0.mk (Below.refl w.heap.size w)
  have H : ((detect_New.f).bind fun bt609 => (flywheellaw18_DetectUnder.l0 k l0 a1 a2 0 bt609.1 bt609.2.1 bt609.2.2.1 bt609.2.2.2.1 bt609.2.2.2.2.1 bt609.2.2.2.2.2)) = some r := h
  clear h
  replace H := Option.bind_eq_some_iff.mp H
  obtain ⟨⟨t609, t610, t611, t612, t613, t614⟩, A40, H⟩ := H
  replace H : (flywheellaw18_DetectUnder.l0 k l0 a1 a2 0 t609 t610 t611 t612 t613 t614) = some r := H
  have A4 := Aside0.mk A40
  clear A40
  have HC5 := Aside0.mk H
  clear H
  go_enter Try.func13, Try.ntmps13
  go_upto_block 0 with (first | ((with_reducible refine gate_callee (f := 26) rfl ?_); refine goesL_ (some 10) rfl rfl Try.func26 (by kernel_rfl) rfl #[] rfl (by (try simp only [List.map_toArray, List.map_cons, List.map_nil]); first | done | rfl | (simp only [List.length_drop, List.length_take]; rfl)) ?_; (with_reducible refine (detect_New.calls  t609 t610 t611 t612 t613 t614 _ _ (Below.refl _ _) A4.out).mono ?_); rintro e w6 ⟨g615, rfl, hi, hb, hb2⟩; refine ⟨_, rfl, ?_⟩; have n0_ := Aside0.mk (below_step (by repeat (first | (with_reducible first | exact HB.out | apply below_alloc | apply pw_below_drewN | apply below_drew1) | exact HB.out)) hb2); have n1_ := Aside0.mk ((IsS75.rebase hi (below_size (by repeat (first | (with_reducible first | exact HB.out | apply below_alloc | apply pw_below_drewN | apply below_drew1) | exact HB.out))))); clear HB; have HB := n0_; have HI615 := n1_; clear n0_ n1_; (try clear hb); (try clear hb2); (try clear hk); (try clear hi)))
  (try simp only [Act.put, List.setIfInBounds_toArray, List.set_cons_zero, List.set_cons_succ])
  go_cut [] (fun wc => ∃ (kq : Nat) (x616000_4 : Int) (x616001_4 : Int) (x616002_4 : Int) (x616003_4 : Int) (x616004_4 : Int) (x616005_4 : Int), Aside0 (flywheellaw18_DetectUnder.j1 kq a1 a2 x616000_4 x616001_4 x616002_4 x616003_4 x616004_4 x616005_4 = some r) ∧ Aside0 (kq ≤ k) ∧ Aside0 (IsS75 w wc g615 x616000_4 x616001_4 x616002_4 x616003_4 x616004_4 x616005_4) ∧ Aside0 (Below w.heap.size w wc))
  case first =>
    have H := HC5.out
    clear HC5
    have H' := Aside0.mk H
    clear H
    go_wp2
    go_loopg [8] k (fun kq v8 w' => ∃ (x8_1 : Int) (x616000_1 : Int) (x616001_1 : Int) (x616002_1 : Int) (x616003_1 : Int) (x616004_1 : Int) (x616005_1 : Int), v8 = .int .i64 x8_1 ∧ Aside0 (flywheellaw18_DetectUnder.l0 kq l0 a1 a2 x8_1 x616000_1 x616001_1 x616002_1 x616003_1 x616004_1 x616005_1 = some r) ∧ Aside0 (kq ≤ k) ∧ Aside0 (IsS75 w w' g615 x616000_1 x616001_1 x616002_1 x616003_1 x616004_1 x616005_1) ∧ Aside0 (Below w.heap.size w w'))
    case atStart => exact ⟨(0), (t609), (t610), (t611), (t612), (t613), (t614), (by first | rfl | (simp; done) | (simp [*]; done)), H', ⟨Nat.le_refl _⟩, ⟨by repeat (first | (with_reducible first | exact HI615.out | apply IsS75.alloc | apply IsS75.drewN | apply IsS75.drew | apply IsS75.set_0 | apply IsS75.set_1 | apply IsS75.set_2 | apply IsS75.set_3 | apply IsS75.set_4 | apply IsS75.set_5) | exact HI615.out)⟩, ⟨by repeat (first | (with_reducible first | exact HB.out | apply below_alloc | apply pw_below_drewN | apply below_drew1 | refine below_set ?_ (IsS75.ge HI615.out)) | exact HB.out)⟩⟩
    case round =>
      clear H'
      try clear c1
      try clear c2
      try clear p2
      obtain ⟨x8_1, x616000_1, x616001_1, x616002_1, x616003_1, x616004_1, x616005_1, rfl, HA, HK1, HI615, HB⟩ := hrel
      cases gk with
      | zero => exact absurd HA.out (by simp [flywheellaw18_DetectUnder.l0])
      | succ k1 =>
        have H := HA.out
        clear HA
        simp only [flywheellaw18_DetectUnder.l0] at H
        by_cases c7 : x8_1 < (l0.length : Int)
        · rw [if_pos c7] at H
          have c7b0 : decide (x8_1 < (l0.length : Int)) = true := decide_eq_true c7
          clear c7
          (first | rw [c7b0] | (simp only [i64_w, i32_w]; rw [c7b0]) | skip)
          by_cases c8 : x8_1 < 200
          · rw [if_pos c8] at H
            have c8b0 : decide (x8_1 < 200) = true := decide_eq_true c8
            clear c8
            by_cases c9 : 0 ≤ x8_1
            · rw [if_pos c9] at H
              have c9b0 : decide (0 ≤ x8_1) = true := decide_eq_true c9
              clear c9
              replace H := Option.bind_eq_some_iff.mp H
              obtain ⟨⟨t620, t621, t622, t623, t624, t625, t626⟩, A100, H⟩ := H
              replace H : (flywheellaw18_DetectUnder.l0 k1 l0 a1 a2 (wrap64 (x8_1 + 1)) t621 t622 t623 t624 t625 t626) = some r := H
              have A10 := Aside0.mk A100
              clear A100
              have H' := Aside0.mk H
              clear H
              try go_wp2
              have n0_ := Aside0.mk (IsS75.drew HI615.out)
              have n1_ := Aside0.mk (below_drew1 HB.out)
              clear HI615
              clear HB
              have HI615 := n0_
              have HB := n1_
              clear n0_ n1_
              have p616 : 0 ≤ (x8_1 : Int) := of_decide_eq_true (by first | (with_reducible assumption) | assumption)
              have q616 : x8_1 < (l0.length : Int) := of_decide_eq_true (by first | (with_reducible assumption) | assumption)
              obtain ⟨ad616, e616, hx616_0, hx616_1, hx616_2, hx616_3⟩ := at_T51 HR0.out x8_1 p616 q616
              have hw616_3 := hx616_3
              have hw616_2 := hx616_2
              have hw616_1 := hx616_1
              have hw616_0 := hx616_0
              cases e616
              replace hx616_0 := (HB.out.cell (World.block_lt_of_cell? w _ hx616_0)).trans hx616_0
              replace hx616_1 := (HB.out.cell (World.block_lt_of_cell? w _ hx616_1)).trans hx616_1
              replace hx616_2 := (HB.out.cell (World.block_lt_of_cell? w _ hx616_2)).trans hx616_2
              replace hx616_3 := (HB.out.cell (World.block_lt_of_cell? w _ hx616_3)).trans hx616_3
              replace p616 := eq_true p616
              replace q616 := eq_true q616
              have p617 : 0 ≤ (x8_1 : Int) := of_decide_eq_true (by first | (with_reducible assumption) | assumption)
              have q617 : x8_1 < (l0.length : Int) := of_decide_eq_true (by first | (with_reducible assumption) | assumption)
              obtain ⟨ad617, e617, hx617_0, hx617_1, hx617_2, hx617_3⟩ := at_T51 HR0.out x8_1 p617 q617
              have hw617_3 := hx617_3
              have hw617_2 := hx617_2
              have hw617_1 := hx617_1
              have hw617_0 := hx617_0
              obtain rfl : ad616 = ad617 := (by injection e617)
              replace hx617_0 := (HB.out.cell (World.block_lt_of_cell? w _ hx617_0)).trans hx617_0
              replace hx617_1 := (HB.out.cell (World.block_lt_of_cell? w _ hx617_1)).trans hx617_1
              replace hx617_2 := (HB.out.cell (World.block_lt_of_cell? w _ hx617_2)).trans hx617_2
              replace hx617_3 := (HB.out.cell (World.block_lt_of_cell? w _ hx617_3)).trans hx617_3
              replace p617 := eq_true p617
              replace q617 := eq_true q617
              have p618 : 0 ≤ (x8_1 : Int) := of_decide_eq_true (by first | (with_reducible assumption) | assumption)
              have q618 : x8_1 < (l0.length : Int) := of_decide_eq_true (by first | (with_reducible assumption) | assumption)
              obtain ⟨ad618, e618, hx618_0, hx618_1, hx618_2, hx618_3⟩ := at_T51 HR0.out x8_1 p618 q618
              have hw618_3 := hx618_3
              have hw618_2 := hx618_2
              have hw618_1 := hx618_1
              have hw618_0 := hx618_0
              obtain rfl : ad616 = ad618 := (by injection e618)
              replace hx618_0 := (HB.out.cell (World.block_lt_of_cell? w _ hx618_0)).trans hx618_0
              replace hx618_1 := (HB.out.cell (World.block_lt_of_cell? w _ hx618_1)).trans hx618_1
              replace hx618_2 := (HB.out.cell (World.block_lt_of_cell? w _ hx618_2)).trans hx618_2
              replace hx618_3 := (HB.out.cell (World.block_lt_of_cell? w _ hx618_3)).trans hx618_3
              replace p618 := eq_true p618
              replace q618 := eq_true q618
              have p619 : 0 ≤ (x8_1 : Int) := of_decide_eq_true (by first | (with_reducible assumption) | assumption)
              have q619 : x8_1 < (l0.length : Int) := of_decide_eq_true (by first | (with_reducible assumption) | assumption)
              obtain ⟨ad619, e619, hx619_0, hx619_1, hx619_2, hx619_3⟩ := at_T51 HR0.out x8_1 p619 q619
              have hw619_3 := hx619_3
              have hw619_2 := hx619_2
              have hw619_1 := hx619_1
              have hw619_0 := hx619_0
              obtain rfl : ad616 = ad619 := (by injection e619)
              replace hx619_0 := (HB.out.cell (World.block_lt_of_cell? w _ hx619_0)).trans hx619_0
              replace hx619_1 := (HB.out.cell (World.block_lt_of_cell? w _ hx619_1)).trans hx619_1
              replace hx619_2 := (HB.out.cell (World.block_lt_of_cell? w _ hx619_2)).trans hx619_2
              replace hx619_3 := (HB.out.cell (World.block_lt_of_cell? w _ hx619_3)).trans hx619_3
              replace p619 := eq_true p619
              replace q619 := eq_true q619
              refine start_ (n := 22) (S := fun w' => w'.cell? (ad616.add ((x8_1).toNat * 4)) = some (.int .i64 ((rd_T51 l0 x8_1).f0)) ∧ w'.cell? ⟨(ad616.add ((x8_1).toNat * 4)).block, (ad616.add ((x8_1).toNat * 4)).off + 1, none⟩ = some (.int .i64 ((rd_T51 l0 x8_1).f1)) ∧ w'.cell? ⟨(ad616.add ((x8_1).toNat * 4)).block, (ad616.add ((x8_1).toNat * 4)).off + 2, none⟩ = some (.int .i64 ((rd_T51 l0 x8_1).f2)) ∧ w'.cell? ⟨(ad616.add ((x8_1).toNat * 4)).block, (ad616.add ((x8_1).toNat * 4)).off + 3, none⟩ = some (.int .i64 ((rd_T51 l0 x8_1).f3)) ∧ w'.cell? (ad616.add ((x8_1).toNat * 4)) = some (.int .i64 ((rd_T51 l0 x8_1).f0)) ∧ w'.cell? ⟨(ad616.add ((x8_1).toNat * 4)).block, (ad616.add ((x8_1).toNat * 4)).off + 1, none⟩ = some (.int .i64 ((rd_T51 l0 x8_1).f1)) ∧ w'.cell? ⟨(ad616.add ((x8_1).toNat * 4)).block, (ad616.add ((x8_1).toNat * 4)).off + 2, none⟩ = some (.int .i64 ((rd_T51 l0 x8_1).f2)) ∧ w'.cell? ⟨(ad616.add ((x8_1).toNat * 4)).block, (ad616.add ((x8_1).toNat * 4)).off + 3, none⟩ = some (.int .i64 ((rd_T51 l0 x8_1).f3)) ∧ w'.cell? (ad616.add ((x8_1).toNat * 4)) = some (.int .i64 ((rd_T51 l0 x8_1).f0)) ∧ w'.cell? ⟨(ad616.add ((x8_1).toNat * 4)).block, (ad616.add ((x8_1).toNat * 4)).off + 1, none⟩ = some (.int .i64 ((rd_T51 l0 x8_1).f1)) ∧ w'.cell? ⟨(ad616.add ((x8_1).toNat * 4)).block, (ad616.add ((x8_1).toNat * 4)).off + 2, none⟩ = some (.int .i64 ((rd_T51 l0 x8_1).f2)) ∧ w'.cell? ⟨(ad616.add ((x8_1).toNat * 4)).block, (ad616.add ((x8_1).toNat * 4)).off + 3, none⟩ = some (.int .i64 ((rd_T51 l0 x8_1).f3)) ∧ w'.cell? (ad616.add ((x8_1).toNat * 4)) = some (.int .i64 ((rd_T51 l0 x8_1).f0)) ∧ w'.cell? ⟨(ad616.add ((x8_1).toNat * 4)).block, (ad616.add ((x8_1).toNat * 4)).off + 1, none⟩ = some (.int .i64 ((rd_T51 l0 x8_1).f1)) ∧ w'.cell? ⟨(ad616.add ((x8_1).toNat * 4)).block, (ad616.add ((x8_1).toNat * 4)).off + 2, none⟩ = some (.int .i64 ((rd_T51 l0 x8_1).f2)) ∧ w'.cell? ⟨(ad616.add ((x8_1).toNat * 4)).block, (ad616.add ((x8_1).toNat * 4)).off + 3, none⟩ = some (.int .i64 ((rd_T51 l0 x8_1).f3))) (ds := []) #[false, false, false, false, false, false, false, false, false, false, false, false, false, false, false, false, false, false, false, false, false, false] (by kernel_rfl) rfl rfl ⟨((HB.out.cell (World.block_lt_of_cell? w _ hw616_0)).trans hw616_0), ((HB.out.cell (World.block_lt_of_cell? w _ hw616_1)).trans hw616_1), ((HB.out.cell (World.block_lt_of_cell? w _ hw616_2)).trans hw616_2), ((HB.out.cell (World.block_lt_of_cell? w _ hw616_3)).trans hw616_3), ((HB.out.cell (World.block_lt_of_cell? w _ hw617_0)).trans hw617_0), ((HB.out.cell (World.block_lt_of_cell? w _ hw617_1)).trans hw617_1), ((HB.out.cell (World.block_lt_of_cell? w _ hw617_2)).trans hw617_2), ((HB.out.cell (World.block_lt_of_cell? w _ hw617_3)).trans hw617_3), ((HB.out.cell (World.block_lt_of_cell? w _ hw618_0)).trans hw618_0), ((HB.out.cell (World.block_lt_of_cell? w _ hw618_1)).trans hw618_1), ((HB.out.cell (World.block_lt_of_cell? w _ hw618_2)).trans hw618_2), ((HB.out.cell (World.block_lt_of_cell? w _ hw618_3)).trans hw618_3), ((HB.out.cell (World.block_lt_of_cell? w _ hw619_0)).trans hw619_0), ((HB.out.cell (World.block_lt_of_cell? w _ hw619_1)).trans hw619_1), ((HB.out.cell (World.block_lt_of_cell? w _ hw619_2)).trans hw619_2), ((HB.out.cell (World.block_lt_of_cell? w _ hw619_3)).trans hw619_3)⟩ (fun hHeld => ?_); refine with_tabW flywheellaw18_DetectUnder.tab5 flywheellaw18_DetectUnder.bits5 (fun HT_ HW_ => ?_)
              generalize wr.drew = w11 at HI615 HB hx616_0 hx616_1 hx616_2 hx616_3 hx617_0 hx617_1 hx617_2 hx617_3 hx618_0 hx618_1 hx618_2 hx618_3 hx619_0 hx619_1 hx619_2 hx619_3 hHeld ⊢
              refine pure_ (i := 0) (N := some 21) (v := ?_) (a' := ?_) #[true, false, false, false, false, false, false, false, false, false, false, false, false, false, false, false, false, false, false, false, false, false] rfl rfl (any_of HT_.out (by kernel_rfl)) (fun _ _ _ h => h) (Or.inl ⟨by rfl, ?_⟩) ?_ ?_
              rotate_left
              · intro w'
                go_simp
                with_reducible rfl
              rotate_left
              · simp only [Act.put, List.setIfInBounds_toArray, List.set_cons_zero, List.set_cons_succ, i64_w, i32_w]
                rfl
              refine pure_ (i := 1) (N := some 22) (v := ?_) (a' := ?_) #[true, true, false, false, false, false, false, false, false, false, false, false, false, false, false, false, false, false, false, false, false, false] rfl rfl (any_of HT_.out (by kernel_rfl)) (fun _ _ _ h => h) (Or.inl ⟨by rfl, ?_⟩) ?_ ?_
              rotate_left
              · intro w'
                go_simp
                with_reducible rfl
              rotate_left
              · simp only [Act.put, List.setIfInBounds_toArray, List.set_cons_zero, List.set_cons_succ, i64_w, i32_w]
                rfl
              refine pure_ (i := 2) (N := some 23) (v := ?_) (a' := ?_) #[true, true, true, false, false, false, false, false, false, false, false, false, false, false, false, false, false, false, false, false, false, false] rfl rfl (any_of HT_.out (by kernel_rfl)) (fun _ _ _ h => h) (Or.inl ⟨by rfl, ?_⟩) ?_ ?_
              rotate_left
              · intro w'
                go_simp
                with_reducible rfl
              rotate_left
              · simp only [Act.put, List.setIfInBounds_toArray, List.set_cons_zero, List.set_cons_succ, i64_w, i32_w]
                rfl
              refine pure_ (i := 3) (N := some 24) (v := ?_) (a' := ?_) #[true, true, true, true, false, false, false, false, false, false, false, false, false, false, false, false, false, false, false, false, false, false] rfl rfl (any_of HT_.out (by kernel_rfl)) (fun _ _ _ h => h) (Or.inl ⟨by rfl, ?_⟩) ?_ ?_
              rotate_left
              · intro w'
                go_simp
                with_reducible rfl
              rotate_left
              · simp only [Act.put, List.setIfInBounds_toArray, List.set_cons_zero, List.set_cons_succ, i64_w, i32_w]
                rfl
              refine pure_ (i := 4) (N := some 25) (v := ?_) (a' := ?_) #[true, true, true, true, true, false, false, false, false, false, false, false, false, false, false, false, false, false, false, false, false, false] rfl rfl (any_of HT_.out (by kernel_rfl)) (fun _ _ _ h => h) (Or.inl ⟨by rfl, ?_⟩) ?_ ?_
              rotate_left
              · intro w'
                go_simp
                with_reducible rfl
              rotate_left
              · simp only [Act.put, List.setIfInBounds_toArray, List.set_cons_zero, List.set_cons_succ, i64_w, i32_w]
                rfl
              refine pure_ (i := 6) (N := some 27) (v := ?_) (a' := ?_) #[true, true, true, true, true, false, true, false, false, false, false, false, false, false, false, false, false, false, false, false, false, false] rfl rfl (any_of HT_.out (by kernel_rfl)) (fun _ _ _ h => h) (Or.inl ⟨by rfl, ?_⟩) ?_ ?_
              rotate_left
              · intro w'
                go_simp
                with_reducible rfl
              rotate_left
              · simp only [Act.put, List.setIfInBounds_toArray, List.set_cons_zero, List.set_cons_succ, i64_w, i32_w]
                rfl
              refine pure_ (i := 7) (N := some 28) (v := ?_) (a' := ?_) #[true, true, true, true, true, false, true, true, false, false, false, false, false, false, false, false, false, false, false, false, false, false] rfl rfl (any_of HT_.out (by kernel_rfl)) (fun _ _ _ h => h) (Or.inl ⟨by rfl, ?_⟩) ?_ ?_
              rotate_left
              · intro w'
                go_simp
                with_reducible rfl
              rotate_left
              · simp only [Act.put, List.setIfInBounds_toArray, List.set_cons_zero, List.set_cons_succ, i64_w, i32_w]
                rfl
              refine pure_ (i := 8) (N := some 29) (v := ?_) (a' := ?_) #[true, true, true, true, true, false, true, true, true, false, false, false, false, false, false, false, false, false, false, false, false, false] rfl rfl (any_of HT_.out (by kernel_rfl)) (fun _ _ _ h => h) (Or.inl ⟨by rfl, ?_⟩) ?_ ?_
              rotate_left
              · intro w'
                go_simp
                with_reducible rfl
              rotate_left
              · simp only [Act.put, List.setIfInBounds_toArray, List.set_cons_zero, List.set_cons_succ, i64_w, i32_w]
                rfl
              refine pure_ (i := 9) (N := some 30) (v := ?_) (a' := ?_) #[true, true, true, true, true, false, true, true, true, true, false, false, false, false, false, false, false, false, false, false, false, false] rfl rfl (any_of HT_.out (by kernel_rfl)) (fun _ _ _ h => h) (Or.inl ⟨by rfl, ?_⟩) ?_ ?_
              rotate_left
              · intro w'
                go_simp
                with_reducible rfl
              rotate_left
              · simp only [Act.put, List.setIfInBounds_toArray, List.set_cons_zero, List.set_cons_succ, i64_w, i32_w]
                rfl
              refine pure_ (i := 11) (N := some 32) (v := ?_) (a' := ?_) #[true, true, true, true, true, false, true, true, true, true, false, true, false, false, false, false, false, false, false, false, false, false] rfl rfl (any_of HT_.out (by kernel_rfl)) (fun _ _ _ h => h) (Or.inl ⟨by rfl, ?_⟩) ?_ ?_
              rotate_left
              · intro w'
                go_simp
                with_reducible rfl
              rotate_left
              · simp only [Act.put, List.setIfInBounds_toArray, List.set_cons_zero, List.set_cons_succ, i64_w, i32_w]
                rfl
              refine pure_ (i := 12) (N := some 33) (v := ?_) (a' := ?_) #[true, true, true, true, true, false, true, true, true, true, false, true, true, false, false, false, false, false, false, false, false, false] rfl rfl (any_of HT_.out (by kernel_rfl)) (fun _ _ _ h => h) (Or.inl ⟨by rfl, ?_⟩) ?_ ?_
              rotate_left
              · intro w'
                go_simp
                with_reducible rfl
              rotate_left
              · simp only [Act.put, List.setIfInBounds_toArray, List.set_cons_zero, List.set_cons_succ, i64_w, i32_w]
                rfl
              refine pure_ (i := 13) (N := some 34) (v := ?_) (a' := ?_) #[true, true, true, true, true, false, true, true, true, true, false, true, true, true, false, false, false, false, false, false, false, false] rfl rfl (any_of HT_.out (by kernel_rfl)) (fun _ _ _ h => h) (Or.inl ⟨by rfl, ?_⟩) ?_ ?_
              rotate_left
              · intro w'
                go_simp
                with_reducible rfl
              rotate_left
              · simp only [Act.put, List.setIfInBounds_toArray, List.set_cons_zero, List.set_cons_succ, i64_w, i32_w]
                rfl
              refine pure_ (i := 14) (N := some 35) (v := ?_) (a' := ?_) #[true, true, true, true, true, false, true, true, true, true, false, true, true, true, true, false, false, false, false, false, false, false] rfl rfl (any_of HT_.out (by kernel_rfl)) (fun _ _ _ h => h) (Or.inl ⟨by rfl, ?_⟩) ?_ ?_
              rotate_left
              · intro w'
                go_simp
                with_reducible rfl
              rotate_left
              · simp only [Act.put, List.setIfInBounds_toArray, List.set_cons_zero, List.set_cons_succ, i64_w, i32_w]
                rfl
              refine pure_ (i := 16) (N := some 37) (v := ?_) (a' := ?_) #[true, true, true, true, true, false, true, true, true, true, false, true, true, true, true, false, true, false, false, false, false, false] rfl rfl (any_of HT_.out (by kernel_rfl)) (fun _ _ _ h => h) (Or.inl ⟨by rfl, ?_⟩) ?_ ?_
              rotate_left
              · intro w'
                go_simp
                with_reducible rfl
              rotate_left
              · simp only [Act.put, List.setIfInBounds_toArray, List.set_cons_zero, List.set_cons_succ, i64_w, i32_w]
                rfl
              refine pure_ (i := 17) (N := some 38) (v := ?_) (a' := ?_) #[true, true, true, true, true, false, true, true, true, true, false, true, true, true, true, false, true, true, false, false, false, false] rfl rfl (any_of HT_.out (by kernel_rfl)) (fun _ _ _ h => h) (Or.inl ⟨by rfl, ?_⟩) ?_ ?_
              rotate_left
              · intro w'
                go_simp
                with_reducible rfl
              rotate_left
              · simp only [Act.put, List.setIfInBounds_toArray, List.set_cons_zero, List.set_cons_succ, i64_w, i32_w]
                rfl
              refine pure_ (i := 18) (N := some 39) (v := ?_) (a' := ?_) #[true, true, true, true, true, false, true, true, true, true, false, true, true, true, true, false, true, true, true, false, false, false] rfl rfl (any_of HT_.out (by kernel_rfl)) (fun _ _ _ h => h) (Or.inl ⟨by rfl, ?_⟩) ?_ ?_
              rotate_left
              · intro w'
                go_simp
                with_reducible rfl
              rotate_left
              · simp only [Act.put, List.setIfInBounds_toArray, List.set_cons_zero, List.set_cons_succ, i64_w, i32_w]
                rfl
              refine pure_ (i := 19) (N := some 40) (v := ?_) (a' := ?_) #[true, true, true, true, true, false, true, true, true, true, false, true, true, true, true, false, true, true, true, true, false, false] rfl rfl (any_of HT_.out (by kernel_rfl)) (fun _ _ _ h => h) (Or.inl ⟨by rfl, ?_⟩) ?_ ?_
              rotate_left
              · intro w'
                go_simp
                with_reducible rfl
              rotate_left
              · simp only [Act.put, List.setIfInBounds_toArray, List.set_cons_zero, List.set_cons_succ, i64_w, i32_w]
                rfl
              refine take_ (i := 5) (N := some 26) (v := ?_) (a' := ?_) #[true, true, true, true, true, true, true, true, true, true, false, true, true, true, true, false, true, true, true, true, false, false] rfl rfl (take_ofW HT_.out HW_.out (by kernel_rfl)) (fun _ _ _ h => h) (Or.inl ⟨by rfl, ?_⟩) hHeld ?_ ?_
              rotate_left
              · rintro w' ⟨s0, s1, s2, s3, s4, s5, s6, s7, s8, s9, s10, s11, s12, s13, s14, s15⟩
                go_simp
                with_reducible rfl
              rotate_left
              · simp only [Act.put, List.setIfInBounds_toArray, List.set_cons_zero, List.set_cons_succ, i64_w, i32_w]
                rfl
              refine take_ (i := 10) (N := some 31) (v := ?_) (a' := ?_) #[true, true, true, true, true, true, true, true, true, true, true, true, true, true, true, false, true, true, true, true, false, false] rfl rfl (take_ofW HT_.out HW_.out (by kernel_rfl)) (fun _ _ _ h => h) (Or.inl ⟨by rfl, ?_⟩) hHeld ?_ ?_
              rotate_left
              · rintro w' ⟨s0, s1, s2, s3, s4, s5, s6, s7, s8, s9, s10, s11, s12, s13, s14, s15⟩
                go_simp
                with_reducible rfl
              rotate_left
              · simp only [Act.put, List.setIfInBounds_toArray, List.set_cons_zero, List.set_cons_succ, i64_w, i32_w]
                rfl
              refine take_ (i := 15) (N := some 36) (v := ?_) (a' := ?_) #[true, true, true, true, true, true, true, true, true, true, true, true, true, true, true, true, true, true, true, true, false, false] rfl rfl (take_ofW HT_.out HW_.out (by kernel_rfl)) (fun _ _ _ h => h) (Or.inl ⟨by rfl, ?_⟩) hHeld ?_ ?_
              rotate_left
              · rintro w' ⟨s0, s1, s2, s3, s4, s5, s6, s7, s8, s9, s10, s11, s12, s13, s14, s15⟩
                go_simp
                with_reducible rfl
              rotate_left
              · simp only [Act.put, List.setIfInBounds_toArray, List.set_cons_zero, List.set_cons_succ, i64_w, i32_w]
                rfl
              refine take_ (i := 20) (N := some 41) (v := ?_) (a' := ?_) #[true, true, true, true, true, true, true, true, true, true, true, true, true, true, true, true, true, true, true, true, true, false] rfl rfl (take_ofW HT_.out HW_.out (by kernel_rfl)) (fun _ _ _ h => h) (Or.inl ⟨by rfl, ?_⟩) hHeld ?_ ?_
              rotate_left
              · rintro w' ⟨s0, s1, s2, s3, s4, s5, s6, s7, s8, s9, s10, s11, s12, s13, s14, s15⟩
                go_simp
                with_reducible rfl
              rotate_left
              · simp only [Act.put, List.setIfInBounds_toArray, List.set_cons_zero, List.set_cons_succ, i64_w, i32_w]
                rfl
              refine one_ (i := 21) (N := some 42) #[true, true, true, true, true, true, true, true, true, true, true, true, true, true, true, true, true, true, true, true, true, true] rfl rfl (one_of HT_.out (by kernel_rfl)) (by decide) (fun K hK => ?_)
              refine goes_ Try.func28 (by kernel_rfl) rfl #[.pointer (some ⟨g615, 0, none⟩), .int .i64 ((rd_T51 l0 x8_1).f0), .int .i64 ((rd_T51 l0 x8_1).f1), .int .i64 ((rd_T51 l0 x8_1).f2), .int .i64 ((rd_T51 l0 x8_1).f3)] (by rfl) rfl rfl (by (try simp only [List.map_toArray, List.map_cons, List.map_nil]); first | done | rfl | (simp only [List.length_drop, List.length_take]; rfl)) ?_
              with_reducible refine (detect_Detector_Add.calls k1 g615 x616000_1 x616001_1 x616002_1 x616003_1 x616004_1 x616005_1 ((rd_T51 l0 x8_1).f0) ((rd_T51 l0 x8_1).f1) ((rd_T51 l0 x8_1).f2) ((rd_T51 l0 x8_1).f3) t620 t621 t622 t623 t624 t625 t626 w _ ?side1 ?side2 A10.out).mono ?_
              (case side1 => repeat (first | (with_reducible first | exact HI615.out | apply IsS75.alloc | apply IsS75.drewN | apply IsS75.drew | apply IsS75.set_0 | apply IsS75.set_1 | apply IsS75.set_2 | apply IsS75.set_3 | apply IsS75.set_4 | apply IsS75.set_5) | exact HI615.out))
              (case side2 => repeat (first | (with_reducible first | exact HB.out | apply below_alloc | apply pw_below_drewN | apply below_drew1 | refine below_set ?_ (IsS75.ge HI615.out)) | exact HB.out))
              rintro e w12 ⟨rfl, hi, hb, hk⟩
              refine ⟨_, rfl, ?_⟩
              have n0_ := Aside0.mk (hb)
              have n1_ := Aside0.mk (hi)
              clear HB
              clear HI615
              have HB := n0_
              have HI615 := n1_
              clear n0_ n1_
              (try clear hb)
              (try clear hb2)
              (try clear hk)
              (try clear hi)
              refine hK.out _ _ ⟨((HB.out.cell (World.block_lt_of_cell? w _ hw616_0)).trans hw616_0), ((HB.out.cell (World.block_lt_of_cell? w _ hw616_1)).trans hw616_1), ((HB.out.cell (World.block_lt_of_cell? w _ hw616_2)).trans hw616_2), ((HB.out.cell (World.block_lt_of_cell? w _ hw616_3)).trans hw616_3), ((HB.out.cell (World.block_lt_of_cell? w _ hw617_0)).trans hw617_0), ((HB.out.cell (World.block_lt_of_cell? w _ hw617_1)).trans hw617_1), ((HB.out.cell (World.block_lt_of_cell? w _ hw617_2)).trans hw617_2), ((HB.out.cell (World.block_lt_of_cell? w _ hw617_3)).trans hw617_3), ((HB.out.cell (World.block_lt_of_cell? w _ hw618_0)).trans hw618_0), ((HB.out.cell (World.block_lt_of_cell? w _ hw618_1)).trans hw618_1), ((HB.out.cell (World.block_lt_of_cell? w _ hw618_2)).trans hw618_2), ((HB.out.cell (World.block_lt_of_cell? w _ hw618_3)).trans hw618_3), ((HB.out.cell (World.block_lt_of_cell? w _ hw619_0)).trans hw619_0), ((HB.out.cell (World.block_lt_of_cell? w _ hw619_1)).trans hw619_1), ((HB.out.cell (World.block_lt_of_cell? w _ hw619_2)).trans hw619_2), ((HB.out.cell (World.block_lt_of_cell? w _ hw619_3)).trans hw619_3)⟩ (fun hHeld => ?_)
              clear hK K
              refine norm_ (a' := ?_) ?_ ?_
              rotate_left
              · show Act.put _ (some 42) _ = _
                simp only [Act.put, List.setIfInBounds_toArray, List.set_cons_zero, List.set_cons_succ, i64_w, i32_w]
                rfl
              refine done_ (done_of HT_.out (by kernel_rfl)) ?_
              try go_wp2
              go_roundg k1
              case measure => have := HK1.out; omega
              case rel => exact ⟨(wrap64 (x8_1 + 1)), (t621), (t622), (t623), (t624), (t625), (t626), (by first | rfl | (simp; done) | (simp [*]; done)), H', ⟨by have := HK1.out; omega⟩, ⟨by repeat (first | (with_reducible first | exact HI615.out | apply IsS75.alloc | apply IsS75.drewN | apply IsS75.drew | apply IsS75.set_0 | apply IsS75.set_1 | apply IsS75.set_2 | apply IsS75.set_3 | apply IsS75.set_4 | apply IsS75.set_5) | exact HI615.out)⟩, ⟨by repeat (first | (with_reducible first | exact HB.out | apply below_alloc | apply pw_below_drewN | apply below_drew1 | refine below_set ?_ (IsS75.ge HI615.out)) | exact HB.out)⟩⟩
            · rw [if_neg c9] at H
              exact absurd H (by simp)
          · rw [if_neg c8] at H
            have c8b0 : decide (x8_1 < 200) = false := decide_eq_false c8
            clear c8
            have H' := Aside0.mk H
            clear H
            go_wp2
            go_meet
            case rel => exact ⟨_, (x616000_1), (x616001_1), (x616002_1), (x616003_1), (x616004_1), (x616005_1), H', ⟨by have := HK1.out; first | omega | exact Nat.le_refl _⟩, ⟨by repeat (first | (with_reducible first | exact HI615.out | apply IsS75.alloc | apply IsS75.drewN | apply IsS75.drew | apply IsS75.set_0 | apply IsS75.set_1 | apply IsS75.set_2 | apply IsS75.set_3 | apply IsS75.set_4 | apply IsS75.set_5) | exact HI615.out)⟩, ⟨by repeat (first | (with_reducible first | exact HB.out | apply below_alloc | apply pw_below_drewN | apply below_drew1 | refine below_set ?_ (IsS75.ge HI615.out)) | exact HB.out)⟩⟩
        · rw [if_neg c7] at H
          have c7b0 : decide (x8_1 < (l0.length : Int)) = false := decide_eq_false c7
          clear c7
          (first | rw [c7b0] | (simp only [i64_w, i32_w]; rw [c7b0]) | skip)
          have H' := Aside0.mk H
          clear H
          go_wp2
          go_meet
          case rel => exact ⟨_, (x616000_1), (x616001_1), (x616002_1), (x616003_1), (x616004_1), (x616005_1), H', ⟨by have := HK1.out; first | omega | exact Nat.le_refl _⟩, ⟨by repeat (first | (with_reducible first | exact HI615.out | apply IsS75.alloc | apply IsS75.drewN | apply IsS75.drew | apply IsS75.set_0 | apply IsS75.set_1 | apply IsS75.set_2 | apply IsS75.set_3 | apply IsS75.set_4 | apply IsS75.set_5) | exact HI615.out)⟩, ⟨by repeat (first | (with_reducible first | exact HB.out | apply below_alloc | apply pw_below_drewN | apply below_drew1 | refine below_set ?_ (IsS75.ge HI615.out)) | exact HB.out)⟩⟩
  case rest =>
    clear HC5
    try clear c1
    try clear c2
    try clear p2
    try clear p6
    try clear q6
    try clear hx6
    try clear c7
    try clear c7b0
    try clear c8
    try clear c8b0
    try clear c9
    try clear c9b0
    try clear hx616_0
    try clear hx616_1
    try clear hx616_2
    try clear hx616_3
    try clear hx617_0
    try clear hx617_1
    try clear hx617_2
    try clear hx617_3
    try clear hx618_0
    try clear hx618_1
    try clear hx618_2
    try clear hx618_3
    try clear hx619_0
    try clear hx619_1
    try clear hx619_2
    try clear hx619_3
    try clear p2
    try clear p616
    try clear p617
    try clear p618
    try clear p619
    try clear q616
    try clear q617
    try clear q618
    try clear q619
    obtain ⟨kq, x616000_4, x616001_4, x616002_4, x616003_4, x616004_4, x616005_4, HA, HJ4, HI615, HB⟩ := hcut
    cases kq with
    | zero => exact absurd HA.out (by simp [flywheellaw18_DetectUnder.j1])
    | succ kj4 =>
      have H := HA.out
      clear HA
      simp only [flywheellaw18_DetectUnder.j1] at H
      replace H := Option.bind_eq_some_iff.mp H
      obtain ⟨t627, A130, H⟩ := H
      replace H : ((detect_Detector_Add.f kj4 x616000_4 x616001_4 x616002_4 x616003_4 x616004_4 x616005_4 (wrap64 (-(wrap64 (t627 + (wrap64 (a1)))))) (wrap64 (1 + (wrap64 (Int.tmod (IntKind.u64.wrap (a2)) 100)))) 1000 0).bind fun bt628 => (if bt628.1 = 2 then ((detect_Detector_Add.f kj4 bt628.2.1 bt628.2.2.1 bt628.2.2.2.1 bt628.2.2.2.2.1 bt628.2.2.2.2.2.1 bt628.2.2.2.2.2.2 0 1 1000 0).bind fun bt635 => (if bt635.1 = 0 then ((detect_Detector_Add.f kj4 bt635.2.1 bt635.2.2.1 bt635.2.2.2.1 bt635.2.2.2.2.1 bt635.2.2.2.2.2.1 bt635.2.2.2.2.2.2 (wrap64 (t627 + (wrap64 (a1)))) 1 1000 0).bind fun bt642 => (if bt642.1 = 2 then (some false) else ((flywheellaw18_wakes.f kj4).bind fun t649 => (some t649)))) else (some false))) else (some false))) = some r := H
      have A13 := Aside0.mk A130
      clear A130
      replace H := Option.bind_eq_some_iff.mp H
      obtain ⟨⟨t628, t629, t630, t631, t632, t633, t634⟩, A140, H⟩ := H
      replace H : (if t628 = 2 then ((detect_Detector_Add.f kj4 t629 t630 t631 t632 t633 t634 0 1 1000 0).bind fun bt635 => (if bt635.1 = 0 then ((detect_Detector_Add.f kj4 bt635.2.1 bt635.2.2.1 bt635.2.2.2.1 bt635.2.2.2.2.1 bt635.2.2.2.2.2.1 bt635.2.2.2.2.2.2 (wrap64 (t627 + (wrap64 (a1)))) 1 1000 0).bind fun bt642 => (if bt642.1 = 2 then (some false) else ((flywheellaw18_wakes.f kj4).bind fun t649 => (some t649)))) else (some false))) else (some false)) = some r := H
      have A14 := Aside0.mk A140
      clear A140
      by_cases c15 : t628 = 2
      · rw [if_pos c15] at H
        have c15b0 : (t628 == 2) = true := beq_iff_eq.mpr c15
        have c15b1 : (t628 != 2) = false := bne_eq_false_iff_eq.mpr c15
        clear c15
        replace H := Option.bind_eq_some_iff.mp H
        obtain ⟨⟨t635, t636, t637, t638, t639, t640, t641⟩, A160, H⟩ := H
        replace H : (if t635 = 0 then ((detect_Detector_Add.f kj4 t636 t637 t638 t639 t640 t641 (wrap64 (t627 + (wrap64 (a1)))) 1 1000 0).bind fun bt642 => (if bt642.1 = 2 then (some false) else ((flywheellaw18_wakes.f kj4).bind fun t649 => (some t649)))) else (some false)) = some r := H
        have A16 := Aside0.mk A160
        clear A160
        by_cases c17 : t635 = 0
        · rw [if_pos c17] at H
          have c17b0 : (t635 == 0) = true := beq_iff_eq.mpr c17
          have c17b1 : (t635 != 0) = false := bne_eq_false_iff_eq.mpr c17
          clear c17
          replace H := Option.bind_eq_some_iff.mp H
          obtain ⟨⟨t642, t643, t644, t645, t646, t647, t648⟩, A180, H⟩ := H
          replace H : (if t642 = 2 then (some false) else ((flywheellaw18_wakes.f kj4).bind fun t649 => (some t649))) = some r := H
          have A18 := Aside0.mk A180
          clear A180
          by_cases c19 : t642 = 2
          · rw [if_pos c19] at H
            have c19b0 : (t642 == 2) = true := beq_iff_eq.mpr c19
            have c19b1 : (t642 != 2) = false := bne_eq_false_iff_eq.mpr c19
            clear c19
            obtain rfl := Option.some.inj H
            go_wp2_with (first | ((with_reducible refine gate_callee (f := 35) rfl ?_); refine goesL_ (some 43) rfl rfl Try.func35 (by kernel_rfl) rfl #[.int .i64 601] rfl (by (try simp only [List.map_toArray, List.map_cons, List.map_nil]); first | done | rfl | (simp only [List.length_drop, List.length_take]; rfl)) ?_; (with_reducible refine (fixed_Of.calls 601 t627 _ A13.out).mono ?_); rintro e w20 ⟨rfl, hb⟩; refine ⟨_, rfl, ?_⟩; have n0_ := Aside0.mk (IsS75.below (by repeat (first | (with_reducible first | exact HI615.out | apply IsS75.alloc | apply IsS75.drewN | apply IsS75.drew | apply IsS75.set_0 | apply IsS75.set_1 | apply IsS75.set_2 | apply IsS75.set_3 | apply IsS75.set_4 | apply IsS75.set_5) | exact HI615.out)) hb); have n1_ := Aside0.mk (below_step (by repeat (first | (with_reducible first | exact HB.out | apply below_alloc | apply pw_below_drewN | apply below_drew1 | refine below_set ?_ (IsS75.ge HI615.out)) | exact HB.out)) hb); clear HI615; clear HB; have HI615 := n0_; have HB := n1_; clear n0_ n1_; (try clear hb); (try clear hb2); (try clear hk); (try clear hi)) | ((with_reducible refine gate_callee (f := 28) rfl ?_); refine goesL_ (some 55) rfl rfl Try.func28 (by kernel_rfl) rfl #[.pointer (some ⟨g615, 0, none⟩), .int .i64 (wrap64 (-(wrap64 (t627 + (wrap64 (a1)))))), .int .i64 (wrap64 (1 + (wrap64 (Int.tmod (IntKind.u64.wrap (a2)) 100)))), .int .i64 1000, .int .i64 0] rfl (by (try simp only [List.map_toArray, List.map_cons, List.map_nil]); first | done | rfl | (simp only [List.length_drop, List.length_take]; rfl)) ?_; (with_reducible refine (detect_Detector_Add.calls kj4 g615 x616000_4 x616001_4 x616002_4 x616003_4 x616004_4 x616005_4 (wrap64 (-(wrap64 (t627 + (wrap64 (a1)))))) (wrap64 (1 + (wrap64 (Int.tmod (IntKind.u64.wrap (a2)) 100)))) 1000 0 t628 t629 t630 t631 t632 t633 t634 w _ ?side1 ?side2 A14.out).mono ?_); (case side1 => repeat (first | (with_reducible first | exact HI615.out | apply IsS75.alloc | apply IsS75.drewN | apply IsS75.drew | apply IsS75.set_0 | apply IsS75.set_1 | apply IsS75.set_2 | apply IsS75.set_3 | apply IsS75.set_4 | apply IsS75.set_5) | exact HI615.out)); (case side2 => repeat (first | (with_reducible first | exact HB.out | apply below_alloc | apply pw_below_drewN | apply below_drew1 | refine below_set ?_ (IsS75.ge HI615.out)) | exact HB.out)); rintro e w21 ⟨rfl, hi, hb, hk⟩; refine ⟨_, rfl, ?_⟩; have n0_ := Aside0.mk (hb); have n1_ := Aside0.mk (hi); clear HB; clear HI615; have HB := n0_; have HI615 := n1_; clear n0_ n1_; (try clear hb); (try clear hb2); (try clear hk); (try clear hi)) | (go_at_call 28; (with_reducible refine (detect_Detector_Add.calls kj4 g615 t629 t630 t631 t632 t633 t634 0 1 1000 0 t635 t636 t637 t638 t639 t640 t641 w _ ?side1 ?side2 A16.out).mono ?_); (case side1 => repeat (first | (with_reducible first | exact HI615.out | apply IsS75.alloc | apply IsS75.drewN | apply IsS75.drew | apply IsS75.set_0 | apply IsS75.set_1 | apply IsS75.set_2 | apply IsS75.set_3 | apply IsS75.set_4 | apply IsS75.set_5) | exact HI615.out)); (case side2 => repeat (first | (with_reducible first | exact HB.out | apply below_alloc | apply pw_below_drewN | apply below_drew1 | refine below_set ?_ (IsS75.ge HI615.out)) | exact HB.out)); rintro e w22 ⟨rfl, hi, hb, hk⟩; have n0_ := Aside0.mk (hb); have n1_ := Aside0.mk (hi); clear HB; clear HI615; have HB := n0_; have HI615 := n1_; clear n0_ n1_; (try clear hb); (try clear hb2); (try clear hk); (try clear hi)) | (go_at_call 28; (with_reducible refine (detect_Detector_Add.calls kj4 g615 t636 t637 t638 t639 t640 t641 (wrap64 (t627 + (wrap64 (a1)))) 1 1000 0 t642 t643 t644 t645 t646 t647 t648 w _ ?side1 ?side2 A18.out).mono ?_); (case side1 => repeat (first | (with_reducible first | exact HI615.out | apply IsS75.alloc | apply IsS75.drewN | apply IsS75.drew | apply IsS75.set_0 | apply IsS75.set_1 | apply IsS75.set_2 | apply IsS75.set_3 | apply IsS75.set_4 | apply IsS75.set_5) | exact HI615.out)); (case side2 => repeat (first | (with_reducible first | exact HB.out | apply below_alloc | apply pw_below_drewN | apply below_drew1 | refine below_set ?_ (IsS75.ge HI615.out)) | exact HB.out)); rintro e w23 ⟨rfl, hi, hb, hk⟩; have n0_ := Aside0.mk (hb); have n1_ := Aside0.mk (hi); clear HB; clear HI615; have HB := n0_; have HI615 := n1_; clear n0_ n1_; (try clear hb); (try clear hb2); (try clear hk); (try clear hi)))
            go_ret
            exact ⟨by first | rfl | (simp [errW_none, errW_some] <;> rfl) | (simp [*, errW_none, errW_some] <;> rfl), by repeat (first | (with_reducible first | exact HB.out | apply below_alloc | apply pw_below_drewN | apply below_drew1 | refine below_set ?_ (IsS75.ge HI615.out)) | exact HB.out)⟩
          · rw [if_neg c19] at H
            have c19b0 : (t642 == 2) = false := beq_eq_false_iff_ne.mpr c19
            have c19b1 : (t642 != 2) = true := bne_iff_ne.mpr c19
            replace H := Option.bind_eq_some_iff.mp H
            obtain ⟨t649, A240, H⟩ := H
            replace H : (some t649) = some r := H
            have A24 := Aside0.mk A240
            clear A240
            obtain rfl := Option.some.inj H
            go_wp2_with (first | ((with_reducible refine gate_callee (f := 35) rfl ?_); refine goesL_ (some 43) rfl rfl Try.func35 (by kernel_rfl) rfl #[.int .i64 601] rfl (by (try simp only [List.map_toArray, List.map_cons, List.map_nil]); first | done | rfl | (simp only [List.length_drop, List.length_take]; rfl)) ?_; (with_reducible refine (fixed_Of.calls 601 t627 _ A13.out).mono ?_); rintro e w25 ⟨rfl, hb⟩; refine ⟨_, rfl, ?_⟩; have n0_ := Aside0.mk (IsS75.below (by repeat (first | (with_reducible first | exact HI615.out | apply IsS75.alloc | apply IsS75.drewN | apply IsS75.drew | apply IsS75.set_0 | apply IsS75.set_1 | apply IsS75.set_2 | apply IsS75.set_3 | apply IsS75.set_4 | apply IsS75.set_5) | exact HI615.out)) hb); have n1_ := Aside0.mk (below_step (by repeat (first | (with_reducible first | exact HB.out | apply below_alloc | apply pw_below_drewN | apply below_drew1 | refine below_set ?_ (IsS75.ge HI615.out)) | exact HB.out)) hb); clear HI615; clear HB; have HI615 := n0_; have HB := n1_; clear n0_ n1_; (try clear hb); (try clear hb2); (try clear hk); (try clear hi)) | ((with_reducible refine gate_callee (f := 28) rfl ?_); refine goesL_ (some 55) rfl rfl Try.func28 (by kernel_rfl) rfl #[.pointer (some ⟨g615, 0, none⟩), .int .i64 (wrap64 (-(wrap64 (t627 + (wrap64 (a1)))))), .int .i64 (wrap64 (1 + (wrap64 (Int.tmod (IntKind.u64.wrap (a2)) 100)))), .int .i64 1000, .int .i64 0] rfl (by (try simp only [List.map_toArray, List.map_cons, List.map_nil]); first | done | rfl | (simp only [List.length_drop, List.length_take]; rfl)) ?_; (with_reducible refine (detect_Detector_Add.calls kj4 g615 x616000_4 x616001_4 x616002_4 x616003_4 x616004_4 x616005_4 (wrap64 (-(wrap64 (t627 + (wrap64 (a1)))))) (wrap64 (1 + (wrap64 (Int.tmod (IntKind.u64.wrap (a2)) 100)))) 1000 0 t628 t629 t630 t631 t632 t633 t634 w _ ?side1 ?side2 A14.out).mono ?_); (case side1 => repeat (first | (with_reducible first | exact HI615.out | apply IsS75.alloc | apply IsS75.drewN | apply IsS75.drew | apply IsS75.set_0 | apply IsS75.set_1 | apply IsS75.set_2 | apply IsS75.set_3 | apply IsS75.set_4 | apply IsS75.set_5) | exact HI615.out)); (case side2 => repeat (first | (with_reducible first | exact HB.out | apply below_alloc | apply pw_below_drewN | apply below_drew1 | refine below_set ?_ (IsS75.ge HI615.out)) | exact HB.out)); rintro e w26 ⟨rfl, hi, hb, hk⟩; refine ⟨_, rfl, ?_⟩; have n0_ := Aside0.mk (hb); have n1_ := Aside0.mk (hi); clear HB; clear HI615; have HB := n0_; have HI615 := n1_; clear n0_ n1_; (try clear hb); (try clear hb2); (try clear hk); (try clear hi)) | (go_at_call 28; (with_reducible refine (detect_Detector_Add.calls kj4 g615 t629 t630 t631 t632 t633 t634 0 1 1000 0 t635 t636 t637 t638 t639 t640 t641 w _ ?side1 ?side2 A16.out).mono ?_); (case side1 => repeat (first | (with_reducible first | exact HI615.out | apply IsS75.alloc | apply IsS75.drewN | apply IsS75.drew | apply IsS75.set_0 | apply IsS75.set_1 | apply IsS75.set_2 | apply IsS75.set_3 | apply IsS75.set_4 | apply IsS75.set_5) | exact HI615.out)); (case side2 => repeat (first | (with_reducible first | exact HB.out | apply below_alloc | apply pw_below_drewN | apply below_drew1 | refine below_set ?_ (IsS75.ge HI615.out)) | exact HB.out)); rintro e w27 ⟨rfl, hi, hb, hk⟩; have n0_ := Aside0.mk (hb); have n1_ := Aside0.mk (hi); clear HB; clear HI615; have HB := n0_; have HI615 := n1_; clear n0_ n1_; (try clear hb); (try clear hb2); (try clear hk); (try clear hi)) | (go_at_call 28; (with_reducible refine (detect_Detector_Add.calls kj4 g615 t636 t637 t638 t639 t640 t641 (wrap64 (t627 + (wrap64 (a1)))) 1 1000 0 t642 t643 t644 t645 t646 t647 t648 w _ ?side1 ?side2 A18.out).mono ?_); (case side1 => repeat (first | (with_reducible first | exact HI615.out | apply IsS75.alloc | apply IsS75.drewN | apply IsS75.drew | apply IsS75.set_0 | apply IsS75.set_1 | apply IsS75.set_2 | apply IsS75.set_3 | apply IsS75.set_4 | apply IsS75.set_5) | exact HI615.out)); (case side2 => repeat (first | (with_reducible first | exact HB.out | apply below_alloc | apply pw_below_drewN | apply below_drew1 | refine below_set ?_ (IsS75.ge HI615.out)) | exact HB.out)); rintro e w28 ⟨rfl, hi, hb, hk⟩; have n0_ := Aside0.mk (hb); have n1_ := Aside0.mk (hi); clear HB; clear HI615; have HB := n0_; have HI615 := n1_; clear n0_ n1_; (try clear hb); (try clear hb2); (try clear hk); (try clear hi)) | (go_at_call 34; (with_reducible refine (flywheellaw18_wakes.calls kj4  t649 _ A24.out).mono ?_); rintro e w29 ⟨rfl, hb⟩; have n0_ := Aside0.mk (IsS75.below (by repeat (first | (with_reducible first | exact HI615.out | apply IsS75.alloc | apply IsS75.drewN | apply IsS75.drew | apply IsS75.set_0 | apply IsS75.set_1 | apply IsS75.set_2 | apply IsS75.set_3 | apply IsS75.set_4 | apply IsS75.set_5) | exact HI615.out)) hb); have n1_ := Aside0.mk (below_step (by repeat (first | (with_reducible first | exact HB.out | apply below_alloc | apply pw_below_drewN | apply below_drew1 | refine below_set ?_ (IsS75.ge HI615.out)) | exact HB.out)) hb); clear HI615; clear HB; have HI615 := n0_; have HB := n1_; clear n0_ n1_; (try clear hb); (try clear hb2); (try clear hk); (try clear hi)))
            go_ret
            exact ⟨by first | rfl | (simp [errW_none, errW_some] <;> rfl) | (simp [*, errW_none, errW_some] <;> rfl), by repeat (first | (with_reducible first | exact HB.out | apply below_alloc | apply pw_below_drewN | apply below_drew1 | refine below_set ?_ (IsS75.ge HI615.out)) | exact HB.out)⟩
        · rw [if_neg c17] at H
          have c17b0 : (t635 == 0) = false := beq_eq_false_iff_ne.mpr c17
          have c17b1 : (t635 != 0) = true := bne_iff_ne.mpr c17
          obtain rfl := Option.some.inj H
          go_wp2_with (first | ((with_reducible refine gate_callee (f := 35) rfl ?_); refine goesL_ (some 43) rfl rfl Try.func35 (by kernel_rfl) rfl #[.int .i64 601] rfl (by (try simp only [List.map_toArray, List.map_cons, List.map_nil]); first | done | rfl | (simp only [List.length_drop, List.length_take]; rfl)) ?_; (with_reducible refine (fixed_Of.calls 601 t627 _ A13.out).mono ?_); rintro e w30 ⟨rfl, hb⟩; refine ⟨_, rfl, ?_⟩; have n0_ := Aside0.mk (IsS75.below (by repeat (first | (with_reducible first | exact HI615.out | apply IsS75.alloc | apply IsS75.drewN | apply IsS75.drew | apply IsS75.set_0 | apply IsS75.set_1 | apply IsS75.set_2 | apply IsS75.set_3 | apply IsS75.set_4 | apply IsS75.set_5) | exact HI615.out)) hb); have n1_ := Aside0.mk (below_step (by repeat (first | (with_reducible first | exact HB.out | apply below_alloc | apply pw_below_drewN | apply below_drew1 | refine below_set ?_ (IsS75.ge HI615.out)) | exact HB.out)) hb); clear HI615; clear HB; have HI615 := n0_; have HB := n1_; clear n0_ n1_; (try clear hb); (try clear hb2); (try clear hk); (try clear hi)) | ((with_reducible refine gate_callee (f := 28) rfl ?_); refine goesL_ (some 55) rfl rfl Try.func28 (by kernel_rfl) rfl #[.pointer (some ⟨g615, 0, none⟩), .int .i64 (wrap64 (-(wrap64 (t627 + (wrap64 (a1)))))), .int .i64 (wrap64 (1 + (wrap64 (Int.tmod (IntKind.u64.wrap (a2)) 100)))), .int .i64 1000, .int .i64 0] rfl (by (try simp only [List.map_toArray, List.map_cons, List.map_nil]); first | done | rfl | (simp only [List.length_drop, List.length_take]; rfl)) ?_; (with_reducible refine (detect_Detector_Add.calls kj4 g615 x616000_4 x616001_4 x616002_4 x616003_4 x616004_4 x616005_4 (wrap64 (-(wrap64 (t627 + (wrap64 (a1)))))) (wrap64 (1 + (wrap64 (Int.tmod (IntKind.u64.wrap (a2)) 100)))) 1000 0 t628 t629 t630 t631 t632 t633 t634 w _ ?side1 ?side2 A14.out).mono ?_); (case side1 => repeat (first | (with_reducible first | exact HI615.out | apply IsS75.alloc | apply IsS75.drewN | apply IsS75.drew | apply IsS75.set_0 | apply IsS75.set_1 | apply IsS75.set_2 | apply IsS75.set_3 | apply IsS75.set_4 | apply IsS75.set_5) | exact HI615.out)); (case side2 => repeat (first | (with_reducible first | exact HB.out | apply below_alloc | apply pw_below_drewN | apply below_drew1 | refine below_set ?_ (IsS75.ge HI615.out)) | exact HB.out)); rintro e w31 ⟨rfl, hi, hb, hk⟩; refine ⟨_, rfl, ?_⟩; have n0_ := Aside0.mk (hb); have n1_ := Aside0.mk (hi); clear HB; clear HI615; have HB := n0_; have HI615 := n1_; clear n0_ n1_; (try clear hb); (try clear hb2); (try clear hk); (try clear hi)) | (go_at_call 28; (with_reducible refine (detect_Detector_Add.calls kj4 g615 t629 t630 t631 t632 t633 t634 0 1 1000 0 t635 t636 t637 t638 t639 t640 t641 w _ ?side1 ?side2 A16.out).mono ?_); (case side1 => repeat (first | (with_reducible first | exact HI615.out | apply IsS75.alloc | apply IsS75.drewN | apply IsS75.drew | apply IsS75.set_0 | apply IsS75.set_1 | apply IsS75.set_2 | apply IsS75.set_3 | apply IsS75.set_4 | apply IsS75.set_5) | exact HI615.out)); (case side2 => repeat (first | (with_reducible first | exact HB.out | apply below_alloc | apply pw_below_drewN | apply below_drew1 | refine below_set ?_ (IsS75.ge HI615.out)) | exact HB.out)); rintro e w32 ⟨rfl, hi, hb, hk⟩; have n0_ := Aside0.mk (hb); have n1_ := Aside0.mk (hi); clear HB; clear HI615; have HB := n0_; have HI615 := n1_; clear n0_ n1_; (try clear hb); (try clear hb2); (try clear hk); (try clear hi)))
          go_ret
          exact ⟨by first | rfl | (simp [errW_none, errW_some] <;> rfl) | (simp [*, errW_none, errW_some] <;> rfl), by repeat (first | (with_reducible first | exact HB.out | apply below_alloc | apply pw_below_drewN | apply below_drew1 | refine below_set ?_ (IsS75.ge HI615.out)) | exact HB.out)⟩
      · rw [if_neg c15] at H
        have c15b0 : (t628 == 2) = false := beq_eq_false_iff_ne.mpr c15
        have c15b1 : (t628 != 2) = true := bne_iff_ne.mpr c15
        obtain rfl := Option.some.inj H
        go_wp2_with (first | ((with_reducible refine gate_callee (f := 35) rfl ?_); refine goesL_ (some 43) rfl rfl Try.func35 (by kernel_rfl) rfl #[.int .i64 601] rfl (by (try simp only [List.map_toArray, List.map_cons, List.map_nil]); first | done | rfl | (simp only [List.length_drop, List.length_take]; rfl)) ?_; (with_reducible refine (fixed_Of.calls 601 t627 _ A13.out).mono ?_); rintro e w33 ⟨rfl, hb⟩; refine ⟨_, rfl, ?_⟩; have n0_ := Aside0.mk (IsS75.below (by repeat (first | (with_reducible first | exact HI615.out | apply IsS75.alloc | apply IsS75.drewN | apply IsS75.drew | apply IsS75.set_0 | apply IsS75.set_1 | apply IsS75.set_2 | apply IsS75.set_3 | apply IsS75.set_4 | apply IsS75.set_5) | exact HI615.out)) hb); have n1_ := Aside0.mk (below_step (by repeat (first | (with_reducible first | exact HB.out | apply below_alloc | apply pw_below_drewN | apply below_drew1 | refine below_set ?_ (IsS75.ge HI615.out)) | exact HB.out)) hb); clear HI615; clear HB; have HI615 := n0_; have HB := n1_; clear n0_ n1_; (try clear hb); (try clear hb2); (try clear hk); (try clear hi)) | ((with_reducible refine gate_callee (f := 28) rfl ?_); refine goesL_ (some 55) rfl rfl Try.func28 (by kernel_rfl) rfl #[.pointer (some ⟨g615, 0, none⟩), .int .i64 (wrap64 (-(wrap64 (t627 + (wrap64 (a1)))))), .int .i64 (wrap64 (1 + (wrap64 (Int.tmod (IntKind.u64.wrap (a2)) 100)))), .int .i64 1000, .int .i64 0] rfl (by (try simp only [List.map_toArray, List.map_cons, List.map_nil]); first | done | rfl | (simp only [List.length_drop, List.length_take]; rfl)) ?_; (with_reducible refine (detect_Detector_Add.calls kj4 g615 x616000_4 x616001_4 x616002_4 x616003_4 x616004_4 x616005_4 (wrap64 (-(wrap64 (t627 + (wrap64 (a1)))))) (wrap64 (1 + (wrap64 (Int.tmod (IntKind.u64.wrap (a2)) 100)))) 1000 0 t628 t629 t630 t631 t632 t633 t634 w _ ?side1 ?side2 A14.out).mono ?_); (case side1 => repeat (first | (with_reducible first | exact HI615.out | apply IsS75.alloc | apply IsS75.drewN | apply IsS75.drew | apply IsS75.set_0 | apply IsS75.set_1 | apply IsS75.set_2 | apply IsS75.set_3 | apply IsS75.set_4 | apply IsS75.set_5) | exact HI615.out)); (case side2 => repeat (first | (with_reducible first | exact HB.out | apply below_alloc | apply pw_below_drewN | apply below_drew1 | refine below_set ?_ (IsS75.ge HI615.out)) | exact HB.out)); rintro e w34 ⟨rfl, hi, hb, hk⟩; refine ⟨_, rfl, ?_⟩; have n0_ := Aside0.mk (hb); have n1_ := Aside0.mk (hi); clear HB; clear HI615; have HB := n0_; have HI615 := n1_; clear n0_ n1_; (try clear hb); (try clear hb2); (try clear hk); (try clear hi)))
        go_ret
        exact ⟨by first | rfl | (simp [errW_none, errW_some] <;> rfl) | (simp [*, errW_none, errW_some] <;> rfl), by repeat (first | (with_reducible first | exact HB.out | apply below_alloc | apply pw_below_drewN | apply below_drew1 | refine below_set ?_ (IsS75.ge HI615.out)) | exact HB.out)⟩
def flywheellaw18_DetectUnder.Pure : Prop := ∀ (l0 : List (S51)) (a1 : Int) (a2 : Int), l0.length ≤ maxLen → l0.length * 32 ≤ 140737488351232 → (∀ x ∈ l0, (Lit.int .i64 x.f0).wf = true ∧ (Lit.int .i64 x.f1).wf = true ∧ (Lit.int .i64 x.f2).wf = true ∧ (Lit.int .i64 x.f3).wf = true) → (Lit.int .u32 a1).wf = true → (Lit.int .i64 a2).wf = true → ∃ k, flywheellaw18_DetectUnder.f k l0 a1 a2 = some true
theorem flywheellaw18_DetectUnder.walk (P : flywheellaw18_DetectUnder.Pure) (A0 : Option Addr) (c0 : Nat) (l0 : List (S51)) (a1 : Int) (a2 : Int) (w : World) (hm0 : l0.length ≤ maxLen) (y0 : l0.length * 32 ≤ 140737488351232) (hw0 : (∀ x ∈ l0, (Lit.int .i64 x.f0).wf = true ∧ (Lit.int .i64 x.f1).wf = true ∧ (Lit.int .i64 x.f2).wf = true ∧ (Lit.int .i64 x.f3).wf = true)) (w1 : (Lit.int .u32 a1).wf = true) (w2 : (Lit.int .i64 a2).wf = true) (hr0 : Kd.C k51 w A0 l0.length l0) (hc0 : l0.length ≤ c0) :
    Calls Try.prog 13 #[.slice A0 l0.length c0, .int .u32 a1, .int .i64 a2] w fun e w' => e = .returned (.bool true) ∧ Below w.heap.size w w' := by
  obtain ⟨k, h⟩ := P l0 a1 a2 hm0 y0 hw0 w1 w2
  refine (flywheellaw18_DetectUnder.calls k A0 c0 l0 a1 a2 true w hr0 hc0 h).mono ?_
  rintro e w' ⟨rfl, hd⟩
  exact ⟨rfl, hd⟩
end Go.Proofs.Ytaelmmbodigheaa.P
end

section
namespace Go.Proofs.Ytaelmmbodigheaa.P
open Go.RowKit Go.Proofs.YtaelmmbodigheaaW.PrintWords Go.Proofs.YtaelmmbodigheaaW.PrintLast Go.Proofs.YtaelmmbodigheaaW.PrintMore
attribute [local go_sem] max2_int min2_int max_two min_two max_three min_three max_four min_four   -- for this text's walks alone
set_option linter.unusedVariables false
set_option linter.unusedSimpArgs false
end Go.Proofs.Ytaelmmbodigheaa.P
end

section
namespace Go.Proofs.Ytaelmmbodigheaa.P
open Go.RowKit Go.Proofs.YtaelmmbodigheaaW.PrintWords Go.Proofs.YtaelmmbodigheaaW.PrintLast Go.Proofs.YtaelmmbodigheaaW.PrintMore
attribute [local go_sem] max2_int min2_int max_two min_two max_three min_three max_four min_four   -- for this text's walks alone
set_option linter.unusedVariables false
set_option linter.unusedSimpArgs false
end Go.Proofs.Ytaelmmbodigheaa.P
end

section
namespace Go.Proofs.Ytaelmmbodigheaa.P
open Go.RowKit Go.Proofs.YtaelmmbodigheaaW.PrintWords Go.Proofs.YtaelmmbodigheaaW.PrintLast Go.Proofs.YtaelmmbodigheaaW.PrintMore
attribute [local go_sem] max2_int min2_int max_two min_two max_three min_three max_four min_four   -- for this text's walks alone
set_option linter.unusedVariables false
set_option linter.unusedSimpArgs false
end Go.Proofs.Ytaelmmbodigheaa.P
end

section
namespace Go.Proofs.Ytaelmmbodigheaa.P
open Go.RowKit Go.Proofs.YtaelmmbodigheaaW.PrintWords Go.Proofs.YtaelmmbodigheaaW.PrintLast Go.Proofs.YtaelmmbodigheaaW.PrintMore
attribute [local go_sem] max2_int min2_int max_two min_two max_three min_three max_four min_four   -- for this text's walks alone
set_option linter.unusedVariables false
set_option linter.unusedSimpArgs false
end Go.Proofs.Ytaelmmbodigheaa.P
end

section
namespace Go.Proofs.Ytaelmmbodigheaa.P
open Go.RowKit Go.Proofs.YtaelmmbodigheaaW.PrintWords Go.Proofs.YtaelmmbodigheaaW.PrintLast Go.Proofs.YtaelmmbodigheaaW.PrintMore
attribute [local go_sem] max2_int min2_int max_two min_two max_three min_three max_four min_four   -- for this text's walks alone
set_option linter.unusedVariables false
set_option linter.unusedSimpArgs false
end Go.Proofs.Ytaelmmbodigheaa.P
end

section
namespace Go.Proofs.Ytaelmmbodigheaa.P
open Go.RowKit Go.Proofs.YtaelmmbodigheaaW.PrintWords Go.Proofs.YtaelmmbodigheaaW.PrintLast Go.Proofs.YtaelmmbodigheaaW.PrintMore
attribute [local go_sem] max2_int min2_int max_two min_two max_three min_three max_four min_four   -- for this text's walks alone
set_option linter.unusedVariables false
set_option linter.unusedSimpArgs false
end Go.Proofs.Ytaelmmbodigheaa.P
end

section
namespace Go.Proofs.Ytaelmmbodigheaa.P
open Go.RowKit Go.Proofs.YtaelmmbodigheaaW.PrintWords Go.Proofs.YtaelmmbodigheaaW.PrintLast Go.Proofs.YtaelmmbodigheaaW.PrintMore
attribute [local go_sem] max2_int min2_int max_two min_two max_three min_three max_four min_four   -- for this text's walks alone
set_option linter.unusedVariables false
set_option linter.unusedSimpArgs false
end Go.Proofs.Ytaelmmbodigheaa.P
end

-- PUT TOGETHER by a program of this session: of the claim's texts, what is used
import Derived.Test.YtmcfgaokimlngaaKTrendLines5
import Derived.Test.YtmcfgaokimlngaaKTrendLines7
import Derived.Test.YtmcfgaokimlngaaKTrendLines9
section
namespace Go.Proofs.Ytmcfgaokimlngaa.P
open Go.RowKit Go.Proofs.YtmcfgaokimlngaaW.PrintWords Go.Proofs.YtmcfgaokimlngaaW.PrintLast Go.Proofs.YtmcfgaokimlngaaW.PrintMore
attribute [local go_sem] max2_int min2_int max_two min_two max_three min_three max_four min_four   -- for this text's walks alone
set_option linter.unusedVariables false
set_option linter.unusedSimpArgs false
def trend_Line.l0 : Nat → List Int → List Int → List Int → List Int → Int → Int → Option (Int)
 | 0, _, _, _, _, _, _ => none
 | k + 1, x0, x1, x8, x9, x45, x46 => if x46 < x45 then (if 0 ≤ x46 then (if x46 < (x0.length : Int) then (if x46 < (x1.length : Int) then ((sat_Mul.f (rd x0 x46) (rd x1 x46)).bind fun t180 => (if x8.length < 17592186044416 then ((sat_Mul.f (rd x0 x46) (rd x0 x46)).bind fun t186 => (if x9.length < 17592186044416 then (trend_Line.l0 k x0 x1 (x8 ++ [t180]) (x9 ++ [t186]) x45 (wrap64 (x46 + 1))) else (none))) else (none))) else (none)) else (none)) else (none)) else ((sat_Sum.f k x8).bind fun t190 => ((sat_Sum.f k x9).bind fun t191 => ((fixed_Div.f t190 t191).bind fun t192 => (some t192))))
def trend_Line.f (k : Nat) (l0 : List Int) (l1 : List Int) : Option (Int) := if (mn (mn (l0.length : Int) (l1.length : Int)) 64) < 2 then (some 0) else (if 0 ≤ (mn (mn (l0.length : Int) (l1.length : Int)) 64) then (if (mn (mn (l0.length : Int) (l1.length : Int)) 64) ≤ (l0.length : Int) then (if 0 < (l0.length : Int) then ((trend_less.f k (l0.take ((mn (mn (l0.length : Int) (l1.length : Int)) 64) : Int).toNat) (rd l0 0)).bind fun t162 => (if (mn (mn (l0.length : Int) (l1.length : Int)) 64) ≤ (l1.length : Int) then (if 0 < (l1.length : Int) then ((trend_less.f k (l1.take ((mn (mn (l0.length : Int) (l1.length : Int)) 64) : Int).toNat) (rd l1 0)).bind fun t167 => ((trend_sums.f k t162 t167).bind fun bt170 => ((trend_off.f k t162 bt170.1).bind fun t172 => ((trend_off.f k t167 bt170.2).bind fun t175 => (trend_Line.l0 k t172 t175 ([] : List Int) ([] : List Int) (t172.length : Int) 0))))) else (none)) else (none))) else (none)) else (none)) else (none))
theorem trend_Line.mono_l : ∀ k, (∀ y0 y1 y2 y3 y4 y5, LeO (trend_Line.l0 k y0 y1 y2 y3 y4 y5) (trend_Line.l0 (k + 1) y0 y1 y2 y3 y4 y5))
 | 0 => fun _ _ _ _ _ _ r h => by simp [trend_Line.l0] at h
 | k + 1 => by
  have ih0 := trend_Line.mono_l k
  ·intro y0 y1 y2 y3 y4 y5
   unfold trend_Line.l0
   repeat' first
   | (with_reducible exact ih0 _ _ _ _ _ _)
   | (with_reducible exact sat_Sum.mono _ _)
   | (with_reducible exact trend_less.mono _ _ _)
   | (with_reducible exact trend_off.mono _ _ _)
   | (with_reducible exact trend_sums.mono _ _ _)
   | (with_reducible exact LeO.refl _)
   | (with_reducible exact LeO.none _)
   | (with_reducible refine LeO.ite ?_ ?_)
   | (with_reducible refine LeO.bind ?_ (fun _ => ?_))
   | exact ih0 _ _ _ _ _ _
   | exact sat_Sum.mono _ _
   | exact trend_less.mono _ _ _
   | exact trend_off.mono _ _ _
   | exact trend_sums.mono _ _ _
   | exact LeO.none _
   | refine LeO.ite ?_ ?_
   | refine LeO.bind ?_ (fun _ => ?_)
theorem trend_Line.mono : ∀ a0 a1 k, LeO (trend_Line.f k a0 a1) (trend_Line.f (k + 1) a0 a1) := by
 intro a0 a1 k
 have ih0 := trend_Line.mono_l k
 unfold trend_Line.f
 repeat' first
   | (with_reducible exact ih0 _ _ _ _ _ _)
   | (with_reducible exact sat_Sum.mono _ _)
   | (with_reducible exact trend_less.mono _ _ _)
   | (with_reducible exact trend_off.mono _ _ _)
   | (with_reducible exact trend_sums.mono _ _ _)
   | (with_reducible exact LeO.refl _)
   | (with_reducible exact LeO.none _)
   | (with_reducible refine LeO.ite ?_ ?_)
   | (with_reducible refine LeO.bind ?_ (fun _ => ?_))
   | exact ih0 _ _ _ _ _ _
   | exact sat_Sum.mono _ _
   | exact trend_less.mono _ _ _
   | exact trend_off.mono _ _ _
   | exact trend_sums.mono _ _ _
   | exact LeO.none _
   | refine LeO.ite ?_ ?_
   | refine LeO.bind ?_ (fun _ => ?_)
def trend_Line.T4 : Bool × List (List Nat × List Nat) := (true, [([], []), ([], []), ([0, 1], [0, 1]), ([], []), ([3], [3]), ([4], [4]), ([2, 5], [2, 5]), ([], []), ([], []), ([7, 8], [7, 8]), ([], []), ([10], [10]), ([11], [11]), ([9, 12, 6], [9, 12]), ([6, 13, 0, 1, 2, 3, 4, 5, 6], [0, 3, 6]), ([13, 14, 0, 1, 2, 3, 4, 5, 6, 7, 8, 9, 10, 11, 12, 13, 14], [7, 10, 13])])
def trend_Line.B4 : List Nat := [0, 0, 3, 0, 8, 24, 63, 0, 0, 384, 0, 1024, 3072, 8191, 16383, 32767]
theorem trend_Line.tab4 : rtab .any (opsOf Try.f11 4) = trend_Line.T4 := by kernel_rfl
theorem trend_Line.bits4 : waitsOk trend_Line.T4.2 trend_Line.B4 = true := by kernel_rfl
def trend_Line.T11 : Bool × List (List Nat × List Nat) := (true, [([], []), ([], []), ([], []), ([1, 2], [1, 2]), ([3], [3]), ([], []), ([], []), ([5, 6], [5, 6]), ([7], [7]), ([4, 8], [4, 8]), ([9], [9]), ([0, 10, 9], [0, 10]), ([11, 11, 0, 1, 2, 3, 4, 5, 6, 7, 8, 9, 10, 11], [0, 11])])
def trend_Line.B11 : List Nat := [0, 0, 0, 6, 14, 0, 0, 96, 224, 510, 1022, 2047, 4095]
theorem trend_Line.tab11 : rtab .any (opsOf Try.f11 11) = trend_Line.T11 := by kernel_rfl
theorem trend_Line.bits11 : waitsOk trend_Line.T11.2 trend_Line.B11 = true := by kernel_rfl
def trend_Line.T12 : Bool × List (List Nat × List Nat) := (true, [([], []), ([], []), ([], []), ([1, 2], [1, 2]), ([3], [3]), ([], []), ([], []), ([5, 6], [5, 6]), ([7], [7]), ([4, 8], [4, 8]), ([9], [9]), ([0, 10, 9], [0, 10]), ([11, 11, 0, 1, 2, 3, 4, 5, 6, 7, 8, 9, 10, 11], [0, 11])])
def trend_Line.B12 : List Nat := [0, 0, 0, 6, 14, 0, 0, 96, 224, 510, 1022, 2047, 4095]
theorem trend_Line.tab12 : rtab .any (opsOf Try.f11 12) = trend_Line.T12 := by kernel_rfl
theorem trend_Line.bits12 : waitsOk trend_Line.T12.2 trend_Line.B12 = true := by kernel_rfl
set_option maxHeartbeats 8000000 in
set_option maxRecDepth 100000 in
theorem trend_Line.calls (k : Nat) (A0 : Option Addr) (c0 : Nat) (l0 : List Int) (A1 : Option Addr) (c1 : Nat) (l1 : List Int) (r : Int) (w : World) (hr0 : Kd.C (Kd.int .i64) w A0 l0.length l0) (hc0 : l0.length ≤ c0) (hr1 : Kd.C (Kd.int .i64) w A1 l1.length l1) (hc1 : l1.length ≤ c1) (h : trend_Line.f k l0 l1 = some r) :
  Calls Try.prog 11 #[.slice A0 l0.length c0, .slice A1 l1.length c1] w fun e w' => e = .returned (.int .i64 r) ∧ Below w.heap.size w w' := by
 have HR0 := Aside0.mk hr0
 have HC0 := Aside0.mk hc0
 clear hr0 hc0
 have HR1 := Aside0.mk hr1
 have HC1 := Aside0.mk hc1
 clear hr1 hc1
 have HB := Aside0.mk (Below.refl w.heap.size w)
 have H : (if (mn (mn (l0.length : Int) (l1.length : Int)) 64) < 2 then (some 0) else (if 0 ≤ (mn (mn (l0.length : Int) (l1.length : Int)) 64) then (if (mn (mn (l0.length : Int) (l1.length : Int)) 64) ≤ (l0.length : Int) then (if 0 < (l0.length : Int) then ((trend_less.f k (l0.take ((mn (mn (l0.length : Int) (l1.length : Int)) 64) : Int).toNat) (rd l0 0)).bind fun t162 => (if (mn (mn (l0.length : Int) (l1.length : Int)) 64) ≤ (l1.length : Int) then (if 0 < (l1.length : Int) then ((trend_less.f k (l1.take ((mn (mn (l0.length : Int) (l1.length : Int)) 64) : Int).toNat) (rd l1 0)).bind fun t167 => ((trend_sums.f k t162 t167).bind fun bt170 => ((trend_off.f k t162 bt170.1).bind fun t172 => ((trend_off.f k t167 bt170.2).bind fun t175 => (trend_Line.l0 k t172 t175 ([] : List Int) ([] : List Int) (t172.length : Int) 0))))) else (none)) else (none))) else (none)) else (none)) else (none))) = some r := h
 clear h
 obtain ⟨ji3, hji3⟩ : ∃ j_ : Int, (mn (l0.length : Int) (l1.length : Int)) = j_ := ⟨_, rfl⟩
 replace H : (if (mn (ji3) 64) < 2 then (some 0) else (if 0 ≤ (mn (ji3) 64) then (if (mn (ji3) 64) ≤ (l0.length : Int) then (if 0 < (l0.length : Int) then ((trend_less.f k (l0.take ((mn (ji3) 64) : Int).toNat) (rd l0 0)).bind fun t162 => (if (mn (ji3) 64) ≤ (l1.length : Int) then (if 0 < (l1.length : Int) then ((trend_less.f k (l1.take ((mn (ji3) 64) : Int).toNat) (rd l1 0)).bind fun t167 => ((trend_sums.f k t162 t167).bind fun bt170 => ((trend_off.f k t162 bt170.1).bind fun t172 => ((trend_off.f k t167 bt170.2).bind fun t175 => (trend_Line.l0 k t172 t175 ([] : List Int) ([] : List Int) (t172.length : Int) 0))))) else (none)) else (none))) else (none)) else (none)) else (none))) = some r := by first | (rw [hji3] at H; exact H) | (simp only [hji3] at H ⊢; exact H)
 (try (have hji3l : 0 ≤ ji3 := by (rw [← hji3]; unfold mn; (repeat' split) <;> omega)))
 (try (have hji3m : 0 ≤ ji3 := by omega))
 have hji3_ : (if (l1.length : Int) < (l0.length : Int) then (l1.length : Int) else (l0.length : Int)) = ji3 := hji3
 have hji3n_ : (if l1.length < l0.length then (l1.length : Int) else (l0.length : Int)) = ji3 := by rw [← hji3_]; simp only [Int.ofNat_lt]
 obtain ⟨ji4, hji4⟩ : ∃ j_ : Int, (mn (ji3) 64) = j_ := ⟨_, rfl⟩
 replace H : (if (ji4) < 2 then (some 0) else (if 0 ≤ (ji4) then (if (ji4) ≤ (l0.length : Int) then (if 0 < (l0.length : Int) then ((trend_less.f k (l0.take ((ji4) : Int).toNat) (rd l0 0)).bind fun t162 => (if (ji4) ≤ (l1.length : Int) then (if 0 < (l1.length : Int) then ((trend_less.f k (l1.take ((ji4) : Int).toNat) (rd l1 0)).bind fun t167 => ((trend_sums.f k t162 t167).bind fun bt170 => ((trend_off.f k t162 bt170.1).bind fun t172 => ((trend_off.f k t167 bt170.2).bind fun t175 => (trend_Line.l0 k t172 t175 ([] : List Int) ([] : List Int) (t172.length : Int) 0))))) else (none)) else (none))) else (none)) else (none)) else (none))) = some r := by first | (rw [hji4] at H; exact H) | (simp only [hji4] at H ⊢; exact H)
 have hji4_ : (if 64 < (ji3) then 64 else (ji3)) = ji4 := hji4
 by_cases c5 : (ji4) < 2
 ·rw [if_pos c5] at H
  have c5b0 : decide ((ji4) < 2) = true := decide_eq_true c5
  clear c5
  obtain rfl := Option.some.inj H
  go_enter Try.func11, Try.ntmps11
  go_wp2
  go_ret
  exact ⟨by first | rfl | (simp [errW_none, errW_some] <;> rfl) | (simp only [← hji3, ← hji4]; first | rfl | (simp [errW_none, errW_some] <;> rfl)) | (simp [*, errW_none, errW_some] <;> rfl), by repeat (first | (with_reducible first | exact HB.out | apply below_alloc | apply pw_below_drewN | apply below_drew1) | exact HB.out)⟩
 ·rw [if_neg c5] at H
  have c5b0 : decide ((ji4) < 2) = false := decide_eq_false c5
  clear c5
  by_cases c6 : 0 ≤ (ji4)
  ·rw [if_pos c6] at H
   have c6b0 := eq_true c6
   have c6b1 : decide (0 ≤ (ji4)) = true := decide_eq_true c6
   clear c6
   by_cases c7 : (ji4) ≤ (l0.length : Int)
   ·rw [if_pos c7] at H
    have c7b0 := eq_true c7
    have c7b1 : decide ((ji4) ≤ (l0.length : Int)) = true := decide_eq_true c7
    clear c7
    by_cases c8 : 0 < (l0.length : Int)
    ·rw [if_pos c8] at H
     have c8b0 : decide (0 < (l0.length : Int)) = true := decide_eq_true c8
     have c8b1 : decide (0 < l0.length) = true := decide_eq_true (by omega)
     clear c8
     replace H := Option.bind_eq_some_iff.mp H
     obtain ⟨t162, A90, H⟩ := H
     replace H : (if (ji4) ≤ (l1.length : Int) then (if 0 < (l1.length : Int) then ((trend_less.f k (l1.take ((ji4) : Int).toNat) (rd l1 0)).bind fun t167 => ((trend_sums.f k t162 t167).bind fun bt170 => ((trend_off.f k t162 bt170.1).bind fun t172 => ((trend_off.f k t167 bt170.2).bind fun t175 => (trend_Line.l0 k t172 t175 ([] : List Int) ([] : List Int) (t172.length : Int) 0))))) else (none)) else (none)) = some r := H
     have A9 := Aside0.mk A90
     clear A90
     have c10b0 := eq_true (of_decide_eq_true (by first | (with_reducible assumption) | assumption) : 0 ≤ (ji4))
     by_cases c11 : (ji4) ≤ (l1.length : Int)
     ·rw [if_pos c11] at H
      have c11b0 := eq_true c11
      have c11b1 : decide ((ji4) ≤ (l1.length : Int)) = true := decide_eq_true c11
      clear c11
      by_cases c12 : 0 < (l1.length : Int)
      ·rw [if_pos c12] at H
       have c12b0 : decide (0 < (l1.length : Int)) = true := decide_eq_true c12
       have c12b1 : decide (0 < l1.length) = true := decide_eq_true (by omega)
       clear c12
       replace H := Option.bind_eq_some_iff.mp H
       obtain ⟨t167, A130, H⟩ := H
       replace H : ((trend_sums.f k t162 t167).bind fun bt170 => ((trend_off.f k t162 bt170.1).bind fun t172 => ((trend_off.f k t167 bt170.2).bind fun t175 => (trend_Line.l0 k t172 t175 ([] : List Int) ([] : List Int) (t172.length : Int) 0)))) = some r := H
       have A13 := Aside0.mk A130
       clear A130
       replace H := Option.bind_eq_some_iff.mp H
       obtain ⟨⟨t170, t171⟩, A140, H⟩ := H
       replace H : ((trend_off.f k t162 t170).bind fun t172 => ((trend_off.f k t167 t171).bind fun t175 => (trend_Line.l0 k t172 t175 ([] : List Int) ([] : List Int) (t172.length : Int) 0))) = some r := H
       have A14 := Aside0.mk A140
       clear A140
       replace H := Option.bind_eq_some_iff.mp H
       obtain ⟨t172, A150, H⟩ := H
       replace H : ((trend_off.f k t167 t171).bind fun t175 => (trend_Line.l0 k t172 t175 ([] : List Int) ([] : List Int) (t172.length : Int) 0)) = some r := H
       have A15 := Aside0.mk A150
       clear A150
       replace H := Option.bind_eq_some_iff.mp H
       obtain ⟨t175, A160, H⟩ := H
       replace H : (trend_Line.l0 k t172 t175 ([] : List Int) ([] : List Int) (t172.length : Int) 0) = some r := H
       have A16 := Aside0.mk A160
       clear A160
       have H' := Aside0.mk H
       clear H
       go_enter Try.func11, Try.ntmps11
       try go_wp2
       have n0_ := Aside0.mk (below_drew1 HB.out)
       clear HB
       have HB := n0_
       clear n0_
       obtain ⟨i018, hi018, _, hsz18, _⟩ := info_parts info2
       obtain ⟨hcut18, hA18, hC18⟩ := print_take_of (P := Try.prog) (Value.int .i64) 0 22 2 .i64 Try.underlying22 hi018 hsz18 A0 c0 l0 (ji4) (of_decide_eq_true (by first | (with_reducible assumption) | assumption)) (of_decide_eq_true (by first | (with_reducible assumption) | assumption)) HC0.out
       have HR160 := Aside0.mk (Kd.C_of_reads (h1 := fun _ => rfl) (hA18 _ (Kd.reads_of_C HR0.out)))
       have HC160 := Aside0.mk hC18
       clear hA18 hC18 hi018 hsz18
       have p161 : 0 ≤ (0 : Int) := (by omega)
       have q161 : 0 < (l0.length : Int) := of_decide_eq_true (by first | (with_reducible assumption) | assumption)
       obtain ⟨ad161, e161, hx161_0⟩ := Kd.at_int HR0.out 0 p161 q161
       have hw161_0 := hx161_0
       (try rw [show ((0 : Int)).toNat = 0 from rfl] at hw161_0)
       (try rw [show 0 * 1 = 0 from rfl] at hw161_0)
       (try rw [Addr.add_zero'] at hw161_0)
       cases e161
       have qi161 : (0 < l0.length) = True := eq_true (by omega)
       (try rw [show ((0 : Int)).toNat = 0 from rfl] at hx161_0)
       (try rw [Addr.add_zero'] at hx161_0)
       replace hx161_0 := (HB.out.cell (World.block_lt_of_cell? w _ hx161_0)).trans hx161_0
       replace p161 := eq_true p161
       replace q161 := eq_true q161
       obtain ⟨i019, hi019, _, hsz19, _⟩ := info_parts info2
       obtain ⟨hcut19, hA19, hC19⟩ := print_take_of (P := Try.prog) (Value.int .i64) 0 22 2 .i64 Try.underlying22 hi019 hsz19 A1 c1 l1 (ji4) (of_decide_eq_true (by first | (with_reducible assumption) | assumption)) (of_decide_eq_true (by first | (with_reducible assumption) | assumption)) HC1.out
       have HR165 := Aside0.mk (Kd.C_of_reads (h1 := fun _ => rfl) (hA19 _ (Kd.reads_of_C HR1.out)))
       have HC165 := Aside0.mk hC19
       clear hA19 hC19 hi019 hsz19
       have p166 : 0 ≤ (0 : Int) := (by omega)
       have q166 : 0 < (l1.length : Int) := of_decide_eq_true (by first | (with_reducible assumption) | assumption)
       obtain ⟨ad166, e166, hx166_0⟩ := Kd.at_int HR1.out 0 p166 q166
       have hw166_0 := hx166_0
       (try rw [show ((0 : Int)).toNat = 0 from rfl] at hw166_0)
       (try rw [show 0 * 1 = 0 from rfl] at hw166_0)
       (try rw [Addr.add_zero'] at hw166_0)
       cases e166
       have qi166 : (0 < l1.length) = True := eq_true (by omega)
       (try rw [show ((0 : Int)).toNat = 0 from rfl] at hx166_0)
       (try rw [Addr.add_zero'] at hx166_0)
       replace hx166_0 := (HB.out.cell (World.block_lt_of_cell? w _ hx166_0)).trans hx166_0
       replace p166 := eq_true p166
       replace q166 := eq_true q166
       refine start_ (n := 16) (S := fun w' => w'.cell? ad161 = some (.int .i64 (rd l0 0)) ∧ w'.cell? ad166 = some (.int .i64 (rd l1 0))) (ds := []) #[false, false, false, false, false, false, false, false, false, false, false, false, false, false, false, false] (by kernel_rfl) rfl rfl ⟨((HB.out.cell (World.block_lt_of_cell? w _ hw161_0)).trans hw161_0), ((HB.out.cell (World.block_lt_of_cell? w _ hw166_0)).trans hw166_0)⟩ (fun hHeld => ?_); refine with_tabW trend_Line.tab4 trend_Line.bits4 (fun HT_ HW_ => ?_)
       generalize w.drew = w17 at HB HR160 HR165 hx161_0 hx166_0 hHeld ⊢
       refine pure_ (i := 0) (N := some 18) (v := ?_) (a' := ?_) (bl 16 1) rfl rfl (any_of HT_.out (by kernel_rfl)) (fun _ _ _ h => h) (Or.inl ⟨by rfl, ?_⟩) ?_ ?_
       rotate_left
       ·intro w'
        go_simp
        with_reducible rfl
       rotate_left
       ·simp only [puts_]
        rfl
       refine pure_ (i := 1) (N := some 19) (v := ?_) (a' := ?_) (bl 16 3) rfl rfl (any_of HT_.out (by kernel_rfl)) (fun _ _ _ h => h) (Or.inl ⟨by rfl, ?_⟩) ?_ ?_
       rotate_left
       ·intro w'
        go_simp
        with_reducible rfl
       rotate_left
       ·simp only [puts_]
        rfl
       refine pure_ (i := 2) (N := some 20) (v := ?_) (a' := ?_) (bl 16 7) rfl rfl (any_of HT_.out (by kernel_rfl)) (fun _ _ _ h => h) (Or.inl ⟨by rfl, ?_⟩) ?_ ?_
       rotate_left
       ·intro w'
        go_simp
        with_reducible rfl
       rotate_left
       ·simp only [puts_]
        rfl
       refine pure_ (i := 3) (N := some 21) (v := ?_) (a' := ?_) (bl 16 15) rfl rfl (any_of HT_.out (by kernel_rfl)) (fun _ _ _ h => h) (Or.inl ⟨by rfl, ?_⟩) ?_ ?_
       rotate_left
       ·intro w'
        go_simp
        with_reducible rfl
       rotate_left
       ·simp only [puts_]
        rfl
       refine pure_ (i := 4) (N := some 22) (v := ?_) (a' := ?_) (bl 16 31) rfl rfl (any_of HT_.out (by kernel_rfl)) (fun _ _ _ h => h) (Or.inl ⟨by rfl, ?_⟩) ?_ ?_
       rotate_left
       ·intro w'
        go_simp
        with_reducible rfl
       rotate_left
       ·simp only [puts_]
        rfl
       refine pure_ (i := 7) (N := some 25) (v := ?_) (a' := ?_) (bl 16 159) rfl rfl (any_of HT_.out (by kernel_rfl)) (fun _ _ _ h => h) (Or.inl ⟨by rfl, ?_⟩) ?_ ?_
       rotate_left
       ·intro w'
        go_simp
        with_reducible rfl
       rotate_left
       ·simp only [puts_]
        rfl
       refine pure_ (i := 8) (N := some 26) (v := ?_) (a' := ?_) (bl 16 415) rfl rfl (any_of HT_.out (by kernel_rfl)) (fun _ _ _ h => h) (Or.inl ⟨by rfl, ?_⟩) ?_ ?_
       rotate_left
       ·intro w'
        go_simp
        with_reducible rfl
       rotate_left
       ·simp only [puts_]
        rfl
       refine pure_ (i := 9) (N := some 27) (v := ?_) (a' := ?_) (bl 16 927) rfl rfl (any_of HT_.out (by kernel_rfl)) (fun _ _ _ h => h) (Or.inl ⟨by rfl, ?_⟩) ?_ ?_
       rotate_left
       ·intro w'
        go_simp
        with_reducible rfl
       rotate_left
       ·simp only [puts_]
        rfl
       refine pure_ (i := 10) (N := some 28) (v := ?_) (a' := ?_) (bl 16 1951) rfl rfl (any_of HT_.out (by kernel_rfl)) (fun _ _ _ h => h) (Or.inl ⟨by rfl, ?_⟩) ?_ ?_
       rotate_left
       ·intro w'
        go_simp
        with_reducible rfl
       rotate_left
       ·simp only [puts_]
        rfl
       refine pure_ (i := 11) (N := some 29) (v := ?_) (a' := ?_) (bl 16 3999) rfl rfl (any_of HT_.out (by kernel_rfl)) (fun _ _ _ h => h) (Or.inl ⟨by rfl, ?_⟩) ?_ ?_
       rotate_left
       ·intro w'
        go_simp
        with_reducible rfl
       rotate_left
       ·simp only [puts_]
        rfl
       refine take_ (i := 5) (N := some 23) (v := ?_) (a' := ?_) (bl 16 4031) rfl rfl (take_ofW HT_.out HW_.out (by kernel_rfl)) (fun _ _ _ h => h) (Or.inl ⟨by rfl, ?_⟩) hHeld ?_ ?_
       rotate_left
       ·rintro w' ⟨s0, s1⟩
        go_simp
        with_reducible rfl
       rotate_left
       ·simp only [puts_]
        rfl
       refine take_ (i := 12) (N := some 30) (v := ?_) (a' := ?_) (bl 16 8127) rfl rfl (take_ofW HT_.out HW_.out (by kernel_rfl)) (fun _ _ _ h => h) (Or.inl ⟨by rfl, ?_⟩) hHeld ?_ ?_
       rotate_left
       ·rintro w' ⟨s0, s1⟩
        go_simp
        with_reducible rfl
       rotate_left
       ·simp only [puts_]
        rfl
       refine one_ (i := 6) (N := some 24) (bl 16 8191) rfl rfl (one_of HT_.out (by kernel_rfl)) (by decide) (fun K hK => ?_)
       refine goes_ Try.func24 (by kernel_rfl) rfl #[.slice (some ad161) (l0.take ((ji4) : Int).toNat).length c0, .int .i64 (rd l0 0)] (by rfl) rfl rfl (by (try simp only [List.map_toArray, List.map_cons, List.map_nil]); first | done | (rw [show (l0.take ((ji4) : Int).toNat).length = (ji4).toNat from (by rw [List.length_take]; have h_ : ((ji4) : Int) ≤ (l0.length : Int) := of_decide_eq_true (by first | (with_reducible assumption) | assumption); omega)] <;> rfl) | (simp only [hji4]; rfl) | rfl | (simp only [List.length_drop, List.length_take]; rfl)) ?_
       with_reducible refine (trend_less.calls k _ _ (l0.take ((ji4) : Int).toNat) (rd l0 0) t162 _ ?side1 ?side2 A9.out).mono ?_
       (case side1 => repeat (first | exact (Kd.C_below HR160.out HB.out) | (with_reducible refine Kd.C_alloc ?_ _) | (with_reducible refine Kd.C_drewN ?_ _) | (with_reducible refine Kd.C_drew ?_)))
       (case side2 => exact HC160.out)
       rintro e w20 ⟨v163, rfl, ho0, hb⟩
       refine ⟨_, rfl, ?_⟩
       have n0_ := Aside0.mk (Kd.R_lower ho0 (below_size (by repeat (first | (with_reducible first | exact HB.out | apply below_alloc | apply pw_below_drewN | apply below_drew1) | exact HB.out))))
       have n1_ := Aside0.mk (below_step (by repeat (first | (with_reducible first | exact HB.out | apply below_alloc | apply pw_below_drewN | apply below_drew1) | exact HB.out)) hb)
       clear HB
       have HO164 := n0_
       have HB := n1_
       clear n0_ n1_
       (try clear hb)
       (try clear hb2)
       (try clear hk)
       (try clear hi)
       (try clear ho0)
       refine hK.out _ _ ⟨((HB.out.cell (World.block_lt_of_cell? w _ hw161_0)).trans hw161_0), ((HB.out.cell (World.block_lt_of_cell? w _ hw166_0)).trans hw166_0)⟩ (fun hHeld => ?_)
       clear hK K
       refine norm_ (a' := ?_) ?_ ?_
       rotate_left
       ·show Act.put _ (some 24) _ = _
        simp only [puts_]
        rfl
       refine one_ (i := 13) (N := some 31) (bl 16 16383) rfl rfl (one_of HT_.out (by kernel_rfl)) (by decide) (fun K hK => ?_)
       refine goes_ Try.func24 (by kernel_rfl) rfl #[.slice (some ad166) (l1.take ((ji4) : Int).toNat).length c1, .int .i64 (rd l1 0)] (by rfl) rfl rfl (by (try simp only [List.map_toArray, List.map_cons, List.map_nil]); first | done | (rw [show (l1.take ((ji4) : Int).toNat).length = (ji4).toNat from (by rw [List.length_take]; have h_ : ((ji4) : Int) ≤ (l1.length : Int) := of_decide_eq_true (by first | (with_reducible assumption) | assumption); omega)] <;> rfl) | (simp only [hji4]; rfl) | rfl | (simp only [List.length_drop, List.length_take]; rfl)) ?_
       with_reducible refine (trend_less.calls k _ _ (l1.take ((ji4) : Int).toNat) (rd l1 0) t167 _ ?side1 ?side2 A13.out).mono ?_
       (case side1 => repeat (first | exact (Kd.C_below HR165.out HB.out) | (with_reducible refine Kd.C_alloc ?_ _) | (with_reducible refine Kd.C_drewN ?_ _) | (with_reducible refine Kd.C_drew ?_)))
       (case side2 => exact HC165.out)
       rintro e w21 ⟨v168, rfl, ho0, hb⟩
       refine ⟨_, rfl, ?_⟩
       have n0_ := Aside0.mk (Kd.R_elder' (by (with_reducible repeat (first | apply Kd.R_alloc | apply Kd.R_drewN | apply Kd.R_drew)); exact HO164.out) (Kd.R_base ho0) hb)
       have n1_ := Aside0.mk (Kd.R_lower (Kd.R_new' ho0 (Kd.R_lt (by (with_reducible repeat (first | apply Kd.R_alloc | apply Kd.R_drewN | apply Kd.R_drew)); exact HO164.out))) (below_size (by repeat (first | (with_reducible first | exact HB.out | apply below_alloc | apply pw_below_drewN | apply below_drew1) | exact HB.out))))
       have n2_ := Aside0.mk (below_step (by repeat (first | (with_reducible first | exact HB.out | apply below_alloc | apply pw_below_drewN | apply below_drew1) | exact HB.out)) hb)
       clear HO164
       clear HB
       have HO164 := n0_
       have HO169 := n1_
       have HB := n2_
       clear n0_ n1_ n2_
       (try clear hb)
       (try clear hb2)
       (try clear hk)
       (try clear hi)
       (try clear ho0)
       refine hK.out _ _ ⟨((HB.out.cell (World.block_lt_of_cell? w _ hw161_0)).trans hw161_0), ((HB.out.cell (World.block_lt_of_cell? w _ hw166_0)).trans hw166_0)⟩ (fun hHeld => ?_)
       clear hK K
       refine norm_ (a' := ?_) ?_ ?_
       rotate_left
       ·show Act.put _ (some 31) _ = _
        simp only [puts_]
        rfl
       refine pure_ (i := 14) (N := some 0) (v := ?_) (a' := ?_) (bl 16 32767) rfl rfl (any_of HT_.out (by kernel_rfl)) (fun _ _ _ h => h) (Or.inl ⟨by rfl, ?_⟩) ?_ ?_
       rotate_left
       ·intro w'
        go_simp
        with_reducible rfl
       rotate_left
       ·simp only [puts_]
        rfl
       refine pure_ (i := 15) (N := some 1) (v := ?_) (a' := ?_) (bl 16 65535) rfl rfl (any_of HT_.out (by kernel_rfl)) (fun _ _ _ h => h) (Or.inl ⟨by rfl, ?_⟩) ?_ ?_
       rotate_left
       ·intro w'
        go_simp
        with_reducible rfl
       rotate_left
       ·simp only [puts_]
        rfl
       refine done_ (done_of HT_.out (by kernel_rfl)) ?_
       obtain ⟨Ao22, co22, eo22⟩ := Kd.R_slice HO164.out
       subst eo22
       obtain ⟨Ao23, co23, eo23⟩ := Kd.R_slice HO169.out
       subst eo23
       try go_wp2_with (first | ((with_reducible refine gate_callee (f := 25) rfl ?_); refine goesL_ (some 35) rfl rfl Try.func25 (by kernel_rfl) rfl #[.slice Ao22 t162.length co22, .slice Ao23 t167.length co23] rfl (by (try simp only [List.map_toArray, List.map_cons, List.map_nil]); first | done | rfl | (simp only [List.length_drop, List.length_take]; rfl)) ?_; (with_reducible refine (trend_sums.calls k _ _ t162 _ _ t167 t170 t171 _ ?side1 ?side2 ?side3 ?side4 A14.out).mono ?_); (case side1 => repeat (first | exact (Kd.R_reads' HO164.out).2.2 | (with_reducible refine Kd.C_alloc ?_ _) | (with_reducible refine Kd.C_drewN ?_ _) | (with_reducible refine Kd.C_drew ?_))); (case side2 => exact (Kd.R_reads' HO164.out).2.1); (case side3 => repeat (first | exact (Kd.R_reads' HO169.out).2.2 | (with_reducible refine Kd.C_alloc ?_ _) | (with_reducible refine Kd.C_drewN ?_ _) | (with_reducible refine Kd.C_drew ?_))); (case side4 => exact (Kd.R_reads' HO169.out).2.1); rintro e w24 ⟨rfl, hb⟩; refine ⟨_, rfl, ?_⟩; have n0_ := Aside0.mk (Kd.R_below (by (with_reducible repeat (first | apply Kd.R_alloc | apply Kd.R_drewN | apply Kd.R_drew)); exact HO164.out) hb); have n1_ := Aside0.mk (Kd.R_below (by (with_reducible repeat (first | apply Kd.R_alloc | apply Kd.R_drewN | apply Kd.R_drew)); exact HO169.out) hb); have n2_ := Aside0.mk (below_step (by repeat (first | (with_reducible first | exact HB.out | apply below_alloc | apply pw_below_drewN | apply below_drew1) | exact HB.out)) hb); clear HO164; clear HO169; clear HB; have HO164 := n0_; have HO169 := n1_; have HB := n2_; clear n0_ n1_ n2_; (try clear hb); (try clear hb2); (try clear hk); (try clear hi)) | ((with_reducible refine gate_callee (f := 26) rfl ?_); refine goesL_ (some 40) rfl rfl Try.func26 (by kernel_rfl) rfl #[.slice Ao22 t162.length co22, .int .i64 t170] rfl (by (try simp only [List.map_toArray, List.map_cons, List.map_nil]); first | done | rfl | (simp only [List.length_drop, List.length_take]; rfl)) ?_; (with_reducible refine (trend_off.calls k _ _ t162 t170 t172 _ ?side1 ?side2 A15.out).mono ?_); (case side1 => repeat (first | exact (Kd.R_reads' HO164.out).2.2 | (with_reducible refine Kd.C_alloc ?_ _) | (with_reducible refine Kd.C_drewN ?_ _) | (with_reducible refine Kd.C_drew ?_))); (case side2 => exact (Kd.R_reads' HO164.out).2.1); rintro e w25 ⟨v173, rfl, ho0, hb⟩; refine ⟨_, rfl, ?_⟩; have n0_ := Aside0.mk (Kd.R_elder' (by (with_reducible repeat (first | apply Kd.R_alloc | apply Kd.R_drewN | apply Kd.R_drew)); exact HO164.out) (Kd.R_base ho0) hb); have n1_ := Aside0.mk (Kd.R_elder' (by (with_reducible repeat (first | apply Kd.R_alloc | apply Kd.R_drewN | apply Kd.R_drew)); exact HO169.out) (Kd.R_base ho0) hb); have n2_ := Aside0.mk (Kd.R_lower (Kd.R_new' (Kd.R_new' ho0 (Kd.R_lt (by (with_reducible repeat (first | apply Kd.R_alloc | apply Kd.R_drewN | apply Kd.R_drew)); exact HO164.out))) (Kd.R_lt (by (with_reducible repeat (first | apply Kd.R_alloc | apply Kd.R_drewN | apply Kd.R_drew)); exact HO169.out))) (below_size (by repeat (first | (with_reducible first | exact HB.out | apply below_alloc | apply pw_below_drewN | apply below_drew1) | exact HB.out)))); have n3_ := Aside0.mk (below_step (by repeat (first | (with_reducible first | exact HB.out | apply below_alloc | apply pw_below_drewN | apply below_drew1) | exact HB.out)) hb); clear HO164; clear HO169; clear HB; have HO164 := n0_; have HO169 := n1_; have HO174 := n2_; have HB := n3_; clear n0_ n1_ n2_ n3_; (try clear hb); (try clear hb2); (try clear hk); (try clear hi); (try clear ho0)) | ((with_reducible refine gate_callee (f := 26) rfl ?_); refine goesL_ (some 43) rfl rfl Try.func26 (by kernel_rfl) rfl #[.slice Ao23 t167.length co23, .int .i64 t171] rfl (by (try simp only [List.map_toArray, List.map_cons, List.map_nil]); first | done | rfl | (simp only [List.length_drop, List.length_take]; rfl)) ?_; (with_reducible refine (trend_off.calls k _ _ t167 t171 t175 _ ?side1 ?side2 A16.out).mono ?_); (case side1 => repeat (first | exact (Kd.R_reads' HO169.out).2.2 | (with_reducible refine Kd.C_alloc ?_ _) | (with_reducible refine Kd.C_drewN ?_ _) | (with_reducible refine Kd.C_drew ?_))); (case side2 => exact (Kd.R_reads' HO169.out).2.1); rintro e w26 ⟨v176, rfl, ho0, hb⟩; refine ⟨_, rfl, ?_⟩; have n0_ := Aside0.mk (Kd.R_elder' (by (with_reducible repeat (first | apply Kd.R_alloc | apply Kd.R_drewN | apply Kd.R_drew)); exact HO164.out) (Kd.R_base ho0) hb); have n1_ := Aside0.mk (Kd.R_elder' (by (with_reducible repeat (first | apply Kd.R_alloc | apply Kd.R_drewN | apply Kd.R_drew)); exact HO169.out) (Kd.R_base ho0) hb); have n2_ := Aside0.mk (Kd.R_elder' (by (with_reducible repeat (first | apply Kd.R_alloc | apply Kd.R_drewN | apply Kd.R_drew)); exact HO174.out) (Kd.R_base ho0) hb); have n3_ := Aside0.mk (Kd.R_lower (Kd.R_new' (Kd.R_new' (Kd.R_new' ho0 (Kd.R_lt (by (with_reducible repeat (first | apply Kd.R_alloc | apply Kd.R_drewN | apply Kd.R_drew)); exact HO164.out))) (Kd.R_lt (by (with_reducible repeat (first | apply Kd.R_alloc | apply Kd.R_drewN | apply Kd.R_drew)); exact HO169.out))) (Kd.R_lt (by (with_reducible repeat (first | apply Kd.R_alloc | apply Kd.R_drewN | apply Kd.R_drew)); exact HO174.out))) (below_size (by repeat (first | (with_reducible first | exact HB.out | apply below_alloc | apply pw_below_drewN | apply below_drew1) | exact HB.out)))); have n4_ := Aside0.mk (below_step (by repeat (first | (with_reducible first | exact HB.out | apply below_alloc | apply pw_below_drewN | apply below_drew1) | exact HB.out)) hb); clear HO164; clear HO169; clear HO174; clear HB; have HO164 := n0_; have HO169 := n1_; have HO174 := n2_; have HO177 := n3_; have HB := n4_; clear n0_ n1_ n2_ n3_ n4_; (try clear hb); (try clear hb2); (try clear hk); (try clear hi); (try clear ho0); obtain ⟨Ao27, co27, eo27⟩ := Kd.R_slice HO174.out; subst eo27))
       go_loopg [8, 9, 46] k (fun kq v8 v9 v46 w' => ∃ (x8_1 : List Int) (x9_1 : List Int) (x46_1 : Int), v46 = .int .i64 x46_1 ∧ Aside0 (trend_Line.l0 kq t172 t175 x8_1 x9_1 (t172.length : Int) x46_1 = some r) ∧ Aside0 (kq ≤ k) ∧ Aside0 (Kd.R (Kd.int .i64) 2 w' w.heap.size (fun k_ => some k_ ≠ (v176 : Value).ownBlock ∧ some k_ ≠ (v8 : Value).ownBlock ∧ some k_ ≠ (v9 : Value).ownBlock) (.slice Ao27 t172.length co27) t172) ∧ Aside0 (Kd.R (Kd.int .i64) 2 w' w.heap.size (fun k_ => some k_ ≠ ((.slice Ao27 t172.length co27) : Value).ownBlock ∧ some k_ ≠ (v8 : Value).ownBlock ∧ some k_ ≠ (v9 : Value).ownBlock) v176 t175) ∧ Aside0 (Kd.R (Kd.int .i64) 2 w' w.heap.size (fun k_ => some k_ ≠ ((.slice Ao27 t172.length co27) : Value).ownBlock ∧ some k_ ≠ (v176 : Value).ownBlock ∧ some k_ ≠ (v9 : Value).ownBlock) v8 x8_1) ∧ Aside0 (Kd.R (Kd.int .i64) 2 w' w.heap.size (fun k_ => some k_ ≠ ((.slice Ao27 t172.length co27) : Value).ownBlock ∧ some k_ ≠ (v176 : Value).ownBlock ∧ some k_ ≠ (v8 : Value).ownBlock) v9 x9_1) ∧ Aside0 (Below w.heap.size w w'))
       case atStart => exact ⟨(([] : List Int)), (([] : List Int)), (0), (by first | rfl | (simp; done) | (simp [*]; done)), H', ⟨Nat.le_refl _⟩, ⟨by (with_reducible repeat (first | apply Kd.R_alloc | apply Kd.R_drewN | apply Kd.R_drew)); exact Kd.R_mono HO174.out (fun _ hk => ⟨hk.2, ⟨(by simp [Value.ownBlock]), (by simp [Value.ownBlock])⟩⟩)⟩, ⟨by (with_reducible repeat (first | apply Kd.R_alloc | apply Kd.R_drewN | apply Kd.R_drew)); exact Kd.R_mono HO177.out (fun _ hk => ⟨hk.2, ⟨(by simp [Value.ownBlock]), (by simp [Value.ownBlock])⟩⟩)⟩, ⟨by first | exact Kd.R_nil _ _ _ _ _ | exact Kd.N_nil _ _ _ _ _ | exact Kd.V_nil _ _ _ _ _ | exact Kd.Q_nil _ _ _ _ _ | exact Kd.S_nil _ _ _ _ _⟩, ⟨by first | exact Kd.R_nil _ _ _ _ _ | exact Kd.N_nil _ _ _ _ _ | exact Kd.V_nil _ _ _ _ _ | exact Kd.Q_nil _ _ _ _ _ | exact Kd.S_nil _ _ _ _ _⟩, ⟨by repeat (first | (with_reducible first | exact HB.out | apply below_alloc | apply pw_below_drewN | apply below_drew1) | exact HB.out)⟩⟩
       case round =>
        clear H'
        try clear c1
        try clear p1
        try clear q1
        try clear hx1
        try clear qi1
        try clear c2
        try clear p2
        try clear c5
        try clear c5b0
        try clear c6
        try clear c6b0
        try clear c6b1
        try clear c7
        try clear c7b0
        try clear c7b1
        try clear c8
        try clear c8b0
        try clear c8b1
        try clear c10
        try clear c10b0
        try clear c11
        try clear c11b0
        try clear c11b1
        try clear c12
        try clear c12b0
        try clear c12b1
        try clear p16
        try clear q16
        try clear hx16
        try clear qi16
        try clear c24
        try clear c25
        try clear c26
        try clear hx161_0
        try clear hx166_0
        try clear p161
        try clear p166
        try clear q161
        try clear q166
        obtain ⟨x8_1, x9_1, x46_1, rfl, HA, HK1, HO_0, HO_1, HO_8, HO_9, HB⟩ := hrel
        cases gk with
        | zero => exact absurd HA.out (by simp [trend_Line.l0])
        | succ k1 =>
         have H := HA.out
         clear HA
         simp only [trend_Line.l0] at H
         by_cases c28 : x46_1 < (t172.length : Int)
         ·rw [if_pos c28] at H
          have c28b0 : decide (x46_1 < (t172.length : Int)) = true := decide_eq_true c28
          clear c28
          by_cases c29 : 0 ≤ x46_1
          ·rw [if_pos c29] at H
           have c29b0 : decide (0 ≤ x46_1) = true := decide_eq_true c29
           clear c29
           by_cases c30 : x46_1 < (t172.length : Int)
           ·rw [if_pos c30] at H
            have c30b0 : decide (x46_1 < (t172.length : Int)) = true := decide_eq_true c30
            clear c30
            by_cases c31 : x46_1 < (t175.length : Int)
            ·rw [if_pos c31] at H
             have c31b0 : decide (x46_1 < (t175.length : Int)) = true := decide_eq_true c31
             clear c31
             replace H := Option.bind_eq_some_iff.mp H
             obtain ⟨t180, A320, H⟩ := H
             replace H : (if x8_1.length < 17592186044416 then ((sat_Mul.f (rd t172 x46_1) (rd t172 x46_1)).bind fun t186 => (if x9_1.length < 17592186044416 then (trend_Line.l0 k1 t172 t175 (x8_1 ++ [t180]) (x9_1 ++ [t186]) (t172.length : Int) (wrap64 (x46_1 + 1))) else (none))) else (none)) = some r := H
             have A32 := Aside0.mk A320
             clear A320
             by_cases c33 : x8_1.length < 17592186044416
             ·rw [if_pos c33] at H
              have LMc33 := Aside0.mk c33
              clear c33
              obtain ⟨y181, hy181⟩ : ∃ y_ : List Int, y_ = (x8_1 ++ [t180]) := ⟨_, rfl⟩
              replace H : ((sat_Mul.f (rd t172 x46_1) (rd t172 x46_1)).bind fun t186 => (if x9_1.length < 17592186044416 then (trend_Line.l0 k1 t172 t175 y181 (x9_1 ++ [t186]) (t172.length : Int) (wrap64 (x46_1 + 1))) else (none))) = some r := by first | (rw [hy181]; with_reducible exact H) | (have H2_ := (Option.bind_some _ _).symm.trans H; rw [hy181]; with_reducible exact H2_) | (have H2_ := (Option.bind_some _ _).symm.trans H; with_reducible exact H2_) | with_reducible exact H | (rw [hy181]; exact H) | exact H
              have Ny181 := Aside0.mk hy181
              clear hy181
              replace H := Option.bind_eq_some_iff.mp H
              obtain ⟨t186, A340, H⟩ := H
              replace H : (if x9_1.length < 17592186044416 then (trend_Line.l0 k1 t172 t175 y181 (x9_1 ++ [t186]) (t172.length : Int) (wrap64 (x46_1 + 1))) else (none)) = some r := H
              have A34 := Aside0.mk A340
              clear A340
              by_cases c35 : x9_1.length < 17592186044416
              ·rw [if_pos c35] at H
               have LMc35 := Aside0.mk c35
               clear c35
               obtain ⟨y187, hy187⟩ : ∃ y_ : List Int, y_ = (x9_1 ++ [t186]) := ⟨_, rfl⟩
               replace H : (trend_Line.l0 k1 t172 t175 y181 y187 (t172.length : Int) (wrap64 (x46_1 + 1))) = some r := by first | (rw [hy187]; with_reducible exact H) | (have H2_ := (Option.bind_some _ _).symm.trans H; rw [hy187]; with_reducible exact H2_) | (have H2_ := (Option.bind_some _ _).symm.trans H; with_reducible exact H2_) | with_reducible exact H | (rw [hy187]; exact H) | exact H
               have Ny187 := Aside0.mk hy187
               clear hy187
               have H' := Aside0.mk H
               clear H
               try go_wp2
               have n0_ := Aside0.mk (Kd.R_drew HO_0.out)
               have n1_ := Aside0.mk (Kd.R_drew HO_1.out)
               have n2_ := Aside0.mk (Kd.R_drew HO_8.out)
               have n3_ := Aside0.mk (Kd.R_drew HO_9.out)
               have n4_ := Aside0.mk (below_drew1 HB.out)
               clear HO_0
               clear HO_1
               clear HO_8
               clear HO_9
               clear HB
               have HO_0 := n0_
               have HO_1 := n1_
               have HO_8 := n2_
               have HO_9 := n3_
               have HB := n4_
               clear n0_ n1_ n2_ n3_ n4_
               have p178 : 0 ≤ (x46_1 : Int) := of_decide_eq_true (by first | (with_reducible assumption) | assumption)
               have q178 : x46_1 < (t172.length : Int) := of_decide_eq_true (by first | (with_reducible assumption) | assumption)
               obtain ⟨ad178, e178, hx178_0⟩ := Kd.at_int (Kd.R_reads' HO_0.out).2.2 x46_1 p178 q178
               cases e178
               replace p178 := eq_true p178
               replace q178 := eq_true q178
               obtain ⟨Ao37, co37, eo37⟩ := Kd.R_slice HO_1.out
               (first | subst eo37 | (injection eo37 with f1_ f2_ f3_; have f4_ := f1_.symm; have f5_ := f3_.symm; clear f1_ f2_ f3_; subst f4_; subst f5_))
               have p179 : 0 ≤ (x46_1 : Int) := of_decide_eq_true (by first | (with_reducible assumption) | assumption)
               have q179 : x46_1 < (t175.length : Int) := of_decide_eq_true (by first | (with_reducible assumption) | assumption)
               obtain ⟨ad179, e179, hx179_0⟩ := Kd.at_int (Kd.R_reads' HO_1.out).2.2 x46_1 p179 q179
               cases e179
               replace p179 := eq_true p179
               replace q179 := eq_true q179
               refine start_ (n := 13) (S := fun w' => w'.cell? (ad178.add (x46_1).toNat) = some (.int .i64 (rd t172 x46_1)) ∧ w'.cell? (ad179.add (x46_1).toNat) = some (.int .i64 (rd t175 x46_1))) (ds := [10, 11]) #[false, false, false, false, false, false, false, false, false, false, false, false, false] (by kernel_rfl) rfl rfl ⟨hx178_0, hx179_0⟩ (fun hHeld => ?_); refine with_tabW trend_Line.tab11 trend_Line.bits11 (fun HT_ HW_ => ?_)
               generalize wr.drew = w36 at HO_0 HO_1 HO_8 HO_9 HB hx178_0 hx179_0 hHeld ⊢
               refine pure_ (i := 0) (N := some 49) (v := ?_) (a' := ?_) (bl 13 1) rfl rfl (any_of HT_.out (by kernel_rfl)) (fun _ _ _ h => h) (Or.inl ⟨by rfl, ?_⟩) ?_ ?_
               rotate_left
               ·intro w'
                go_simp
                with_reducible rfl
               rotate_left
               ·simp only [puts_]
                rfl
               refine pure_ (i := 1) (N := some 50) (v := ?_) (a' := ?_) (bl 13 3) rfl rfl (any_of HT_.out (by kernel_rfl)) (fun _ _ _ h => h) (Or.inl ⟨by rfl, ?_⟩) ?_ ?_
               rotate_left
               ·intro w'
                go_simp
                with_reducible rfl
               rotate_left
               ·simp only [puts_]
                rfl
               refine pure_ (i := 2) (N := some 51) (v := ?_) (a' := ?_) (bl 13 7) rfl rfl (any_of HT_.out (by kernel_rfl)) (fun _ _ _ h => h) (Or.inl ⟨by rfl, ?_⟩) ?_ ?_
               rotate_left
               ·intro w'
                go_simp
                with_reducible rfl
               rotate_left
               ·simp only [puts_]
                rfl
               refine pure_ (i := 3) (N := some 52) (v := ?_) (a' := ?_) (bl 13 15) rfl rfl (any_of HT_.out (by kernel_rfl)) (fun _ _ _ h => h) (Or.inl ⟨by rfl, ?_⟩) ?_ ?_
               rotate_left
               ·intro w'
                go_simp
                with_reducible rfl
               rotate_left
               ·simp only [puts_]
                rfl
               refine pure_ (i := 5) (N := some 54) (v := ?_) (a' := ?_) (bl 13 47) rfl rfl (any_of HT_.out (by kernel_rfl)) (fun _ _ _ h => h) (Or.inl ⟨by rfl, ?_⟩) ?_ ?_
               rotate_left
               ·intro w'
                go_simp
                with_reducible rfl
               rotate_left
               ·simp only [puts_]
                rfl
               refine pure_ (i := 6) (N := some 55) (v := ?_) (a' := ?_) (bl 13 111) rfl rfl (any_of HT_.out (by kernel_rfl)) (fun _ _ _ h => h) (Or.inl ⟨by rfl, ?_⟩) ?_ ?_
               rotate_left
               ·intro w'
                go_simp
                with_reducible rfl
               rotate_left
               ·simp only [puts_]
                rfl
               refine pure_ (i := 7) (N := some 56) (v := ?_) (a' := ?_) (bl 13 239) rfl rfl (any_of HT_.out (by kernel_rfl)) (fun _ _ _ h => h) (Or.inl ⟨by rfl, ?_⟩) ?_ ?_
               rotate_left
               ·intro w'
                go_simp
                with_reducible rfl
               rotate_left
               ·simp only [puts_]
                rfl
               refine take_ (i := 4) (N := some 53) (v := ?_) (a' := ?_) (bl 13 255) rfl rfl (take_ofW HT_.out HW_.out (by kernel_rfl)) (fun _ _ _ h => h) (Or.inl ⟨by rfl, ?_⟩) hHeld ?_ ?_
               rotate_left
               ·rintro w' ⟨s0, s1⟩
                go_simp
                with_reducible rfl
               rotate_left
               ·simp only [puts_]
                rfl
               refine take_ (i := 8) (N := some 57) (v := ?_) (a' := ?_) (bl 13 511) rfl rfl (take_ofW HT_.out HW_.out (by kernel_rfl)) (fun _ _ _ h => h) (Or.inl ⟨by rfl, ?_⟩) hHeld ?_ ?_
               rotate_left
               ·rintro w' ⟨s0, s1⟩
                go_simp
                with_reducible rfl
               rotate_left
               ·simp only [puts_]
                rfl
               refine one_ (i := 9) (N := some 58) (bl 13 1023) rfl rfl (one_of HT_.out (by kernel_rfl)) (by decide) (fun K hK => ?_)
               refine goes_ Try.func27 (by kernel_rfl) rfl #[.int .i64 (rd t172 x46_1), .int .i64 (rd t175 x46_1)] (by rfl) rfl rfl (by (try simp only [List.map_toArray, List.map_cons, List.map_nil]); first | done | rfl | (simp only [List.length_drop, List.length_take]; rfl)) ?_
               with_reducible refine (sat_Mul.calls (rd t172 x46_1) (rd t175 x46_1) t180 _ A32.out).mono ?_
               rintro e w38 ⟨rfl, hb⟩
               have HS0_ := (hb.cell (World.block_lt_of_cell? _ _ (hHeld.1))).trans (hHeld.1)
               have HS1_ := (hb.cell (World.block_lt_of_cell? _ _ (hHeld.2))).trans (hHeld.2)
               refine ⟨_, rfl, ?_⟩
               have n0_ := Aside0.mk (Kd.R_below (by (with_reducible repeat (first | apply Kd.R_alloc | apply Kd.R_drewN | apply Kd.R_drew)); exact HO_0.out) hb)
               have n1_ := Aside0.mk (Kd.R_below (by (with_reducible repeat (first | apply Kd.R_alloc | apply Kd.R_drewN | apply Kd.R_drew)); exact HO_1.out) hb)
               have n2_ := Aside0.mk (Kd.R_below (by (with_reducible repeat (first | apply Kd.R_alloc | apply Kd.R_drewN | apply Kd.R_drew)); exact HO_8.out) hb)
               have n3_ := Aside0.mk (Kd.R_below (by (with_reducible repeat (first | apply Kd.R_alloc | apply Kd.R_drewN | apply Kd.R_drew)); exact HO_9.out) hb)
               have n4_ := Aside0.mk (below_step (by repeat (first | (with_reducible first | exact HB.out | apply below_alloc | apply pw_below_drewN | apply below_drew1) | exact HB.out)) hb)
               clear HO_0
               clear HO_1
               clear HO_8
               clear HO_9
               clear HB
               have HO_0 := n0_
               have HO_1 := n1_
               have HO_8 := n2_
               have HO_9 := n3_
               have HB := n4_
               clear n0_ n1_ n2_ n3_ n4_
               (try clear hb)
               (try clear hb2)
               (try clear hk)
               (try clear hi)
               refine hK.out _ _ ⟨HS0_, HS1_⟩ (fun hHeld => ?_)
               clear hK K
               refine norm_ (a' := ?_) ?_ ?_
               rotate_left
               ·show Act.put _ (some 58) _ = _
                simp only [puts_]
                rfl
               refine last_ (i := 10) (N := some 59) (bl 13 2047) rfl rfl (one_of HT_.out (by kernel_rfl)) (by decide) (fun K hK => ?_)
               refine value_ (w1 := ?_) (v := ?_) (by rfl) rfl ?_ ?_
               rotate_left 2
               ·go_simp
                constructor
                ·rfl
                ·rfl
               refine hK.out _ _ ?_
               clear hK K
               refine norm_ (a' := ?_) ?_ ?_
               rotate_left
               ·show Act.put _ (some 59) _ = _
                simp only [puts_]
                rfl
               refine last_ (i := 11) (N := some 60) (bl 13 4095) rfl rfl (one_of HT_.out (by kernel_rfl)) (by decide) (fun K hK => ?_)
               refine Kd.R_append_step (Kd.int .i64) (w0 := w) w.heap.size (by rfl) (.tmp 49) (.tmp 59) 22 2 (.int .i64 0) 8 rfl Try.underlying22 info2 rfl (by decide) (by omega) u8 x8_1 t180 [.int .i64 t180] (fun k_ => some k_ ≠ (.slice (some ad178) t172.length co27 : Value).ownBlock ∧ some k_ ≠ (.slice (some ad179) t175.length co37 : Value).ownBlock ∧ some k_ ≠ (u9 : Value).ownBlock) (fun _ => False) rfl rfl ?aP (fun _ hk => hk.elim) ?aF ?aO ?aB ?aS ?aL ?_
               (case aP => exact rfl)
               (case aB => exact (by repeat (first | (with_reducible first | exact HB.out | apply below_alloc | apply pw_below_drewN | apply below_drew1) | exact HB.out)))
               (case aF => exact (fun k_ hk => ⟨Kd.fresh' (Kd.R_lt (by (with_reducible repeat (first | apply Kd.R_alloc | apply Kd.R_drewN | apply Kd.R_drew)); exact HO_0.out)) k_ hk, Kd.fresh' (Kd.R_lt (by (with_reducible repeat (first | apply Kd.R_alloc | apply Kd.R_drewN | apply Kd.R_drew)); exact HO_1.out)) k_ hk, Kd.fresh' (Kd.R_lt (by (with_reducible repeat (first | apply Kd.R_alloc | apply Kd.R_drewN | apply Kd.R_drew)); exact HO_9.out)) k_ hk⟩))
               (case aO => exact (by (with_reducible repeat (first | apply Kd.R_alloc | apply Kd.R_drewN | apply Kd.R_drew)); exact HO_8.out))
               (case aS => exact (below_size (by repeat (first | (with_reducible first | exact HB.out | apply below_alloc | apply pw_below_drewN | apply below_drew1) | exact HB.out))))
               (case aL => have := LMc33.out; omega)
               intro v182 w39 ho hb hg hat
               rw [← Ny181.out] at ho
               have n0_ := Aside0.mk (Kd.R_after (ok := (fun k_ => some k_ ≠ (.slice (some ad179) t175.length co37 : Value).ownBlock ∧ some k_ ≠ (u9 : Value).ownBlock)) (by (with_reducible repeat (first | apply Kd.R_alloc | apply Kd.R_drewN | apply Kd.R_drew)); exact Kd.R_mono HO_0.out (fun _ hk => ⟨⟨hk.1, hk.2.2⟩, hk.2.1⟩)) hg hat)
               have n1_ := Aside0.mk (Kd.R_after (ok := (fun k_ => some k_ ≠ (.slice (some ad178) t172.length co27 : Value).ownBlock ∧ some k_ ≠ (u9 : Value).ownBlock)) (by (with_reducible repeat (first | apply Kd.R_alloc | apply Kd.R_drewN | apply Kd.R_drew)); exact Kd.R_mono HO_1.out (fun _ hk => ⟨⟨hk.1, hk.2.2⟩, hk.2.1⟩)) hg hat)
               have n2_ := Aside0.mk (Kd.R_after (ok := (fun k_ => some k_ ≠ (.slice (some ad178) t172.length co27 : Value).ownBlock ∧ some k_ ≠ (.slice (some ad179) t175.length co37 : Value).ownBlock)) (by (with_reducible repeat (first | apply Kd.R_alloc | apply Kd.R_drewN | apply Kd.R_drew)); exact Kd.R_mono HO_9.out (fun _ hk => ⟨⟨hk.1, hk.2.1⟩, hk.2.2⟩)) hg hat)
               have n3_ := Aside0.mk (hb)
               have n4_ := Aside0.mk (ho)
               clear HO_0
               clear HO_1
               clear HO_9
               clear HB
               clear HO_8
               have HO_0 := n0_
               have HO_1 := n1_
               have HO_9 := n2_
               have HB := n3_
               have HO183 := n4_
               clear n0_ n1_ n2_ n3_ n4_
               clear ho hb hg hat
               refine hK.out _ _ ?_
               clear hK K
               refine norm_ (a' := ?_) ?_ ?_
               rotate_left
               ·show Act.put _ (some 60) _ = _
                simp only [puts_]
                rfl
               refine pure_ (i := 12) (N := some 8) (v := ?_) (a' := ?_) (bl 13 8191) rfl rfl (any_of HT_.out (by kernel_rfl)) (fun _ _ _ h => h) (Or.inl ⟨by rfl, ?_⟩) ?_ ?_
               rotate_left
               ·intro w'
                go_simp
                with_reducible rfl
               rotate_left
               ·simp only [puts_]
                rfl
               refine done_ (done_of HT_.out (by kernel_rfl)) ?_
               try go_wp2
               have n0_ := Aside0.mk (Kd.R_drew HO_0.out)
               have n1_ := Aside0.mk (Kd.R_drew HO_1.out)
               have n2_ := Aside0.mk (Kd.R_drew HO_9.out)
               have n3_ := Aside0.mk (Kd.R_drew HO183.out)
               have n4_ := Aside0.mk (below_drew1 HB.out)
               clear HO_0
               clear HO_1
               clear HO_9
               clear HO183
               clear HB
               have HO_0 := n0_
               have HO_1 := n1_
               have HO_9 := n2_
               have HO183 := n3_
               have HB := n4_
               clear n0_ n1_ n2_ n3_ n4_
               have p184 : 0 ≤ (x46_1 : Int) := of_decide_eq_true (by first | (with_reducible assumption) | assumption)
               have q184 : x46_1 < (t172.length : Int) := of_decide_eq_true (by first | (with_reducible assumption) | assumption)
               obtain ⟨ad184, e184, hx184_0⟩ := Kd.at_int (Kd.R_reads' HO_0.out).2.2 x46_1 p184 q184
               obtain rfl : ad178 = ad184 := (by injection e184)
               replace p184 := eq_true p184
               replace q184 := eq_true q184
               have p185 : 0 ≤ (x46_1 : Int) := of_decide_eq_true (by first | (with_reducible assumption) | assumption)
               have q185 : x46_1 < (t172.length : Int) := of_decide_eq_true (by first | (with_reducible assumption) | assumption)
               obtain ⟨ad185, e185, hx185_0⟩ := Kd.at_int (Kd.R_reads' HO_0.out).2.2 x46_1 p185 q185
               obtain rfl : ad178 = ad185 := (by injection e185)
               replace p185 := eq_true p185
               replace q185 := eq_true q185
               refine start_ (n := 13) (S := fun w' => w'.cell? (ad178.add (x46_1).toNat) = some (.int .i64 (rd t172 x46_1)) ∧ w'.cell? (ad178.add (x46_1).toNat) = some (.int .i64 (rd t172 x46_1))) (ds := [10, 11]) #[false, false, false, false, false, false, false, false, false, false, false, false, false] (by kernel_rfl) rfl rfl ⟨hx184_0, hx185_0⟩ (fun hHeld => ?_); refine with_tabW trend_Line.tab12 trend_Line.bits12 (fun HT_ HW_ => ?_)
               generalize w39.drew = w40 at HO_0 HO_1 HO_9 HO183 HB hx184_0 hx185_0 hHeld ⊢
               refine pure_ (i := 0) (N := some 61) (v := ?_) (a' := ?_) (bl 13 1) rfl rfl (any_of HT_.out (by kernel_rfl)) (fun _ _ _ h => h) (Or.inl ⟨by rfl, ?_⟩) ?_ ?_
               rotate_left
               ·intro w'
                go_simp
                with_reducible rfl
               rotate_left
               ·simp only [puts_]
                rfl
               refine pure_ (i := 1) (N := some 62) (v := ?_) (a' := ?_) (bl 13 3) rfl rfl (any_of HT_.out (by kernel_rfl)) (fun _ _ _ h => h) (Or.inl ⟨by rfl, ?_⟩) ?_ ?_
               rotate_left
               ·intro w'
                go_simp
                with_reducible rfl
               rotate_left
               ·simp only [puts_]
                rfl
               refine pure_ (i := 2) (N := some 63) (v := ?_) (a' := ?_) (bl 13 7) rfl rfl (any_of HT_.out (by kernel_rfl)) (fun _ _ _ h => h) (Or.inl ⟨by rfl, ?_⟩) ?_ ?_
               rotate_left
               ·intro w'
                go_simp
                with_reducible rfl
               rotate_left
               ·simp only [puts_]
                rfl
               refine pure_ (i := 3) (N := some 64) (v := ?_) (a' := ?_) (bl 13 15) rfl rfl (any_of HT_.out (by kernel_rfl)) (fun _ _ _ h => h) (Or.inl ⟨by rfl, ?_⟩) ?_ ?_
               rotate_left
               ·intro w'
                go_simp
                with_reducible rfl
               rotate_left
               ·simp only [puts_]
                rfl
               refine pure_ (i := 5) (N := some 66) (v := ?_) (a' := ?_) (bl 13 47) rfl rfl (any_of HT_.out (by kernel_rfl)) (fun _ _ _ h => h) (Or.inl ⟨by rfl, ?_⟩) ?_ ?_
               rotate_left
               ·intro w'
                go_simp
                with_reducible rfl
               rotate_left
               ·simp only [puts_]
                rfl
               refine pure_ (i := 6) (N := some 67) (v := ?_) (a' := ?_) (bl 13 111) rfl rfl (any_of HT_.out (by kernel_rfl)) (fun _ _ _ h => h) (Or.inl ⟨by rfl, ?_⟩) ?_ ?_
               rotate_left
               ·intro w'
                go_simp
                with_reducible rfl
               rotate_left
               ·simp only [puts_]
                rfl
               refine pure_ (i := 7) (N := some 68) (v := ?_) (a' := ?_) (bl 13 239) rfl rfl (any_of HT_.out (by kernel_rfl)) (fun _ _ _ h => h) (Or.inl ⟨by rfl, ?_⟩) ?_ ?_
               rotate_left
               ·intro w'
                go_simp
                with_reducible rfl
               rotate_left
               ·simp only [puts_]
                rfl
               refine take_ (i := 4) (N := some 65) (v := ?_) (a' := ?_) (bl 13 255) rfl rfl (take_ofW HT_.out HW_.out (by kernel_rfl)) (fun _ _ _ h => h) (Or.inl ⟨by rfl, ?_⟩) hHeld ?_ ?_
               rotate_left
               ·rintro w' ⟨s0, s1⟩
                go_simp
                with_reducible rfl
               rotate_left
               ·simp only [puts_]
                rfl
               refine take_ (i := 8) (N := some 69) (v := ?_) (a' := ?_) (bl 13 511) rfl rfl (take_ofW HT_.out HW_.out (by kernel_rfl)) (fun _ _ _ h => h) (Or.inl ⟨by rfl, ?_⟩) hHeld ?_ ?_
               rotate_left
               ·rintro w' ⟨s0, s1⟩
                go_simp
                with_reducible rfl
               rotate_left
               ·simp only [puts_]
                rfl
               refine one_ (i := 9) (N := some 70) (bl 13 1023) rfl rfl (one_of HT_.out (by kernel_rfl)) (by decide) (fun K hK => ?_)
               refine goes_ Try.func27 (by kernel_rfl) rfl #[.int .i64 (rd t172 x46_1), .int .i64 (rd t172 x46_1)] (by rfl) rfl rfl (by (try simp only [List.map_toArray, List.map_cons, List.map_nil]); first | done | rfl | (simp only [List.length_drop, List.length_take]; rfl)) ?_
               with_reducible refine (sat_Mul.calls (rd t172 x46_1) (rd t172 x46_1) t186 _ A34.out).mono ?_
               rintro e w41 ⟨rfl, hb⟩
               have HS0_ := (hb.cell (World.block_lt_of_cell? _ _ (hHeld.1))).trans (hHeld.1)
               have HS1_ := (hb.cell (World.block_lt_of_cell? _ _ (hHeld.2))).trans (hHeld.2)
               refine ⟨_, rfl, ?_⟩
               have n0_ := Aside0.mk (Kd.R_below (by (with_reducible repeat (first | apply Kd.R_alloc | apply Kd.R_drewN | apply Kd.R_drew)); exact HO_0.out) hb)
               have n1_ := Aside0.mk (Kd.R_below (by (with_reducible repeat (first | apply Kd.R_alloc | apply Kd.R_drewN | apply Kd.R_drew)); exact HO_1.out) hb)
               have n2_ := Aside0.mk (Kd.R_below (by (with_reducible repeat (first | apply Kd.R_alloc | apply Kd.R_drewN | apply Kd.R_drew)); exact HO_9.out) hb)
               have n3_ := Aside0.mk (Kd.R_below (by (with_reducible repeat (first | apply Kd.R_alloc | apply Kd.R_drewN | apply Kd.R_drew)); exact HO183.out) hb)
               have n4_ := Aside0.mk (below_step (by repeat (first | (with_reducible first | exact HB.out | apply below_alloc | apply pw_below_drewN | apply below_drew1) | exact HB.out)) hb)
               clear HO_0
               clear HO_1
               clear HO_9
               clear HO183
               clear HB
               have HO_0 := n0_
               have HO_1 := n1_
               have HO_9 := n2_
               have HO183 := n3_
               have HB := n4_
               clear n0_ n1_ n2_ n3_ n4_
               (try clear hb)
               (try clear hb2)
               (try clear hk)
               (try clear hi)
               refine hK.out _ _ ⟨HS0_, HS1_⟩ (fun hHeld => ?_)
               clear hK K
               refine norm_ (a' := ?_) ?_ ?_
               rotate_left
               ·show Act.put _ (some 70) _ = _
                simp only [puts_]
                rfl
               refine last_ (i := 10) (N := some 71) (bl 13 2047) rfl rfl (one_of HT_.out (by kernel_rfl)) (by decide) (fun K hK => ?_)
               refine value_ (w1 := ?_) (v := ?_) (by rfl) rfl ?_ ?_
               rotate_left 2
               ·go_simp
                constructor
                ·rfl
                ·rfl
               refine hK.out _ _ ?_
               clear hK K
               refine norm_ (a' := ?_) ?_ ?_
               rotate_left
               ·show Act.put _ (some 71) _ = _
                simp only [puts_]
                rfl
               refine last_ (i := 11) (N := some 72) (bl 13 4095) rfl rfl (one_of HT_.out (by kernel_rfl)) (by decide) (fun K hK => ?_)
               refine Kd.R_append_step (Kd.int .i64) (w0 := w) w.heap.size (by rfl) (.tmp 61) (.tmp 71) 22 2 (.int .i64 0) 8 rfl Try.underlying22 info2 rfl (by decide) (by omega) u9 x9_1 t186 [.int .i64 t186] (fun k_ => some k_ ≠ (.slice (some ad178) t172.length co27 : Value).ownBlock ∧ some k_ ≠ (.slice (some ad179) t175.length co37 : Value).ownBlock ∧ some k_ ≠ (v182 : Value).ownBlock) (fun _ => False) rfl rfl ?aP (fun _ hk => hk.elim) ?aF ?aO ?aB ?aS ?aL ?_
               (case aP => exact rfl)
               (case aB => exact (by repeat (first | (with_reducible first | exact HB.out | apply below_alloc | apply pw_below_drewN | apply below_drew1) | exact HB.out)))
               (case aF => exact (fun k_ hk => ⟨Kd.fresh' (Kd.R_lt (by (with_reducible repeat (first | apply Kd.R_alloc | apply Kd.R_drewN | apply Kd.R_drew)); exact HO_0.out)) k_ hk, Kd.fresh' (Kd.R_lt (by (with_reducible repeat (first | apply Kd.R_alloc | apply Kd.R_drewN | apply Kd.R_drew)); exact HO_1.out)) k_ hk, Kd.fresh' (Kd.R_lt (by (with_reducible repeat (first | apply Kd.R_alloc | apply Kd.R_drewN | apply Kd.R_drew)); exact HO183.out)) k_ hk⟩))
               (case aO => exact (by (with_reducible repeat (first | apply Kd.R_alloc | apply Kd.R_drewN | apply Kd.R_drew)); exact Kd.R_mono HO_9.out (fun _ hk => ⟨hk.1.1, ⟨hk.1.2, hk.2⟩⟩)))
               (case aS => exact (below_size (by repeat (first | (with_reducible first | exact HB.out | apply below_alloc | apply pw_below_drewN | apply below_drew1) | exact HB.out))))
               (case aL => have := LMc35.out; omega)
               intro v188 w42 ho hb hg hat
               rw [← Ny187.out] at ho
               have n0_ := Aside0.mk (Kd.R_after (ok := (fun k_ => some k_ ≠ (.slice (some ad179) t175.length co37 : Value).ownBlock ∧ some k_ ≠ (v182 : Value).ownBlock)) (by (with_reducible repeat (first | apply Kd.R_alloc | apply Kd.R_drewN | apply Kd.R_drew)); exact Kd.R_mono HO_0.out (fun _ hk => ⟨⟨hk.1.1, hk.2⟩, hk.1.2⟩)) hg hat)
               have n1_ := Aside0.mk (Kd.R_after (ok := (fun k_ => some k_ ≠ (.slice (some ad178) t172.length co27 : Value).ownBlock ∧ some k_ ≠ (v182 : Value).ownBlock)) (by (with_reducible repeat (first | apply Kd.R_alloc | apply Kd.R_drewN | apply Kd.R_drew)); exact Kd.R_mono HO_1.out (fun _ hk => ⟨⟨hk.1.1, hk.2⟩, hk.1.2⟩)) hg hat)
               have n2_ := Aside0.mk (Kd.R_after (ok := (fun k_ => some k_ ≠ (.slice (some ad178) t172.length co27 : Value).ownBlock ∧ some k_ ≠ (.slice (some ad179) t175.length co37 : Value).ownBlock)) (by (with_reducible repeat (first | apply Kd.R_alloc | apply Kd.R_drewN | apply Kd.R_drew)); exact Kd.R_mono HO183.out (fun _ hk => ⟨⟨hk.1, hk.2.1⟩, hk.2.2⟩)) hg hat)
               have n3_ := Aside0.mk (hb)
               have n4_ := Aside0.mk (ho)
               clear HO_0
               clear HO_1
               clear HO183
               clear HB
               clear HO_9
               have HO_0 := n0_
               have HO_1 := n1_
               have HO183 := n2_
               have HB := n3_
               have HO189 := n4_
               clear n0_ n1_ n2_ n3_ n4_
               clear ho hb hg hat
               refine hK.out _ _ ?_
               clear hK K
               refine norm_ (a' := ?_) ?_ ?_
               rotate_left
               ·show Act.put _ (some 72) _ = _
                simp only [puts_]
                rfl
               refine pure_ (i := 12) (N := some 9) (v := ?_) (a' := ?_) (bl 13 8191) rfl rfl (any_of HT_.out (by kernel_rfl)) (fun _ _ _ h => h) (Or.inl ⟨by rfl, ?_⟩) ?_ ?_
               rotate_left
               ·intro w'
                go_simp
                with_reducible rfl
               rotate_left
               ·simp only [puts_]
                rfl
               refine done_ (done_of HT_.out (by kernel_rfl)) ?_
               try go_wp2
               go_roundg k1
               case measure => have := HK1.out; omega
               case rel => exact ⟨(y181), (y187), (wrap64 (x46_1 + 1)), (by first | rfl | (simp; done) | (simp [*]; done)), H', ⟨by have := HK1.out; omega⟩, ⟨by (with_reducible repeat (first | apply Kd.R_alloc | apply Kd.R_drewN | apply Kd.R_drew)); exact Kd.R_mono HO_0.out (fun _ hk => ⟨hk.1.1, ⟨hk.1.2, hk.2⟩⟩)⟩, ⟨by (with_reducible repeat (first | apply Kd.R_alloc | apply Kd.R_drewN | apply Kd.R_drew)); exact Kd.R_mono HO_1.out (fun _ hk => ⟨hk.1.1, ⟨hk.1.2, hk.2⟩⟩)⟩, ⟨by (with_reducible repeat (first | apply Kd.R_alloc | apply Kd.R_drewN | apply Kd.R_drew)); exact Kd.R_mono HO183.out (fun _ hk => ⟨hk.1.1, ⟨hk.1.2, hk.2⟩⟩)⟩, ⟨by (with_reducible repeat (first | apply Kd.R_alloc | apply Kd.R_drewN | apply Kd.R_drew)); exact HO189.out⟩, ⟨by repeat (first | (with_reducible first | exact HB.out | apply below_alloc | apply pw_below_drewN | apply below_drew1) | exact HB.out)⟩⟩
              ·rw [if_neg c35] at H
               exact absurd H (by simp)
             ·rw [if_neg c33] at H
              exact absurd H (by simp)
            ·rw [if_neg c31] at H
             exact absurd H (by simp)
           ·rw [if_neg c30] at H
            exact absurd H (by simp)
          ·rw [if_neg c29] at H
           exact absurd H (by simp)
         ·rw [if_neg c28] at H
          have c28b0 : decide (x46_1 < (t172.length : Int)) = false := decide_eq_false c28
          clear c28
          replace H := Option.bind_eq_some_iff.mp H
          obtain ⟨t190, A430, H⟩ := H
          replace H : ((sat_Sum.f k1 x9_1).bind fun t191 => ((fixed_Div.f t190 t191).bind fun t192 => (some t192))) = some r := H
          have A43 := Aside0.mk A430
          clear A430
          replace H := Option.bind_eq_some_iff.mp H
          obtain ⟨t191, A440, H⟩ := H
          replace H : ((fixed_Div.f t190 t191).bind fun t192 => (some t192)) = some r := H
          have A44 := Aside0.mk A440
          clear A440
          replace H := Option.bind_eq_some_iff.mp H
          obtain ⟨t192, A450, H⟩ := H
          replace H : (some t192) = some r := H
          have A45 := Aside0.mk A450
          clear A450
          obtain rfl := Option.some.inj H
          obtain ⟨Ao46, co46, eo46⟩ := Kd.R_slice HO_8.out
          subst eo46
          go_wp2_with (first | ((with_reducible refine gate_callee (f := 29) rfl ?_); refine goesL_ (some 75) rfl rfl Try.func29 (by kernel_rfl) rfl #[.slice Ao46 x8_1.length co46] rfl (by (try simp only [List.map_toArray, List.map_cons, List.map_nil]); first | done | rfl | (simp only [List.length_drop, List.length_take]; rfl)) ?_; (with_reducible refine (sat_Sum.calls k1 _ _ x8_1 t190 _ ?side1 ?side2 A43.out).mono ?_); (case side1 => repeat (first | exact (Kd.R_reads' HO_8.out).2.2 | (with_reducible refine Kd.C_alloc ?_ _) | (with_reducible refine Kd.C_drewN ?_ _) | (with_reducible refine Kd.C_drew ?_))); (case side2 => exact (Kd.R_reads' HO_8.out).2.1); rintro e w47 ⟨rfl, hb⟩; refine ⟨_, rfl, ?_⟩; have n0_ := Aside0.mk (Kd.R_below (by (with_reducible repeat (first | apply Kd.R_alloc | apply Kd.R_drewN | apply Kd.R_drew)); exact HO_0.out) hb); have n1_ := Aside0.mk (Kd.R_below (by (with_reducible repeat (first | apply Kd.R_alloc | apply Kd.R_drewN | apply Kd.R_drew)); exact HO_1.out) hb); have n2_ := Aside0.mk (Kd.R_below (by (with_reducible repeat (first | apply Kd.R_alloc | apply Kd.R_drewN | apply Kd.R_drew)); exact HO_8.out) hb); have n3_ := Aside0.mk (Kd.R_below (by (with_reducible repeat (first | apply Kd.R_alloc | apply Kd.R_drewN | apply Kd.R_drew)); exact HO_9.out) hb); have n4_ := Aside0.mk (below_step (by repeat (first | (with_reducible first | exact HB.out | apply below_alloc | apply pw_below_drewN | apply below_drew1) | exact HB.out)) hb); clear HO_0; clear HO_1; clear HO_8; clear HO_9; clear HB; have HO_0 := n0_; have HO_1 := n1_; have HO_8 := n2_; have HO_9 := n3_; have HB := n4_; clear n0_ n1_ n2_ n3_ n4_; (try clear hb); (try clear hb2); (try clear hk); (try clear hi); obtain ⟨Ao48, co48, eo48⟩ := Kd.R_slice HO_9.out; subst eo48) | ((with_reducible refine gate_callee (f := 29) rfl ?_); refine goesL_ (some 77) rfl rfl Try.func29 (by kernel_rfl) rfl #[.slice Ao48 x9_1.length co48] rfl (by (try simp only [List.map_toArray, List.map_cons, List.map_nil]); first | done | rfl | (simp only [List.length_drop, List.length_take]; rfl)) ?_; (with_reducible refine (sat_Sum.calls k1 _ _ x9_1 t191 _ ?side1 ?side2 A44.out).mono ?_); (case side1 => repeat (first | exact (Kd.R_reads' HO_9.out).2.2 | (with_reducible refine Kd.C_alloc ?_ _) | (with_reducible refine Kd.C_drewN ?_ _) | (with_reducible refine Kd.C_drew ?_))); (case side2 => exact (Kd.R_reads' HO_9.out).2.1); rintro e w49 ⟨rfl, hb⟩; refine ⟨_, rfl, ?_⟩; have n0_ := Aside0.mk (Kd.R_below (by (with_reducible repeat (first | apply Kd.R_alloc | apply Kd.R_drewN | apply Kd.R_drew)); exact HO_0.out) hb); have n1_ := Aside0.mk (Kd.R_below (by (with_reducible repeat (first | apply Kd.R_alloc | apply Kd.R_drewN | apply Kd.R_drew)); exact HO_1.out) hb); have n2_ := Aside0.mk (Kd.R_below (by (with_reducible repeat (first | apply Kd.R_alloc | apply Kd.R_drewN | apply Kd.R_drew)); exact HO_8.out) hb); have n3_ := Aside0.mk (Kd.R_below (by (with_reducible repeat (first | apply Kd.R_alloc | apply Kd.R_drewN | apply Kd.R_drew)); exact HO_9.out) hb); have n4_ := Aside0.mk (below_step (by repeat (first | (with_reducible first | exact HB.out | apply below_alloc | apply pw_below_drewN | apply below_drew1) | exact HB.out)) hb); clear HO_0; clear HO_1; clear HO_8; clear HO_9; clear HB; have HO_0 := n0_; have HO_1 := n1_; have HO_8 := n2_; have HO_9 := n3_; have HB := n4_; clear n0_ n1_ n2_ n3_ n4_; (try clear hb); (try clear hb2); (try clear hk); (try clear hi)) | ((with_reducible refine gate_callee (f := 28) rfl ?_); refine goesL_ (some 78) rfl rfl Try.func28 (by kernel_rfl) rfl #[.int .i64 t190, .int .i64 t191] rfl (by (try simp only [List.map_toArray, List.map_cons, List.map_nil]); first | done | rfl | (simp only [List.length_drop, List.length_take]; rfl)) ?_; (with_reducible refine (fixed_Div.calls t190 t191 t192 _ A45.out).mono ?_); rintro e w50 ⟨rfl, hb⟩; refine ⟨_, rfl, ?_⟩; have n0_ := Aside0.mk (Kd.R_below (by (with_reducible repeat (first | apply Kd.R_alloc | apply Kd.R_drewN | apply Kd.R_drew)); exact HO_0.out) hb); have n1_ := Aside0.mk (Kd.R_below (by (with_reducible repeat (first | apply Kd.R_alloc | apply Kd.R_drewN | apply Kd.R_drew)); exact HO_1.out) hb); have n2_ := Aside0.mk (Kd.R_below (by (with_reducible repeat (first | apply Kd.R_alloc | apply Kd.R_drewN | apply Kd.R_drew)); exact HO_8.out) hb); have n3_ := Aside0.mk (Kd.R_below (by (with_reducible repeat (first | apply Kd.R_alloc | apply Kd.R_drewN | apply Kd.R_drew)); exact HO_9.out) hb); have n4_ := Aside0.mk (below_step (by repeat (first | (with_reducible first | exact HB.out | apply below_alloc | apply pw_below_drewN | apply below_drew1) | exact HB.out)) hb); clear HO_0; clear HO_1; clear HO_8; clear HO_9; clear HB; have HO_0 := n0_; have HO_1 := n1_; have HO_8 := n2_; have HO_9 := n3_; have HB := n4_; clear n0_ n1_ n2_ n3_ n4_; (try clear hb); (try clear hb2); (try clear hk); (try clear hi)))
          go_ret
          exact ⟨by first | rfl | (simp [errW_none, errW_some] <;> rfl) | (simp only [← hji3, ← hji4]; first | rfl | (simp [errW_none, errW_some] <;> rfl)) | (simp [*, errW_none, errW_some] <;> rfl), by repeat (first | (with_reducible first | exact HB.out | apply below_alloc | apply pw_below_drewN | apply below_drew1) | exact HB.out)⟩
      ·rw [if_neg c12] at H
       exact absurd H (by simp)
     ·rw [if_neg c11] at H
      exact absurd H (by simp)
    ·rw [if_neg c8] at H
     exact absurd H (by simp)
   ·rw [if_neg c7] at H
    exact absurd H (by simp)
  ·rw [if_neg c6] at H
   exact absurd H (by simp)
end Go.Proofs.Ytmcfgaokimlngaa.P
end

section
namespace Go.Proofs.Ytmcfgaokimlngaa.P
open Go.RowKit Go.Proofs.YtmcfgaokimlngaaW.PrintWords Go.Proofs.YtmcfgaokimlngaaW.PrintLast Go.Proofs.YtmcfgaokimlngaaW.PrintMore
attribute [local go_sem] max2_int min2_int max_two min_two max_three min_three max_four min_four   -- for this text's walks alone
set_option linter.unusedVariables false
set_option linter.unusedSimpArgs false
def IsS60P (P : Nat → Prop) (w0 W : World) (g : Nat) (f0 : Int) (f1 : Int) (f2 : Int) (f3 : Int) (f4 : Int) (f5 : List Int) (f6 : List Int) (f7 : Int) : Prop := ∃ A5 c5, ∃ A6 c6, W.heap[g]? = some (.cells #[.int .i64 f0, .int .i64 f1, .int .i64 f2, .int .i64 f3, .int .i64 f4, .slice A5 f5.length c5, .slice A6 f6.length c6, .int .i64 f7] 60 (0, 0)) ∧ w0.heap.size ≤ g ∧ Kd.Q (Kd.int .i64) 2 W w0.heap.size (fun k => P k ∧ k ≠ g) (.slice A5 f5.length c5) f5 ∧ Kd.Q (Kd.int .i64) 2 W w0.heap.size (fun k => (P k ∧ k ≠ g) ∧ some k ≠ (Value.slice A5 f5.length c5).ownBlock) (.slice A6 f6.length c6) f6 ∧ P g
def IsS60 (w0 W : World) (g : Nat) (f0 : Int) (f1 : Int) (f2 : Int) (f3 : Int) (f4 : Int) (f5 : List Int) (f6 : List Int) (f7 : Int) : Prop := IsS60P (fun _ => True) w0 W g f0 f1 f2 f3 f4 f5 f6 f7
theorem IsS60P.fresh {P : Nat → Prop} {w0 W : World} {g : Nat} {f0 : Int} {f1 : Int} {f2 : Int} {f3 : Int} {f4 : Int} {f5 : List Int} {f6 : List Int} {f7 : Int} (h : IsS60P P w0 W g f0 f1 f2 f3 f4 f5 f6 f7) : ∀ k, W.heap.size ≤ k → k ≠ g := by
 obtain ⟨A5, c5, A6, c6, hb, hg, hr5, hr6, hP⟩ := h
 exact Kd.freshB hb
theorem IsS60.fresh {w0 W : World} {g : Nat} {f0 : Int} {f1 : Int} {f2 : Int} {f3 : Int} {f4 : Int} {f5 : List Int} {f6 : List Int} {f7 : Int} (h : IsS60 w0 W g f0 f1 f2 f3 f4 f5 f6 f7) : ∀ k, W.heap.size ≤ k → k ≠ g := IsS60P.fresh h
theorem IsS60P.below {P : Nat → Prop} {w0 W : World} {g : Nat} {f0 : Int} {f1 : Int} {f2 : Int} {f3 : Int} {f4 : Int} {f5 : List Int} {f6 : List Int} {f7 : Int} {W1 : World} (h : IsS60P P w0 W g f0 f1 f2 f3 f4 f5 f6 f7) (hw : Below W.heap.size W W1) : IsS60P P w0 W1 g f0 f1 f2 f3 f4 f5 f6 f7 := by
 obtain ⟨A5, c5, A6, c6, hb, hg, hr5, hr6, hP⟩ := h
 exact ⟨A5, c5, A6, c6, blk_grown hb (grown_of_below hw none) (by simp), hg, Kd.Q_below hr5 hw, Kd.Q_below hr6 hw, hP⟩
theorem IsS60.below {w0 W : World} {g : Nat} {f0 : Int} {f1 : Int} {f2 : Int} {f3 : Int} {f4 : Int} {f5 : List Int} {f6 : List Int} {f7 : Int} {W1 : World} (h : IsS60 w0 W g f0 f1 f2 f3 f4 f5 f6 f7) (hw : Below W.heap.size W W1) : IsS60 w0 W1 g f0 f1 f2 f3 f4 f5 f6 f7 := IsS60P.below h hw
theorem IsS60P.alloc {P : Nat → Prop} {w0 W : World} {g : Nat} {f0 : Int} {f1 : Int} {f2 : Int} {f3 : Int} {f4 : Int} {f5 : List Int} {f6 : List Int} {f7 : Int} (h : IsS60P P w0 W g f0 f1 f2 f3 f4 f5 f6 f7) (o : Obj) : IsS60P P w0 (W.alloc o) g f0 f1 f2 f3 f4 f5 f6 f7 := h.below (below_alloc (Below.refl _ _) o)
theorem IsS60.alloc {w0 W : World} {g : Nat} {f0 : Int} {f1 : Int} {f2 : Int} {f3 : Int} {f4 : Int} {f5 : List Int} {f6 : List Int} {f7 : Int} (h : IsS60 w0 W g f0 f1 f2 f3 f4 f5 f6 f7) (o : Obj) : IsS60 w0 (W.alloc o) g f0 f1 f2 f3 f4 f5 f6 f7 := IsS60P.alloc h o
theorem IsS60P.drewN {P : Nat → Prop} {w0 W : World} {g : Nat} {f0 : Int} {f1 : Int} {f2 : Int} {f3 : Int} {f4 : Int} {f5 : List Int} {f6 : List Int} {f7 : Int} (h : IsS60P P w0 W g f0 f1 f2 f3 f4 f5 f6 f7) (m : Nat) : IsS60P P w0 (W.drewN m) g f0 f1 f2 f3 f4 f5 f6 f7 := h.below (pw_below_drewN (Below.refl _ _) m)
theorem IsS60.drewN {w0 W : World} {g : Nat} {f0 : Int} {f1 : Int} {f2 : Int} {f3 : Int} {f4 : Int} {f5 : List Int} {f6 : List Int} {f7 : Int} (h : IsS60 w0 W g f0 f1 f2 f3 f4 f5 f6 f7) (m : Nat) : IsS60 w0 (W.drewN m) g f0 f1 f2 f3 f4 f5 f6 f7 := IsS60P.drewN h m
theorem IsS60P.drew {P : Nat → Prop} {w0 W : World} {g : Nat} {f0 : Int} {f1 : Int} {f2 : Int} {f3 : Int} {f4 : Int} {f5 : List Int} {f6 : List Int} {f7 : Int} (h : IsS60P P w0 W g f0 f1 f2 f3 f4 f5 f6 f7) : IsS60P P w0 W.drew g f0 f1 f2 f3 f4 f5 f6 f7 := h.below (below_drew (Below.refl _ _))
theorem IsS60.drew {w0 W : World} {g : Nat} {f0 : Int} {f1 : Int} {f2 : Int} {f3 : Int} {f4 : Int} {f5 : List Int} {f6 : List Int} {f7 : Int} (h : IsS60 w0 W g f0 f1 f2 f3 f4 f5 f6 f7) : IsS60 w0 W.drew g f0 f1 f2 f3 f4 f5 f6 f7 := IsS60P.drew h
theorem IsS60P.ge {P : Nat → Prop} {w0 W : World} {g : Nat} {f0 : Int} {f1 : Int} {f2 : Int} {f3 : Int} {f4 : Int} {f5 : List Int} {f6 : List Int} {f7 : Int} (h : IsS60P P w0 W g f0 f1 f2 f3 f4 f5 f6 f7) : w0.heap.size ≤ g := by
 obtain ⟨A5, c5, A6, c6, hb, hg, hr5, hr6, hP⟩ := h
 exact hg
theorem IsS60.ge {w0 W : World} {g : Nat} {f0 : Int} {f1 : Int} {f2 : Int} {f3 : Int} {f4 : Int} {f5 : List Int} {f6 : List Int} {f7 : Int} (h : IsS60 w0 W g f0 f1 f2 f3 f4 f5 f6 f7) : w0.heap.size ≤ g := IsS60P.ge h
theorem IsS60P.cell_0 {P : Nat → Prop} {w0 W : World} {g : Nat} {f0 : Int} {f1 : Int} {f2 : Int} {f3 : Int} {f4 : Int} {f5 : List Int} {f6 : List Int} {f7 : Int} (h : IsS60P P w0 W g f0 f1 f2 f3 f4 f5 f6 f7) : W.cell? ⟨g, 0, none⟩ = some (.int .i64 f0) := by
 obtain ⟨A5, c5, A6, c6, hb, hg, hr5, hr6, hP⟩ := h
 exact (blk_cell hb 0).trans rfl
theorem IsS60.cell_0 {w0 W : World} {g : Nat} {f0 : Int} {f1 : Int} {f2 : Int} {f3 : Int} {f4 : Int} {f5 : List Int} {f6 : List Int} {f7 : Int} (h : IsS60 w0 W g f0 f1 f2 f3 f4 f5 f6 f7) : W.cell? ⟨g, 0, none⟩ = some (.int .i64 f0) := IsS60P.cell_0 h
theorem IsS60P.cell_1 {P : Nat → Prop} {w0 W : World} {g : Nat} {f0 : Int} {f1 : Int} {f2 : Int} {f3 : Int} {f4 : Int} {f5 : List Int} {f6 : List Int} {f7 : Int} (h : IsS60P P w0 W g f0 f1 f2 f3 f4 f5 f6 f7) : W.cell? ⟨g, 1, none⟩ = some (.int .i64 f1) := by
 obtain ⟨A5, c5, A6, c6, hb, hg, hr5, hr6, hP⟩ := h
 exact (blk_cell hb 1).trans rfl
theorem IsS60.cell_1 {w0 W : World} {g : Nat} {f0 : Int} {f1 : Int} {f2 : Int} {f3 : Int} {f4 : Int} {f5 : List Int} {f6 : List Int} {f7 : Int} (h : IsS60 w0 W g f0 f1 f2 f3 f4 f5 f6 f7) : W.cell? ⟨g, 1, none⟩ = some (.int .i64 f1) := IsS60P.cell_1 h
theorem IsS60P.cell_2 {P : Nat → Prop} {w0 W : World} {g : Nat} {f0 : Int} {f1 : Int} {f2 : Int} {f3 : Int} {f4 : Int} {f5 : List Int} {f6 : List Int} {f7 : Int} (h : IsS60P P w0 W g f0 f1 f2 f3 f4 f5 f6 f7) : W.cell? ⟨g, 2, none⟩ = some (.int .i64 f2) := by
 obtain ⟨A5, c5, A6, c6, hb, hg, hr5, hr6, hP⟩ := h
 exact (blk_cell hb 2).trans rfl
theorem IsS60.cell_2 {w0 W : World} {g : Nat} {f0 : Int} {f1 : Int} {f2 : Int} {f3 : Int} {f4 : Int} {f5 : List Int} {f6 : List Int} {f7 : Int} (h : IsS60 w0 W g f0 f1 f2 f3 f4 f5 f6 f7) : W.cell? ⟨g, 2, none⟩ = some (.int .i64 f2) := IsS60P.cell_2 h
theorem IsS60P.cell_3 {P : Nat → Prop} {w0 W : World} {g : Nat} {f0 : Int} {f1 : Int} {f2 : Int} {f3 : Int} {f4 : Int} {f5 : List Int} {f6 : List Int} {f7 : Int} (h : IsS60P P w0 W g f0 f1 f2 f3 f4 f5 f6 f7) : W.cell? ⟨g, 3, none⟩ = some (.int .i64 f3) := by
 obtain ⟨A5, c5, A6, c6, hb, hg, hr5, hr6, hP⟩ := h
 exact (blk_cell hb 3).trans rfl
theorem IsS60.cell_3 {w0 W : World} {g : Nat} {f0 : Int} {f1 : Int} {f2 : Int} {f3 : Int} {f4 : Int} {f5 : List Int} {f6 : List Int} {f7 : Int} (h : IsS60 w0 W g f0 f1 f2 f3 f4 f5 f6 f7) : W.cell? ⟨g, 3, none⟩ = some (.int .i64 f3) := IsS60P.cell_3 h
theorem IsS60P.froz_3 {P : Nat → Prop} {w0 W : World} {g : Nat} {f0 : Int} {f1 : Int} {f2 : Int} {f3 : Int} {f4 : Int} {f5 : List Int} {f6 : List Int} {f7 : Int} (h : IsS60P P w0 W g f0 f1 f2 f3 f4 f5 f6 f7) : W.frozen? ⟨g, 3, none⟩ = false := by
 obtain ⟨A5, c5, A6, c6, hb, hg, hr5, hr6, hP⟩ := h
 exact blk_frozen hb 3
theorem IsS60.froz_3 {w0 W : World} {g : Nat} {f0 : Int} {f1 : Int} {f2 : Int} {f3 : Int} {f4 : Int} {f5 : List Int} {f6 : List Int} {f7 : Int} (h : IsS60 w0 W g f0 f1 f2 f3 f4 f5 f6 f7) : W.frozen? ⟨g, 3, none⟩ = false := IsS60P.froz_3 h
theorem IsS60P.cell_4 {P : Nat → Prop} {w0 W : World} {g : Nat} {f0 : Int} {f1 : Int} {f2 : Int} {f3 : Int} {f4 : Int} {f5 : List Int} {f6 : List Int} {f7 : Int} (h : IsS60P P w0 W g f0 f1 f2 f3 f4 f5 f6 f7) : W.cell? ⟨g, 4, none⟩ = some (.int .i64 f4) := by
 obtain ⟨A5, c5, A6, c6, hb, hg, hr5, hr6, hP⟩ := h
 exact (blk_cell hb 4).trans rfl
theorem IsS60.cell_4 {w0 W : World} {g : Nat} {f0 : Int} {f1 : Int} {f2 : Int} {f3 : Int} {f4 : Int} {f5 : List Int} {f6 : List Int} {f7 : Int} (h : IsS60 w0 W g f0 f1 f2 f3 f4 f5 f6 f7) : W.cell? ⟨g, 4, none⟩ = some (.int .i64 f4) := IsS60P.cell_4 h
theorem IsS60P.cell_7 {P : Nat → Prop} {w0 W : World} {g : Nat} {f0 : Int} {f1 : Int} {f2 : Int} {f3 : Int} {f4 : Int} {f5 : List Int} {f6 : List Int} {f7 : Int} (h : IsS60P P w0 W g f0 f1 f2 f3 f4 f5 f6 f7) : W.cell? ⟨g, 7, none⟩ = some (.int .i64 f7) := by
 obtain ⟨A5, c5, A6, c6, hb, hg, hr5, hr6, hP⟩ := h
 exact (blk_cell hb 7).trans rfl
theorem IsS60.cell_7 {w0 W : World} {g : Nat} {f0 : Int} {f1 : Int} {f2 : Int} {f3 : Int} {f4 : Int} {f5 : List Int} {f6 : List Int} {f7 : Int} (h : IsS60 w0 W g f0 f1 f2 f3 f4 f5 f6 f7) : W.cell? ⟨g, 7, none⟩ = some (.int .i64 f7) := IsS60P.cell_7 h
theorem cellS60_0 {W : World} {g : Nat} {A5 : Option Addr} {c5 : Nat} {A6 : Option Addr} {c6 : Nat} {f0 : Int} {f1 : Int} {f2 : Int} {f3 : Int} {f4 : Int} {f5 : List Int} {f6 : List Int} {f7 : Int} (h : W.heap[g]? = some (.cells #[.int .i64 f0, .int .i64 f1, .int .i64 f2, .int .i64 f3, .int .i64 f4, .slice A5 f5.length c5, .slice A6 f6.length c6, .int .i64 f7] 60 (0, 0))) : W.cell? ⟨g, 0, none⟩ = some (.int .i64 f0) := (blk_cell h 0).trans rfl
theorem IsS60P.set_0 {P : Nat → Prop} {w0 W : World} {g : Nat} {f0 : Int} {f1 : Int} {f2 : Int} {f3 : Int} {f4 : Int} {f5 : List Int} {f6 : List Int} {f7 : Int} (h : IsS60P P w0 W g f0 f1 f2 f3 f4 f5 f6 f7) (x : Int) : IsS60P P w0 (W.setCell ⟨g, 0, none⟩ (.int .i64 x)) g x f1 f2 f3 f4 f5 f6 f7 := by
 obtain ⟨A5, c5, A6, c6, hb, hg, hr5, hr6, hP⟩ := h
 exact ⟨A5, c5, A6, c6, by simpa using blk_set hb 0 (.int .i64 x), hg, Kd.Q_far hr5 (fun _ h => h.2) _, Kd.Q_far hr6 (fun _ h => h.1.2) _, hP⟩
theorem IsS60.set_0 {w0 W : World} {g : Nat} {f0 : Int} {f1 : Int} {f2 : Int} {f3 : Int} {f4 : Int} {f5 : List Int} {f6 : List Int} {f7 : Int} (h : IsS60 w0 W g f0 f1 f2 f3 f4 f5 f6 f7) (x : Int) : IsS60 w0 (W.setCell ⟨g, 0, none⟩ (.int .i64 x)) g x f1 f2 f3 f4 f5 f6 f7 := IsS60P.set_0 h x
theorem cellS60_1 {W : World} {g : Nat} {A5 : Option Addr} {c5 : Nat} {A6 : Option Addr} {c6 : Nat} {f0 : Int} {f1 : Int} {f2 : Int} {f3 : Int} {f4 : Int} {f5 : List Int} {f6 : List Int} {f7 : Int} (h : W.heap[g]? = some (.cells #[.int .i64 f0, .int .i64 f1, .int .i64 f2, .int .i64 f3, .int .i64 f4, .slice A5 f5.length c5, .slice A6 f6.length c6, .int .i64 f7] 60 (0, 0))) : W.cell? ⟨g, 1, none⟩ = some (.int .i64 f1) := (blk_cell h 1).trans rfl
theorem IsS60P.set_1 {P : Nat → Prop} {w0 W : World} {g : Nat} {f0 : Int} {f1 : Int} {f2 : Int} {f3 : Int} {f4 : Int} {f5 : List Int} {f6 : List Int} {f7 : Int} (h : IsS60P P w0 W g f0 f1 f2 f3 f4 f5 f6 f7) (x : Int) : IsS60P P w0 (W.setCell ⟨g, 1, none⟩ (.int .i64 x)) g f0 x f2 f3 f4 f5 f6 f7 := by
 obtain ⟨A5, c5, A6, c6, hb, hg, hr5, hr6, hP⟩ := h
 exact ⟨A5, c5, A6, c6, by simpa using blk_set hb 1 (.int .i64 x), hg, Kd.Q_far hr5 (fun _ h => h.2) _, Kd.Q_far hr6 (fun _ h => h.1.2) _, hP⟩
theorem IsS60.set_1 {w0 W : World} {g : Nat} {f0 : Int} {f1 : Int} {f2 : Int} {f3 : Int} {f4 : Int} {f5 : List Int} {f6 : List Int} {f7 : Int} (h : IsS60 w0 W g f0 f1 f2 f3 f4 f5 f6 f7) (x : Int) : IsS60 w0 (W.setCell ⟨g, 1, none⟩ (.int .i64 x)) g f0 x f2 f3 f4 f5 f6 f7 := IsS60P.set_1 h x
theorem cellS60_2 {W : World} {g : Nat} {A5 : Option Addr} {c5 : Nat} {A6 : Option Addr} {c6 : Nat} {f0 : Int} {f1 : Int} {f2 : Int} {f3 : Int} {f4 : Int} {f5 : List Int} {f6 : List Int} {f7 : Int} (h : W.heap[g]? = some (.cells #[.int .i64 f0, .int .i64 f1, .int .i64 f2, .int .i64 f3, .int .i64 f4, .slice A5 f5.length c5, .slice A6 f6.length c6, .int .i64 f7] 60 (0, 0))) : W.cell? ⟨g, 2, none⟩ = some (.int .i64 f2) := (blk_cell h 2).trans rfl
theorem IsS60P.set_2 {P : Nat → Prop} {w0 W : World} {g : Nat} {f0 : Int} {f1 : Int} {f2 : Int} {f3 : Int} {f4 : Int} {f5 : List Int} {f6 : List Int} {f7 : Int} (h : IsS60P P w0 W g f0 f1 f2 f3 f4 f5 f6 f7) (x : Int) : IsS60P P w0 (W.setCell ⟨g, 2, none⟩ (.int .i64 x)) g f0 f1 x f3 f4 f5 f6 f7 := by
 obtain ⟨A5, c5, A6, c6, hb, hg, hr5, hr6, hP⟩ := h
 exact ⟨A5, c5, A6, c6, by simpa using blk_set hb 2 (.int .i64 x), hg, Kd.Q_far hr5 (fun _ h => h.2) _, Kd.Q_far hr6 (fun _ h => h.1.2) _, hP⟩
theorem IsS60.set_2 {w0 W : World} {g : Nat} {f0 : Int} {f1 : Int} {f2 : Int} {f3 : Int} {f4 : Int} {f5 : List Int} {f6 : List Int} {f7 : Int} (h : IsS60 w0 W g f0 f1 f2 f3 f4 f5 f6 f7) (x : Int) : IsS60 w0 (W.setCell ⟨g, 2, none⟩ (.int .i64 x)) g f0 f1 x f3 f4 f5 f6 f7 := IsS60P.set_2 h x
theorem cellS60_3 {W : World} {g : Nat} {A5 : Option Addr} {c5 : Nat} {A6 : Option Addr} {c6 : Nat} {f0 : Int} {f1 : Int} {f2 : Int} {f3 : Int} {f4 : Int} {f5 : List Int} {f6 : List Int} {f7 : Int} (h : W.heap[g]? = some (.cells #[.int .i64 f0, .int .i64 f1, .int .i64 f2, .int .i64 f3, .int .i64 f4, .slice A5 f5.length c5, .slice A6 f6.length c6, .int .i64 f7] 60 (0, 0))) : W.cell? ⟨g, 3, none⟩ = some (.int .i64 f3) := (blk_cell h 3).trans rfl
theorem IsS60P.set_3 {P : Nat → Prop} {w0 W : World} {g : Nat} {f0 : Int} {f1 : Int} {f2 : Int} {f3 : Int} {f4 : Int} {f5 : List Int} {f6 : List Int} {f7 : Int} (h : IsS60P P w0 W g f0 f1 f2 f3 f4 f5 f6 f7) (x : Int) : IsS60P P w0 (W.setCell ⟨g, 3, none⟩ (.int .i64 x)) g f0 f1 f2 x f4 f5 f6 f7 := by
 obtain ⟨A5, c5, A6, c6, hb, hg, hr5, hr6, hP⟩ := h
 exact ⟨A5, c5, A6, c6, by simpa using blk_set hb 3 (.int .i64 x), hg, Kd.Q_far hr5 (fun _ h => h.2) _, Kd.Q_far hr6 (fun _ h => h.1.2) _, hP⟩
theorem IsS60.set_3 {w0 W : World} {g : Nat} {f0 : Int} {f1 : Int} {f2 : Int} {f3 : Int} {f4 : Int} {f5 : List Int} {f6 : List Int} {f7 : Int} (h : IsS60 w0 W g f0 f1 f2 f3 f4 f5 f6 f7) (x : Int) : IsS60 w0 (W.setCell ⟨g, 3, none⟩ (.int .i64 x)) g f0 f1 f2 x f4 f5 f6 f7 := IsS60P.set_3 h x
theorem cellS60_4 {W : World} {g : Nat} {A5 : Option Addr} {c5 : Nat} {A6 : Option Addr} {c6 : Nat} {f0 : Int} {f1 : Int} {f2 : Int} {f3 : Int} {f4 : Int} {f5 : List Int} {f6 : List Int} {f7 : Int} (h : W.heap[g]? = some (.cells #[.int .i64 f0, .int .i64 f1, .int .i64 f2, .int .i64 f3, .int .i64 f4, .slice A5 f5.length c5, .slice A6 f6.length c6, .int .i64 f7] 60 (0, 0))) : W.cell? ⟨g, 4, none⟩ = some (.int .i64 f4) := (blk_cell h 4).trans rfl
theorem IsS60P.set_4 {P : Nat → Prop} {w0 W : World} {g : Nat} {f0 : Int} {f1 : Int} {f2 : Int} {f3 : Int} {f4 : Int} {f5 : List Int} {f6 : List Int} {f7 : Int} (h : IsS60P P w0 W g f0 f1 f2 f3 f4 f5 f6 f7) (x : Int) : IsS60P P w0 (W.setCell ⟨g, 4, none⟩ (.int .i64 x)) g f0 f1 f2 f3 x f5 f6 f7 := by
 obtain ⟨A5, c5, A6, c6, hb, hg, hr5, hr6, hP⟩ := h
 exact ⟨A5, c5, A6, c6, by simpa using blk_set hb 4 (.int .i64 x), hg, Kd.Q_far hr5 (fun _ h => h.2) _, Kd.Q_far hr6 (fun _ h => h.1.2) _, hP⟩
theorem IsS60.set_4 {w0 W : World} {g : Nat} {f0 : Int} {f1 : Int} {f2 : Int} {f3 : Int} {f4 : Int} {f5 : List Int} {f6 : List Int} {f7 : Int} (h : IsS60 w0 W g f0 f1 f2 f3 f4 f5 f6 f7) (x : Int) : IsS60 w0 (W.setCell ⟨g, 4, none⟩ (.int .i64 x)) g f0 f1 f2 f3 x f5 f6 f7 := IsS60P.set_4 h x
theorem cellS60_5 {W : World} {g : Nat} {A5 : Option Addr} {c5 : Nat} {A6 : Option Addr} {c6 : Nat} {f0 : Int} {f1 : Int} {f2 : Int} {f3 : Int} {f4 : Int} {f5 : List Int} {f6 : List Int} {f7 : Int} (h : W.heap[g]? = some (.cells #[.int .i64 f0, .int .i64 f1, .int .i64 f2, .int .i64 f3, .int .i64 f4, .slice A5 f5.length c5, .slice A6 f6.length c6, .int .i64 f7] 60 (0, 0))) : W.cell? ⟨g, 5, none⟩ = some (.slice A5 f5.length c5) := (blk_cell h 5).trans rfl
theorem cellS60_6 {W : World} {g : Nat} {A5 : Option Addr} {c5 : Nat} {A6 : Option Addr} {c6 : Nat} {f0 : Int} {f1 : Int} {f2 : Int} {f3 : Int} {f4 : Int} {f5 : List Int} {f6 : List Int} {f7 : Int} (h : W.heap[g]? = some (.cells #[.int .i64 f0, .int .i64 f1, .int .i64 f2, .int .i64 f3, .int .i64 f4, .slice A5 f5.length c5, .slice A6 f6.length c6, .int .i64 f7] 60 (0, 0))) : W.cell? ⟨g, 6, none⟩ = some (.slice A6 f6.length c6) := (blk_cell h 6).trans rfl
theorem cellS60_7 {W : World} {g : Nat} {A5 : Option Addr} {c5 : Nat} {A6 : Option Addr} {c6 : Nat} {f0 : Int} {f1 : Int} {f2 : Int} {f3 : Int} {f4 : Int} {f5 : List Int} {f6 : List Int} {f7 : Int} (h : W.heap[g]? = some (.cells #[.int .i64 f0, .int .i64 f1, .int .i64 f2, .int .i64 f3, .int .i64 f4, .slice A5 f5.length c5, .slice A6 f6.length c6, .int .i64 f7] 60 (0, 0))) : W.cell? ⟨g, 7, none⟩ = some (.int .i64 f7) := (blk_cell h 7).trans rfl
theorem IsS60P.set_7 {P : Nat → Prop} {w0 W : World} {g : Nat} {f0 : Int} {f1 : Int} {f2 : Int} {f3 : Int} {f4 : Int} {f5 : List Int} {f6 : List Int} {f7 : Int} (h : IsS60P P w0 W g f0 f1 f2 f3 f4 f5 f6 f7) (x : Int) : IsS60P P w0 (W.setCell ⟨g, 7, none⟩ (.int .i64 x)) g f0 f1 f2 f3 f4 f5 f6 x := by
 obtain ⟨A5, c5, A6, c6, hb, hg, hr5, hr6, hP⟩ := h
 exact ⟨A5, c5, A6, c6, by simpa using blk_set hb 7 (.int .i64 x), hg, Kd.Q_far hr5 (fun _ h => h.2) _, Kd.Q_far hr6 (fun _ h => h.1.2) _, hP⟩
theorem IsS60.set_7 {w0 W : World} {g : Nat} {f0 : Int} {f1 : Int} {f2 : Int} {f3 : Int} {f4 : Int} {f5 : List Int} {f6 : List Int} {f7 : Int} (h : IsS60 w0 W g f0 f1 f2 f3 f4 f5 f6 f7) (x : Int) : IsS60 w0 (W.setCell ⟨g, 7, none⟩ (.int .i64 x)) g f0 f1 f2 f3 f4 f5 f6 x := IsS60P.set_7 h x
theorem IsS60P.mono {P P' : Nat → Prop} {w0 W : World} {g : Nat} {f0 : Int} {f1 : Int} {f2 : Int} {f3 : Int} {f4 : Int} {f5 : List Int} {f6 : List Int} {f7 : Int} (h : IsS60P P w0 W g f0 f1 f2 f3 f4 f5 f6 f7) (hP : ∀ k, P k → P' k) : IsS60P P' w0 W g f0 f1 f2 f3 f4 f5 f6 f7 := by
 obtain ⟨A5, c5, A6, c6, hb, hg, hr5, hr6, hp⟩ := h
 exact ⟨A5, c5, A6, c6, hb, hg, Kd.Q_mono hr5 (fun _ h => ⟨hP _ h.1, h.2⟩), Kd.Q_mono hr6 (fun _ h => ⟨⟨hP _ h.1.1, h.1.2⟩, h.2⟩), hP _ hp⟩
def trend_New.made.f (a0 : Int) (a1 : Int) : Option (Int × Int × Int × Int × Int × List Int × List Int × Int × Int) := if a0 < 2 then (none) else (if a0 > 64 then (none) else (if a1 < 0 then (none) else (if a1 > 4294967296 then (none) else (some (a0, a1, 0, 0, 0, ([] : List Int), ([] : List Int), 0, 0)))))
set_option maxHeartbeats 8000000 in
set_option maxRecDepth 100000 in
theorem trend_New.made.calls (a0 : Int) (a1 : Int) (r1 : Int) (r2 : Int) (r3 : Int) (r4 : Int) (r5 : Int) (r6 : List Int) (r7 : List Int) (r8 : Int) (r9 : Int) (w0 w : World) (hB : Below w0.heap.size w0 w) (h : trend_New.made.f a0 a1 = some (r1, r2, r3, r4, r5, r6, r7, r8, r9)) :
  Calls Try.prog 14 #[.int .i64 a0, .int .i64 a1] w fun e w' => ∃ g_ : Nat, e = .returned (.tuple #[.pointer (some ⟨g_, 0, none⟩), .int .i64 r9]) ∧ IsS60 w0 w' g_ r1 r2 r3 r4 r5 r6 r7 r8 ∧ Below w0.heap.size w0 w' ∧ Below w.heap.size w w' := by
 have hu60 := Try.underlying60
 have HBW := Aside0.mk (Below.refl w.heap.size w)
 have HW0 := Aside0.mk hB.size
 have HB := Aside0.mk hB
 clear hB
 have H : (if a0 < 2 then (none) else (if a0 > 64 then (none) else (if a1 < 0 then (none) else (if a1 > 4294967296 then (none) else (some (a0, a1, 0, 0, 0, ([] : List Int), ([] : List Int), 0, 0)))))) = some (r1, r2, r3, r4, r5, r6, r7, r8, r9) := h
 clear h
 by_cases c3 : a0 < 2
 ·rw [if_pos c3] at H
  exact absurd H (by simp)
 ·rw [if_neg c3] at H
  have c3b0 : decide (a0 < 2) = false := decide_eq_false c3
  clear c3
  by_cases c4 : a0 > 64
  ·rw [if_pos c4] at H
   exact absurd H (by simp)
  ·rw [if_neg c4] at H
   have c4b0 : decide (64 < a0) = false := decide_eq_false c4
   clear c4
   by_cases c5 : a1 < 0
   ·rw [if_pos c5] at H
    exact absurd H (by simp)
   ·rw [if_neg c5] at H
    have c5b0 : decide (a1 < 0) = false := decide_eq_false c5
    clear c5
    by_cases c6 : a1 > 4294967296
    ·rw [if_pos c6] at H
     exact absurd H (by simp)
    ·rw [if_neg c6] at H
     have c6b0 : decide (4294967296 < a1) = false := decide_eq_false c6
     clear c6
     simp only [Option.some.injEq, Prod.mk.injEq] at H
     obtain ⟨rfl, rfl, rfl, rfl, rfl, rfl, rfl, rfl, rfl⟩ := H
     go_enter Try.func14, Try.ntmps14
     go_wp2_with (first | ((with_reducible refine gate_dst (N := 23) rfl ?_); refine box_event ?hg (N := 23) ?hd (cs := #[.int .i64 a0, .int .i64 a1, .int .i64 0, .int .i64 0, .int .i64 0, .slice none 0 0, .slice none 0 0, .int .i64 0]) (t := 60) ?hr ?_; (case hd => rfl); (case hg => rfl); (case hr => first | (go_simp; done) | (go_simp; rfl)); intro gb193 hg w7 hbox hb; have n0_ := Aside0.mk (below_step (by repeat (first | (with_reducible first | exact HBW.out | apply below_alloc | apply pw_below_drewN | apply below_drew1) | exact HBW.out)) hb); have n1_ := Aside0.mk (below_step (by repeat (first | (with_reducible first | exact HB.out | apply below_alloc | apply pw_below_drewN | apply below_drew1) | exact HB.out)) hb); have n2_ := Aside0.mk (hbox); have n3_ := Aside0.mk ((by rw [hg]; exact (below_size (by repeat (first | (with_reducible first | exact HBW.out | apply below_alloc | apply pw_below_drewN | apply below_drew1) | exact HBW.out))) : w.heap.size ≤ gb193)); have n4_ := Aside0.mk ((Nat.le_trans HW0.out (by rw [hg]; exact (below_size (by repeat (first | (with_reducible first | exact HBW.out | apply below_alloc | apply pw_below_drewN | apply below_drew1) | exact HBW.out))) : w.heap.size ≤ gb193) : w0.heap.size ≤ gb193)); clear HBW; clear HB; have HBW := n0_; have HB := n1_; have BK193 := n2_; have GW193 := n3_; have GE193 := n4_; clear n0_ n1_ n2_ n3_ n4_; clear hb hbox hg))
     go_ret2
     exact ⟨_, rfl, (show IsS60 w0 _ gb193 a0 a1 0 0 0 ([] : List Int) ([] : List Int) 0 from ⟨none, 0, none, 0, by (with_reducible repeat (first | refine blk_drewN ?_ _ | refine blk_drew ?_ | refine blk_alloc ?_ _)); exact BK193.out, GE193.out, (Kd.Q_nil _ _ _ _ _), (Kd.Q_nil _ _ _ _ _), trivial⟩), by repeat (first | (with_reducible first | exact HB.out | apply below_alloc | apply pw_below_drewN | apply below_drew1 | refine below_set ?_ GE193.out) | exact HB.out), by repeat (first | (with_reducible first | exact HBW.out | apply below_alloc | apply pw_below_drewN | apply below_drew1 | refine below_set ?_ GW193.out) | exact HBW.out)⟩
def trend_New.nil.f (a0 : Int) (a1 : Int) : Option (Int) := if a0 < 2 then (some 1) else (if a0 > 64 then (some 1) else (if a1 < 0 then (some 1) else (if a1 > 4294967296 then (some 1) else (none))))
set_option maxHeartbeats 8000000 in
set_option maxRecDepth 100000 in
theorem trend_New.nil.calls (a0 : Int) (a1 : Int) (r : Int) (w : World) (h : trend_New.nil.f a0 a1 = some r) :
  Calls Try.prog 14 #[.int .i64 a0, .int .i64 a1] w fun e w' => e = .returned (.tuple #[.pointer none, .int .i64 r]) ∧ Below w.heap.size w w' := by
 have hu60 := Try.underlying60
 have HB := Aside0.mk (Below.refl w.heap.size w)
 have H : (if a0 < 2 then (some 1) else (if a0 > 64 then (some 1) else (if a1 < 0 then (some 1) else (if a1 > 4294967296 then (some 1) else (none))))) = some r := h
 clear h
 by_cases c3 : a0 < 2
 ·rw [if_pos c3] at H
  have c3b0 : decide (a0 < 2) = true := decide_eq_true c3
  clear c3
  obtain rfl := Option.some.inj H
  go_enter Try.func14, Try.ntmps14
  go_wp2
  go_ret2
  exact ⟨by first | rfl | (simp [errW_none, errW_some] <;> rfl) | (simp [*, errW_none, errW_some] <;> rfl), by repeat (first | (with_reducible first | exact HB.out | apply below_alloc | apply pw_below_drewN | apply below_drew1) | exact HB.out)⟩
 ·rw [if_neg c3] at H
  have c3b0 : decide (a0 < 2) = false := decide_eq_false c3
  clear c3
  by_cases c4 : a0 > 64
  ·rw [if_pos c4] at H
   have c4b0 : decide (64 < a0) = true := decide_eq_true c4
   clear c4
   obtain rfl := Option.some.inj H
   go_enter Try.func14, Try.ntmps14
   go_wp2
   go_ret2
   exact ⟨by first | rfl | (simp [errW_none, errW_some] <;> rfl) | (simp [*, errW_none, errW_some] <;> rfl), by repeat (first | (with_reducible first | exact HB.out | apply below_alloc | apply pw_below_drewN | apply below_drew1) | exact HB.out)⟩
  ·rw [if_neg c4] at H
   have c4b0 : decide (64 < a0) = false := decide_eq_false c4
   clear c4
   by_cases c5 : a1 < 0
   ·rw [if_pos c5] at H
    have c5b0 : decide (a1 < 0) = true := decide_eq_true c5
    clear c5
    obtain rfl := Option.some.inj H
    go_enter Try.func14, Try.ntmps14
    go_wp2
    go_ret2
    exact ⟨by first | rfl | (simp [errW_none, errW_some] <;> rfl) | (simp [*, errW_none, errW_some] <;> rfl), by repeat (first | (with_reducible first | exact HB.out | apply below_alloc | apply pw_below_drewN | apply below_drew1) | exact HB.out)⟩
   ·rw [if_neg c5] at H
    have c5b0 : decide (a1 < 0) = false := decide_eq_false c5
    clear c5
    by_cases c6 : a1 > 4294967296
    ·rw [if_pos c6] at H
     have c6b0 : decide (4294967296 < a1) = true := decide_eq_true c6
     clear c6
     obtain rfl := Option.some.inj H
     go_enter Try.func14, Try.ntmps14
     go_wp2
     go_ret2
     exact ⟨by first | rfl | (simp [errW_none, errW_some] <;> rfl) | (simp [*, errW_none, errW_some] <;> rfl), by repeat (first | (with_reducible first | exact HB.out | apply below_alloc | apply pw_below_drewN | apply below_drew1) | exact HB.out)⟩
    ·rw [if_neg c6] at H
     have c6b0 : decide (4294967296 < a1) = false := decide_eq_false c6
     clear c6
     exact absurd H (by simp)
def TF (P : Nat → Prop) (w0 w W : World) (g : Nat) (cs : Array Value) (v5 : Value) (xs : List Int) (v6 : Value) (ys : List Int) : Prop :=
 W.heap[g]? = some (.cells cs 60 (0, 0)) ∧ w0.heap.size ≤ g ∧ P g ∧ (∀ j, w.heap.size ≤ j → P j) ∧ Kd.Q (Kd.int .i64) 2 W w0.heap.size (fun k => P k ∧ k ≠ g) v5 xs ∧ Kd.Q (Kd.int .i64) 2 W w0.heap.size (fun k => (P k ∧ k ≠ g) ∧ some k ≠ v5.ownBlock) v6 ys ∧ Below w0.heap.size w0 W ∧ Kept w W P
section
variable {P : Nat → Prop} {w0 w W : World} {g : Nat} {cs : Array Value} {v5 v6 : Value} {xs ys : List Int}
theorem TF.alloc (h : TF P w0 w W g cs v5 xs v6 ys) (o : Obj) : TF P w0 w (W.alloc o) g cs v5 xs v6 ys := by
 obtain ⟨h1, h2, h3, h4, h5, h6, h7, h8⟩ := h
 exact ⟨blk_alloc h1 o, h2, h3, h4, Kd.Q_alloc h5 o, Kd.Q_alloc h6 o, below_alloc h7 o, h8.alloc o⟩
theorem TF.drew (h : TF P w0 w W g cs v5 xs v6 ys) : TF P w0 w W.drew g cs v5 xs v6 ys := by
 obtain ⟨h1, h2, h3, h4, h5, h6, h7, h8⟩ := h
 exact ⟨h1, h2, h3, h4, Kd.Q_drew h5, Kd.Q_drew h6, below_drew h7, h8.drew⟩
theorem TF.set (h : TF P w0 w W g cs v5 xs v6 ys) (i : Nat) (u : Value) : TF P w0 w (W.setCell ⟨g, i, none⟩ u) g (cs.setIfInBounds i u) v5 xs v6 ys := by
 obtain ⟨h1, h2, h3, h4, h5, h6, h7, h8⟩ := h
 exact ⟨blk_set h1 i u, h2, h3, h4, Kd.Q_far h5 (fun _ h => h.2) _, Kd.Q_far h6 (fun _ h => h.1.2) _, below_set h7 h2, h8.setCell (.inl h3) _⟩
theorem TF.lt5 (h : TF P w0 w W g cs v5 xs v6 ys) : some W.heap.size ≠ v5.ownBlock := fun e => by
 have := Kd.Q_lt h.2.2.2.2.1 _ e.symm; omega
theorem Qi_run (base : Nat) (ty : TypeId) (v : Value) (xs : List Int) (p : Int) (b : Nat) (ok : Nat → Prop) (hb : W.cell? ⟨b, 0, none⟩ = some (.int .i64 p)) (hfresh : ∀ k, W.heap.size ≤ k → ok k)
  (HO : Kd.Q (Kd.int .i64) 2 W base ok v xs) (HB : Below base w0 W) (hbase : base ≤ W.heap.size) (hl : xs.length < 17592186044416) :
  ∃ v1 w1, (Builtin.append_ #[22, 22] ty #[v, .slice (some ⟨b, 0, none⟩) 1 1]).run Try.prog W = .ok v1 w1 ∧ Kd.Q (Kd.int .i64) 2 w1 base ok v1 (xs ++ [p]) ∧ Below base w0 w1 ∧ W.grownBy w1 v.ownBlock ∧ (v1.ownBlock = v.ownBlock ∨ ∃ b, v1.ownBlock = some b ∧ W.heap.size ≤ b) := by
 obtain ⟨h0, inner, hown, hr⟩ := HO
 obtain ⟨i0, hi, hzz⟩ := Option.map_eq_some_iff.1 (show (Try.prog.info? 2).map (fun i => (i.zero, i.size, i.bytes)) = some (some (.int .i64 0), 1, 8) by kernel_rfl)
 simp only [Prod.mk.injEq] at hzz
 obtain ⟨hz0, hz1, hz2⟩ := hzz
 have hnews : ∀ (j : Nat) (u : Value), [Value.int .i64 p][j]? = some u → W.cell? ((⟨b, 0, none⟩ : Addr).add j) = some u := by
  intro j u hu
  rcases j with _ | j
  ·have e : u = .int .i64 p := by simpa using hu.symm
   subst e
   rw [add_plain]
   exact hb
  ·simp at hu
 obtain ⟨v1, w1, hrun, hq1, hg1, hat⟩ := q_append (P := Try.prog) W base 22 ty 2 i0 (.int .i64 0) 1 8 Try.underlying22 hi hz0 hz1 hz2 rfl (by omega) v xs.length inner hown ⟨b, 0, none⟩ 1 1 [.int .i64 p] rfl
  hnews (fun u hu => by rw [List.mem_singleton.1 hu]; rfl) (by omega) (by simp only [maxLen]; omega) (by omega) hbase
 exact ⟨v1, w1, hrun, Kd.Q_appended (d := Kd.int .i64) (okp := fun _ => False) h0 hr (show Kd.M (Kd.int .i64) W base (fun _ => False) p [.int .i64 p] from rfl) (fun _ hk => hk.elim) hfresh hq1 hg1 hat, HB.grown hg1 hbase (fun k hk => (q_typed hown k hk).1), hg1, hat⟩
theorem TF.fresh (h : TF P w0 w W g cs v5 xs v6 ys) : ∀ k, W.heap.size ≤ k → P k ∧ k ≠ g := fun k hk => ⟨h.2.2.2.1 k (Nat.le_trans h.2.2.2.2.2.2.2.1 hk), fun e => by have := blk_lt h.1; omega⟩
theorem TF.app5 (h : TF P w0 w W g cs v5 xs v6 ys) (ty : TypeId) (p : Int) (b : Nat) (hb : W.cell? ⟨b, 0, none⟩ = some (.int .i64 p)) (hl : xs.length < 17592186044416) :
  ∃ v1 w1, (Builtin.append_ #[22, 22] ty #[v5, .slice (some ⟨b, 0, none⟩) 1 1]).run Try.prog W = .ok v1 w1 ∧ TF P w0 w w1 g cs v1 (xs ++ [p]) v6 ys ∧ W.grownBy w1 v5.ownBlock := by
 have hf := h.fresh
 obtain ⟨h1, h2, h3, h4, h5, h6, h7, h8⟩ := h
 obtain ⟨v1, w1, hr, hq, hb1, hg, hat⟩ := Qi_run w0.heap.size ty v5 xs p b _ hb hf h5 h7 h7.size hl
 exact ⟨v1, w1, hr, ⟨blk_grown h1 hg (Kd.Q_away h5 (fun _ h => h.2)), h2, h3, h4, hq, Kd.Q_after h6 hg hat, hb1, Kept.of_grown hg h8 (fun k hk => .inl (h5.1 k hk).1)⟩, hg⟩
theorem TF.app6 (h : TF P w0 w W g cs v5 xs v6 ys) (ty : TypeId) (p : Int) (b : Nat) (hb : W.cell? ⟨b, 0, none⟩ = some (.int .i64 p)) (hl : ys.length < 17592186044416) :
  ∃ v1 w1, (Builtin.append_ #[22, 22] ty #[v6, .slice (some ⟨b, 0, none⟩) 1 1]).run Try.prog W = .ok v1 w1 ∧ TF P w0 w w1 g cs v5 xs v1 (ys ++ [p]) := by
 have hf := h.fresh
 obtain ⟨h1, h2, h3, h4, h5, h6, h7, h8⟩ := h
 obtain ⟨v1, w1, hr, hq, hb1, hg, hat⟩ := Qi_run w0.heap.size ty v6 ys p b _ hb (fun k hk => ⟨hf k hk, fun e => by have := Kd.Q_lt h5 _ e.symm; omega⟩) h6 h7 h7.size hl
 exact ⟨v1, w1, hr, ⟨blk_grown h1 hg (Kd.Q_away h6 (fun _ h => h.1.2)), h2, h3, h4, Kd.Q_grown2 h5 rfl hg (fun k hk => (h6.1 k hk).2), hq, hb1, Kept.of_grown hg h8 (fun k hk => .inl (h6.1 k hk).1.1)⟩⟩
theorem app_step {ops : Array Oper} {o : Oper} {a : Act} {Q' : Exit → Act → World → Prop} {Kc : Act → World → Prop} {v1 : Value} {w1 : World} {v : Value} {b : Nat} (hw : Region.wanted o (yielded ops a.tmps) = true) (s x : Operand) (ho : o.op = .call { callee := .builtin .append, args := #[s, x], argTypes := #[22, 22] })
  (hs : a.eval s = v) (hx : a.eval x = .slice (some ⟨b, 0, none⟩) 1 1) (hr : (Builtin.append_ #[22, 22] o.type #[v, .slice (some ⟨b, 0, none⟩) 1 1]).run Try.prog W = .ok v1 w1) (hk : Kc (a.put o.dst v1) w1) :
  if Region.wanted o (yielded ops a.tmps) = true then Oper.wp Try.prog o a W Kc Q' else Kc (a.put o.dst undef) W := by
 rw [if_pos hw]
 unfold Oper.wp execOp
 simp only [ho, resolve, invoke, builtin, Sem.run_bind, Sem.run_pure, Result.andThen_ok, List.map_toArray, List.map_cons, List.map_nil, hs, hx, hr]
 exact hk
end
theorem kp_set {P : Nat → Prop} {w W : World} {g i : Nat} {u : Value} (hP : P g) (h : Kept w W P) : Kept w (W.setCell ⟨g, i, none⟩ u) P := h.setCell (.inl hP) u
theorem TF.below {P : Nat → Prop} {w0 w W W1 : World} {g : Nat} {cs : Array Value} {v5 v6 : Value} {xs ys : List Int} (h : TF P w0 w W g cs v5 xs v6 ys) (hb : Below W.heap.size W W1) : TF P w0 w W1 g cs v5 xs v6 ys := by
 obtain ⟨h1, h2, h3, h4, h5, h6, h7, h8⟩ := h
 exact ⟨blk_below h1 hb, h2, h3, h4, Kd.Q_below h5 hb, Kd.Q_below h6 hb, below_step h7 hb, h8.below hb⟩
theorem own_cut (A : Option Addr) (n c n' c' m j : Nat) : (Value.slice (if c = m then A else A.map (·.add j)) n' c').ownBlock = (Value.slice A n c).ownBlock := by
 cases A with
 | none => split <;> rfl
 | some a => split <;> simp [Value.ownBlock, add_block]
theorem TF.cut {P : Nat → Prop} {w0 w W : World} {g : Nat} {cs : Array Value} {A5 A6 : Option Addr} {n5 c5 n6 c6 : Nat} {xs ys : List Int} (h : TF P w0 w W g cs (.slice A5 n5 c5) xs (.slice A6 n6 c6) ys) {m : Nat} (hm : m ≤ xs.length) (hm6 : m ≤ ys.length) :
  TF P w0 w W g cs (.slice (if c5 = m then A5 else A5.map (·.add (m * 1))) (n5 - m) (c5 - m)) (xs.drop m) (.slice (if c6 = m then A6 else A6.map (·.add (m * 1))) (n6 - m) (c6 - m)) (ys.drop m) := by
 obtain ⟨h1, h2, h3, h4, h5, h6, h7, h8⟩ := h
 refine ⟨h1, h2, h3, h4, Kd.Q_drop h5 hm, Kd.Q_mono (Kd.Q_drop h6 hm6) (fun k hk => ⟨hk.1, ?_⟩), h7, h8⟩
 rw [own_cut A5 n5 c5]
 exact hk.2
theorem IsS60P.pg {P : Nat → Prop} {w0 W : World} {g : Nat} {f0 f1 f2 f3 f4 : Int} {f5 f6 : List Int} {f7 : Int} (h : IsS60P P w0 W g f0 f1 f2 f3 f4 f5 f6 f7) : P g := by
 obtain ⟨A5, c5, A6, c6, _, _, _, _, h⟩ := h
 exact h
theorem TF.of_state {P : Nat → Prop} {w0 w W : World} {g : Nat} {f0 f1 f2 f3 f4 : Int} {f5 f6 : List Int} {f7 : Int} (h : IsS60P P w0 W g f0 f1 f2 f3 f4 f5 f6 f7) (hPf : ∀ j, w.heap.size ≤ j → P j) (hB : Below w0.heap.size w0 W) (hK : Kept w W P) :
  ∃ A5 c5 A6 c6, TF P w0 w W g #[.int .i64 f0, .int .i64 f1, .int .i64 f2, .int .i64 f3, .int .i64 f4, .slice A5 f5.length c5, .slice A6 f6.length c6, .int .i64 f7] (.slice A5 f5.length c5) f5 (.slice A6 f6.length c6) f6 := by
 obtain ⟨A5, c5, A6, c6, hb, hg, h5, h6, hp⟩ := h
 exact ⟨A5, c5, A6, c6, hb, hg, hp, hPf, h5, h6, hB, hK⟩
theorem TF.to_state {P : Nat → Prop} {w0 w W : World} {g : Nat} {A5 A6 : Option Addr} {c5 c6 : Nat} {f0 f1 f2 f3 f4 : Int} {f5 f6 : List Int} {f7 : Int} (h : TF P w0 w W g #[.int .i64 f0, .int .i64 f1, .int .i64 f2, .int .i64 f3, .int .i64 f4, .slice A5 f5.length c5, .slice A6 f6.length c6, .int .i64 f7] (.slice A5 f5.length c5) f5 (.slice A6 f6.length c6) f6) : IsS60P P w0 W g f0 f1 f2 f3 f4 f5 f6 f7 :=
 ⟨A5, c5, A6, c6, h.1, h.2.1, h.2.2.2.2.1, h.2.2.2.2.2.1, h.2.2.1⟩
theorem TF.reads5 {P : Nat → Prop} {w0 w W : World} {g : Nat} {cs : Array Value} {A5 : Option Addr} {n5 c5 : Nat} {v6 : Value} {xs ys : List Int} (h : TF P w0 w W g cs (.slice A5 n5 c5) xs v6 ys) : n5 = xs.length ∧ n5 ≤ c5 ∧ Kd.C (Kd.int .i64) W A5 xs.length xs := Kd.Q_reads' h.2.2.2.2.1
theorem TF.reads6 {P : Nat → Prop} {w0 w W : World} {g : Nat} {cs : Array Value} {A6 : Option Addr} {n6 c6 : Nat} {v5 : Value} {xs ys : List Int} (h : TF P w0 w W g cs v5 xs (.slice A6 n6 c6) ys) : n6 = ys.length ∧ n6 ≤ c6 ∧ Kd.C (Kd.int .i64) W A6 ys.length ys := Kd.Q_reads' h.2.2.2.2.2.1
def trend_Trend_Slope.f (k : Nat) (s0_0 : Int) (s0_1 : Int) (s0_2 : Int) (s0_3 : Int) (s0_4 : Int) (s0_5 : List Int) (s0_6 : List Int) (s0_7 : Int) : Option (Int × Int × Int × Int × Int × Int × List Int × List Int × Int) := if (s0_5.length : Int) < s0_0 then (some (0, s0_0, s0_1, s0_2, s0_3, s0_4, s0_5, s0_6, s0_7)) else ((trend_Line.f k s0_5 s0_6).bind fun t => (some (t, s0_0, s0_1, s0_2, s0_3, s0_4, s0_5, s0_6, s0_7)))
theorem trend_Trend_Slope.mono : ∀ a0 a1 a2 a3 a4 a5 a6 a7 k, LeO (trend_Trend_Slope.f k a0 a1 a2 a3 a4 a5 a6 a7) (trend_Trend_Slope.f (k + 1) a0 a1 a2 a3 a4 a5 a6 a7) := by
 intro a0 a1 a2 a3 a4 a5 a6 a7 k
 unfold trend_Trend_Slope.f
 exact LeO.ite (LeO.refl _) (LeO.bind (trend_Line.mono _ _ _) (fun _ => LeO.refl _))
def trend_Trend_Slope.T1 : Bool × List (List Nat × List Nat) := (true, [([], []), ([0], [0]), ([1], [1]), ([2], [2]), ([3, 2], [2, 3]), ([4, 2], [2, 4]), ([5, 2], [2, 5]), ([6, 2], [2, 6]), ([2], [2]), ([8, 2], [2, 8]), ([9, 2], [2, 9]), ([10, 2], [2, 10]), ([7, 11, 2], [2, 7, 11]), ([2, 12], [2, 12])])
def trend_Trend_Slope.B1 : List Nat := [0, 1, 3, 7, 15, 31, 63, 127, 7, 263, 775, 1799, 4095, 8191]
theorem trend_Trend_Slope.tab1 : rtab .any (opsOf Try.f18 1) = trend_Trend_Slope.T1 := by kernel_rfl
theorem trend_Trend_Slope.bits1 : waitsOk trend_Trend_Slope.T1.2 trend_Trend_Slope.B1 = true := by kernel_rfl
def trend_Trend_Slope.T3 : Bool × List (List Nat × List Nat) := (true, [([], []), ([0], [0]), ([1], [1]), ([2], [2]), ([], []), ([4], [4]), ([5], [5]), ([6], [6]), ([3, 7], [3, 7]), ([8, 8, 0, 1, 2, 3, 4, 5, 6, 7, 8], [8])])
def trend_Trend_Slope.B3 : List Nat := [0, 1, 3, 7, 0, 16, 48, 112, 255, 511]
theorem trend_Trend_Slope.tab3 : rtab .any (opsOf Try.f18 3) = trend_Trend_Slope.T3 := by kernel_rfl
theorem trend_Trend_Slope.bits3 : waitsOk trend_Trend_Slope.T3.2 trend_Trend_Slope.B3 = true := by kernel_rfl
set_option maxHeartbeats 8000000 in
set_option maxRecDepth 100000 in
theorem trend_Trend_Slope.callsP (P : Nat → Prop) (k : Nat) (g : Nat) (s0_0 : Int) (s0_1 : Int) (s0_2 : Int) (s0_3 : Int) (s0_4 : Int) (s0_5 : List Int) (s0_6 : List Int) (s0_7 : Int) (r1 : Int) (r2 : Int) (r3 : Int) (r4 : Int) (r5 : Int) (r6 : Int) (r7 : List Int) (r8 : List Int) (r9 : Int) (w0 w : World) (hPf : ∀ j, w.heap.size ≤ j → P j) (hI : IsS60P P w0 w g s0_0 s0_1 s0_2 s0_3 s0_4 s0_5 s0_6 s0_7) (hB : Below w0.heap.size w0 w) (h : trend_Trend_Slope.f k s0_0 s0_1 s0_2 s0_3 s0_4 s0_5 s0_6 s0_7 = some (r1, r2, r3, r4, r5, r6, r7, r8, r9)) :
  Calls Try.prog 18 #[.pointer (some ⟨g, 0, none⟩)] w fun e w' => e = .returned (.int .i64 r1) ∧ IsS60P P w0 w' g r2 r3 r4 r5 r6 r7 r8 r9 ∧ Below w0.heap.size w0 w' ∧ Kept w w' P := by
 have hpn27_eql : ∀ (a_ : Addr) (W_ : World), (Go.binOp .eql 27 (.pointer (some a_)) (.pointer none)).run Try.prog W_ = .ok (.bool false) W_ := fun _ _ => by kernel_rfl
 have hnn27_eql : ∀ (W_ : World), (Go.binOp .eql 27 (.pointer none) (.pointer none)).run Try.prog W_ = .ok (.bool true) W_ := fun _ => by kernel_rfl
 obtain ⟨A5, c5, A6, c6, hT⟩ := TF.of_state hI hPf hB (Kept.refl w P)
 have HT := Aside0.mk hT
 clear hI hT hB hPf
 have H : (if (s0_5.length : Int) < s0_0 then (some (0, s0_0, s0_1, s0_2, s0_3, s0_4, s0_5, s0_6, s0_7)) else ((trend_Line.f k s0_5 s0_6).bind fun t => (some (t, s0_0, s0_1, s0_2, s0_3, s0_4, s0_5, s0_6, s0_7)))) = some (r1, r2, r3, r4, r5, r6, r7, r8, r9) := h
 clear h
 by_cases c2 : (s0_5.length : Int) < s0_0
 ·rw [if_pos c2] at H
  have c2b0 : decide ((s0_5.length : Int) < s0_0) = true := decide_eq_true c2
  clear c2
  simp only [Option.some.injEq, Prod.mk.injEq] at H
  obtain ⟨rfl, rfl, rfl, rfl, rfl, rfl, rfl, rfl, rfl⟩ := H
  go_enter Try.func18, Try.ntmps18
  try go_wp2
  have n0_ := Aside0.mk (TF.drew HT.out)
  clear HT
  have HT := n0_
  clear n0_
  refine start_ (n := 14) (S := fun w' => w'.cell? ⟨g, 0, none⟩ = some (.int .i64 s0_0) ∧ w'.cell? ⟨g, 5, none⟩ = some (.slice A5 s0_5.length c5) ∧ w'.cell? ⟨g, 6, none⟩ = some (.slice A6 s0_6.length c6)) (ds := []) #[false, false, false, false, false, false, false, false, false, false, false, false, false, false] (by kernel_rfl) rfl rfl ⟨(blk_cell HT.out.1 0).trans rfl, (blk_cell HT.out.1 5).trans rfl, (blk_cell HT.out.1 6).trans rfl⟩ (fun hHeld => ?_); refine with_tabW trend_Trend_Slope.tab1 trend_Trend_Slope.bits1 (fun HT_ HW_ => ?_)
  generalize World.drew w = w1 at HT hHeld ⊢
  refine pure_ (i := 0) (N := some 3) (v := ?_) (a' := ?_) (bl 14 1) rfl rfl (any_of HT_.out (by kernel_rfl)) (fun _ _ _ h => h) (Or.inl ⟨by rfl, ?_⟩) ?_ ?_
  rotate_left
  ·intro w'
   go_simp
   with_reducible rfl
  rotate_left
  ·simp only [puts_]
   rfl
  refine pure_ (i := 1) (N := some 4) (v := ?_) (a' := ?_) (bl 14 3) rfl rfl (any_of HT_.out (by kernel_rfl)) (fun _ _ _ h => h) (Or.inl ⟨by rfl, ?_⟩) ?_ ?_
  rotate_left
  ·intro w'
   go_simp
   with_reducible rfl
  rotate_left
  ·simp only [puts_]
   rfl
  refine pure_ (i := 2) (N := some 5) (v := ?_) (a' := ?_) (bl 14 7) rfl rfl (any_of HT_.out (by kernel_rfl)) (fun _ _ _ h => h) (Or.inl ⟨by rfl, ?_⟩) ?_ ?_
  rotate_left
  ·intro w'
   go_simp
   with_reducible rfl
  rotate_left
  ·simp only [puts_]
   rfl
  refine pure_ (i := 3) (N := some 6) (v := ?_) (a' := ?_) (bl 14 15) rfl rfl (any_of HT_.out (by kernel_rfl)) (fun _ _ _ h => h) (Or.inl ⟨by rfl, ?_⟩) ?_ ?_
  rotate_left
  ·intro w'
   go_simp
   with_reducible rfl
  rotate_left
  ·simp only [puts_]
   rfl
  refine pure_ (i := 4) (N := some 7) (v := ?_) (a' := ?_) (bl 14 31) rfl rfl (any_of HT_.out (by kernel_rfl)) (fun _ _ _ h => h) (Or.inl ⟨by rfl, ?_⟩) ?_ ?_
  rotate_left
  ·intro w'
   go_simp
   with_reducible rfl
  rotate_left
  ·simp only [puts_]
   rfl
  refine pure_ (i := 5) (N := some 8) (v := ?_) (a' := ?_) (bl 14 63) rfl rfl (any_of HT_.out (by kernel_rfl)) (fun _ _ _ h => h) (Or.inl ⟨by rfl, ?_⟩) ?_ ?_
  rotate_left
  ·intro w'
   go_simp
   with_reducible rfl
  rotate_left
  ·simp only [puts_]
   rfl
  refine take_ (i := 6) (N := some 9) (v := ?_) (a' := ?_) (bl 14 127) rfl rfl (take_ofW HT_.out HW_.out (by kernel_rfl)) (fun _ _ _ h => h) (Or.inl ⟨by rfl, ?_⟩) hHeld ?_ ?_
  rotate_left
  ·rintro w' ⟨s0, s1, s2⟩
   go_simp
   with_reducible rfl
  rotate_left
  ·simp only [puts_]
   rfl
  refine pure_ (i := 7) (N := some 10) (v := ?_) (a' := ?_) (bl 14 255) rfl rfl (any_of HT_.out (by kernel_rfl)) (fun _ _ _ h => h) (Or.inl ⟨by rfl, ?_⟩) ?_ ?_
  rotate_left
  ·intro w'
   go_simp
   with_reducible rfl
  rotate_left
  ·simp only [puts_]
   rfl
  refine pure_ (i := 8) (N := some 11) (v := ?_) (a' := ?_) (bl 14 511) rfl rfl (any_of HT_.out (by kernel_rfl)) (fun _ _ _ h => h) (Or.inl ⟨by rfl, ?_⟩) ?_ ?_
  rotate_left
  ·intro w'
   go_simp
   with_reducible rfl
  rotate_left
  ·simp only [puts_]
   rfl
  refine pure_ (i := 9) (N := some 12) (v := ?_) (a' := ?_) (bl 14 1023) rfl rfl (any_of HT_.out (by kernel_rfl)) (fun _ _ _ h => h) (Or.inl ⟨by rfl, ?_⟩) ?_ ?_
  rotate_left
  ·intro w'
   go_simp
   with_reducible rfl
  rotate_left
  ·simp only [puts_]
   rfl
  refine pure_ (i := 10) (N := some 13) (v := ?_) (a' := ?_) (bl 14 2047) rfl rfl (any_of HT_.out (by kernel_rfl)) (fun _ _ _ h => h) (Or.inl ⟨by rfl, ?_⟩) ?_ ?_
  rotate_left
  ·intro w'
   go_simp
   with_reducible rfl
  rotate_left
  ·simp only [puts_]
   rfl
  refine take_ (i := 11) (N := some 14) (v := ?_) (a' := ?_) (bl 14 4095) rfl rfl (take_ofW HT_.out HW_.out (by kernel_rfl)) (fun _ _ _ h => h) (Or.inl ⟨by rfl, ?_⟩) hHeld ?_ ?_
  rotate_left
  ·rintro w' ⟨s0, s1, s2⟩
   go_simp
   with_reducible rfl
  rotate_left
  ·simp only [puts_]
   rfl
  refine pure_ (i := 12) (N := some 15) (v := ?_) (a' := ?_) (bl 14 8191) rfl rfl (any_of HT_.out (by kernel_rfl)) (fun _ _ _ h => h) (Or.inl ⟨by rfl, ?_⟩) ?_ ?_
  rotate_left
  ·intro w'
   go_simp
   with_reducible rfl
  rotate_left
  ·simp only [puts_]
   rfl
  refine pure_ (i := 13) (N := some 16) (v := ?_) (a' := ?_) (bl 14 16383) rfl rfl (any_of HT_.out (by kernel_rfl)) (fun _ _ _ h => h) (Or.inl ⟨by rfl, ?_⟩) ?_ ?_
  rotate_left
  ·intro w'
   go_simp
   with_reducible rfl
  rotate_left
  ·simp only [puts_]
   rfl
  refine done_ (done_of HT_.out (by kernel_rfl)) ?_
  go_wp2
  go_ret
  exact ⟨rfl, TF.to_state HT.out, HT.out.2.2.2.2.2.2.1, HT.out.2.2.2.2.2.2.2⟩
 ·rw [if_neg c2] at H
  have c2b0 : decide ((s0_5.length : Int) < s0_0) = false := decide_eq_false c2
  clear c2
  replace H := Option.bind_eq_some_iff.mp H
  obtain ⟨t, A30, H⟩ := H
  have A3 := Aside0.mk A30
  clear A30
  simp only [Option.some.injEq, Prod.mk.injEq] at H
  obtain ⟨rfl, rfl, rfl, rfl, rfl, rfl, rfl, rfl, rfl⟩ := H
  go_enter Try.func18, Try.ntmps18
  try go_wp2
  have n0_ := Aside0.mk (TF.drew HT.out)
  clear HT
  have HT := n0_
  clear n0_
  refine start_ (n := 14) (S := fun w' => w'.cell? ⟨g, 0, none⟩ = some (.int .i64 s0_0) ∧ w'.cell? ⟨g, 5, none⟩ = some (.slice A5 s0_5.length c5) ∧ w'.cell? ⟨g, 6, none⟩ = some (.slice A6 s0_6.length c6)) (ds := []) #[false, false, false, false, false, false, false, false, false, false, false, false, false, false] (by kernel_rfl) rfl rfl ⟨(blk_cell HT.out.1 0).trans rfl, (blk_cell HT.out.1 5).trans rfl, (blk_cell HT.out.1 6).trans rfl⟩ (fun hHeld => ?_); refine with_tabW trend_Trend_Slope.tab1 trend_Trend_Slope.bits1 (fun HT_ HW_ => ?_)
  generalize World.drew w = w1 at HT hHeld ⊢
  refine pure_ (i := 0) (N := some 3) (v := ?_) (a' := ?_) (bl 14 1) rfl rfl (any_of HT_.out (by kernel_rfl)) (fun _ _ _ h => h) (Or.inl ⟨by rfl, ?_⟩) ?_ ?_
  rotate_left
  ·intro w'
   go_simp
   with_reducible rfl
  rotate_left
  ·simp only [puts_]
   rfl
  refine pure_ (i := 1) (N := some 4) (v := ?_) (a' := ?_) (bl 14 3) rfl rfl (any_of HT_.out (by kernel_rfl)) (fun _ _ _ h => h) (Or.inl ⟨by rfl, ?_⟩) ?_ ?_
  rotate_left
  ·intro w'
   go_simp
   with_reducible rfl
  rotate_left
  ·simp only [puts_]
   rfl
  refine pure_ (i := 2) (N := some 5) (v := ?_) (a' := ?_) (bl 14 7) rfl rfl (any_of HT_.out (by kernel_rfl)) (fun _ _ _ h => h) (Or.inl ⟨by rfl, ?_⟩) ?_ ?_
  rotate_left
  ·intro w'
   go_simp
   with_reducible rfl
  rotate_left
  ·simp only [puts_]
   rfl
  refine pure_ (i := 3) (N := some 6) (v := ?_) (a' := ?_) (bl 14 15) rfl rfl (any_of HT_.out (by kernel_rfl)) (fun _ _ _ h => h) (Or.inl ⟨by rfl, ?_⟩) ?_ ?_
  rotate_left
  ·intro w'
   go_simp
   with_reducible rfl
  rotate_left
  ·simp only [puts_]
   rfl
  refine pure_ (i := 4) (N := some 7) (v := ?_) (a' := ?_) (bl 14 31) rfl rfl (any_of HT_.out (by kernel_rfl)) (fun _ _ _ h => h) (Or.inl ⟨by rfl, ?_⟩) ?_ ?_
  rotate_left
  ·intro w'
   go_simp
   with_reducible rfl
  rotate_left
  ·simp only [puts_]
   rfl
  refine pure_ (i := 5) (N := some 8) (v := ?_) (a' := ?_) (bl 14 63) rfl rfl (any_of HT_.out (by kernel_rfl)) (fun _ _ _ h => h) (Or.inl ⟨by rfl, ?_⟩) ?_ ?_
  rotate_left
  ·intro w'
   go_simp
   with_reducible rfl
  rotate_left
  ·simp only [puts_]
   rfl
  refine take_ (i := 6) (N := some 9) (v := ?_) (a' := ?_) (bl 14 127) rfl rfl (take_ofW HT_.out HW_.out (by kernel_rfl)) (fun _ _ _ h => h) (Or.inl ⟨by rfl, ?_⟩) hHeld ?_ ?_
  rotate_left
  ·rintro w' ⟨s0, s1, s2⟩
   go_simp
   with_reducible rfl
  rotate_left
  ·simp only [puts_]
   rfl
  refine pure_ (i := 7) (N := some 10) (v := ?_) (a' := ?_) (bl 14 255) rfl rfl (any_of HT_.out (by kernel_rfl)) (fun _ _ _ h => h) (Or.inl ⟨by rfl, ?_⟩) ?_ ?_
  rotate_left
  ·intro w'
   go_simp
   with_reducible rfl
  rotate_left
  ·simp only [puts_]
   rfl
  refine pure_ (i := 8) (N := some 11) (v := ?_) (a' := ?_) (bl 14 511) rfl rfl (any_of HT_.out (by kernel_rfl)) (fun _ _ _ h => h) (Or.inl ⟨by rfl, ?_⟩) ?_ ?_
  rotate_left
  ·intro w'
   go_simp
   with_reducible rfl
  rotate_left
  ·simp only [puts_]
   rfl
  refine pure_ (i := 9) (N := some 12) (v := ?_) (a' := ?_) (bl 14 1023) rfl rfl (any_of HT_.out (by kernel_rfl)) (fun _ _ _ h => h) (Or.inl ⟨by rfl, ?_⟩) ?_ ?_
  rotate_left
  ·intro w'
   go_simp
   with_reducible rfl
  rotate_left
  ·simp only [puts_]
   rfl
  refine pure_ (i := 10) (N := some 13) (v := ?_) (a' := ?_) (bl 14 2047) rfl rfl (any_of HT_.out (by kernel_rfl)) (fun _ _ _ h => h) (Or.inl ⟨by rfl, ?_⟩) ?_ ?_
  rotate_left
  ·intro w'
   go_simp
   with_reducible rfl
  rotate_left
  ·simp only [puts_]
   rfl
  refine take_ (i := 11) (N := some 14) (v := ?_) (a' := ?_) (bl 14 4095) rfl rfl (take_ofW HT_.out HW_.out (by kernel_rfl)) (fun _ _ _ h => h) (Or.inl ⟨by rfl, ?_⟩) hHeld ?_ ?_
  rotate_left
  ·rintro w' ⟨s0, s1, s2⟩
   go_simp
   with_reducible rfl
  rotate_left
  ·simp only [puts_]
   rfl
  refine pure_ (i := 12) (N := some 15) (v := ?_) (a' := ?_) (bl 14 8191) rfl rfl (any_of HT_.out (by kernel_rfl)) (fun _ _ _ h => h) (Or.inl ⟨by rfl, ?_⟩) ?_ ?_
  rotate_left
  ·intro w'
   go_simp
   with_reducible rfl
  rotate_left
  ·simp only [puts_]
   rfl
  refine pure_ (i := 13) (N := some 16) (v := ?_) (a' := ?_) (bl 14 16383) rfl rfl (any_of HT_.out (by kernel_rfl)) (fun _ _ _ h => h) (Or.inl ⟨by rfl, ?_⟩) ?_ ?_
  rotate_left
  ·intro w'
   go_simp
   with_reducible rfl
  rotate_left
  ·simp only [puts_]
   rfl
  refine done_ (done_of HT_.out (by kernel_rfl)) ?_
  try go_wp2
  have n0_ := Aside0.mk (TF.drew HT.out)
  clear HT
  have HT := n0_
  clear n0_
  refine start_ (n := 10) (S := fun w' => w'.cell? ⟨g, 0, none⟩ = some (.int .i64 s0_0) ∧ w'.cell? ⟨g, 5, none⟩ = some (.slice A5 s0_5.length c5) ∧ w'.cell? ⟨g, 6, none⟩ = some (.slice A6 s0_6.length c6)) (ds := []) #[false, false, false, false, false, false, false, false, false, false] (by kernel_rfl) rfl rfl ⟨(blk_cell HT.out.1 0).trans rfl, (blk_cell HT.out.1 5).trans rfl, (blk_cell HT.out.1 6).trans rfl⟩ (fun hHeld => ?_); refine with_tabW trend_Trend_Slope.tab3 trend_Trend_Slope.bits3 (fun HT_ HW_ => ?_)
  generalize World.drew w1 = w2 at HT hHeld ⊢
  refine pure_ (i := 0) (N := some 17) (v := ?_) (a' := ?_) (bl 10 1) rfl rfl (any_of HT_.out (by kernel_rfl)) (fun _ _ _ h => h) (Or.inl ⟨by rfl, ?_⟩) ?_ ?_
  rotate_left
  ·intro w'
   go_simp
   with_reducible rfl
  rotate_left
  ·simp only [puts_]
   rfl
  refine pure_ (i := 1) (N := some 18) (v := ?_) (a' := ?_) (bl 10 3) rfl rfl (any_of HT_.out (by kernel_rfl)) (fun _ _ _ h => h) (Or.inl ⟨by rfl, ?_⟩) ?_ ?_
  rotate_left
  ·intro w'
   go_simp
   with_reducible rfl
  rotate_left
  ·simp only [puts_]
   rfl
  refine pure_ (i := 2) (N := some 19) (v := ?_) (a' := ?_) (bl 10 7) rfl rfl (any_of HT_.out (by kernel_rfl)) (fun _ _ _ h => h) (Or.inl ⟨by rfl, ?_⟩) ?_ ?_
  rotate_left
  ·intro w'
   go_simp
   with_reducible rfl
  rotate_left
  ·simp only [puts_]
   rfl
  refine take_ (i := 3) (N := some 20) (v := ?_) (a' := ?_) (bl 10 15) rfl rfl (take_ofW HT_.out HW_.out (by kernel_rfl)) (fun _ _ _ h => h) (Or.inl ⟨by rfl, ?_⟩) hHeld ?_ ?_
  rotate_left
  ·rintro w' ⟨s0, s1, s2⟩
   go_simp
   with_reducible rfl
  rotate_left
  ·simp only [puts_]
   rfl
  refine pure_ (i := 4) (N := some 21) (v := ?_) (a' := ?_) (bl 10 31) rfl rfl (any_of HT_.out (by kernel_rfl)) (fun _ _ _ h => h) (Or.inl ⟨by rfl, ?_⟩) ?_ ?_
  rotate_left
  ·intro w'
   go_simp
   with_reducible rfl
  rotate_left
  ·simp only [puts_]
   rfl
  refine pure_ (i := 5) (N := some 22) (v := ?_) (a' := ?_) (bl 10 63) rfl rfl (any_of HT_.out (by kernel_rfl)) (fun _ _ _ h => h) (Or.inl ⟨by rfl, ?_⟩) ?_ ?_
  rotate_left
  ·intro w'
   go_simp
   with_reducible rfl
  rotate_left
  ·simp only [puts_]
   rfl
  refine pure_ (i := 6) (N := some 23) (v := ?_) (a' := ?_) (bl 10 127) rfl rfl (any_of HT_.out (by kernel_rfl)) (fun _ _ _ h => h) (Or.inl ⟨by rfl, ?_⟩) ?_ ?_
  rotate_left
  ·intro w'
   go_simp
   with_reducible rfl
  rotate_left
  ·simp only [puts_]
   rfl
  refine take_ (i := 7) (N := some 24) (v := ?_) (a' := ?_) (bl 10 255) rfl rfl (take_ofW HT_.out HW_.out (by kernel_rfl)) (fun _ _ _ h => h) (Or.inl ⟨by rfl, ?_⟩) hHeld ?_ ?_
  rotate_left
  ·rintro w' ⟨s0, s1, s2⟩
   go_simp
   with_reducible rfl
  rotate_left
  ·simp only [puts_]
   rfl
  refine one_ (i := 8) (N := some 25) (bl 10 511) rfl rfl (one_of HT_.out (by kernel_rfl)) (by decide) (fun K hK => ?_)
  refine goes_ Try.func11 (by kernel_rfl) rfl #[.slice A5 s0_5.length c5, .slice A6 s0_6.length c6] (by rfl) rfl rfl (by (try simp only [List.map_toArray, List.map_cons, List.map_nil]); first | done | rfl) ?_
  with_reducible refine (trend_Line.calls k A5 c5 s0_5 A6 c6 s0_6 t _ (TF.reads5 HT.out).2.2 (TF.reads5 HT.out).2.1 (TF.reads6 HT.out).2.2 (TF.reads6 HT.out).2.1 A3.out).mono ?_
  rintro e w3 ⟨rfl, hb⟩
  refine ⟨_, rfl, ?_⟩
  have n0_ := Aside0.mk (TF.below HT.out hb)
  clear HT hb
  have HT := n0_
  clear n0_
  refine hK.out _ _ ⟨(blk_cell HT.out.1 0).trans rfl, (blk_cell HT.out.1 5).trans rfl, (blk_cell HT.out.1 6).trans rfl⟩ (fun hHeld => ?_)
  clear hK K
  refine norm_ (a' := ?_) ?_ ?_
  rotate_left
  ·show Act.put _ (some 25) _ = _
   simp only [puts_]
   rfl
  refine pure_ (i := 9) (N := some 2) (v := ?_) (a' := ?_) (bl 10 1023) rfl rfl (any_of HT_.out (by kernel_rfl)) (fun _ _ _ h => h) (Or.inl ⟨by rfl, ?_⟩) ?_ ?_
  rotate_left
  ·intro w'
   go_simp
   with_reducible rfl
  rotate_left
  ·simp only [puts_]
   rfl
  refine done_ (done_of HT_.out (by kernel_rfl)) ?_
  try go_wp2
  go_ret
  exact ⟨rfl, TF.to_state HT.out, HT.out.2.2.2.2.2.2.1, HT.out.2.2.2.2.2.2.2⟩
def sat_Clamp.f (a0 : Int) (a1 : Int) (a2 : Int) : Option (Int) := if a0 < a1 then (some a1) else (if a0 > a2 then (some a2) else (some a0))
set_option maxHeartbeats 8000000 in
set_option maxRecDepth 100000 in
theorem sat_Clamp.calls (a0 : Int) (a1 : Int) (a2 : Int) (r : Int) (w : World) (h : sat_Clamp.f a0 a1 a2 = some r) :
  Calls Try.prog 34 #[.int .i64 a0, .int .i64 a1, .int .i64 a2] w fun e w' => e = .returned (.int .i64 r) ∧ Drawn0 w w' := by
 have H : (if a0 < a1 then (some a1) else (if a0 > a2 then (some a2) else (some a0))) = some r := h
 clear h
 by_cases c4 : a0 < a1
 ·rw [if_pos c4] at H
  have c4b0 : decide (a0 < a1) = true := decide_eq_true c4
  clear c4
  obtain rfl := Option.some.inj H
  go_enter Try.func34, Try.ntmps34
  go_wp2
  go_ret
  exact ⟨by first | rfl | (simp; done) | (simp [*]; done), by repeat (first | exact Drawn0.refl _ | apply Drawn0.step)⟩
 ·rw [if_neg c4] at H
  have c4b0 : decide (a0 < a1) = false := decide_eq_false c4
  clear c4
  by_cases c5 : a0 > a2
  ·rw [if_pos c5] at H
   have c5b0 : decide (a2 < a0) = true := decide_eq_true c5
   clear c5
   obtain rfl := Option.some.inj H
   go_enter Try.func34, Try.ntmps34
   go_wp2
   go_ret
   exact ⟨by first | rfl | (simp; done) | (simp [*]; done), by repeat (first | exact Drawn0.refl _ | apply Drawn0.step)⟩
  ·rw [if_neg c5] at H
   have c5b0 : decide (a2 < a0) = false := decide_eq_false c5
   clear c5
   obtain rfl := Option.some.inj H
   go_enter Try.func34, Try.ntmps34
   go_wp2
   go_ret
   exact ⟨by first | rfl | (simp; done) | (simp [*]; done), by repeat (first | exact Drawn0.refl _ | apply Drawn0.step)⟩
def sat_Add.f (k : Nat) (a0 : Int) (a1 : Int) : Option (Int) := (sat_plus.f k 0 0 (([a0, a1] : List Int))).bind fun bt198 => ((sat_held.f bt198.1 bt198.2).bind fun t200 => (some t200))
theorem sat_Add.mono : ∀ a0 a1 k, LeO (sat_Add.f k a0 a1) (sat_Add.f (k + 1) a0 a1) := by
 intro a0 a1 k
 unfold sat_Add.f
 repeat' first
   | (with_reducible exact sat_plus.mono _ _ _ _)
   | (with_reducible exact LeO.refl _)
   | (with_reducible exact LeO.none _)
   | (with_reducible refine LeO.ite ?_ ?_)
   | (with_reducible refine LeO.bind ?_ (fun _ => ?_))
   | exact sat_plus.mono _ _ _ _
   | exact LeO.none _
   | refine LeO.ite ?_ ?_
   | refine LeO.bind ?_ (fun _ => ?_)
set_option maxHeartbeats 8000000 in
set_option maxRecDepth 100000 in
theorem sat_Add.calls (k : Nat) (a0 : Int) (a1 : Int) (r : Int) (w : World) (h : sat_Add.f k a0 a1 = some r) :
  Calls Try.prog 35 #[.int .i64 a0, .int .i64 a1] w fun e w' => e = .returned (.int .i64 r) ∧ Below w.heap.size w w' := by
 have hu72 := Try.underlying72
 have HB := Aside0.mk (Below.refl w.heap.size w)
 have H : ((sat_plus.f k 0 0 (([a0, a1] : List Int))).bind fun bt198 => ((sat_held.f bt198.1 bt198.2).bind fun t200 => (some t200))) = some r := h
 clear h
 obtain ⟨y195, hy195⟩ : ∃ y_ : List Int, y_ = (([a0, a1] : List Int)) := ⟨_, rfl⟩
 replace H : ((sat_plus.f k 0 0 y195).bind fun bt198 => ((sat_held.f bt198.1 bt198.2).bind fun t200 => (some t200))) = some r := by first | (rw [hy195]; with_reducible exact H) | (have H2_ := (Option.bind_some _ _).symm.trans H; rw [hy195]; with_reducible exact H2_) | (have H2_ := (Option.bind_some _ _).symm.trans H; with_reducible exact H2_) | with_reducible exact H | (rw [hy195]; exact H) | exact H
 have Ny195 := Aside0.mk hy195
 clear hy195
 replace H := Option.bind_eq_some_iff.mp H
 obtain ⟨⟨t198, t199⟩, A30, H⟩ := H
 replace H : ((sat_held.f t198 t199).bind fun t200 => (some t200)) = some r := H
 have A3 := Aside0.mk A30
 clear A30
 replace H := Option.bind_eq_some_iff.mp H
 obtain ⟨t200, A40, H⟩ := H
 replace H : (some t200) = some r := H
 have A4 := Aside0.mk A40
 clear A40
 obtain rfl := Option.some.inj H
 go_enter Try.func35, Try.ntmps35
 go_wp2_with (first | ((with_reducible refine gate_dst (N := 8) rfl ?_); refine Kd.R_lit (Kd.int .i64) _ 2 ?hg (N := 8) ?hd (xs := ([a0, a1] : List Int)) (inner := [.int .i64 a0, .int .i64 a1]) (ok := fun _ => True) (okp := fun _ => True) ?hr ?hp (fun _ hk => hk) trivial (Below.refl _ _) (Nat.le_refl _) (by simp) ?_; (case hd => rfl); (case hg => rfl); (case hr => first | (go_simp; done) | (go_simp; rfl)); (case hp => exact (Reps.one (show Kd.M (Kd.int .i64) _ _ _ a0 [.int .i64 a0] from rfl) (Reps.one (show Kd.M (Kd.int .i64) _ _ _ a1 [.int .i64 a1] from rfl) (Reps.none _ _)))); intro v196 w5 ho6 hb hg_ hnew_; clear hg_ hnew_; (first | rw [← Ny195.out] at ho6 | (simp only [Int.reduceToNat] at ho6; rw [← Ny195.out] at ho6)); have n0_ := Aside0.mk (Kd.R_lower ho6 (below_size (by repeat (first | (with_reducible first | exact HB.out | apply below_alloc | apply pw_below_drewN | apply below_drew1) | exact HB.out)))); have n1_ := Aside0.mk (below_step (by repeat (first | (with_reducible first | exact HB.out | apply below_alloc | apply pw_below_drewN | apply below_drew1) | exact HB.out)) hb); clear HB; have HO197 := n0_; have HB := n1_; clear n0_ n1_; clear hb ho6; obtain ⟨Ao7, co7, eo7⟩ := Kd.R_slice HO197.out; subst eo7) | ((with_reducible refine gate_callee (f := 45) rfl ?_); refine goesL_ (some 9) rfl rfl Try.func45 (by kernel_rfl) rfl #[.agg #[.int .u64 0, .int .u64 0], .slice Ao7 y195.length co7] rfl (by (try simp only [List.map_toArray, List.map_cons, List.map_nil]); first | done | rfl | (simp only [List.length_drop, List.length_take]; rfl)) ?_; (with_reducible refine (sat_plus.calls k 0 0 _ _ y195 t198 t199 _ ?side1 ?side2 A3.out).mono ?_); (case side1 => repeat (first | exact (Kd.R_reads' HO197.out).2.2 | (with_reducible refine Kd.C_alloc ?_ _) | (with_reducible refine Kd.C_drewN ?_ _) | (with_reducible refine Kd.C_drew ?_))); (case side2 => exact (Kd.R_reads' HO197.out).2.1); rintro e w8 ⟨rfl, hb⟩; refine ⟨_, rfl, ?_⟩; have n0_ := Aside0.mk (Kd.R_below (by (with_reducible repeat (first | apply Kd.R_alloc | apply Kd.R_drewN | apply Kd.R_drew)); exact HO197.out) hb); have n1_ := Aside0.mk (below_step (by repeat (first | (with_reducible first | exact HB.out | apply below_alloc | apply pw_below_drewN | apply below_drew1) | exact HB.out)) hb); clear HO197; clear HB; have HO197 := n0_; have HB := n1_; clear n0_ n1_; (try clear hb); (try clear hb2); (try clear hk); (try clear hi)) | ((with_reducible refine gate_callee (f := 43) rfl ?_); refine goesL_ (some 10) rfl rfl Try.func43 (by kernel_rfl) rfl #[.agg #[.int .u64 t198, .int .u64 t199]] rfl (by (try simp only [List.map_toArray, List.map_cons, List.map_nil]); first | done | rfl | (simp only [List.length_drop, List.length_take]; rfl)) ?_; (with_reducible refine (sat_held.calls t198 t199 t200 _ A4.out).mono ?_); rintro e w9 ⟨rfl, hb⟩; refine ⟨_, rfl, ?_⟩; have n0_ := Aside0.mk (Kd.R_below (by (with_reducible repeat (first | apply Kd.R_alloc | apply Kd.R_drewN | apply Kd.R_drew)); exact HO197.out) hb); have n1_ := Aside0.mk (below_step (by repeat (first | (with_reducible first | exact HB.out | apply below_alloc | apply pw_below_drewN | apply below_drew1) | exact HB.out)) hb); clear HO197; clear HB; have HO197 := n0_; have HB := n1_; clear n0_ n1_; (try clear hb); (try clear hb2); (try clear hk); (try clear hi)))
 go_ret
 exact ⟨by first | rfl | (simp [errW_none, errW_some] <;> rfl) | (simp [*, errW_none, errW_some] <;> rfl), by repeat (first | (with_reducible first | exact HB.out | apply below_alloc | apply pw_below_drewN | apply below_drew1) | exact HB.out)⟩
def fixed_Mul.f (a0 : Int) (a1 : Int) : Option (Int) := (muldiv_Do.f a0 a1 4294967296 2).bind fun t201 => (some t201)
set_option maxHeartbeats 8000000 in
set_option maxRecDepth 100000 in
theorem fixed_Mul.calls (a0 : Int) (a1 : Int) (r : Int) (w : World) (h : fixed_Mul.f a0 a1 = some r) :
  Calls Try.prog 48 #[.int .i64 a0, .int .i64 a1] w fun e w' => e = .returned (.int .i64 r) ∧ Below w.heap.size w w' := by
 have HB := Aside0.mk (Below.refl w.heap.size w)
 have H : ((muldiv_Do.f a0 a1 4294967296 2).bind fun t201 => (some t201)) = some r := h
 clear h
 replace H := Option.bind_eq_some_iff.mp H
 obtain ⟨t201, A30, H⟩ := H
 replace H : (some t201) = some r := H
 have A3 := Aside0.mk A30
 clear A30
 obtain rfl := Option.some.inj H
 go_enter Try.func48, Try.ntmps48
 go_wp2_with (first | ((with_reducible refine gate_callee (f := 44) rfl ?_); refine goesL_ (some 7) rfl rfl Try.func44 (by kernel_rfl) rfl #[.int .i64 a0, .int .i64 a1, .int .i64 4294967296, .int .i64 2] rfl (by (try simp only [List.map_toArray, List.map_cons, List.map_nil]); first | done | rfl | (simp only [List.length_drop, List.length_take]; rfl)) ?_; (with_reducible refine (muldiv_Do.calls a0 a1 4294967296 2 t201 _ A3.out).mono ?_); rintro e w4 ⟨rfl, hb⟩; refine ⟨_, rfl, ?_⟩; have n0_ := Aside0.mk (below_step (by repeat (first | (with_reducible first | exact HB.out | apply below_alloc | apply pw_below_drewN | apply below_drew1) | exact HB.out)) hb); clear HB; have HB := n0_; clear n0_; (try clear hb); (try clear hb2); (try clear hk); (try clear hi)))
 go_ret
 exact ⟨by first | rfl | (simp [errW_none, errW_some] <;> rfl) | (simp [*, errW_none, errW_some] <;> rfl), by repeat (first | (with_reducible first | exact HB.out | apply below_alloc | apply pw_below_drewN | apply below_drew1) | exact HB.out)⟩
end Go.Proofs.Ytmcfgaokimlngaa.P
end

section
namespace Go.Proofs.Ytmcfgaokimlngaa.P
open Go.RowKit Go.Proofs.YtmcfgaokimlngaaW.PrintWords Go.Proofs.YtmcfgaokimlngaaW.PrintLast Go.Proofs.YtmcfgaokimlngaaW.PrintMore
attribute [local go_sem] max2_int min2_int max_two min_two max_three min_three max_four min_four   -- for this text's walks alone
set_option linter.unusedVariables false
set_option linter.unusedSimpArgs false
def fixed_Mix.f (k : Nat) (a0 : Int) (a1 : Int) (a2 : Int) : Option (Int) := (sat_Sub.f k a1 a0).bind fun t202 => ((fixed_Mul.f t202 a2).bind fun t203 => ((sat_Add.f k a0 t203).bind fun t204 => (some t204)))
theorem fixed_Mix.mono : ∀ a0 a1 a2 k, LeO (fixed_Mix.f k a0 a1 a2) (fixed_Mix.f (k + 1) a0 a1 a2) := by
 intro a0 a1 a2 k
 unfold fixed_Mix.f
 repeat' first
   | (with_reducible exact sat_Add.mono _ _ _)
   | (with_reducible exact sat_Sub.mono _ _ _)
   | (with_reducible exact LeO.refl _)
   | (with_reducible exact LeO.none _)
   | (with_reducible refine LeO.ite ?_ ?_)
   | (with_reducible refine LeO.bind ?_ (fun _ => ?_))
   | exact sat_Add.mono _ _ _
   | exact sat_Sub.mono _ _ _
   | exact LeO.none _
   | refine LeO.ite ?_ ?_
   | refine LeO.bind ?_ (fun _ => ?_)
set_option maxHeartbeats 8000000 in
set_option maxRecDepth 100000 in
theorem fixed_Mix.calls (k : Nat) (a0 : Int) (a1 : Int) (a2 : Int) (r : Int) (w : World) (h : fixed_Mix.f k a0 a1 a2 = some r) :
  Calls Try.prog 36 #[.int .i64 a0, .int .i64 a1, .int .i64 a2] w fun e w' => e = .returned (.int .i64 r) ∧ Below w.heap.size w w' := by
 have HB := Aside0.mk (Below.refl w.heap.size w)
 have H : ((sat_Sub.f k a1 a0).bind fun t202 => ((fixed_Mul.f t202 a2).bind fun t203 => ((sat_Add.f k a0 t203).bind fun t204 => (some t204)))) = some r := h
 clear h
 replace H := Option.bind_eq_some_iff.mp H
 obtain ⟨t202, A40, H⟩ := H
 replace H : ((fixed_Mul.f t202 a2).bind fun t203 => ((sat_Add.f k a0 t203).bind fun t204 => (some t204))) = some r := H
 have A4 := Aside0.mk A40
 clear A40
 replace H := Option.bind_eq_some_iff.mp H
 obtain ⟨t203, A50, H⟩ := H
 replace H : ((sat_Add.f k a0 t203).bind fun t204 => (some t204)) = some r := H
 have A5 := Aside0.mk A50
 clear A50
 replace H := Option.bind_eq_some_iff.mp H
 obtain ⟨t204, A60, H⟩ := H
 replace H : (some t204) = some r := H
 have A6 := Aside0.mk A60
 clear A60
 obtain rfl := Option.some.inj H
 go_enter Try.func36, Try.ntmps36
 go_wp2_with (first | ((with_reducible refine gate_callee (f := 40) rfl ?_); refine goesL_ (some 10) rfl rfl Try.func40 (by kernel_rfl) rfl #[.int .i64 a1, .int .i64 a0] rfl (by (try simp only [List.map_toArray, List.map_cons, List.map_nil]); first | done | rfl | (simp only [List.length_drop, List.length_take]; rfl)) ?_; (with_reducible refine (sat_Sub.calls k a1 a0 t202 _ A4.out).mono ?_); rintro e w7 ⟨rfl, hb⟩; refine ⟨_, rfl, ?_⟩; have n0_ := Aside0.mk (below_step (by repeat (first | (with_reducible first | exact HB.out | apply below_alloc | apply pw_below_drewN | apply below_drew1) | exact HB.out)) hb); clear HB; have HB := n0_; clear n0_; (try clear hb); (try clear hb2); (try clear hk); (try clear hi)) | ((with_reducible refine gate_callee (f := 48) rfl ?_); refine goesL_ (some 12) rfl rfl Try.func48 (by kernel_rfl) rfl #[.int .i64 t202, .int .i64 a2] rfl (by (try simp only [List.map_toArray, List.map_cons, List.map_nil]); first | done | rfl | (simp only [List.length_drop, List.length_take]; rfl)) ?_; (with_reducible refine (fixed_Mul.calls t202 a2 t203 _ A5.out).mono ?_); rintro e w8 ⟨rfl, hb⟩; refine ⟨_, rfl, ?_⟩; have n0_ := Aside0.mk (below_step (by repeat (first | (with_reducible first | exact HB.out | apply below_alloc | apply pw_below_drewN | apply below_drew1) | exact HB.out)) hb); clear HB; have HB := n0_; clear n0_; (try clear hb); (try clear hb2); (try clear hk); (try clear hi)) | ((with_reducible refine gate_callee (f := 35) rfl ?_); refine goesL_ (some 13) rfl rfl Try.func35 (by kernel_rfl) rfl #[.int .i64 a0, .int .i64 t203] rfl (by (try simp only [List.map_toArray, List.map_cons, List.map_nil]); first | done | rfl | (simp only [List.length_drop, List.length_take]; rfl)) ?_; (with_reducible refine (sat_Add.calls k a0 t203 t204 _ A6.out).mono ?_); rintro e w9 ⟨rfl, hb⟩; refine ⟨_, rfl, ?_⟩; have n0_ := Aside0.mk (below_step (by repeat (first | (with_reducible first | exact HB.out | apply below_alloc | apply pw_below_drewN | apply below_drew1) | exact HB.out)) hb); clear HB; have HB := n0_; clear n0_; (try clear hb); (try clear hb2); (try clear hk); (try clear hi)))
 go_ret
 exact ⟨by first | rfl | (simp [errW_none, errW_some] <;> rfl) | (simp [*, errW_none, errW_some] <;> rfl), by repeat (first | (with_reducible first | exact HB.out | apply below_alloc | apply pw_below_drewN | apply below_drew1) | exact HB.out)⟩
end Go.Proofs.Ytmcfgaokimlngaa.P
end

section
namespace Go.Proofs.Ytmcfgaokimlngaa.P
open Go.RowKit Go.Proofs.YtmcfgaokimlngaaW.PrintWords Go.Proofs.YtmcfgaokimlngaaW.PrintLast Go.Proofs.YtmcfgaokimlngaaW.PrintMore
attribute [local go_sem] max2_int min2_int max_two min_two max_three min_three max_four min_four   -- for this text's walks alone
set_option linter.unusedVariables false
set_option linter.unusedSimpArgs false
def trend_Trend_Add.f (k : Nat) (s0_0 : Int) (s0_1 : Int) (s0_2 : Int) (s0_3 : Int) (s0_4 : Int) (s0_5 : List Int) (s0_6 : List Int) (s0_7 : Int) (a1 : Int) (a2 : Int) : Option (Int × Int × Int × Int × Int × Int × List Int × List Int × Int) := (sat_Clamp.f a1 (-1125899906842624) 1125899906842624).bind fun t206 => ((sat_Clamp.f a2 (-1125899906842624) 1125899906842624).bind fun t207 => ((sat_Add.f k s0_2 (wrap64 (t207 - t206))).bind fun t208 => ((fixed_Mix.f k t208 s0_3 s0_1).bind fun t209 => ((sat_Add.f k s0_4 t206).bind fun t210 => (if s0_5.length = s0_6.length ∧ s0_5.length < 17592186044416 then (if 0 < wrap64 (((s0_5 ++ [t210]).length : Int) - s0_0) then (if wrap64 (((s0_5 ++ [t210]).length : Int) - s0_0) ≤ ((s0_5 ++ [t210]).length : Int) then trend_Trend_Slope.f k s0_0 s0_1 t208 t209 t210 ((s0_5 ++ [t210]).drop (wrap64 (((s0_5 ++ [t210]).length : Int) - s0_0)).toNat) ((s0_6 ++ [t209]).drop (wrap64 (((s0_5 ++ [t210]).length : Int) - s0_0)).toNat) (mn (wrap64 (s0_7 + 1)) 1000) else none) else trend_Trend_Slope.f k s0_0 s0_1 t208 t209 t210 (s0_5 ++ [t210]) (s0_6 ++ [t209]) (mn (wrap64 (s0_7 + 1)) 1000)) else none)))))
theorem trend_Trend_Add.mono : ∀ a0 a1 a2 a3 a4 a5 a6 a7 a8 a9 k, LeO (trend_Trend_Add.f k a0 a1 a2 a3 a4 a5 a6 a7 a8 a9) (trend_Trend_Add.f (k + 1) a0 a1 a2 a3 a4 a5 a6 a7 a8 a9) := by
 intro a0 a1 a2 a3 a4 a5 a6 a7 a8 a9 k
 unfold trend_Trend_Add.f
 exact LeO.bind (LeO.refl _) (fun _ => LeO.bind (LeO.refl _) (fun _ => LeO.bind (sat_Add.mono _ _ _) (fun _ => LeO.bind (fixed_Mix.mono _ _ _ _) (fun _ => LeO.bind (sat_Add.mono _ _ _) (fun _ => LeO.ite (LeO.ite (LeO.ite (trend_Trend_Slope.mono _ _ _ _ _ _ _ _ _) (LeO.none _)) (trend_Trend_Slope.mono _ _ _ _ _ _ _ _ _)) (LeO.none _))))))
def trend_Trend_Add.T6 : Bool × List (List Nat × List Nat) := (true, [([], []), ([], []), ([1], [1]), ([2], [2]), ([3], [3]), ([], []), ([5], [5]), ([6], [6]), ([7], [7]), ([], []), ([9], [9]), ([10], [10]), ([11], [11]), ([4, 8, 12], [4, 8, 12]), ([0, 0, 1, 2, 3, 4, 5, 6, 7, 8, 9, 10, 11, 12, 13], [0]), ([14, 0, 1, 2, 3, 4, 5, 6, 7, 8, 9, 10, 11, 12, 13], [14]), ([15, 13, 13, 0, 1, 2, 3, 4, 5, 6, 7, 8, 9, 10, 11, 12, 13], [13, 15])])
def trend_Trend_Add.B6 : List Nat := [0, 0, 2, 6, 14, 0, 32, 96, 224, 0, 512, 1536, 3584, 8190, 16383, 32767, 65535]
theorem trend_Trend_Add.tab6 : rtab .any (opsOf Try.f16 6) = trend_Trend_Add.T6 := by kernel_rfl
theorem trend_Trend_Add.bits6 : waitsOk trend_Trend_Add.T6.2 trend_Trend_Add.B6 = true := by kernel_rfl
def trend_Trend_Add.T8 : Bool × List (List Nat × List Nat) := (true, [([], []), ([], []), ([], []), ([2], [2]), ([3], [3]), ([4], [4]), ([], []), ([6], [6]), ([7], [7]), ([8], [8]), ([9], [9]), ([5, 10], [5, 10]), ([], []), ([12], [12]), ([13], [13]), ([14], [14]), ([], []), ([16], [16]), ([17], [17]), ([18], [18]), ([19], [19]), ([15, 20, 11], [15, 20]), ([0, 0, 2, 3, 4, 5, 6, 7, 8, 9, 10, 11, 15, 19, 21], [0]), ([22, 0, 2, 3, 4, 5, 6, 7, 8, 9, 10, 11, 15, 19, 21], [22]), ([23, 11, 21, 0, 2, 3, 4, 5, 6, 7, 8, 9, 10, 11, 15, 19, 21], [11, 23]), ([1, 0, 1, 2, 3, 4, 5, 6, 7, 8, 9, 10, 11, 12, 13, 14, 15, 16, 17, 18, 19, 20, 21, 22, 23, 24], [1]), ([25, 0, 1, 2, 3, 4, 5, 6, 7, 8, 9, 10, 11, 12, 13, 14, 15, 16, 17, 18, 19, 20, 21, 22, 23, 24], [25]), ([26, 21, 24, 0, 1, 2, 3, 4, 5, 6, 7, 8, 9, 10, 11, 12, 13, 14, 15, 16, 17, 18, 19, 20, 21, 22, 23, 24], [21, 26])])
def trend_Trend_Add.B8 : List Nat := [0, 0, 0, 4, 12, 28, 0, 64, 192, 448, 960, 2044, 0, 4096, 12288, 28672, 0, 65536, 196608, 458752, 983040, 2097148, 4194301, 8388605, 16777213, 33554431, 67108863, 134217727]
theorem trend_Trend_Add.tab8 : rtab .any (opsOf Try.f16 8) = trend_Trend_Add.T8 := by kernel_rfl
theorem trend_Trend_Add.bits8 : waitsOk trend_Trend_Add.T8.2 trend_Trend_Add.B8 = true := by kernel_rfl
def trend_Trend_Add.T9 : Bool × List (List Nat × List Nat) := (true, [([], []), ([0], [0]), ([1], [1]), ([2], [2]), ([3], [3]), ([], []), ([5], [5]), ([6], [6]), ([7], [7]), ([4, 8], [4, 8]), ([9, 0, 1, 2, 3, 4, 5, 6, 7, 8, 9], [9])])
def trend_Trend_Add.B9 : List Nat := [0, 1, 3, 7, 15, 0, 32, 96, 224, 511, 1023]
theorem trend_Trend_Add.tab9 : rtab .any (opsOf Try.f16 9) = trend_Trend_Add.T9 := by kernel_rfl
theorem trend_Trend_Add.bits9 : waitsOk trend_Trend_Add.T9.2 trend_Trend_Add.B9 = true := by kernel_rfl
def trend_Trend_Add.T11 : Bool × List (List Nat × List Nat) := (true, [([], []), ([], []), ([], []), ([2], [2]), ([3], [3]), ([4], [4]), ([], []), ([5, 6], [5, 6]), ([], []), ([8], [8]), ([9], [9]), ([10], [10]), ([], []), ([11, 12], [11, 12]), ([0, 0, 2, 3, 4, 5, 6, 7, 11], [0]), ([14, 0, 2, 3, 4, 5, 6, 7, 11], [14]), ([15, 7, 0, 2, 3, 4, 5, 6, 7, 11], [7, 15]), ([1, 0, 1, 2, 3, 4, 5, 6, 7, 8, 9, 10, 11, 12, 13, 14, 15, 16], [1]), ([17, 0, 1, 2, 3, 4, 5, 6, 7, 8, 9, 10, 11, 12, 13, 14, 15, 16], [17]), ([18, 13, 16, 0, 1, 2, 3, 4, 5, 6, 7, 8, 9, 10, 11, 12, 13, 14, 15, 16], [13, 18])])
def trend_Trend_Add.B11 : List Nat := [0, 0, 0, 4, 12, 28, 0, 124, 0, 256, 768, 1792, 0, 7936, 4093, 20477, 53245, 131071, 262143, 524287]
theorem trend_Trend_Add.tab11 : rtab .any (opsOf Try.f16 11) = trend_Trend_Add.T11 := by kernel_rfl
theorem trend_Trend_Add.bits11 : waitsOk trend_Trend_Add.T11.2 trend_Trend_Add.B11 = true := by kernel_rfl
set_option maxHeartbeats 16000000 in
set_option maxRecDepth 100000 in
theorem trend_Trend_Add.callsP (P : Nat → Prop) (k : Nat) (g : Nat) (s0_0 : Int) (s0_1 : Int) (s0_2 : Int) (s0_3 : Int) (s0_4 : Int) (s0_5 : List Int) (s0_6 : List Int) (s0_7 : Int) (a1 : Int) (a2 : Int) (r1 : Int) (r2 : Int) (r3 : Int) (r4 : Int) (r5 : Int) (r6 : Int) (r7 : List Int) (r8 : List Int) (r9 : Int) (w0 w : World) (hPf : ∀ j, w.heap.size ≤ j → P j) (hI : IsS60P P w0 w g s0_0 s0_1 s0_2 s0_3 s0_4 s0_5 s0_6 s0_7) (hB : Below w0.heap.size w0 w) (h : trend_Trend_Add.f k s0_0 s0_1 s0_2 s0_3 s0_4 s0_5 s0_6 s0_7 a1 a2 = some (r1, r2, r3, r4, r5, r6, r7, r8, r9)) :
  Calls Try.prog 16 #[.pointer (some ⟨g, 0, none⟩), .int .i64 a1, .int .i64 a2] w fun e w' => e = .returned (.int .i64 r1) ∧ IsS60P P w0 w' g r2 r3 r4 r5 r6 r7 r8 r9 ∧ Below w0.heap.size w0 w' ∧ Kept w w' P := by
 have hpn27_eql : ∀ (a_ : Addr) (W_ : World), (Go.binOp .eql 27 (.pointer (some a_)) (.pointer none)).run Try.prog W_ = .ok (.bool false) W_ := fun _ _ => by kernel_rfl
 have hnn27_eql : ∀ (W_ : World), (Go.binOp .eql 27 (.pointer none) (.pointer none)).run Try.prog W_ = .ok (.bool true) W_ := fun _ => by kernel_rfl
 have hPg := hI.pg
 have HI0 := Aside0.mk hI
 have HK := Aside0.mk (Kept.refl w P)
 have HL := Aside0.mk hB.size
 have HB := Aside0.mk hB
 clear hI hB
 simp only [trend_Trend_Add.f, Option.bind_eq_some_iff] at h
 obtain ⟨t206, A4_, t207, A5_, t208, A6_, t209, A7_, t210, A8_, H⟩ := h
 have A4 := Aside0.mk A4_
 clear A4_
 have A5 := Aside0.mk A5_
 clear A5_
 have A6 := Aside0.mk A6_
 clear A6_
 have A7 := Aside0.mk A7_
 clear A7_
 have A8 := Aside0.mk A8_
 clear A8_
 by_cases hl : s0_5.length = s0_6.length ∧ s0_5.length < 17592186044416
 rotate_left
 ·rw [if_neg hl] at H; exact absurd H (by simp)
 rw [if_pos hl] at H
 have HLN := Aside0.mk hl
 clear hl
 have HH := Aside0.mk H
 clear H
 obtain ⟨cnt, hcnt⟩ : ∃ j_ : Int, (mn (wrap64 (s0_7 + 1)) 1000) = j_ := ⟨_, rfl⟩
 rw [hcnt] at HH
 have hcnt_ : (if 1000 < (wrap64 (s0_7 + 1)) then 1000 else (wrap64 (s0_7 + 1))) = cnt := hcnt
 clear hcnt
 go_enter Try.func16, Try.ntmps16
 try go_wp2_with (first | ((with_reducible refine gate_callee (f := 34) rfl ?_); refine goesL_ (some 11) rfl rfl Try.func34 (by kernel_rfl) rfl #[.int .i64 a1, .int .i64 (-1125899906842624), .int .i64 1125899906842624] rfl (by (try simp only [List.map_toArray, List.map_cons, List.map_nil]); first | done | rfl | (simp only [List.length_drop, List.length_take]; rfl)) ?_; (with_reducible refine (sat_Clamp.calls a1 (-1125899906842624) 1125899906842624 t206 _ A4.out).mono ?_); rintro e w' ⟨rfl, ⟨nd, rfl⟩⟩; refine ⟨_, rfl, ?_⟩; (generalize hq_ : World.drewN w _ = w11; have n0_ : Aside0 (IsS60P P w0 w11 g s0_0 s0_1 s0_2 s0_3 s0_4 s0_5 s0_6 s0_7) := ⟨by rw [← hq_]; exact (by repeat (first | (with_reducible first | exact HI0.out | apply IsS60P.alloc | apply IsS60P.drewN | apply IsS60P.drew | apply IsS60P.set_0 | apply IsS60P.set_1 | apply IsS60P.set_2 | apply IsS60P.set_3 | apply IsS60P.set_4 | apply IsS60P.set_5 | apply IsS60P.set_6 | apply IsS60P.set_7) | exact HI0.out))⟩; have n1_ : Aside0 (Kept w w11 P) := ⟨by rw [← hq_]; exact (by repeat (first | (with_reducible first | exact HK.out | refine kp_set hPg ?_ | apply Kept.drewN | apply Kept.drew | apply Kept.alloc) | exact HK.out))⟩; have n2_ : Aside0 (Below w0.heap.size w0 w11) := ⟨by rw [← hq_]; exact (by repeat (first | (with_reducible first | exact HB.out | apply below_alloc | apply pw_below_drewN | apply below_drew1 | refine below_set ?_ (IsS60P.ge HI0.out)) | exact HB.out))⟩; clear HI0 HK HB hq_; have HI0 := n0_; have HK := n1_; have HB := n2_; clear n0_ n1_ n2_)) | ((with_reducible refine gate_callee (f := 34) rfl ?_); refine goesL_ (some 13) rfl rfl Try.func34 (by kernel_rfl) rfl #[.int .i64 a2, .int .i64 (-1125899906842624), .int .i64 1125899906842624] rfl (by (try simp only [List.map_toArray, List.map_cons, List.map_nil]); first | done | rfl | (simp only [List.length_drop, List.length_take]; rfl)) ?_; (with_reducible refine (sat_Clamp.calls a2 (-1125899906842624) 1125899906842624 t207 _ A5.out).mono ?_); rintro e w' ⟨rfl, ⟨nd, rfl⟩⟩; refine ⟨_, rfl, ?_⟩; (try (rw [drewN_self w11]; generalize hq_ : World.drewN w11 _ = w11; have n0_ : Aside0 (IsS60P P w0 w11 g s0_0 s0_1 s0_2 s0_3 s0_4 s0_5 s0_6 s0_7) := ⟨by rw [← hq_]; exact (by repeat (first | (with_reducible first | exact HI0.out | apply IsS60P.alloc | apply IsS60P.drewN | apply IsS60P.drew | apply IsS60P.set_0 | apply IsS60P.set_1 | apply IsS60P.set_2 | apply IsS60P.set_3 | apply IsS60P.set_4 | apply IsS60P.set_5 | apply IsS60P.set_6 | apply IsS60P.set_7) | exact HI0.out))⟩; have n1_ : Aside0 (Kept w w11 P) := ⟨by rw [← hq_]; exact (by repeat (first | (with_reducible first | exact HK.out | refine kp_set hPg ?_ | apply Kept.drewN | apply Kept.drew | apply Kept.alloc) | exact HK.out))⟩; have n2_ : Aside0 (Below w0.heap.size w0 w11) := ⟨by rw [← hq_]; exact (by repeat (first | (with_reducible first | exact HB.out | apply below_alloc | apply pw_below_drewN | apply below_drew1 | refine below_set ?_ (IsS60P.ge HI0.out)) | exact HB.out))⟩; clear HI0 HK HB hq_; have HI0 := n0_; have HK := n1_; have HB := n2_; clear n0_ n1_ n2_)); obtain ⟨ASz12_5, cSz12_5, ASz12_6, cSz12_6, HGz12, hgz12, HSz12_5, HSz12_6⟩ := HI0.out; have hcz12_0 := cellS60_0 HGz12; have hcz12_1 := cellS60_1 HGz12; have hcz12_2 := cellS60_2 HGz12; have hcz12_3 := cellS60_3 HGz12; have hcz12_4 := cellS60_4 HGz12; have hcz12_5 := cellS60_5 HGz12; have hcz12_6 := cellS60_6 HGz12; have hcz12_7 := cellS60_7 HGz12; have hfz12_0 := blk_frozen HGz12 0; have hfz12_1 := blk_frozen HGz12 1; have hfz12_2 := blk_frozen HGz12 2; have hfz12_3 := blk_frozen HGz12 3; have hfz12_4 := blk_frozen HGz12 4; have hfz12_5 := blk_frozen HGz12 5; have hfz12_6 := blk_frozen HGz12 6; have hfz12_7 := blk_frozen HGz12 7; clear HGz12 hgz12) | ((with_reducible refine gate_callee (f := 35) rfl ?_); refine goesL_ (some 22) rfl rfl Try.func35 (by kernel_rfl) rfl #[.int .i64 s0_2, .int .i64 (wrap64 (t207 - t206))] rfl (by (try simp only [List.map_toArray, List.map_cons, List.map_nil]); first | done | rfl | (simp only [List.length_drop, List.length_take]; rfl)) ?_; (with_reducible refine (sat_Add.calls k s0_2 (wrap64 (t207 - t206)) t208 _ A6.out).mono ?_); rintro e w13 ⟨rfl, hb⟩; refine ⟨_, rfl, ?_⟩; have n0_ := Aside0.mk (IsS60P.below (by repeat (first | (with_reducible first | exact HI0.out | apply IsS60P.alloc | apply IsS60P.drewN | apply IsS60P.drew | apply IsS60P.set_0 | apply IsS60P.set_1 | apply IsS60P.set_2 | apply IsS60P.set_3 | apply IsS60P.set_4 | apply IsS60P.set_5 | apply IsS60P.set_6 | apply IsS60P.set_7) | exact HI0.out)) hb); have n1_ := Aside0.mk (Kept.below (S := P) (by repeat (first | (with_reducible first | exact HK.out | refine kp_set hPg ?_ | apply Kept.drewN | apply Kept.drew | apply Kept.alloc) | exact HK.out)) hb); have n2_ := Aside0.mk (below_step (by repeat (first | (with_reducible first | exact HB.out | apply below_alloc | apply pw_below_drewN | apply below_drew1 | refine below_set ?_ (IsS60P.ge HI0.out)) | exact HB.out)) hb); clear HI0; clear HK; clear HB; have HI0 := n0_; have HK := n1_; have HB := n2_; clear n0_ n1_ n2_; (try clear hb); (try clear hb2); (try clear hk); (try clear hi); obtain ⟨ASz14_5, cSz14_5, ASz14_6, cSz14_6, HGz14, hgz14, HSz14_5, HSz14_6⟩ := HI0.out; have hcz14_0 := cellS60_0 HGz14; have hcz14_1 := cellS60_1 HGz14; have hcz14_2 := cellS60_2 HGz14; have hcz14_3 := cellS60_3 HGz14; have hcz14_4 := cellS60_4 HGz14; have hcz14_5 := cellS60_5 HGz14; have hcz14_6 := cellS60_6 HGz14; have hcz14_7 := cellS60_7 HGz14; have hfz14_0 := blk_frozen HGz14 0; have hfz14_1 := blk_frozen HGz14 1; have hfz14_2 := blk_frozen HGz14 2; have hfz14_3 := blk_frozen HGz14 3; have hfz14_4 := blk_frozen HGz14 4; have hfz14_5 := blk_frozen HGz14 5; have hfz14_6 := blk_frozen HGz14 6; have hfz14_7 := blk_frozen HGz14 7; clear HGz14 hgz14))
 have n0_ : Aside0 (IsS60P P w0 (w13.setCell ⟨g, 2, none⟩ (.int .i64 t208)) g s0_0 s0_1 t208 s0_3 s0_4 s0_5 s0_6 s0_7) := ⟨by repeat (first | (with_reducible first | exact HI0.out | apply IsS60P.alloc | apply IsS60P.drewN | apply IsS60P.drew | apply IsS60P.set_0 | apply IsS60P.set_1 | apply IsS60P.set_2 | apply IsS60P.set_3 | apply IsS60P.set_4 | apply IsS60P.set_5 | apply IsS60P.set_6 | apply IsS60P.set_7) | exact HI0.out)⟩
 have n1_ : Aside0 (Kept w (w13.setCell ⟨g, 2, none⟩ (.int .i64 t208)) P) := ⟨by repeat (first | (with_reducible first | exact HK.out | refine kp_set hPg ?_ | apply Kept.drewN | apply Kept.drew | apply Kept.alloc) | exact HK.out)⟩
 have n2_ : Aside0 (Below w0.heap.size w0 (w13.setCell ⟨g, 2, none⟩ (.int .i64 t208))) := ⟨by repeat (first | (with_reducible first | exact HB.out | apply below_alloc | apply pw_below_drewN | apply below_drew1 | refine below_set ?_ (IsS60P.ge HI0.out)) | exact HB.out)⟩
 (try clear HI0)
 (try clear HK)
 (try clear HB)
 generalize (w13.setCell ⟨g, 2, none⟩ (.int .i64 t208)) = w15 at n0_ n1_ n2_ ⊢
 have HI0 := n0_
 have HK := n1_
 have HB := n2_
 clear n0_ n1_ n2_
 have n0_ := Aside0.mk (IsS60P.drew HI0.out)
 have n1_ := Aside0.mk (Kept.drew HK.out)
 have n2_ := Aside0.mk (below_drew1 HB.out)
 clear HI0
 clear HK
 clear HB
 have HI0 := n0_
 have HK := n1_
 have HB := n2_
 clear n0_ n1_ n2_
 refine start_ (n := 17) (S := fun w' => w'.cell? ⟨g, 0, none⟩ = some (.int .i64 s0_0) ∧ w'.cell? ⟨g, 1, none⟩ = some (.int .i64 s0_1) ∧ w'.cell? ⟨g, 2, none⟩ = some (.int .i64 t208) ∧ w'.cell? ⟨g, 3, none⟩ = some (.int .i64 s0_3) ∧ w'.cell? ⟨g, 4, none⟩ = some (.int .i64 s0_4) ∧ w'.cell? ⟨g, 7, none⟩ = some (.int .i64 s0_7)) (ds := [16]) #[false, false, false, false, false, false, false, false, false, false, false, false, false, false, false, false, false] (by kernel_rfl) rfl rfl ⟨(IsS60P.cell_0 HI0.out), (IsS60P.cell_1 HI0.out), (IsS60P.cell_2 HI0.out), (IsS60P.cell_3 HI0.out), (IsS60P.cell_4 HI0.out), (IsS60P.cell_7 HI0.out)⟩ (fun hHeld => ?_); refine with_tabW trend_Trend_Add.tab6 trend_Trend_Add.bits6 (fun HT_ HW_ => ?_)
 generalize w15.drew = w16 at HI0 HK HB hHeld ⊢
 refine pure_ (i := 0) (N := some 25) (v := ?_) (a' := ?_) (bl 17 1) rfl rfl (any_of HT_.out (by kernel_rfl)) (fun _ _ _ h => h) (Or.inl ⟨by rfl, ?_⟩) ?_ ?_
 rotate_left
 ·intro w'
  go_simp
  with_reducible rfl
 rotate_left
 ·simp only [puts_]
  rfl
 refine pure_ (i := 1) (N := some 26) (v := ?_) (a' := ?_) (bl 17 3) rfl rfl (any_of HT_.out (by kernel_rfl)) (fun _ _ _ h => h) (Or.inl ⟨by rfl, ?_⟩) ?_ ?_
 rotate_left
 ·intro w'
  go_simp
  with_reducible rfl
 rotate_left
 ·simp only [puts_]
  rfl
 refine pure_ (i := 2) (N := some 27) (v := ?_) (a' := ?_) (bl 17 7) rfl rfl (any_of HT_.out (by kernel_rfl)) (fun _ _ _ h => h) (Or.inl ⟨by rfl, ?_⟩) ?_ ?_
 rotate_left
 ·intro w'
  go_simp
  with_reducible rfl
 rotate_left
 ·simp only [puts_]
  rfl
 refine pure_ (i := 3) (N := some 28) (v := ?_) (a' := ?_) (bl 17 15) rfl rfl (any_of HT_.out (by kernel_rfl)) (fun _ _ _ h => h) (Or.inl ⟨by rfl, ?_⟩) ?_ ?_
 rotate_left
 ·intro w'
  go_simp
  with_reducible rfl
 rotate_left
 ·simp only [puts_]
  rfl
 refine pure_ (i := 5) (N := some 30) (v := ?_) (a' := ?_) (bl 17 47) rfl rfl (any_of HT_.out (by kernel_rfl)) (fun _ _ _ h => h) (Or.inl ⟨by rfl, ?_⟩) ?_ ?_
 rotate_left
 ·intro w'
  go_simp
  with_reducible rfl
 rotate_left
 ·simp only [puts_]
  rfl
 refine pure_ (i := 6) (N := some 31) (v := ?_) (a' := ?_) (bl 17 111) rfl rfl (any_of HT_.out (by kernel_rfl)) (fun _ _ _ h => h) (Or.inl ⟨by rfl, ?_⟩) ?_ ?_
 rotate_left
 ·intro w'
  go_simp
  with_reducible rfl
 rotate_left
 ·simp only [puts_]
  rfl
 refine pure_ (i := 7) (N := some 32) (v := ?_) (a' := ?_) (bl 17 239) rfl rfl (any_of HT_.out (by kernel_rfl)) (fun _ _ _ h => h) (Or.inl ⟨by rfl, ?_⟩) ?_ ?_
 rotate_left
 ·intro w'
  go_simp
  with_reducible rfl
 rotate_left
 ·simp only [puts_]
  rfl
 refine pure_ (i := 9) (N := some 34) (v := ?_) (a' := ?_) (bl 17 751) rfl rfl (any_of HT_.out (by kernel_rfl)) (fun _ _ _ h => h) (Or.inl ⟨by rfl, ?_⟩) ?_ ?_
 rotate_left
 ·intro w'
  go_simp
  with_reducible rfl
 rotate_left
 ·simp only [puts_]
  rfl
 refine pure_ (i := 10) (N := some 35) (v := ?_) (a' := ?_) (bl 17 1775) rfl rfl (any_of HT_.out (by kernel_rfl)) (fun _ _ _ h => h) (Or.inl ⟨by rfl, ?_⟩) ?_ ?_
 rotate_left
 ·intro w'
  go_simp
  with_reducible rfl
 rotate_left
 ·simp only [puts_]
  rfl
 refine pure_ (i := 11) (N := some 36) (v := ?_) (a' := ?_) (bl 17 3823) rfl rfl (any_of HT_.out (by kernel_rfl)) (fun _ _ _ h => h) (Or.inl ⟨by rfl, ?_⟩) ?_ ?_
 rotate_left
 ·intro w'
  go_simp
  with_reducible rfl
 rotate_left
 ·simp only [puts_]
  rfl
 refine take_ (i := 4) (N := some 29) (v := ?_) (a' := ?_) (bl 17 3839) rfl rfl (take_ofW HT_.out HW_.out (by kernel_rfl)) (fun _ _ _ h => h) (Or.inl ⟨by rfl, ?_⟩) hHeld ?_ ?_
 rotate_left
 ·rintro w' ⟨s0, s1, s2, s3, s4, s5⟩
  go_simp
  with_reducible rfl
 rotate_left
 ·simp only [puts_]
  rfl
 refine take_ (i := 8) (N := some 33) (v := ?_) (a' := ?_) (bl 17 4095) rfl rfl (take_ofW HT_.out HW_.out (by kernel_rfl)) (fun _ _ _ h => h) (Or.inl ⟨by rfl, ?_⟩) hHeld ?_ ?_
 rotate_left
 ·rintro w' ⟨s0, s1, s2, s3, s4, s5⟩
  go_simp
  with_reducible rfl
 rotate_left
 ·simp only [puts_]
  rfl
 refine take_ (i := 12) (N := some 37) (v := ?_) (a' := ?_) (bl 17 8191) rfl rfl (take_ofW HT_.out HW_.out (by kernel_rfl)) (fun _ _ _ h => h) (Or.inl ⟨by rfl, ?_⟩) hHeld ?_ ?_
 rotate_left
 ·rintro w' ⟨s0, s1, s2, s3, s4, s5⟩
  go_simp
  with_reducible rfl
 rotate_left
 ·simp only [puts_]
  rfl
 refine one_ (i := 13) (N := some 38) (bl 17 16383) rfl rfl (one_of HT_.out (by kernel_rfl)) (by decide) (fun K hK => ?_)
 refine goes_ Try.func36 (by kernel_rfl) rfl #[.int .i64 t208, .int .i64 s0_3, .int .i64 s0_1] (by rfl) rfl rfl (by (try simp only [List.map_toArray, List.map_cons, List.map_nil]); first | done | rfl | (simp only [List.length_drop, List.length_take]; rfl)) ?_
 with_reducible refine (fixed_Mix.calls k t208 s0_3 s0_1 t209 _ A7.out).mono ?_
 rintro e w17 ⟨rfl, hb⟩
 refine ⟨_, rfl, ?_⟩
 have n0_ := Aside0.mk (IsS60P.below (by repeat (first | (with_reducible first | exact HI0.out | apply IsS60P.alloc | apply IsS60P.drewN | apply IsS60P.drew | apply IsS60P.set_0 | apply IsS60P.set_1 | apply IsS60P.set_2 | apply IsS60P.set_3 | apply IsS60P.set_4 | apply IsS60P.set_5 | apply IsS60P.set_6 | apply IsS60P.set_7) | exact HI0.out)) hb)
 have n1_ := Aside0.mk (Kept.below (S := P) (by repeat (first | (with_reducible first | exact HK.out | refine kp_set hPg ?_ | apply Kept.drewN | apply Kept.drew | apply Kept.alloc) | exact HK.out)) hb)
 have n2_ := Aside0.mk (below_step (by repeat (first | (with_reducible first | exact HB.out | apply below_alloc | apply pw_below_drewN | apply below_drew1 | refine below_set ?_ (IsS60P.ge HI0.out)) | exact HB.out)) hb)
 clear HI0
 clear HK
 clear HB
 have HI0 := n0_
 have HK := n1_
 have HB := n2_
 clear n0_ n1_ n2_
 (try clear hb)
 (try clear hb2)
 (try clear hk)
 (try clear hi)
 refine hK.out _ _ ⟨(IsS60P.cell_0 HI0.out), (IsS60P.cell_1 HI0.out), (IsS60P.cell_2 HI0.out), (IsS60P.cell_3 HI0.out), (IsS60P.cell_4 HI0.out), (IsS60P.cell_7 HI0.out)⟩ (fun hHeld => ?_)
 clear hK K
 refine norm_ (a' := ?_) ?_ ?_
 rotate_left
 ·show Act.put _ (some 38) _ = _
  simp only [puts_]
  rfl
 refine pure_ (i := 14) (N := some 39) (v := ?_) (a' := ?_) (bl 17 32767) rfl rfl (any_of HT_.out (by kernel_rfl)) (fun _ _ _ h => h) (Or.inl ⟨by rfl, ?_⟩) ?_ ?_
 rotate_left
 ·intro w'
  go_simp
  with_reducible rfl
 rotate_left
 ·simp only [puts_]
  rfl
 refine pure_ (i := 15) (N := some 40) (v := ?_) (a' := ?_) (bl 17 65535) rfl rfl (any_of HT_.out (by kernel_rfl)) (fun _ _ _ h => h) (Or.inl ⟨by rfl, ?_⟩) ?_ ?_
 rotate_left
 ·intro w'
  go_simp
  with_reducible rfl
 rotate_left
 ·simp only [puts_]
  rfl
 refine last_ (i := 16) (N := none) (bl 17 131071) rfl rfl (one_of HT_.out (by kernel_rfl)) (by decide) (fun K hK => ?_)
 have hs18 : w17.cell? ⟨g, 3, none⟩ = some (.int .i64 s0_3) := IsS60P.cell_3 HI0.out
 have hfs18 := IsS60P.froz_3 HI0.out
 refine skip_ (w1 := ?_) (by rfl) rfl ?_ ?_
 rotate_left
 ·go_simp
  rfl
 refine hK.out _ _ ?_
 clear hK K
 refine done_ (done_of HT_.out (by kernel_rfl)) ?_
 obtain ⟨ASz19_5, cSz19_5, ASz19_6, cSz19_6, HGz19, hgz19, HSz19_5, HSz19_6⟩ := HI0.out
 have hcz19_0 := cellS60_0 HGz19
 have hcz19_1 := cellS60_1 HGz19
 have hcz19_2 := cellS60_2 HGz19
 have hcz19_3 := cellS60_3 HGz19
 have hcz19_4 := cellS60_4 HGz19
 have hcz19_5 := cellS60_5 HGz19
 have hcz19_6 := cellS60_6 HGz19
 have hcz19_7 := cellS60_7 HGz19
 have hfz19_0 := blk_frozen HGz19 0
 have hfz19_1 := blk_frozen HGz19 1
 have hfz19_2 := blk_frozen HGz19 2
 have hfz19_3 := blk_frozen HGz19 3
 have hfz19_4 := blk_frozen HGz19 4
 have hfz19_5 := blk_frozen HGz19 5
 have hfz19_6 := blk_frozen HGz19 6
 have hfz19_7 := blk_frozen HGz19 7
 clear HGz19 hgz19
 go_wp2_with (first | ((with_reducible refine gate_callee (f := 35) rfl ?_); refine goesL_ (some 47) rfl rfl Try.func35 (by kernel_rfl) rfl #[.int .i64 s0_4, .int .i64 t206] rfl (by (try simp only [List.map_toArray, List.map_cons, List.map_nil]); first | done | rfl | (simp only [List.length_drop, List.length_take]; rfl)) ?_; (with_reducible refine (sat_Add.calls k s0_4 t206 t210 _ A8.out).mono ?_); rintro e w20 ⟨rfl, hb⟩; refine ⟨_, rfl, ?_⟩; have n0_ := Aside0.mk (IsS60P.below (show IsS60P P w0 (w17.setCell ⟨g, 3, none⟩ (.int .i64 t209)) g s0_0 s0_1 t208 t209 s0_4 s0_5 s0_6 s0_7 from by repeat (first | (with_reducible first | exact HI0.out | apply IsS60P.alloc | apply IsS60P.drewN | apply IsS60P.drew | apply IsS60P.set_0 | apply IsS60P.set_1 | apply IsS60P.set_2 | apply IsS60P.set_3 | apply IsS60P.set_4 | apply IsS60P.set_5 | apply IsS60P.set_6 | apply IsS60P.set_7) | exact HI0.out)) hb); have n1_ := Aside0.mk (Kept.below (show Kept w (w17.setCell ⟨g, 3, none⟩ (.int .i64 t209)) P from by repeat (first | (with_reducible first | exact HK.out | refine kp_set hPg ?_ | apply Kept.drewN | apply Kept.drew | apply Kept.alloc) | exact HK.out)) hb); have n2_ := Aside0.mk (below_step (by repeat (first | (with_reducible first | exact HB.out | apply below_alloc | apply pw_below_drewN | apply below_drew1 | refine below_set ?_ (IsS60P.ge HI0.out)) | exact HB.out)) hb); clear HI0; clear HK; clear HB; have HI0 := n0_; have HK := n1_; have HB := n2_; clear n0_ n1_ n2_; (try clear hb); (try clear hb2); (try clear hk); (try clear hi); obtain ⟨ASz21_5, cSz21_5, ASz21_6, cSz21_6, HGz21, hgz21, HSz21_5, HSz21_6⟩ := HI0.out; have hcz21_0 := cellS60_0 HGz21; have hcz21_1 := cellS60_1 HGz21; have hcz21_2 := cellS60_2 HGz21; have hcz21_3 := cellS60_3 HGz21; have hcz21_4 := cellS60_4 HGz21; have hcz21_5 := cellS60_5 HGz21; have hcz21_6 := cellS60_6 HGz21; have hcz21_7 := cellS60_7 HGz21; have hfz21_0 := blk_frozen HGz21 0; have hfz21_1 := blk_frozen HGz21 1; have hfz21_2 := blk_frozen HGz21 2; have hfz21_3 := blk_frozen HGz21 3; have hfz21_4 := blk_frozen HGz21 4; have hfz21_5 := blk_frozen HGz21 5; have hfz21_6 := blk_frozen HGz21 6; have hfz21_7 := blk_frozen HGz21 7; clear HGz21 hgz21))
 have hIx : IsS60P P w0 (w20.setCell ⟨g, 4, none⟩ (.int .i64 t210)) g s0_0 s0_1 t208 t209 t210 s0_5 s0_6 s0_7 := by repeat (first | (with_reducible first | exact HI0.out | apply IsS60P.set_3 | apply IsS60P.set_4) | exact HI0.out)
 have hBx : Below w0.heap.size w0 (w20.setCell ⟨g, 4, none⟩ (.int .i64 t210)) := by repeat (first | (with_reducible first | exact HB.out | refine below_set ?_ (IsS60P.ge HI0.out)) | exact HB.out)
 have hKx : Kept w (w20.setCell ⟨g, 4, none⟩ (.int .i64 t210)) P := by repeat (first | (with_reducible first | exact HK.out | refine kp_set hPg ?_) | exact HK.out)
 clear HI0 HB HK
 generalize (w20.setCell ⟨g, 4, none⟩ (.int .i64 t210)) = w80 at hIx hBx hKx ⊢
 obtain ⟨A5, c5, A6, c6, hT⟩ := TF.of_state hIx hPf hBx hKx
 have HT := Aside0.mk hT
 clear hIx hBx hKx hT
 (try clear hcz21_0 hcz21_1 hcz21_2 hcz21_3 hcz21_4 hcz21_5 hcz21_6 hcz21_7)
 have n0_ := Aside0.mk (TF.drew HT.out)
 clear HT
 have HT := n0_
 clear n0_
 refine start_ (n := 28) (S := fun w' => w'.cell? ⟨g, 3, none⟩ = some (.int .i64 t209) ∧ w'.cell? ⟨g, 4, none⟩ = some (.int .i64 t210) ∧ w'.cell? ⟨g, 5, none⟩ = some (.slice A5 s0_5.length c5) ∧ w'.cell? ⟨g, 6, none⟩ = some (.slice A6 s0_6.length c6)) (ds := [24, 27]) #[false, false, false, false, false, false, false, false, false, false, false, false, false, false, false, false, false, false, false, false, false, false, false, false, false, false, false, false] (by kernel_rfl) rfl rfl ⟨(blk_cell HT.out.1 3).trans rfl, (blk_cell HT.out.1 4).trans rfl, (blk_cell HT.out.1 5).trans rfl, (blk_cell HT.out.1 6).trans rfl⟩ (fun hHeld => ?_); refine with_tabW trend_Trend_Add.tab8 trend_Trend_Add.bits8 (fun HT_ HW_ => ?_)
 generalize World.drew w80 = w8 at HT hHeld ⊢
 refine pure_ (i := 0) (N := some 50) (v := ?_) (a' := ?_) (bl 28 1) rfl rfl (any_of HT_.out (by kernel_rfl)) (fun _ _ _ h => h) (Or.inl ⟨by rfl, ?_⟩) ?_ ?_
 rotate_left
 ·intro w'
  go_simp
  with_reducible rfl
 rotate_left
 ·simp only [puts_]
  rfl
 refine pure_ (i := 1) (N := some 51) (v := ?_) (a' := ?_) (bl 28 3) rfl rfl (any_of HT_.out (by kernel_rfl)) (fun _ _ _ h => h) (Or.inl ⟨by rfl, ?_⟩) ?_ ?_
 rotate_left
 ·intro w'
  go_simp
  with_reducible rfl
 rotate_left
 ·simp only [puts_]
  rfl
 refine pure_ (i := 2) (N := some 52) (v := ?_) (a' := ?_) (bl 28 7) rfl rfl (any_of HT_.out (by kernel_rfl)) (fun _ _ _ h => h) (Or.inl ⟨by rfl, ?_⟩) ?_ ?_
 rotate_left
 ·intro w'
  go_simp
  with_reducible rfl
 rotate_left
 ·simp only [puts_]
  rfl
 refine pure_ (i := 3) (N := some 53) (v := ?_) (a' := ?_) (bl 28 15) rfl rfl (any_of HT_.out (by kernel_rfl)) (fun _ _ _ h => h) (Or.inl ⟨by rfl, ?_⟩) ?_ ?_
 rotate_left
 ·intro w'
  go_simp
  with_reducible rfl
 rotate_left
 ·simp only [puts_]
  rfl
 refine pure_ (i := 4) (N := some 54) (v := ?_) (a' := ?_) (bl 28 31) rfl rfl (any_of HT_.out (by kernel_rfl)) (fun _ _ _ h => h) (Or.inl ⟨by rfl, ?_⟩) ?_ ?_
 rotate_left
 ·intro w'
  go_simp
  with_reducible rfl
 rotate_left
 ·simp only [puts_]
  rfl
 refine take_ (i := 5) (N := some 55) (v := ?_) (a' := ?_) (bl 28 63) rfl rfl (take_ofW HT_.out HW_.out (by kernel_rfl)) (fun _ _ _ h => h) (Or.inl ⟨by rfl, ?_⟩) hHeld ?_ ?_
 rotate_left
 ·rintro w' ⟨s0, s1, s2, s3⟩
  go_simp
  with_reducible rfl
 rotate_left
 ·simp only [puts_]
  rfl
 refine pure_ (i := 6) (N := some 56) (v := ?_) (a' := ?_) (bl 28 127) rfl rfl (any_of HT_.out (by kernel_rfl)) (fun _ _ _ h => h) (Or.inl ⟨by rfl, ?_⟩) ?_ ?_
 rotate_left
 ·intro w'
  go_simp
  with_reducible rfl
 rotate_left
 ·simp only [puts_]
  rfl
 refine pure_ (i := 7) (N := some 57) (v := ?_) (a' := ?_) (bl 28 255) rfl rfl (any_of HT_.out (by kernel_rfl)) (fun _ _ _ h => h) (Or.inl ⟨by rfl, ?_⟩) ?_ ?_
 rotate_left
 ·intro w'
  go_simp
  with_reducible rfl
 rotate_left
 ·simp only [puts_]
  rfl
 refine pure_ (i := 8) (N := some 58) (v := ?_) (a' := ?_) (bl 28 511) rfl rfl (any_of HT_.out (by kernel_rfl)) (fun _ _ _ h => h) (Or.inl ⟨by rfl, ?_⟩) ?_ ?_
 rotate_left
 ·intro w'
  go_simp
  with_reducible rfl
 rotate_left
 ·simp only [puts_]
  rfl
 refine take_ (i := 9) (N := some 59) (v := ?_) (a' := ?_) (bl 28 1023) rfl rfl (take_ofW HT_.out HW_.out (by kernel_rfl)) (fun _ _ _ h => h) (Or.inl ⟨by rfl, ?_⟩) hHeld ?_ ?_
 rotate_left
 ·rintro w' ⟨s0, s1, s2, s3⟩
  go_simp
  with_reducible rfl
 rotate_left
 ·simp only [puts_]
  rfl
 refine pure_ (i := 12) (N := some 62) (v := ?_) (a' := ?_) (bl 28 5119) rfl rfl (any_of HT_.out (by kernel_rfl)) (fun _ _ _ h => h) (Or.inl ⟨by rfl, ?_⟩) ?_ ?_
 rotate_left
 ·intro w'
  go_simp
  with_reducible rfl
 rotate_left
 ·simp only [puts_]
  rfl
 refine pure_ (i := 13) (N := some 63) (v := ?_) (a' := ?_) (bl 28 13311) rfl rfl (any_of HT_.out (by kernel_rfl)) (fun _ _ _ h => h) (Or.inl ⟨by rfl, ?_⟩) ?_ ?_
 rotate_left
 ·intro w'
  go_simp
  with_reducible rfl
 rotate_left
 ·simp only [puts_]
  rfl
 refine pure_ (i := 14) (N := some 64) (v := ?_) (a' := ?_) (bl 28 29695) rfl rfl (any_of HT_.out (by kernel_rfl)) (fun _ _ _ h => h) (Or.inl ⟨by rfl, ?_⟩) ?_ ?_
 rotate_left
 ·intro w'
  go_simp
  with_reducible rfl
 rotate_left
 ·simp only [puts_]
  rfl
 refine take_ (i := 15) (N := some 65) (v := ?_) (a' := ?_) (bl 28 62463) rfl rfl (take_ofW HT_.out HW_.out (by kernel_rfl)) (fun _ _ _ h => h) (Or.inl ⟨by rfl, ?_⟩) hHeld ?_ ?_
 rotate_left
 ·rintro w' ⟨s0, s1, s2, s3⟩
  go_simp
  with_reducible rfl
 rotate_left
 ·simp only [puts_]
  rfl
 refine pure_ (i := 16) (N := some 66) (v := ?_) (a' := ?_) (bl 28 127999) rfl rfl (any_of HT_.out (by kernel_rfl)) (fun _ _ _ h => h) (Or.inl ⟨by rfl, ?_⟩) ?_ ?_
 rotate_left
 ·intro w'
  go_simp
  with_reducible rfl
 rotate_left
 ·simp only [puts_]
  rfl
 refine pure_ (i := 17) (N := some 67) (v := ?_) (a' := ?_) (bl 28 259071) rfl rfl (any_of HT_.out (by kernel_rfl)) (fun _ _ _ h => h) (Or.inl ⟨by rfl, ?_⟩) ?_ ?_
 rotate_left
 ·intro w'
  go_simp
  with_reducible rfl
 rotate_left
 ·simp only [puts_]
  rfl
 refine pure_ (i := 18) (N := some 68) (v := ?_) (a' := ?_) (bl 28 521215) rfl rfl (any_of HT_.out (by kernel_rfl)) (fun _ _ _ h => h) (Or.inl ⟨by rfl, ?_⟩) ?_ ?_
 rotate_left
 ·intro w'
  go_simp
  with_reducible rfl
 rotate_left
 ·simp only [puts_]
  rfl
 refine take_ (i := 19) (N := some 69) (v := ?_) (a' := ?_) (bl 28 1045503) rfl rfl (take_ofW HT_.out HW_.out (by kernel_rfl)) (fun _ _ _ h => h) (Or.inl ⟨by rfl, ?_⟩) hHeld ?_ ?_
 rotate_left
 ·rintro w' ⟨s0, s1, s2, s3⟩
  go_simp
  with_reducible rfl
 rotate_left
 ·simp only [puts_]
  rfl
 refine join_ (σ := Value × Nat × Nat) 7 #[true, true, true, true, true, true, true, true, true, true, true, true, true, true, true, true, true, true, true, true, true, false, false, false, false, false, false, false] (fun s_ => [(60, .slice (some ⟨s_.2.1, 0, none⟩) 1 1), (61, s_.1), (70, .slice (some ⟨s_.2.2, 0, none⟩) 1 1)]) (fun s_ w' => (w'.cell? ⟨g, 3, none⟩ = some (.int .i64 t209) ∧ w'.cell? ⟨g, 4, none⟩ = some (.int .i64 t210) ∧ w'.cell? ⟨g, 5, none⟩ = some (.slice A5 s0_5.length c5) ∧ w'.cell? ⟨g, 6, none⟩ = some (.slice A6 s0_6.length c6)) ∧ TF P w0 w w' g #[.int .i64 s0_0, .int .i64 s0_1, .int .i64 t208, .int .i64 t209, .int .i64 t210, .slice A5 s0_5.length c5, .slice A6 s0_6.length c6, .int .i64 s0_7] s_.1 (s0_5 ++ [t210]) (.slice A6 s0_6.length c6) s0_6 ∧ w'.cell? ⟨s_.2.2, 0, none⟩ = some (.int .i64 t209)) ?_ ?_
 rotate_left
 ·intro hCont
  refine two_ (i := 10) (j := 20) (Ni := some 60) (Nj := some 70) (bl 28 1046527) (bl 28 2094079) rfl rfl rfl rfl (two_of HT_.out (by kernel_rfl)) (by decide) (by decide) (fun K hK => ?_) (fun K hK => ?_)
  ·refine value_ (v := .slice (some ⟨w8.heap.size, 0, none⟩) 1 1) (w1 := w8.alloc (.cells #[.int .i64 t210] 2)) (by rfl) rfl (by first | (go_simp; done) | (go_simp; rfl)) ?_
   have n1_ : (w8.alloc (.cells #[.int .i64 t210] 2)).cell? ⟨w8.heap.size, 0, none⟩ = some (.int .i64 t210) := (blk_cell (t := 2) (blk_new w8 (.cells #[.int .i64 t210] 2)) 0).trans rfl
   have n2_ := TF.lt5 HT.out
   have n0_ := Aside0.mk (TF.alloc HT.out (.cells #[.int .i64 t210] 2))
   clear HT
   have HT := n0_
   clear n0_
   generalize hE_ : w8.heap.size = b1 at n1_ n2_ ⊢
   clear hE_
   generalize (w8.alloc (.cells #[.int .i64 t210] 2)) = wb1 at HT n1_  ⊢
   have Hb1 := Aside0.mk n1_
   have Nb1 := Aside0.mk n2_
   clear n1_ n2_
   refine hK.out _ _ ⟨(blk_cell HT.out.1 3).trans rfl, (blk_cell HT.out.1 4).trans rfl, (blk_cell HT.out.1 5).trans rfl, (blk_cell HT.out.1 6).trans rfl⟩ (fun hHeld => ?_)
   clear hK K
   refine norm_ (a' := ?_) ?_ ?_
   rotate_left
   ·show Act.put _ (some 60) _ = _
    simp only [puts_]
    rfl
   refine two_ (i := 11) (j := 20) (Ni := some 61) (Nj := some 70) (bl 28 1048575) (bl 28 2095103) rfl rfl rfl rfl (two_of HT_.out (by kernel_rfl)) (by decide) (by decide) (fun K hK => ?_) (fun K hK => ?_)
   ·obtain ⟨v1, wb2, hr, hT1, hg⟩ := TF.app5 HT.out 22 t210 b1 Hb1.out HLN.out.2
    have n0_ := Aside0.mk hT1
    refine app_step (by rfl) (.tmp 55) (.tmp 60) rfl rfl rfl hr ?_
    clear HT hT1 hg hr
    have HT := n0_
    clear n0_
    refine hK.out _ _ ⟨(blk_cell HT.out.1 3).trans rfl, (blk_cell HT.out.1 4).trans rfl, (blk_cell HT.out.1 5).trans rfl, (blk_cell HT.out.1 6).trans rfl⟩ (fun hHeld => ?_)
    clear hK K
    refine norm_ (a' := ?_) ?_ ?_
    rotate_left
    ·show Act.put _ (some 61) _ = _
     simp only [puts_]
     rfl
    refine one_ (i := 20) (N := some 70) (bl 28 2097151) rfl rfl (one_of HT_.out (by kernel_rfl)) (by decide) (fun K hK => ?_)
    refine value_ (v := .slice (some ⟨wb2.heap.size, 0, none⟩) 1 1) (w1 := wb2.alloc (.cells #[.int .i64 t209] 2)) (by rfl) rfl (by first | (go_simp; done) | (go_simp; rfl)) ?_
    have n1_ : (wb2.alloc (.cells #[.int .i64 t209] 2)).cell? ⟨wb2.heap.size, 0, none⟩ = some (.int .i64 t209) := (blk_cell (t := 2) (blk_new wb2 (.cells #[.int .i64 t209] 2)) 0).trans rfl
    have n2_ := TF.lt5 HT.out
    have n0_ := Aside0.mk (TF.alloc HT.out (.cells #[.int .i64 t209] 2))
    clear HT
    have HT := n0_
    clear n0_
    generalize hE_ : wb2.heap.size = b2 at n1_ n2_ ⊢
    clear hE_
    generalize (wb2.alloc (.cells #[.int .i64 t209] 2)) = wb3 at HT n1_  ⊢
    have Hb2 := Aside0.mk n1_
    have Nb2 := Aside0.mk n2_
    clear n1_ n2_
    refine hK.out _ _ ⟨(blk_cell HT.out.1 3).trans rfl, (blk_cell HT.out.1 4).trans rfl, (blk_cell HT.out.1 5).trans rfl, (blk_cell HT.out.1 6).trans rfl⟩ (fun hHeld => ?_)
    clear hK K
    refine norm_ (a' := ?_) ?_ ?_
    rotate_left
    ·show Act.put _ (some 70) _ = _
     simp only [puts_]
     rfl
    exact norm_ (by simp only [putAll, Act.put, List.setIfInBounds_toArray, List.set_cons_zero, List.set_cons_succ]) (hCont (v1, b1, b2) _ ⟨hHeld, HT.out, Hb2.out⟩)
   ·refine value_ (v := .slice (some ⟨wb1.heap.size, 0, none⟩) 1 1) (w1 := wb1.alloc (.cells #[.int .i64 t209] 2)) (by rfl) rfl (by first | (go_simp; done) | (go_simp; rfl)) ?_
    have n1_ : (wb1.alloc (.cells #[.int .i64 t209] 2)).cell? ⟨wb1.heap.size, 0, none⟩ = some (.int .i64 t209) := (blk_cell (t := 2) (blk_new wb1 (.cells #[.int .i64 t209] 2)) 0).trans rfl
    have n2_ := TF.lt5 HT.out
    have n0_ := Aside0.mk (TF.alloc HT.out (.cells #[.int .i64 t209] 2))
    have mHb1 := Aside0.mk (pw_cell_below (below_alloc (Below.refl wb1.heap.size wb1) (.cells #[.int .i64 t209] 2)) Hb1.out)
    clear HT
    have HT := n0_
    clear n0_
    clear Hb1
    have Hb1 := mHb1
    clear mHb1
    generalize hE_ : wb1.heap.size = b2 at n1_ n2_ ⊢
    clear hE_
    generalize (wb1.alloc (.cells #[.int .i64 t209] 2)) = wb4 at HT n1_ Hb1 ⊢
    have Hb2 := Aside0.mk n1_
    have Nb2 := Aside0.mk n2_
    clear n1_ n2_
    refine hK.out _ _ ⟨(blk_cell HT.out.1 3).trans rfl, (blk_cell HT.out.1 4).trans rfl, (blk_cell HT.out.1 5).trans rfl, (blk_cell HT.out.1 6).trans rfl⟩ (fun hHeld => ?_)
    clear hK K
    refine norm_ (a' := ?_) ?_ ?_
    rotate_left
    ·show Act.put _ (some 70) _ = _
     simp only [puts_]
     rfl
    refine one_ (i := 11) (N := some 61) (bl 28 2097151) rfl rfl (one_of HT_.out (by kernel_rfl)) (by decide) (fun K hK => ?_)
    obtain ⟨v1, wb5, hr, hT1, hg⟩ := TF.app5 HT.out 22 t210 b1 Hb1.out HLN.out.2
    have n0_ := Aside0.mk hT1
    have n1_ := Aside0.mk (cell_grown hg Hb2.out Nb2.out)
    clear Hb2
    have Hb2 := n1_
    clear n1_
    refine app_step (by rfl) (.tmp 55) (.tmp 60) rfl rfl rfl hr ?_
    clear HT hT1 hg hr
    have HT := n0_
    clear n0_
    refine hK.out _ _ ⟨(blk_cell HT.out.1 3).trans rfl, (blk_cell HT.out.1 4).trans rfl, (blk_cell HT.out.1 5).trans rfl, (blk_cell HT.out.1 6).trans rfl⟩ (fun hHeld => ?_)
    clear hK K
    refine norm_ (a' := ?_) ?_ ?_
    rotate_left
    ·show Act.put _ (some 61) _ = _
     simp only [puts_]
     rfl
    exact norm_ (by simp only [putAll, Act.put, List.setIfInBounds_toArray, List.set_cons_zero, List.set_cons_succ]) (hCont (v1, b1, b2) _ ⟨hHeld, HT.out, Hb2.out⟩)
  ·refine value_ (v := .slice (some ⟨w8.heap.size, 0, none⟩) 1 1) (w1 := w8.alloc (.cells #[.int .i64 t209] 2)) (by rfl) rfl (by first | (go_simp; done) | (go_simp; rfl)) ?_
   have n1_ : (w8.alloc (.cells #[.int .i64 t209] 2)).cell? ⟨w8.heap.size, 0, none⟩ = some (.int .i64 t209) := (blk_cell (t := 2) (blk_new w8 (.cells #[.int .i64 t209] 2)) 0).trans rfl
   have n2_ := TF.lt5 HT.out
   have n0_ := Aside0.mk (TF.alloc HT.out (.cells #[.int .i64 t209] 2))
   clear HT
   have HT := n0_
   clear n0_
   generalize hE_ : w8.heap.size = b2 at n1_ n2_ ⊢
   clear hE_
   generalize (w8.alloc (.cells #[.int .i64 t209] 2)) = wb6 at HT n1_  ⊢
   have Hb2 := Aside0.mk n1_
   have Nb2 := Aside0.mk n2_
   clear n1_ n2_
   refine hK.out _ _ ⟨(blk_cell HT.out.1 3).trans rfl, (blk_cell HT.out.1 4).trans rfl, (blk_cell HT.out.1 5).trans rfl, (blk_cell HT.out.1 6).trans rfl⟩ (fun hHeld => ?_)
   clear hK K
   refine norm_ (a' := ?_) ?_ ?_
   rotate_left
   ·show Act.put _ (some 70) _ = _
    simp only [puts_]
    rfl
   refine one_ (i := 10) (N := some 60) (bl 28 2095103) rfl rfl (one_of HT_.out (by kernel_rfl)) (by decide) (fun K hK => ?_)
   refine value_ (v := .slice (some ⟨wb6.heap.size, 0, none⟩) 1 1) (w1 := wb6.alloc (.cells #[.int .i64 t210] 2)) (by rfl) rfl (by first | (go_simp; done) | (go_simp; rfl)) ?_
   have n1_ : (wb6.alloc (.cells #[.int .i64 t210] 2)).cell? ⟨wb6.heap.size, 0, none⟩ = some (.int .i64 t210) := (blk_cell (t := 2) (blk_new wb6 (.cells #[.int .i64 t210] 2)) 0).trans rfl
   have n2_ := TF.lt5 HT.out
   have n0_ := Aside0.mk (TF.alloc HT.out (.cells #[.int .i64 t210] 2))
   have mHb2 := Aside0.mk (pw_cell_below (below_alloc (Below.refl wb6.heap.size wb6) (.cells #[.int .i64 t210] 2)) Hb2.out)
   clear HT
   have HT := n0_
   clear n0_
   clear Hb2
   have Hb2 := mHb2
   clear mHb2
   generalize hE_ : wb6.heap.size = b1 at n1_ n2_ ⊢
   clear hE_
   generalize (wb6.alloc (.cells #[.int .i64 t210] 2)) = wb7 at HT n1_ Hb2 ⊢
   have Hb1 := Aside0.mk n1_
   have Nb1 := Aside0.mk n2_
   clear n1_ n2_
   refine hK.out _ _ ⟨(blk_cell HT.out.1 3).trans rfl, (blk_cell HT.out.1 4).trans rfl, (blk_cell HT.out.1 5).trans rfl, (blk_cell HT.out.1 6).trans rfl⟩ (fun hHeld => ?_)
   clear hK K
   refine norm_ (a' := ?_) ?_ ?_
   rotate_left
   ·show Act.put _ (some 60) _ = _
    simp only [puts_]
    rfl
   refine one_ (i := 11) (N := some 61) (bl 28 2097151) rfl rfl (one_of HT_.out (by kernel_rfl)) (by decide) (fun K hK => ?_)
   obtain ⟨v1, wb8, hr, hT1, hg⟩ := TF.app5 HT.out 22 t210 b1 Hb1.out HLN.out.2
   have n0_ := Aside0.mk hT1
   have n1_ := Aside0.mk (cell_grown hg Hb2.out Nb2.out)
   clear Hb2
   have Hb2 := n1_
   clear n1_
   refine app_step (by rfl) (.tmp 55) (.tmp 60) rfl rfl rfl hr ?_
   clear HT hT1 hg hr
   have HT := n0_
   clear n0_
   refine hK.out _ _ ⟨(blk_cell HT.out.1 3).trans rfl, (blk_cell HT.out.1 4).trans rfl, (blk_cell HT.out.1 5).trans rfl, (blk_cell HT.out.1 6).trans rfl⟩ (fun hHeld => ?_)
   clear hK K
   refine norm_ (a' := ?_) ?_ ?_
   rotate_left
   ·show Act.put _ (some 61) _ = _
    simp only [puts_]
    rfl
   exact norm_ (by simp only [putAll, Act.put, List.setIfInBounds_toArray, List.set_cons_zero, List.set_cons_succ]) (hCont (v1, b1, b2) _ ⟨hHeld, HT.out, Hb2.out⟩)
 rintro ⟨v1, b1, b2⟩ w9 ⟨hHeld, hT1, hb2⟩
 clear HT
 have HT := Aside0.mk hT1
 have Hb2 := Aside0.mk hb2
 clear hT1 hb2
 try dsimp only at HT Hb2 hHeld
 refine norm_ (a' := ?_) ?_ ?_
 rotate_left
 ·simp only [putAll, Act.put, List.setIfInBounds_toArray, List.set_cons_zero, List.set_cons_succ]
  rfl
 refine one_ (i := 21) (N := some 71) (bl 28 4194303) rfl rfl (one_of HT_.out (by kernel_rfl)) (by decide) (fun K hK => ?_)
 obtain ⟨v2, w10, hr, hT1⟩ := TF.app6 HT.out 22 t209 b2 Hb2.out (by have := HLN.out; omega)
 refine app_step (by rfl) (.tmp 65) (.tmp 70) rfl rfl rfl hr ?_
 clear HT Hb2 hr
 obtain ⟨D5, d5, hv5, _⟩ := Kd.Q_slice hT1.2.2.2.2.1
 obtain ⟨D6, d6, hv6, _⟩ := Kd.Q_slice hT1.2.2.2.2.2.1
 subst hv5 hv6
 have HT := Aside0.mk hT1
 clear hT1
 generalize hX : (s0_5 ++ [t210]) = X5 at HT HH ⊢
 generalize hY : (s0_6 ++ [t209]) = X6 at HT HH ⊢
 have hXY : Aside0 (X5.length = X6.length) := ⟨by rw [← hX, ← hY, List.length_append, List.length_append, HLN.out.1]; rfl⟩
 clear hX hY HLN
 refine hK.out _ _ ⟨(blk_cell HT.out.1 3).trans rfl, (blk_cell HT.out.1 4).trans rfl, (blk_cell HT.out.1 5).trans rfl, (blk_cell HT.out.1 6).trans rfl⟩ (fun hHeld => ?_)
 clear hK K
 refine norm_ (a' := ?_) ?_ ?_
 rotate_left
 ·show Act.put _ (some 71) _ = _
  simp only [puts_]
  rfl
 refine pure_ (i := 22) (N := some 72) (v := ?_) (a' := ?_) (bl 28 8388607) rfl rfl (any_of HT_.out (by kernel_rfl)) (fun _ _ _ h => h) (Or.inl ⟨by rfl, ?_⟩) ?_ ?_
 rotate_left
 ·intro w'
  go_simp
  with_reducible rfl
 rotate_left
 ·simp only [puts_]
  rfl
 refine pure_ (i := 23) (N := some 73) (v := ?_) (a' := ?_) (bl 28 16777215) rfl rfl (any_of HT_.out (by kernel_rfl)) (fun _ _ _ h => h) (Or.inl ⟨by rfl, ?_⟩) ?_ ?_
 rotate_left
 ·intro w'
  go_simp
  with_reducible rfl
 rotate_left
 ·simp only [puts_]
  rfl
 refine last_ (i := 24) (N := none) (bl 28 33554431) rfl rfl (one_of HT_.out (by kernel_rfl)) (by decide) (fun K hK => ?_)
 have hs_ : w10.cell? ⟨g, 5, none⟩ = some (.slice A5 s0_5.length c5) := (blk_cell HT.out.1 5).trans rfl
 have hfs_ := blk_frozen HT.out.1 5
 refine skip_ (w1 := ?_) (by rfl) rfl ?_ ?_
 rotate_left
 ·go_simp
  rfl
 have n0_ : Aside0 (TF P w0 w (w10.setCell ⟨g, 5, none⟩ (.slice D5 X5.length d5)) g #[.int .i64 s0_0, .int .i64 s0_1, .int .i64 t208, .int .i64 t209, .int .i64 t210, .slice D5 X5.length d5, .slice A6 s0_6.length c6, .int .i64 s0_7] (.slice D5 X5.length d5) X5 (.slice D6 X6.length d6) X6) := ⟨HT.out.set 5 _⟩
 clear HT hs_ hfs_
 have HT := n0_
 clear n0_
 generalize (w10.setCell ⟨g, 5, none⟩ (.slice D5 X5.length d5)) = w11 at HT ⊢
 refine hK.out _ _ ?_
 clear hK K
 refine pure_ (i := 25) (N := some 74) (v := ?_) (a' := ?_) (bl 28 67108863) rfl rfl (any_of HT_.out (by kernel_rfl)) (fun _ _ _ h => h) (Or.inl ⟨by rfl, ?_⟩) ?_ ?_
 rotate_left
 ·intro w'
  go_simp
  with_reducible rfl
 rotate_left
 ·simp only [puts_]
  rfl
 refine pure_ (i := 26) (N := some 75) (v := ?_) (a' := ?_) (bl 28 134217727) rfl rfl (any_of HT_.out (by kernel_rfl)) (fun _ _ _ h => h) (Or.inl ⟨by rfl, ?_⟩) ?_ ?_
 rotate_left
 ·intro w'
  go_simp
  with_reducible rfl
 rotate_left
 ·simp only [puts_]
  rfl
 refine last_ (i := 27) (N := none) (bl 28 268435455) rfl rfl (one_of HT_.out (by kernel_rfl)) (by decide) (fun K hK => ?_)
 have hs_ : w11.cell? ⟨g, 6, none⟩ = some (.slice A6 s0_6.length c6) := (blk_cell HT.out.1 6).trans rfl
 have hfs_ := blk_frozen HT.out.1 6
 refine skip_ (w1 := ?_) (by rfl) rfl ?_ ?_
 rotate_left
 ·go_simp
  rfl
 have n0_ : Aside0 (TF P w0 w (w11.setCell ⟨g, 6, none⟩ (.slice D6 X6.length d6)) g #[.int .i64 s0_0, .int .i64 s0_1, .int .i64 t208, .int .i64 t209, .int .i64 t210, .slice D5 X5.length d5, .slice D6 X6.length d6, .int .i64 s0_7] (.slice D5 X5.length d5) X5 (.slice D6 X6.length d6) X6) := ⟨HT.out.set 6 _⟩
 clear HT hs_ hfs_
 have HT := n0_
 clear n0_
 generalize (w11.setCell ⟨g, 6, none⟩ (.slice D6 X6.length d6)) = w12 at HT ⊢
 refine hK.out _ _ ?_
 clear hK K
 refine done_ (done_of HT_.out (by kernel_rfl)) ?_
 clear hHeld HT_ HW_
 obtain ⟨nn, hnn⟩ : ∃ n_ : Int, wrap64 ((X5.length : Int) - s0_0) = n_ := ⟨_, rfl⟩
 rw [hnn] at HH
 try go_wp2
 have n0_ := Aside0.mk (TF.drew HT.out)
 clear HT
 have HT := n0_
 clear n0_
 refine start_ (n := 11) (S := fun w' => w'.cell? ⟨g, 0, none⟩ = some (.int .i64 s0_0) ∧ w'.cell? ⟨g, 5, none⟩ = some (.slice D5 X5.length d5) ∧ w'.cell? ⟨g, 6, none⟩ = some (.slice D6 X6.length d6)) (ds := []) #[false, false, false, false, false, false, false, false, false, false, false] (by kernel_rfl) rfl rfl ⟨(blk_cell HT.out.1 0).trans rfl, (blk_cell HT.out.1 5).trans rfl, (blk_cell HT.out.1 6).trans rfl⟩ (fun hHeld => ?_); refine with_tabW trend_Trend_Add.tab9 trend_Trend_Add.bits9 (fun HT_ HW_ => ?_)
 generalize World.drew w12 = w13 at HT hHeld ⊢
 refine pure_ (i := 0) (N := some 76) (v := ?_) (a' := ?_) (bl 11 1) rfl rfl (any_of HT_.out (by kernel_rfl)) (fun _ _ _ h => h) (Or.inl ⟨by rfl, ?_⟩) ?_ ?_
 rotate_left
 ·intro w'
  go_simp
  with_reducible rfl
 rotate_left
 ·simp only [puts_]
  rfl
 refine pure_ (i := 1) (N := some 77) (v := ?_) (a' := ?_) (bl 11 3) rfl rfl (any_of HT_.out (by kernel_rfl)) (fun _ _ _ h => h) (Or.inl ⟨by rfl, ?_⟩) ?_ ?_
 rotate_left
 ·intro w'
  go_simp
  with_reducible rfl
 rotate_left
 ·simp only [puts_]
  rfl
 refine pure_ (i := 2) (N := some 78) (v := ?_) (a' := ?_) (bl 11 7) rfl rfl (any_of HT_.out (by kernel_rfl)) (fun _ _ _ h => h) (Or.inl ⟨by rfl, ?_⟩) ?_ ?_
 rotate_left
 ·intro w'
  go_simp
  with_reducible rfl
 rotate_left
 ·simp only [puts_]
  rfl
 refine take_ (i := 3) (N := some 79) (v := ?_) (a' := ?_) (bl 11 15) rfl rfl (take_ofW HT_.out HW_.out (by kernel_rfl)) (fun _ _ _ h => h) (Or.inl ⟨by rfl, ?_⟩) hHeld ?_ ?_
 rotate_left
 ·rintro w' ⟨s0, s1, s2⟩
  go_simp
  with_reducible rfl
 rotate_left
 ·simp only [puts_]
  rfl
 refine pure_ (i := 4) (N := some 80) (v := ?_) (a' := ?_) (bl 11 31) rfl rfl (any_of HT_.out (by kernel_rfl)) (fun _ _ _ h => h) (Or.inl ⟨by rfl, ?_⟩) ?_ ?_
 rotate_left
 ·intro w'
  go_simp
  with_reducible rfl
 rotate_left
 ·simp only [puts_]
  rfl
 refine pure_ (i := 5) (N := some 81) (v := ?_) (a' := ?_) (bl 11 63) rfl rfl (any_of HT_.out (by kernel_rfl)) (fun _ _ _ h => h) (Or.inl ⟨by rfl, ?_⟩) ?_ ?_
 rotate_left
 ·intro w'
  go_simp
  with_reducible rfl
 rotate_left
 ·simp only [puts_]
  rfl
 refine pure_ (i := 6) (N := some 82) (v := ?_) (a' := ?_) (bl 11 127) rfl rfl (any_of HT_.out (by kernel_rfl)) (fun _ _ _ h => h) (Or.inl ⟨by rfl, ?_⟩) ?_ ?_
 rotate_left
 ·intro w'
  go_simp
  with_reducible rfl
 rotate_left
 ·simp only [puts_]
  rfl
 refine pure_ (i := 7) (N := some 83) (v := ?_) (a' := ?_) (bl 11 255) rfl rfl (any_of HT_.out (by kernel_rfl)) (fun _ _ _ h => h) (Or.inl ⟨by rfl, ?_⟩) ?_ ?_
 rotate_left
 ·intro w'
  go_simp
  with_reducible rfl
 rotate_left
 ·simp only [puts_]
  rfl
 refine take_ (i := 8) (N := some 84) (v := ?_) (a' := ?_) (bl 11 511) rfl rfl (take_ofW HT_.out HW_.out (by kernel_rfl)) (fun _ _ _ h => h) (Or.inl ⟨by rfl, ?_⟩) hHeld ?_ ?_
 rotate_left
 ·rintro w' ⟨s0, s1, s2⟩
  go_simp
  with_reducible rfl
 rotate_left
 ·simp only [puts_]
  rfl
 refine pure_ (i := 9) (N := some 85) (v := ?_) (a' := ?_) (bl 11 1023) rfl rfl (any_of HT_.out (by kernel_rfl)) (fun _ _ _ h => h) (Or.inl ⟨by rfl, ?_⟩) ?_ ?_
 rotate_left
 ·intro w'
  go_simp
  with_reducible rfl
 rotate_left
 ·simp only [puts_]
  rfl
 refine pure_ (i := 10) (N := some 7) (v := ?_) (a' := ?_) (bl 11 2047) rfl rfl (any_of HT_.out (by kernel_rfl)) (fun _ _ _ h => h) (Or.inl ⟨by rfl, ?_⟩) ?_ ?_
 rotate_left
 ·intro w'
  go_simp
  with_reducible rfl
 rotate_left
 ·simp only [puts_]
  rfl
 refine done_ (done_of HT_.out (by kernel_rfl)) ?_
 clear hHeld HT_ HW_
 try rw [hnn]
 clear hnn
 by_cases c9 : 0 < nn
 ·rw [if_pos c9] at HH
  have c9b0 : decide (0 < nn) = true := decide_eq_true c9
  by_cases c10 : nn ≤ (X5.length : Int)
  rotate_left
  ·have H := HH.out; rw [if_neg c10] at H; exact absurd H (by simp)
  rw [if_pos c10] at HH
  try go_wp2
  obtain ⟨i2, hi2, hzz⟩ := Option.map_eq_some_iff.1 (show (Try.prog.info? 2).map (fun i => i.size) = some 1 by kernel_rfl)
  have hm5 : nn.toNat ≤ X5.length := by omega
  have hm6 : nn.toNat ≤ X6.length := by have := hXY.out; omega
  have hcut5 : ∀ W_ : World, (Instr.slice 22 (.slice D5 X5.length d5) (some (.int .i64 nn)) none none).run Try.prog W_ = .ok (.slice (if d5 = nn.toNat then D5 else D5.map (·.add (nn.toNat * 1))) (X5.length - nn.toNat) (d5 - nn.toNat)) W_ := cut_from 22 2 .i64 Try.underlying22 hi2 1 hzz D5 X5.length d5 nn (by omega) (by omega)
  have hcut6 : ∀ W_ : World, (Instr.slice 22 (.slice D6 X6.length d6) (some (.int .i64 nn)) none none).run Try.prog W_ = .ok (.slice (if d6 = nn.toNat then D6 else D6.map (·.add (nn.toNat * 1))) (X6.length - nn.toNat) (d6 - nn.toNat)) W_ := cut_from 22 2 .i64 Try.underlying22 hi2 1 hzz D6 X6.length d6 nn (by omega) (by have := hXY.out; omega)
  have HT2 := Aside0.mk (TF.cut HT.out hm5 hm6)
  clear HT
  have HT := HT2
  clear HT2
  generalize hE5 : (if d5 = nn.toNat then D5 else D5.map (·.add (nn.toNat * 1))) = E5 at hcut5 HT
  generalize hE6 : (if d6 = nn.toNat then D6 else D6.map (·.add (nn.toNat * 1))) = E6 at hcut6 HT
  generalize hG5 : d5 - nn.toNat = e5 at hcut5 HT
  generalize hG6 : d6 - nn.toNat = e6 at hcut6 HT
  rw [show X5.length - nn.toNat = (X5.drop nn.toNat).length from List.length_drop.symm] at hcut5 HT
  rw [show X6.length - nn.toNat = (X6.drop nn.toNat).length from List.length_drop.symm] at hcut6 HT
  clear hE5 hE6 hG5 hG6 hm5 hm6
  generalize hZ5 : X5.drop nn.toNat = Z5 at HT HH hcut5
  generalize hZ6 : X6.drop nn.toNat = Z6 at HT HH hcut6
  have n0_ := Aside0.mk (TF.drew HT.out)
  clear HT
  have HT := n0_
  clear n0_
  refine start_ (n := 20) (S := fun w' => w'.cell? ⟨g, 0, none⟩ = some (.int .i64 s0_0) ∧ w'.cell? ⟨g, 5, none⟩ = some (.slice D5 X5.length d5) ∧ w'.cell? ⟨g, 6, none⟩ = some (.slice D6 X6.length d6)) (ds := [16, 19]) #[false, false, false, false, false, false, false, false, false, false, false, false, false, false, false, false, false, false, false, false] (by kernel_rfl) rfl rfl ⟨(blk_cell HT.out.1 0).trans rfl, (blk_cell HT.out.1 5).trans rfl, (blk_cell HT.out.1 6).trans rfl⟩ (fun hHeld => ?_); refine with_tabW trend_Trend_Add.tab11 trend_Trend_Add.bits11 (fun HT_ HW_ => ?_)
  generalize World.drew w13 = w14 at HT hHeld ⊢
  refine pure_ (i := 0) (N := some 88) (v := ?_) (a' := ?_) (bl 20 1) rfl rfl (any_of HT_.out (by kernel_rfl)) (fun _ _ _ h => h) (Or.inl ⟨by rfl, ?_⟩) ?_ ?_
  rotate_left
  ·intro w'
   go_simp
   with_reducible rfl
  rotate_left
  ·simp only [puts_]
   rfl
  refine pure_ (i := 1) (N := some 89) (v := ?_) (a' := ?_) (bl 20 3) rfl rfl (any_of HT_.out (by kernel_rfl)) (fun _ _ _ h => h) (Or.inl ⟨by rfl, ?_⟩) ?_ ?_
  rotate_left
  ·intro w'
   go_simp
   with_reducible rfl
  rotate_left
  ·simp only [puts_]
   rfl
  refine pure_ (i := 2) (N := some 90) (v := ?_) (a' := ?_) (bl 20 7) rfl rfl (any_of HT_.out (by kernel_rfl)) (fun _ _ _ h => h) (Or.inl ⟨by rfl, ?_⟩) ?_ ?_
  rotate_left
  ·intro w'
   go_simp
   with_reducible rfl
  rotate_left
  ·simp only [puts_]
   rfl
  refine pure_ (i := 3) (N := some 91) (v := ?_) (a' := ?_) (bl 20 15) rfl rfl (any_of HT_.out (by kernel_rfl)) (fun _ _ _ h => h) (Or.inl ⟨by rfl, ?_⟩) ?_ ?_
  rotate_left
  ·intro w'
   go_simp
   with_reducible rfl
  rotate_left
  ·simp only [puts_]
   rfl
  refine pure_ (i := 4) (N := some 92) (v := ?_) (a' := ?_) (bl 20 31) rfl rfl (any_of HT_.out (by kernel_rfl)) (fun _ _ _ h => h) (Or.inl ⟨by rfl, ?_⟩) ?_ ?_
  rotate_left
  ·intro w'
   go_simp
   with_reducible rfl
  rotate_left
  ·simp only [puts_]
   rfl
  refine take_ (i := 5) (N := some 93) (v := ?_) (a' := ?_) (bl 20 63) rfl rfl (take_ofW HT_.out HW_.out (by kernel_rfl)) (fun _ _ _ h => h) (Or.inl ⟨by rfl, ?_⟩) hHeld ?_ ?_
  rotate_left
  ·rintro w' ⟨s0, s1, s2⟩
   go_simp
   with_reducible rfl
  rotate_left
  ·simp only [puts_]
   rfl
  refine pure_ (i := 6) (N := some 94) (v := ?_) (a' := ?_) (bl 20 127) rfl rfl (any_of HT_.out (by kernel_rfl)) (fun _ _ _ h => h) (Or.inl ⟨by rfl, ?_⟩) ?_ ?_
  rotate_left
  ·intro w'
   go_simp
   with_reducible rfl
  rotate_left
  ·simp only [puts_]
   rfl
  refine pure_ (i := 7) (N := some 95) (v := ?_) (a' := ?_) (bl 20 255) rfl rfl (any_of HT_.out (by kernel_rfl)) (fun _ _ _ h => h) (Or.inl ⟨by rfl, ?_⟩) ?_ ?_
  rotate_left
  ·intro w'
   go_simp
   with_reducible rfl
  rotate_left
  ·simp only [puts_]
   rfl
  refine pure_ (i := 8) (N := some 96) (v := ?_) (a' := ?_) (bl 20 511) rfl rfl (any_of HT_.out (by kernel_rfl)) (fun _ _ _ h => h) (Or.inl ⟨by rfl, ?_⟩) ?_ ?_
  rotate_left
  ·intro w'
   go_simp
   with_reducible rfl
  rotate_left
  ·simp only [puts_]
   rfl
  refine pure_ (i := 9) (N := some 97) (v := ?_) (a' := ?_) (bl 20 1023) rfl rfl (any_of HT_.out (by kernel_rfl)) (fun _ _ _ h => h) (Or.inl ⟨by rfl, ?_⟩) ?_ ?_
  rotate_left
  ·intro w'
   go_simp
   with_reducible rfl
  rotate_left
  ·simp only [puts_]
   rfl
  refine pure_ (i := 10) (N := some 98) (v := ?_) (a' := ?_) (bl 20 2047) rfl rfl (any_of HT_.out (by kernel_rfl)) (fun _ _ _ h => h) (Or.inl ⟨by rfl, ?_⟩) ?_ ?_
  rotate_left
  ·intro w'
   go_simp
   with_reducible rfl
  rotate_left
  ·simp only [puts_]
   rfl
  refine take_ (i := 11) (N := some 99) (v := ?_) (a' := ?_) (bl 20 4095) rfl rfl (take_ofW HT_.out HW_.out (by kernel_rfl)) (fun _ _ _ h => h) (Or.inl ⟨by rfl, ?_⟩) hHeld ?_ ?_
  rotate_left
  ·rintro w' ⟨s0, s1, s2⟩
   go_simp
   with_reducible rfl
  rotate_left
  ·simp only [puts_]
   rfl
  refine pure_ (i := 12) (N := some 100) (v := ?_) (a' := ?_) (bl 20 8191) rfl rfl (any_of HT_.out (by kernel_rfl)) (fun _ _ _ h => h) (Or.inl ⟨by rfl, ?_⟩) ?_ ?_
  rotate_left
  ·intro w'
   go_simp
   with_reducible rfl
  rotate_left
  ·simp only [puts_]
   rfl
  refine pure_ (i := 13) (N := some 101) (v := ?_) (a' := ?_) (bl 20 16383) rfl rfl (any_of HT_.out (by kernel_rfl)) (fun _ _ _ h => h) (Or.inl ⟨by rfl, ?_⟩) ?_ ?_
  rotate_left
  ·intro w'
   go_simp
   with_reducible rfl
  rotate_left
  ·simp only [puts_]
   rfl
  refine pure_ (i := 14) (N := some 102) (v := ?_) (a' := ?_) (bl 20 32767) rfl rfl (any_of HT_.out (by kernel_rfl)) (fun _ _ _ h => h) (Or.inl ⟨by rfl, ?_⟩) ?_ ?_
  rotate_left
  ·intro w'
   go_simp
   with_reducible rfl
  rotate_left
  ·simp only [puts_]
   rfl
  refine pure_ (i := 15) (N := some 103) (v := ?_) (a' := ?_) (bl 20 65535) rfl rfl (any_of HT_.out (by kernel_rfl)) (fun _ _ _ h => h) (Or.inl ⟨by rfl, ?_⟩) ?_ ?_
  rotate_left
  ·intro w'
   go_simp
   with_reducible rfl
  rotate_left
  ·simp only [puts_]
   rfl
  refine last_ (i := 16) (N := none) (bl 20 131071) rfl rfl (one_of HT_.out (by kernel_rfl)) (by decide) (fun K hK => ?_)
  have hs_ : w14.cell? ⟨g, 5, none⟩ = some (.slice D5 X5.length d5) := (blk_cell HT.out.1 5).trans rfl
  have hfs_ := blk_frozen HT.out.1 5
  refine skip_ (w1 := ?_) (by rfl) rfl ?_ ?_
  rotate_left
  ·go_simp
   rfl
  have n0_ : Aside0 (TF P w0 w (w14.setCell ⟨g, 5, none⟩ (.slice E5 Z5.length e5)) g #[.int .i64 s0_0, .int .i64 s0_1, .int .i64 t208, .int .i64 t209, .int .i64 t210, .slice E5 Z5.length e5, .slice D6 X6.length d6, .int .i64 s0_7] (.slice E5 Z5.length e5) Z5 (.slice E6 Z6.length e6) Z6) := ⟨HT.out.set 5 _⟩
  clear HT hs_ hfs_
  have HT := n0_
  clear n0_
  generalize (w14.setCell ⟨g, 5, none⟩ (.slice E5 Z5.length e5)) = w16 at HT ⊢
  refine hK.out _ _ ?_
  clear hK K
  refine pure_ (i := 17) (N := some 104) (v := ?_) (a' := ?_) (bl 20 262143) rfl rfl (any_of HT_.out (by kernel_rfl)) (fun _ _ _ h => h) (Or.inl ⟨by rfl, ?_⟩) ?_ ?_
  rotate_left
  ·intro w'
   go_simp
   with_reducible rfl
  rotate_left
  ·simp only [puts_]
   rfl
  refine pure_ (i := 18) (N := some 105) (v := ?_) (a' := ?_) (bl 20 524287) rfl rfl (any_of HT_.out (by kernel_rfl)) (fun _ _ _ h => h) (Or.inl ⟨by rfl, ?_⟩) ?_ ?_
  rotate_left
  ·intro w'
   go_simp
   with_reducible rfl
  rotate_left
  ·simp only [puts_]
   rfl
  refine last_ (i := 19) (N := none) (bl 20 1048575) rfl rfl (one_of HT_.out (by kernel_rfl)) (by decide) (fun K hK => ?_)
  have hs_ : w16.cell? ⟨g, 6, none⟩ = some (.slice D6 X6.length d6) := (blk_cell HT.out.1 6).trans rfl
  have hfs_ := blk_frozen HT.out.1 6
  refine skip_ (w1 := ?_) (by rfl) rfl ?_ ?_
  rotate_left
  ·go_simp
   rfl
  have n0_ : Aside0 (TF P w0 w (w16.setCell ⟨g, 6, none⟩ (.slice E6 Z6.length e6)) g #[.int .i64 s0_0, .int .i64 s0_1, .int .i64 t208, .int .i64 t209, .int .i64 t210, .slice E5 Z5.length e5, .slice E6 Z6.length e6, .int .i64 s0_7] (.slice E5 Z5.length e5) Z5 (.slice E6 Z6.length e6) Z6) := ⟨HT.out.set 6 _⟩
  clear HT hs_ hfs_
  have HT := n0_
  clear n0_
  generalize (w16.setCell ⟨g, 6, none⟩ (.slice E6 Z6.length e6)) = w17 at HT ⊢
  refine hK.out _ _ ?_
  clear hK K
  refine done_ (done_of HT_.out (by kernel_rfl)) ?_
  clear hHeld HT_ HW_
  have hcq_0 := (blk_cell HT.out.1 0).trans rfl
  have hcq_1 := (blk_cell HT.out.1 1).trans rfl
  have hcq_2 := (blk_cell HT.out.1 2).trans rfl
  have hcq_3 := (blk_cell HT.out.1 3).trans rfl
  have hcq_4 := (blk_cell HT.out.1 4).trans rfl
  have hcq_5 := (blk_cell HT.out.1 5).trans rfl
  have hcq_6 := (blk_cell HT.out.1 6).trans rfl
  have hcq_7 := (blk_cell HT.out.1 7).trans rfl
  have hfq_0 := blk_frozen HT.out.1 0
  have hfq_1 := blk_frozen HT.out.1 1
  have hfq_2 := blk_frozen HT.out.1 2
  have hfq_3 := blk_frozen HT.out.1 3
  have hfq_4 := blk_frozen HT.out.1 4
  have hfq_5 := blk_frozen HT.out.1 5
  have hfq_6 := blk_frozen HT.out.1 6
  have hfq_7 := blk_frozen HT.out.1 7
  go_wp2_with (first | ((with_reducible refine gate_callee (f := 18) rfl ?_); refine goesL_ (some 116) rfl rfl Try.func18 (by kernel_rfl) rfl #[.pointer (some ⟨g, 0, none⟩)] rfl (by (try simp only [List.map_toArray, List.map_cons, List.map_nil]); first | done | rfl) ?_; have n0_ : TF P w0 w (w17.setCell ⟨g, 7, none⟩ (.int .i64 cnt)) g #[.int .i64 s0_0, .int .i64 s0_1, .int .i64 t208, .int .i64 t209, .int .i64 t210, .slice E5 Z5.length e5, .slice E6 Z6.length e6, .int .i64 cnt] (.slice E5 Z5.length e5) Z5 (.slice E6 Z6.length e6) Z6 := HT.out.set 7 _; (refine (trend_Trend_Slope.callsP P k g s0_0 s0_1 t208 t209 t210 Z5 Z6 cnt r1 r2 r3 r4 r5 r6 r7 r8 r9 w0 _ (fun j hj => hPf j (Nat.le_trans n0_.2.2.2.2.2.2.2.1 hj)) (TF.to_state n0_) n0_.2.2.2.2.2.2.1 HH.out).mono ?_); rintro e w15 ⟨rfl, hi, hb, hk⟩; refine ⟨_, rfl, ?_⟩))
  go_ret
  exact ⟨rfl, hi, hb, n0_.2.2.2.2.2.2.2.then_ hk (fun _ h => .inl h)⟩
 ·rw [if_neg c9] at HH
  have c9b0 : decide (0 < nn) = false := decide_eq_false c9
  have hcq_0 := (blk_cell HT.out.1 0).trans rfl
  have hcq_1 := (blk_cell HT.out.1 1).trans rfl
  have hcq_2 := (blk_cell HT.out.1 2).trans rfl
  have hcq_3 := (blk_cell HT.out.1 3).trans rfl
  have hcq_4 := (blk_cell HT.out.1 4).trans rfl
  have hcq_5 := (blk_cell HT.out.1 5).trans rfl
  have hcq_6 := (blk_cell HT.out.1 6).trans rfl
  have hcq_7 := (blk_cell HT.out.1 7).trans rfl
  have hfq_0 := blk_frozen HT.out.1 0
  have hfq_1 := blk_frozen HT.out.1 1
  have hfq_2 := blk_frozen HT.out.1 2
  have hfq_3 := blk_frozen HT.out.1 3
  have hfq_4 := blk_frozen HT.out.1 4
  have hfq_5 := blk_frozen HT.out.1 5
  have hfq_6 := blk_frozen HT.out.1 6
  have hfq_7 := blk_frozen HT.out.1 7
  go_wp2_with (first | ((with_reducible refine gate_callee (f := 18) rfl ?_); refine goesL_ (some 116) rfl rfl Try.func18 (by kernel_rfl) rfl #[.pointer (some ⟨g, 0, none⟩)] rfl (by (try simp only [List.map_toArray, List.map_cons, List.map_nil]); first | done | rfl) ?_; have n0_ : TF P w0 w (w13.setCell ⟨g, 7, none⟩ (.int .i64 cnt)) g #[.int .i64 s0_0, .int .i64 s0_1, .int .i64 t208, .int .i64 t209, .int .i64 t210, .slice D5 X5.length d5, .slice D6 X6.length d6, .int .i64 cnt] (.slice D5 X5.length d5) X5 (.slice D6 X6.length d6) X6 := HT.out.set 7 _; (refine (trend_Trend_Slope.callsP P k g s0_0 s0_1 t208 t209 t210 X5 X6 cnt r1 r2 r3 r4 r5 r6 r7 r8 r9 w0 _ (fun j hj => hPf j (Nat.le_trans n0_.2.2.2.2.2.2.2.1 hj)) (TF.to_state n0_) n0_.2.2.2.2.2.2.1 HH.out).mono ?_); rintro e w15 ⟨rfl, hi, hb, hk⟩; refine ⟨_, rfl, ?_⟩))
  go_ret
  exact ⟨rfl, hi, hb, n0_.2.2.2.2.2.2.2.then_ hk (fun _ h => .inl h)⟩
theorem trend_Trend_Add.calls (k : Nat) (g : Nat) (s0_0 : Int) (s0_1 : Int) (s0_2 : Int) (s0_3 : Int) (s0_4 : Int) (s0_5 : List Int) (s0_6 : List Int) (s0_7 : Int) (a1 : Int) (a2 : Int) (r1 : Int) (r2 : Int) (r3 : Int) (r4 : Int) (r5 : Int) (r6 : Int) (r7 : List Int) (r8 : List Int) (r9 : Int) (w0 w : World) (hI : IsS60 w0 w g s0_0 s0_1 s0_2 s0_3 s0_4 s0_5 s0_6 s0_7) (hB : Below w0.heap.size w0 w) (h : trend_Trend_Add.f k s0_0 s0_1 s0_2 s0_3 s0_4 s0_5 s0_6 s0_7 a1 a2 = some (r1, r2, r3, r4, r5, r6, r7, r8, r9)) :
  Calls Try.prog 16 #[.pointer (some ⟨g, 0, none⟩), .int .i64 a1, .int .i64 a2] w fun e w' => e = .returned (.int .i64 r1) ∧ IsS60 w0 w' g r2 r3 r4 r5 r6 r7 r8 r9 ∧ Below w0.heap.size w0 w' ∧ True :=
 (trend_Trend_Add.callsP (fun _ => True) k g s0_0 s0_1 s0_2 s0_3 s0_4 s0_5 s0_6 s0_7 a1 a2 r1 r2 r3 r4 r5 r6 r7 r8 r9 w0 w (fun _ _ => trivial) hI hB h).mono fun e w' ⟨h1, h2, h3, _⟩ => ⟨h1, h2, h3, trivial⟩
def trend_Trend_Add.nilrecv.f  (a1 : Int) (a2 : Int) : Option (Int) := some 0
set_option maxHeartbeats 8000000 in
set_option maxRecDepth 100000 in
theorem trend_Trend_Add.nilrecv.calls  (a1 : Int) (a2 : Int) (r : Int) (w : World) (h : trend_Trend_Add.nilrecv.f a1 a2 = some r) :
  Calls Try.prog 16 #[.pointer none, .int .i64 a1, .int .i64 a2] w fun e w' => e = .returned (.int .i64 r) ∧ Below w.heap.size w w' := by
 have hpn27_eql : ∀ (a_ : Addr) (W_ : World), (Go.binOp .eql 27 (.pointer (some a_)) (.pointer none)).run Try.prog W_ = .ok (.bool false) W_ := fun _ _ => by kernel_rfl
 have hnn27_eql : ∀ (W_ : World), (Go.binOp .eql 27 (.pointer none) (.pointer none)).run Try.prog W_ = .ok (.bool true) W_ := fun _ => by kernel_rfl
 have HB := Aside0.mk (Below.refl w.heap.size w)
 have H : (some 0) = some r := h
 clear h
 obtain rfl := Option.some.inj H
 go_enter Try.func16, Try.ntmps16
 go_wp2
 go_ret
 exact ⟨by first | rfl | (simp [errW_none, errW_some] <;> rfl) | (simp [*, errW_none, errW_some] <;> rfl), by repeat (first | (with_reducible first | exact HB.out | apply below_alloc | apply pw_below_drewN | apply below_drew1) | exact HB.out)⟩
end Go.Proofs.Ytmcfgaokimlngaa.P
end

section
namespace Go.Proofs.Ytmcfgaokimlngaa.P
open Go.RowKit Go.Proofs.YtmcfgaokimlngaaW.PrintWords Go.Proofs.YtmcfgaokimlngaaW.PrintLast Go.Proofs.YtmcfgaokimlngaaW.PrintMore
attribute [local go_sem] max2_int min2_int max_two min_two max_three min_three max_four min_four   -- for this text's walks alone
set_option linter.unusedVariables false
set_option linter.unusedSimpArgs false
def trend_Trend_Count.f (s0_0 : Int) (s0_1 : Int) (s0_2 : Int) (s0_3 : Int) (s0_4 : Int) (s0_5 : List Int) (s0_6 : List Int) (s0_7 : Int) : Option (Int × Int × Int × Int × Int × Int × List Int × List Int × Int) := some (s0_7, s0_0, s0_1, s0_2, s0_3, s0_4, s0_5, s0_6, s0_7)
set_option maxHeartbeats 8000000 in
set_option maxRecDepth 100000 in
theorem trend_Trend_Count.calls (g : Nat) (s0_0 : Int) (s0_1 : Int) (s0_2 : Int) (s0_3 : Int) (s0_4 : Int) (s0_5 : List Int) (s0_6 : List Int) (s0_7 : Int) (r1 : Int) (r2 : Int) (r3 : Int) (r4 : Int) (r5 : Int) (r6 : Int) (r7 : List Int) (r8 : List Int) (r9 : Int) (w0 w : World) (hI : IsS60 w0 w g s0_0 s0_1 s0_2 s0_3 s0_4 s0_5 s0_6 s0_7) (hB : Below w0.heap.size w0 w) (h : trend_Trend_Count.f s0_0 s0_1 s0_2 s0_3 s0_4 s0_5 s0_6 s0_7 = some (r1, r2, r3, r4, r5, r6, r7, r8, r9)) :
  Calls Try.prog 20 #[.pointer (some ⟨g, 0, none⟩)] w fun e w' => e = .returned (.int .i64 r1) ∧ IsS60 w0 w' g r2 r3 r4 r5 r6 r7 r8 r9 ∧ Below w0.heap.size w0 w' ∧ KeepBut w w' g none := by
 have hpn27_eql : ∀ (a_ : Addr) (W_ : World), (Go.binOp .eql 27 (.pointer (some a_)) (.pointer none)).run Try.prog W_ = .ok (.bool false) W_ := fun _ _ => by kernel_rfl
 have hnn27_eql : ∀ (W_ : World), (Go.binOp .eql 27 (.pointer none) (.pointer none)).run Try.prog W_ = .ok (.bool true) W_ := fun _ => by kernel_rfl
 have HI0 := Aside0.mk hI
 have HK := Aside0.mk (KeepBut.refl w g none)
 have HL := Aside0.mk hB.size
 clear hI
 have HW0 := Aside0.mk hB.size
 have HB := Aside0.mk hB
 clear hB
 have H : (some (s0_7, s0_0, s0_1, s0_2, s0_3, s0_4, s0_5, s0_6, s0_7)) = some (r1, r2, r3, r4, r5, r6, r7, r8, r9) := h
 clear h
 simp only [Option.some.injEq, Prod.mk.injEq] at H
 obtain ⟨rfl, rfl, rfl, rfl, rfl, rfl, rfl, rfl, rfl⟩ := H
 obtain ⟨ASz2_5, cSz2_5, ASz2_6, cSz2_6, HGz2, hgz2, HSz2_5, HSz2_6⟩ := HI0.out
 have hcz2_0 := cellS60_0 HGz2
 have hcz2_1 := cellS60_1 HGz2
 have hcz2_2 := cellS60_2 HGz2
 have hcz2_3 := cellS60_3 HGz2
 have hcz2_4 := cellS60_4 HGz2
 have hcz2_5 := cellS60_5 HGz2
 have hcz2_6 := cellS60_6 HGz2
 have hcz2_7 := cellS60_7 HGz2
 have hfz2_0 := blk_frozen HGz2 0
 have hfz2_1 := blk_frozen HGz2 1
 have hfz2_2 := blk_frozen HGz2 2
 have hfz2_3 := blk_frozen HGz2 3
 have hfz2_4 := blk_frozen HGz2 4
 have hfz2_5 := blk_frozen HGz2 5
 have hfz2_6 := blk_frozen HGz2 6
 have hfz2_7 := blk_frozen HGz2 7
 clear HGz2 hgz2
 go_enter Try.func20, Try.ntmps20
 go_wp2
 go_ret
 exact ⟨by first | rfl | (simp [errW_none, errW_some] <;> rfl) | (simp [*, errW_none, errW_some] <;> rfl), by repeat (first | (with_reducible first | exact HI0.out | apply IsS60.alloc | apply IsS60.drewN | apply IsS60.drew | apply IsS60.set_0 | apply IsS60.set_1 | apply IsS60.set_2 | apply IsS60.set_3 | apply IsS60.set_4 | apply IsS60.set_5 | apply IsS60.set_6 | apply IsS60.set_7) | exact HI0.out), by repeat (first | (with_reducible first | exact HB.out | apply below_alloc | apply pw_below_drewN | apply below_drew1 | refine below_set ?_ (IsS60.ge HI0.out)) | exact HB.out), by repeat (first | (with_reducible first | exact HK.out | apply KeepBut.set_ | apply keep_drewN | apply keep_drew | apply keep_alloc) | exact HK.out)⟩
def trend_Trend_Count.nilrecv.f  : Option (Int) := some 0
set_option maxHeartbeats 8000000 in
set_option maxRecDepth 100000 in
theorem trend_Trend_Count.nilrecv.calls  (r : Int) (w : World) (h : trend_Trend_Count.nilrecv.f  = some r) :
  Calls Try.prog 20 #[.pointer none] w fun e w' => e = .returned (.int .i64 r) ∧ Drawn0 w w' := by
 have hpn27_eql : ∀ (a_ : Addr) (W_ : World), (Go.binOp .eql 27 (.pointer (some a_)) (.pointer none)).run Try.prog W_ = .ok (.bool false) W_ := fun _ _ => by kernel_rfl
 have hnn27_eql : ∀ (W_ : World), (Go.binOp .eql 27 (.pointer none) (.pointer none)).run Try.prog W_ = .ok (.bool true) W_ := fun _ => by kernel_rfl
 have H : (some 0) = some r := h
 clear h
 obtain rfl := Option.some.inj H
 go_enter Try.func20, Try.ntmps20
 go_wp2
 go_ret
 exact ⟨by first | rfl | (simp; done) | (simp [*]; done), by repeat (first | exact Drawn0.refl _ | apply Drawn0.step)⟩
def fixed_Of.f (a0 : Int) : Option (Int) := (sat_Mul.f a0 4294967296).bind fun t205 => (some t205)
set_option maxHeartbeats 8000000 in
set_option maxRecDepth 100000 in
theorem fixed_Of.calls (a0 : Int) (r : Int) (w : World) (h : fixed_Of.f a0 = some r) :
  Calls Try.prog 22 #[.int .i64 a0] w fun e w' => e = .returned (.int .i64 r) ∧ Below w.heap.size w w' := by
 have HB := Aside0.mk (Below.refl w.heap.size w)
 have H : ((sat_Mul.f a0 4294967296).bind fun t205 => (some t205)) = some r := h
 clear h
 replace H := Option.bind_eq_some_iff.mp H
 obtain ⟨t205, A20, H⟩ := H
 replace H : (some t205) = some r := H
 have A2 := Aside0.mk A20
 clear A20
 obtain rfl := Option.some.inj H
 go_enter Try.func22, Try.ntmps22
 go_wp2_with (first | ((with_reducible refine gate_callee (f := 27) rfl ?_); refine goesL_ (some 4) rfl rfl Try.func27 (by kernel_rfl) rfl #[.int .i64 a0, .int .i64 4294967296] rfl (by (try simp only [List.map_toArray, List.map_cons, List.map_nil]); first | done | rfl | (simp only [List.length_drop, List.length_take]; rfl)) ?_; (with_reducible refine (sat_Mul.calls a0 4294967296 t205 _ A2.out).mono ?_); rintro e w3 ⟨rfl, hb⟩; refine ⟨_, rfl, ?_⟩; have n0_ := Aside0.mk (below_step (by repeat (first | (with_reducible first | exact HB.out | apply below_alloc | apply pw_below_drewN | apply below_drew1) | exact HB.out)) hb); clear HB; have HB := n0_; clear n0_; (try clear hb); (try clear hb2); (try clear hk); (try clear hi)))
 go_ret
 exact ⟨by first | rfl | (simp [errW_none, errW_some] <;> rfl) | (simp [*, errW_none, errW_some] <;> rfl), by repeat (first | (with_reducible first | exact HB.out | apply below_alloc | apply pw_below_drewN | apply below_drew1) | exact HB.out)⟩
mutual
def flywheellaw17_wakes.j0 : Nat → Bool → Int → Int → Int → Int → Int → List Int → List Int → Int → Option (Bool)
 | 0, _, _, _, _, _, _, _, _, _ => none
 | k + 1, x13, x215000, x215001, x215002, x215003, x215004, x215005, x215006, x215007 => if x13 = true then (some false) else ((trend_Trend_Add.f k x215000 x215001 x215002 x215003 x215004 x215005 x215006 x215007 10 15).bind fun bt225 => ((fixed_Of.f 1).bind fun t234 => (if bt225.1 = (wrap64 (Int.tdiv t234 2)) then ((trend_Trend_Count.f bt225.2.1 bt225.2.2.1 bt225.2.2.2.1 bt225.2.2.2.2.1 bt225.2.2.2.2.2.1 bt225.2.2.2.2.2.2.1 bt225.2.2.2.2.2.2.2.1 bt225.2.2.2.2.2.2.2.2).bind fun bt235 => (if bt235.1 = 2 then ((trend_Line.f k (([0, 1, 2] : List Int)) (([0, 2, 4] : List Int))).bind fun t250 => ((fixed_Of.f 2).bind fun t251 => (some (t250 == t251)))) else (some false))) else (some false))))
def flywheellaw17_wakes.j1 : Nat → Bool → Option (Bool)
 | 0, _ => none
 | k + 1, x13 => if x13 = true then (some false) else ((trend_Trend_Add.nilrecv.f 10 15).bind fun t254 => ((fixed_Of.f 1).bind fun t255 => (if t254 = (wrap64 (Int.tdiv t255 2)) then ((trend_Trend_Count.nilrecv.f).bind fun t256 => (if t256 = 2 then ((trend_Line.f k (([0, 1, 2] : List Int)) (([0, 2, 4] : List Int))).bind fun t263 => ((fixed_Of.f 2).bind fun t264 => (some (t263 == t264)))) else (some false))) else (some false))))
end
def flywheellaw17_wakes.f (k : Nat)  : Option (Bool) := if (trend_New.made.f 2 0).isSome = true then ((trend_New.made.f 2 0).bind fun bt206 => (if bt206.2.2.2.2.2.2.2.2 = 0 then ((trend_Trend_Add.f k bt206.1 bt206.2.1 bt206.2.2.1 bt206.2.2.2.1 bt206.2.2.2.2.1 bt206.2.2.2.2.2.1 bt206.2.2.2.2.2.2.1 bt206.2.2.2.2.2.2.2.1 10 15).bind fun bt216 => (flywheellaw17_wakes.j0 k (bt216.1 != 0) bt216.2.1 bt216.2.2.1 bt216.2.2.2.1 bt216.2.2.2.2.1 bt216.2.2.2.2.2.1 bt216.2.2.2.2.2.2.1 bt216.2.2.2.2.2.2.2.1 bt216.2.2.2.2.2.2.2.2)) else (flywheellaw17_wakes.j0 k true bt206.1 bt206.2.1 bt206.2.2.1 bt206.2.2.2.1 bt206.2.2.2.2.1 bt206.2.2.2.2.2.1 bt206.2.2.2.2.2.2.1 bt206.2.2.2.2.2.2.2.1))) else ((trend_New.nil.f 2 0).bind fun t252 => (if t252 = 0 then ((trend_Trend_Add.nilrecv.f 10 15).bind fun t253 => (flywheellaw17_wakes.j1 k (t253 != 0))) else (flywheellaw17_wakes.j1 k true)))
theorem flywheellaw17_wakes.mono_l : ∀ k, (∀ y0 y1 y2 y3 y4 y5 y6 y7 y8, LeO (flywheellaw17_wakes.j0 k y0 y1 y2 y3 y4 y5 y6 y7 y8) (flywheellaw17_wakes.j0 (k + 1) y0 y1 y2 y3 y4 y5 y6 y7 y8)) ∧ (∀ y0, LeO (flywheellaw17_wakes.j1 k y0) (flywheellaw17_wakes.j1 (k + 1) y0))
 | 0 => ⟨fun _ _ _ _ _ _ _ _ _ r h => by simp [flywheellaw17_wakes.j0] at h, fun _ r h => by simp [flywheellaw17_wakes.j1] at h⟩
 | k + 1 => by
  obtain ⟨ih0, ih1⟩ := flywheellaw17_wakes.mono_l k
  refine ⟨?_, ?_⟩
  ·intro y0 y1 y2 y3 y4 y5 y6 y7 y8
   unfold flywheellaw17_wakes.j0
   repeat' first
   | (with_reducible exact ih0 _ _ _ _ _ _ _ _ _)
   | (with_reducible exact ih1 _)
   | (with_reducible exact trend_Line.mono _ _ _)
   | (with_reducible exact trend_Trend_Add.mono _ _ _ _ _ _ _ _ _ _ _)
   | (with_reducible exact LeO.refl _)
   | (with_reducible exact LeO.none _)
   | (with_reducible refine LeO.ite ?_ ?_)
   | (with_reducible refine LeO.bind ?_ (fun _ => ?_))
   | exact ih0 _ _ _ _ _ _ _ _ _
   | exact ih1 _
   | exact trend_Line.mono _ _ _
   | exact trend_Trend_Add.mono _ _ _ _ _ _ _ _ _ _ _
   | exact LeO.none _
   | refine LeO.ite ?_ ?_
   | refine LeO.bind ?_ (fun _ => ?_)
  ·intro y0
   unfold flywheellaw17_wakes.j1
   repeat' first
   | (with_reducible exact ih0 _ _ _ _ _ _ _ _ _)
   | (with_reducible exact ih1 _)
   | (with_reducible exact trend_Line.mono _ _ _)
   | (with_reducible exact trend_Trend_Add.mono _ _ _ _ _ _ _ _ _ _ _)
   | (with_reducible exact LeO.refl _)
   | (with_reducible exact LeO.none _)
   | (with_reducible refine LeO.ite ?_ ?_)
   | (with_reducible refine LeO.bind ?_ (fun _ => ?_))
   | exact ih0 _ _ _ _ _ _ _ _ _
   | exact ih1 _
   | exact trend_Line.mono _ _ _
   | exact trend_Trend_Add.mono _ _ _ _ _ _ _ _ _ _ _
   | exact LeO.none _
   | refine LeO.ite ?_ ?_
   | refine LeO.bind ?_ (fun _ => ?_)
theorem flywheellaw17_wakes.mono : ∀ k, LeO (flywheellaw17_wakes.f k ) (flywheellaw17_wakes.f (k + 1) ) := by
 intro  k
 obtain ⟨ih0, ih1⟩ := flywheellaw17_wakes.mono_l k
 unfold flywheellaw17_wakes.f
 repeat' first
   | (with_reducible exact ih0 _ _ _ _ _ _ _ _ _)
   | (with_reducible exact ih1 _)
   | (with_reducible exact trend_Line.mono _ _ _)
   | (with_reducible exact trend_Trend_Add.mono _ _ _ _ _ _ _ _ _ _ _)
   | (with_reducible exact LeO.refl _)
   | (with_reducible exact LeO.none _)
   | (with_reducible refine LeO.ite ?_ ?_)
   | (with_reducible refine LeO.bind ?_ (fun _ => ?_))
   | exact ih0 _ _ _ _ _ _ _ _ _
   | exact ih1 _
   | exact trend_Line.mono _ _ _
   | exact trend_Trend_Add.mono _ _ _ _ _ _ _ _ _ _ _
   | exact LeO.none _
   | refine LeO.ite ?_ ?_
   | refine LeO.bind ?_ (fun _ => ?_)
set_option maxHeartbeats 8000000 in
set_option maxRecDepth 100000 in
theorem flywheellaw17_wakes.calls (k : Nat)  (r : Bool) (w : World) (h : flywheellaw17_wakes.f k  = some r) :
  Calls Try.prog 10 #[] w fun e w' => e = .returned (.bool r) ∧ Below w.heap.size w w' := by
 have HB := Aside0.mk (Below.refl w.heap.size w)
 have H : (if (trend_New.made.f 2 0).isSome = true then ((trend_New.made.f 2 0).bind fun bt206 => (if bt206.2.2.2.2.2.2.2.2 = 0 then ((trend_Trend_Add.f k bt206.1 bt206.2.1 bt206.2.2.1 bt206.2.2.2.1 bt206.2.2.2.2.1 bt206.2.2.2.2.2.1 bt206.2.2.2.2.2.2.1 bt206.2.2.2.2.2.2.2.1 10 15).bind fun bt216 => (flywheellaw17_wakes.j0 k (bt216.1 != 0) bt216.2.1 bt216.2.2.1 bt216.2.2.2.1 bt216.2.2.2.2.1 bt216.2.2.2.2.2.1 bt216.2.2.2.2.2.2.1 bt216.2.2.2.2.2.2.2.1 bt216.2.2.2.2.2.2.2.2)) else (flywheellaw17_wakes.j0 k true bt206.1 bt206.2.1 bt206.2.2.1 bt206.2.2.2.1 bt206.2.2.2.2.1 bt206.2.2.2.2.2.1 bt206.2.2.2.2.2.2.1 bt206.2.2.2.2.2.2.2.1))) else ((trend_New.nil.f 2 0).bind fun t252 => (if t252 = 0 then ((trend_Trend_Add.nilrecv.f 10 15).bind fun t253 => (flywheellaw17_wakes.j1 k (t253 != 0))) else (flywheellaw17_wakes.j1 k true)))) = some r := h
 clear h
 by_cases c1 : (trend_New.made.f 2 0).isSome = true
 ·rw [if_pos c1] at H
  have c1b0 : (trend_New.made.f 2 0).isSome = true := c1
  clear c1
  replace H := Option.bind_eq_some_iff.mp H
  obtain ⟨⟨t206, t207, t208, t209, t210, t211, t212, t213, t215⟩, A20, H⟩ := H
  replace H : (if t215 = 0 then ((trend_Trend_Add.f k t206 t207 t208 t209 t210 t211 t212 t213 10 15).bind fun bt216 => (flywheellaw17_wakes.j0 k (bt216.1 != 0) bt216.2.1 bt216.2.2.1 bt216.2.2.2.1 bt216.2.2.2.2.1 bt216.2.2.2.2.2.1 bt216.2.2.2.2.2.2.1 bt216.2.2.2.2.2.2.2.1 bt216.2.2.2.2.2.2.2.2)) else (flywheellaw17_wakes.j0 k true t206 t207 t208 t209 t210 t211 t212 t213)) = some r := H
  have A2 := Aside0.mk A20
  clear A20
  have HC3 := Aside0.mk H
  clear H
  go_enter Try.func10, Try.ntmps10
  go_upto_region 2 with (first | ((with_reducible refine gate_callee (f := 14) rfl ?_); refine goesL_ (some 4) rfl rfl Try.func14 (by kernel_rfl) rfl #[.int .i64 2, .int .i64 0] rfl (by (try simp only [List.map_toArray, List.map_cons, List.map_nil]); first | done | rfl | (simp only [List.length_drop, List.length_take]; rfl)) ?_; (with_reducible refine (trend_New.made.calls 2 0 t206 t207 t208 t209 t210 t211 t212 t213 t215 w _ ?side1 A2.out).mono ?_); (case side1 => repeat (first | (with_reducible first | exact HB.out | apply below_alloc | apply pw_below_drewN | apply below_drew1) | exact HB.out)); rintro e w4 ⟨g214, rfl, hi, hb, hb2⟩; refine ⟨_, rfl, ?_⟩; have n0_ := Aside0.mk (hb); have n1_ := Aside0.mk (hi); clear HB; have HB := n0_; have HI214 := n1_; clear n0_ n1_; (try clear hb); (try clear hb2); (try clear hk); (try clear hi)))
  (try simp only [Act.put, List.setIfInBounds_toArray, List.set_cons_zero, List.set_cons_succ])
  go_cut [13] (fun v13 wc => ∃ (kq : Nat) (x13_2 : Bool) (x215000_2 : Int) (x215001_2 : Int) (x215002_2 : Int) (x215003_2 : Int) (x215004_2 : Int) (x215005_2 : List Int) (x215006_2 : List Int) (x215007_2 : Int) (u215005 : Value) (u215006 : Value), v13 = .bool x13_2 ∧ Aside0 (flywheellaw17_wakes.j0 kq x13_2 x215000_2 x215001_2 x215002_2 x215003_2 x215004_2 x215005_2 x215006_2 x215007_2 = some r) ∧ Aside0 (kq ≤ k) ∧ Aside0 (IsS60 w wc g214 x215000_2 x215001_2 x215002_2 x215003_2 x215004_2 x215005_2 x215006_2 x215007_2) ∧ Aside0 (Below w.heap.size w wc))
  case first =>
   have H := HC3.out
   clear HC3
   by_cases c5 : t215 = 0
   ·rw [if_pos c5] at H
    have c5b0 : (t215 == 0) = true := beq_iff_eq.mpr c5
    have c5b1 : (t215 != 0) = false := bne_eq_false_iff_eq.mpr c5
    clear c5
    (first | rw [c5b0] | (simp only [i64_w, i32_w]; rw [c5b0]) | skip)
    replace H := Option.bind_eq_some_iff.mp H
    obtain ⟨⟨t216, t217, t218, t219, t220, t221, t222, t223, t224⟩, A60, H⟩ := H
    replace H : (flywheellaw17_wakes.j0 k (t216 != 0) t217 t218 t219 t220 t221 t222 t223 t224) = some r := H
    have A6 := Aside0.mk A60
    clear A60
    have H' := Aside0.mk H
    clear H
    go_wp2_with (first | (go_at_call 16; (with_reducible refine (trend_Trend_Add.calls k g214 t206 t207 t208 t209 t210 t211 t212 t213 10 15 t216 t217 t218 t219 t220 t221 t222 t223 t224 w _ ?side1 ?side2 A6.out).mono ?_); (case side1 => repeat (first | (with_reducible first | exact HI214.out | apply IsS60.alloc | apply IsS60.drewN | apply IsS60.drew | apply IsS60.set_0 | apply IsS60.set_1 | apply IsS60.set_2 | apply IsS60.set_3 | apply IsS60.set_4 | apply IsS60.set_5 | apply IsS60.set_6 | apply IsS60.set_7) | exact HI214.out)); (case side2 => repeat (first | (with_reducible first | exact HB.out | apply below_alloc | apply pw_below_drewN | apply below_drew1 | refine below_set ?_ (IsS60.ge HI214.out)) | exact HB.out)); rintro e w7 ⟨rfl, hi, hb, hk⟩; have n0_ := Aside0.mk (hb); have n1_ := Aside0.mk (hi); clear HB; clear HI214; have HB := n0_; have HI214 := n1_; clear n0_ n1_; (try clear hb); (try clear hb2); (try clear hk); (try clear hi)))
    go_meet
    case rel => exact ⟨_, ((t216 != 0)), (t217), (t218), (t219), (t220), (t221), (t222), (t223), (t224), (.bool true), (.bool true), (by first | rfl | (simp; done) | (simp [*]; done)), H', ⟨by first | omega | exact Nat.le_refl _⟩, ⟨by repeat (first | (with_reducible first | exact HI214.out | apply IsS60.alloc | apply IsS60.drewN | apply IsS60.drew | apply IsS60.set_0 | apply IsS60.set_1 | apply IsS60.set_2 | apply IsS60.set_3 | apply IsS60.set_4 | apply IsS60.set_5 | apply IsS60.set_6 | apply IsS60.set_7) | exact HI214.out)⟩, ⟨by repeat (first | (with_reducible first | exact HB.out | apply below_alloc | apply pw_below_drewN | apply below_drew1 | refine below_set ?_ (IsS60.ge HI214.out)) | exact HB.out)⟩⟩
   ·rw [if_neg c5] at H
    have c5b0 : (t215 == 0) = false := beq_eq_false_iff_ne.mpr c5
    have c5b1 : (t215 != 0) = true := bne_iff_ne.mpr c5
    (first | rw [c5b0] | (simp only [i64_w, i32_w]; rw [c5b0]) | skip)
    have H' := Aside0.mk H
    clear H
    go_wp2
    go_meet
    case rel => exact ⟨_, (true), (t206), (t207), (t208), (t209), (t210), (t211), (t212), (t213), (.bool true), (.bool true), (by first | rfl | (simp; done) | (simp [*]; done)), H', ⟨by first | omega | exact Nat.le_refl _⟩, ⟨by repeat (first | (with_reducible first | exact HI214.out | apply IsS60.alloc | apply IsS60.drewN | apply IsS60.drew | apply IsS60.set_0 | apply IsS60.set_1 | apply IsS60.set_2 | apply IsS60.set_3 | apply IsS60.set_4 | apply IsS60.set_5 | apply IsS60.set_6 | apply IsS60.set_7) | exact HI214.out)⟩, ⟨by repeat (first | (with_reducible first | exact HB.out | apply below_alloc | apply pw_below_drewN | apply below_drew1 | refine below_set ?_ (IsS60.ge HI214.out)) | exact HB.out)⟩⟩
  case rest =>
   clear HC3
   try clear c1
   try clear c1b0
   try clear p2
   try clear c5
   try clear c5b0
   try clear c5b1
   obtain ⟨kq, x13_2, x215000_2, x215001_2, x215002_2, x215003_2, x215004_2, x215005_2, x215006_2, x215007_2, u215005, u215006, rfl, HA, HJ2, HI214, HB⟩ := hcut
   cases kq with
   | zero => exact absurd HA.out (by simp [flywheellaw17_wakes.j0])
   | succ kj2 =>
    have H := HA.out
    clear HA
    simp only [flywheellaw17_wakes.j0] at H
    by_cases c8 : x13_2 = true
    ·subst c8
     have H1 : (some false) = some r := by rw [if_pos rfl] at H; exact H
     clear H
     have H := H1
     clear H1
     obtain rfl := Option.some.inj H
     go_wp2
     go_ret
     exact ⟨by first | rfl | (simp [errW_none, errW_some] <;> rfl) | (simp [*, errW_none, errW_some] <;> rfl), by repeat (first | (with_reducible first | exact HB.out | apply below_alloc | apply pw_below_drewN | apply below_drew1 | refine below_set ?_ (IsS60.ge HI214.out)) | exact HB.out)⟩
    ·replace c8 := Bool.eq_false_iff.mpr c8
     subst c8
     have H1 : ((trend_Trend_Add.f kj2 x215000_2 x215001_2 x215002_2 x215003_2 x215004_2 x215005_2 x215006_2 x215007_2 10 15).bind fun bt225 => ((fixed_Of.f 1).bind fun t234 => (if bt225.1 = (wrap64 (Int.tdiv t234 2)) then ((trend_Trend_Count.f bt225.2.1 bt225.2.2.1 bt225.2.2.2.1 bt225.2.2.2.2.1 bt225.2.2.2.2.2.1 bt225.2.2.2.2.2.2.1 bt225.2.2.2.2.2.2.2.1 bt225.2.2.2.2.2.2.2.2).bind fun bt235 => (if bt235.1 = 2 then ((trend_Line.f kj2 (([0, 1, 2] : List Int)) (([0, 2, 4] : List Int))).bind fun t250 => ((fixed_Of.f 2).bind fun t251 => (some (t250 == t251)))) else (some false))) else (some false)))) = some r := by rw [if_neg (show ¬ (false = true) by decide)] at H; exact H
     clear H
     have H := H1
     clear H1
     replace H := Option.bind_eq_some_iff.mp H
     obtain ⟨⟨t225, t226, t227, t228, t229, t230, t231, t232, t233⟩, A90, H⟩ := H
     replace H : ((fixed_Of.f 1).bind fun t234 => (if t225 = (wrap64 (Int.tdiv t234 2)) then ((trend_Trend_Count.f t226 t227 t228 t229 t230 t231 t232 t233).bind fun bt235 => (if bt235.1 = 2 then ((trend_Line.f kj2 (([0, 1, 2] : List Int)) (([0, 2, 4] : List Int))).bind fun t250 => ((fixed_Of.f 2).bind fun t251 => (some (t250 == t251)))) else (some false))) else (some false))) = some r := H
     have A9 := Aside0.mk A90
     clear A90
     replace H := Option.bind_eq_some_iff.mp H
     obtain ⟨t234, A100, H⟩ := H
     replace H : (if t225 = (wrap64 (Int.tdiv t234 2)) then ((trend_Trend_Count.f t226 t227 t228 t229 t230 t231 t232 t233).bind fun bt235 => (if bt235.1 = 2 then ((trend_Line.f kj2 (([0, 1, 2] : List Int)) (([0, 2, 4] : List Int))).bind fun t250 => ((fixed_Of.f 2).bind fun t251 => (some (t250 == t251)))) else (some false))) else (some false)) = some r := H
     have A10 := Aside0.mk A100
     clear A100
     by_cases c11 : t225 = (wrap64 (Int.tdiv t234 2))
     ·rw [if_pos c11] at H
      have c11b0 : (t225 == (wrap64 (Int.tdiv t234 2))) = true := beq_iff_eq.mpr c11
      have c11b1 : (t225 != (wrap64 (Int.tdiv t234 2))) = false := bne_eq_false_iff_eq.mpr c11
      clear c11
      replace H := Option.bind_eq_some_iff.mp H
      obtain ⟨⟨t235, t236, t237, t238, t239, t240, t241, t242, t243⟩, A120, H⟩ := H
      replace H : (if t235 = 2 then ((trend_Line.f kj2 (([0, 1, 2] : List Int)) (([0, 2, 4] : List Int))).bind fun t250 => ((fixed_Of.f 2).bind fun t251 => (some (t250 == t251)))) else (some false)) = some r := H
      have A12 := Aside0.mk A120
      clear A120
      by_cases c13 : t235 = 2
      ·rw [if_pos c13] at H
       have c13b0 : (t235 == 2) = true := beq_iff_eq.mpr c13
       have c13b1 : (t235 != 2) = false := bne_eq_false_iff_eq.mpr c13
       clear c13
       obtain ⟨y244, hy244⟩ : ∃ y_ : List Int, y_ = (([0, 1, 2] : List Int)) := ⟨_, rfl⟩
       replace H : ((trend_Line.f kj2 y244 (([0, 2, 4] : List Int))).bind fun t250 => ((fixed_Of.f 2).bind fun t251 => (some (t250 == t251)))) = some r := by first | (rw [hy244]; with_reducible exact H) | (have H2_ := (Option.bind_some _ _).symm.trans H; rw [hy244]; with_reducible exact H2_) | (have H2_ := (Option.bind_some _ _).symm.trans H; with_reducible exact H2_) | with_reducible exact H | (rw [hy244]; exact H) | exact H
       have Ny244 := Aside0.mk hy244
       clear hy244
       obtain ⟨y247, hy247⟩ : ∃ y_ : List Int, y_ = (([0, 2, 4] : List Int)) := ⟨_, rfl⟩
       replace H : ((trend_Line.f kj2 y244 y247).bind fun t250 => ((fixed_Of.f 2).bind fun t251 => (some (t250 == t251)))) = some r := by first | (rw [hy247]; with_reducible exact H) | (have H2_ := (Option.bind_some _ _).symm.trans H; rw [hy247]; with_reducible exact H2_) | (have H2_ := (Option.bind_some _ _).symm.trans H; with_reducible exact H2_) | with_reducible exact H | (rw [hy247]; exact H) | exact H
       have Ny247 := Aside0.mk hy247
       clear hy247
       replace H := Option.bind_eq_some_iff.mp H
       obtain ⟨t250, A140, H⟩ := H
       replace H : ((fixed_Of.f 2).bind fun t251 => (some (t250 == t251))) = some r := H
       have A14 := Aside0.mk A140
       clear A140
       replace H := Option.bind_eq_some_iff.mp H
       obtain ⟨t251, A150, H⟩ := H
       replace H : (some (t250 == t251)) = some r := H
       have A15 := Aside0.mk A150
       clear A150
       obtain rfl := Option.some.inj H
       go_wp2_with (first | ((with_reducible refine gate_callee (f := 16) rfl ?_); refine goesL_ (some 15) rfl rfl Try.func16 (by kernel_rfl) rfl #[.pointer (some ⟨g214, 0, none⟩), .int .i64 10, .int .i64 15] rfl (by (try simp only [List.map_toArray, List.map_cons, List.map_nil]); first | done | rfl | (simp only [List.length_drop, List.length_take]; rfl)) ?_; (with_reducible refine (trend_Trend_Add.calls kj2 g214 x215000_2 x215001_2 x215002_2 x215003_2 x215004_2 x215005_2 x215006_2 x215007_2 10 15 t225 t226 t227 t228 t229 t230 t231 t232 t233 w _ ?side1 ?side2 A9.out).mono ?_); (case side1 => repeat (first | (with_reducible first | exact HI214.out | apply IsS60.alloc | apply IsS60.drewN | apply IsS60.drew | apply IsS60.set_0 | apply IsS60.set_1 | apply IsS60.set_2 | apply IsS60.set_3 | apply IsS60.set_4 | apply IsS60.set_5 | apply IsS60.set_6 | apply IsS60.set_7) | exact HI214.out)); (case side2 => repeat (first | (with_reducible first | exact HB.out | apply below_alloc | apply pw_below_drewN | apply below_drew1 | refine below_set ?_ (IsS60.ge HI214.out)) | exact HB.out)); rintro e w16 ⟨rfl, hi, hb, hk⟩; refine ⟨_, rfl, ?_⟩; have n0_ := Aside0.mk (hb); have n1_ := Aside0.mk (hi); clear HB; clear HI214; have HB := n0_; have HI214 := n1_; clear n0_ n1_; (try clear hb); (try clear hb2); (try clear hk); (try clear hi)) | ((with_reducible refine gate_callee (f := 22) rfl ?_); refine goesL_ (some 16) rfl rfl Try.func22 (by kernel_rfl) rfl #[.int .i64 1] rfl (by (try simp only [List.map_toArray, List.map_cons, List.map_nil]); first | done | rfl | (simp only [List.length_drop, List.length_take]; rfl)) ?_; (with_reducible refine (fixed_Of.calls 1 t234 _ A10.out).mono ?_); rintro e w17 ⟨rfl, hb⟩; refine ⟨_, rfl, ?_⟩; have n0_ := Aside0.mk (IsS60.below (by repeat (first | (with_reducible first | exact HI214.out | apply IsS60.alloc | apply IsS60.drewN | apply IsS60.drew | apply IsS60.set_0 | apply IsS60.set_1 | apply IsS60.set_2 | apply IsS60.set_3 | apply IsS60.set_4 | apply IsS60.set_5 | apply IsS60.set_6 | apply IsS60.set_7) | exact HI214.out)) hb); have n1_ := Aside0.mk (below_step (by repeat (first | (with_reducible first | exact HB.out | apply below_alloc | apply pw_below_drewN | apply below_drew1 | refine below_set ?_ (IsS60.ge HI214.out)) | exact HB.out)) hb); clear HI214; clear HB; have HI214 := n0_; have HB := n1_; clear n0_ n1_; (try clear hb); (try clear hb2); (try clear hk); (try clear hi)) | (go_at_call 20; (with_reducible refine (trend_Trend_Count.calls g214 t226 t227 t228 t229 t230 t231 t232 t233 t235 t236 t237 t238 t239 t240 t241 t242 t243 w _ ?side1 ?side2 A12.out).mono ?_); (case side1 => repeat (first | (with_reducible first | exact HI214.out | apply IsS60.alloc | apply IsS60.drewN | apply IsS60.drew | apply IsS60.set_0 | apply IsS60.set_1 | apply IsS60.set_2 | apply IsS60.set_3 | apply IsS60.set_4 | apply IsS60.set_5 | apply IsS60.set_6 | apply IsS60.set_7) | exact HI214.out)); (case side2 => repeat (first | (with_reducible first | exact HB.out | apply below_alloc | apply pw_below_drewN | apply below_drew1 | refine below_set ?_ (IsS60.ge HI214.out)) | exact HB.out)); rintro e w18 ⟨rfl, hi, hb, hk⟩; have n0_ := Aside0.mk (hb); have n1_ := Aside0.mk (hi); clear HB; clear HI214; have HB := n0_; have HI214 := n1_; clear n0_ n1_; (try clear hb); (try clear hb2); (try clear hk); (try clear hi)) | ((with_reducible refine gate_dst (N := 25) rfl ?_); (try (refine gate_guard (by rfl) ?_; dsimp only)); refine Kd.R_lit (Kd.int .i64) _ 2 ?hg (N := 25) ?hd (xs := ([0, 1, 2] : List Int)) (inner := [.int .i64 0, .int .i64 1, .int .i64 2]) (ok := fun _ => True) (okp := fun _ => True) ?hr ?hp (fun _ hk => hk) trivial (Below.refl _ _) (Nat.le_refl _) (by simp) ?_; (case hd => rfl); (case hg => rfl); (case hr => first | (go_simp; done) | (go_simp; rfl)); (case hp => exact (Reps.one (show Kd.M (Kd.int .i64) _ _ _ 0 [.int .i64 0] from rfl) (Reps.one (show Kd.M (Kd.int .i64) _ _ _ 1 [.int .i64 1] from rfl) (Reps.one (show Kd.M (Kd.int .i64) _ _ _ 2 [.int .i64 2] from rfl) (Reps.none _ _))))); intro v245 w19 ho20 hb hg_ hnew_; clear hg_ hnew_; (first | rw [← Ny244.out] at ho20 | (simp only [Int.reduceToNat] at ho20; rw [← Ny244.out] at ho20)); have n0_ := Aside0.mk (Kd.R_lower ho20 (below_size (by repeat (first | (with_reducible first | exact HB.out | apply below_alloc | apply pw_below_drewN | apply below_drew1 | refine below_set ?_ (IsS60.ge HI214.out)) | exact HB.out)))); have n1_ := Aside0.mk (IsS60.below (by repeat (first | (with_reducible first | exact HI214.out | apply IsS60.alloc | apply IsS60.drewN | apply IsS60.drew | apply IsS60.set_0 | apply IsS60.set_1 | apply IsS60.set_2 | apply IsS60.set_3 | apply IsS60.set_4 | apply IsS60.set_5 | apply IsS60.set_6 | apply IsS60.set_7) | exact HI214.out)) hb); have n2_ := Aside0.mk (below_step (by repeat (first | (with_reducible first | exact HB.out | apply below_alloc | apply pw_below_drewN | apply below_drew1 | refine below_set ?_ (IsS60.ge HI214.out)) | exact HB.out)) hb); clear HI214; clear HB; have HO246 := n0_; have HI214 := n1_; have HB := n2_; clear n0_ n1_ n2_; clear hb ho20) | ((with_reducible refine gate_dst (N := 26) rfl ?_); (try (refine gate_guard (by rfl) ?_; dsimp only)); refine Kd.R_lit (Kd.int .i64) _ 2 ?hg (N := 26) ?hd (xs := ([0, 2, 4] : List Int)) (inner := [.int .i64 0, .int .i64 2, .int .i64 4]) (ok := fun _ => True) (okp := fun _ => True) ?hr ?hp (fun _ hk => hk) trivial (Below.refl _ _) (Nat.le_refl _) (by simp) ?_; (case hd => rfl); (case hg => rfl); (case hr => first | (go_simp; done) | (go_simp; rfl)); (case hp => exact (Reps.one (show Kd.M (Kd.int .i64) _ _ _ 0 [.int .i64 0] from rfl) (Reps.one (show Kd.M (Kd.int .i64) _ _ _ 2 [.int .i64 2] from rfl) (Reps.one (show Kd.M (Kd.int .i64) _ _ _ 4 [.int .i64 4] from rfl) (Reps.none _ _))))); intro v248 w21 ho22 hb hg_ hnew_; clear hg_ hnew_; (first | rw [← Ny247.out] at ho22 | (simp only [Int.reduceToNat] at ho22; rw [← Ny247.out] at ho22)); have n0_ := Aside0.mk (Kd.R_elder' (by (with_reducible repeat (first | apply Kd.R_alloc | apply Kd.R_drewN | apply Kd.R_drew)); exact HO246.out) (Kd.R_base ho22) hb); have n1_ := Aside0.mk (Kd.R_lower (Kd.R_new' ho22 (Kd.R_lt (by (with_reducible repeat (first | apply Kd.R_alloc | apply Kd.R_drewN | apply Kd.R_drew)); exact HO246.out))) (below_size (by repeat (first | (with_reducible first | exact HB.out | apply below_alloc | apply pw_below_drewN | apply below_drew1 | refine below_set ?_ (IsS60.ge HI214.out)) | exact HB.out)))); have n2_ := Aside0.mk (IsS60.below (by repeat (first | (with_reducible first | exact HI214.out | apply IsS60.alloc | apply IsS60.drewN | apply IsS60.drew | apply IsS60.set_0 | apply IsS60.set_1 | apply IsS60.set_2 | apply IsS60.set_3 | apply IsS60.set_4 | apply IsS60.set_5 | apply IsS60.set_6 | apply IsS60.set_7) | exact HI214.out)) hb); have n3_ := Aside0.mk (below_step (by repeat (first | (with_reducible first | exact HB.out | apply below_alloc | apply pw_below_drewN | apply below_drew1 | refine below_set ?_ (IsS60.ge HI214.out)) | exact HB.out)) hb); clear HO246; clear HI214; clear HB; have HO246 := n0_; have HO249 := n1_; have HI214 := n2_; have HB := n3_; clear n0_ n1_ n2_ n3_; clear hb ho22; obtain ⟨Ao23, co23, eo23⟩ := Kd.R_slice HO246.out; subst eo23; obtain ⟨Ao24, co24, eo24⟩ := Kd.R_slice HO249.out; subst eo24) | (go_at_call 11; (with_reducible refine (trend_Line.calls kj2 _ _ y244 _ _ y247 t250 _ ?side1 ?side2 ?side3 ?side4 A14.out).mono ?_); (case side1 => repeat (first | exact (Kd.R_reads' HO246.out).2.2 | (with_reducible refine Kd.C_alloc ?_ _) | (with_reducible refine Kd.C_drewN ?_ _) | (with_reducible refine Kd.C_drew ?_))); (case side2 => exact (Kd.R_reads' HO246.out).2.1); (case side3 => repeat (first | exact (Kd.R_reads' HO249.out).2.2 | (with_reducible refine Kd.C_alloc ?_ _) | (with_reducible refine Kd.C_drewN ?_ _) | (with_reducible refine Kd.C_drew ?_))); (case side4 => exact (Kd.R_reads' HO249.out).2.1); rintro e w25 ⟨rfl, hb⟩; have n0_ := Aside0.mk (Kd.R_below (by (with_reducible repeat (first | apply Kd.R_alloc | apply Kd.R_drewN | apply Kd.R_drew)); exact HO246.out) hb); have n1_ := Aside0.mk (Kd.R_below (by (with_reducible repeat (first | apply Kd.R_alloc | apply Kd.R_drewN | apply Kd.R_drew)); exact HO249.out) hb); have n2_ := Aside0.mk (IsS60.below (by repeat (first | (with_reducible first | exact HI214.out | apply IsS60.alloc | apply IsS60.drewN | apply IsS60.drew | apply IsS60.set_0 | apply IsS60.set_1 | apply IsS60.set_2 | apply IsS60.set_3 | apply IsS60.set_4 | apply IsS60.set_5 | apply IsS60.set_6 | apply IsS60.set_7) | exact HI214.out)) hb); have n3_ := Aside0.mk (below_step (by repeat (first | (with_reducible first | exact HB.out | apply below_alloc | apply pw_below_drewN | apply below_drew1 | refine below_set ?_ (IsS60.ge HI214.out)) | exact HB.out)) hb); clear HO246; clear HO249; clear HI214; clear HB; have HO246 := n0_; have HO249 := n1_; have HI214 := n2_; have HB := n3_; clear n0_ n1_ n2_ n3_; (try clear hb); (try clear hb2); (try clear hk); (try clear hi)) | (go_at_call 22; (with_reducible refine (fixed_Of.calls 2 t251 _ A15.out).mono ?_); rintro e w26 ⟨rfl, hb⟩; have n0_ := Aside0.mk (Kd.R_below (by (with_reducible repeat (first | apply Kd.R_alloc | apply Kd.R_drewN | apply Kd.R_drew)); exact HO246.out) hb); have n1_ := Aside0.mk (Kd.R_below (by (with_reducible repeat (first | apply Kd.R_alloc | apply Kd.R_drewN | apply Kd.R_drew)); exact HO249.out) hb); have n2_ := Aside0.mk (IsS60.below (by repeat (first | (with_reducible first | exact HI214.out | apply IsS60.alloc | apply IsS60.drewN | apply IsS60.drew | apply IsS60.set_0 | apply IsS60.set_1 | apply IsS60.set_2 | apply IsS60.set_3 | apply IsS60.set_4 | apply IsS60.set_5 | apply IsS60.set_6 | apply IsS60.set_7) | exact HI214.out)) hb); have n3_ := Aside0.mk (below_step (by repeat (first | (with_reducible first | exact HB.out | apply below_alloc | apply pw_below_drewN | apply below_drew1 | refine below_set ?_ (IsS60.ge HI214.out)) | exact HB.out)) hb); clear HO246; clear HO249; clear HI214; clear HB; have HO246 := n0_; have HO249 := n1_; have HI214 := n2_; have HB := n3_; clear n0_ n1_ n2_ n3_; (try clear hb); (try clear hb2); (try clear hk); (try clear hi)))
       go_ret
       exact ⟨by first | rfl | (simp [errW_none, errW_some] <;> rfl) | (simp [*, errW_none, errW_some] <;> rfl), by repeat (first | (with_reducible first | exact HB.out | apply below_alloc | apply pw_below_drewN | apply below_drew1 | refine below_set ?_ (IsS60.ge HI214.out)) | exact HB.out)⟩
      ·rw [if_neg c13] at H
       have c13b0 : (t235 == 2) = false := beq_eq_false_iff_ne.mpr c13
       have c13b1 : (t235 != 2) = true := bne_iff_ne.mpr c13
       obtain rfl := Option.some.inj H
       go_wp2_with (first | ((with_reducible refine gate_callee (f := 16) rfl ?_); refine goesL_ (some 15) rfl rfl Try.func16 (by kernel_rfl) rfl #[.pointer (some ⟨g214, 0, none⟩), .int .i64 10, .int .i64 15] rfl (by (try simp only [List.map_toArray, List.map_cons, List.map_nil]); first | done | rfl | (simp only [List.length_drop, List.length_take]; rfl)) ?_; (with_reducible refine (trend_Trend_Add.calls kj2 g214 x215000_2 x215001_2 x215002_2 x215003_2 x215004_2 x215005_2 x215006_2 x215007_2 10 15 t225 t226 t227 t228 t229 t230 t231 t232 t233 w _ ?side1 ?side2 A9.out).mono ?_); (case side1 => repeat (first | (with_reducible first | exact HI214.out | apply IsS60.alloc | apply IsS60.drewN | apply IsS60.drew | apply IsS60.set_0 | apply IsS60.set_1 | apply IsS60.set_2 | apply IsS60.set_3 | apply IsS60.set_4 | apply IsS60.set_5 | apply IsS60.set_6 | apply IsS60.set_7) | exact HI214.out)); (case side2 => repeat (first | (with_reducible first | exact HB.out | apply below_alloc | apply pw_below_drewN | apply below_drew1 | refine below_set ?_ (IsS60.ge HI214.out)) | exact HB.out)); rintro e w27 ⟨rfl, hi, hb, hk⟩; refine ⟨_, rfl, ?_⟩; have n0_ := Aside0.mk (hb); have n1_ := Aside0.mk (hi); clear HB; clear HI214; have HB := n0_; have HI214 := n1_; clear n0_ n1_; (try clear hb); (try clear hb2); (try clear hk); (try clear hi)) | ((with_reducible refine gate_callee (f := 22) rfl ?_); refine goesL_ (some 16) rfl rfl Try.func22 (by kernel_rfl) rfl #[.int .i64 1] rfl (by (try simp only [List.map_toArray, List.map_cons, List.map_nil]); first | done | rfl | (simp only [List.length_drop, List.length_take]; rfl)) ?_; (with_reducible refine (fixed_Of.calls 1 t234 _ A10.out).mono ?_); rintro e w28 ⟨rfl, hb⟩; refine ⟨_, rfl, ?_⟩; have n0_ := Aside0.mk (IsS60.below (by repeat (first | (with_reducible first | exact HI214.out | apply IsS60.alloc | apply IsS60.drewN | apply IsS60.drew | apply IsS60.set_0 | apply IsS60.set_1 | apply IsS60.set_2 | apply IsS60.set_3 | apply IsS60.set_4 | apply IsS60.set_5 | apply IsS60.set_6 | apply IsS60.set_7) | exact HI214.out)) hb); have n1_ := Aside0.mk (below_step (by repeat (first | (with_reducible first | exact HB.out | apply below_alloc | apply pw_below_drewN | apply below_drew1 | refine below_set ?_ (IsS60.ge HI214.out)) | exact HB.out)) hb); clear HI214; clear HB; have HI214 := n0_; have HB := n1_; clear n0_ n1_; (try clear hb); (try clear hb2); (try clear hk); (try clear hi)) | (go_at_call 20; (with_reducible refine (trend_Trend_Count.calls g214 t226 t227 t228 t229 t230 t231 t232 t233 t235 t236 t237 t238 t239 t240 t241 t242 t243 w _ ?side1 ?side2 A12.out).mono ?_); (case side1 => repeat (first | (with_reducible first | exact HI214.out | apply IsS60.alloc | apply IsS60.drewN | apply IsS60.drew | apply IsS60.set_0 | apply IsS60.set_1 | apply IsS60.set_2 | apply IsS60.set_3 | apply IsS60.set_4 | apply IsS60.set_5 | apply IsS60.set_6 | apply IsS60.set_7) | exact HI214.out)); (case side2 => repeat (first | (with_reducible first | exact HB.out | apply below_alloc | apply pw_below_drewN | apply below_drew1 | refine below_set ?_ (IsS60.ge HI214.out)) | exact HB.out)); rintro e w29 ⟨rfl, hi, hb, hk⟩; have n0_ := Aside0.mk (hb); have n1_ := Aside0.mk (hi); clear HB; clear HI214; have HB := n0_; have HI214 := n1_; clear n0_ n1_; (try clear hb); (try clear hb2); (try clear hk); (try clear hi)))
       go_ret
       exact ⟨by first | rfl | (simp [errW_none, errW_some] <;> rfl) | (simp [*, errW_none, errW_some] <;> rfl), by repeat (first | (with_reducible first | exact HB.out | apply below_alloc | apply pw_below_drewN | apply below_drew1 | refine below_set ?_ (IsS60.ge HI214.out)) | exact HB.out)⟩
     ·rw [if_neg c11] at H
      have c11b0 : (t225 == (wrap64 (Int.tdiv t234 2))) = false := beq_eq_false_iff_ne.mpr c11
      have c11b1 : (t225 != (wrap64 (Int.tdiv t234 2))) = true := bne_iff_ne.mpr c11
      obtain rfl := Option.some.inj H
      go_wp2_with (first | ((with_reducible refine gate_callee (f := 16) rfl ?_); refine goesL_ (some 15) rfl rfl Try.func16 (by kernel_rfl) rfl #[.pointer (some ⟨g214, 0, none⟩), .int .i64 10, .int .i64 15] rfl (by (try simp only [List.map_toArray, List.map_cons, List.map_nil]); first | done | rfl | (simp only [List.length_drop, List.length_take]; rfl)) ?_; (with_reducible refine (trend_Trend_Add.calls kj2 g214 x215000_2 x215001_2 x215002_2 x215003_2 x215004_2 x215005_2 x215006_2 x215007_2 10 15 t225 t226 t227 t228 t229 t230 t231 t232 t233 w _ ?side1 ?side2 A9.out).mono ?_); (case side1 => repeat (first | (with_reducible first | exact HI214.out | apply IsS60.alloc | apply IsS60.drewN | apply IsS60.drew | apply IsS60.set_0 | apply IsS60.set_1 | apply IsS60.set_2 | apply IsS60.set_3 | apply IsS60.set_4 | apply IsS60.set_5 | apply IsS60.set_6 | apply IsS60.set_7) | exact HI214.out)); (case side2 => repeat (first | (with_reducible first | exact HB.out | apply below_alloc | apply pw_below_drewN | apply below_drew1 | refine below_set ?_ (IsS60.ge HI214.out)) | exact HB.out)); rintro e w30 ⟨rfl, hi, hb, hk⟩; refine ⟨_, rfl, ?_⟩; have n0_ := Aside0.mk (hb); have n1_ := Aside0.mk (hi); clear HB; clear HI214; have HB := n0_; have HI214 := n1_; clear n0_ n1_; (try clear hb); (try clear hb2); (try clear hk); (try clear hi)) | ((with_reducible refine gate_callee (f := 22) rfl ?_); refine goesL_ (some 16) rfl rfl Try.func22 (by kernel_rfl) rfl #[.int .i64 1] rfl (by (try simp only [List.map_toArray, List.map_cons, List.map_nil]); first | done | rfl | (simp only [List.length_drop, List.length_take]; rfl)) ?_; (with_reducible refine (fixed_Of.calls 1 t234 _ A10.out).mono ?_); rintro e w31 ⟨rfl, hb⟩; refine ⟨_, rfl, ?_⟩; have n0_ := Aside0.mk (IsS60.below (by repeat (first | (with_reducible first | exact HI214.out | apply IsS60.alloc | apply IsS60.drewN | apply IsS60.drew | apply IsS60.set_0 | apply IsS60.set_1 | apply IsS60.set_2 | apply IsS60.set_3 | apply IsS60.set_4 | apply IsS60.set_5 | apply IsS60.set_6 | apply IsS60.set_7) | exact HI214.out)) hb); have n1_ := Aside0.mk (below_step (by repeat (first | (with_reducible first | exact HB.out | apply below_alloc | apply pw_below_drewN | apply below_drew1 | refine below_set ?_ (IsS60.ge HI214.out)) | exact HB.out)) hb); clear HI214; clear HB; have HI214 := n0_; have HB := n1_; clear n0_ n1_; (try clear hb); (try clear hb2); (try clear hk); (try clear hi)))
      go_ret
      exact ⟨by first | rfl | (simp [errW_none, errW_some] <;> rfl) | (simp [*, errW_none, errW_some] <;> rfl), by repeat (first | (with_reducible first | exact HB.out | apply below_alloc | apply pw_below_drewN | apply below_drew1 | refine below_set ?_ (IsS60.ge HI214.out)) | exact HB.out)⟩
 ·rw [if_neg c1] at H
  have c1b0 : (trend_New.made.f 2 0).isSome = false := by simpa using c1
  clear c1
  replace H := Option.bind_eq_some_iff.mp H
  obtain ⟨t252, A320, H⟩ := H
  replace H : (if t252 = 0 then ((trend_Trend_Add.nilrecv.f 10 15).bind fun t253 => (flywheellaw17_wakes.j1 k (t253 != 0))) else (flywheellaw17_wakes.j1 k true)) = some r := H
  have A32 := Aside0.mk A320
  clear A320
  have HC33 := Aside0.mk H
  clear H
  go_enter Try.func10, Try.ntmps10
  go_upto_region 2 with (first | ((with_reducible refine gate_callee (f := 14) rfl ?_); refine goesL_ (some 4) rfl rfl Try.func14 (by kernel_rfl) rfl #[.int .i64 2, .int .i64 0] rfl (by (try simp only [List.map_toArray, List.map_cons, List.map_nil]); first | done | rfl | (simp only [List.length_drop, List.length_take]; rfl)) ?_; (with_reducible refine (trend_New.nil.calls 2 0 t252 _ A32.out).mono ?_); rintro e w34 ⟨rfl, hb⟩; refine ⟨_, rfl, ?_⟩; have n0_ := Aside0.mk (below_step (by repeat (first | (with_reducible first | exact HB.out | apply below_alloc | apply pw_below_drewN | apply below_drew1) | exact HB.out)) hb); clear HB; have HB := n0_; clear n0_; (try clear hb); (try clear hb2); (try clear hk); (try clear hi)))
  (try simp only [Act.put, List.setIfInBounds_toArray, List.set_cons_zero, List.set_cons_succ])
  go_cut [13] (fun v13 wc => ∃ (kq : Nat) (x13_32 : Bool), v13 = .bool x13_32 ∧ Aside0 (flywheellaw17_wakes.j1 kq x13_32 = some r) ∧ Aside0 (kq ≤ k) ∧ Aside0 (Below w.heap.size w wc))
  case first =>
   have H := HC33.out
   clear HC33
   by_cases c35 : t252 = 0
   ·rw [if_pos c35] at H
    have c35b0 : (t252 == 0) = true := beq_iff_eq.mpr c35
    have c35b1 : (t252 != 0) = false := bne_eq_false_iff_eq.mpr c35
    clear c35
    (first | rw [c35b0] | (simp only [i64_w, i32_w]; rw [c35b0]) | skip)
    replace H := Option.bind_eq_some_iff.mp H
    obtain ⟨t253, A360, H⟩ := H
    replace H : (flywheellaw17_wakes.j1 k (t253 != 0)) = some r := H
    have A36 := Aside0.mk A360
    clear A360
    have H' := Aside0.mk H
    clear H
    go_wp2_with (first | (go_at_call 16; (with_reducible refine (trend_Trend_Add.nilrecv.calls  10 15 t253 _ A36.out).mono ?_); rintro e w37 ⟨rfl, hb⟩; have n0_ := Aside0.mk (below_step (by repeat (first | (with_reducible first | exact HB.out | apply below_alloc | apply pw_below_drewN | apply below_drew1) | exact HB.out)) hb); clear HB; have HB := n0_; clear n0_; (try clear hb); (try clear hb2); (try clear hk); (try clear hi)))
    go_meet
    case rel => exact ⟨_, ((t253 != 0)), (by first | rfl | (simp; done) | (simp [*]; done)), H', ⟨by first | omega | exact Nat.le_refl _⟩, ⟨by repeat (first | (with_reducible first | exact HB.out | apply below_alloc | apply pw_below_drewN | apply below_drew1) | exact HB.out)⟩⟩
   ·rw [if_neg c35] at H
    have c35b0 : (t252 == 0) = false := beq_eq_false_iff_ne.mpr c35
    have c35b1 : (t252 != 0) = true := bne_iff_ne.mpr c35
    (first | rw [c35b0] | (simp only [i64_w, i32_w]; rw [c35b0]) | skip)
    have H' := Aside0.mk H
    clear H
    go_wp2
    go_meet
    case rel => exact ⟨_, (true), (by first | rfl | (simp; done) | (simp [*]; done)), H', ⟨by first | omega | exact Nat.le_refl _⟩, ⟨by repeat (first | (with_reducible first | exact HB.out | apply below_alloc | apply pw_below_drewN | apply below_drew1) | exact HB.out)⟩⟩
  case rest =>
   clear HC33
   try clear c1
   try clear c1b0
   try clear c2
   try clear p2
   try clear c3
   try clear c5
   try clear c5b0
   try clear c5b1
   try clear p6
   try clear c8
   try clear c10
   try clear c11
   try clear c11b0
   try clear c11b1
   try clear c13
   try clear c13b0
   try clear c13b1
   try clear c14
   try clear c16
   try clear c22
   try clear c35
   try clear c35b0
   try clear c35b1
   try clear p2
   obtain ⟨kq, x13_32, rfl, HA, HJ32, HB⟩ := hcut
   cases kq with
   | zero => exact absurd HA.out (by simp [flywheellaw17_wakes.j1])
   | succ kj32 =>
    have H := HA.out
    clear HA
    simp only [flywheellaw17_wakes.j1] at H
    by_cases c38 : x13_32 = true
    ·subst c38
     have H1 : (some false) = some r := by rw [if_pos rfl] at H; exact H
     clear H
     have H := H1
     clear H1
     obtain rfl := Option.some.inj H
     go_wp2
     go_ret
     exact ⟨by first | rfl | (simp [errW_none, errW_some] <;> rfl) | (simp [*, errW_none, errW_some] <;> rfl), by repeat (first | (with_reducible first | exact HB.out | apply below_alloc | apply pw_below_drewN | apply below_drew1) | exact HB.out)⟩
    ·replace c38 := Bool.eq_false_iff.mpr c38
     subst c38
     have H1 : ((trend_Trend_Add.nilrecv.f 10 15).bind fun t254 => ((fixed_Of.f 1).bind fun t255 => (if t254 = (wrap64 (Int.tdiv t255 2)) then ((trend_Trend_Count.nilrecv.f).bind fun t256 => (if t256 = 2 then ((trend_Line.f kj32 (([0, 1, 2] : List Int)) (([0, 2, 4] : List Int))).bind fun t263 => ((fixed_Of.f 2).bind fun t264 => (some (t263 == t264)))) else (some false))) else (some false)))) = some r := by rw [if_neg (show ¬ (false = true) by decide)] at H; exact H
     clear H
     have H := H1
     clear H1
     replace H := Option.bind_eq_some_iff.mp H
     obtain ⟨t254, A390, H⟩ := H
     replace H : ((fixed_Of.f 1).bind fun t255 => (if t254 = (wrap64 (Int.tdiv t255 2)) then ((trend_Trend_Count.nilrecv.f).bind fun t256 => (if t256 = 2 then ((trend_Line.f kj32 (([0, 1, 2] : List Int)) (([0, 2, 4] : List Int))).bind fun t263 => ((fixed_Of.f 2).bind fun t264 => (some (t263 == t264)))) else (some false))) else (some false))) = some r := H
     have A39 := Aside0.mk A390
     clear A390
     replace H := Option.bind_eq_some_iff.mp H
     obtain ⟨t255, A400, H⟩ := H
     replace H : (if t254 = (wrap64 (Int.tdiv t255 2)) then ((trend_Trend_Count.nilrecv.f).bind fun t256 => (if t256 = 2 then ((trend_Line.f kj32 (([0, 1, 2] : List Int)) (([0, 2, 4] : List Int))).bind fun t263 => ((fixed_Of.f 2).bind fun t264 => (some (t263 == t264)))) else (some false))) else (some false)) = some r := H
     have A40 := Aside0.mk A400
     clear A400
     by_cases c41 : t254 = (wrap64 (Int.tdiv t255 2))
     ·rw [if_pos c41] at H
      have c41b0 : (t254 == (wrap64 (Int.tdiv t255 2))) = true := beq_iff_eq.mpr c41
      have c41b1 : (t254 != (wrap64 (Int.tdiv t255 2))) = false := bne_eq_false_iff_eq.mpr c41
      clear c41
      replace H := Option.bind_eq_some_iff.mp H
      obtain ⟨t256, A420, H⟩ := H
      replace H : (if t256 = 2 then ((trend_Line.f kj32 (([0, 1, 2] : List Int)) (([0, 2, 4] : List Int))).bind fun t263 => ((fixed_Of.f 2).bind fun t264 => (some (t263 == t264)))) else (some false)) = some r := H
      have A42 := Aside0.mk A420
      clear A420
      by_cases c43 : t256 = 2
      ·rw [if_pos c43] at H
       have c43b0 : (t256 == 2) = true := beq_iff_eq.mpr c43
       have c43b1 : (t256 != 2) = false := bne_eq_false_iff_eq.mpr c43
       clear c43
       obtain ⟨y257, hy257⟩ : ∃ y_ : List Int, y_ = (([0, 1, 2] : List Int)) := ⟨_, rfl⟩
       replace H : ((trend_Line.f kj32 y257 (([0, 2, 4] : List Int))).bind fun t263 => ((fixed_Of.f 2).bind fun t264 => (some (t263 == t264)))) = some r := by first | (rw [hy257]; with_reducible exact H) | (have H2_ := (Option.bind_some _ _).symm.trans H; rw [hy257]; with_reducible exact H2_) | (have H2_ := (Option.bind_some _ _).symm.trans H; with_reducible exact H2_) | with_reducible exact H | (rw [hy257]; exact H) | exact H
       have Ny257 := Aside0.mk hy257
       clear hy257
       obtain ⟨y260, hy260⟩ : ∃ y_ : List Int, y_ = (([0, 2, 4] : List Int)) := ⟨_, rfl⟩
       replace H : ((trend_Line.f kj32 y257 y260).bind fun t263 => ((fixed_Of.f 2).bind fun t264 => (some (t263 == t264)))) = some r := by first | (rw [hy260]; with_reducible exact H) | (have H2_ := (Option.bind_some _ _).symm.trans H; rw [hy260]; with_reducible exact H2_) | (have H2_ := (Option.bind_some _ _).symm.trans H; with_reducible exact H2_) | with_reducible exact H | (rw [hy260]; exact H) | exact H
       have Ny260 := Aside0.mk hy260
       clear hy260
       replace H := Option.bind_eq_some_iff.mp H
       obtain ⟨t263, A440, H⟩ := H
       replace H : ((fixed_Of.f 2).bind fun t264 => (some (t263 == t264))) = some r := H
       have A44 := Aside0.mk A440
       clear A440
       replace H := Option.bind_eq_some_iff.mp H
       obtain ⟨t264, A450, H⟩ := H
       replace H : (some (t263 == t264)) = some r := H
       have A45 := Aside0.mk A450
       clear A450
       obtain rfl := Option.some.inj H
       go_wp2_with (first | ((with_reducible refine gate_callee (f := 16) rfl ?_); refine goesL_ (some 15) rfl rfl Try.func16 (by kernel_rfl) rfl #[.pointer none, .int .i64 10, .int .i64 15] rfl (by (try simp only [List.map_toArray, List.map_cons, List.map_nil]); first | done | rfl | (simp only [List.length_drop, List.length_take]; rfl)) ?_; (with_reducible refine (trend_Trend_Add.nilrecv.calls  10 15 t254 _ A39.out).mono ?_); rintro e w46 ⟨rfl, hb⟩; refine ⟨_, rfl, ?_⟩; have n0_ := Aside0.mk (below_step (by repeat (first | (with_reducible first | exact HB.out | apply below_alloc | apply pw_below_drewN | apply below_drew1) | exact HB.out)) hb); clear HB; have HB := n0_; clear n0_; (try clear hb); (try clear hb2); (try clear hk); (try clear hi)) | ((with_reducible refine gate_callee (f := 22) rfl ?_); refine goesL_ (some 16) rfl rfl Try.func22 (by kernel_rfl) rfl #[.int .i64 1] rfl (by (try simp only [List.map_toArray, List.map_cons, List.map_nil]); first | done | rfl | (simp only [List.length_drop, List.length_take]; rfl)) ?_; (with_reducible refine (fixed_Of.calls 1 t255 _ A40.out).mono ?_); rintro e w47 ⟨rfl, hb⟩; refine ⟨_, rfl, ?_⟩; have n0_ := Aside0.mk (below_step (by repeat (first | (with_reducible first | exact HB.out | apply below_alloc | apply pw_below_drewN | apply below_drew1) | exact HB.out)) hb); clear HB; have HB := n0_; clear n0_; (try clear hb); (try clear hb2); (try clear hk); (try clear hi)) | (go_at_call 20; (with_reducible refine (trend_Trend_Count.nilrecv.calls  t256 _ A42.out).mono ?_); rintro e w' ⟨rfl, ⟨nd, rfl⟩⟩) | ((with_reducible refine gate_dst (N := 25) rfl ?_); (try (refine gate_guard (by rfl) ?_; dsimp only)); refine Kd.R_lit (Kd.int .i64) _ 2 ?hg (N := 25) ?hd (xs := ([0, 1, 2] : List Int)) (inner := [.int .i64 0, .int .i64 1, .int .i64 2]) (ok := fun _ => True) (okp := fun _ => True) ?hr ?hp (fun _ hk => hk) trivial (Below.refl _ _) (Nat.le_refl _) (by simp) ?_; (case hd => rfl); (case hg => rfl); (case hr => first | (go_simp; done) | (go_simp; rfl)); (case hp => exact (Reps.one (show Kd.M (Kd.int .i64) _ _ _ 0 [.int .i64 0] from rfl) (Reps.one (show Kd.M (Kd.int .i64) _ _ _ 1 [.int .i64 1] from rfl) (Reps.one (show Kd.M (Kd.int .i64) _ _ _ 2 [.int .i64 2] from rfl) (Reps.none _ _))))); intro v258 w48 ho49 hb hg_ hnew_; clear hg_ hnew_; (first | rw [← Ny257.out] at ho49 | (simp only [Int.reduceToNat] at ho49; rw [← Ny257.out] at ho49)); have n0_ := Aside0.mk (Kd.R_lower ho49 (below_size (by repeat (first | (with_reducible first | exact HB.out | apply below_alloc | apply pw_below_drewN | apply below_drew1) | exact HB.out)))); have n1_ := Aside0.mk (below_step (by repeat (first | (with_reducible first | exact HB.out | apply below_alloc | apply pw_below_drewN | apply below_drew1) | exact HB.out)) hb); clear HB; have HO259 := n0_; have HB := n1_; clear n0_ n1_; clear hb ho49) | ((with_reducible refine gate_dst (N := 26) rfl ?_); (try (refine gate_guard (by rfl) ?_; dsimp only)); refine Kd.R_lit (Kd.int .i64) _ 2 ?hg (N := 26) ?hd (xs := ([0, 2, 4] : List Int)) (inner := [.int .i64 0, .int .i64 2, .int .i64 4]) (ok := fun _ => True) (okp := fun _ => True) ?hr ?hp (fun _ hk => hk) trivial (Below.refl _ _) (Nat.le_refl _) (by simp) ?_; (case hd => rfl); (case hg => rfl); (case hr => first | (go_simp; done) | (go_simp; rfl)); (case hp => exact (Reps.one (show Kd.M (Kd.int .i64) _ _ _ 0 [.int .i64 0] from rfl) (Reps.one (show Kd.M (Kd.int .i64) _ _ _ 2 [.int .i64 2] from rfl) (Reps.one (show Kd.M (Kd.int .i64) _ _ _ 4 [.int .i64 4] from rfl) (Reps.none _ _))))); intro v261 w50 ho51 hb hg_ hnew_; clear hg_ hnew_; (first | rw [← Ny260.out] at ho51 | (simp only [Int.reduceToNat] at ho51; rw [← Ny260.out] at ho51)); have n0_ := Aside0.mk (Kd.R_elder' (by (with_reducible repeat (first | apply Kd.R_alloc | apply Kd.R_drewN | apply Kd.R_drew)); exact HO259.out) (Kd.R_base ho51) hb); have n1_ := Aside0.mk (Kd.R_lower (Kd.R_new' ho51 (Kd.R_lt (by (with_reducible repeat (first | apply Kd.R_alloc | apply Kd.R_drewN | apply Kd.R_drew)); exact HO259.out))) (below_size (by repeat (first | (with_reducible first | exact HB.out | apply below_alloc | apply pw_below_drewN | apply below_drew1) | exact HB.out)))); have n2_ := Aside0.mk (below_step (by repeat (first | (with_reducible first | exact HB.out | apply below_alloc | apply pw_below_drewN | apply below_drew1) | exact HB.out)) hb); clear HO259; clear HB; have HO259 := n0_; have HO262 := n1_; have HB := n2_; clear n0_ n1_ n2_; clear hb ho51; obtain ⟨Ao52, co52, eo52⟩ := Kd.R_slice HO259.out; subst eo52; obtain ⟨Ao53, co53, eo53⟩ := Kd.R_slice HO262.out; subst eo53) | (go_at_call 11; (with_reducible refine (trend_Line.calls kj32 _ _ y257 _ _ y260 t263 _ ?side1 ?side2 ?side3 ?side4 A44.out).mono ?_); (case side1 => repeat (first | exact (Kd.R_reads' HO259.out).2.2 | (with_reducible refine Kd.C_alloc ?_ _) | (with_reducible refine Kd.C_drewN ?_ _) | (with_reducible refine Kd.C_drew ?_))); (case side2 => exact (Kd.R_reads' HO259.out).2.1); (case side3 => repeat (first | exact (Kd.R_reads' HO262.out).2.2 | (with_reducible refine Kd.C_alloc ?_ _) | (with_reducible refine Kd.C_drewN ?_ _) | (with_reducible refine Kd.C_drew ?_))); (case side4 => exact (Kd.R_reads' HO262.out).2.1); rintro e w54 ⟨rfl, hb⟩; have n0_ := Aside0.mk (Kd.R_below (by (with_reducible repeat (first | apply Kd.R_alloc | apply Kd.R_drewN | apply Kd.R_drew)); exact HO259.out) hb); have n1_ := Aside0.mk (Kd.R_below (by (with_reducible repeat (first | apply Kd.R_alloc | apply Kd.R_drewN | apply Kd.R_drew)); exact HO262.out) hb); have n2_ := Aside0.mk (below_step (by repeat (first | (with_reducible first | exact HB.out | apply below_alloc | apply pw_below_drewN | apply below_drew1) | exact HB.out)) hb); clear HO259; clear HO262; clear HB; have HO259 := n0_; have HO262 := n1_; have HB := n2_; clear n0_ n1_ n2_; (try clear hb); (try clear hb2); (try clear hk); (try clear hi)) | (go_at_call 22; (with_reducible refine (fixed_Of.calls 2 t264 _ A45.out).mono ?_); rintro e w55 ⟨rfl, hb⟩; have n0_ := Aside0.mk (Kd.R_below (by (with_reducible repeat (first | apply Kd.R_alloc | apply Kd.R_drewN | apply Kd.R_drew)); exact HO259.out) hb); have n1_ := Aside0.mk (Kd.R_below (by (with_reducible repeat (first | apply Kd.R_alloc | apply Kd.R_drewN | apply Kd.R_drew)); exact HO262.out) hb); have n2_ := Aside0.mk (below_step (by repeat (first | (with_reducible first | exact HB.out | apply below_alloc | apply pw_below_drewN | apply below_drew1) | exact HB.out)) hb); clear HO259; clear HO262; clear HB; have HO259 := n0_; have HO262 := n1_; have HB := n2_; clear n0_ n1_ n2_; (try clear hb); (try clear hb2); (try clear hk); (try clear hi)))
       go_ret
       exact ⟨by first | rfl | (simp [errW_none, errW_some] <;> rfl) | (simp [*, errW_none, errW_some] <;> rfl), by repeat (first | (with_reducible first | exact HB.out | apply below_alloc | apply pw_below_drewN | apply below_drew1) | exact HB.out)⟩
      ·rw [if_neg c43] at H
       have c43b0 : (t256 == 2) = false := beq_eq_false_iff_ne.mpr c43
       have c43b1 : (t256 != 2) = true := bne_iff_ne.mpr c43
       obtain rfl := Option.some.inj H
       go_wp2_with (first | ((with_reducible refine gate_callee (f := 16) rfl ?_); refine goesL_ (some 15) rfl rfl Try.func16 (by kernel_rfl) rfl #[.pointer none, .int .i64 10, .int .i64 15] rfl (by (try simp only [List.map_toArray, List.map_cons, List.map_nil]); first | done | rfl | (simp only [List.length_drop, List.length_take]; rfl)) ?_; (with_reducible refine (trend_Trend_Add.nilrecv.calls  10 15 t254 _ A39.out).mono ?_); rintro e w56 ⟨rfl, hb⟩; refine ⟨_, rfl, ?_⟩; have n0_ := Aside0.mk (below_step (by repeat (first | (with_reducible first | exact HB.out | apply below_alloc | apply pw_below_drewN | apply below_drew1) | exact HB.out)) hb); clear HB; have HB := n0_; clear n0_; (try clear hb); (try clear hb2); (try clear hk); (try clear hi)) | ((with_reducible refine gate_callee (f := 22) rfl ?_); refine goesL_ (some 16) rfl rfl Try.func22 (by kernel_rfl) rfl #[.int .i64 1] rfl (by (try simp only [List.map_toArray, List.map_cons, List.map_nil]); first | done | rfl | (simp only [List.length_drop, List.length_take]; rfl)) ?_; (with_reducible refine (fixed_Of.calls 1 t255 _ A40.out).mono ?_); rintro e w57 ⟨rfl, hb⟩; refine ⟨_, rfl, ?_⟩; have n0_ := Aside0.mk (below_step (by repeat (first | (with_reducible first | exact HB.out | apply below_alloc | apply pw_below_drewN | apply below_drew1) | exact HB.out)) hb); clear HB; have HB := n0_; clear n0_; (try clear hb); (try clear hb2); (try clear hk); (try clear hi)) | (go_at_call 20; (with_reducible refine (trend_Trend_Count.nilrecv.calls  t256 _ A42.out).mono ?_); rintro e w' ⟨rfl, ⟨nd, rfl⟩⟩))
       go_ret
       exact ⟨by first | rfl | (simp [errW_none, errW_some] <;> rfl) | (simp [*, errW_none, errW_some] <;> rfl), by repeat (first | (with_reducible first | exact HB.out | apply below_alloc | apply pw_below_drewN | apply below_drew1) | exact HB.out)⟩
     ·rw [if_neg c41] at H
      have c41b0 : (t254 == (wrap64 (Int.tdiv t255 2))) = false := beq_eq_false_iff_ne.mpr c41
      have c41b1 : (t254 != (wrap64 (Int.tdiv t255 2))) = true := bne_iff_ne.mpr c41
      obtain rfl := Option.some.inj H
      go_wp2_with (first | ((with_reducible refine gate_callee (f := 16) rfl ?_); refine goesL_ (some 15) rfl rfl Try.func16 (by kernel_rfl) rfl #[.pointer none, .int .i64 10, .int .i64 15] rfl (by (try simp only [List.map_toArray, List.map_cons, List.map_nil]); first | done | rfl | (simp only [List.length_drop, List.length_take]; rfl)) ?_; (with_reducible refine (trend_Trend_Add.nilrecv.calls  10 15 t254 _ A39.out).mono ?_); rintro e w58 ⟨rfl, hb⟩; refine ⟨_, rfl, ?_⟩; have n0_ := Aside0.mk (below_step (by repeat (first | (with_reducible first | exact HB.out | apply below_alloc | apply pw_below_drewN | apply below_drew1) | exact HB.out)) hb); clear HB; have HB := n0_; clear n0_; (try clear hb); (try clear hb2); (try clear hk); (try clear hi)) | ((with_reducible refine gate_callee (f := 22) rfl ?_); refine goesL_ (some 16) rfl rfl Try.func22 (by kernel_rfl) rfl #[.int .i64 1] rfl (by (try simp only [List.map_toArray, List.map_cons, List.map_nil]); first | done | rfl | (simp only [List.length_drop, List.length_take]; rfl)) ?_; (with_reducible refine (fixed_Of.calls 1 t255 _ A40.out).mono ?_); rintro e w59 ⟨rfl, hb⟩; refine ⟨_, rfl, ?_⟩; have n0_ := Aside0.mk (below_step (by repeat (first | (with_reducible first | exact HB.out | apply below_alloc | apply pw_below_drewN | apply below_drew1) | exact HB.out)) hb); clear HB; have HB := n0_; clear n0_; (try clear hb); (try clear hb2); (try clear hk); (try clear hi)))
      go_ret
      exact ⟨by first | rfl | (simp [errW_none, errW_some] <;> rfl) | (simp [*, errW_none, errW_some] <;> rfl), by repeat (first | (with_reducible first | exact HB.out | apply below_alloc | apply pw_below_drewN | apply below_drew1) | exact HB.out)⟩
def flywheelref01_Sub.j0 : Nat → Int → Int → Bool → Option (Int)
 | 0, _, _, _ => none
 | k + 1, x0, x1, x12 => if x12 = true then (some 9223372036854775807) else (if x1 > 0 then (if x0 < (wrap64 ((-9223372036854775808) + x1)) then (some (-9223372036854775808)) else (some (wrap64 (x0 - x1)))) else (some (wrap64 (x0 - x1))))
def flywheelref01_Sub.f (k : Nat) (a0 : Int) (a1 : Int) : Option (Int) := if a1 < 0 then (flywheelref01_Sub.j0 k a0 a1 (decide (a0 > (wrap64 (9223372036854775807 + a1))))) else (flywheelref01_Sub.j0 k a0 a1 false)
set_option maxHeartbeats 8000000 in
set_option maxRecDepth 100000 in
theorem flywheelref01_Sub.calls (k : Nat) (a0 : Int) (a1 : Int) (r : Int) (w : World) (h : flywheelref01_Sub.f k a0 a1 = some r) :
  Calls Try.prog 30 #[.int .i64 a0, .int .i64 a1] w fun e w' => e = .returned (.int .i64 r) ∧ Drawn0 w w' := by
 have H : (if a1 < 0 then (flywheelref01_Sub.j0 k a0 a1 (decide (a0 > (wrap64 (9223372036854775807 + a1))))) else (flywheelref01_Sub.j0 k a0 a1 false)) = some r := h
 clear h
 have HC3 := Aside0.mk H
 clear H
 go_enter Try.func30, Try.ntmps30
 go_upto_region 1 with (fail)
 go_cut [12] (fun v12 wc => ∃ (kq : Nat) (x12_2 : Bool), v12 = .bool x12_2 ∧ Aside0 (flywheelref01_Sub.j0 kq a0 a1 x12_2 = some r) ∧ Aside0 (kq ≤ k) ∧ Drawn0 w wc)
 case first =>
  have H := HC3.out
  clear HC3
  by_cases c4 : a1 < 0
  ·rw [if_pos c4] at H
   have c4b0 : decide (a1 < 0) = true := decide_eq_true c4
   clear c4
   (first | rw [c4b0] | (simp only [i64_w, i32_w]; rw [c4b0]) | skip)
   have H' := Aside0.mk H
   clear H
   go_wp2
   go_meet
   case rel => exact ⟨_, (decide (a0 > (wrap64 (9223372036854775807 + a1)))), (by first | rfl | (simp; done) | (simp [*]; done)), H', ⟨by first | omega | exact Nat.le_refl _⟩, by repeat (first | exact Drawn0.refl _ | apply Drawn0.step)⟩
  ·rw [if_neg c4] at H
   have c4b0 : decide (a1 < 0) = false := decide_eq_false c4
   clear c4
   (first | rw [c4b0] | (simp only [i64_w, i32_w]; rw [c4b0]) | skip)
   have H' := Aside0.mk H
   clear H
   go_wp2
   go_meet
   case rel => exact ⟨_, (false), (by first | rfl | (simp; done) | (simp [*]; done)), H', ⟨by first | omega | exact Nat.le_refl _⟩, by repeat (first | exact Drawn0.refl _ | apply Drawn0.step)⟩
 case rest =>
  clear HC3
  try clear p2
  try clear c3
  try clear c4
  try clear c4b0
  obtain ⟨kq, x12_2, rfl, HA, HJ2, ⟨mc2, rfl⟩⟩ := hcut
  cases kq with
  | zero => exact absurd HA.out (by simp [flywheelref01_Sub.j0])
  | succ kj2 =>
   have H := HA.out
   clear HA
   simp only [flywheelref01_Sub.j0] at H
   by_cases c5 : x12_2 = true
   ·subst c5
    have H1 : (some 9223372036854775807) = some r := by rw [if_pos rfl] at H; exact H
    clear H
    have H := H1
    clear H1
    obtain rfl := Option.some.inj H
    go_wp2
    go_ret
    exact ⟨by first | rfl | (simp; done) | (simp [*]; done), by repeat (first | exact Drawn0.refl _ | apply Drawn0.step)⟩
   ·replace c5 := Bool.eq_false_iff.mpr c5
    subst c5
    have H1 : (if a1 > 0 then (if a0 < (wrap64 ((-9223372036854775808) + a1)) then (some (-9223372036854775808)) else (some (wrap64 (a0 - a1)))) else (some (wrap64 (a0 - a1)))) = some r := by rw [if_neg (show ¬ (false = true) by decide)] at H; exact H
    clear H
    have H := H1
    clear H1
    by_cases c6 : a1 > 0
    ·rw [if_pos c6] at H
     have c6b0 : decide (0 < a1) = true := decide_eq_true c6
     clear c6
     by_cases c7 : a0 < (wrap64 ((-9223372036854775808) + a1))
     ·rw [if_pos c7] at H
      have c7b0 : decide (a0 < (wrap64 ((-9223372036854775808) + a1))) = true := decide_eq_true c7
      clear c7
      obtain rfl := Option.some.inj H
      go_wp2
      go_ret
      exact ⟨by first | rfl | (simp; done) | (simp [*]; done), by repeat (first | exact Drawn0.refl _ | apply Drawn0.step)⟩
     ·rw [if_neg c7] at H
      have c7b0 : decide (a0 < (wrap64 ((-9223372036854775808) + a1))) = false := decide_eq_false c7
      clear c7
      obtain rfl := Option.some.inj H
      go_wp2
      go_ret
      exact ⟨by first | rfl | (simp; done) | (simp [*]; done), by repeat (first | exact Drawn0.refl _ | apply Drawn0.step)⟩
    ·rw [if_neg c6] at H
     have c6b0 : decide (0 < a1) = false := decide_eq_false c6
     clear c6
     obtain rfl := Option.some.inj H
     go_wp2
     go_ret
     exact ⟨by first | rfl | (simp; done) | (simp [*]; done), by repeat (first | exact Drawn0.refl _ | apply Drawn0.step)⟩
def flywheelref01_Sum.l0 : Nat → List Int → Int → Int → Int → Option (Int)
 | 0, _, _, _, _ => none
 | k + 1, x0, x3, x4, x5 => if x5 < (x0.length : Int) then (if 0 ≤ x5 then (flywheelref01_Sum.l0 k x0 (wrap64 ((wrap64 (x3 + ((rd x0 x5) / 4294967296))) + ((wrap64 (x4 + (wrap64 ((rd x0 x5) - (wrap64 (((rd x0 x5) / 4294967296) * 4294967296)))))) / 4294967296))) (Go.bits .and .i64 (wrap64 (x4 + (wrap64 ((rd x0 x5) - (wrap64 (((rd x0 x5) / 4294967296) * 4294967296)))))) 4294967295) (wrap64 (x5 + 1))) else (none)) else (if x3 ≥ 2147483648 then (some 9223372036854775807) else (if x3 < (-2147483648) then (some (-9223372036854775808)) else (some (wrap64 ((wrap64 (x3 * 4294967296)) + x4)))))
def flywheelref01_Sum.f (k : Nat) (l0 : List Int) : Option (Int) := flywheelref01_Sum.l0 k l0 0 0 0
set_option maxHeartbeats 8000000 in
set_option maxRecDepth 100000 in
theorem flywheelref01_Sum.calls (k : Nat) (A0 : Option Addr) (c0 : Nat) (l0 : List Int) (r : Int) (w : World) (hr0 : Kd.C (Kd.int .i64) w A0 l0.length l0) (hc0 : l0.length ≤ c0) (h : flywheelref01_Sum.f k l0 = some r) :
  Calls Try.prog 31 #[.slice A0 l0.length c0] w fun e w' => e = .returned (.int .i64 r) ∧ Drawn0 w w' := by
 have HR0 := Aside0.mk hr0
 have HC0 := Aside0.mk hc0
 clear hr0 hc0
 have H : (flywheelref01_Sum.l0 k l0 0 0 0) = some r := h
 clear h
 have H' := Aside0.mk H
 clear H
 go_enter Try.func31, Try.ntmps31
 go_wp2
 go_loopg [3, 4, 5] k (fun kq v3 v4 v5 w' => ∃ (x3_1 : Int) (x4_1 : Int) (x5_1 : Int), v3 = .int .i64 x3_1 ∧ v4 = .int .i64 x4_1 ∧ v5 = .int .i64 x5_1 ∧ Aside0 (flywheelref01_Sum.l0 kq l0 x3_1 x4_1 x5_1 = some r) ∧ Aside0 (kq ≤ k) ∧ Drawn0 w w')
 case atStart => exact ⟨(0), (0), (0), (by first | rfl | (simp; done) | (simp [*]; done)), (by first | rfl | (simp; done) | (simp [*]; done)), (by first | rfl | (simp; done) | (simp [*]; done)), H', ⟨Nat.le_refl _⟩, by repeat (first | exact Drawn0.refl _ | apply Drawn0.step)⟩
 case round =>
  clear H'
  obtain ⟨x3_1, x4_1, x5_1, rfl, rfl, rfl, HA, HK1, ⟨m1, rfl⟩⟩ := hrel
  cases gk with
  | zero => exact absurd HA.out (by simp [flywheelref01_Sum.l0])
  | succ k1 =>
   have H := HA.out
   clear HA
   simp only [flywheelref01_Sum.l0] at H
   by_cases c2 : x5_1 < (l0.length : Int)
   ·rw [if_pos c2] at H
    have c2b0 : decide (x5_1 < (l0.length : Int)) = true := decide_eq_true c2
    clear c2
    by_cases c3 : 0 ≤ x5_1
    ·rw [if_pos c3] at H
     have c3b0 : decide (0 ≤ x5_1) = true := decide_eq_true c3
     clear c3
     have H' := Aside0.mk H
     clear H
     have p265 : 0 ≤ (x5_1 : Int) := of_decide_eq_true (by first | (with_reducible assumption) | assumption)
     have q265 : x5_1 < (l0.length : Int) := of_decide_eq_true (by first | (with_reducible assumption) | assumption)
     obtain ⟨ad265, e265, hx265_0⟩ := Kd.at_int HR0.out x5_1 p265 q265
     cases e265
     replace p265 := eq_true p265
     replace q265 := eq_true q265
     have p266 : 0 ≤ (x5_1 : Int) := of_decide_eq_true (by first | (with_reducible assumption) | assumption)
     have q266 : x5_1 < (l0.length : Int) := of_decide_eq_true (by first | (with_reducible assumption) | assumption)
     obtain ⟨ad266, e266, hx266_0⟩ := Kd.at_int HR0.out x5_1 p266 q266
     obtain rfl : ad265 = ad266 := (by injection e266)
     replace p266 := eq_true p266
     replace q266 := eq_true q266
     go_wp2
     go_roundg k1
     case measure => have := HK1.out; omega
     case rel => exact ⟨(wrap64 ((wrap64 (x3_1 + ((rd l0 x5_1) / 4294967296))) + ((wrap64 (x4_1 + (wrap64 ((rd l0 x5_1) - (wrap64 (((rd l0 x5_1) / 4294967296) * 4294967296)))))) / 4294967296))), (Go.bits .and .i64 (wrap64 (x4_1 + (wrap64 ((rd l0 x5_1) - (wrap64 (((rd l0 x5_1) / 4294967296) * 4294967296)))))) 4294967295), (wrap64 (x5_1 + 1)), (by first | rfl | (simp; done) | (simp [*]; done)), (by first | rfl | (simp; done) | (simp [*]; done)), (by first | rfl | (simp; done) | (simp [*]; done)), H', ⟨by have := HK1.out; omega⟩, by repeat (first | exact Drawn0.refl _ | apply Drawn0.step)⟩
    ·rw [if_neg c3] at H
     exact absurd H (by simp)
   ·rw [if_neg c2] at H
    have c2b0 : decide (x5_1 < (l0.length : Int)) = false := decide_eq_false c2
    clear c2
    by_cases c4 : x3_1 ≥ 2147483648
    ·rw [if_pos c4] at H
     have c4b0 : decide (2147483648 ≤ x3_1) = true := decide_eq_true c4
     clear c4
     obtain rfl := Option.some.inj H
     go_wp2
     go_ret
     exact ⟨by first | rfl | (simp; done) | (simp [*]; done), by repeat (first | exact Drawn0.refl _ | apply Drawn0.step)⟩
    ·rw [if_neg c4] at H
     have c4b0 : decide (2147483648 ≤ x3_1) = false := decide_eq_false c4
     clear c4
     by_cases c5 : x3_1 < (-2147483648)
     ·rw [if_pos c5] at H
      have c5b0 : decide (x3_1 < (-2147483648)) = true := decide_eq_true c5
      clear c5
      obtain rfl := Option.some.inj H
      go_wp2
      go_ret
      exact ⟨by first | rfl | (simp; done) | (simp [*]; done), by repeat (first | exact Drawn0.refl _ | apply Drawn0.step)⟩
     ·rw [if_neg c5] at H
      have c5b0 : decide (x3_1 < (-2147483648)) = false := decide_eq_false c5
      clear c5
      obtain rfl := Option.some.inj H
      go_wp2
      go_ret
      exact ⟨by first | rfl | (simp; done) | (simp [*]; done), by repeat (first | exact Drawn0.refl _ | apply Drawn0.step)⟩
def flywheelref01_Neg.f (k : Nat) (a0 : Int) : Option (Int) := (flywheelref01_Sub.f k 0 a0).bind fun t267 => (some t267)
set_option maxHeartbeats 8000000 in
set_option maxRecDepth 100000 in
theorem flywheelref01_Neg.calls (k : Nat) (a0 : Int) (r : Int) (w : World) (h : flywheelref01_Neg.f k a0 = some r) :
  Calls Try.prog 54 #[.int .i64 a0] w fun e w' => e = .returned (.int .i64 r) ∧ Drawn0 w w' := by
 have H : ((flywheelref01_Sub.f k 0 a0).bind fun t267 => (some t267)) = some r := h
 clear h
 replace H := Option.bind_eq_some_iff.mp H
 obtain ⟨t267, A20, H⟩ := H
 replace H : (some t267) = some r := H
 have A2 := Aside0.mk A20
 clear A20
 obtain rfl := Option.some.inj H
 go_enter Try.func54, Try.ntmps54
 go_wp2_with (first | ((with_reducible refine gate_callee (f := 30) rfl ?_); refine goesL_ (some 4) rfl rfl Try.func30 (by kernel_rfl) rfl #[.int .i64 0, .int .i64 a0] rfl (by (try simp only [List.map_toArray, List.map_cons, List.map_nil]); first | done | rfl | (simp only [List.length_drop, List.length_take]; rfl)) ?_; (with_reducible refine (flywheelref01_Sub.calls k 0 a0 t267 _ A2.out).mono ?_); rintro e w' ⟨rfl, ⟨nd, rfl⟩⟩; refine ⟨_, rfl, ?_⟩))
 go_ret
 exact ⟨by first | rfl | (simp; done) | (simp [*]; done), by repeat (first | exact Drawn0.refl _ | apply Drawn0.step)⟩
def flywheelref01_Abs.f (k : Nat) (a0 : Int) : Option (Int) := if a0 < 0 then ((flywheelref01_Neg.f k a0).bind fun t268 => (some t268)) else (some a0)
set_option maxHeartbeats 8000000 in
set_option maxRecDepth 100000 in
theorem flywheelref01_Abs.calls (k : Nat) (a0 : Int) (r : Int) (w : World) (h : flywheelref01_Abs.f k a0 = some r) :
  Calls Try.prog 46 #[.int .i64 a0] w fun e w' => e = .returned (.int .i64 r) ∧ Drawn0 w w' := by
 have H : (if a0 < 0 then ((flywheelref01_Neg.f k a0).bind fun t268 => (some t268)) else (some a0)) = some r := h
 clear h
 by_cases c2 : a0 < 0
 ·rw [if_pos c2] at H
  have c2b0 : decide (a0 < 0) = true := decide_eq_true c2
  clear c2
  replace H := Option.bind_eq_some_iff.mp H
  obtain ⟨t268, A30, H⟩ := H
  replace H : (some t268) = some r := H
  have A3 := Aside0.mk A30
  clear A30
  obtain rfl := Option.some.inj H
  go_enter Try.func46, Try.ntmps46
  go_wp2_with (first | ((with_reducible refine gate_callee (f := 54) rfl ?_); refine goesL_ (some 6) rfl rfl Try.func54 (by kernel_rfl) rfl #[.int .i64 a0] rfl (by (try simp only [List.map_toArray, List.map_cons, List.map_nil]); first | done | rfl | (simp only [List.length_drop, List.length_take]; rfl)) ?_; (with_reducible refine (flywheelref01_Neg.calls k a0 t268 _ A3.out).mono ?_); rintro e w' ⟨rfl, ⟨nd, rfl⟩⟩; refine ⟨_, rfl, ?_⟩))
  go_ret
  exact ⟨by first | rfl | (simp; done) | (simp [*]; done), by repeat (first | exact Drawn0.refl _ | apply Drawn0.step)⟩
 ·rw [if_neg c2] at H
  have c2b0 : decide (a0 < 0) = false := decide_eq_false c2
  clear c2
  obtain rfl := Option.some.inj H
  go_enter Try.func46, Try.ntmps46
  go_wp2
  go_ret
  exact ⟨by first | rfl | (simp; done) | (simp [*]; done), by repeat (first | exact Drawn0.refl _ | apply Drawn0.step)⟩
end Go.Proofs.Ytmcfgaokimlngaa.P
end

-- PUT TOGETHER by a program of this session: of the claim's texts, what is used
import Derived.Test.YtlgfnclgkhfhpaaKAllocSums2
import Derived.Test.YtlgfnclgkhfhpaaKAllocSums7
import Derived.Test.YtlgfnclgkhfhpaaKAllocSums8
section
namespace Go.Proofs.Ytlgfnclgkhfhpaa.P
open Go.RowKit Go.Proofs.YtlgfnclgkhfhpaaW.PrintWords Go.Proofs.YtlgfnclgkhfhpaaW.PrintLast Go.Proofs.YtlgfnclgkhfhpaaW.PrintMore
attribute [local go_sem] max2_int min2_int max_two min_two max_three min_three max_four min_four   -- for this text's walks alone
set_option linter.unusedVariables false
set_option linter.unusedSimpArgs false
mutual
def flywheellaw27_AllocSums.l0 : Nat → List (S31) → Int → List (S67) → Int → Int → Int → Int → Int → Option (Bool)
 | 0, _, _, _, _, _, _, _, _ => none
 | k + 1, x1, x7, x8, x9, x10, x11, x12, x13 => if x13 < (x8.length : Int) then (if 0 ≤ x13 then (if ((rd_T67 x8 x13).f0) < 0 then (some false) else (if ((rd_T67 x8 x13).f1) < 0 then (some false) else (if x13 < (x1.length : Int) then (if (wrap64 (((rd_T67 x8 x13).f0) + ((rd_T67 x8 x13).f1))) > ((rd_T31 x1 x13).f2) then (some false) else (if ((rd_T67 x8 x13).f1) > ((rd_T67 x8 x13).f0) then (some false) else (flywheellaw27_AllocSums.l0 k x1 x7 x8 x9 (wrap64 (x10 + (wrap64 (((rd_T67 x8 x13).f0) + ((rd_T67 x8 x13).f1))))) (wrap64 (x11 + ((rd_T31 x1 x13).f1))) (wrap64 (x12 + ((rd_T31 x1 x13).f2))) (wrap64 (x13 + 1))))) else (none)))) else (none)) else (flywheellaw27_AllocSums.l1 k x1 x7 x8 x9 x10 x11 x12 0)
def flywheellaw27_AllocSums.l1 : Nat → List (S31) → Int → List (S67) → Int → Int → Int → Int → Int → Option (Bool)
 | 0, _, _, _, _, _, _, _, _ => none
 | k + 1, x1, x7, x8, x9, x10, x11, x12, x15 => if x15 < (x8.length : Int) then (if x11 ≤ (wrap64 (x7 - x9)) then (if 0 ≤ x15 then (if x15 < (x1.length : Int) then (if (wrap64 (((rd_T67 x8 x15).f0) + ((rd_T67 x8 x15).f1))) < ((rd_T31 x1 x15).f1) then (some false) else (flywheellaw27_AllocSums.l1 k x1 x7 x8 x9 x10 x11 x12 (wrap64 (x15 + 1)))) else (none)) else (none)) else (flywheellaw27_AllocSums.l1 k x1 x7 x8 x9 x10 x11 x12 (wrap64 (x15 + 1)))) else (if (x8.length : Int) = (x1.length : Int) then (if x9 ≥ 0 then (if x9 ≤ (wrap64 (Int.tdiv x7 4)) then (if x10 ≤ x7 then (if x10 = x7 then ((flywheellaw27_wakes.f k).bind fun t361 => (some t361)) else (if (wrap64 (x10 - x9)) = x12 then ((flywheellaw27_wakes.f k).bind fun t362 => (some t362)) else (some false))) else (some false)) else (some false)) else (some false)) else (some false))
end
def flywheellaw27_AllocSums.f (k : Nat) (a0 : Int) (l1 : List (S31)) (a2_0 : Int) (a2_1 : Int) : Option (Bool) := (flywheelref27_Good.f k l1).bind fun t336 => (if t336 = true then ((flywheellaw27_few.f l1).bind fun t342 => ((alloc_Share.f k a0 t342 (Int.tmod a2_0 1000) a2_1).bind fun bt345 => (flywheellaw27_AllocSums.l0 k l1 (mx 0 (mn a0 17179869184)) bt345.1 bt345.2 bt345.2 0 0 0))) else ((flywheellaw27_few.f l1).bind fun t337 => ((alloc_Split.nilres.f k a0 t337).bind fun t340 => ((flywheellaw27_wakes.f k).bind fun t341 => (some t341)))))
def flywheellaw27_AllocSums.T4 : Bool × List (List Nat × List Nat) := (true, [([], []), ([], []), ([1], [1]), ([], []), ([3], [3]), ([4], [4]), ([], []), ([6], [6]), ([0, 2, 5, 7, 2], [0, 2, 5, 7]), ([8], [8]), ([9], [9]), ([9], [9]), ([10, 8, 0, 1, 2, 3, 4, 5, 6, 7, 8, 9, 10], [10]), ([11, 12, 0, 1, 2, 3, 4, 5, 6, 7, 8, 9, 10, 11, 12], [11])])
def flywheellaw27_AllocSums.B4 : List Nat := [0, 0, 2, 0, 8, 24, 0, 64, 255, 511, 1023, 1023, 2047, 8191]
theorem flywheellaw27_AllocSums.tab4 : rtab .any (opsOf Try.f11 4) = flywheellaw27_AllocSums.T4 := by kernel_rfl
theorem flywheellaw27_AllocSums.bits4 : waitsOk flywheellaw27_AllocSums.T4.2 flywheellaw27_AllocSums.B4 = true := by kernel_rfl
def flywheellaw27_AllocSums.T9 : Bool × List (List Nat × List Nat) := (true, [([], []), ([], []), ([0, 1], [0, 1]), ([2], [2]), ([3], [3]), ([], []), ([], []), ([5, 6], [5, 6]), ([7], [7]), ([8], [8]), ([4, 9], [4, 9]), ([10, 0, 1, 2, 3, 4, 5, 6, 7, 8, 9, 10], [10])])
def flywheellaw27_AllocSums.B9 : List Nat := [0, 0, 3, 7, 15, 0, 0, 96, 224, 480, 1023, 2047]
theorem flywheellaw27_AllocSums.tab9 : rtab .any (opsOf Try.f11 9) = flywheellaw27_AllocSums.T9 := by kernel_rfl
theorem flywheellaw27_AllocSums.bits9 : waitsOk flywheellaw27_AllocSums.T9.2 flywheellaw27_AllocSums.B9 = true := by kernel_rfl
def flywheellaw27_AllocSums.T10 : Bool × List (List Nat × List Nat) := (true, [([], []), ([], []), ([0, 1], [0, 1]), ([2], [2]), ([3], [3]), ([4], [4]), ([5], [5]), ([6], [6]), ([6], [6]), ([7, 8, 6], [6, 7, 8]), ([9, 6], [6, 9]), ([10, 6], [6, 10]), ([11, 6], [6, 11]), ([6, 12], [6, 12]), ([13, 6], [13]), ([14], [14]), ([14], [14]), ([14], [14]), ([16, 17, 14], [14, 16, 17]), ([18, 14], [14, 18]), ([19, 14], [14, 19]), ([15, 20, 14], [14, 15, 20]), ([14, 21], [14, 21]), ([22, 14], [22]), ([23], [23]), ([23], [23]), ([24, 25, 23], [23, 24, 25]), ([26, 23], [23, 26]), ([27, 23], [23, 27]), ([23], [23]), ([23], [23]), ([29, 30, 23], [23, 29, 30]), ([31, 23], [23, 31]), ([32, 23], [23, 32]), ([28, 33, 23], [23, 28, 33]), ([23, 34], [23, 34])])
def flywheellaw27_AllocSums.B10 : List Nat := [0, 0, 3, 7, 15, 31, 63, 127, 127, 511, 1023, 2047, 4095, 8191, 16383, 32767, 32767, 32767, 229375, 491519, 1015807, 2097151, 4194303, 8388607, 16777215, 16777215, 67108863, 134217727, 268435455, 16777215, 16777215, 1627389951, 3774873599, 8069840895, 17179869183, 34359738367]
theorem flywheellaw27_AllocSums.tab10 : rtab .any (opsOf Try.f11 10) = flywheellaw27_AllocSums.T10 := by kernel_rfl
theorem flywheellaw27_AllocSums.bits10 : waitsOk flywheellaw27_AllocSums.T10.2 flywheellaw27_AllocSums.B10 = true := by kernel_rfl
def flywheellaw27_AllocSums.T18 : Bool × List (List Nat × List Nat) := (true, [([], []), ([], []), ([], []), ([1, 2], [1, 2]), ([0, 3], [0, 3]), ([4], [4]), ([5], [5]), ([5], [5]), ([6, 7, 5], [5, 6, 7]), ([8, 5], [5, 8]), ([9, 5], [5, 9]), ([5], [5]), ([5], [5]), ([11, 12, 5], [5, 11, 12]), ([13, 5], [5, 13]), ([14, 5], [5, 14]), ([10, 15, 5], [5, 10, 15]), ([5], [5]), ([5], [5]), ([17, 18, 5], [5, 17, 18]), ([19, 5], [5, 19]), ([20, 5], [5, 20]), ([16, 21, 5], [5, 16, 21]), ([5, 22], [5, 22])])
def flywheellaw27_AllocSums.B18 : List Nat := [0, 0, 0, 6, 15, 31, 63, 63, 255, 511, 1023, 63, 63, 6207, 14399, 30783, 65535, 63, 63, 393279, 917567, 1966143, 4194303, 8388607]
theorem flywheellaw27_AllocSums.tab18 : rtab .any (opsOf Try.f11 18) = flywheellaw27_AllocSums.T18 := by kernel_rfl
theorem flywheellaw27_AllocSums.bits18 : waitsOk flywheellaw27_AllocSums.T18.2 flywheellaw27_AllocSums.B18 = true := by kernel_rfl
set_option maxHeartbeats 8000000 in
set_option maxRecDepth 100000 in
theorem flywheellaw27_AllocSums.calls (k : Nat) (a0 : Int) (A1 : Option Addr) (c1 : Nat) (l1 : List (S31)) (a2_0 : Int) (a2_1 : Int) (r : Bool) (w : World) (hr1 : Kd.C k31 w A1 l1.length l1) (hc1 : l1.length ≤ c1) (h : flywheellaw27_AllocSums.f k a0 l1 a2_0 a2_1 = some r) :
  Calls Try.prog 11 #[.int .i64 a0, .slice A1 l1.length c1, .agg #[.int .i64 a2_0, .int .i64 a2_1]] w fun e w' => e = .returned (.bool r) ∧ Below w.heap.size w w' := by
 have hu57 := Try.underlying57
 have hsn27_eql : ∀ (W_ : World), (Go.binOp .eql 27 (.slice none 0 0) (.slice none 0 0)).run Try.prog W_ = .ok (.bool true) W_ := fun _ => by kernel_rfl
 have HR1 := Aside0.mk hr1
 have HC1 := Aside0.mk hc1
 clear hr1 hc1
 have HB := Aside0.mk (Below.refl w.heap.size w)
 have H : ((flywheelref27_Good.f k l1).bind fun t336 => (if t336 = true then ((flywheellaw27_few.f l1).bind fun t342 => ((alloc_Share.f k a0 t342 (Int.tmod a2_0 1000) a2_1).bind fun bt345 => (flywheellaw27_AllocSums.l0 k l1 (mx 0 (mn a0 17179869184)) bt345.1 bt345.2 bt345.2 0 0 0))) else ((flywheellaw27_few.f l1).bind fun t337 => ((alloc_Split.nilres.f k a0 t337).bind fun t340 => ((flywheellaw27_wakes.f k).bind fun t341 => (some t341)))))) = some r := h
 clear h
 replace H := Option.bind_eq_some_iff.mp H
 obtain ⟨t336, A40, H⟩ := H
 replace H : (if t336 = true then ((flywheellaw27_few.f l1).bind fun t342 => ((alloc_Share.f k a0 t342 (Int.tmod a2_0 1000) a2_1).bind fun bt345 => (flywheellaw27_AllocSums.l0 k l1 (mx 0 (mn a0 17179869184)) bt345.1 bt345.2 bt345.2 0 0 0))) else ((flywheellaw27_few.f l1).bind fun t337 => ((alloc_Split.nilres.f k a0 t337).bind fun t340 => ((flywheellaw27_wakes.f k).bind fun t341 => (some t341))))) = some r := H
 have A4 := Aside0.mk A40
 clear A40
 by_cases c5 : t336 = true
 ·subst c5
  have H1 : ((flywheellaw27_few.f l1).bind fun t342 => ((alloc_Share.f k a0 t342 (Int.tmod a2_0 1000) a2_1).bind fun bt345 => (flywheellaw27_AllocSums.l0 k l1 (mx 0 (mn a0 17179869184)) bt345.1 bt345.2 bt345.2 0 0 0))) = some r := by rw [if_pos rfl] at H; exact H
  clear H
  have H := H1
  clear H1
  obtain ⟨ji6, hji6⟩ : ∃ j_ : Int, (mn a0 17179869184) = j_ := ⟨_, rfl⟩
  replace H : ((flywheellaw27_few.f l1).bind fun t342 => ((alloc_Share.f k a0 t342 (Int.tmod a2_0 1000) a2_1).bind fun bt345 => (flywheellaw27_AllocSums.l0 k l1 (mx 0 (ji6)) bt345.1 bt345.2 bt345.2 0 0 0))) = some r := by first | (rw [hji6] at H; exact H) | (simp only [hji6] at H ⊢; exact H)
  (try rw [hji6] at A4)
  (try (have hji6h : ji6 ≤ 17179869184 := by (rw [← hji6]; unfold mn; (repeat' split) <;> omega)))
  (try (have hji6g : ji6 ≤ 64 := by omega))
  have hji6_ : (if 17179869184 < a0 then 17179869184 else a0) = ji6 := hji6
  obtain ⟨ji7, hji7⟩ : ∃ j_ : Int, (mx 0 (ji6)) = j_ := ⟨_, rfl⟩
  replace H : ((flywheellaw27_few.f l1).bind fun t342 => ((alloc_Share.f k a0 t342 (Int.tmod a2_0 1000) a2_1).bind fun bt345 => (flywheellaw27_AllocSums.l0 k l1 ji7 bt345.1 bt345.2 bt345.2 0 0 0))) = some r := by first | (rw [hji7] at H; exact H) | (simp only [hji7] at H ⊢; exact H)
  (try rw [hji7] at A4)
  have hji7_ : (if 0 < (ji6) then (ji6) else 0) = ji7 := hji7
  replace H := Option.bind_eq_some_iff.mp H
  obtain ⟨t342, A80, H⟩ := H
  replace H : ((alloc_Share.f k a0 t342 (Int.tmod a2_0 1000) a2_1).bind fun bt345 => (flywheellaw27_AllocSums.l0 k l1 ji7 bt345.1 bt345.2 bt345.2 0 0 0)) = some r := H
  have A8 := Aside0.mk A80
  clear A80
  replace H := Option.bind_eq_some_iff.mp H
  obtain ⟨⟨t345, t346⟩, A90, H⟩ := H
  replace H : (flywheellaw27_AllocSums.l0 k l1 ji7 t345 t346 t346 0 0 0) = some r := H
  have A9 := Aside0.mk A90
  clear A90
  have H' := Aside0.mk H
  clear H
  go_enter Try.func11, Try.ntmps11
  try go_wp2_with (first | ((with_reducible refine gate_dst (N := 5) rfl ?_); refine box_event ?hg (N := 5) ?hd (cs := #[.int .i64 a2_0, .int .i64 a2_1]) (t := 57) ?hr ?_; (case hd => rfl); (case hg => rfl); (case hr => first | (go_simp; done) | (go_simp; rfl)); intro gb335 hg w10 hbox hb; have n0_ := Aside0.mk (below_step (by repeat (first | (with_reducible first | exact HB.out | apply below_alloc | apply pw_below_drewN | apply below_drew1) | exact HB.out)) hb); have n1_ := Aside0.mk (hbox); have n2_ := Aside0.mk ((by rw [hg]; exact (below_size (by repeat (first | (with_reducible first | exact HB.out | apply below_alloc | apply pw_below_drewN | apply below_drew1) | exact HB.out))) : w.heap.size ≤ gb335)); have n3_ := Aside0.mk ((by rw [hg]; exact (below_size (by repeat (first | (with_reducible first | exact HB.out | apply below_alloc | apply pw_below_drewN | apply below_drew1) | exact HB.out))) : w.heap.size ≤ gb335)); clear HB; have HB := n0_; have BK335 := n1_; have GW335 := n2_; have GE335 := n3_; clear n0_ n1_ n2_ n3_; clear hb hbox hg) | ((with_reducible refine gate_callee (f := 16) rfl ?_); refine goesL_ (some 17) rfl rfl Try.func16 (by kernel_rfl) rfl #[.slice A1 l1.length c1] rfl (by (try simp only [List.map_toArray, List.map_cons, List.map_nil]); first | done | rfl | (simp only [List.length_drop, List.length_take]; rfl)) ?_; (with_reducible refine (flywheelref27_Good.calls k _ _ l1 true _ ?side1 ?side2 A4.out).mono ?_); (case side1 => repeat (first | exact (Kd.C_below HR1.out HB.out) | (with_reducible refine Kd.C_alloc ?_ _) | (with_reducible refine Kd.C_drewN ?_ _) | (with_reducible refine Kd.C_drew ?_))); (case side2 => exact HC1.out); rintro e w' ⟨rfl, ⟨nd, rfl⟩⟩; refine ⟨_, rfl, ?_⟩))
  (try (rw [drewN_self w10]; generalize hq_ : World.drewN w10 _ = w10; have n0_ : Aside0 (w10.heap[gb335]? = some (.cells #[.int .i64 a2_0, .int .i64 a2_1] 57 (0, 0))) := ⟨by rw [← hq_]; exact (by (with_reducible repeat (first | refine blk_drewN ?_ _ | refine blk_drew ?_ | refine blk_alloc ?_ _)); exact BK335.out)⟩; have n1_ : Aside0 (Below w.heap.size w w10) := ⟨by rw [← hq_]; exact (by repeat (first | (with_reducible first | exact HB.out | apply below_alloc | apply pw_below_drewN | apply below_drew1 | refine below_set ?_ GE335.out) | exact HB.out))⟩; clear BK335 HB hq_; have BK335 := n0_; have HB := n1_; clear n0_ n1_))
  have n0_ := Aside0.mk (blk_drew BK335.out)
  have n1_ := Aside0.mk (below_drew1 HB.out)
  clear BK335
  clear HB
  have BK335 := n0_
  have HB := n1_
  clear n0_ n1_
  refine start_ (n := 14) (S := fun w' => w'.cell? ⟨gb335, 0, none⟩ = some (.int .i64 a2_0) ∧ w'.cell? ⟨gb335, 1, none⟩ = some (.int .i64 a2_1)) (ds := []) #[false, false, false, false, false, false, false, false, false, false, false, false, false, false] (by kernel_rfl) rfl rfl ⟨(blk_cell BK335.out 0).trans rfl, (blk_cell BK335.out 1).trans rfl⟩ (fun hHeld => ?_); refine with_tabW flywheellaw27_AllocSums.tab4 flywheellaw27_AllocSums.bits4 (fun HT_ HW_ => ?_)
  generalize w10.drew = w11 at BK335 HB hHeld ⊢
  refine pure_ (i := 0) (N := some 31) (v := ?_) (a' := ?_) (bl 14 1) rfl rfl (any_of HT_.out (by kernel_rfl)) (fun _ _ _ h => h) (Or.inl ⟨by rfl, ?_⟩) ?_ ?_
  rotate_left
  ·intro w'
   go_simp
   with_reducible rfl
  rotate_left
  ·simp only [puts_]
   rfl
  refine pure_ (i := 1) (N := some 32) (v := ?_) (a' := ?_) (bl 14 3) rfl rfl (any_of HT_.out (by kernel_rfl)) (fun _ _ _ h => h) (Or.inl ⟨by rfl, ?_⟩) ?_ ?_
  rotate_left
  ·intro w'
   go_simp
   with_reducible rfl
  rotate_left
  ·simp only [puts_]
   rfl
  refine pure_ (i := 3) (N := some 34) (v := ?_) (a' := ?_) (bl 14 11) rfl rfl (any_of HT_.out (by kernel_rfl)) (fun _ _ _ h => h) (Or.inl ⟨by rfl, ?_⟩) ?_ ?_
  rotate_left
  ·intro w'
   go_simp
   with_reducible rfl
  rotate_left
  ·simp only [puts_]
   rfl
  refine pure_ (i := 6) (N := some 37) (v := ?_) (a' := ?_) (bl 14 75) rfl rfl (any_of HT_.out (by kernel_rfl)) (fun _ _ _ h => h) (Or.inl ⟨by rfl, ?_⟩) ?_ ?_
  rotate_left
  ·intro w'
   go_simp
   with_reducible rfl
  rotate_left
  ·simp only [puts_]
   rfl
  refine take_ (i := 4) (N := some 35) (v := ?_) (a' := ?_) (bl 14 91) rfl rfl (take_ofW HT_.out HW_.out (by kernel_rfl)) (fun _ _ _ h => h) (Or.inl ⟨by rfl, ?_⟩) hHeld ?_ ?_
  rotate_left
  ·rintro w' ⟨s0, s1⟩
   go_simp
   with_reducible rfl
  rotate_left
  ·simp only [puts_]
   rfl
  refine pure_ (i := 5) (N := some 36) (v := ?_) (a' := ?_) (bl 14 123) rfl rfl (any_of HT_.out (by kernel_rfl)) (fun _ _ _ h => h) (Or.inl ⟨by rfl, ?_⟩) ?_ ?_
  rotate_left
  ·intro w'
   go_simp
   with_reducible rfl
  rotate_left
  ·simp only [puts_]
   rfl
  refine take_ (i := 7) (N := some 38) (v := ?_) (a' := ?_) (bl 14 251) rfl rfl (take_ofW HT_.out HW_.out (by kernel_rfl)) (fun _ _ _ h => h) (Or.inl ⟨by rfl, ?_⟩) hHeld ?_ ?_
  rotate_left
  ·rintro w' ⟨s0, s1⟩
   go_simp
   with_reducible rfl
  rotate_left
  ·simp only [puts_]
   rfl
  refine one_ (i := 2) (N := some 33) (bl 14 255) rfl rfl (one_of HT_.out (by kernel_rfl)) (by decide) (fun K hK => ?_)
  refine goes_ Try.func15 (by kernel_rfl) rfl #[.slice A1 l1.length c1] (by rfl) rfl rfl (by (try simp only [List.map_toArray, List.map_cons, List.map_nil]); first | done | rfl | (simp only [List.length_drop, List.length_take]; rfl)) ?_
  with_reducible refine (flywheellaw27_few.calls _ _ l1 t342 _ ?side1 ?side2 A8.out).mono ?_
  (case side1 => repeat (first | exact (Kd.C_below HR1.out HB.out) | (with_reducible refine Kd.C_alloc ?_ _) | (with_reducible refine Kd.C_drewN ?_ _) | (with_reducible refine Kd.C_drew ?_)))
  (case side2 => exact HC1.out)
  rintro e w12 ⟨v343, rfl, ho0, hb⟩
  refine ⟨_, rfl, ?_⟩
  have n0_ := Aside0.mk (Kd.R_lower ho0 (below_size (by repeat (first | (with_reducible first | exact HB.out | apply below_alloc | apply pw_below_drewN | apply below_drew1 | refine below_set ?_ GE335.out) | exact HB.out))))
  have n1_ := Aside0.mk (blk_below (g := gb335) (o := .cells #[.int .i64 a2_0, .int .i64 a2_1] 57 (0, 0)) (by (with_reducible repeat (first | refine blk_drewN ?_ _ | refine blk_drew ?_ | refine blk_alloc ?_ _)); exact BK335.out) hb)
  have n2_ := Aside0.mk (below_step (by repeat (first | (with_reducible first | exact HB.out | apply below_alloc | apply pw_below_drewN | apply below_drew1 | refine below_set ?_ GE335.out) | exact HB.out)) hb)
  clear BK335
  clear HB
  have HO344 := n0_
  have BK335 := n1_
  have HB := n2_
  clear n0_ n1_ n2_
  (try clear hb)
  (try clear hb2)
  (try clear hk)
  (try clear hi)
  (try clear ho0)
  obtain ⟨Ao13, co13, eo13⟩ := Kd.R_slice HO344.out
  (first | subst eo13 | (injection eo13 with f1_ f2_ f3_; have f4_ := f1_.symm; have f5_ := f3_.symm; clear f1_ f2_ f3_; subst f4_; subst f5_))
  refine hK.out _ _ ⟨(blk_cell BK335.out 0).trans rfl, (blk_cell BK335.out 1).trans rfl⟩ (fun hHeld => ?_)
  clear hK K
  refine norm_ (a' := ?_) ?_ ?_
  rotate_left
  ·show Act.put _ (some 33) _ = _
   simp only [puts_]
   rfl
  refine one_ (i := 8) (N := some 39) (bl 14 511) rfl rfl (one_of HT_.out (by kernel_rfl)) (by decide) (fun K hK => ?_)
  refine goes_ Try.func36 (by kernel_rfl) rfl #[.int .i64 a0, .slice Ao13 t342.length co13, .int .i64 (Int.tmod a2_0 1000), .int .i64 a2_1] (by rfl) rfl rfl (by (try simp only [List.map_toArray, List.map_cons, List.map_nil]); first | done | rfl | (simp only [List.length_drop, List.length_take]; rfl)) ?_
  with_reducible refine (alloc_Share.calls k a0 _ _ t342 (Int.tmod a2_0 1000) a2_1 t345 t346 _ ?side1 ?side2 A9.out).mono ?_
  (case side1 => repeat (first | exact (Kd.R_reads' HO344.out).2.2 | (with_reducible refine Kd.C_alloc ?_ _) | (with_reducible refine Kd.C_drewN ?_ _) | (with_reducible refine Kd.C_drew ?_)))
  (case side2 => exact (Kd.R_reads' HO344.out).2.1)
  rintro e w14 ⟨v347, rfl, ho0, hb⟩
  refine ⟨_, rfl, ?_⟩
  have n0_ := Aside0.mk (Kd.R_below (by (with_reducible repeat (first | apply Kd.R_alloc | apply Kd.R_drewN | apply Kd.R_drew)); exact HO344.out) hb)
  have n1_ := Aside0.mk (Kd.R_lower ho0 (below_size (by repeat (first | (with_reducible first | exact HB.out | apply below_alloc | apply pw_below_drewN | apply below_drew1 | refine below_set ?_ GE335.out) | exact HB.out))))
  have n2_ := Aside0.mk (blk_below (g := gb335) (o := .cells #[.int .i64 a2_0, .int .i64 a2_1] 57 (0, 0)) (by (with_reducible repeat (first | refine blk_drewN ?_ _ | refine blk_drew ?_ | refine blk_alloc ?_ _)); exact BK335.out) hb)
  have n3_ := Aside0.mk (below_step (by repeat (first | (with_reducible first | exact HB.out | apply below_alloc | apply pw_below_drewN | apply below_drew1 | refine below_set ?_ GE335.out) | exact HB.out)) hb)
  clear HO344
  clear BK335
  clear HB
  have HO344 := n0_
  have HO348 := n1_
  have BK335 := n2_
  have HB := n3_
  clear n0_ n1_ n2_ n3_
  (try clear hb)
  (try clear hb2)
  (try clear hk)
  (try clear hi)
  (try clear ho0)
  refine hK.out _ _ ⟨(blk_cell BK335.out 0).trans rfl, (blk_cell BK335.out 1).trans rfl⟩ (fun hHeld => ?_)
  clear hK K
  refine norm_ (a' := ?_) ?_ ?_
  rotate_left
  ·show Act.put _ (some 39) _ = _
   simp only [puts_]
   rfl
  refine pure_ (i := 9) (N := some 30) (v := ?_) (a' := ?_) (bl 14 1023) rfl rfl (any_of HT_.out (by kernel_rfl)) (fun _ _ _ h => h) (Or.inl ⟨by rfl, ?_⟩) ?_ ?_
  rotate_left
  ·intro w'
   go_simp
   with_reducible rfl
  rotate_left
  ·simp only [puts_]
   rfl
  refine pure_ (i := 10) (N := some 40) (v := ?_) (a' := ?_) (bl 14 2047) rfl rfl (any_of HT_.out (by kernel_rfl)) (fun _ _ _ h => h) (Or.inl ⟨by rfl, ?_⟩) ?_ ?_
  rotate_left
  ·intro w'
   go_simp
   with_reducible rfl
  rotate_left
  ·simp only [puts_]
   rfl
  refine pure_ (i := 11) (N := some 41) (v := ?_) (a' := ?_) (bl 14 4095) rfl rfl (any_of HT_.out (by kernel_rfl)) (fun _ _ _ h => h) (Or.inl ⟨by rfl, ?_⟩) ?_ ?_
  rotate_left
  ·intro w'
   go_simp
   with_reducible rfl
  rotate_left
  ·simp only [puts_]
   rfl
  refine pure_ (i := 12) (N := some 8) (v := ?_) (a' := ?_) (bl 14 8191) rfl rfl (any_of HT_.out (by kernel_rfl)) (fun _ _ _ h => h) (Or.inl ⟨by rfl, ?_⟩) ?_ ?_
  rotate_left
  ·intro w'
   go_simp
   with_reducible rfl
  rotate_left
  ·simp only [puts_]
   rfl
  refine pure_ (i := 13) (N := some 9) (v := ?_) (a' := ?_) (bl 14 16383) rfl rfl (any_of HT_.out (by kernel_rfl)) (fun _ _ _ h => h) (Or.inl ⟨by rfl, ?_⟩) ?_ ?_
  rotate_left
  ·intro w'
   go_simp
   with_reducible rfl
  rotate_left
  ·simp only [puts_]
   rfl
  refine done_ (done_of HT_.out (by kernel_rfl)) ?_
  try go_wp2
  go_loopg [10, 11, 12, 13] k (fun kq v10 v11 v12 v13 w' => ∃ (x10_1 : Int) (x11_1 : Int) (x12_1 : Int) (x13_1 : Int), v10 = .int .i64 x10_1 ∧ v11 = .int .i64 x11_1 ∧ v12 = .int .i64 x12_1 ∧ v13 = .int .i64 x13_1 ∧ Aside0 (flywheellaw27_AllocSums.l0 kq l1 ji7 t345 t346 x10_1 x11_1 x12_1 x13_1 = some r) ∧ Aside0 (kq ≤ k) ∧ Aside0 (Kd.R k67 67 w' w.heap.size (fun _ => True) v347 t345) ∧ Aside0 (w'.heap[gb335]? = some (.cells #[.int .i64 a2_0, .int .i64 a2_1] 57 (0, 0))) ∧ Aside0 (Below w.heap.size w w'))
  case atStart => exact ⟨(t346), (0), (0), (0), (by first | rfl | (simp; done) | (simp [*]; done)), (by first | rfl | (simp; done) | (simp [*]; done)), (by first | rfl | (simp; done) | (simp [*]; done)), (by first | rfl | (simp; done) | (simp [*]; done)), H', ⟨Nat.le_refl _⟩, ⟨by (with_reducible repeat (first | apply Kd.R_alloc | apply Kd.R_drewN | apply Kd.R_drew)); exact HO348.out⟩, ⟨by (with_reducible repeat (first | refine blk_drewN ?_ _ | refine blk_drew ?_ | refine blk_alloc ?_ _)); exact BK335.out⟩, ⟨by repeat (first | (with_reducible first | exact HB.out | apply below_alloc | apply pw_below_drewN | apply below_drew1 | refine below_set ?_ GE335.out) | exact HB.out)⟩⟩
  case round =>
   clear H'
   try clear c1
   try clear p2
   try clear c3
   try clear c5
   try clear c11
   obtain ⟨x10_1, x11_1, x12_1, x13_1, rfl, rfl, rfl, rfl, HA, HK1, HO_8, BK335, HB⟩ := hrel
   cases gk with
   | zero => exact absurd HA.out (by simp [flywheellaw27_AllocSums.l0])
   | succ k1 =>
    have H := HA.out
    clear HA
    simp only [flywheellaw27_AllocSums.l0] at H
    by_cases c15 : x13_1 < (t345.length : Int)
    ·rw [if_pos c15] at H
     have c15b0 : decide (x13_1 < (t345.length : Int)) = true := decide_eq_true c15
     clear c15
     by_cases c16 : 0 ≤ x13_1
     ·rw [if_pos c16] at H
      have c16b0 : decide (0 ≤ x13_1) = true := decide_eq_true c16
      clear c16
      by_cases c17 : ((rd_T67 t345 x13_1).f0) < 0
      ·rw [if_pos c17] at H
       have c17b0 : decide (((rd_T67 t345 x13_1).f0) < 0) = true := decide_eq_true c17
       clear c17
       obtain rfl := Option.some.inj H
       obtain ⟨Ao18, co18, eo18⟩ := Kd.R_slice HO_8.out
       subst eo18
       try go_wp2
       have n0_ := Aside0.mk (Kd.R_drew HO_8.out)
       have n1_ := Aside0.mk (blk_drew BK335.out)
       have n2_ := Aside0.mk (below_drew1 HB.out)
       clear HO_8
       clear BK335
       clear HB
       have HO_8 := n0_
       have BK335 := n1_
       have HB := n2_
       clear n0_ n1_ n2_
       have p349 : 0 ≤ (x13_1 : Int) := of_decide_eq_true (by first | (with_reducible assumption) | assumption)
       have q349 : x13_1 < (t345.length : Int) := of_decide_eq_true (by first | (with_reducible assumption) | assumption)
       obtain ⟨ad349, e349, hx349_0, hx349_1⟩ := at_T67 (Kd.R_reads' HO_8.out).2.2 x13_1 p349 q349
       cases e349
       replace p349 := eq_true p349
       replace q349 := eq_true q349
       have p350 : 0 ≤ (x13_1 : Int) := of_decide_eq_true (by first | (with_reducible assumption) | assumption)
       have q350 : x13_1 < (t345.length : Int) := of_decide_eq_true (by first | (with_reducible assumption) | assumption)
       obtain ⟨ad350, e350, hx350_0, hx350_1⟩ := at_T67 (Kd.R_reads' HO_8.out).2.2 x13_1 p350 q350
       obtain rfl : ad349 = ad350 := (by injection e350)
       replace p350 := eq_true p350
       replace q350 := eq_true q350
       refine start_ (n := 12) (S := fun w' => w'.cell? (ad349.add ((x13_1).toNat * 2)) = some (.int .i64 ((rd_T67 t345 x13_1).f0)) ∧ w'.cell? ⟨(ad349.add ((x13_1).toNat * 2)).block, (ad349.add ((x13_1).toNat * 2)).off + 1, none⟩ = some (.int .i64 ((rd_T67 t345 x13_1).f1)) ∧ w'.cell? (ad349.add ((x13_1).toNat * 2)) = some (.int .i64 ((rd_T67 t345 x13_1).f0)) ∧ w'.cell? ⟨(ad349.add ((x13_1).toNat * 2)).block, (ad349.add ((x13_1).toNat * 2)).off + 1, none⟩ = some (.int .i64 ((rd_T67 t345 x13_1).f1))) (ds := []) #[false, false, false, false, false, false, false, false, false, false, false, false] (by kernel_rfl) rfl rfl ⟨hx349_0, hx349_1, hx350_0, hx350_1⟩ (fun hHeld => ?_); refine with_tabW flywheellaw27_AllocSums.tab9 flywheellaw27_AllocSums.bits9 (fun HT_ HW_ => ?_)
       generalize wr.drew = w19 at HO_8 BK335 HB hx349_0 hx349_1 hx350_0 hx350_1 hHeld ⊢
       refine pure_ (i := 0) (N := some 49) (v := ?_) (a' := ?_) (bl 12 1) rfl rfl (any_of HT_.out (by kernel_rfl)) (fun _ _ _ h => h) (Or.inl ⟨by rfl, ?_⟩) ?_ ?_
       rotate_left
       ·intro w'
        go_simp
        with_reducible rfl
       rotate_left
       ·simp only [puts_]
        rfl
       refine pure_ (i := 1) (N := some 50) (v := ?_) (a' := ?_) (bl 12 3) rfl rfl (any_of HT_.out (by kernel_rfl)) (fun _ _ _ h => h) (Or.inl ⟨by rfl, ?_⟩) ?_ ?_
       rotate_left
       ·intro w'
        go_simp
        with_reducible rfl
       rotate_left
       ·simp only [puts_]
        rfl
       refine pure_ (i := 2) (N := some 51) (v := ?_) (a' := ?_) (bl 12 7) rfl rfl (any_of HT_.out (by kernel_rfl)) (fun _ _ _ h => h) (Or.inl ⟨by rfl, ?_⟩) ?_ ?_
       rotate_left
       ·intro w'
        go_simp
        with_reducible rfl
       rotate_left
       ·simp only [puts_]
        rfl
       refine pure_ (i := 3) (N := some 52) (v := ?_) (a' := ?_) (bl 12 15) rfl rfl (any_of HT_.out (by kernel_rfl)) (fun _ _ _ h => h) (Or.inl ⟨by rfl, ?_⟩) ?_ ?_
       rotate_left
       ·intro w'
        go_simp
        with_reducible rfl
       rotate_left
       ·simp only [puts_]
        rfl
       refine pure_ (i := 5) (N := some 54) (v := ?_) (a' := ?_) (bl 12 47) rfl rfl (any_of HT_.out (by kernel_rfl)) (fun _ _ _ h => h) (Or.inl ⟨by rfl, ?_⟩) ?_ ?_
       rotate_left
       ·intro w'
        go_simp
        with_reducible rfl
       rotate_left
       ·simp only [puts_]
        rfl
       refine pure_ (i := 6) (N := some 55) (v := ?_) (a' := ?_) (bl 12 111) rfl rfl (any_of HT_.out (by kernel_rfl)) (fun _ _ _ h => h) (Or.inl ⟨by rfl, ?_⟩) ?_ ?_
       rotate_left
       ·intro w'
        go_simp
        with_reducible rfl
       rotate_left
       ·simp only [puts_]
        rfl
       refine pure_ (i := 7) (N := some 56) (v := ?_) (a' := ?_) (bl 12 239) rfl rfl (any_of HT_.out (by kernel_rfl)) (fun _ _ _ h => h) (Or.inl ⟨by rfl, ?_⟩) ?_ ?_
       rotate_left
       ·intro w'
        go_simp
        with_reducible rfl
       rotate_left
       ·simp only [puts_]
        rfl
       refine pure_ (i := 8) (N := some 57) (v := ?_) (a' := ?_) (bl 12 495) rfl rfl (any_of HT_.out (by kernel_rfl)) (fun _ _ _ h => h) (Or.inl ⟨by rfl, ?_⟩) ?_ ?_
       rotate_left
       ·intro w'
        go_simp
        with_reducible rfl
       rotate_left
       ·simp only [puts_]
        rfl
       refine take_ (i := 4) (N := some 53) (v := ?_) (a' := ?_) (bl 12 511) rfl rfl (take_ofW HT_.out HW_.out (by kernel_rfl)) (fun _ _ _ h => h) (Or.inl ⟨by rfl, ?_⟩) hHeld ?_ ?_
       rotate_left
       ·rintro w' ⟨s0, s1, s2, s3⟩
        go_simp
        with_reducible rfl
       rotate_left
       ·simp only [puts_]
        rfl
       refine take_ (i := 9) (N := some 58) (v := ?_) (a' := ?_) (bl 12 1023) rfl rfl (take_ofW HT_.out HW_.out (by kernel_rfl)) (fun _ _ _ h => h) (Or.inl ⟨by rfl, ?_⟩) hHeld ?_ ?_
       rotate_left
       ·rintro w' ⟨s0, s1, s2, s3⟩
        go_simp
        with_reducible rfl
       rotate_left
       ·simp only [puts_]
        rfl
       refine pure_ (i := 10) (N := some 59) (v := ?_) (a' := ?_) (bl 12 2047) rfl rfl (any_of HT_.out (by kernel_rfl)) (fun _ _ _ h => h) (Or.inl ⟨by rfl, ?_⟩) ?_ ?_
       rotate_left
       ·intro w'
        go_simp
        with_reducible rfl
       rotate_left
       ·simp only [puts_]
        rfl
       refine pure_ (i := 11) (N := some 14) (v := ?_) (a' := ?_) (bl 12 4095) rfl rfl (any_of HT_.out (by kernel_rfl)) (fun _ _ _ h => h) (Or.inl ⟨by rfl, ?_⟩) ?_ ?_
       rotate_left
       ·intro w'
        go_simp
        with_reducible rfl
       rotate_left
       ·simp only [puts_]
        rfl
       refine done_ (done_of HT_.out (by kernel_rfl)) ?_
       try go_wp2
       have n0_ := Aside0.mk (Kd.R_drew HO_8.out)
       have n1_ := Aside0.mk (blk_drew BK335.out)
       have n2_ := Aside0.mk (below_drew1 HB.out)
       clear HO_8
       clear BK335
       clear HB
       have HO_8 := n0_
       have BK335 := n1_
       have HB := n2_
       clear n0_ n1_ n2_
       have p351 : 0 ≤ (x13_1 : Int) := of_decide_eq_true (by first | (with_reducible assumption) | assumption)
       have q351 : x13_1 < (t345.length : Int) := of_decide_eq_true (by first | (with_reducible assumption) | assumption)
       obtain ⟨ad351, e351, hx351_0, hx351_1⟩ := at_T67 (Kd.R_reads' HO_8.out).2.2 x13_1 p351 q351
       obtain rfl : ad349 = ad351 := (by injection e351)
       replace p351 := eq_true p351
       replace q351 := eq_true q351
       refine start_ (n := 36) (S := fun w' => w'.cell? (ad349.add ((x13_1).toNat * 2)) = some (.int .i64 ((rd_T67 t345 x13_1).f0)) ∧ w'.cell? ⟨(ad349.add ((x13_1).toNat * 2)).block, (ad349.add ((x13_1).toNat * 2)).off + 1, none⟩ = some (.int .i64 ((rd_T67 t345 x13_1).f1))) (ds := []) #[false, false, false, false, false, false, false, false, false, false, false, false, false, false, false, false, false, false, false, false, false, false, false, false, false, false, false, false, false, false, false, false, false, false, false, false] (by kernel_rfl) rfl rfl ⟨hx351_0, hx351_1⟩ (fun hHeld => ?_); refine with_tabW flywheellaw27_AllocSums.tab10 flywheellaw27_AllocSums.bits10 (fun HT_ HW_ => ?_)
       generalize w19.drew = w20 at HO_8 BK335 HB hx351_0 hx351_1 hHeld ⊢
       refine pure_ (i := 0) (N := some 60) (v := ?_) (a' := ?_) (bl 36 1) rfl rfl (any_of HT_.out (by kernel_rfl)) (fun _ _ _ h => h) (Or.inl ⟨by rfl, ?_⟩) ?_ ?_
       rotate_left
       ·intro w'
        go_simp
        with_reducible rfl
       rotate_left
       ·simp only [puts_]
        rfl
       refine pure_ (i := 1) (N := some 61) (v := ?_) (a' := ?_) (bl 36 3) rfl rfl (any_of HT_.out (by kernel_rfl)) (fun _ _ _ h => h) (Or.inl ⟨by rfl, ?_⟩) ?_ ?_
       rotate_left
       ·intro w'
        go_simp
        with_reducible rfl
       rotate_left
       ·simp only [puts_]
        rfl
       refine pure_ (i := 2) (N := some 62) (v := ?_) (a' := ?_) (bl 36 7) rfl rfl (any_of HT_.out (by kernel_rfl)) (fun _ _ _ h => h) (Or.inl ⟨by rfl, ?_⟩) ?_ ?_
       rotate_left
       ·intro w'
        go_simp
        with_reducible rfl
       rotate_left
       ·simp only [puts_]
        rfl
       refine pure_ (i := 3) (N := some 63) (v := ?_) (a' := ?_) (bl 36 15) rfl rfl (any_of HT_.out (by kernel_rfl)) (fun _ _ _ h => h) (Or.inl ⟨by rfl, ?_⟩) ?_ ?_
       rotate_left
       ·intro w'
        go_simp
        with_reducible rfl
       rotate_left
       ·simp only [puts_]
        rfl
       refine take_ (i := 4) (N := some 64) (v := ?_) (a' := ?_) (bl 36 31) rfl rfl (take_ofW HT_.out HW_.out (by kernel_rfl)) (fun _ _ _ h => h) (Or.inl ⟨by rfl, ?_⟩) hHeld ?_ ?_
       rotate_left
       ·rintro w' ⟨s0, s1⟩
        go_simp
        with_reducible rfl
       rotate_left
       ·simp only [puts_]
        rfl
       refine pure_ (i := 5) (N := some 65) (v := ?_) (a' := ?_) (bl 36 63) rfl rfl (any_of HT_.out (by kernel_rfl)) (fun _ _ _ h => h) (Or.inl ⟨by rfl, ?_⟩) ?_ ?_
       rotate_left
       ·intro w'
        go_simp
        with_reducible rfl
       rotate_left
       ·simp only [puts_]
        rfl
       refine pure_ (i := 6) (N := some 66) (v := ?_) (a' := ?_) (bl 36 127) rfl rfl (any_of HT_.out (by kernel_rfl)) (fun _ _ _ h => h) (Or.inl ⟨by rfl, ?_⟩) ?_ ?_
       rotate_left
       ·intro w'
        go_simp
        with_reducible rfl
       rotate_left
       ·simp only [puts_]
        rfl
       refine pure_ (i := 7) (N := some 67) (v := undef) (a' := ?_) (bl 36 255) rfl rfl (any_of HT_.out (by kernel_rfl)) (fun _ _ _ h => h) (Or.inr ⟨by rfl, rfl⟩) ?_ ?_
       rotate_left
       ·simp only [puts_]
        rfl
       refine pure_ (i := 8) (N := some 68) (v := undef) (a' := ?_) (bl 36 511) rfl rfl (any_of HT_.out (by kernel_rfl)) (fun _ _ _ h => h) (Or.inr ⟨by rfl, rfl⟩) ?_ ?_
       rotate_left
       ·simp only [puts_]
        rfl
       refine pure_ (i := 9) (N := some 69) (v := undef) (a' := ?_) (bl 36 1023) rfl rfl (any_of HT_.out (by kernel_rfl)) (fun _ _ _ h => h) (Or.inr ⟨by rfl, rfl⟩) ?_ ?_
       rotate_left
       ·simp only [puts_]
        rfl
       refine pure_ (i := 10) (N := some 70) (v := undef) (a' := ?_) (bl 36 2047) rfl rfl (any_of HT_.out (by kernel_rfl)) (fun _ _ _ h => h) (Or.inr ⟨by rfl, rfl⟩) ?_ ?_
       rotate_left
       ·simp only [puts_]
        rfl
       refine pure_ (i := 11) (N := some 71) (v := undef) (a' := ?_) (bl 36 4095) rfl rfl (any_of HT_.out (by kernel_rfl)) (fun _ _ _ h => h) (Or.inr ⟨by rfl, rfl⟩) ?_ ?_
       rotate_left
       ·simp only [puts_]
        rfl
       refine pure_ (i := 12) (N := some 72) (v := undef) (a' := ?_) (bl 36 8191) rfl rfl (any_of HT_.out (by kernel_rfl)) (fun _ _ _ h => h) (Or.inr ⟨by rfl, rfl⟩) ?_ ?_
       rotate_left
       ·simp only [puts_]
        rfl
       refine pure_ (i := 13) (N := some 73) (v := ?_) (a' := ?_) (bl 36 16383) rfl rfl (any_of HT_.out (by kernel_rfl)) (fun _ _ _ h => h) (Or.inl ⟨by rfl, ?_⟩) ?_ ?_
       rotate_left
       ·intro w'
        go_simp
        with_reducible rfl
       rotate_left
       ·simp only [puts_]
        rfl
       refine pure_ (i := 14) (N := some 74) (v := ?_) (a' := ?_) (bl 36 32767) rfl rfl (any_of HT_.out (by kernel_rfl)) (fun _ _ _ h => h) (Or.inl ⟨by rfl, ?_⟩) ?_ ?_
       rotate_left
       ·intro w'
        go_simp
        with_reducible rfl
       rotate_left
       ·simp only [puts_]
        rfl
       refine pure_ (i := 15) (N := some 75) (v := undef) (a' := ?_) (bl 36 65535) rfl rfl (any_of HT_.out (by kernel_rfl)) (fun _ _ _ h => h) (Or.inr ⟨by rfl, rfl⟩) ?_ ?_
       rotate_left
       ·simp only [puts_]
        rfl
       refine pure_ (i := 16) (N := some 76) (v := undef) (a' := ?_) (bl 36 131071) rfl rfl (any_of HT_.out (by kernel_rfl)) (fun _ _ _ h => h) (Or.inr ⟨by rfl, rfl⟩) ?_ ?_
       rotate_left
       ·simp only [puts_]
        rfl
       refine pure_ (i := 17) (N := some 77) (v := undef) (a' := ?_) (bl 36 262143) rfl rfl (any_of HT_.out (by kernel_rfl)) (fun _ _ _ h => h) (Or.inr ⟨by rfl, rfl⟩) ?_ ?_
       rotate_left
       ·simp only [puts_]
        rfl
       refine pure_ (i := 18) (N := some 78) (v := undef) (a' := ?_) (bl 36 524287) rfl rfl (any_of HT_.out (by kernel_rfl)) (fun _ _ _ h => h) (Or.inr ⟨by rfl, rfl⟩) ?_ ?_
       rotate_left
       ·simp only [puts_]
        rfl
       refine pure_ (i := 19) (N := some 79) (v := undef) (a' := ?_) (bl 36 1048575) rfl rfl (any_of HT_.out (by kernel_rfl)) (fun _ _ _ h => h) (Or.inr ⟨by rfl, rfl⟩) ?_ ?_
       rotate_left
       ·simp only [puts_]
        rfl
       refine pure_ (i := 20) (N := some 80) (v := undef) (a' := ?_) (bl 36 2097151) rfl rfl (any_of HT_.out (by kernel_rfl)) (fun _ _ _ h => h) (Or.inr ⟨by rfl, rfl⟩) ?_ ?_
       rotate_left
       ·simp only [puts_]
        rfl
       refine pure_ (i := 21) (N := some 81) (v := undef) (a' := ?_) (bl 36 4194303) rfl rfl (any_of HT_.out (by kernel_rfl)) (fun _ _ _ h => h) (Or.inr ⟨by rfl, rfl⟩) ?_ ?_
       rotate_left
       ·simp only [puts_]
        rfl
       refine pure_ (i := 22) (N := some 82) (v := ?_) (a' := ?_) (bl 36 8388607) rfl rfl (any_of HT_.out (by kernel_rfl)) (fun _ _ _ h => h) (Or.inl ⟨by rfl, ?_⟩) ?_ ?_
       rotate_left
       ·intro w'
        go_simp
        with_reducible rfl
       rotate_left
       ·simp only [puts_]
        rfl
       refine pure_ (i := 23) (N := some 83) (v := ?_) (a' := ?_) (bl 36 16777215) rfl rfl (any_of HT_.out (by kernel_rfl)) (fun _ _ _ h => h) (Or.inl ⟨by rfl, ?_⟩) ?_ ?_
       rotate_left
       ·intro w'
        go_simp
        with_reducible rfl
       rotate_left
       ·simp only [puts_]
        rfl
       refine pure_ (i := 24) (N := some 84) (v := undef) (a' := ?_) (bl 36 33554431) rfl rfl (any_of HT_.out (by kernel_rfl)) (fun _ _ _ h => h) (Or.inr ⟨by rfl, rfl⟩) ?_ ?_
       rotate_left
       ·simp only [puts_]
        rfl
       refine pure_ (i := 25) (N := some 85) (v := undef) (a' := ?_) (bl 36 67108863) rfl rfl (any_of HT_.out (by kernel_rfl)) (fun _ _ _ h => h) (Or.inr ⟨by rfl, rfl⟩) ?_ ?_
       rotate_left
       ·simp only [puts_]
        rfl
       refine pure_ (i := 26) (N := some 86) (v := undef) (a' := ?_) (bl 36 134217727) rfl rfl (any_of HT_.out (by kernel_rfl)) (fun _ _ _ h => h) (Or.inr ⟨by rfl, rfl⟩) ?_ ?_
       rotate_left
       ·simp only [puts_]
        rfl
       refine pure_ (i := 27) (N := some 87) (v := undef) (a' := ?_) (bl 36 268435455) rfl rfl (any_of HT_.out (by kernel_rfl)) (fun _ _ _ h => h) (Or.inr ⟨by rfl, rfl⟩) ?_ ?_
       rotate_left
       ·simp only [puts_]
        rfl
       refine pure_ (i := 28) (N := some 88) (v := undef) (a' := ?_) (bl 36 536870911) rfl rfl (any_of HT_.out (by kernel_rfl)) (fun _ _ _ h => h) (Or.inr ⟨by rfl, rfl⟩) ?_ ?_
       rotate_left
       ·simp only [puts_]
        rfl
       refine pure_ (i := 29) (N := some 89) (v := undef) (a' := ?_) (bl 36 1073741823) rfl rfl (any_of HT_.out (by kernel_rfl)) (fun _ _ _ h => h) (Or.inr ⟨by rfl, rfl⟩) ?_ ?_
       rotate_left
       ·simp only [puts_]
        rfl
       refine pure_ (i := 30) (N := some 90) (v := undef) (a' := ?_) (bl 36 2147483647) rfl rfl (any_of HT_.out (by kernel_rfl)) (fun _ _ _ h => h) (Or.inr ⟨by rfl, rfl⟩) ?_ ?_
       rotate_left
       ·simp only [puts_]
        rfl
       refine pure_ (i := 31) (N := some 91) (v := undef) (a' := ?_) (bl 36 4294967295) rfl rfl (any_of HT_.out (by kernel_rfl)) (fun _ _ _ h => h) (Or.inr ⟨by rfl, rfl⟩) ?_ ?_
       rotate_left
       ·simp only [puts_]
        rfl
       refine pure_ (i := 32) (N := some 92) (v := undef) (a' := ?_) (bl 36 8589934591) rfl rfl (any_of HT_.out (by kernel_rfl)) (fun _ _ _ h => h) (Or.inr ⟨by rfl, rfl⟩) ?_ ?_
       rotate_left
       ·simp only [puts_]
        rfl
       refine pure_ (i := 33) (N := some 93) (v := undef) (a' := ?_) (bl 36 17179869183) rfl rfl (any_of HT_.out (by kernel_rfl)) (fun _ _ _ h => h) (Or.inr ⟨by rfl, rfl⟩) ?_ ?_
       rotate_left
       ·simp only [puts_]
        rfl
       refine pure_ (i := 34) (N := some 94) (v := undef) (a' := ?_) (bl 36 34359738367) rfl rfl (any_of HT_.out (by kernel_rfl)) (fun _ _ _ h => h) (Or.inr ⟨by rfl, rfl⟩) ?_ ?_
       rotate_left
       ·simp only [puts_]
        rfl
       refine pure_ (i := 35) (N := some 95) (v := ?_) (a' := ?_) (bl 36 68719476735) rfl rfl (any_of HT_.out (by kernel_rfl)) (fun _ _ _ h => h) (Or.inl ⟨by rfl, ?_⟩) ?_ ?_
       rotate_left
       ·intro w'
        go_simp
        with_reducible rfl
       rotate_left
       ·simp only [puts_]
        rfl
       refine done_ (done_of HT_.out (by kernel_rfl)) ?_
       try go_wp2
       go_ret
       exact ⟨by first | rfl | (simp [errW_none, errW_some] <;> rfl) | (simp only [← hji6, ← hji7]; first | rfl | (simp [errW_none, errW_some] <;> rfl)) | (simp [*, errW_none, errW_some] <;> rfl), by repeat (first | (with_reducible first | exact HB.out | apply below_alloc | apply pw_below_drewN | apply below_drew1 | refine below_set ?_ GE335.out) | exact HB.out)⟩
      ·rw [if_neg c17] at H
       have c17b0 : decide (((rd_T67 t345 x13_1).f0) < 0) = false := decide_eq_false c17
       clear c17
       by_cases c21 : ((rd_T67 t345 x13_1).f1) < 0
       ·rw [if_pos c21] at H
        have c21b0 : decide (((rd_T67 t345 x13_1).f1) < 0) = true := decide_eq_true c21
        clear c21
        obtain rfl := Option.some.inj H
        obtain ⟨Ao22, co22, eo22⟩ := Kd.R_slice HO_8.out
        subst eo22
        try go_wp2
        have n0_ := Aside0.mk (Kd.R_drew HO_8.out)
        have n1_ := Aside0.mk (blk_drew BK335.out)
        have n2_ := Aside0.mk (below_drew1 HB.out)
        clear HO_8
        clear BK335
        clear HB
        have HO_8 := n0_
        have BK335 := n1_
        have HB := n2_
        clear n0_ n1_ n2_
        have p349 : 0 ≤ (x13_1 : Int) := of_decide_eq_true (by first | (with_reducible assumption) | assumption)
        have q349 : x13_1 < (t345.length : Int) := of_decide_eq_true (by first | (with_reducible assumption) | assumption)
        obtain ⟨ad349, e349, hx349_0, hx349_1⟩ := at_T67 (Kd.R_reads' HO_8.out).2.2 x13_1 p349 q349
        cases e349
        replace p349 := eq_true p349
        replace q349 := eq_true q349
        have p350 : 0 ≤ (x13_1 : Int) := of_decide_eq_true (by first | (with_reducible assumption) | assumption)
        have q350 : x13_1 < (t345.length : Int) := of_decide_eq_true (by first | (with_reducible assumption) | assumption)
        obtain ⟨ad350, e350, hx350_0, hx350_1⟩ := at_T67 (Kd.R_reads' HO_8.out).2.2 x13_1 p350 q350
        obtain rfl : ad349 = ad350 := (by injection e350)
        replace p350 := eq_true p350
        replace q350 := eq_true q350
        refine start_ (n := 12) (S := fun w' => w'.cell? (ad349.add ((x13_1).toNat * 2)) = some (.int .i64 ((rd_T67 t345 x13_1).f0)) ∧ w'.cell? ⟨(ad349.add ((x13_1).toNat * 2)).block, (ad349.add ((x13_1).toNat * 2)).off + 1, none⟩ = some (.int .i64 ((rd_T67 t345 x13_1).f1)) ∧ w'.cell? (ad349.add ((x13_1).toNat * 2)) = some (.int .i64 ((rd_T67 t345 x13_1).f0)) ∧ w'.cell? ⟨(ad349.add ((x13_1).toNat * 2)).block, (ad349.add ((x13_1).toNat * 2)).off + 1, none⟩ = some (.int .i64 ((rd_T67 t345 x13_1).f1))) (ds := []) #[false, false, false, false, false, false, false, false, false, false, false, false] (by kernel_rfl) rfl rfl ⟨hx349_0, hx349_1, hx350_0, hx350_1⟩ (fun hHeld => ?_); refine with_tabW flywheellaw27_AllocSums.tab9 flywheellaw27_AllocSums.bits9 (fun HT_ HW_ => ?_)
        generalize wr.drew = w23 at HO_8 BK335 HB hx349_0 hx349_1 hx350_0 hx350_1 hHeld ⊢
        refine pure_ (i := 0) (N := some 49) (v := ?_) (a' := ?_) (bl 12 1) rfl rfl (any_of HT_.out (by kernel_rfl)) (fun _ _ _ h => h) (Or.inl ⟨by rfl, ?_⟩) ?_ ?_
        rotate_left
        ·intro w'
         go_simp
         with_reducible rfl
        rotate_left
        ·simp only [puts_]
         rfl
        refine pure_ (i := 1) (N := some 50) (v := ?_) (a' := ?_) (bl 12 3) rfl rfl (any_of HT_.out (by kernel_rfl)) (fun _ _ _ h => h) (Or.inl ⟨by rfl, ?_⟩) ?_ ?_
        rotate_left
        ·intro w'
         go_simp
         with_reducible rfl
        rotate_left
        ·simp only [puts_]
         rfl
        refine pure_ (i := 2) (N := some 51) (v := ?_) (a' := ?_) (bl 12 7) rfl rfl (any_of HT_.out (by kernel_rfl)) (fun _ _ _ h => h) (Or.inl ⟨by rfl, ?_⟩) ?_ ?_
        rotate_left
        ·intro w'
         go_simp
         with_reducible rfl
        rotate_left
        ·simp only [puts_]
         rfl
        refine pure_ (i := 3) (N := some 52) (v := ?_) (a' := ?_) (bl 12 15) rfl rfl (any_of HT_.out (by kernel_rfl)) (fun _ _ _ h => h) (Or.inl ⟨by rfl, ?_⟩) ?_ ?_
        rotate_left
        ·intro w'
         go_simp
         with_reducible rfl
        rotate_left
        ·simp only [puts_]
         rfl
        refine pure_ (i := 5) (N := some 54) (v := ?_) (a' := ?_) (bl 12 47) rfl rfl (any_of HT_.out (by kernel_rfl)) (fun _ _ _ h => h) (Or.inl ⟨by rfl, ?_⟩) ?_ ?_
        rotate_left
        ·intro w'
         go_simp
         with_reducible rfl
        rotate_left
        ·simp only [puts_]
         rfl
        refine pure_ (i := 6) (N := some 55) (v := ?_) (a' := ?_) (bl 12 111) rfl rfl (any_of HT_.out (by kernel_rfl)) (fun _ _ _ h => h) (Or.inl ⟨by rfl, ?_⟩) ?_ ?_
        rotate_left
        ·intro w'
         go_simp
         with_reducible rfl
        rotate_left
        ·simp only [puts_]
         rfl
        refine pure_ (i := 7) (N := some 56) (v := ?_) (a' := ?_) (bl 12 239) rfl rfl (any_of HT_.out (by kernel_rfl)) (fun _ _ _ h => h) (Or.inl ⟨by rfl, ?_⟩) ?_ ?_
        rotate_left
        ·intro w'
         go_simp
         with_reducible rfl
        rotate_left
        ·simp only [puts_]
         rfl
        refine pure_ (i := 8) (N := some 57) (v := ?_) (a' := ?_) (bl 12 495) rfl rfl (any_of HT_.out (by kernel_rfl)) (fun _ _ _ h => h) (Or.inl ⟨by rfl, ?_⟩) ?_ ?_
        rotate_left
        ·intro w'
         go_simp
         with_reducible rfl
        rotate_left
        ·simp only [puts_]
         rfl
        refine take_ (i := 4) (N := some 53) (v := ?_) (a' := ?_) (bl 12 511) rfl rfl (take_ofW HT_.out HW_.out (by kernel_rfl)) (fun _ _ _ h => h) (Or.inl ⟨by rfl, ?_⟩) hHeld ?_ ?_
        rotate_left
        ·rintro w' ⟨s0, s1, s2, s3⟩
         go_simp
         with_reducible rfl
        rotate_left
        ·simp only [puts_]
         rfl
        refine take_ (i := 9) (N := some 58) (v := ?_) (a' := ?_) (bl 12 1023) rfl rfl (take_ofW HT_.out HW_.out (by kernel_rfl)) (fun _ _ _ h => h) (Or.inl ⟨by rfl, ?_⟩) hHeld ?_ ?_
        rotate_left
        ·rintro w' ⟨s0, s1, s2, s3⟩
         go_simp
         with_reducible rfl
        rotate_left
        ·simp only [puts_]
         rfl
        refine pure_ (i := 10) (N := some 59) (v := ?_) (a' := ?_) (bl 12 2047) rfl rfl (any_of HT_.out (by kernel_rfl)) (fun _ _ _ h => h) (Or.inl ⟨by rfl, ?_⟩) ?_ ?_
        rotate_left
        ·intro w'
         go_simp
         with_reducible rfl
        rotate_left
        ·simp only [puts_]
         rfl
        refine pure_ (i := 11) (N := some 14) (v := ?_) (a' := ?_) (bl 12 4095) rfl rfl (any_of HT_.out (by kernel_rfl)) (fun _ _ _ h => h) (Or.inl ⟨by rfl, ?_⟩) ?_ ?_
        rotate_left
        ·intro w'
         go_simp
         with_reducible rfl
        rotate_left
        ·simp only [puts_]
         rfl
        refine done_ (done_of HT_.out (by kernel_rfl)) ?_
        try go_wp2
        have n0_ := Aside0.mk (Kd.R_drew HO_8.out)
        have n1_ := Aside0.mk (blk_drew BK335.out)
        have n2_ := Aside0.mk (below_drew1 HB.out)
        clear HO_8
        clear BK335
        clear HB
        have HO_8 := n0_
        have BK335 := n1_
        have HB := n2_
        clear n0_ n1_ n2_
        have p351 : 0 ≤ (x13_1 : Int) := of_decide_eq_true (by first | (with_reducible assumption) | assumption)
        have q351 : x13_1 < (t345.length : Int) := of_decide_eq_true (by first | (with_reducible assumption) | assumption)
        obtain ⟨ad351, e351, hx351_0, hx351_1⟩ := at_T67 (Kd.R_reads' HO_8.out).2.2 x13_1 p351 q351
        obtain rfl : ad349 = ad351 := (by injection e351)
        replace p351 := eq_true p351
        replace q351 := eq_true q351
        have p352 : 0 ≤ (x13_1 : Int) := of_decide_eq_true (by first | (with_reducible assumption) | assumption)
        have q352 : x13_1 < (t345.length : Int) := of_decide_eq_true (by first | (with_reducible assumption) | assumption)
        obtain ⟨ad352, e352, hx352_0, hx352_1⟩ := at_T67 (Kd.R_reads' HO_8.out).2.2 x13_1 p352 q352
        obtain rfl : ad349 = ad352 := (by injection e352)
        replace p352 := eq_true p352
        replace q352 := eq_true q352
        refine start_ (n := 36) (S := fun w' => w'.cell? (ad349.add ((x13_1).toNat * 2)) = some (.int .i64 ((rd_T67 t345 x13_1).f0)) ∧ w'.cell? ⟨(ad349.add ((x13_1).toNat * 2)).block, (ad349.add ((x13_1).toNat * 2)).off + 1, none⟩ = some (.int .i64 ((rd_T67 t345 x13_1).f1)) ∧ w'.cell? (ad349.add ((x13_1).toNat * 2)) = some (.int .i64 ((rd_T67 t345 x13_1).f0)) ∧ w'.cell? ⟨(ad349.add ((x13_1).toNat * 2)).block, (ad349.add ((x13_1).toNat * 2)).off + 1, none⟩ = some (.int .i64 ((rd_T67 t345 x13_1).f1))) (ds := []) #[false, false, false, false, false, false, false, false, false, false, false, false, false, false, false, false, false, false, false, false, false, false, false, false, false, false, false, false, false, false, false, false, false, false, false, false] (by kernel_rfl) rfl rfl ⟨hx351_0, hx351_1, hx352_0, hx352_1⟩ (fun hHeld => ?_); refine with_tabW flywheellaw27_AllocSums.tab10 flywheellaw27_AllocSums.bits10 (fun HT_ HW_ => ?_)
        generalize w23.drew = w24 at HO_8 BK335 HB hx351_0 hx351_1 hx352_0 hx352_1 hHeld ⊢
        refine pure_ (i := 0) (N := some 60) (v := ?_) (a' := ?_) (bl 36 1) rfl rfl (any_of HT_.out (by kernel_rfl)) (fun _ _ _ h => h) (Or.inl ⟨by rfl, ?_⟩) ?_ ?_
        rotate_left
        ·intro w'
         go_simp
         with_reducible rfl
        rotate_left
        ·simp only [puts_]
         rfl
        refine pure_ (i := 1) (N := some 61) (v := ?_) (a' := ?_) (bl 36 3) rfl rfl (any_of HT_.out (by kernel_rfl)) (fun _ _ _ h => h) (Or.inl ⟨by rfl, ?_⟩) ?_ ?_
        rotate_left
        ·intro w'
         go_simp
         with_reducible rfl
        rotate_left
        ·simp only [puts_]
         rfl
        refine pure_ (i := 2) (N := some 62) (v := ?_) (a' := ?_) (bl 36 7) rfl rfl (any_of HT_.out (by kernel_rfl)) (fun _ _ _ h => h) (Or.inl ⟨by rfl, ?_⟩) ?_ ?_
        rotate_left
        ·intro w'
         go_simp
         with_reducible rfl
        rotate_left
        ·simp only [puts_]
         rfl
        refine pure_ (i := 3) (N := some 63) (v := ?_) (a' := ?_) (bl 36 15) rfl rfl (any_of HT_.out (by kernel_rfl)) (fun _ _ _ h => h) (Or.inl ⟨by rfl, ?_⟩) ?_ ?_
        rotate_left
        ·intro w'
         go_simp
         with_reducible rfl
        rotate_left
        ·simp only [puts_]
         rfl
        refine take_ (i := 4) (N := some 64) (v := ?_) (a' := ?_) (bl 36 31) rfl rfl (take_ofW HT_.out HW_.out (by kernel_rfl)) (fun _ _ _ h => h) (Or.inl ⟨by rfl, ?_⟩) hHeld ?_ ?_
        rotate_left
        ·rintro w' ⟨s0, s1, s2, s3⟩
         go_simp
         with_reducible rfl
        rotate_left
        ·simp only [puts_]
         rfl
        refine pure_ (i := 5) (N := some 65) (v := ?_) (a' := ?_) (bl 36 63) rfl rfl (any_of HT_.out (by kernel_rfl)) (fun _ _ _ h => h) (Or.inl ⟨by rfl, ?_⟩) ?_ ?_
        rotate_left
        ·intro w'
         go_simp
         with_reducible rfl
        rotate_left
        ·simp only [puts_]
         rfl
        refine pure_ (i := 6) (N := some 66) (v := ?_) (a' := ?_) (bl 36 127) rfl rfl (any_of HT_.out (by kernel_rfl)) (fun _ _ _ h => h) (Or.inl ⟨by rfl, ?_⟩) ?_ ?_
        rotate_left
        ·intro w'
         go_simp
         with_reducible rfl
        rotate_left
        ·simp only [puts_]
         rfl
        refine pure_ (i := 7) (N := some 67) (v := ?_) (a' := ?_) (bl 36 255) rfl rfl (any_of HT_.out (by kernel_rfl)) (fun _ _ _ h => h) (Or.inl ⟨by rfl, ?_⟩) ?_ ?_
        rotate_left
        ·intro w'
         go_simp
         with_reducible rfl
        rotate_left
        ·simp only [puts_]
         rfl
        refine pure_ (i := 8) (N := some 68) (v := ?_) (a' := ?_) (bl 36 511) rfl rfl (any_of HT_.out (by kernel_rfl)) (fun _ _ _ h => h) (Or.inl ⟨by rfl, ?_⟩) ?_ ?_
        rotate_left
        ·intro w'
         go_simp
         with_reducible rfl
        rotate_left
        ·simp only [puts_]
         rfl
        refine pure_ (i := 9) (N := some 69) (v := ?_) (a' := ?_) (bl 36 1023) rfl rfl (any_of HT_.out (by kernel_rfl)) (fun _ _ _ h => h) (Or.inl ⟨by rfl, ?_⟩) ?_ ?_
        rotate_left
        ·intro w'
         go_simp
         with_reducible rfl
        rotate_left
        ·simp only [puts_]
         rfl
        refine pure_ (i := 10) (N := some 70) (v := ?_) (a' := ?_) (bl 36 2047) rfl rfl (any_of HT_.out (by kernel_rfl)) (fun _ _ _ h => h) (Or.inl ⟨by rfl, ?_⟩) ?_ ?_
        rotate_left
        ·intro w'
         go_simp
         with_reducible rfl
        rotate_left
        ·simp only [puts_]
         rfl
        refine take_ (i := 11) (N := some 71) (v := ?_) (a' := ?_) (bl 36 4095) rfl rfl (take_ofW HT_.out HW_.out (by kernel_rfl)) (fun _ _ _ h => h) (Or.inl ⟨by rfl, ?_⟩) hHeld ?_ ?_
        rotate_left
        ·rintro w' ⟨s0, s1, s2, s3⟩
         go_simp
         with_reducible rfl
        rotate_left
        ·simp only [puts_]
         rfl
        refine pure_ (i := 12) (N := some 72) (v := ?_) (a' := ?_) (bl 36 8191) rfl rfl (any_of HT_.out (by kernel_rfl)) (fun _ _ _ h => h) (Or.inl ⟨by rfl, ?_⟩) ?_ ?_
        rotate_left
        ·intro w'
         go_simp
         with_reducible rfl
        rotate_left
        ·simp only [puts_]
         rfl
        refine pure_ (i := 13) (N := some 73) (v := ?_) (a' := ?_) (bl 36 16383) rfl rfl (any_of HT_.out (by kernel_rfl)) (fun _ _ _ h => h) (Or.inl ⟨by rfl, ?_⟩) ?_ ?_
        rotate_left
        ·intro w'
         go_simp
         with_reducible rfl
        rotate_left
        ·simp only [puts_]
         rfl
        refine pure_ (i := 14) (N := some 74) (v := ?_) (a' := ?_) (bl 36 32767) rfl rfl (any_of HT_.out (by kernel_rfl)) (fun _ _ _ h => h) (Or.inl ⟨by rfl, ?_⟩) ?_ ?_
        rotate_left
        ·intro w'
         go_simp
         with_reducible rfl
        rotate_left
        ·simp only [puts_]
         rfl
        refine pure_ (i := 15) (N := some 75) (v := undef) (a' := ?_) (bl 36 65535) rfl rfl (any_of HT_.out (by kernel_rfl)) (fun _ _ _ h => h) (Or.inr ⟨by rfl, rfl⟩) ?_ ?_
        rotate_left
        ·simp only [puts_]
         rfl
        refine pure_ (i := 16) (N := some 76) (v := undef) (a' := ?_) (bl 36 131071) rfl rfl (any_of HT_.out (by kernel_rfl)) (fun _ _ _ h => h) (Or.inr ⟨by rfl, rfl⟩) ?_ ?_
        rotate_left
        ·simp only [puts_]
         rfl
        refine pure_ (i := 17) (N := some 77) (v := undef) (a' := ?_) (bl 36 262143) rfl rfl (any_of HT_.out (by kernel_rfl)) (fun _ _ _ h => h) (Or.inr ⟨by rfl, rfl⟩) ?_ ?_
        rotate_left
        ·simp only [puts_]
         rfl
        refine pure_ (i := 18) (N := some 78) (v := undef) (a' := ?_) (bl 36 524287) rfl rfl (any_of HT_.out (by kernel_rfl)) (fun _ _ _ h => h) (Or.inr ⟨by rfl, rfl⟩) ?_ ?_
        rotate_left
        ·simp only [puts_]
         rfl
        refine pure_ (i := 19) (N := some 79) (v := undef) (a' := ?_) (bl 36 1048575) rfl rfl (any_of HT_.out (by kernel_rfl)) (fun _ _ _ h => h) (Or.inr ⟨by rfl, rfl⟩) ?_ ?_
        rotate_left
        ·simp only [puts_]
         rfl
        refine pure_ (i := 20) (N := some 80) (v := undef) (a' := ?_) (bl 36 2097151) rfl rfl (any_of HT_.out (by kernel_rfl)) (fun _ _ _ h => h) (Or.inr ⟨by rfl, rfl⟩) ?_ ?_
        rotate_left
        ·simp only [puts_]
         rfl
        refine pure_ (i := 21) (N := some 81) (v := undef) (a' := ?_) (bl 36 4194303) rfl rfl (any_of HT_.out (by kernel_rfl)) (fun _ _ _ h => h) (Or.inr ⟨by rfl, rfl⟩) ?_ ?_
        rotate_left
        ·simp only [puts_]
         rfl
        refine pure_ (i := 22) (N := some 82) (v := ?_) (a' := ?_) (bl 36 8388607) rfl rfl (any_of HT_.out (by kernel_rfl)) (fun _ _ _ h => h) (Or.inl ⟨by rfl, ?_⟩) ?_ ?_
        rotate_left
        ·intro w'
         go_simp
         with_reducible rfl
        rotate_left
        ·simp only [puts_]
         rfl
        refine pure_ (i := 23) (N := some 83) (v := ?_) (a' := ?_) (bl 36 16777215) rfl rfl (any_of HT_.out (by kernel_rfl)) (fun _ _ _ h => h) (Or.inl ⟨by rfl, ?_⟩) ?_ ?_
        rotate_left
        ·intro w'
         go_simp
         with_reducible rfl
        rotate_left
        ·simp only [puts_]
         rfl
        refine pure_ (i := 24) (N := some 84) (v := undef) (a' := ?_) (bl 36 33554431) rfl rfl (any_of HT_.out (by kernel_rfl)) (fun _ _ _ h => h) (Or.inr ⟨by rfl, rfl⟩) ?_ ?_
        rotate_left
        ·simp only [puts_]
         rfl
        refine pure_ (i := 25) (N := some 85) (v := undef) (a' := ?_) (bl 36 67108863) rfl rfl (any_of HT_.out (by kernel_rfl)) (fun _ _ _ h => h) (Or.inr ⟨by rfl, rfl⟩) ?_ ?_
        rotate_left
        ·simp only [puts_]
         rfl
        refine pure_ (i := 26) (N := some 86) (v := undef) (a' := ?_) (bl 36 134217727) rfl rfl (any_of HT_.out (by kernel_rfl)) (fun _ _ _ h => h) (Or.inr ⟨by rfl, rfl⟩) ?_ ?_
        rotate_left
        ·simp only [puts_]
         rfl
        refine pure_ (i := 27) (N := some 87) (v := undef) (a' := ?_) (bl 36 268435455) rfl rfl (any_of HT_.out (by kernel_rfl)) (fun _ _ _ h => h) (Or.inr ⟨by rfl, rfl⟩) ?_ ?_
        rotate_left
        ·simp only [puts_]
         rfl
        refine pure_ (i := 28) (N := some 88) (v := undef) (a' := ?_) (bl 36 536870911) rfl rfl (any_of HT_.out (by kernel_rfl)) (fun _ _ _ h => h) (Or.inr ⟨by rfl, rfl⟩) ?_ ?_
        rotate_left
        ·simp only [puts_]
         rfl
        refine pure_ (i := 29) (N := some 89) (v := undef) (a' := ?_) (bl 36 1073741823) rfl rfl (any_of HT_.out (by kernel_rfl)) (fun _ _ _ h => h) (Or.inr ⟨by rfl, rfl⟩) ?_ ?_
        rotate_left
        ·simp only [puts_]
         rfl
        refine pure_ (i := 30) (N := some 90) (v := undef) (a' := ?_) (bl 36 2147483647) rfl rfl (any_of HT_.out (by kernel_rfl)) (fun _ _ _ h => h) (Or.inr ⟨by rfl, rfl⟩) ?_ ?_
        rotate_left
        ·simp only [puts_]
         rfl
        refine pure_ (i := 31) (N := some 91) (v := undef) (a' := ?_) (bl 36 4294967295) rfl rfl (any_of HT_.out (by kernel_rfl)) (fun _ _ _ h => h) (Or.inr ⟨by rfl, rfl⟩) ?_ ?_
        rotate_left
        ·simp only [puts_]
         rfl
        refine pure_ (i := 32) (N := some 92) (v := undef) (a' := ?_) (bl 36 8589934591) rfl rfl (any_of HT_.out (by kernel_rfl)) (fun _ _ _ h => h) (Or.inr ⟨by rfl, rfl⟩) ?_ ?_
        rotate_left
        ·simp only [puts_]
         rfl
        refine pure_ (i := 33) (N := some 93) (v := undef) (a' := ?_) (bl 36 17179869183) rfl rfl (any_of HT_.out (by kernel_rfl)) (fun _ _ _ h => h) (Or.inr ⟨by rfl, rfl⟩) ?_ ?_
        rotate_left
        ·simp only [puts_]
         rfl
        refine pure_ (i := 34) (N := some 94) (v := undef) (a' := ?_) (bl 36 34359738367) rfl rfl (any_of HT_.out (by kernel_rfl)) (fun _ _ _ h => h) (Or.inr ⟨by rfl, rfl⟩) ?_ ?_
        rotate_left
        ·simp only [puts_]
         rfl
        refine pure_ (i := 35) (N := some 95) (v := ?_) (a' := ?_) (bl 36 68719476735) rfl rfl (any_of HT_.out (by kernel_rfl)) (fun _ _ _ h => h) (Or.inl ⟨by rfl, ?_⟩) ?_ ?_
        rotate_left
        ·intro w'
         go_simp
         with_reducible rfl
        rotate_left
        ·simp only [puts_]
         rfl
        refine done_ (done_of HT_.out (by kernel_rfl)) ?_
        try go_wp2
        go_ret
        exact ⟨by first | rfl | (simp [errW_none, errW_some] <;> rfl) | (simp only [← hji6, ← hji7]; first | rfl | (simp [errW_none, errW_some] <;> rfl)) | (simp [*, errW_none, errW_some] <;> rfl), by repeat (first | (with_reducible first | exact HB.out | apply below_alloc | apply pw_below_drewN | apply below_drew1 | refine below_set ?_ GE335.out) | exact HB.out)⟩
       ·rw [if_neg c21] at H
        have c21b0 : decide (((rd_T67 t345 x13_1).f1) < 0) = false := decide_eq_false c21
        clear c21
        by_cases c25 : x13_1 < (l1.length : Int)
        ·rw [if_pos c25] at H
         have c25b0 : decide (x13_1 < (l1.length : Int)) = true := decide_eq_true c25
         clear c25
         by_cases c26 : (wrap64 (((rd_T67 t345 x13_1).f0) + ((rd_T67 t345 x13_1).f1))) > ((rd_T31 l1 x13_1).f2)
         ·rw [if_pos c26] at H
          have c26b0 : decide (((rd_T31 l1 x13_1).f2) < (wrap64 (((rd_T67 t345 x13_1).f0) + ((rd_T67 t345 x13_1).f1)))) = true := decide_eq_true c26
          clear c26
          obtain rfl := Option.some.inj H
          obtain ⟨Ao27, co27, eo27⟩ := Kd.R_slice HO_8.out
          subst eo27
          try go_wp2
          have n0_ := Aside0.mk (Kd.R_drew HO_8.out)
          have n1_ := Aside0.mk (blk_drew BK335.out)
          have n2_ := Aside0.mk (below_drew1 HB.out)
          clear HO_8
          clear BK335
          clear HB
          have HO_8 := n0_
          have BK335 := n1_
          have HB := n2_
          clear n0_ n1_ n2_
          have p349 : 0 ≤ (x13_1 : Int) := of_decide_eq_true (by first | (with_reducible assumption) | assumption)
          have q349 : x13_1 < (t345.length : Int) := of_decide_eq_true (by first | (with_reducible assumption) | assumption)
          obtain ⟨ad349, e349, hx349_0, hx349_1⟩ := at_T67 (Kd.R_reads' HO_8.out).2.2 x13_1 p349 q349
          cases e349
          replace p349 := eq_true p349
          replace q349 := eq_true q349
          have p350 : 0 ≤ (x13_1 : Int) := of_decide_eq_true (by first | (with_reducible assumption) | assumption)
          have q350 : x13_1 < (t345.length : Int) := of_decide_eq_true (by first | (with_reducible assumption) | assumption)
          obtain ⟨ad350, e350, hx350_0, hx350_1⟩ := at_T67 (Kd.R_reads' HO_8.out).2.2 x13_1 p350 q350
          obtain rfl : ad349 = ad350 := (by injection e350)
          replace p350 := eq_true p350
          replace q350 := eq_true q350
          refine start_ (n := 12) (S := fun w' => w'.cell? (ad349.add ((x13_1).toNat * 2)) = some (.int .i64 ((rd_T67 t345 x13_1).f0)) ∧ w'.cell? ⟨(ad349.add ((x13_1).toNat * 2)).block, (ad349.add ((x13_1).toNat * 2)).off + 1, none⟩ = some (.int .i64 ((rd_T67 t345 x13_1).f1)) ∧ w'.cell? (ad349.add ((x13_1).toNat * 2)) = some (.int .i64 ((rd_T67 t345 x13_1).f0)) ∧ w'.cell? ⟨(ad349.add ((x13_1).toNat * 2)).block, (ad349.add ((x13_1).toNat * 2)).off + 1, none⟩ = some (.int .i64 ((rd_T67 t345 x13_1).f1))) (ds := []) #[false, false, false, false, false, false, false, false, false, false, false, false] (by kernel_rfl) rfl rfl ⟨hx349_0, hx349_1, hx350_0, hx350_1⟩ (fun hHeld => ?_); refine with_tabW flywheellaw27_AllocSums.tab9 flywheellaw27_AllocSums.bits9 (fun HT_ HW_ => ?_)
          generalize wr.drew = w28 at HO_8 BK335 HB hx349_0 hx349_1 hx350_0 hx350_1 hHeld ⊢
          refine pure_ (i := 0) (N := some 49) (v := ?_) (a' := ?_) (bl 12 1) rfl rfl (any_of HT_.out (by kernel_rfl)) (fun _ _ _ h => h) (Or.inl ⟨by rfl, ?_⟩) ?_ ?_
          rotate_left
          ·intro w'
           go_simp
           with_reducible rfl
          rotate_left
          ·simp only [puts_]
           rfl
          refine pure_ (i := 1) (N := some 50) (v := ?_) (a' := ?_) (bl 12 3) rfl rfl (any_of HT_.out (by kernel_rfl)) (fun _ _ _ h => h) (Or.inl ⟨by rfl, ?_⟩) ?_ ?_
          rotate_left
          ·intro w'
           go_simp
           with_reducible rfl
          rotate_left
          ·simp only [puts_]
           rfl
          refine pure_ (i := 2) (N := some 51) (v := ?_) (a' := ?_) (bl 12 7) rfl rfl (any_of HT_.out (by kernel_rfl)) (fun _ _ _ h => h) (Or.inl ⟨by rfl, ?_⟩) ?_ ?_
          rotate_left
          ·intro w'
           go_simp
           with_reducible rfl
          rotate_left
          ·simp only [puts_]
           rfl
          refine pure_ (i := 3) (N := some 52) (v := ?_) (a' := ?_) (bl 12 15) rfl rfl (any_of HT_.out (by kernel_rfl)) (fun _ _ _ h => h) (Or.inl ⟨by rfl, ?_⟩) ?_ ?_
          rotate_left
          ·intro w'
           go_simp
           with_reducible rfl
          rotate_left
          ·simp only [puts_]
           rfl
          refine pure_ (i := 5) (N := some 54) (v := ?_) (a' := ?_) (bl 12 47) rfl rfl (any_of HT_.out (by kernel_rfl)) (fun _ _ _ h => h) (Or.inl ⟨by rfl, ?_⟩) ?_ ?_
          rotate_left
          ·intro w'
           go_simp
           with_reducible rfl
          rotate_left
          ·simp only [puts_]
           rfl
          refine pure_ (i := 6) (N := some 55) (v := ?_) (a' := ?_) (bl 12 111) rfl rfl (any_of HT_.out (by kernel_rfl)) (fun _ _ _ h => h) (Or.inl ⟨by rfl, ?_⟩) ?_ ?_
          rotate_left
          ·intro w'
           go_simp
           with_reducible rfl
          rotate_left
          ·simp only [puts_]
           rfl
          refine pure_ (i := 7) (N := some 56) (v := ?_) (a' := ?_) (bl 12 239) rfl rfl (any_of HT_.out (by kernel_rfl)) (fun _ _ _ h => h) (Or.inl ⟨by rfl, ?_⟩) ?_ ?_
          rotate_left
          ·intro w'
           go_simp
           with_reducible rfl
          rotate_left
          ·simp only [puts_]
           rfl
          refine pure_ (i := 8) (N := some 57) (v := ?_) (a' := ?_) (bl 12 495) rfl rfl (any_of HT_.out (by kernel_rfl)) (fun _ _ _ h => h) (Or.inl ⟨by rfl, ?_⟩) ?_ ?_
          rotate_left
          ·intro w'
           go_simp
           with_reducible rfl
          rotate_left
          ·simp only [puts_]
           rfl
          refine take_ (i := 4) (N := some 53) (v := ?_) (a' := ?_) (bl 12 511) rfl rfl (take_ofW HT_.out HW_.out (by kernel_rfl)) (fun _ _ _ h => h) (Or.inl ⟨by rfl, ?_⟩) hHeld ?_ ?_
          rotate_left
          ·rintro w' ⟨s0, s1, s2, s3⟩
           go_simp
           with_reducible rfl
          rotate_left
          ·simp only [puts_]
           rfl
          refine take_ (i := 9) (N := some 58) (v := ?_) (a' := ?_) (bl 12 1023) rfl rfl (take_ofW HT_.out HW_.out (by kernel_rfl)) (fun _ _ _ h => h) (Or.inl ⟨by rfl, ?_⟩) hHeld ?_ ?_
          rotate_left
          ·rintro w' ⟨s0, s1, s2, s3⟩
           go_simp
           with_reducible rfl
          rotate_left
          ·simp only [puts_]
           rfl
          refine pure_ (i := 10) (N := some 59) (v := ?_) (a' := ?_) (bl 12 2047) rfl rfl (any_of HT_.out (by kernel_rfl)) (fun _ _ _ h => h) (Or.inl ⟨by rfl, ?_⟩) ?_ ?_
          rotate_left
          ·intro w'
           go_simp
           with_reducible rfl
          rotate_left
          ·simp only [puts_]
           rfl
          refine pure_ (i := 11) (N := some 14) (v := ?_) (a' := ?_) (bl 12 4095) rfl rfl (any_of HT_.out (by kernel_rfl)) (fun _ _ _ h => h) (Or.inl ⟨by rfl, ?_⟩) ?_ ?_
          rotate_left
          ·intro w'
           go_simp
           with_reducible rfl
          rotate_left
          ·simp only [puts_]
           rfl
          refine done_ (done_of HT_.out (by kernel_rfl)) ?_
          try go_wp2
          have n0_ := Aside0.mk (Kd.R_drew HO_8.out)
          have n1_ := Aside0.mk (blk_drew BK335.out)
          have n2_ := Aside0.mk (below_drew1 HB.out)
          clear HO_8
          clear BK335
          clear HB
          have HO_8 := n0_
          have BK335 := n1_
          have HB := n2_
          clear n0_ n1_ n2_
          have p351 : 0 ≤ (x13_1 : Int) := of_decide_eq_true (by first | (with_reducible assumption) | assumption)
          have q351 : x13_1 < (t345.length : Int) := of_decide_eq_true (by first | (with_reducible assumption) | assumption)
          obtain ⟨ad351, e351, hx351_0, hx351_1⟩ := at_T67 (Kd.R_reads' HO_8.out).2.2 x13_1 p351 q351
          obtain rfl : ad349 = ad351 := (by injection e351)
          replace p351 := eq_true p351
          replace q351 := eq_true q351
          have p352 : 0 ≤ (x13_1 : Int) := of_decide_eq_true (by first | (with_reducible assumption) | assumption)
          have q352 : x13_1 < (t345.length : Int) := of_decide_eq_true (by first | (with_reducible assumption) | assumption)
          obtain ⟨ad352, e352, hx352_0, hx352_1⟩ := at_T67 (Kd.R_reads' HO_8.out).2.2 x13_1 p352 q352
          obtain rfl : ad349 = ad352 := (by injection e352)
          replace p352 := eq_true p352
          replace q352 := eq_true q352
          have p353 : 0 ≤ (x13_1 : Int) := of_decide_eq_true (by first | (with_reducible assumption) | assumption)
          have q353 : x13_1 < (l1.length : Int) := of_decide_eq_true (by first | (with_reducible assumption) | assumption)
          obtain ⟨ad353, e353, hx353_0, hx353_1, hx353_2⟩ := at_T31 HR1.out x13_1 p353 q353
          have hw353_2 := hx353_2
          have hw353_1 := hx353_1
          have hw353_0 := hx353_0
          cases e353
          replace hx353_0 := (HB.out.cell (World.block_lt_of_cell? w _ hx353_0)).trans hx353_0
          replace hx353_1 := (HB.out.cell (World.block_lt_of_cell? w _ hx353_1)).trans hx353_1
          replace hx353_2 := (HB.out.cell (World.block_lt_of_cell? w _ hx353_2)).trans hx353_2
          replace p353 := eq_true p353
          replace q353 := eq_true q353
          refine start_ (n := 36) (S := fun w' => w'.cell? (ad349.add ((x13_1).toNat * 2)) = some (.int .i64 ((rd_T67 t345 x13_1).f0)) ∧ w'.cell? ⟨(ad349.add ((x13_1).toNat * 2)).block, (ad349.add ((x13_1).toNat * 2)).off + 1, none⟩ = some (.int .i64 ((rd_T67 t345 x13_1).f1)) ∧ w'.cell? (ad349.add ((x13_1).toNat * 2)) = some (.int .i64 ((rd_T67 t345 x13_1).f0)) ∧ w'.cell? ⟨(ad349.add ((x13_1).toNat * 2)).block, (ad349.add ((x13_1).toNat * 2)).off + 1, none⟩ = some (.int .i64 ((rd_T67 t345 x13_1).f1)) ∧ w'.cell? (ad353.add ((x13_1).toNat * 3)) = some (.int .i64 ((rd_T31 l1 x13_1).f0)) ∧ w'.cell? ⟨(ad353.add ((x13_1).toNat * 3)).block, (ad353.add ((x13_1).toNat * 3)).off + 1, none⟩ = some (.int .i64 ((rd_T31 l1 x13_1).f1)) ∧ w'.cell? ⟨(ad353.add ((x13_1).toNat * 3)).block, (ad353.add ((x13_1).toNat * 3)).off + 2, none⟩ = some (.int .i64 ((rd_T31 l1 x13_1).f2))) (ds := []) #[false, false, false, false, false, false, false, false, false, false, false, false, false, false, false, false, false, false, false, false, false, false, false, false, false, false, false, false, false, false, false, false, false, false, false, false] (by kernel_rfl) rfl rfl ⟨hx351_0, hx351_1, hx352_0, hx352_1, ((HB.out.cell (World.block_lt_of_cell? w _ hw353_0)).trans hw353_0), ((HB.out.cell (World.block_lt_of_cell? w _ hw353_1)).trans hw353_1), ((HB.out.cell (World.block_lt_of_cell? w _ hw353_2)).trans hw353_2)⟩ (fun hHeld => ?_); refine with_tabW flywheellaw27_AllocSums.tab10 flywheellaw27_AllocSums.bits10 (fun HT_ HW_ => ?_)
          generalize w28.drew = w29 at HO_8 BK335 HB hx351_0 hx351_1 hx352_0 hx352_1 hx353_0 hx353_1 hx353_2 hHeld ⊢
          refine pure_ (i := 0) (N := some 60) (v := ?_) (a' := ?_) (bl 36 1) rfl rfl (any_of HT_.out (by kernel_rfl)) (fun _ _ _ h => h) (Or.inl ⟨by rfl, ?_⟩) ?_ ?_
          rotate_left
          ·intro w'
           go_simp
           with_reducible rfl
          rotate_left
          ·simp only [puts_]
           rfl
          refine pure_ (i := 1) (N := some 61) (v := ?_) (a' := ?_) (bl 36 3) rfl rfl (any_of HT_.out (by kernel_rfl)) (fun _ _ _ h => h) (Or.inl ⟨by rfl, ?_⟩) ?_ ?_
          rotate_left
          ·intro w'
           go_simp
           with_reducible rfl
          rotate_left
          ·simp only [puts_]
           rfl
          refine pure_ (i := 2) (N := some 62) (v := ?_) (a' := ?_) (bl 36 7) rfl rfl (any_of HT_.out (by kernel_rfl)) (fun _ _ _ h => h) (Or.inl ⟨by rfl, ?_⟩) ?_ ?_
          rotate_left
          ·intro w'
           go_simp
           with_reducible rfl
          rotate_left
          ·simp only [puts_]
           rfl
          refine pure_ (i := 3) (N := some 63) (v := ?_) (a' := ?_) (bl 36 15) rfl rfl (any_of HT_.out (by kernel_rfl)) (fun _ _ _ h => h) (Or.inl ⟨by rfl, ?_⟩) ?_ ?_
          rotate_left
          ·intro w'
           go_simp
           with_reducible rfl
          rotate_left
          ·simp only [puts_]
           rfl
          refine take_ (i := 4) (N := some 64) (v := ?_) (a' := ?_) (bl 36 31) rfl rfl (take_ofW HT_.out HW_.out (by kernel_rfl)) (fun _ _ _ h => h) (Or.inl ⟨by rfl, ?_⟩) hHeld ?_ ?_
          rotate_left
          ·rintro w' ⟨s0, s1, s2, s3, s4, s5, s6⟩
           go_simp
           with_reducible rfl
          rotate_left
          ·simp only [puts_]
           rfl
          refine pure_ (i := 5) (N := some 65) (v := ?_) (a' := ?_) (bl 36 63) rfl rfl (any_of HT_.out (by kernel_rfl)) (fun _ _ _ h => h) (Or.inl ⟨by rfl, ?_⟩) ?_ ?_
          rotate_left
          ·intro w'
           go_simp
           with_reducible rfl
          rotate_left
          ·simp only [puts_]
           rfl
          refine pure_ (i := 6) (N := some 66) (v := ?_) (a' := ?_) (bl 36 127) rfl rfl (any_of HT_.out (by kernel_rfl)) (fun _ _ _ h => h) (Or.inl ⟨by rfl, ?_⟩) ?_ ?_
          rotate_left
          ·intro w'
           go_simp
           with_reducible rfl
          rotate_left
          ·simp only [puts_]
           rfl
          refine pure_ (i := 7) (N := some 67) (v := ?_) (a' := ?_) (bl 36 255) rfl rfl (any_of HT_.out (by kernel_rfl)) (fun _ _ _ h => h) (Or.inl ⟨by rfl, ?_⟩) ?_ ?_
          rotate_left
          ·intro w'
           go_simp
           with_reducible rfl
          rotate_left
          ·simp only [puts_]
           rfl
          refine pure_ (i := 8) (N := some 68) (v := ?_) (a' := ?_) (bl 36 511) rfl rfl (any_of HT_.out (by kernel_rfl)) (fun _ _ _ h => h) (Or.inl ⟨by rfl, ?_⟩) ?_ ?_
          rotate_left
          ·intro w'
           go_simp
           with_reducible rfl
          rotate_left
          ·simp only [puts_]
           rfl
          refine pure_ (i := 9) (N := some 69) (v := ?_) (a' := ?_) (bl 36 1023) rfl rfl (any_of HT_.out (by kernel_rfl)) (fun _ _ _ h => h) (Or.inl ⟨by rfl, ?_⟩) ?_ ?_
          rotate_left
          ·intro w'
           go_simp
           with_reducible rfl
          rotate_left
          ·simp only [puts_]
           rfl
          refine pure_ (i := 10) (N := some 70) (v := ?_) (a' := ?_) (bl 36 2047) rfl rfl (any_of HT_.out (by kernel_rfl)) (fun _ _ _ h => h) (Or.inl ⟨by rfl, ?_⟩) ?_ ?_
          rotate_left
          ·intro w'
           go_simp
           with_reducible rfl
          rotate_left
          ·simp only [puts_]
           rfl
          refine take_ (i := 11) (N := some 71) (v := ?_) (a' := ?_) (bl 36 4095) rfl rfl (take_ofW HT_.out HW_.out (by kernel_rfl)) (fun _ _ _ h => h) (Or.inl ⟨by rfl, ?_⟩) hHeld ?_ ?_
          rotate_left
          ·rintro w' ⟨s0, s1, s2, s3, s4, s5, s6⟩
           go_simp
           with_reducible rfl
          rotate_left
          ·simp only [puts_]
           rfl
          refine pure_ (i := 12) (N := some 72) (v := ?_) (a' := ?_) (bl 36 8191) rfl rfl (any_of HT_.out (by kernel_rfl)) (fun _ _ _ h => h) (Or.inl ⟨by rfl, ?_⟩) ?_ ?_
          rotate_left
          ·intro w'
           go_simp
           with_reducible rfl
          rotate_left
          ·simp only [puts_]
           rfl
          refine pure_ (i := 13) (N := some 73) (v := ?_) (a' := ?_) (bl 36 16383) rfl rfl (any_of HT_.out (by kernel_rfl)) (fun _ _ _ h => h) (Or.inl ⟨by rfl, ?_⟩) ?_ ?_
          rotate_left
          ·intro w'
           go_simp
           with_reducible rfl
          rotate_left
          ·simp only [puts_]
           rfl
          refine pure_ (i := 14) (N := some 74) (v := ?_) (a' := ?_) (bl 36 32767) rfl rfl (any_of HT_.out (by kernel_rfl)) (fun _ _ _ h => h) (Or.inl ⟨by rfl, ?_⟩) ?_ ?_
          rotate_left
          ·intro w'
           go_simp
           with_reducible rfl
          rotate_left
          ·simp only [puts_]
           rfl
          refine pure_ (i := 15) (N := some 75) (v := ?_) (a' := ?_) (bl 36 65535) rfl rfl (any_of HT_.out (by kernel_rfl)) (fun _ _ _ h => h) (Or.inl ⟨by rfl, ?_⟩) ?_ ?_
          rotate_left
          ·intro w'
           go_simp
           with_reducible rfl
          rotate_left
          ·simp only [puts_]
           rfl
          refine pure_ (i := 16) (N := some 76) (v := ?_) (a' := ?_) (bl 36 131071) rfl rfl (any_of HT_.out (by kernel_rfl)) (fun _ _ _ h => h) (Or.inl ⟨by rfl, ?_⟩) ?_ ?_
          rotate_left
          ·intro w'
           go_simp
           with_reducible rfl
          rotate_left
          ·simp only [puts_]
           rfl
          refine pure_ (i := 17) (N := some 77) (v := ?_) (a' := ?_) (bl 36 262143) rfl rfl (any_of HT_.out (by kernel_rfl)) (fun _ _ _ h => h) (Or.inl ⟨by rfl, ?_⟩) ?_ ?_
          rotate_left
          ·intro w'
           go_simp
           with_reducible rfl
          rotate_left
          ·simp only [puts_]
           rfl
          refine pure_ (i := 18) (N := some 78) (v := ?_) (a' := ?_) (bl 36 524287) rfl rfl (any_of HT_.out (by kernel_rfl)) (fun _ _ _ h => h) (Or.inl ⟨by rfl, ?_⟩) ?_ ?_
          rotate_left
          ·intro w'
           go_simp
           with_reducible rfl
          rotate_left
          ·simp only [puts_]
           rfl
          refine pure_ (i := 19) (N := some 79) (v := ?_) (a' := ?_) (bl 36 1048575) rfl rfl (any_of HT_.out (by kernel_rfl)) (fun _ _ _ h => h) (Or.inl ⟨by rfl, ?_⟩) ?_ ?_
          rotate_left
          ·intro w'
           go_simp
           with_reducible rfl
          rotate_left
          ·simp only [puts_]
           rfl
          refine take_ (i := 20) (N := some 80) (v := ?_) (a' := ?_) (bl 36 2097151) rfl rfl (take_ofW HT_.out HW_.out (by kernel_rfl)) (fun _ _ _ h => h) (Or.inl ⟨by rfl, ?_⟩) hHeld ?_ ?_
          rotate_left
          ·rintro w' ⟨s0, s1, s2, s3, s4, s5, s6⟩
           go_simp
           with_reducible rfl
          rotate_left
          ·simp only [puts_]
           rfl
          refine pure_ (i := 21) (N := some 81) (v := ?_) (a' := ?_) (bl 36 4194303) rfl rfl (any_of HT_.out (by kernel_rfl)) (fun _ _ _ h => h) (Or.inl ⟨by rfl, ?_⟩) ?_ ?_
          rotate_left
          ·intro w'
           go_simp
           with_reducible rfl
          rotate_left
          ·simp only [puts_]
           rfl
          refine pure_ (i := 22) (N := some 82) (v := ?_) (a' := ?_) (bl 36 8388607) rfl rfl (any_of HT_.out (by kernel_rfl)) (fun _ _ _ h => h) (Or.inl ⟨by rfl, ?_⟩) ?_ ?_
          rotate_left
          ·intro w'
           go_simp
           with_reducible rfl
          rotate_left
          ·simp only [puts_]
           rfl
          refine pure_ (i := 23) (N := some 83) (v := ?_) (a' := ?_) (bl 36 16777215) rfl rfl (any_of HT_.out (by kernel_rfl)) (fun _ _ _ h => h) (Or.inl ⟨by rfl, ?_⟩) ?_ ?_
          rotate_left
          ·intro w'
           go_simp
           with_reducible rfl
          rotate_left
          ·simp only [puts_]
           rfl
          refine pure_ (i := 24) (N := some 84) (v := undef) (a' := ?_) (bl 36 33554431) rfl rfl (any_of HT_.out (by kernel_rfl)) (fun _ _ _ h => h) (Or.inr ⟨by rfl, rfl⟩) ?_ ?_
          rotate_left
          ·simp only [puts_]
           rfl
          refine pure_ (i := 25) (N := some 85) (v := undef) (a' := ?_) (bl 36 67108863) rfl rfl (any_of HT_.out (by kernel_rfl)) (fun _ _ _ h => h) (Or.inr ⟨by rfl, rfl⟩) ?_ ?_
          rotate_left
          ·simp only [puts_]
           rfl
          refine pure_ (i := 26) (N := some 86) (v := undef) (a' := ?_) (bl 36 134217727) rfl rfl (any_of HT_.out (by kernel_rfl)) (fun _ _ _ h => h) (Or.inr ⟨by rfl, rfl⟩) ?_ ?_
          rotate_left
          ·simp only [puts_]
           rfl
          refine pure_ (i := 27) (N := some 87) (v := undef) (a' := ?_) (bl 36 268435455) rfl rfl (any_of HT_.out (by kernel_rfl)) (fun _ _ _ h => h) (Or.inr ⟨by rfl, rfl⟩) ?_ ?_
          rotate_left
          ·simp only [puts_]
           rfl
          refine pure_ (i := 28) (N := some 88) (v := undef) (a' := ?_) (bl 36 536870911) rfl rfl (any_of HT_.out (by kernel_rfl)) (fun _ _ _ h => h) (Or.inr ⟨by rfl, rfl⟩) ?_ ?_
          rotate_left
          ·simp only [puts_]
           rfl
          refine pure_ (i := 29) (N := some 89) (v := undef) (a' := ?_) (bl 36 1073741823) rfl rfl (any_of HT_.out (by kernel_rfl)) (fun _ _ _ h => h) (Or.inr ⟨by rfl, rfl⟩) ?_ ?_
          rotate_left
          ·simp only [puts_]
           rfl
          refine pure_ (i := 30) (N := some 90) (v := undef) (a' := ?_) (bl 36 2147483647) rfl rfl (any_of HT_.out (by kernel_rfl)) (fun _ _ _ h => h) (Or.inr ⟨by rfl, rfl⟩) ?_ ?_
          rotate_left
          ·simp only [puts_]
           rfl
          refine pure_ (i := 31) (N := some 91) (v := undef) (a' := ?_) (bl 36 4294967295) rfl rfl (any_of HT_.out (by kernel_rfl)) (fun _ _ _ h => h) (Or.inr ⟨by rfl, rfl⟩) ?_ ?_
          rotate_left
          ·simp only [puts_]
           rfl
          refine pure_ (i := 32) (N := some 92) (v := undef) (a' := ?_) (bl 36 8589934591) rfl rfl (any_of HT_.out (by kernel_rfl)) (fun _ _ _ h => h) (Or.inr ⟨by rfl, rfl⟩) ?_ ?_
          rotate_left
          ·simp only [puts_]
           rfl
          refine pure_ (i := 33) (N := some 93) (v := undef) (a' := ?_) (bl 36 17179869183) rfl rfl (any_of HT_.out (by kernel_rfl)) (fun _ _ _ h => h) (Or.inr ⟨by rfl, rfl⟩) ?_ ?_
          rotate_left
          ·simp only [puts_]
           rfl
          refine pure_ (i := 34) (N := some 94) (v := undef) (a' := ?_) (bl 36 34359738367) rfl rfl (any_of HT_.out (by kernel_rfl)) (fun _ _ _ h => h) (Or.inr ⟨by rfl, rfl⟩) ?_ ?_
          rotate_left
          ·simp only [puts_]
           rfl
          refine pure_ (i := 35) (N := some 95) (v := ?_) (a' := ?_) (bl 36 68719476735) rfl rfl (any_of HT_.out (by kernel_rfl)) (fun _ _ _ h => h) (Or.inl ⟨by rfl, ?_⟩) ?_ ?_
          rotate_left
          ·intro w'
           go_simp
           with_reducible rfl
          rotate_left
          ·simp only [puts_]
           rfl
          refine done_ (done_of HT_.out (by kernel_rfl)) ?_
          try go_wp2
          go_ret
          exact ⟨by first | rfl | (simp [errW_none, errW_some] <;> rfl) | (simp only [← hji6, ← hji7]; first | rfl | (simp [errW_none, errW_some] <;> rfl)) | (simp [*, errW_none, errW_some] <;> rfl), by repeat (first | (with_reducible first | exact HB.out | apply below_alloc | apply pw_below_drewN | apply below_drew1 | refine below_set ?_ GE335.out) | exact HB.out)⟩
         ·rw [if_neg c26] at H
          have c26b0 : decide (((rd_T31 l1 x13_1).f2) < (wrap64 (((rd_T67 t345 x13_1).f0) + ((rd_T67 t345 x13_1).f1)))) = false := decide_eq_false c26
          clear c26
          by_cases c30 : ((rd_T67 t345 x13_1).f1) > ((rd_T67 t345 x13_1).f0)
          ·rw [if_pos c30] at H
           have c30b0 : decide (((rd_T67 t345 x13_1).f0) < ((rd_T67 t345 x13_1).f1)) = true := decide_eq_true c30
           clear c30
           obtain rfl := Option.some.inj H
           obtain ⟨Ao31, co31, eo31⟩ := Kd.R_slice HO_8.out
           subst eo31
           try go_wp2
           have n0_ := Aside0.mk (Kd.R_drew HO_8.out)
           have n1_ := Aside0.mk (blk_drew BK335.out)
           have n2_ := Aside0.mk (below_drew1 HB.out)
           clear HO_8
           clear BK335
           clear HB
           have HO_8 := n0_
           have BK335 := n1_
           have HB := n2_
           clear n0_ n1_ n2_
           have p349 : 0 ≤ (x13_1 : Int) := of_decide_eq_true (by first | (with_reducible assumption) | assumption)
           have q349 : x13_1 < (t345.length : Int) := of_decide_eq_true (by first | (with_reducible assumption) | assumption)
           obtain ⟨ad349, e349, hx349_0, hx349_1⟩ := at_T67 (Kd.R_reads' HO_8.out).2.2 x13_1 p349 q349
           cases e349
           replace p349 := eq_true p349
           replace q349 := eq_true q349
           have p350 : 0 ≤ (x13_1 : Int) := of_decide_eq_true (by first | (with_reducible assumption) | assumption)
           have q350 : x13_1 < (t345.length : Int) := of_decide_eq_true (by first | (with_reducible assumption) | assumption)
           obtain ⟨ad350, e350, hx350_0, hx350_1⟩ := at_T67 (Kd.R_reads' HO_8.out).2.2 x13_1 p350 q350
           obtain rfl : ad349 = ad350 := (by injection e350)
           replace p350 := eq_true p350
           replace q350 := eq_true q350
           refine start_ (n := 12) (S := fun w' => w'.cell? (ad349.add ((x13_1).toNat * 2)) = some (.int .i64 ((rd_T67 t345 x13_1).f0)) ∧ w'.cell? ⟨(ad349.add ((x13_1).toNat * 2)).block, (ad349.add ((x13_1).toNat * 2)).off + 1, none⟩ = some (.int .i64 ((rd_T67 t345 x13_1).f1)) ∧ w'.cell? (ad349.add ((x13_1).toNat * 2)) = some (.int .i64 ((rd_T67 t345 x13_1).f0)) ∧ w'.cell? ⟨(ad349.add ((x13_1).toNat * 2)).block, (ad349.add ((x13_1).toNat * 2)).off + 1, none⟩ = some (.int .i64 ((rd_T67 t345 x13_1).f1))) (ds := []) #[false, false, false, false, false, false, false, false, false, false, false, false] (by kernel_rfl) rfl rfl ⟨hx349_0, hx349_1, hx350_0, hx350_1⟩ (fun hHeld => ?_); refine with_tabW flywheellaw27_AllocSums.tab9 flywheellaw27_AllocSums.bits9 (fun HT_ HW_ => ?_)
           generalize wr.drew = w32 at HO_8 BK335 HB hx349_0 hx349_1 hx350_0 hx350_1 hHeld ⊢
           refine pure_ (i := 0) (N := some 49) (v := ?_) (a' := ?_) (bl 12 1) rfl rfl (any_of HT_.out (by kernel_rfl)) (fun _ _ _ h => h) (Or.inl ⟨by rfl, ?_⟩) ?_ ?_
           rotate_left
           ·intro w'
            go_simp
            with_reducible rfl
           rotate_left
           ·simp only [puts_]
            rfl
           refine pure_ (i := 1) (N := some 50) (v := ?_) (a' := ?_) (bl 12 3) rfl rfl (any_of HT_.out (by kernel_rfl)) (fun _ _ _ h => h) (Or.inl ⟨by rfl, ?_⟩) ?_ ?_
           rotate_left
           ·intro w'
            go_simp
            with_reducible rfl
           rotate_left
           ·simp only [puts_]
            rfl
           refine pure_ (i := 2) (N := some 51) (v := ?_) (a' := ?_) (bl 12 7) rfl rfl (any_of HT_.out (by kernel_rfl)) (fun _ _ _ h => h) (Or.inl ⟨by rfl, ?_⟩) ?_ ?_
           rotate_left
           ·intro w'
            go_simp
            with_reducible rfl
           rotate_left
           ·simp only [puts_]
            rfl
           refine pure_ (i := 3) (N := some 52) (v := ?_) (a' := ?_) (bl 12 15) rfl rfl (any_of HT_.out (by kernel_rfl)) (fun _ _ _ h => h) (Or.inl ⟨by rfl, ?_⟩) ?_ ?_
           rotate_left
           ·intro w'
            go_simp
            with_reducible rfl
           rotate_left
           ·simp only [puts_]
            rfl
           refine pure_ (i := 5) (N := some 54) (v := ?_) (a' := ?_) (bl 12 47) rfl rfl (any_of HT_.out (by kernel_rfl)) (fun _ _ _ h => h) (Or.inl ⟨by rfl, ?_⟩) ?_ ?_
           rotate_left
           ·intro w'
            go_simp
            with_reducible rfl
           rotate_left
           ·simp only [puts_]
            rfl
           refine pure_ (i := 6) (N := some 55) (v := ?_) (a' := ?_) (bl 12 111) rfl rfl (any_of HT_.out (by kernel_rfl)) (fun _ _ _ h => h) (Or.inl ⟨by rfl, ?_⟩) ?_ ?_
           rotate_left
           ·intro w'
            go_simp
            with_reducible rfl
           rotate_left
           ·simp only [puts_]
            rfl
           refine pure_ (i := 7) (N := some 56) (v := ?_) (a' := ?_) (bl 12 239) rfl rfl (any_of HT_.out (by kernel_rfl)) (fun _ _ _ h => h) (Or.inl ⟨by rfl, ?_⟩) ?_ ?_
           rotate_left
           ·intro w'
            go_simp
            with_reducible rfl
           rotate_left
           ·simp only [puts_]
            rfl
           refine pure_ (i := 8) (N := some 57) (v := ?_) (a' := ?_) (bl 12 495) rfl rfl (any_of HT_.out (by kernel_rfl)) (fun _ _ _ h => h) (Or.inl ⟨by rfl, ?_⟩) ?_ ?_
           rotate_left
           ·intro w'
            go_simp
            with_reducible rfl
           rotate_left
           ·simp only [puts_]
            rfl
           refine take_ (i := 4) (N := some 53) (v := ?_) (a' := ?_) (bl 12 511) rfl rfl (take_ofW HT_.out HW_.out (by kernel_rfl)) (fun _ _ _ h => h) (Or.inl ⟨by rfl, ?_⟩) hHeld ?_ ?_
           rotate_left
           ·rintro w' ⟨s0, s1, s2, s3⟩
            go_simp
            with_reducible rfl
           rotate_left
           ·simp only [puts_]
            rfl
           refine take_ (i := 9) (N := some 58) (v := ?_) (a' := ?_) (bl 12 1023) rfl rfl (take_ofW HT_.out HW_.out (by kernel_rfl)) (fun _ _ _ h => h) (Or.inl ⟨by rfl, ?_⟩) hHeld ?_ ?_
           rotate_left
           ·rintro w' ⟨s0, s1, s2, s3⟩
            go_simp
            with_reducible rfl
           rotate_left
           ·simp only [puts_]
            rfl
           refine pure_ (i := 10) (N := some 59) (v := ?_) (a' := ?_) (bl 12 2047) rfl rfl (any_of HT_.out (by kernel_rfl)) (fun _ _ _ h => h) (Or.inl ⟨by rfl, ?_⟩) ?_ ?_
           rotate_left
           ·intro w'
            go_simp
            with_reducible rfl
           rotate_left
           ·simp only [puts_]
            rfl
           refine pure_ (i := 11) (N := some 14) (v := ?_) (a' := ?_) (bl 12 4095) rfl rfl (any_of HT_.out (by kernel_rfl)) (fun _ _ _ h => h) (Or.inl ⟨by rfl, ?_⟩) ?_ ?_
           rotate_left
           ·intro w'
            go_simp
            with_reducible rfl
           rotate_left
           ·simp only [puts_]
            rfl
           refine done_ (done_of HT_.out (by kernel_rfl)) ?_
           try go_wp2
           have n0_ := Aside0.mk (Kd.R_drew HO_8.out)
           have n1_ := Aside0.mk (blk_drew BK335.out)
           have n2_ := Aside0.mk (below_drew1 HB.out)
           clear HO_8
           clear BK335
           clear HB
           have HO_8 := n0_
           have BK335 := n1_
           have HB := n2_
           clear n0_ n1_ n2_
           have p351 : 0 ≤ (x13_1 : Int) := of_decide_eq_true (by first | (with_reducible assumption) | assumption)
           have q351 : x13_1 < (t345.length : Int) := of_decide_eq_true (by first | (with_reducible assumption) | assumption)
           obtain ⟨ad351, e351, hx351_0, hx351_1⟩ := at_T67 (Kd.R_reads' HO_8.out).2.2 x13_1 p351 q351
           obtain rfl : ad349 = ad351 := (by injection e351)
           replace p351 := eq_true p351
           replace q351 := eq_true q351
           have p352 : 0 ≤ (x13_1 : Int) := of_decide_eq_true (by first | (with_reducible assumption) | assumption)
           have q352 : x13_1 < (t345.length : Int) := of_decide_eq_true (by first | (with_reducible assumption) | assumption)
           obtain ⟨ad352, e352, hx352_0, hx352_1⟩ := at_T67 (Kd.R_reads' HO_8.out).2.2 x13_1 p352 q352
           obtain rfl : ad349 = ad352 := (by injection e352)
           replace p352 := eq_true p352
           replace q352 := eq_true q352
           have p353 : 0 ≤ (x13_1 : Int) := of_decide_eq_true (by first | (with_reducible assumption) | assumption)
           have q353 : x13_1 < (l1.length : Int) := of_decide_eq_true (by first | (with_reducible assumption) | assumption)
           obtain ⟨ad353, e353, hx353_0, hx353_1, hx353_2⟩ := at_T31 HR1.out x13_1 p353 q353
           have hw353_2 := hx353_2
           have hw353_1 := hx353_1
           have hw353_0 := hx353_0
           cases e353
           replace hx353_0 := (HB.out.cell (World.block_lt_of_cell? w _ hx353_0)).trans hx353_0
           replace hx353_1 := (HB.out.cell (World.block_lt_of_cell? w _ hx353_1)).trans hx353_1
           replace hx353_2 := (HB.out.cell (World.block_lt_of_cell? w _ hx353_2)).trans hx353_2
           replace p353 := eq_true p353
           replace q353 := eq_true q353
           have p354 : 0 ≤ (x13_1 : Int) := of_decide_eq_true (by first | (with_reducible assumption) | assumption)
           have q354 : x13_1 < (t345.length : Int) := of_decide_eq_true (by first | (with_reducible assumption) | assumption)
           obtain ⟨ad354, e354, hx354_0, hx354_1⟩ := at_T67 (Kd.R_reads' HO_8.out).2.2 x13_1 p354 q354
           obtain rfl : ad349 = ad354 := (by injection e354)
           replace p354 := eq_true p354
           replace q354 := eq_true q354
           have p355 : 0 ≤ (x13_1 : Int) := of_decide_eq_true (by first | (with_reducible assumption) | assumption)
           have q355 : x13_1 < (t345.length : Int) := of_decide_eq_true (by first | (with_reducible assumption) | assumption)
           obtain ⟨ad355, e355, hx355_0, hx355_1⟩ := at_T67 (Kd.R_reads' HO_8.out).2.2 x13_1 p355 q355
           obtain rfl : ad349 = ad355 := (by injection e355)
           replace p355 := eq_true p355
           replace q355 := eq_true q355
           refine start_ (n := 36) (S := fun w' => w'.cell? (ad349.add ((x13_1).toNat * 2)) = some (.int .i64 ((rd_T67 t345 x13_1).f0)) ∧ w'.cell? ⟨(ad349.add ((x13_1).toNat * 2)).block, (ad349.add ((x13_1).toNat * 2)).off + 1, none⟩ = some (.int .i64 ((rd_T67 t345 x13_1).f1)) ∧ w'.cell? (ad349.add ((x13_1).toNat * 2)) = some (.int .i64 ((rd_T67 t345 x13_1).f0)) ∧ w'.cell? ⟨(ad349.add ((x13_1).toNat * 2)).block, (ad349.add ((x13_1).toNat * 2)).off + 1, none⟩ = some (.int .i64 ((rd_T67 t345 x13_1).f1)) ∧ w'.cell? (ad353.add ((x13_1).toNat * 3)) = some (.int .i64 ((rd_T31 l1 x13_1).f0)) ∧ w'.cell? ⟨(ad353.add ((x13_1).toNat * 3)).block, (ad353.add ((x13_1).toNat * 3)).off + 1, none⟩ = some (.int .i64 ((rd_T31 l1 x13_1).f1)) ∧ w'.cell? ⟨(ad353.add ((x13_1).toNat * 3)).block, (ad353.add ((x13_1).toNat * 3)).off + 2, none⟩ = some (.int .i64 ((rd_T31 l1 x13_1).f2)) ∧ w'.cell? (ad349.add ((x13_1).toNat * 2)) = some (.int .i64 ((rd_T67 t345 x13_1).f0)) ∧ w'.cell? ⟨(ad349.add ((x13_1).toNat * 2)).block, (ad349.add ((x13_1).toNat * 2)).off + 1, none⟩ = some (.int .i64 ((rd_T67 t345 x13_1).f1)) ∧ w'.cell? (ad349.add ((x13_1).toNat * 2)) = some (.int .i64 ((rd_T67 t345 x13_1).f0)) ∧ w'.cell? ⟨(ad349.add ((x13_1).toNat * 2)).block, (ad349.add ((x13_1).toNat * 2)).off + 1, none⟩ = some (.int .i64 ((rd_T67 t345 x13_1).f1))) (ds := []) #[false, false, false, false, false, false, false, false, false, false, false, false, false, false, false, false, false, false, false, false, false, false, false, false, false, false, false, false, false, false, false, false, false, false, false, false] (by kernel_rfl) rfl rfl ⟨hx351_0, hx351_1, hx352_0, hx352_1, ((HB.out.cell (World.block_lt_of_cell? w _ hw353_0)).trans hw353_0), ((HB.out.cell (World.block_lt_of_cell? w _ hw353_1)).trans hw353_1), ((HB.out.cell (World.block_lt_of_cell? w _ hw353_2)).trans hw353_2), hx354_0, hx354_1, hx355_0, hx355_1⟩ (fun hHeld => ?_); refine with_tabW flywheellaw27_AllocSums.tab10 flywheellaw27_AllocSums.bits10 (fun HT_ HW_ => ?_)
           generalize w32.drew = w33 at HO_8 BK335 HB hx351_0 hx351_1 hx352_0 hx352_1 hx353_0 hx353_1 hx353_2 hx354_0 hx354_1 hx355_0 hx355_1 hHeld ⊢
           refine pure_ (i := 0) (N := some 60) (v := ?_) (a' := ?_) (bl 36 1) rfl rfl (any_of HT_.out (by kernel_rfl)) (fun _ _ _ h => h) (Or.inl ⟨by rfl, ?_⟩) ?_ ?_
           rotate_left
           ·intro w'
            go_simp
            with_reducible rfl
           rotate_left
           ·simp only [puts_]
            rfl
           refine pure_ (i := 1) (N := some 61) (v := ?_) (a' := ?_) (bl 36 3) rfl rfl (any_of HT_.out (by kernel_rfl)) (fun _ _ _ h => h) (Or.inl ⟨by rfl, ?_⟩) ?_ ?_
           rotate_left
           ·intro w'
            go_simp
            with_reducible rfl
           rotate_left
           ·simp only [puts_]
            rfl
           refine pure_ (i := 2) (N := some 62) (v := ?_) (a' := ?_) (bl 36 7) rfl rfl (any_of HT_.out (by kernel_rfl)) (fun _ _ _ h => h) (Or.inl ⟨by rfl, ?_⟩) ?_ ?_
           rotate_left
           ·intro w'
            go_simp
            with_reducible rfl
           rotate_left
           ·simp only [puts_]
            rfl
           refine pure_ (i := 3) (N := some 63) (v := ?_) (a' := ?_) (bl 36 15) rfl rfl (any_of HT_.out (by kernel_rfl)) (fun _ _ _ h => h) (Or.inl ⟨by rfl, ?_⟩) ?_ ?_
           rotate_left
           ·intro w'
            go_simp
            with_reducible rfl
           rotate_left
           ·simp only [puts_]
            rfl
           refine take_ (i := 4) (N := some 64) (v := ?_) (a' := ?_) (bl 36 31) rfl rfl (take_ofW HT_.out HW_.out (by kernel_rfl)) (fun _ _ _ h => h) (Or.inl ⟨by rfl, ?_⟩) hHeld ?_ ?_
           rotate_left
           ·rintro w' ⟨s0, s1, s2, s3, s4, s5, s6, s7, s8, s9, s10⟩
            go_simp
            with_reducible rfl
           rotate_left
           ·simp only [puts_]
            rfl
           refine pure_ (i := 5) (N := some 65) (v := ?_) (a' := ?_) (bl 36 63) rfl rfl (any_of HT_.out (by kernel_rfl)) (fun _ _ _ h => h) (Or.inl ⟨by rfl, ?_⟩) ?_ ?_
           rotate_left
           ·intro w'
            go_simp
            with_reducible rfl
           rotate_left
           ·simp only [puts_]
            rfl
           refine pure_ (i := 6) (N := some 66) (v := ?_) (a' := ?_) (bl 36 127) rfl rfl (any_of HT_.out (by kernel_rfl)) (fun _ _ _ h => h) (Or.inl ⟨by rfl, ?_⟩) ?_ ?_
           rotate_left
           ·intro w'
            go_simp
            with_reducible rfl
           rotate_left
           ·simp only [puts_]
            rfl
           refine pure_ (i := 7) (N := some 67) (v := ?_) (a' := ?_) (bl 36 255) rfl rfl (any_of HT_.out (by kernel_rfl)) (fun _ _ _ h => h) (Or.inl ⟨by rfl, ?_⟩) ?_ ?_
           rotate_left
           ·intro w'
            go_simp
            with_reducible rfl
           rotate_left
           ·simp only [puts_]
            rfl
           refine pure_ (i := 8) (N := some 68) (v := ?_) (a' := ?_) (bl 36 511) rfl rfl (any_of HT_.out (by kernel_rfl)) (fun _ _ _ h => h) (Or.inl ⟨by rfl, ?_⟩) ?_ ?_
           rotate_left
           ·intro w'
            go_simp
            with_reducible rfl
           rotate_left
           ·simp only [puts_]
            rfl
           refine pure_ (i := 9) (N := some 69) (v := ?_) (a' := ?_) (bl 36 1023) rfl rfl (any_of HT_.out (by kernel_rfl)) (fun _ _ _ h => h) (Or.inl ⟨by rfl, ?_⟩) ?_ ?_
           rotate_left
           ·intro w'
            go_simp
            with_reducible rfl
           rotate_left
           ·simp only [puts_]
            rfl
           refine pure_ (i := 10) (N := some 70) (v := ?_) (a' := ?_) (bl 36 2047) rfl rfl (any_of HT_.out (by kernel_rfl)) (fun _ _ _ h => h) (Or.inl ⟨by rfl, ?_⟩) ?_ ?_
           rotate_left
           ·intro w'
            go_simp
            with_reducible rfl
           rotate_left
           ·simp only [puts_]
            rfl
           refine take_ (i := 11) (N := some 71) (v := ?_) (a' := ?_) (bl 36 4095) rfl rfl (take_ofW HT_.out HW_.out (by kernel_rfl)) (fun _ _ _ h => h) (Or.inl ⟨by rfl, ?_⟩) hHeld ?_ ?_
           rotate_left
           ·rintro w' ⟨s0, s1, s2, s3, s4, s5, s6, s7, s8, s9, s10⟩
            go_simp
            with_reducible rfl
           rotate_left
           ·simp only [puts_]
            rfl
           refine pure_ (i := 12) (N := some 72) (v := ?_) (a' := ?_) (bl 36 8191) rfl rfl (any_of HT_.out (by kernel_rfl)) (fun _ _ _ h => h) (Or.inl ⟨by rfl, ?_⟩) ?_ ?_
           rotate_left
           ·intro w'
            go_simp
            with_reducible rfl
           rotate_left
           ·simp only [puts_]
            rfl
           refine pure_ (i := 13) (N := some 73) (v := ?_) (a' := ?_) (bl 36 16383) rfl rfl (any_of HT_.out (by kernel_rfl)) (fun _ _ _ h => h) (Or.inl ⟨by rfl, ?_⟩) ?_ ?_
           rotate_left
           ·intro w'
            go_simp
            with_reducible rfl
           rotate_left
           ·simp only [puts_]
            rfl
           refine pure_ (i := 14) (N := some 74) (v := ?_) (a' := ?_) (bl 36 32767) rfl rfl (any_of HT_.out (by kernel_rfl)) (fun _ _ _ h => h) (Or.inl ⟨by rfl, ?_⟩) ?_ ?_
           rotate_left
           ·intro w'
            go_simp
            with_reducible rfl
           rotate_left
           ·simp only [puts_]
            rfl
           refine pure_ (i := 15) (N := some 75) (v := ?_) (a' := ?_) (bl 36 65535) rfl rfl (any_of HT_.out (by kernel_rfl)) (fun _ _ _ h => h) (Or.inl ⟨by rfl, ?_⟩) ?_ ?_
           rotate_left
           ·intro w'
            go_simp
            with_reducible rfl
           rotate_left
           ·simp only [puts_]
            rfl
           refine pure_ (i := 16) (N := some 76) (v := ?_) (a' := ?_) (bl 36 131071) rfl rfl (any_of HT_.out (by kernel_rfl)) (fun _ _ _ h => h) (Or.inl ⟨by rfl, ?_⟩) ?_ ?_
           rotate_left
           ·intro w'
            go_simp
            with_reducible rfl
           rotate_left
           ·simp only [puts_]
            rfl
           refine pure_ (i := 17) (N := some 77) (v := ?_) (a' := ?_) (bl 36 262143) rfl rfl (any_of HT_.out (by kernel_rfl)) (fun _ _ _ h => h) (Or.inl ⟨by rfl, ?_⟩) ?_ ?_
           rotate_left
           ·intro w'
            go_simp
            with_reducible rfl
           rotate_left
           ·simp only [puts_]
            rfl
           refine pure_ (i := 18) (N := some 78) (v := ?_) (a' := ?_) (bl 36 524287) rfl rfl (any_of HT_.out (by kernel_rfl)) (fun _ _ _ h => h) (Or.inl ⟨by rfl, ?_⟩) ?_ ?_
           rotate_left
           ·intro w'
            go_simp
            with_reducible rfl
           rotate_left
           ·simp only [puts_]
            rfl
           refine pure_ (i := 19) (N := some 79) (v := ?_) (a' := ?_) (bl 36 1048575) rfl rfl (any_of HT_.out (by kernel_rfl)) (fun _ _ _ h => h) (Or.inl ⟨by rfl, ?_⟩) ?_ ?_
           rotate_left
           ·intro w'
            go_simp
            with_reducible rfl
           rotate_left
           ·simp only [puts_]
            rfl
           refine take_ (i := 20) (N := some 80) (v := ?_) (a' := ?_) (bl 36 2097151) rfl rfl (take_ofW HT_.out HW_.out (by kernel_rfl)) (fun _ _ _ h => h) (Or.inl ⟨by rfl, ?_⟩) hHeld ?_ ?_
           rotate_left
           ·rintro w' ⟨s0, s1, s2, s3, s4, s5, s6, s7, s8, s9, s10⟩
            go_simp
            with_reducible rfl
           rotate_left
           ·simp only [puts_]
            rfl
           refine pure_ (i := 21) (N := some 81) (v := ?_) (a' := ?_) (bl 36 4194303) rfl rfl (any_of HT_.out (by kernel_rfl)) (fun _ _ _ h => h) (Or.inl ⟨by rfl, ?_⟩) ?_ ?_
           rotate_left
           ·intro w'
            go_simp
            with_reducible rfl
           rotate_left
           ·simp only [puts_]
            rfl
           refine pure_ (i := 22) (N := some 82) (v := ?_) (a' := ?_) (bl 36 8388607) rfl rfl (any_of HT_.out (by kernel_rfl)) (fun _ _ _ h => h) (Or.inl ⟨by rfl, ?_⟩) ?_ ?_
           rotate_left
           ·intro w'
            go_simp
            with_reducible rfl
           rotate_left
           ·simp only [puts_]
            rfl
           refine pure_ (i := 23) (N := some 83) (v := ?_) (a' := ?_) (bl 36 16777215) rfl rfl (any_of HT_.out (by kernel_rfl)) (fun _ _ _ h => h) (Or.inl ⟨by rfl, ?_⟩) ?_ ?_
           rotate_left
           ·intro w'
            go_simp
            with_reducible rfl
           rotate_left
           ·simp only [puts_]
            rfl
           refine pure_ (i := 24) (N := some 84) (v := ?_) (a' := ?_) (bl 36 33554431) rfl rfl (any_of HT_.out (by kernel_rfl)) (fun _ _ _ h => h) (Or.inl ⟨by rfl, ?_⟩) ?_ ?_
           rotate_left
           ·intro w'
            go_simp
            with_reducible rfl
           rotate_left
           ·simp only [puts_]
            rfl
           refine pure_ (i := 25) (N := some 85) (v := ?_) (a' := ?_) (bl 36 67108863) rfl rfl (any_of HT_.out (by kernel_rfl)) (fun _ _ _ h => h) (Or.inl ⟨by rfl, ?_⟩) ?_ ?_
           rotate_left
           ·intro w'
            go_simp
            with_reducible rfl
           rotate_left
           ·simp only [puts_]
            rfl
           refine pure_ (i := 26) (N := some 86) (v := ?_) (a' := ?_) (bl 36 134217727) rfl rfl (any_of HT_.out (by kernel_rfl)) (fun _ _ _ h => h) (Or.inl ⟨by rfl, ?_⟩) ?_ ?_
           rotate_left
           ·intro w'
            go_simp
            with_reducible rfl
           rotate_left
           ·simp only [puts_]
            rfl
           refine pure_ (i := 27) (N := some 87) (v := ?_) (a' := ?_) (bl 36 268435455) rfl rfl (any_of HT_.out (by kernel_rfl)) (fun _ _ _ h => h) (Or.inl ⟨by rfl, ?_⟩) ?_ ?_
           rotate_left
           ·intro w'
            go_simp
            with_reducible rfl
           rotate_left
           ·simp only [puts_]
            rfl
           refine pure_ (i := 29) (N := some 89) (v := ?_) (a' := ?_) (bl 36 805306367) rfl rfl (any_of HT_.out (by kernel_rfl)) (fun _ _ _ h => h) (Or.inl ⟨by rfl, ?_⟩) ?_ ?_
           rotate_left
           ·intro w'
            go_simp
            with_reducible rfl
           rotate_left
           ·simp only [puts_]
            rfl
           refine pure_ (i := 30) (N := some 90) (v := ?_) (a' := ?_) (bl 36 1879048191) rfl rfl (any_of HT_.out (by kernel_rfl)) (fun _ _ _ h => h) (Or.inl ⟨by rfl, ?_⟩) ?_ ?_
           rotate_left
           ·intro w'
            go_simp
            with_reducible rfl
           rotate_left
           ·simp only [puts_]
            rfl
           refine pure_ (i := 31) (N := some 91) (v := ?_) (a' := ?_) (bl 36 4026531839) rfl rfl (any_of HT_.out (by kernel_rfl)) (fun _ _ _ h => h) (Or.inl ⟨by rfl, ?_⟩) ?_ ?_
           rotate_left
           ·intro w'
            go_simp
            with_reducible rfl
           rotate_left
           ·simp only [puts_]
            rfl
           refine pure_ (i := 32) (N := some 92) (v := ?_) (a' := ?_) (bl 36 8321499135) rfl rfl (any_of HT_.out (by kernel_rfl)) (fun _ _ _ h => h) (Or.inl ⟨by rfl, ?_⟩) ?_ ?_
           rotate_left
           ·intro w'
            go_simp
            with_reducible rfl
           rotate_left
           ·simp only [puts_]
            rfl
           refine take_ (i := 28) (N := some 88) (v := ?_) (a' := ?_) (bl 36 8589934591) rfl rfl (take_ofW HT_.out HW_.out (by kernel_rfl)) (fun _ _ _ h => h) (Or.inl ⟨by rfl, ?_⟩) hHeld ?_ ?_
           rotate_left
           ·rintro w' ⟨s0, s1, s2, s3, s4, s5, s6, s7, s8, s9, s10⟩
            go_simp
            with_reducible rfl
           rotate_left
           ·simp only [puts_]
            rfl
           refine take_ (i := 33) (N := some 93) (v := ?_) (a' := ?_) (bl 36 17179869183) rfl rfl (take_ofW HT_.out HW_.out (by kernel_rfl)) (fun _ _ _ h => h) (Or.inl ⟨by rfl, ?_⟩) hHeld ?_ ?_
           rotate_left
           ·rintro w' ⟨s0, s1, s2, s3, s4, s5, s6, s7, s8, s9, s10⟩
            go_simp
            with_reducible rfl
           rotate_left
           ·simp only [puts_]
            rfl
           refine pure_ (i := 34) (N := some 94) (v := ?_) (a' := ?_) (bl 36 34359738367) rfl rfl (any_of HT_.out (by kernel_rfl)) (fun _ _ _ h => h) (Or.inl ⟨by rfl, ?_⟩) ?_ ?_
           rotate_left
           ·intro w'
            go_simp
            with_reducible rfl
           rotate_left
           ·simp only [puts_]
            rfl
           refine pure_ (i := 35) (N := some 95) (v := ?_) (a' := ?_) (bl 36 68719476735) rfl rfl (any_of HT_.out (by kernel_rfl)) (fun _ _ _ h => h) (Or.inl ⟨by rfl, ?_⟩) ?_ ?_
           rotate_left
           ·intro w'
            go_simp
            with_reducible rfl
           rotate_left
           ·simp only [puts_]
            rfl
           refine done_ (done_of HT_.out (by kernel_rfl)) ?_
           try go_wp2
           go_ret
           exact ⟨by first | rfl | (simp [errW_none, errW_some] <;> rfl) | (simp only [← hji6, ← hji7]; first | rfl | (simp [errW_none, errW_some] <;> rfl)) | (simp [*, errW_none, errW_some] <;> rfl), by repeat (first | (with_reducible first | exact HB.out | apply below_alloc | apply pw_below_drewN | apply below_drew1 | refine below_set ?_ GE335.out) | exact HB.out)⟩
          ·rw [if_neg c30] at H
           have c30b0 : decide (((rd_T67 t345 x13_1).f0) < ((rd_T67 t345 x13_1).f1)) = false := decide_eq_false c30
           clear c30
           have H' := Aside0.mk H
           clear H
           obtain ⟨Ao34, co34, eo34⟩ := Kd.R_slice HO_8.out
           subst eo34
           try go_wp2
           have n0_ := Aside0.mk (Kd.R_drew HO_8.out)
           have n1_ := Aside0.mk (blk_drew BK335.out)
           have n2_ := Aside0.mk (below_drew1 HB.out)
           clear HO_8
           clear BK335
           clear HB
           have HO_8 := n0_
           have BK335 := n1_
           have HB := n2_
           clear n0_ n1_ n2_
           have p349 : 0 ≤ (x13_1 : Int) := of_decide_eq_true (by first | (with_reducible assumption) | assumption)
           have q349 : x13_1 < (t345.length : Int) := of_decide_eq_true (by first | (with_reducible assumption) | assumption)
           obtain ⟨ad349, e349, hx349_0, hx349_1⟩ := at_T67 (Kd.R_reads' HO_8.out).2.2 x13_1 p349 q349
           cases e349
           replace p349 := eq_true p349
           replace q349 := eq_true q349
           have p350 : 0 ≤ (x13_1 : Int) := of_decide_eq_true (by first | (with_reducible assumption) | assumption)
           have q350 : x13_1 < (t345.length : Int) := of_decide_eq_true (by first | (with_reducible assumption) | assumption)
           obtain ⟨ad350, e350, hx350_0, hx350_1⟩ := at_T67 (Kd.R_reads' HO_8.out).2.2 x13_1 p350 q350
           obtain rfl : ad349 = ad350 := (by injection e350)
           replace p350 := eq_true p350
           replace q350 := eq_true q350
           refine start_ (n := 12) (S := fun w' => w'.cell? (ad349.add ((x13_1).toNat * 2)) = some (.int .i64 ((rd_T67 t345 x13_1).f0)) ∧ w'.cell? ⟨(ad349.add ((x13_1).toNat * 2)).block, (ad349.add ((x13_1).toNat * 2)).off + 1, none⟩ = some (.int .i64 ((rd_T67 t345 x13_1).f1)) ∧ w'.cell? (ad349.add ((x13_1).toNat * 2)) = some (.int .i64 ((rd_T67 t345 x13_1).f0)) ∧ w'.cell? ⟨(ad349.add ((x13_1).toNat * 2)).block, (ad349.add ((x13_1).toNat * 2)).off + 1, none⟩ = some (.int .i64 ((rd_T67 t345 x13_1).f1))) (ds := []) #[false, false, false, false, false, false, false, false, false, false, false, false] (by kernel_rfl) rfl rfl ⟨hx349_0, hx349_1, hx350_0, hx350_1⟩ (fun hHeld => ?_); refine with_tabW flywheellaw27_AllocSums.tab9 flywheellaw27_AllocSums.bits9 (fun HT_ HW_ => ?_)
           generalize wr.drew = w35 at HO_8 BK335 HB hx349_0 hx349_1 hx350_0 hx350_1 hHeld ⊢
           refine pure_ (i := 0) (N := some 49) (v := ?_) (a' := ?_) (bl 12 1) rfl rfl (any_of HT_.out (by kernel_rfl)) (fun _ _ _ h => h) (Or.inl ⟨by rfl, ?_⟩) ?_ ?_
           rotate_left
           ·intro w'
            go_simp
            with_reducible rfl
           rotate_left
           ·simp only [puts_]
            rfl
           refine pure_ (i := 1) (N := some 50) (v := ?_) (a' := ?_) (bl 12 3) rfl rfl (any_of HT_.out (by kernel_rfl)) (fun _ _ _ h => h) (Or.inl ⟨by rfl, ?_⟩) ?_ ?_
           rotate_left
           ·intro w'
            go_simp
            with_reducible rfl
           rotate_left
           ·simp only [puts_]
            rfl
           refine pure_ (i := 2) (N := some 51) (v := ?_) (a' := ?_) (bl 12 7) rfl rfl (any_of HT_.out (by kernel_rfl)) (fun _ _ _ h => h) (Or.inl ⟨by rfl, ?_⟩) ?_ ?_
           rotate_left
           ·intro w'
            go_simp
            with_reducible rfl
           rotate_left
           ·simp only [puts_]
            rfl
           refine pure_ (i := 3) (N := some 52) (v := ?_) (a' := ?_) (bl 12 15) rfl rfl (any_of HT_.out (by kernel_rfl)) (fun _ _ _ h => h) (Or.inl ⟨by rfl, ?_⟩) ?_ ?_
           rotate_left
           ·intro w'
            go_simp
            with_reducible rfl
           rotate_left
           ·simp only [puts_]
            rfl
           refine pure_ (i := 5) (N := some 54) (v := ?_) (a' := ?_) (bl 12 47) rfl rfl (any_of HT_.out (by kernel_rfl)) (fun _ _ _ h => h) (Or.inl ⟨by rfl, ?_⟩) ?_ ?_
           rotate_left
           ·intro w'
            go_simp
            with_reducible rfl
           rotate_left
           ·simp only [puts_]
            rfl
           refine pure_ (i := 6) (N := some 55) (v := ?_) (a' := ?_) (bl 12 111) rfl rfl (any_of HT_.out (by kernel_rfl)) (fun _ _ _ h => h) (Or.inl ⟨by rfl, ?_⟩) ?_ ?_
           rotate_left
           ·intro w'
            go_simp
            with_reducible rfl
           rotate_left
           ·simp only [puts_]
            rfl
           refine pure_ (i := 7) (N := some 56) (v := ?_) (a' := ?_) (bl 12 239) rfl rfl (any_of HT_.out (by kernel_rfl)) (fun _ _ _ h => h) (Or.inl ⟨by rfl, ?_⟩) ?_ ?_
           rotate_left
           ·intro w'
            go_simp
            with_reducible rfl
           rotate_left
           ·simp only [puts_]
            rfl
           refine pure_ (i := 8) (N := some 57) (v := ?_) (a' := ?_) (bl 12 495) rfl rfl (any_of HT_.out (by kernel_rfl)) (fun _ _ _ h => h) (Or.inl ⟨by rfl, ?_⟩) ?_ ?_
           rotate_left
           ·intro w'
            go_simp
            with_reducible rfl
           rotate_left
           ·simp only [puts_]
            rfl
           refine take_ (i := 4) (N := some 53) (v := ?_) (a' := ?_) (bl 12 511) rfl rfl (take_ofW HT_.out HW_.out (by kernel_rfl)) (fun _ _ _ h => h) (Or.inl ⟨by rfl, ?_⟩) hHeld ?_ ?_
           rotate_left
           ·rintro w' ⟨s0, s1, s2, s3⟩
            go_simp
            with_reducible rfl
           rotate_left
           ·simp only [puts_]
            rfl
           refine take_ (i := 9) (N := some 58) (v := ?_) (a' := ?_) (bl 12 1023) rfl rfl (take_ofW HT_.out HW_.out (by kernel_rfl)) (fun _ _ _ h => h) (Or.inl ⟨by rfl, ?_⟩) hHeld ?_ ?_
           rotate_left
           ·rintro w' ⟨s0, s1, s2, s3⟩
            go_simp
            with_reducible rfl
           rotate_left
           ·simp only [puts_]
            rfl
           refine pure_ (i := 10) (N := some 59) (v := ?_) (a' := ?_) (bl 12 2047) rfl rfl (any_of HT_.out (by kernel_rfl)) (fun _ _ _ h => h) (Or.inl ⟨by rfl, ?_⟩) ?_ ?_
           rotate_left
           ·intro w'
            go_simp
            with_reducible rfl
           rotate_left
           ·simp only [puts_]
            rfl
           refine pure_ (i := 11) (N := some 14) (v := ?_) (a' := ?_) (bl 12 4095) rfl rfl (any_of HT_.out (by kernel_rfl)) (fun _ _ _ h => h) (Or.inl ⟨by rfl, ?_⟩) ?_ ?_
           rotate_left
           ·intro w'
            go_simp
            with_reducible rfl
           rotate_left
           ·simp only [puts_]
            rfl
           refine done_ (done_of HT_.out (by kernel_rfl)) ?_
           try go_wp2
           have n0_ := Aside0.mk (Kd.R_drew HO_8.out)
           have n1_ := Aside0.mk (blk_drew BK335.out)
           have n2_ := Aside0.mk (below_drew1 HB.out)
           clear HO_8
           clear BK335
           clear HB
           have HO_8 := n0_
           have BK335 := n1_
           have HB := n2_
           clear n0_ n1_ n2_
           have p351 : 0 ≤ (x13_1 : Int) := of_decide_eq_true (by first | (with_reducible assumption) | assumption)
           have q351 : x13_1 < (t345.length : Int) := of_decide_eq_true (by first | (with_reducible assumption) | assumption)
           obtain ⟨ad351, e351, hx351_0, hx351_1⟩ := at_T67 (Kd.R_reads' HO_8.out).2.2 x13_1 p351 q351
           obtain rfl : ad349 = ad351 := (by injection e351)
           replace p351 := eq_true p351
           replace q351 := eq_true q351
           have p352 : 0 ≤ (x13_1 : Int) := of_decide_eq_true (by first | (with_reducible assumption) | assumption)
           have q352 : x13_1 < (t345.length : Int) := of_decide_eq_true (by first | (with_reducible assumption) | assumption)
           obtain ⟨ad352, e352, hx352_0, hx352_1⟩ := at_T67 (Kd.R_reads' HO_8.out).2.2 x13_1 p352 q352
           obtain rfl : ad349 = ad352 := (by injection e352)
           replace p352 := eq_true p352
           replace q352 := eq_true q352
           have p353 : 0 ≤ (x13_1 : Int) := of_decide_eq_true (by first | (with_reducible assumption) | assumption)
           have q353 : x13_1 < (l1.length : Int) := of_decide_eq_true (by first | (with_reducible assumption) | assumption)
           obtain ⟨ad353, e353, hx353_0, hx353_1, hx353_2⟩ := at_T31 HR1.out x13_1 p353 q353
           have hw353_2 := hx353_2
           have hw353_1 := hx353_1
           have hw353_0 := hx353_0
           cases e353
           replace hx353_0 := (HB.out.cell (World.block_lt_of_cell? w _ hx353_0)).trans hx353_0
           replace hx353_1 := (HB.out.cell (World.block_lt_of_cell? w _ hx353_1)).trans hx353_1
           replace hx353_2 := (HB.out.cell (World.block_lt_of_cell? w _ hx353_2)).trans hx353_2
           replace p353 := eq_true p353
           replace q353 := eq_true q353
           have p354 : 0 ≤ (x13_1 : Int) := of_decide_eq_true (by first | (with_reducible assumption) | assumption)
           have q354 : x13_1 < (t345.length : Int) := of_decide_eq_true (by first | (with_reducible assumption) | assumption)
           obtain ⟨ad354, e354, hx354_0, hx354_1⟩ := at_T67 (Kd.R_reads' HO_8.out).2.2 x13_1 p354 q354
           obtain rfl : ad349 = ad354 := (by injection e354)
           replace p354 := eq_true p354
           replace q354 := eq_true q354
           have p355 : 0 ≤ (x13_1 : Int) := of_decide_eq_true (by first | (with_reducible assumption) | assumption)
           have q355 : x13_1 < (t345.length : Int) := of_decide_eq_true (by first | (with_reducible assumption) | assumption)
           obtain ⟨ad355, e355, hx355_0, hx355_1⟩ := at_T67 (Kd.R_reads' HO_8.out).2.2 x13_1 p355 q355
           obtain rfl : ad349 = ad355 := (by injection e355)
           replace p355 := eq_true p355
           replace q355 := eq_true q355
           refine start_ (n := 36) (S := fun w' => w'.cell? (ad349.add ((x13_1).toNat * 2)) = some (.int .i64 ((rd_T67 t345 x13_1).f0)) ∧ w'.cell? ⟨(ad349.add ((x13_1).toNat * 2)).block, (ad349.add ((x13_1).toNat * 2)).off + 1, none⟩ = some (.int .i64 ((rd_T67 t345 x13_1).f1)) ∧ w'.cell? (ad349.add ((x13_1).toNat * 2)) = some (.int .i64 ((rd_T67 t345 x13_1).f0)) ∧ w'.cell? ⟨(ad349.add ((x13_1).toNat * 2)).block, (ad349.add ((x13_1).toNat * 2)).off + 1, none⟩ = some (.int .i64 ((rd_T67 t345 x13_1).f1)) ∧ w'.cell? (ad353.add ((x13_1).toNat * 3)) = some (.int .i64 ((rd_T31 l1 x13_1).f0)) ∧ w'.cell? ⟨(ad353.add ((x13_1).toNat * 3)).block, (ad353.add ((x13_1).toNat * 3)).off + 1, none⟩ = some (.int .i64 ((rd_T31 l1 x13_1).f1)) ∧ w'.cell? ⟨(ad353.add ((x13_1).toNat * 3)).block, (ad353.add ((x13_1).toNat * 3)).off + 2, none⟩ = some (.int .i64 ((rd_T31 l1 x13_1).f2)) ∧ w'.cell? (ad349.add ((x13_1).toNat * 2)) = some (.int .i64 ((rd_T67 t345 x13_1).f0)) ∧ w'.cell? ⟨(ad349.add ((x13_1).toNat * 2)).block, (ad349.add ((x13_1).toNat * 2)).off + 1, none⟩ = some (.int .i64 ((rd_T67 t345 x13_1).f1)) ∧ w'.cell? (ad349.add ((x13_1).toNat * 2)) = some (.int .i64 ((rd_T67 t345 x13_1).f0)) ∧ w'.cell? ⟨(ad349.add ((x13_1).toNat * 2)).block, (ad349.add ((x13_1).toNat * 2)).off + 1, none⟩ = some (.int .i64 ((rd_T67 t345 x13_1).f1))) (ds := []) #[false, false, false, false, false, false, false, false, false, false, false, false, false, false, false, false, false, false, false, false, false, false, false, false, false, false, false, false, false, false, false, false, false, false, false, false] (by kernel_rfl) rfl rfl ⟨hx351_0, hx351_1, hx352_0, hx352_1, ((HB.out.cell (World.block_lt_of_cell? w _ hw353_0)).trans hw353_0), ((HB.out.cell (World.block_lt_of_cell? w _ hw353_1)).trans hw353_1), ((HB.out.cell (World.block_lt_of_cell? w _ hw353_2)).trans hw353_2), hx354_0, hx354_1, hx355_0, hx355_1⟩ (fun hHeld => ?_); refine with_tabW flywheellaw27_AllocSums.tab10 flywheellaw27_AllocSums.bits10 (fun HT_ HW_ => ?_)
           generalize w35.drew = w36 at HO_8 BK335 HB hx351_0 hx351_1 hx352_0 hx352_1 hx353_0 hx353_1 hx353_2 hx354_0 hx354_1 hx355_0 hx355_1 hHeld ⊢
           refine pure_ (i := 0) (N := some 60) (v := ?_) (a' := ?_) (bl 36 1) rfl rfl (any_of HT_.out (by kernel_rfl)) (fun _ _ _ h => h) (Or.inl ⟨by rfl, ?_⟩) ?_ ?_
           rotate_left
           ·intro w'
            go_simp
            with_reducible rfl
           rotate_left
           ·simp only [puts_]
            rfl
           refine pure_ (i := 1) (N := some 61) (v := ?_) (a' := ?_) (bl 36 3) rfl rfl (any_of HT_.out (by kernel_rfl)) (fun _ _ _ h => h) (Or.inl ⟨by rfl, ?_⟩) ?_ ?_
           rotate_left
           ·intro w'
            go_simp
            with_reducible rfl
           rotate_left
           ·simp only [puts_]
            rfl
           refine pure_ (i := 2) (N := some 62) (v := ?_) (a' := ?_) (bl 36 7) rfl rfl (any_of HT_.out (by kernel_rfl)) (fun _ _ _ h => h) (Or.inl ⟨by rfl, ?_⟩) ?_ ?_
           rotate_left
           ·intro w'
            go_simp
            with_reducible rfl
           rotate_left
           ·simp only [puts_]
            rfl
           refine pure_ (i := 3) (N := some 63) (v := ?_) (a' := ?_) (bl 36 15) rfl rfl (any_of HT_.out (by kernel_rfl)) (fun _ _ _ h => h) (Or.inl ⟨by rfl, ?_⟩) ?_ ?_
           rotate_left
           ·intro w'
            go_simp
            with_reducible rfl
           rotate_left
           ·simp only [puts_]
            rfl
           refine take_ (i := 4) (N := some 64) (v := ?_) (a' := ?_) (bl 36 31) rfl rfl (take_ofW HT_.out HW_.out (by kernel_rfl)) (fun _ _ _ h => h) (Or.inl ⟨by rfl, ?_⟩) hHeld ?_ ?_
           rotate_left
           ·rintro w' ⟨s0, s1, s2, s3, s4, s5, s6, s7, s8, s9, s10⟩
            go_simp
            with_reducible rfl
           rotate_left
           ·simp only [puts_]
            rfl
           refine pure_ (i := 5) (N := some 65) (v := ?_) (a' := ?_) (bl 36 63) rfl rfl (any_of HT_.out (by kernel_rfl)) (fun _ _ _ h => h) (Or.inl ⟨by rfl, ?_⟩) ?_ ?_
           rotate_left
           ·intro w'
            go_simp
            with_reducible rfl
           rotate_left
           ·simp only [puts_]
            rfl
           refine pure_ (i := 6) (N := some 66) (v := ?_) (a' := ?_) (bl 36 127) rfl rfl (any_of HT_.out (by kernel_rfl)) (fun _ _ _ h => h) (Or.inl ⟨by rfl, ?_⟩) ?_ ?_
           rotate_left
           ·intro w'
            go_simp
            with_reducible rfl
           rotate_left
           ·simp only [puts_]
            rfl
           refine pure_ (i := 7) (N := some 67) (v := ?_) (a' := ?_) (bl 36 255) rfl rfl (any_of HT_.out (by kernel_rfl)) (fun _ _ _ h => h) (Or.inl ⟨by rfl, ?_⟩) ?_ ?_
           rotate_left
           ·intro w'
            go_simp
            with_reducible rfl
           rotate_left
           ·simp only [puts_]
            rfl
           refine pure_ (i := 8) (N := some 68) (v := ?_) (a' := ?_) (bl 36 511) rfl rfl (any_of HT_.out (by kernel_rfl)) (fun _ _ _ h => h) (Or.inl ⟨by rfl, ?_⟩) ?_ ?_
           rotate_left
           ·intro w'
            go_simp
            with_reducible rfl
           rotate_left
           ·simp only [puts_]
            rfl
           refine pure_ (i := 9) (N := some 69) (v := ?_) (a' := ?_) (bl 36 1023) rfl rfl (any_of HT_.out (by kernel_rfl)) (fun _ _ _ h => h) (Or.inl ⟨by rfl, ?_⟩) ?_ ?_
           rotate_left
           ·intro w'
            go_simp
            with_reducible rfl
           rotate_left
           ·simp only [puts_]
            rfl
           refine pure_ (i := 10) (N := some 70) (v := ?_) (a' := ?_) (bl 36 2047) rfl rfl (any_of HT_.out (by kernel_rfl)) (fun _ _ _ h => h) (Or.inl ⟨by rfl, ?_⟩) ?_ ?_
           rotate_left
           ·intro w'
            go_simp
            with_reducible rfl
           rotate_left
           ·simp only [puts_]
            rfl
           refine take_ (i := 11) (N := some 71) (v := ?_) (a' := ?_) (bl 36 4095) rfl rfl (take_ofW HT_.out HW_.out (by kernel_rfl)) (fun _ _ _ h => h) (Or.inl ⟨by rfl, ?_⟩) hHeld ?_ ?_
           rotate_left
           ·rintro w' ⟨s0, s1, s2, s3, s4, s5, s6, s7, s8, s9, s10⟩
            go_simp
            with_reducible rfl
           rotate_left
           ·simp only [puts_]
            rfl
           refine pure_ (i := 12) (N := some 72) (v := ?_) (a' := ?_) (bl 36 8191) rfl rfl (any_of HT_.out (by kernel_rfl)) (fun _ _ _ h => h) (Or.inl ⟨by rfl, ?_⟩) ?_ ?_
           rotate_left
           ·intro w'
            go_simp
            with_reducible rfl
           rotate_left
           ·simp only [puts_]
            rfl
           refine pure_ (i := 13) (N := some 73) (v := ?_) (a' := ?_) (bl 36 16383) rfl rfl (any_of HT_.out (by kernel_rfl)) (fun _ _ _ h => h) (Or.inl ⟨by rfl, ?_⟩) ?_ ?_
           rotate_left
           ·intro w'
            go_simp
            with_reducible rfl
           rotate_left
           ·simp only [puts_]
            rfl
           refine pure_ (i := 14) (N := some 74) (v := ?_) (a' := ?_) (bl 36 32767) rfl rfl (any_of HT_.out (by kernel_rfl)) (fun _ _ _ h => h) (Or.inl ⟨by rfl, ?_⟩) ?_ ?_
           rotate_left
           ·intro w'
            go_simp
            with_reducible rfl
           rotate_left
           ·simp only [puts_]
            rfl
           refine pure_ (i := 15) (N := some 75) (v := ?_) (a' := ?_) (bl 36 65535) rfl rfl (any_of HT_.out (by kernel_rfl)) (fun _ _ _ h => h) (Or.inl ⟨by rfl, ?_⟩) ?_ ?_
           rotate_left
           ·intro w'
            go_simp
            with_reducible rfl
           rotate_left
           ·simp only [puts_]
            rfl
           refine pure_ (i := 16) (N := some 76) (v := ?_) (a' := ?_) (bl 36 131071) rfl rfl (any_of HT_.out (by kernel_rfl)) (fun _ _ _ h => h) (Or.inl ⟨by rfl, ?_⟩) ?_ ?_
           rotate_left
           ·intro w'
            go_simp
            with_reducible rfl
           rotate_left
           ·simp only [puts_]
            rfl
           refine pure_ (i := 17) (N := some 77) (v := ?_) (a' := ?_) (bl 36 262143) rfl rfl (any_of HT_.out (by kernel_rfl)) (fun _ _ _ h => h) (Or.inl ⟨by rfl, ?_⟩) ?_ ?_
           rotate_left
           ·intro w'
            go_simp
            with_reducible rfl
           rotate_left
           ·simp only [puts_]
            rfl
           refine pure_ (i := 18) (N := some 78) (v := ?_) (a' := ?_) (bl 36 524287) rfl rfl (any_of HT_.out (by kernel_rfl)) (fun _ _ _ h => h) (Or.inl ⟨by rfl, ?_⟩) ?_ ?_
           rotate_left
           ·intro w'
            go_simp
            with_reducible rfl
           rotate_left
           ·simp only [puts_]
            rfl
           refine pure_ (i := 19) (N := some 79) (v := ?_) (a' := ?_) (bl 36 1048575) rfl rfl (any_of HT_.out (by kernel_rfl)) (fun _ _ _ h => h) (Or.inl ⟨by rfl, ?_⟩) ?_ ?_
           rotate_left
           ·intro w'
            go_simp
            with_reducible rfl
           rotate_left
           ·simp only [puts_]
            rfl
           refine take_ (i := 20) (N := some 80) (v := ?_) (a' := ?_) (bl 36 2097151) rfl rfl (take_ofW HT_.out HW_.out (by kernel_rfl)) (fun _ _ _ h => h) (Or.inl ⟨by rfl, ?_⟩) hHeld ?_ ?_
           rotate_left
           ·rintro w' ⟨s0, s1, s2, s3, s4, s5, s6, s7, s8, s9, s10⟩
            go_simp
            with_reducible rfl
           rotate_left
           ·simp only [puts_]
            rfl
           refine pure_ (i := 21) (N := some 81) (v := ?_) (a' := ?_) (bl 36 4194303) rfl rfl (any_of HT_.out (by kernel_rfl)) (fun _ _ _ h => h) (Or.inl ⟨by rfl, ?_⟩) ?_ ?_
           rotate_left
           ·intro w'
            go_simp
            with_reducible rfl
           rotate_left
           ·simp only [puts_]
            rfl
           refine pure_ (i := 22) (N := some 82) (v := ?_) (a' := ?_) (bl 36 8388607) rfl rfl (any_of HT_.out (by kernel_rfl)) (fun _ _ _ h => h) (Or.inl ⟨by rfl, ?_⟩) ?_ ?_
           rotate_left
           ·intro w'
            go_simp
            with_reducible rfl
           rotate_left
           ·simp only [puts_]
            rfl
           refine pure_ (i := 23) (N := some 83) (v := ?_) (a' := ?_) (bl 36 16777215) rfl rfl (any_of HT_.out (by kernel_rfl)) (fun _ _ _ h => h) (Or.inl ⟨by rfl, ?_⟩) ?_ ?_
           rotate_left
           ·intro w'
            go_simp
            with_reducible rfl
           rotate_left
           ·simp only [puts_]
            rfl
           refine pure_ (i := 24) (N := some 84) (v := ?_) (a' := ?_) (bl 36 33554431) rfl rfl (any_of HT_.out (by kernel_rfl)) (fun _ _ _ h => h) (Or.inl ⟨by rfl, ?_⟩) ?_ ?_
           rotate_left
           ·intro w'
            go_simp
            with_reducible rfl
           rotate_left
           ·simp only [puts_]
            rfl
           refine pure_ (i := 25) (N := some 85) (v := ?_) (a' := ?_) (bl 36 67108863) rfl rfl (any_of HT_.out (by kernel_rfl)) (fun _ _ _ h => h) (Or.inl ⟨by rfl, ?_⟩) ?_ ?_
           rotate_left
           ·intro w'
            go_simp
            with_reducible rfl
           rotate_left
           ·simp only [puts_]
            rfl
           refine pure_ (i := 26) (N := some 86) (v := ?_) (a' := ?_) (bl 36 134217727) rfl rfl (any_of HT_.out (by kernel_rfl)) (fun _ _ _ h => h) (Or.inl ⟨by rfl, ?_⟩) ?_ ?_
           rotate_left
           ·intro w'
            go_simp
            with_reducible rfl
           rotate_left
           ·simp only [puts_]
            rfl
           refine pure_ (i := 27) (N := some 87) (v := ?_) (a' := ?_) (bl 36 268435455) rfl rfl (any_of HT_.out (by kernel_rfl)) (fun _ _ _ h => h) (Or.inl ⟨by rfl, ?_⟩) ?_ ?_
           rotate_left
           ·intro w'
            go_simp
            with_reducible rfl
           rotate_left
           ·simp only [puts_]
            rfl
           refine pure_ (i := 29) (N := some 89) (v := ?_) (a' := ?_) (bl 36 805306367) rfl rfl (any_of HT_.out (by kernel_rfl)) (fun _ _ _ h => h) (Or.inl ⟨by rfl, ?_⟩) ?_ ?_
           rotate_left
           ·intro w'
            go_simp
            with_reducible rfl
           rotate_left
           ·simp only [puts_]
            rfl
           refine pure_ (i := 30) (N := some 90) (v := ?_) (a' := ?_) (bl 36 1879048191) rfl rfl (any_of HT_.out (by kernel_rfl)) (fun _ _ _ h => h) (Or.inl ⟨by rfl, ?_⟩) ?_ ?_
           rotate_left
           ·intro w'
            go_simp
            with_reducible rfl
           rotate_left
           ·simp only [puts_]
            rfl
           refine pure_ (i := 31) (N := some 91) (v := ?_) (a' := ?_) (bl 36 4026531839) rfl rfl (any_of HT_.out (by kernel_rfl)) (fun _ _ _ h => h) (Or.inl ⟨by rfl, ?_⟩) ?_ ?_
           rotate_left
           ·intro w'
            go_simp
            with_reducible rfl
           rotate_left
           ·simp only [puts_]
            rfl
           refine pure_ (i := 32) (N := some 92) (v := ?_) (a' := ?_) (bl 36 8321499135) rfl rfl (any_of HT_.out (by kernel_rfl)) (fun _ _ _ h => h) (Or.inl ⟨by rfl, ?_⟩) ?_ ?_
           rotate_left
           ·intro w'
            go_simp
            with_reducible rfl
           rotate_left
           ·simp only [puts_]
            rfl
           refine take_ (i := 28) (N := some 88) (v := ?_) (a' := ?_) (bl 36 8589934591) rfl rfl (take_ofW HT_.out HW_.out (by kernel_rfl)) (fun _ _ _ h => h) (Or.inl ⟨by rfl, ?_⟩) hHeld ?_ ?_
           rotate_left
           ·rintro w' ⟨s0, s1, s2, s3, s4, s5, s6, s7, s8, s9, s10⟩
            go_simp
            with_reducible rfl
           rotate_left
           ·simp only [puts_]
            rfl
           refine take_ (i := 33) (N := some 93) (v := ?_) (a' := ?_) (bl 36 17179869183) rfl rfl (take_ofW HT_.out HW_.out (by kernel_rfl)) (fun _ _ _ h => h) (Or.inl ⟨by rfl, ?_⟩) hHeld ?_ ?_
           rotate_left
           ·rintro w' ⟨s0, s1, s2, s3, s4, s5, s6, s7, s8, s9, s10⟩
            go_simp
            with_reducible rfl
           rotate_left
           ·simp only [puts_]
            rfl
           refine pure_ (i := 34) (N := some 94) (v := ?_) (a' := ?_) (bl 36 34359738367) rfl rfl (any_of HT_.out (by kernel_rfl)) (fun _ _ _ h => h) (Or.inl ⟨by rfl, ?_⟩) ?_ ?_
           rotate_left
           ·intro w'
            go_simp
            with_reducible rfl
           rotate_left
           ·simp only [puts_]
            rfl
           refine pure_ (i := 35) (N := some 95) (v := ?_) (a' := ?_) (bl 36 68719476735) rfl rfl (any_of HT_.out (by kernel_rfl)) (fun _ _ _ h => h) (Or.inl ⟨by rfl, ?_⟩) ?_ ?_
           rotate_left
           ·intro w'
            go_simp
            with_reducible rfl
           rotate_left
           ·simp only [puts_]
            rfl
           refine done_ (done_of HT_.out (by kernel_rfl)) ?_
           have p356 : 0 ≤ (x13_1 : Int) := of_decide_eq_true (by first | (with_reducible assumption) | assumption)
           have q356 : x13_1 < (l1.length : Int) := of_decide_eq_true (by first | (with_reducible assumption) | assumption)
           obtain ⟨ad356, e356, hx356_0, hx356_1, hx356_2⟩ := at_T31 HR1.out x13_1 p356 q356
           obtain rfl : ad353 = ad356 := (by injection e356)
           replace hx356_0 := (HB.out.cell (World.block_lt_of_cell? w _ hx356_0)).trans hx356_0
           replace hx356_1 := (HB.out.cell (World.block_lt_of_cell? w _ hx356_1)).trans hx356_1
           replace hx356_2 := (HB.out.cell (World.block_lt_of_cell? w _ hx356_2)).trans hx356_2
           replace p356 := eq_true p356
           replace q356 := eq_true q356
           have p357 : 0 ≤ (x13_1 : Int) := of_decide_eq_true (by first | (with_reducible assumption) | assumption)
           have q357 : x13_1 < (l1.length : Int) := of_decide_eq_true (by first | (with_reducible assumption) | assumption)
           obtain ⟨ad357, e357, hx357_0, hx357_1, hx357_2⟩ := at_T31 HR1.out x13_1 p357 q357
           obtain rfl : ad353 = ad357 := (by injection e357)
           replace hx357_0 := (HB.out.cell (World.block_lt_of_cell? w _ hx357_0)).trans hx357_0
           replace hx357_1 := (HB.out.cell (World.block_lt_of_cell? w _ hx357_1)).trans hx357_1
           replace hx357_2 := (HB.out.cell (World.block_lt_of_cell? w _ hx357_2)).trans hx357_2
           replace p357 := eq_true p357
           replace q357 := eq_true q357
           try go_wp2
           go_roundg k1
           case measure => have := HK1.out; omega
           case rel => exact ⟨(wrap64 (x10_1 + (wrap64 (((rd_T67 t345 x13_1).f0) + ((rd_T67 t345 x13_1).f1))))), (wrap64 (x11_1 + ((rd_T31 l1 x13_1).f1))), (wrap64 (x12_1 + ((rd_T31 l1 x13_1).f2))), (wrap64 (x13_1 + 1)), (by first | rfl | (simp; done) | (simp [*]; done)), (by first | rfl | (simp; done) | (simp [*]; done)), (by first | rfl | (simp; done) | (simp [*]; done)), (by first | rfl | (simp; done) | (simp [*]; done)), H', ⟨by have := HK1.out; omega⟩, ⟨by (with_reducible repeat (first | apply Kd.R_alloc | apply Kd.R_drewN | apply Kd.R_drew)); exact HO_8.out⟩, ⟨by (with_reducible repeat (first | refine blk_drewN ?_ _ | refine blk_drew ?_ | refine blk_alloc ?_ _)); exact BK335.out⟩, ⟨by repeat (first | (with_reducible first | exact HB.out | apply below_alloc | apply pw_below_drewN | apply below_drew1 | refine below_set ?_ GE335.out) | exact HB.out)⟩⟩
        ·rw [if_neg c25] at H
         exact absurd H (by simp)
     ·rw [if_neg c16] at H
      exact absurd H (by simp)
    ·rw [if_neg c15] at H
     have c15b0 : decide (x13_1 < (t345.length : Int)) = false := decide_eq_false c15
     clear c15
     have H' := Aside0.mk H
     clear H
     obtain ⟨Ao37, co37, eo37⟩ := Kd.R_slice HO_8.out
     subst eo37
     go_wp2
     go_loopg [15] k1 (fun kq v15 w' => ∃ (x15_2 : Int), v15 = .int .i64 x15_2 ∧ Aside0 (flywheellaw27_AllocSums.l1 kq l1 ji7 t345 t346 x10_1 x11_1 x12_1 x15_2 = some r) ∧ Aside0 (kq ≤ k1) ∧ Aside0 (Kd.R k67 67 w' w.heap.size (fun _ => True) (.slice Ao37 t345.length co37) t345) ∧ Aside0 (w'.heap[gb335]? = some (.cells #[.int .i64 a2_0, .int .i64 a2_1] 57 (0, 0))) ∧ Aside0 (Below w.heap.size w w'))
     case atStart => exact ⟨(0), (by first | rfl | (simp; done) | (simp [*]; done)), H', ⟨Nat.le_refl _⟩, ⟨by (with_reducible repeat (first | apply Kd.R_alloc | apply Kd.R_drewN | apply Kd.R_drew)); exact HO_8.out⟩, ⟨by (with_reducible repeat (first | refine blk_drewN ?_ _ | refine blk_drew ?_ | refine blk_alloc ?_ _)); exact BK335.out⟩, ⟨by repeat (first | (with_reducible first | exact HB.out | apply below_alloc | apply pw_below_drewN | apply below_drew1 | refine below_set ?_ GE335.out) | exact HB.out)⟩⟩
     case round =>
      clear H'
      try clear c1
      try clear c2
      try clear p2
      try clear c3
      try clear p3
      try clear q3
      try clear hx3
      try clear p6
      try clear c15
      try clear c15b0
      try clear c16
      try clear c25
      try clear c30
      try clear c30b0
      try clear p34
      try clear q34
      try clear hx34
      try clear p35
      try clear q35
      try clear hx35
      try clear hx349_0
      try clear hx349_1
      try clear hx350_0
      try clear hx350_1
      try clear hx351_0
      try clear hx351_1
      try clear hx352_0
      try clear hx352_1
      try clear hx353_0
      try clear hx353_1
      try clear hx353_2
      try clear hx354_0
      try clear hx354_1
      try clear hx355_0
      try clear hx355_1
      try clear hx356_0
      try clear hx356_1
      try clear hx356_2
      try clear hx357_0
      try clear hx357_1
      try clear hx357_2
      try clear p349
      try clear p350
      try clear p351
      try clear p352
      try clear p353
      try clear p354
      try clear p355
      try clear p356
      try clear p357
      try clear q349
      try clear q350
      try clear q351
      try clear q352
      try clear q353
      try clear q354
      try clear q355
      try clear q356
      try clear q357
      obtain ⟨x15_2, rfl, HA, HK2, HO_8, BK335, HB⟩ := hrel
      cases gk with
      | zero => exact absurd HA.out (by simp [flywheellaw27_AllocSums.l1])
      | succ k2 =>
       have H := HA.out
       clear HA
       simp only [flywheellaw27_AllocSums.l1] at H
       by_cases c38 : x15_2 < (t345.length : Int)
       ·rw [if_pos c38] at H
        have c38b0 : decide (x15_2 < (t345.length : Int)) = true := decide_eq_true c38
        clear c38
        by_cases c39 : x11_1 ≤ (wrap64 (ji7 - t346))
        ·rw [if_pos c39] at H
         have c39b0 : decide (x11_1 ≤ (wrap64 (ji7 - t346))) = true := decide_eq_true c39
         clear c39
         by_cases c40 : 0 ≤ x15_2
         ·rw [if_pos c40] at H
          have c40b0 : decide (0 ≤ x15_2) = true := decide_eq_true c40
          clear c40
          by_cases c41 : x15_2 < (l1.length : Int)
          ·rw [if_pos c41] at H
           have c41b0 : decide (x15_2 < (l1.length : Int)) = true := decide_eq_true c41
           clear c41
           by_cases c42 : (wrap64 (((rd_T67 t345 x15_2).f0) + ((rd_T67 t345 x15_2).f1))) < ((rd_T31 l1 x15_2).f1)
           ·rw [if_pos c42] at H
            have c42b0 : decide ((wrap64 (((rd_T67 t345 x15_2).f0) + ((rd_T67 t345 x15_2).f1))) < ((rd_T31 l1 x15_2).f1)) = true := decide_eq_true c42
            clear c42
            obtain rfl := Option.some.inj H
            try go_wp2
            have n0_ := Aside0.mk (Kd.R_drew HO_8.out)
            have n1_ := Aside0.mk (blk_drew BK335.out)
            have n2_ := Aside0.mk (below_drew1 HB.out)
            clear HO_8
            clear BK335
            clear HB
            have HO_8 := n0_
            have BK335 := n1_
            have HB := n2_
            clear n0_ n1_ n2_
            have p358 : 0 ≤ (x15_2 : Int) := of_decide_eq_true (by first | (with_reducible assumption) | assumption)
            have q358 : x15_2 < (t345.length : Int) := of_decide_eq_true (by first | (with_reducible assumption) | assumption)
            obtain ⟨ad358, e358, hx358_0, hx358_1⟩ := at_T67 (Kd.R_reads' HO_8.out).2.2 x15_2 p358 q358
            cases e358
            replace p358 := eq_true p358
            replace q358 := eq_true q358
            have p359 : 0 ≤ (x15_2 : Int) := of_decide_eq_true (by first | (with_reducible assumption) | assumption)
            have q359 : x15_2 < (t345.length : Int) := of_decide_eq_true (by first | (with_reducible assumption) | assumption)
            obtain ⟨ad359, e359, hx359_0, hx359_1⟩ := at_T67 (Kd.R_reads' HO_8.out).2.2 x15_2 p359 q359
            obtain rfl : ad358 = ad359 := (by injection e359)
            replace p359 := eq_true p359
            replace q359 := eq_true q359
            have p360 : 0 ≤ (x15_2 : Int) := of_decide_eq_true (by first | (with_reducible assumption) | assumption)
            have q360 : x15_2 < (l1.length : Int) := of_decide_eq_true (by first | (with_reducible assumption) | assumption)
            obtain ⟨ad360, e360, hx360_0, hx360_1, hx360_2⟩ := at_T31 HR1.out x15_2 p360 q360
            have hw360_2 := hx360_2
            have hw360_1 := hx360_1
            have hw360_0 := hx360_0
            cases e360
            replace hx360_0 := (HB.out.cell (World.block_lt_of_cell? w _ hx360_0)).trans hx360_0
            replace hx360_1 := (HB.out.cell (World.block_lt_of_cell? w _ hx360_1)).trans hx360_1
            replace hx360_2 := (HB.out.cell (World.block_lt_of_cell? w _ hx360_2)).trans hx360_2
            replace p360 := eq_true p360
            replace q360 := eq_true q360
            refine start_ (n := 24) (S := fun w' => w'.cell? (ad358.add ((x15_2).toNat * 2)) = some (.int .i64 ((rd_T67 t345 x15_2).f0)) ∧ w'.cell? ⟨(ad358.add ((x15_2).toNat * 2)).block, (ad358.add ((x15_2).toNat * 2)).off + 1, none⟩ = some (.int .i64 ((rd_T67 t345 x15_2).f1)) ∧ w'.cell? (ad358.add ((x15_2).toNat * 2)) = some (.int .i64 ((rd_T67 t345 x15_2).f0)) ∧ w'.cell? ⟨(ad358.add ((x15_2).toNat * 2)).block, (ad358.add ((x15_2).toNat * 2)).off + 1, none⟩ = some (.int .i64 ((rd_T67 t345 x15_2).f1)) ∧ w'.cell? (ad360.add ((x15_2).toNat * 3)) = some (.int .i64 ((rd_T31 l1 x15_2).f0)) ∧ w'.cell? ⟨(ad360.add ((x15_2).toNat * 3)).block, (ad360.add ((x15_2).toNat * 3)).off + 1, none⟩ = some (.int .i64 ((rd_T31 l1 x15_2).f1)) ∧ w'.cell? ⟨(ad360.add ((x15_2).toNat * 3)).block, (ad360.add ((x15_2).toNat * 3)).off + 2, none⟩ = some (.int .i64 ((rd_T31 l1 x15_2).f2))) (ds := []) #[false, false, false, false, false, false, false, false, false, false, false, false, false, false, false, false, false, false, false, false, false, false, false, false] (by kernel_rfl) rfl rfl ⟨hx358_0, hx358_1, hx359_0, hx359_1, ((HB.out.cell (World.block_lt_of_cell? w _ hw360_0)).trans hw360_0), ((HB.out.cell (World.block_lt_of_cell? w _ hw360_1)).trans hw360_1), ((HB.out.cell (World.block_lt_of_cell? w _ hw360_2)).trans hw360_2)⟩ (fun hHeld => ?_); refine with_tabW flywheellaw27_AllocSums.tab18 flywheellaw27_AllocSums.bits18 (fun HT_ HW_ => ?_)
            generalize wr.drew = w43 at HO_8 BK335 HB hx358_0 hx358_1 hx359_0 hx359_1 hx360_0 hx360_1 hx360_2 hHeld ⊢
            refine pure_ (i := 0) (N := some 119) (v := ?_) (a' := ?_) (bl 24 1) rfl rfl (any_of HT_.out (by kernel_rfl)) (fun _ _ _ h => h) (Or.inl ⟨by rfl, ?_⟩) ?_ ?_
            rotate_left
            ·intro w'
             go_simp
             with_reducible rfl
            rotate_left
            ·simp only [puts_]
             rfl
            refine pure_ (i := 1) (N := some 120) (v := ?_) (a' := ?_) (bl 24 3) rfl rfl (any_of HT_.out (by kernel_rfl)) (fun _ _ _ h => h) (Or.inl ⟨by rfl, ?_⟩) ?_ ?_
            rotate_left
            ·intro w'
             go_simp
             with_reducible rfl
            rotate_left
            ·simp only [puts_]
             rfl
            refine pure_ (i := 2) (N := some 121) (v := ?_) (a' := ?_) (bl 24 7) rfl rfl (any_of HT_.out (by kernel_rfl)) (fun _ _ _ h => h) (Or.inl ⟨by rfl, ?_⟩) ?_ ?_
            rotate_left
            ·intro w'
             go_simp
             with_reducible rfl
            rotate_left
            ·simp only [puts_]
             rfl
            refine pure_ (i := 3) (N := some 122) (v := ?_) (a' := ?_) (bl 24 15) rfl rfl (any_of HT_.out (by kernel_rfl)) (fun _ _ _ h => h) (Or.inl ⟨by rfl, ?_⟩) ?_ ?_
            rotate_left
            ·intro w'
             go_simp
             with_reducible rfl
            rotate_left
            ·simp only [puts_]
             rfl
            refine pure_ (i := 4) (N := some 123) (v := ?_) (a' := ?_) (bl 24 31) rfl rfl (any_of HT_.out (by kernel_rfl)) (fun _ _ _ h => h) (Or.inl ⟨by rfl, ?_⟩) ?_ ?_
            rotate_left
            ·intro w'
             go_simp
             with_reducible rfl
            rotate_left
            ·simp only [puts_]
             rfl
            refine pure_ (i := 5) (N := some 124) (v := ?_) (a' := ?_) (bl 24 63) rfl rfl (any_of HT_.out (by kernel_rfl)) (fun _ _ _ h => h) (Or.inl ⟨by rfl, ?_⟩) ?_ ?_
            rotate_left
            ·intro w'
             go_simp
             with_reducible rfl
            rotate_left
            ·simp only [puts_]
             rfl
            refine pure_ (i := 6) (N := some 125) (v := ?_) (a' := ?_) (bl 24 127) rfl rfl (any_of HT_.out (by kernel_rfl)) (fun _ _ _ h => h) (Or.inl ⟨by rfl, ?_⟩) ?_ ?_
            rotate_left
            ·intro w'
             go_simp
             with_reducible rfl
            rotate_left
            ·simp only [puts_]
             rfl
            refine pure_ (i := 7) (N := some 126) (v := ?_) (a' := ?_) (bl 24 255) rfl rfl (any_of HT_.out (by kernel_rfl)) (fun _ _ _ h => h) (Or.inl ⟨by rfl, ?_⟩) ?_ ?_
            rotate_left
            ·intro w'
             go_simp
             with_reducible rfl
            rotate_left
            ·simp only [puts_]
             rfl
            refine pure_ (i := 8) (N := some 127) (v := ?_) (a' := ?_) (bl 24 511) rfl rfl (any_of HT_.out (by kernel_rfl)) (fun _ _ _ h => h) (Or.inl ⟨by rfl, ?_⟩) ?_ ?_
            rotate_left
            ·intro w'
             go_simp
             with_reducible rfl
            rotate_left
            ·simp only [puts_]
             rfl
            refine pure_ (i := 9) (N := some 128) (v := ?_) (a' := ?_) (bl 24 1023) rfl rfl (any_of HT_.out (by kernel_rfl)) (fun _ _ _ h => h) (Or.inl ⟨by rfl, ?_⟩) ?_ ?_
            rotate_left
            ·intro w'
             go_simp
             with_reducible rfl
            rotate_left
            ·simp only [puts_]
             rfl
            refine pure_ (i := 11) (N := some 130) (v := ?_) (a' := ?_) (bl 24 3071) rfl rfl (any_of HT_.out (by kernel_rfl)) (fun _ _ _ h => h) (Or.inl ⟨by rfl, ?_⟩) ?_ ?_
            rotate_left
            ·intro w'
             go_simp
             with_reducible rfl
            rotate_left
            ·simp only [puts_]
             rfl
            refine pure_ (i := 12) (N := some 131) (v := ?_) (a' := ?_) (bl 24 7167) rfl rfl (any_of HT_.out (by kernel_rfl)) (fun _ _ _ h => h) (Or.inl ⟨by rfl, ?_⟩) ?_ ?_
            rotate_left
            ·intro w'
             go_simp
             with_reducible rfl
            rotate_left
            ·simp only [puts_]
             rfl
            refine pure_ (i := 13) (N := some 132) (v := ?_) (a' := ?_) (bl 24 15359) rfl rfl (any_of HT_.out (by kernel_rfl)) (fun _ _ _ h => h) (Or.inl ⟨by rfl, ?_⟩) ?_ ?_
            rotate_left
            ·intro w'
             go_simp
             with_reducible rfl
            rotate_left
            ·simp only [puts_]
             rfl
            refine pure_ (i := 14) (N := some 133) (v := ?_) (a' := ?_) (bl 24 31743) rfl rfl (any_of HT_.out (by kernel_rfl)) (fun _ _ _ h => h) (Or.inl ⟨by rfl, ?_⟩) ?_ ?_
            rotate_left
            ·intro w'
             go_simp
             with_reducible rfl
            rotate_left
            ·simp only [puts_]
             rfl
            refine pure_ (i := 17) (N := some 136) (v := ?_) (a' := ?_) (bl 24 162815) rfl rfl (any_of HT_.out (by kernel_rfl)) (fun _ _ _ h => h) (Or.inl ⟨by rfl, ?_⟩) ?_ ?_
            rotate_left
            ·intro w'
             go_simp
             with_reducible rfl
            rotate_left
            ·simp only [puts_]
             rfl
            refine pure_ (i := 18) (N := some 137) (v := ?_) (a' := ?_) (bl 24 424959) rfl rfl (any_of HT_.out (by kernel_rfl)) (fun _ _ _ h => h) (Or.inl ⟨by rfl, ?_⟩) ?_ ?_
            rotate_left
            ·intro w'
             go_simp
             with_reducible rfl
            rotate_left
            ·simp only [puts_]
             rfl
            refine pure_ (i := 19) (N := some 138) (v := ?_) (a' := ?_) (bl 24 949247) rfl rfl (any_of HT_.out (by kernel_rfl)) (fun _ _ _ h => h) (Or.inl ⟨by rfl, ?_⟩) ?_ ?_
            rotate_left
            ·intro w'
             go_simp
             with_reducible rfl
            rotate_left
            ·simp only [puts_]
             rfl
            refine pure_ (i := 20) (N := some 139) (v := ?_) (a' := ?_) (bl 24 1997823) rfl rfl (any_of HT_.out (by kernel_rfl)) (fun _ _ _ h => h) (Or.inl ⟨by rfl, ?_⟩) ?_ ?_
            rotate_left
            ·intro w'
             go_simp
             with_reducible rfl
            rotate_left
            ·simp only [puts_]
             rfl
            refine take_ (i := 10) (N := some 129) (v := ?_) (a' := ?_) (bl 24 1998847) rfl rfl (take_ofW HT_.out HW_.out (by kernel_rfl)) (fun _ _ _ h => h) (Or.inl ⟨by rfl, ?_⟩) hHeld ?_ ?_
            rotate_left
            ·rintro w' ⟨s0, s1, s2, s3, s4, s5, s6⟩
             go_simp
             with_reducible rfl
            rotate_left
            ·simp only [puts_]
             rfl
            refine take_ (i := 15) (N := some 134) (v := ?_) (a' := ?_) (bl 24 2031615) rfl rfl (take_ofW HT_.out HW_.out (by kernel_rfl)) (fun _ _ _ h => h) (Or.inl ⟨by rfl, ?_⟩) hHeld ?_ ?_
            rotate_left
            ·rintro w' ⟨s0, s1, s2, s3, s4, s5, s6⟩
             go_simp
             with_reducible rfl
            rotate_left
            ·simp only [puts_]
             rfl
            refine pure_ (i := 16) (N := some 135) (v := ?_) (a' := ?_) (bl 24 2097151) rfl rfl (any_of HT_.out (by kernel_rfl)) (fun _ _ _ h => h) (Or.inl ⟨by rfl, ?_⟩) ?_ ?_
            rotate_left
            ·intro w'
             go_simp
             with_reducible rfl
            rotate_left
            ·simp only [puts_]
             rfl
            refine take_ (i := 21) (N := some 140) (v := ?_) (a' := ?_) (bl 24 4194303) rfl rfl (take_ofW HT_.out HW_.out (by kernel_rfl)) (fun _ _ _ h => h) (Or.inl ⟨by rfl, ?_⟩) hHeld ?_ ?_
            rotate_left
            ·rintro w' ⟨s0, s1, s2, s3, s4, s5, s6⟩
             go_simp
             with_reducible rfl
            rotate_left
            ·simp only [puts_]
             rfl
            refine pure_ (i := 22) (N := some 141) (v := ?_) (a' := ?_) (bl 24 8388607) rfl rfl (any_of HT_.out (by kernel_rfl)) (fun _ _ _ h => h) (Or.inl ⟨by rfl, ?_⟩) ?_ ?_
            rotate_left
            ·intro w'
             go_simp
             with_reducible rfl
            rotate_left
            ·simp only [puts_]
             rfl
            refine pure_ (i := 23) (N := some 142) (v := ?_) (a' := ?_) (bl 24 16777215) rfl rfl (any_of HT_.out (by kernel_rfl)) (fun _ _ _ h => h) (Or.inl ⟨by rfl, ?_⟩) ?_ ?_
            rotate_left
            ·intro w'
             go_simp
             with_reducible rfl
            rotate_left
            ·simp only [puts_]
             rfl
            refine done_ (done_of HT_.out (by kernel_rfl)) ?_
            try go_wp2
            go_ret
            exact ⟨by first | rfl | (simp [errW_none, errW_some] <;> rfl) | (simp only [← hji6, ← hji7]; first | rfl | (simp [errW_none, errW_some] <;> rfl)) | (simp [*, errW_none, errW_some] <;> rfl), by repeat (first | (with_reducible first | exact HB.out | apply below_alloc | apply pw_below_drewN | apply below_drew1 | refine below_set ?_ GE335.out) | exact HB.out)⟩
           ·rw [if_neg c42] at H
            have c42b0 : decide ((wrap64 (((rd_T67 t345 x15_2).f0) + ((rd_T67 t345 x15_2).f1))) < ((rd_T31 l1 x15_2).f1)) = false := decide_eq_false c42
            clear c42
            have H' := Aside0.mk H
            clear H
            try go_wp2
            have n0_ := Aside0.mk (Kd.R_drew HO_8.out)
            have n1_ := Aside0.mk (blk_drew BK335.out)
            have n2_ := Aside0.mk (below_drew1 HB.out)
            clear HO_8
            clear BK335
            clear HB
            have HO_8 := n0_
            have BK335 := n1_
            have HB := n2_
            clear n0_ n1_ n2_
            have p358 : 0 ≤ (x15_2 : Int) := of_decide_eq_true (by first | (with_reducible assumption) | assumption)
            have q358 : x15_2 < (t345.length : Int) := of_decide_eq_true (by first | (with_reducible assumption) | assumption)
            obtain ⟨ad358, e358, hx358_0, hx358_1⟩ := at_T67 (Kd.R_reads' HO_8.out).2.2 x15_2 p358 q358
            cases e358
            replace p358 := eq_true p358
            replace q358 := eq_true q358
            have p359 : 0 ≤ (x15_2 : Int) := of_decide_eq_true (by first | (with_reducible assumption) | assumption)
            have q359 : x15_2 < (t345.length : Int) := of_decide_eq_true (by first | (with_reducible assumption) | assumption)
            obtain ⟨ad359, e359, hx359_0, hx359_1⟩ := at_T67 (Kd.R_reads' HO_8.out).2.2 x15_2 p359 q359
            obtain rfl : ad358 = ad359 := (by injection e359)
            replace p359 := eq_true p359
            replace q359 := eq_true q359
            have p360 : 0 ≤ (x15_2 : Int) := of_decide_eq_true (by first | (with_reducible assumption) | assumption)
            have q360 : x15_2 < (l1.length : Int) := of_decide_eq_true (by first | (with_reducible assumption) | assumption)
            obtain ⟨ad360, e360, hx360_0, hx360_1, hx360_2⟩ := at_T31 HR1.out x15_2 p360 q360
            have hw360_2 := hx360_2
            have hw360_1 := hx360_1
            have hw360_0 := hx360_0
            cases e360
            replace hx360_0 := (HB.out.cell (World.block_lt_of_cell? w _ hx360_0)).trans hx360_0
            replace hx360_1 := (HB.out.cell (World.block_lt_of_cell? w _ hx360_1)).trans hx360_1
            replace hx360_2 := (HB.out.cell (World.block_lt_of_cell? w _ hx360_2)).trans hx360_2
            replace p360 := eq_true p360
            replace q360 := eq_true q360
            refine start_ (n := 24) (S := fun w' => w'.cell? (ad358.add ((x15_2).toNat * 2)) = some (.int .i64 ((rd_T67 t345 x15_2).f0)) ∧ w'.cell? ⟨(ad358.add ((x15_2).toNat * 2)).block, (ad358.add ((x15_2).toNat * 2)).off + 1, none⟩ = some (.int .i64 ((rd_T67 t345 x15_2).f1)) ∧ w'.cell? (ad358.add ((x15_2).toNat * 2)) = some (.int .i64 ((rd_T67 t345 x15_2).f0)) ∧ w'.cell? ⟨(ad358.add ((x15_2).toNat * 2)).block, (ad358.add ((x15_2).toNat * 2)).off + 1, none⟩ = some (.int .i64 ((rd_T67 t345 x15_2).f1)) ∧ w'.cell? (ad360.add ((x15_2).toNat * 3)) = some (.int .i64 ((rd_T31 l1 x15_2).f0)) ∧ w'.cell? ⟨(ad360.add ((x15_2).toNat * 3)).block, (ad360.add ((x15_2).toNat * 3)).off + 1, none⟩ = some (.int .i64 ((rd_T31 l1 x15_2).f1)) ∧ w'.cell? ⟨(ad360.add ((x15_2).toNat * 3)).block, (ad360.add ((x15_2).toNat * 3)).off + 2, none⟩ = some (.int .i64 ((rd_T31 l1 x15_2).f2))) (ds := []) #[false, false, false, false, false, false, false, false, false, false, false, false, false, false, false, false, false, false, false, false, false, false, false, false] (by kernel_rfl) rfl rfl ⟨hx358_0, hx358_1, hx359_0, hx359_1, ((HB.out.cell (World.block_lt_of_cell? w _ hw360_0)).trans hw360_0), ((HB.out.cell (World.block_lt_of_cell? w _ hw360_1)).trans hw360_1), ((HB.out.cell (World.block_lt_of_cell? w _ hw360_2)).trans hw360_2)⟩ (fun hHeld => ?_); refine with_tabW flywheellaw27_AllocSums.tab18 flywheellaw27_AllocSums.bits18 (fun HT_ HW_ => ?_)
            generalize wr.drew = w44 at HO_8 BK335 HB hx358_0 hx358_1 hx359_0 hx359_1 hx360_0 hx360_1 hx360_2 hHeld ⊢
            refine pure_ (i := 0) (N := some 119) (v := ?_) (a' := ?_) (bl 24 1) rfl rfl (any_of HT_.out (by kernel_rfl)) (fun _ _ _ h => h) (Or.inl ⟨by rfl, ?_⟩) ?_ ?_
            rotate_left
            ·intro w'
             go_simp
             with_reducible rfl
            rotate_left
            ·simp only [puts_]
             rfl
            refine pure_ (i := 1) (N := some 120) (v := ?_) (a' := ?_) (bl 24 3) rfl rfl (any_of HT_.out (by kernel_rfl)) (fun _ _ _ h => h) (Or.inl ⟨by rfl, ?_⟩) ?_ ?_
            rotate_left
            ·intro w'
             go_simp
             with_reducible rfl
            rotate_left
            ·simp only [puts_]
             rfl
            refine pure_ (i := 2) (N := some 121) (v := ?_) (a' := ?_) (bl 24 7) rfl rfl (any_of HT_.out (by kernel_rfl)) (fun _ _ _ h => h) (Or.inl ⟨by rfl, ?_⟩) ?_ ?_
            rotate_left
            ·intro w'
             go_simp
             with_reducible rfl
            rotate_left
            ·simp only [puts_]
             rfl
            refine pure_ (i := 3) (N := some 122) (v := ?_) (a' := ?_) (bl 24 15) rfl rfl (any_of HT_.out (by kernel_rfl)) (fun _ _ _ h => h) (Or.inl ⟨by rfl, ?_⟩) ?_ ?_
            rotate_left
            ·intro w'
             go_simp
             with_reducible rfl
            rotate_left
            ·simp only [puts_]
             rfl
            refine pure_ (i := 4) (N := some 123) (v := ?_) (a' := ?_) (bl 24 31) rfl rfl (any_of HT_.out (by kernel_rfl)) (fun _ _ _ h => h) (Or.inl ⟨by rfl, ?_⟩) ?_ ?_
            rotate_left
            ·intro w'
             go_simp
             with_reducible rfl
            rotate_left
            ·simp only [puts_]
             rfl
            refine pure_ (i := 5) (N := some 124) (v := ?_) (a' := ?_) (bl 24 63) rfl rfl (any_of HT_.out (by kernel_rfl)) (fun _ _ _ h => h) (Or.inl ⟨by rfl, ?_⟩) ?_ ?_
            rotate_left
            ·intro w'
             go_simp
             with_reducible rfl
            rotate_left
            ·simp only [puts_]
             rfl
            refine pure_ (i := 6) (N := some 125) (v := ?_) (a' := ?_) (bl 24 127) rfl rfl (any_of HT_.out (by kernel_rfl)) (fun _ _ _ h => h) (Or.inl ⟨by rfl, ?_⟩) ?_ ?_
            rotate_left
            ·intro w'
             go_simp
             with_reducible rfl
            rotate_left
            ·simp only [puts_]
             rfl
            refine pure_ (i := 7) (N := some 126) (v := ?_) (a' := ?_) (bl 24 255) rfl rfl (any_of HT_.out (by kernel_rfl)) (fun _ _ _ h => h) (Or.inl ⟨by rfl, ?_⟩) ?_ ?_
            rotate_left
            ·intro w'
             go_simp
             with_reducible rfl
            rotate_left
            ·simp only [puts_]
             rfl
            refine pure_ (i := 8) (N := some 127) (v := ?_) (a' := ?_) (bl 24 511) rfl rfl (any_of HT_.out (by kernel_rfl)) (fun _ _ _ h => h) (Or.inl ⟨by rfl, ?_⟩) ?_ ?_
            rotate_left
            ·intro w'
             go_simp
             with_reducible rfl
            rotate_left
            ·simp only [puts_]
             rfl
            refine pure_ (i := 9) (N := some 128) (v := ?_) (a' := ?_) (bl 24 1023) rfl rfl (any_of HT_.out (by kernel_rfl)) (fun _ _ _ h => h) (Or.inl ⟨by rfl, ?_⟩) ?_ ?_
            rotate_left
            ·intro w'
             go_simp
             with_reducible rfl
            rotate_left
            ·simp only [puts_]
             rfl
            refine pure_ (i := 11) (N := some 130) (v := ?_) (a' := ?_) (bl 24 3071) rfl rfl (any_of HT_.out (by kernel_rfl)) (fun _ _ _ h => h) (Or.inl ⟨by rfl, ?_⟩) ?_ ?_
            rotate_left
            ·intro w'
             go_simp
             with_reducible rfl
            rotate_left
            ·simp only [puts_]
             rfl
            refine pure_ (i := 12) (N := some 131) (v := ?_) (a' := ?_) (bl 24 7167) rfl rfl (any_of HT_.out (by kernel_rfl)) (fun _ _ _ h => h) (Or.inl ⟨by rfl, ?_⟩) ?_ ?_
            rotate_left
            ·intro w'
             go_simp
             with_reducible rfl
            rotate_left
            ·simp only [puts_]
             rfl
            refine pure_ (i := 13) (N := some 132) (v := ?_) (a' := ?_) (bl 24 15359) rfl rfl (any_of HT_.out (by kernel_rfl)) (fun _ _ _ h => h) (Or.inl ⟨by rfl, ?_⟩) ?_ ?_
            rotate_left
            ·intro w'
             go_simp
             with_reducible rfl
            rotate_left
            ·simp only [puts_]
             rfl
            refine pure_ (i := 14) (N := some 133) (v := ?_) (a' := ?_) (bl 24 31743) rfl rfl (any_of HT_.out (by kernel_rfl)) (fun _ _ _ h => h) (Or.inl ⟨by rfl, ?_⟩) ?_ ?_
            rotate_left
            ·intro w'
             go_simp
             with_reducible rfl
            rotate_left
            ·simp only [puts_]
             rfl
            refine pure_ (i := 17) (N := some 136) (v := ?_) (a' := ?_) (bl 24 162815) rfl rfl (any_of HT_.out (by kernel_rfl)) (fun _ _ _ h => h) (Or.inl ⟨by rfl, ?_⟩) ?_ ?_
            rotate_left
            ·intro w'
             go_simp
             with_reducible rfl
            rotate_left
            ·simp only [puts_]
             rfl
            refine pure_ (i := 18) (N := some 137) (v := ?_) (a' := ?_) (bl 24 424959) rfl rfl (any_of HT_.out (by kernel_rfl)) (fun _ _ _ h => h) (Or.inl ⟨by rfl, ?_⟩) ?_ ?_
            rotate_left
            ·intro w'
             go_simp
             with_reducible rfl
            rotate_left
            ·simp only [puts_]
             rfl
            refine pure_ (i := 19) (N := some 138) (v := ?_) (a' := ?_) (bl 24 949247) rfl rfl (any_of HT_.out (by kernel_rfl)) (fun _ _ _ h => h) (Or.inl ⟨by rfl, ?_⟩) ?_ ?_
            rotate_left
            ·intro w'
             go_simp
             with_reducible rfl
            rotate_left
            ·simp only [puts_]
             rfl
            refine pure_ (i := 20) (N := some 139) (v := ?_) (a' := ?_) (bl 24 1997823) rfl rfl (any_of HT_.out (by kernel_rfl)) (fun _ _ _ h => h) (Or.inl ⟨by rfl, ?_⟩) ?_ ?_
            rotate_left
            ·intro w'
             go_simp
             with_reducible rfl
            rotate_left
            ·simp only [puts_]
             rfl
            refine take_ (i := 10) (N := some 129) (v := ?_) (a' := ?_) (bl 24 1998847) rfl rfl (take_ofW HT_.out HW_.out (by kernel_rfl)) (fun _ _ _ h => h) (Or.inl ⟨by rfl, ?_⟩) hHeld ?_ ?_
            rotate_left
            ·rintro w' ⟨s0, s1, s2, s3, s4, s5, s6⟩
             go_simp
             with_reducible rfl
            rotate_left
            ·simp only [puts_]
             rfl
            refine take_ (i := 15) (N := some 134) (v := ?_) (a' := ?_) (bl 24 2031615) rfl rfl (take_ofW HT_.out HW_.out (by kernel_rfl)) (fun _ _ _ h => h) (Or.inl ⟨by rfl, ?_⟩) hHeld ?_ ?_
            rotate_left
            ·rintro w' ⟨s0, s1, s2, s3, s4, s5, s6⟩
             go_simp
             with_reducible rfl
            rotate_left
            ·simp only [puts_]
             rfl
            refine pure_ (i := 16) (N := some 135) (v := ?_) (a' := ?_) (bl 24 2097151) rfl rfl (any_of HT_.out (by kernel_rfl)) (fun _ _ _ h => h) (Or.inl ⟨by rfl, ?_⟩) ?_ ?_
            rotate_left
            ·intro w'
             go_simp
             with_reducible rfl
            rotate_left
            ·simp only [puts_]
             rfl
            refine take_ (i := 21) (N := some 140) (v := ?_) (a' := ?_) (bl 24 4194303) rfl rfl (take_ofW HT_.out HW_.out (by kernel_rfl)) (fun _ _ _ h => h) (Or.inl ⟨by rfl, ?_⟩) hHeld ?_ ?_
            rotate_left
            ·rintro w' ⟨s0, s1, s2, s3, s4, s5, s6⟩
             go_simp
             with_reducible rfl
            rotate_left
            ·simp only [puts_]
             rfl
            refine pure_ (i := 22) (N := some 141) (v := ?_) (a' := ?_) (bl 24 8388607) rfl rfl (any_of HT_.out (by kernel_rfl)) (fun _ _ _ h => h) (Or.inl ⟨by rfl, ?_⟩) ?_ ?_
            rotate_left
            ·intro w'
             go_simp
             with_reducible rfl
            rotate_left
            ·simp only [puts_]
             rfl
            refine pure_ (i := 23) (N := some 142) (v := ?_) (a' := ?_) (bl 24 16777215) rfl rfl (any_of HT_.out (by kernel_rfl)) (fun _ _ _ h => h) (Or.inl ⟨by rfl, ?_⟩) ?_ ?_
            rotate_left
            ·intro w'
             go_simp
             with_reducible rfl
            rotate_left
            ·simp only [puts_]
             rfl
            refine done_ (done_of HT_.out (by kernel_rfl)) ?_
            try go_wp2
            go_roundg k2
            case measure => have := HK1.out; have := HK2.out; omega
            case rel => exact ⟨(wrap64 (x15_2 + 1)), (by first | rfl | (simp; done) | (simp [*]; done)), H', ⟨by have := HK1.out; have := HK2.out; omega⟩, ⟨by (with_reducible repeat (first | apply Kd.R_alloc | apply Kd.R_drewN | apply Kd.R_drew)); exact HO_8.out⟩, ⟨by (with_reducible repeat (first | refine blk_drewN ?_ _ | refine blk_drew ?_ | refine blk_alloc ?_ _)); exact BK335.out⟩, ⟨by repeat (first | (with_reducible first | exact HB.out | apply below_alloc | apply pw_below_drewN | apply below_drew1 | refine below_set ?_ GE335.out) | exact HB.out)⟩⟩
          ·rw [if_neg c41] at H
           exact absurd H (by simp)
         ·rw [if_neg c40] at H
          exact absurd H (by simp)
        ·rw [if_neg c39] at H
         have c39b0 : decide (x11_1 ≤ (wrap64 (ji7 - t346))) = false := decide_eq_false c39
         clear c39
         have H' := Aside0.mk H
         clear H
         try go_wp2
         have n0_ := Aside0.mk (Kd.R_drew HO_8.out)
         have n1_ := Aside0.mk (blk_drew BK335.out)
         have n2_ := Aside0.mk (below_drew1 HB.out)
         clear HO_8
         clear BK335
         clear HB
         have HO_8 := n0_
         have BK335 := n1_
         have HB := n2_
         clear n0_ n1_ n2_
         refine start_ (n := 24) (S := fun w' => True) (ds := []) #[false, false, false, false, false, false, false, false, false, false, false, false, false, false, false, false, false, false, false, false, false, false, false, false] (by kernel_rfl) rfl rfl trivial (fun hHeld => ?_); refine with_tabW flywheellaw27_AllocSums.tab18 flywheellaw27_AllocSums.bits18 (fun HT_ HW_ => ?_)
         generalize wr.drew = w45 at HO_8 BK335 HB hHeld ⊢
         refine pure_ (i := 0) (N := some 119) (v := ?_) (a' := ?_) (bl 24 1) rfl rfl (any_of HT_.out (by kernel_rfl)) (fun _ _ _ h => h) (Or.inl ⟨by rfl, ?_⟩) ?_ ?_
         rotate_left
         ·intro w'
          go_simp
          with_reducible rfl
         rotate_left
         ·simp only [puts_]
          rfl
         refine pure_ (i := 1) (N := some 120) (v := ?_) (a' := ?_) (bl 24 3) rfl rfl (any_of HT_.out (by kernel_rfl)) (fun _ _ _ h => h) (Or.inl ⟨by rfl, ?_⟩) ?_ ?_
         rotate_left
         ·intro w'
          go_simp
          with_reducible rfl
         rotate_left
         ·simp only [puts_]
          rfl
         refine pure_ (i := 2) (N := some 121) (v := ?_) (a' := ?_) (bl 24 7) rfl rfl (any_of HT_.out (by kernel_rfl)) (fun _ _ _ h => h) (Or.inl ⟨by rfl, ?_⟩) ?_ ?_
         rotate_left
         ·intro w'
          go_simp
          with_reducible rfl
         rotate_left
         ·simp only [puts_]
          rfl
         refine pure_ (i := 3) (N := some 122) (v := ?_) (a' := ?_) (bl 24 15) rfl rfl (any_of HT_.out (by kernel_rfl)) (fun _ _ _ h => h) (Or.inl ⟨by rfl, ?_⟩) ?_ ?_
         rotate_left
         ·intro w'
          go_simp
          with_reducible rfl
         rotate_left
         ·simp only [puts_]
          rfl
         refine pure_ (i := 4) (N := some 123) (v := ?_) (a' := ?_) (bl 24 31) rfl rfl (any_of HT_.out (by kernel_rfl)) (fun _ _ _ h => h) (Or.inl ⟨by rfl, ?_⟩) ?_ ?_
         rotate_left
         ·intro w'
          go_simp
          with_reducible rfl
         rotate_left
         ·simp only [puts_]
          rfl
         refine pure_ (i := 5) (N := some 124) (v := ?_) (a' := ?_) (bl 24 63) rfl rfl (any_of HT_.out (by kernel_rfl)) (fun _ _ _ h => h) (Or.inl ⟨by rfl, ?_⟩) ?_ ?_
         rotate_left
         ·intro w'
          go_simp
          with_reducible rfl
         rotate_left
         ·simp only [puts_]
          rfl
         refine pure_ (i := 6) (N := some 125) (v := undef) (a' := ?_) (bl 24 127) rfl rfl (any_of HT_.out (by kernel_rfl)) (fun _ _ _ h => h) (Or.inr ⟨by rfl, rfl⟩) ?_ ?_
         rotate_left
         ·simp only [puts_]
          rfl
         refine pure_ (i := 7) (N := some 126) (v := undef) (a' := ?_) (bl 24 255) rfl rfl (any_of HT_.out (by kernel_rfl)) (fun _ _ _ h => h) (Or.inr ⟨by rfl, rfl⟩) ?_ ?_
         rotate_left
         ·simp only [puts_]
          rfl
         refine pure_ (i := 8) (N := some 127) (v := undef) (a' := ?_) (bl 24 511) rfl rfl (any_of HT_.out (by kernel_rfl)) (fun _ _ _ h => h) (Or.inr ⟨by rfl, rfl⟩) ?_ ?_
         rotate_left
         ·simp only [puts_]
          rfl
         refine pure_ (i := 9) (N := some 128) (v := undef) (a' := ?_) (bl 24 1023) rfl rfl (any_of HT_.out (by kernel_rfl)) (fun _ _ _ h => h) (Or.inr ⟨by rfl, rfl⟩) ?_ ?_
         rotate_left
         ·simp only [puts_]
          rfl
         refine pure_ (i := 10) (N := some 129) (v := undef) (a' := ?_) (bl 24 2047) rfl rfl (any_of HT_.out (by kernel_rfl)) (fun _ _ _ h => h) (Or.inr ⟨by rfl, rfl⟩) ?_ ?_
         rotate_left
         ·simp only [puts_]
          rfl
         refine pure_ (i := 11) (N := some 130) (v := undef) (a' := ?_) (bl 24 4095) rfl rfl (any_of HT_.out (by kernel_rfl)) (fun _ _ _ h => h) (Or.inr ⟨by rfl, rfl⟩) ?_ ?_
         rotate_left
         ·simp only [puts_]
          rfl
         refine pure_ (i := 12) (N := some 131) (v := undef) (a' := ?_) (bl 24 8191) rfl rfl (any_of HT_.out (by kernel_rfl)) (fun _ _ _ h => h) (Or.inr ⟨by rfl, rfl⟩) ?_ ?_
         rotate_left
         ·simp only [puts_]
          rfl
         refine pure_ (i := 13) (N := some 132) (v := undef) (a' := ?_) (bl 24 16383) rfl rfl (any_of HT_.out (by kernel_rfl)) (fun _ _ _ h => h) (Or.inr ⟨by rfl, rfl⟩) ?_ ?_
         rotate_left
         ·simp only [puts_]
          rfl
         refine pure_ (i := 14) (N := some 133) (v := undef) (a' := ?_) (bl 24 32767) rfl rfl (any_of HT_.out (by kernel_rfl)) (fun _ _ _ h => h) (Or.inr ⟨by rfl, rfl⟩) ?_ ?_
         rotate_left
         ·simp only [puts_]
          rfl
         refine pure_ (i := 15) (N := some 134) (v := undef) (a' := ?_) (bl 24 65535) rfl rfl (any_of HT_.out (by kernel_rfl)) (fun _ _ _ h => h) (Or.inr ⟨by rfl, rfl⟩) ?_ ?_
         rotate_left
         ·simp only [puts_]
          rfl
         refine pure_ (i := 16) (N := some 135) (v := undef) (a' := ?_) (bl 24 131071) rfl rfl (any_of HT_.out (by kernel_rfl)) (fun _ _ _ h => h) (Or.inr ⟨by rfl, rfl⟩) ?_ ?_
         rotate_left
         ·simp only [puts_]
          rfl
         refine pure_ (i := 17) (N := some 136) (v := undef) (a' := ?_) (bl 24 262143) rfl rfl (any_of HT_.out (by kernel_rfl)) (fun _ _ _ h => h) (Or.inr ⟨by rfl, rfl⟩) ?_ ?_
         rotate_left
         ·simp only [puts_]
          rfl
         refine pure_ (i := 18) (N := some 137) (v := undef) (a' := ?_) (bl 24 524287) rfl rfl (any_of HT_.out (by kernel_rfl)) (fun _ _ _ h => h) (Or.inr ⟨by rfl, rfl⟩) ?_ ?_
         rotate_left
         ·simp only [puts_]
          rfl
         refine pure_ (i := 19) (N := some 138) (v := undef) (a' := ?_) (bl 24 1048575) rfl rfl (any_of HT_.out (by kernel_rfl)) (fun _ _ _ h => h) (Or.inr ⟨by rfl, rfl⟩) ?_ ?_
         rotate_left
         ·simp only [puts_]
          rfl
         refine pure_ (i := 20) (N := some 139) (v := undef) (a' := ?_) (bl 24 2097151) rfl rfl (any_of HT_.out (by kernel_rfl)) (fun _ _ _ h => h) (Or.inr ⟨by rfl, rfl⟩) ?_ ?_
         rotate_left
         ·simp only [puts_]
          rfl
         refine pure_ (i := 21) (N := some 140) (v := undef) (a' := ?_) (bl 24 4194303) rfl rfl (any_of HT_.out (by kernel_rfl)) (fun _ _ _ h => h) (Or.inr ⟨by rfl, rfl⟩) ?_ ?_
         rotate_left
         ·simp only [puts_]
          rfl
         refine pure_ (i := 22) (N := some 141) (v := undef) (a' := ?_) (bl 24 8388607) rfl rfl (any_of HT_.out (by kernel_rfl)) (fun _ _ _ h => h) (Or.inr ⟨by rfl, rfl⟩) ?_ ?_
         rotate_left
         ·simp only [puts_]
          rfl
         refine pure_ (i := 23) (N := some 142) (v := ?_) (a' := ?_) (bl 24 16777215) rfl rfl (any_of HT_.out (by kernel_rfl)) (fun _ _ _ h => h) (Or.inl ⟨by rfl, ?_⟩) ?_ ?_
         rotate_left
         ·intro w'
          go_simp
          with_reducible rfl
         rotate_left
         ·simp only [puts_]
          rfl
         refine done_ (done_of HT_.out (by kernel_rfl)) ?_
         try go_wp2
         go_roundg k2
         case measure => have := HK1.out; have := HK2.out; omega
         case rel => exact ⟨(wrap64 (x15_2 + 1)), (by first | rfl | (simp; done) | (simp [*]; done)), H', ⟨by have := HK1.out; have := HK2.out; omega⟩, ⟨by (with_reducible repeat (first | apply Kd.R_alloc | apply Kd.R_drewN | apply Kd.R_drew)); exact HO_8.out⟩, ⟨by (with_reducible repeat (first | refine blk_drewN ?_ _ | refine blk_drew ?_ | refine blk_alloc ?_ _)); exact BK335.out⟩, ⟨by repeat (first | (with_reducible first | exact HB.out | apply below_alloc | apply pw_below_drewN | apply below_drew1 | refine below_set ?_ GE335.out) | exact HB.out)⟩⟩
       ·rw [if_neg c38] at H
        have c38b0 : decide (x15_2 < (t345.length : Int)) = false := decide_eq_false c38
        clear c38
        by_cases c46 : (t345.length : Int) = (l1.length : Int)
        ·rw [if_pos c46] at H
         have c46b0 : ((t345.length : Int) == (l1.length : Int)) = true := beq_iff_eq.mpr c46
         have c46b1 : ((t345.length : Int) != (l1.length : Int)) = false := bne_eq_false_iff_eq.mpr c46
         have c46b2 : (t345.length == l1.length) = true := by first | simpa using c46 | (simp at c46 ⊢; omega)
         clear c46
         by_cases c47 : t346 ≥ 0
         ·rw [if_pos c47] at H
          have c47b0 : decide (0 ≤ t346) = true := decide_eq_true c47
          clear c47
          by_cases c48 : t346 ≤ (wrap64 (Int.tdiv ji7 4))
          ·rw [if_pos c48] at H
           have c48b0 : decide (t346 ≤ (wrap64 (Int.tdiv ji7 4))) = true := decide_eq_true c48
           have c48x0 : decide (t346 ≤ ji7 / 4) = true := by have u_ : 0 ≤ ji7 ∧ ji7 ≤ 17179869184 := (by rw [← hji7, ← hji6]; unfold mx mn; (repeat' split) <;> omega); have e_ : wrap64 (Int.tdiv ji7 4) = ji7 / 4 := (by rw [Int.tdiv_eq_ediv_of_nonneg u_.1]; unfold wrap64; omega); rw [← e_]; exact c48b0
           clear c48
           by_cases c49 : x10_1 ≤ ji7
           ·rw [if_pos c49] at H
            have c49b0 : decide (x10_1 ≤ ji7) = true := decide_eq_true c49
            clear c49
            by_cases c50 : x10_1 = ji7
            ·rw [if_pos c50] at H
             have c50b0 : (x10_1 == ji7) = true := beq_iff_eq.mpr c50
             have c50b1 : (x10_1 != ji7) = false := bne_eq_false_iff_eq.mpr c50
             clear c50
             replace H := Option.bind_eq_some_iff.mp H
             obtain ⟨t361, A510, H⟩ := H
             replace H : (some t361) = some r := H
             have A51 := Aside0.mk A510
             clear A510
             obtain rfl := Option.some.inj H
             go_wp2_with (first | (go_at_call 13; (with_reducible refine (flywheellaw27_wakes.calls k2  t361 _ A51.out).mono ?_); rintro e w52 ⟨rfl, hb⟩; have n0_ := Aside0.mk (Kd.R_below (by (with_reducible repeat (first | apply Kd.R_alloc | apply Kd.R_drewN | apply Kd.R_drew)); exact HO_8.out) hb); have n1_ := Aside0.mk (blk_below (g := gb335) (o := .cells #[.int .i64 a2_0, .int .i64 a2_1] 57 (0, 0)) (by (with_reducible repeat (first | refine blk_drewN ?_ _ | refine blk_drew ?_ | refine blk_alloc ?_ _)); exact BK335.out) hb); have n2_ := Aside0.mk (below_step (by repeat (first | (with_reducible first | exact HB.out | apply below_alloc | apply pw_below_drewN | apply below_drew1 | refine below_set ?_ GE335.out) | exact HB.out)) hb); clear HO_8; clear BK335; clear HB; have HO_8 := n0_; have BK335 := n1_; have HB := n2_; clear n0_ n1_ n2_; (try clear hb); (try clear hb2); (try clear hk); (try clear hi)))
             go_ret
             exact ⟨by first | rfl | (simp [errW_none, errW_some] <;> rfl) | (simp only [← hji6, ← hji7]; first | rfl | (simp [errW_none, errW_some] <;> rfl)) | (simp [*, errW_none, errW_some] <;> rfl), by repeat (first | (with_reducible first | exact HB.out | apply below_alloc | apply pw_below_drewN | apply below_drew1 | refine below_set ?_ GE335.out) | exact HB.out)⟩
            ·rw [if_neg c50] at H
             have c50b0 : (x10_1 == ji7) = false := beq_eq_false_iff_ne.mpr c50
             have c50b1 : (x10_1 != ji7) = true := bne_iff_ne.mpr c50
             by_cases c53 : (wrap64 (x10_1 - t346)) = x12_1
             ·rw [if_pos c53] at H
              have c53b0 : ((wrap64 (x10_1 - t346)) == x12_1) = true := beq_iff_eq.mpr c53
              have c53b1 : ((wrap64 (x10_1 - t346)) != x12_1) = false := bne_eq_false_iff_eq.mpr c53
              clear c53
              replace H := Option.bind_eq_some_iff.mp H
              obtain ⟨t362, A540, H⟩ := H
              replace H : (some t362) = some r := H
              have A54 := Aside0.mk A540
              clear A540
              obtain rfl := Option.some.inj H
              go_wp2_with (first | (go_at_call 13; (with_reducible refine (flywheellaw27_wakes.calls k2  t362 _ A54.out).mono ?_); rintro e w55 ⟨rfl, hb⟩; have n0_ := Aside0.mk (Kd.R_below (by (with_reducible repeat (first | apply Kd.R_alloc | apply Kd.R_drewN | apply Kd.R_drew)); exact HO_8.out) hb); have n1_ := Aside0.mk (blk_below (g := gb335) (o := .cells #[.int .i64 a2_0, .int .i64 a2_1] 57 (0, 0)) (by (with_reducible repeat (first | refine blk_drewN ?_ _ | refine blk_drew ?_ | refine blk_alloc ?_ _)); exact BK335.out) hb); have n2_ := Aside0.mk (below_step (by repeat (first | (with_reducible first | exact HB.out | apply below_alloc | apply pw_below_drewN | apply below_drew1 | refine below_set ?_ GE335.out) | exact HB.out)) hb); clear HO_8; clear BK335; clear HB; have HO_8 := n0_; have BK335 := n1_; have HB := n2_; clear n0_ n1_ n2_; (try clear hb); (try clear hb2); (try clear hk); (try clear hi)))
              go_ret
              exact ⟨by first | rfl | (simp [errW_none, errW_some] <;> rfl) | (simp only [← hji6, ← hji7]; first | rfl | (simp [errW_none, errW_some] <;> rfl)) | (simp [*, errW_none, errW_some] <;> rfl), by repeat (first | (with_reducible first | exact HB.out | apply below_alloc | apply pw_below_drewN | apply below_drew1 | refine below_set ?_ GE335.out) | exact HB.out)⟩
             ·rw [if_neg c53] at H
              have c53b0 : ((wrap64 (x10_1 - t346)) == x12_1) = false := beq_eq_false_iff_ne.mpr c53
              have c53b1 : ((wrap64 (x10_1 - t346)) != x12_1) = true := bne_iff_ne.mpr c53
              obtain rfl := Option.some.inj H
              go_wp2
              go_ret
              exact ⟨by first | rfl | (simp [errW_none, errW_some] <;> rfl) | (simp only [← hji6, ← hji7]; first | rfl | (simp [errW_none, errW_some] <;> rfl)) | (simp [*, errW_none, errW_some] <;> rfl), by repeat (first | (with_reducible first | exact HB.out | apply below_alloc | apply pw_below_drewN | apply below_drew1 | refine below_set ?_ GE335.out) | exact HB.out)⟩
           ·rw [if_neg c49] at H
            have c49b0 : decide (x10_1 ≤ ji7) = false := decide_eq_false c49
            clear c49
            obtain rfl := Option.some.inj H
            go_wp2
            go_ret
            exact ⟨by first | rfl | (simp [errW_none, errW_some] <;> rfl) | (simp only [← hji6, ← hji7]; first | rfl | (simp [errW_none, errW_some] <;> rfl)) | (simp [*, errW_none, errW_some] <;> rfl), by repeat (first | (with_reducible first | exact HB.out | apply below_alloc | apply pw_below_drewN | apply below_drew1 | refine below_set ?_ GE335.out) | exact HB.out)⟩
          ·rw [if_neg c48] at H
           have c48b0 : decide (t346 ≤ (wrap64 (Int.tdiv ji7 4))) = false := decide_eq_false c48
           have c48x0 : decide (t346 ≤ ji7 / 4) = false := by have u_ : 0 ≤ ji7 ∧ ji7 ≤ 17179869184 := (by rw [← hji7, ← hji6]; unfold mx mn; (repeat' split) <;> omega); have e_ : wrap64 (Int.tdiv ji7 4) = ji7 / 4 := (by rw [Int.tdiv_eq_ediv_of_nonneg u_.1]; unfold wrap64; omega); rw [← e_]; exact c48b0
           clear c48
           obtain rfl := Option.some.inj H
           go_wp2
           go_ret
           exact ⟨by first | rfl | (simp [errW_none, errW_some] <;> rfl) | (simp only [← hji6, ← hji7]; first | rfl | (simp [errW_none, errW_some] <;> rfl)) | (simp [*, errW_none, errW_some] <;> rfl), by repeat (first | (with_reducible first | exact HB.out | apply below_alloc | apply pw_below_drewN | apply below_drew1 | refine below_set ?_ GE335.out) | exact HB.out)⟩
         ·rw [if_neg c47] at H
          have c47b0 : decide (0 ≤ t346) = false := decide_eq_false c47
          clear c47
          obtain rfl := Option.some.inj H
          go_wp2
          go_ret
          exact ⟨by first | rfl | (simp [errW_none, errW_some] <;> rfl) | (simp only [← hji6, ← hji7]; first | rfl | (simp [errW_none, errW_some] <;> rfl)) | (simp [*, errW_none, errW_some] <;> rfl), by repeat (first | (with_reducible first | exact HB.out | apply below_alloc | apply pw_below_drewN | apply below_drew1 | refine below_set ?_ GE335.out) | exact HB.out)⟩
        ·rw [if_neg c46] at H
         have c46b0 : ((t345.length : Int) == (l1.length : Int)) = false := beq_eq_false_iff_ne.mpr c46
         have c46b1 : ((t345.length : Int) != (l1.length : Int)) = true := bne_iff_ne.mpr c46
         have c46b2 : (t345.length == l1.length) = false := by first | simpa using c46 | (simp at c46 ⊢; omega)
         obtain rfl := Option.some.inj H
         go_wp2
         go_ret
         exact ⟨by first | rfl | (simp [errW_none, errW_some] <;> rfl) | (simp only [← hji6, ← hji7]; first | rfl | (simp [errW_none, errW_some] <;> rfl)) | (simp [*, errW_none, errW_some] <;> rfl), by repeat (first | (with_reducible first | exact HB.out | apply below_alloc | apply pw_below_drewN | apply below_drew1 | refine below_set ?_ GE335.out) | exact HB.out)⟩
 ·replace c5 := Bool.eq_false_iff.mpr c5
  subst c5
  have H1 : ((flywheellaw27_few.f l1).bind fun t337 => ((alloc_Split.nilres.f k a0 t337).bind fun t340 => ((flywheellaw27_wakes.f k).bind fun t341 => (some t341)))) = some r := by rw [if_neg (show ¬ (false = true) by decide)] at H; exact H
  clear H
  have H := H1
  clear H1
  replace H := Option.bind_eq_some_iff.mp H
  obtain ⟨t337, A560, H⟩ := H
  replace H : ((alloc_Split.nilres.f k a0 t337).bind fun t340 => ((flywheellaw27_wakes.f k).bind fun t341 => (some t341))) = some r := H
  have A56 := Aside0.mk A560
  clear A560
  replace H := Option.bind_eq_some_iff.mp H
  obtain ⟨t340, A570, H⟩ := H
  replace H : ((flywheellaw27_wakes.f k).bind fun t341 => (some t341)) = some r := H
  have A57 := Aside0.mk A570
  clear A570
  replace H := Option.bind_eq_some_iff.mp H
  obtain ⟨t341, A580, H⟩ := H
  replace H : (some t341) = some r := H
  have A58 := Aside0.mk A580
  clear A580
  obtain rfl := Option.some.inj H
  go_enter Try.func11, Try.ntmps11
  go_wp2_with (first | ((with_reducible refine gate_dst (N := 5) rfl ?_); refine box_event ?hg (N := 5) ?hd (cs := #[.int .i64 a2_0, .int .i64 a2_1]) (t := 57) ?hr ?_; (case hd => rfl); (case hg => rfl); (case hr => first | (go_simp; done) | (go_simp; rfl)); intro gb335 hg w59 hbox hb; have n0_ := Aside0.mk (below_step (by repeat (first | (with_reducible first | exact HB.out | apply below_alloc | apply pw_below_drewN | apply below_drew1) | exact HB.out)) hb); have n1_ := Aside0.mk (hbox); have n2_ := Aside0.mk ((by rw [hg]; exact (below_size (by repeat (first | (with_reducible first | exact HB.out | apply below_alloc | apply pw_below_drewN | apply below_drew1) | exact HB.out))) : w.heap.size ≤ gb335)); have n3_ := Aside0.mk ((by rw [hg]; exact (below_size (by repeat (first | (with_reducible first | exact HB.out | apply below_alloc | apply pw_below_drewN | apply below_drew1) | exact HB.out))) : w.heap.size ≤ gb335)); clear HB; have HB := n0_; have BK335 := n1_; have GW335 := n2_; have GE335 := n3_; clear n0_ n1_ n2_ n3_; clear hb hbox hg) | ((with_reducible refine gate_callee (f := 16) rfl ?_); refine goesL_ (some 17) rfl rfl Try.func16 (by kernel_rfl) rfl #[.slice A1 l1.length c1] rfl (by (try simp only [List.map_toArray, List.map_cons, List.map_nil]); first | done | rfl | (simp only [List.length_drop, List.length_take]; rfl)) ?_; (with_reducible refine (flywheelref27_Good.calls k _ _ l1 false _ ?side1 ?side2 A4.out).mono ?_); (case side1 => repeat (first | exact (Kd.C_below HR1.out HB.out) | (with_reducible refine Kd.C_alloc ?_ _) | (with_reducible refine Kd.C_drewN ?_ _) | (with_reducible refine Kd.C_drew ?_))); (case side2 => exact HC1.out); rintro e w' ⟨rfl, ⟨nd, rfl⟩⟩; refine ⟨_, rfl, ?_⟩) | ((with_reducible refine gate_callee (f := 15) rfl ?_); refine goesL_ (some 21) rfl rfl Try.func15 (by kernel_rfl) rfl #[.slice A1 l1.length c1] rfl (by (try simp only [List.map_toArray, List.map_cons, List.map_nil]); first | done | rfl | (simp only [List.length_drop, List.length_take]; rfl)) ?_; (with_reducible refine (flywheellaw27_few.calls _ _ l1 t337 _ ?side1 ?side2 A56.out).mono ?_); (case side1 => repeat (first | exact (Kd.C_below HR1.out (by repeat (first | (with_reducible first | exact HB.out | apply below_alloc | apply pw_below_drewN | apply below_drew1 | refine below_set ?_ GE335.out) | exact HB.out))) | (with_reducible refine Kd.C_alloc ?_ _) | (with_reducible refine Kd.C_drewN ?_ _) | (with_reducible refine Kd.C_drew ?_))); (case side2 => exact HC1.out); rintro e w60 ⟨v338, rfl, ho0, hb⟩; refine ⟨_, rfl, ?_⟩; have n0_ := Aside0.mk (Kd.R_lower ho0 (below_size (by repeat (first | (with_reducible first | exact HB.out | apply below_alloc | apply pw_below_drewN | apply below_drew1 | refine below_set ?_ GE335.out) | exact HB.out)))); have n1_ := Aside0.mk (blk_below (g := gb335) (o := .cells #[.int .i64 a2_0, .int .i64 a2_1] 57 (0, 0)) (by (with_reducible repeat (first | refine blk_drewN ?_ _ | refine blk_drew ?_ | refine blk_alloc ?_ _)); exact BK335.out) hb); have n2_ := Aside0.mk (below_step (by repeat (first | (with_reducible first | exact HB.out | apply below_alloc | apply pw_below_drewN | apply below_drew1 | refine below_set ?_ GE335.out) | exact HB.out)) hb); clear BK335; clear HB; have HO339 := n0_; have BK335 := n1_; have HB := n2_; clear n0_ n1_ n2_; (try clear hb); (try clear hb2); (try clear hk); (try clear hi); (try clear ho0); obtain ⟨Ao61, co61, eo61⟩ := Kd.R_slice HO339.out; subst eo61) | ((with_reducible refine gate_callee (f := 18) rfl ?_); refine goesL_ (some 22) rfl rfl Try.func18 (by kernel_rfl) rfl #[.int .i64 a0, .slice Ao61 t337.length co61] rfl (by (try simp only [List.map_toArray, List.map_cons, List.map_nil]); first | done | rfl | (simp only [List.length_drop, List.length_take]; rfl)) ?_; (with_reducible refine (alloc_Split.nilres.calls k a0 _ _ t337 t340 _ ?side1 ?side2 A57.out).mono ?_); (case side1 => repeat (first | exact (Kd.R_reads' HO339.out).2.2 | (with_reducible refine Kd.C_alloc ?_ _) | (with_reducible refine Kd.C_drewN ?_ _) | (with_reducible refine Kd.C_drew ?_))); (case side2 => exact (Kd.R_reads' HO339.out).2.1); rintro e w62 ⟨rfl, hb⟩; refine ⟨_, rfl, ?_⟩; have n0_ := Aside0.mk (Kd.R_below (by (with_reducible repeat (first | apply Kd.R_alloc | apply Kd.R_drewN | apply Kd.R_drew)); exact HO339.out) hb); have n1_ := Aside0.mk (blk_below (g := gb335) (o := .cells #[.int .i64 a2_0, .int .i64 a2_1] 57 (0, 0)) (by (with_reducible repeat (first | refine blk_drewN ?_ _ | refine blk_drew ?_ | refine blk_alloc ?_ _)); exact BK335.out) hb); have n2_ := Aside0.mk (below_step (by repeat (first | (with_reducible first | exact HB.out | apply below_alloc | apply pw_below_drewN | apply below_drew1 | refine below_set ?_ GE335.out) | exact HB.out)) hb); clear HO339; clear BK335; clear HB; have HO339 := n0_; have BK335 := n1_; have HB := n2_; clear n0_ n1_ n2_; (try clear hb); (try clear hb2); (try clear hk); (try clear hi)) | (go_at_call 13; (with_reducible refine (flywheellaw27_wakes.calls k  t341 _ A58.out).mono ?_); rintro e w63 ⟨rfl, hb⟩; have n0_ := Aside0.mk (Kd.R_below (by (with_reducible repeat (first | apply Kd.R_alloc | apply Kd.R_drewN | apply Kd.R_drew)); exact HO339.out) hb); have n1_ := Aside0.mk (blk_below (g := gb335) (o := .cells #[.int .i64 a2_0, .int .i64 a2_1] 57 (0, 0)) (by (with_reducible repeat (first | refine blk_drewN ?_ _ | refine blk_drew ?_ | refine blk_alloc ?_ _)); exact BK335.out) hb); have n2_ := Aside0.mk (below_step (by repeat (first | (with_reducible first | exact HB.out | apply below_alloc | apply pw_below_drewN | apply below_drew1 | refine below_set ?_ GE335.out) | exact HB.out)) hb); clear HO339; clear BK335; clear HB; have HO339 := n0_; have BK335 := n1_; have HB := n2_; clear n0_ n1_ n2_; (try clear hb); (try clear hb2); (try clear hk); (try clear hi)))
  go_ret
  exact ⟨by first | rfl | (simp [errW_none, errW_some] <;> rfl) | (simp [*, errW_none, errW_some] <;> rfl), by repeat (first | (with_reducible first | exact HB.out | apply below_alloc | apply pw_below_drewN | apply below_drew1 | refine below_set ?_ GE335.out) | exact HB.out)⟩
def flywheellaw27_AllocSums.Pure : Prop := ∀ (a0 : Int) (l1 : List (S31)) (a2_0 : Int) (a2_1 : Int), (Lit.int .i64 a0).wf = true → l1.length ≤ maxLen → l1.length * 24 ≤ 140737488351232 → (∀ x ∈ l1, (Lit.int .i64 x.f0).wf = true ∧ (Lit.int .i64 x.f1).wf = true ∧ (Lit.int .i64 x.f2).wf = true) → (Lit.int .i64 a2_0).wf = true → (Lit.int .i64 a2_1).wf = true → ∃ k, flywheellaw27_AllocSums.f k a0 l1 a2_0 a2_1 = some true
theorem flywheellaw27_AllocSums.walk (P : flywheellaw27_AllocSums.Pure) (a0 : Int) (A1 : Option Addr) (c1 : Nat) (l1 : List (S31)) (a2_0 : Int) (a2_1 : Int) (w : World) (w0 : (Lit.int .i64 a0).wf = true) (hm1 : l1.length ≤ maxLen) (y1 : l1.length * 24 ≤ 140737488351232) (hw1 : (∀ x ∈ l1, (Lit.int .i64 x.f0).wf = true ∧ (Lit.int .i64 x.f1).wf = true ∧ (Lit.int .i64 x.f2).wf = true)) (w2_0 : (Lit.int .i64 a2_0).wf = true) (w2_1 : (Lit.int .i64 a2_1).wf = true) (hr1 : Kd.C k31 w A1 l1.length l1) (hc1 : l1.length ≤ c1) :
  Calls Try.prog 11 #[.int .i64 a0, .slice A1 l1.length c1, .agg #[.int .i64 a2_0, .int .i64 a2_1]] w fun e w' => e = .returned (.bool true) ∧ Below w.heap.size w w' := by
 obtain ⟨k, h⟩ := P a0 l1 a2_0 a2_1 w0 hm1 y1 hw1 w2_0 w2_1
 refine (flywheellaw27_AllocSums.calls k a0 A1 c1 l1 a2_0 a2_1 true w hr1 hc1 h).mono ?_
 rintro e w' ⟨rfl, hd⟩
 exact ⟨rfl, hd⟩
end Go.Proofs.Ytlgfnclgkhfhpaa.P
end

section
namespace Go.Proofs.Ytlgfnclgkhfhpaa.P
open Go.RowKit Go.Proofs.YtlgfnclgkhfhpaaW.PrintWords Go.Proofs.YtlgfnclgkhfhpaaW.PrintLast Go.Proofs.YtlgfnclgkhfhpaaW.PrintMore
attribute [local go_sem] max2_int min2_int max_two min_two max_three min_three max_four min_four   -- for this text's walks alone
set_option linter.unusedVariables false
set_option linter.unusedSimpArgs false
end Go.Proofs.Ytlgfnclgkhfhpaa.P
end

section
namespace Go.Proofs.Ytlgfnclgkhfhpaa.P
open Go.RowKit Go.Proofs.YtlgfnclgkhfhpaaW.PrintWords Go.Proofs.YtlgfnclgkhfhpaaW.PrintLast Go.Proofs.YtlgfnclgkhfhpaaW.PrintMore
attribute [local go_sem] max2_int min2_int max_two min_two max_three min_three max_four min_four   -- for this text's walks alone
set_option linter.unusedVariables false
set_option linter.unusedSimpArgs false
end Go.Proofs.Ytlgfnclgkhfhpaa.P
end

section
namespace Go.Proofs.Ytlgfnclgkhfhpaa.P
open Go.RowKit Go.Proofs.YtlgfnclgkhfhpaaW.PrintWords Go.Proofs.YtlgfnclgkhfhpaaW.PrintLast Go.Proofs.YtlgfnclgkhfhpaaW.PrintMore
attribute [local go_sem] max2_int min2_int max_two min_two max_three min_three max_four min_four   -- for this text's walks alone
set_option linter.unusedVariables false
set_option linter.unusedSimpArgs false
end Go.Proofs.Ytlgfnclgkhfhpaa.P
end

section
namespace Go.Proofs.Ytlgfnclgkhfhpaa.P
open Go.RowKit
set_option linter.unusedVariables false
set_option linter.unusedSimpArgs false
end Go.Proofs.Ytlgfnclgkhfhpaa.P
end

section
namespace Go.Proofs.Ytlgfnclgkhfhpaa.P
open Go.RowKit
set_option linter.unusedVariables false
set_option linter.unusedSimpArgs false
theorem clamp_eq (a lo hi : Int) : sat_Clamp.f a lo hi = some (if a < lo then lo else if a > hi then hi else a) := by
  unfold sat_Clamp.f
  split
  · rfl
  · split <;> rfl
end Go.Proofs.Ytlgfnclgkhfhpaa.P
end

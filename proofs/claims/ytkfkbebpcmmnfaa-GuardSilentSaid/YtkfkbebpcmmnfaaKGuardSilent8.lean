-- PUT TOGETHER by a program of this session: of the claim's texts, what is used
import Derived.Test.YtkfkbebpcmmnfaaKGuardSilent2
import Derived.Test.YtkfkbebpcmmnfaaKGuardSilent7
section
namespace Go.Proofs.Ytkfkbebpcmmnfaa.P
open Go.RowKit Go.Proofs.YtkfkbebpcmmnfaaW.PrintWords Go.Proofs.YtkfkbebpcmmnfaaW.PrintLast Go.Proofs.YtkfkbebpcmmnfaaW.PrintMore
attribute [local go_sem] max2_int min2_int max_two min_two max_three min_three max_four min_four   -- for this text's walks alone
set_option linter.unusedVariables false
set_option linter.unusedSimpArgs false
def guard_Guard_Tick.f (s0_0 : Int) (s0_1 : Int) (s0_2 : Int) (s0_3 : Int) (s0_4 : Int) (s0_5 : Int) (s0_6 : Int) (s0_7 : Int) (s0_8 : Int) (s0_9 : Int) (s0_10 : Int) (s0_11 : List (S85)) (s0_12 : Int) (s0_13 : Int) (s0_14 : Int) (s0_15 : Int) (s0_16 : Bool) (s0_17 : Bool) (a1 : Int) : Option (Int × Int × Int × Int × Int × Int × Int × Int × Int × Int × Int × Int × Int × Int × Int × Int × Bool × Bool) := (sat_Clamp.f a1 0 1125899906842624).bind fun t121 => (if (wrap64 (t121 - s0_14)) > s0_7 then (if s0_16 = true then (if (wrap64 (t121 - s0_15)) > s0_7 then ((muldiv_Do.f s0_13 1 2 1).bind fun t122 => (some (mx t122 s0_1, s0_0, s0_1, s0_2, s0_3, s0_4, s0_5, s0_6, s0_7, s0_8, s0_9, s0_10, s0_12, mx t122 s0_1, s0_14, t121, true, s0_17))) else (some (s0_13, s0_0, s0_1, s0_2, s0_3, s0_4, s0_5, s0_6, s0_7, s0_8, s0_9, s0_10, s0_12, s0_13, s0_14, s0_15, s0_16, s0_17))) else ((muldiv_Do.f s0_13 1 2 1).bind fun t123 => (some (mx t123 s0_1, s0_0, s0_1, s0_2, s0_3, s0_4, s0_5, s0_6, s0_7, s0_8, s0_9, s0_10, s0_12, mx t123 s0_1, s0_14, t121, true, s0_17)))) else (some (s0_13, s0_0, s0_1, s0_2, s0_3, s0_4, s0_5, s0_6, s0_7, s0_8, s0_9, s0_10, s0_12, s0_13, s0_14, s0_15, s0_16, s0_17)))
def guard_Guard_Tick.T4 : Bool × List (List Nat × List Nat) := (true, [([], []), ([], []), ([1], [1]), ([2], [2]), ([3], [3]), ([0, 4], [0, 4]), ([], []), ([6], [6]), ([7], [7]), ([8], [8]), ([9], [9]), ([5, 10], [5, 10]), ([11], [11]), ([12], [12]), ([13, 12], [12, 13]), ([14, 12], [12, 14]), ([15, 12], [12, 15]), ([16, 12], [12, 16]), ([17, 12, 12], [12, 17]), ([18], [18]), ([18], [18]), ([20, 18], [18, 20]), ([21, 18], [18, 21]), ([22, 18], [18, 22]), ([19, 23, 18], [18, 19, 23]), ([18], [18]), ([25, 18], [18, 25]), ([26, 18], [18, 26]), ([27, 18], [18, 27]), ([28, 18], [18, 28]), ([24, 29, 18], [18, 24, 29]), ([18, 30, 12], [12, 18, 30]), ([12, 31], [12, 31])])
def guard_Guard_Tick.B4 : List Nat := [0, 0, 2, 6, 14, 31, 0, 64, 192, 448, 960, 2047, 4095, 8191, 16383, 32767, 65535, 131071, 262143, 524287, 524287, 1572863, 3670015, 7864319, 16777215, 524287, 34078719, 101187583, 235405311, 503840767, 1073741823, 2147483647, 4294967295]
theorem guard_Guard_Tick.tab4 : rtab .any (opsOf Try.f17 4) = guard_Guard_Tick.T4 := by kernel_rfl
theorem guard_Guard_Tick.bits4 : waitsOk guard_Guard_Tick.T4.2 guard_Guard_Tick.B4 = true := by kernel_rfl
def guard_Guard_Tick.T5 : Bool × List (List Nat × List Nat) := (true, [([], []), ([], []), ([1], [1]), ([2], [2]), ([3], [3]), ([4], [4]), ([], []), ([6], [6]), ([7], [7]), ([8], [8]), ([9], [9]), ([5, 10], [5, 10]), ([0, 0, 1, 2, 3, 4, 5, 6, 7, 8, 9, 10, 11], [0]), ([12, 0, 1, 2, 3, 4, 5, 6, 7, 8, 9, 10, 11], [12]), ([13, 11, 5, 0, 1, 2, 3, 4, 5, 6, 7, 8, 9, 10, 11], [11, 13])])
def guard_Guard_Tick.B5 : List Nat := [0, 0, 2, 6, 14, 30, 0, 64, 192, 448, 960, 2046, 4095, 8191, 16383]
theorem guard_Guard_Tick.tab5 : rtab .any (opsOf Try.f17 5) = guard_Guard_Tick.T5 := by kernel_rfl
theorem guard_Guard_Tick.bits5 : waitsOk guard_Guard_Tick.T5.2 guard_Guard_Tick.B5 = true := by kernel_rfl
set_option maxHeartbeats 8000000 in
set_option maxRecDepth 100000 in
theorem guard_Guard_Tick.calls (g : Nat) (s0_0 : Int) (s0_1 : Int) (s0_2 : Int) (s0_3 : Int) (s0_4 : Int) (s0_5 : Int) (s0_6 : Int) (s0_7 : Int) (s0_8 : Int) (s0_9 : Int) (s0_10 : Int) (s0_11 : List (S85)) (s0_12 : Int) (s0_13 : Int) (s0_14 : Int) (s0_15 : Int) (s0_16 : Bool) (s0_17 : Bool) (a1 : Int) (r1 : Int) (r2 : Int) (r3 : Int) (r4 : Int) (r5 : Int) (r6 : Int) (r7 : Int) (r8 : Int) (r9 : Int) (r10 : Int) (r11 : Int) (r12 : Int) (r13 : Int) (r14 : Int) (r15 : Int) (r16 : Int) (r17 : Bool) (r18 : Bool) (w0 w : World) (hI : IsS48 w0 w g s0_0 s0_1 s0_2 s0_3 s0_4 s0_5 s0_6 s0_7 s0_8 s0_9 s0_10 s0_11 s0_12 s0_13 s0_14 s0_15 s0_16 s0_17) (hB : Below w0.heap.size w0 w) (h : guard_Guard_Tick.f s0_0 s0_1 s0_2 s0_3 s0_4 s0_5 s0_6 s0_7 s0_8 s0_9 s0_10 s0_11 s0_12 s0_13 s0_14 s0_15 s0_16 s0_17 a1 = some (r1, r2, r3, r4, r5, r6, r7, r8, r9, r10, r11, r12, r13, r14, r15, r16, r17, r18)) :
  Calls Try.prog 17 #[.pointer (some ⟨g, 0, none⟩), .int .i64 a1] w fun e w' => e = .returned (.int .i64 r1) ∧ IsS48 w0 w' g r2 r3 r4 r5 r6 r7 r8 r9 r10 r11 r12 s0_11 r13 r14 r15 r16 r17 r18 ∧ Below w0.heap.size w0 w' ∧ KeepBut w w' g none := by
 have hpn29_eql : ∀ (a_ : Addr) (W_ : World), (Go.binOp .eql 29 (.pointer (some a_)) (.pointer none)).run Try.prog W_ = .ok (.bool false) W_ := fun _ _ => by kernel_rfl
 have hnn29_eql : ∀ (W_ : World), (Go.binOp .eql 29 (.pointer none) (.pointer none)).run Try.prog W_ = .ok (.bool true) W_ := fun _ => by kernel_rfl
 have HI0 := Aside0.mk hI
 have HK := Aside0.mk (KeepBut.refl w g none)
 have HL := Aside0.mk hB.size
 clear hI
 have HW0 := Aside0.mk hB.size
 have HB := Aside0.mk hB
 clear hB
 have H : ((sat_Clamp.f a1 0 1125899906842624).bind fun t121 => (if (wrap64 (t121 - s0_14)) > s0_7 then (if s0_16 = true then (if (wrap64 (t121 - s0_15)) > s0_7 then ((muldiv_Do.f s0_13 1 2 1).bind fun t122 => (some (mx t122 s0_1, s0_0, s0_1, s0_2, s0_3, s0_4, s0_5, s0_6, s0_7, s0_8, s0_9, s0_10, s0_12, mx t122 s0_1, s0_14, t121, true, s0_17))) else (some (s0_13, s0_0, s0_1, s0_2, s0_3, s0_4, s0_5, s0_6, s0_7, s0_8, s0_9, s0_10, s0_12, s0_13, s0_14, s0_15, s0_16, s0_17))) else ((muldiv_Do.f s0_13 1 2 1).bind fun t123 => (some (mx t123 s0_1, s0_0, s0_1, s0_2, s0_3, s0_4, s0_5, s0_6, s0_7, s0_8, s0_9, s0_10, s0_12, mx t123 s0_1, s0_14, t121, true, s0_17)))) else (some (s0_13, s0_0, s0_1, s0_2, s0_3, s0_4, s0_5, s0_6, s0_7, s0_8, s0_9, s0_10, s0_12, s0_13, s0_14, s0_15, s0_16, s0_17)))) = some (r1, r2, r3, r4, r5, r6, r7, r8, r9, r10, r11, r12, r13, r14, r15, r16, r17, r18) := h
 clear h
 replace H := Option.bind_eq_some_iff.mp H
 obtain ⟨t121, A30, H⟩ := H
 replace H : (if (wrap64 (t121 - s0_14)) > s0_7 then (if s0_16 = true then (if (wrap64 (t121 - s0_15)) > s0_7 then ((muldiv_Do.f s0_13 1 2 1).bind fun t122 => (some (mx t122 s0_1, s0_0, s0_1, s0_2, s0_3, s0_4, s0_5, s0_6, s0_7, s0_8, s0_9, s0_10, s0_12, mx t122 s0_1, s0_14, t121, true, s0_17))) else (some (s0_13, s0_0, s0_1, s0_2, s0_3, s0_4, s0_5, s0_6, s0_7, s0_8, s0_9, s0_10, s0_12, s0_13, s0_14, s0_15, s0_16, s0_17))) else ((muldiv_Do.f s0_13 1 2 1).bind fun t123 => (some (mx t123 s0_1, s0_0, s0_1, s0_2, s0_3, s0_4, s0_5, s0_6, s0_7, s0_8, s0_9, s0_10, s0_12, mx t123 s0_1, s0_14, t121, true, s0_17)))) else (some (s0_13, s0_0, s0_1, s0_2, s0_3, s0_4, s0_5, s0_6, s0_7, s0_8, s0_9, s0_10, s0_12, s0_13, s0_14, s0_15, s0_16, s0_17))) = some (r1, r2, r3, r4, r5, r6, r7, r8, r9, r10, r11, r12, r13, r14, r15, r16, r17, r18) := H
 have A3 := Aside0.mk A30
 clear A30
 by_cases c4 : (wrap64 (t121 - s0_14)) > s0_7
 ·rw [if_pos c4] at H
  have c4b0 : decide (s0_7 < (wrap64 (t121 - s0_14))) = true := decide_eq_true c4
  clear c4
  by_cases c5 : s0_16 = true
  ·subst c5
   have H1 : (if (wrap64 (t121 - s0_15)) > s0_7 then ((muldiv_Do.f s0_13 1 2 1).bind fun t122 => (some (mx t122 s0_1, s0_0, s0_1, s0_2, s0_3, s0_4, s0_5, s0_6, s0_7, s0_8, s0_9, s0_10, s0_12, mx t122 s0_1, s0_14, t121, true, s0_17))) else (some (s0_13, s0_0, s0_1, s0_2, s0_3, s0_4, s0_5, s0_6, s0_7, s0_8, s0_9, s0_10, s0_12, s0_13, s0_14, s0_15, true, s0_17))) = some (r1, r2, r3, r4, r5, r6, r7, r8, r9, r10, r11, r12, r13, r14, r15, r16, r17, r18) := by rw [if_pos rfl] at H; exact H
   clear H
   have H := H1
   clear H1
   by_cases c6 : (wrap64 (t121 - s0_15)) > s0_7
   ·rw [if_pos c6] at H
    have c6b0 : decide (s0_7 < (wrap64 (t121 - s0_15))) = true := decide_eq_true c6
    clear c6
    replace H := Option.bind_eq_some_iff.mp H
    obtain ⟨t122, A70, H⟩ := H
    replace H : (some (mx t122 s0_1, s0_0, s0_1, s0_2, s0_3, s0_4, s0_5, s0_6, s0_7, s0_8, s0_9, s0_10, s0_12, mx t122 s0_1, s0_14, t121, true, s0_17)) = some (r1, r2, r3, r4, r5, r6, r7, r8, r9, r10, r11, r12, r13, r14, r15, r16, r17, r18) := H
    have A7 := Aside0.mk A70
    clear A70
    obtain ⟨ji8, hji8⟩ : ∃ j_ : Int, (mx t122 s0_1) = j_ := ⟨_, rfl⟩
    replace H : (some (ji8, s0_0, s0_1, s0_2, s0_3, s0_4, s0_5, s0_6, s0_7, s0_8, s0_9, s0_10, s0_12, ji8, s0_14, t121, true, s0_17)) = some (r1, r2, r3, r4, r5, r6, r7, r8, r9, r10, r11, r12, r13, r14, r15, r16, r17, r18) := by first | (rw [hji8] at H; exact H) | (simp only [hji8] at H ⊢; exact H)
    (try rw [hji8] at A3)
    (try rw [hji8] at A7)
    have hji8_ : (if t122 < s0_1 then s0_1 else t122) = ji8 := hji8
    simp only [Option.some.injEq, Prod.mk.injEq] at H
    obtain ⟨rfl, rfl, rfl, rfl, rfl, rfl, rfl, rfl, rfl, rfl, rfl, rfl, rfl, rfl, rfl, rfl, rfl, rfl⟩ := H
    go_enter Try.func17, Try.ntmps17
    try go_wp2_with (first | ((with_reducible refine gate_callee (f := 19) rfl ?_); refine goesL_ (some 8) rfl rfl Try.func19 (by kernel_rfl) rfl #[.int .i64 a1, .int .i64 0, .int .i64 1125899906842624] rfl (by (try simp only [List.map_toArray, List.map_cons, List.map_nil]); first | done | rfl | (simp only [List.length_drop, List.length_take]; rfl)) ?_; (with_reducible refine (sat_Clamp.calls a1 0 1125899906842624 t121 _ A3.out).mono ?_); rintro e w' ⟨rfl, ⟨nd, rfl⟩⟩; refine ⟨_, rfl, ?_⟩; (generalize hq_ : World.drewN w _ = w9; have n0_ : Aside0 (IsS48 w0 w9 g s0_0 s0_1 s0_2 s0_3 s0_4 s0_5 s0_6 s0_7 s0_8 s0_9 s0_10 s0_11 s0_12 s0_13 s0_14 s0_15 true s0_17) := ⟨by rw [← hq_]; exact (by repeat (first | (with_reducible first | exact HI0.out | apply IsS48.alloc | apply IsS48.drewN | apply IsS48.drew | apply IsS48.set_0 | apply IsS48.set_1 | apply IsS48.set_2 | apply IsS48.set_3 | apply IsS48.set_4 | apply IsS48.set_5 | apply IsS48.set_6 | apply IsS48.set_7 | apply IsS48.set_8 | apply IsS48.set_9 | apply IsS48.set_10 | apply IsS48.set_12 | apply IsS48.set_13 | apply IsS48.set_14 | apply IsS48.set_15 | apply IsS48.set_16 | apply IsS48.set_17) | exact HI0.out))⟩; have n1_ : Aside0 (KeepBut w w9 g none) := ⟨by rw [← hq_]; exact (by repeat (first | (with_reducible first | exact HK.out | apply KeepBut.set_ | apply keep_drewN | apply keep_drew | apply keep_alloc) | exact HK.out))⟩; have n2_ : Aside0 (Below w0.heap.size w0 w9) := ⟨by rw [← hq_]; exact (by repeat (first | (with_reducible first | exact HB.out | apply below_alloc | apply pw_below_drewN | apply below_drew1 | refine below_set ?_ (IsS48.ge HI0.out)) | exact HB.out))⟩; clear HI0 HK HB hq_; have HI0 := n0_; have HK := n1_; have HB := n2_; clear n0_ n1_ n2_)))
    have n0_ := Aside0.mk (IsS48.drew HI0.out)
    have n1_ := Aside0.mk (keep_drew HK.out)
    have n2_ := Aside0.mk (below_drew1 HB.out)
    clear HI0
    clear HK
    clear HB
    have HI0 := n0_
    have HK := n1_
    have HB := n2_
    clear n0_ n1_ n2_
    refine start_ (n := 33) (S := fun w' => w'.cell? ⟨g, 0, none⟩ = some (.int .i64 s0_0) ∧ w'.cell? ⟨g, 1, none⟩ = some (.int .i64 s0_1) ∧ w'.cell? ⟨g, 2, none⟩ = some (.int .i64 s0_2) ∧ w'.cell? ⟨g, 3, none⟩ = some (.int .i64 s0_3) ∧ w'.cell? ⟨g, 4, none⟩ = some (.int .i64 s0_4) ∧ w'.cell? ⟨g, 5, none⟩ = some (.int .i64 s0_5) ∧ w'.cell? ⟨g, 6, none⟩ = some (.int .i64 s0_6) ∧ w'.cell? ⟨g, 7, none⟩ = some (.int .i64 s0_7) ∧ w'.cell? ⟨g, 8, none⟩ = some (.int .i64 s0_8) ∧ w'.cell? ⟨g, 9, none⟩ = some (.int .i64 s0_9) ∧ w'.cell? ⟨g, 10, none⟩ = some (.int .i64 s0_10) ∧ w'.cell? ⟨g, 12, none⟩ = some (.int .i64 s0_12) ∧ w'.cell? ⟨g, 13, none⟩ = some (.int .i64 s0_13) ∧ w'.cell? ⟨g, 14, none⟩ = some (.int .i64 s0_14) ∧ w'.cell? ⟨g, 15, none⟩ = some (.int .i64 s0_15) ∧ w'.cell? ⟨g, 16, none⟩ = some (.bool true) ∧ w'.cell? ⟨g, 17, none⟩ = some (.bool s0_17)) (ds := []) #[false, false, false, false, false, false, false, false, false, false, false, false, false, false, false, false, false, false, false, false, false, false, false, false, false, false, false, false, false, false, false, false, false] (by kernel_rfl) rfl rfl ⟨(IsS48.cell_0 HI0.out), (IsS48.cell_1 HI0.out), (IsS48.cell_2 HI0.out), (IsS48.cell_3 HI0.out), (IsS48.cell_4 HI0.out), (IsS48.cell_5 HI0.out), (IsS48.cell_6 HI0.out), (IsS48.cell_7 HI0.out), (IsS48.cell_8 HI0.out), (IsS48.cell_9 HI0.out), (IsS48.cell_10 HI0.out), (IsS48.cell_12 HI0.out), (IsS48.cell_13 HI0.out), (IsS48.cell_14 HI0.out), (IsS48.cell_15 HI0.out), (IsS48.cell_16 HI0.out), (IsS48.cell_17 HI0.out)⟩ (fun hHeld => ?_); refine with_tabW guard_Guard_Tick.tab4 guard_Guard_Tick.bits4 (fun HT_ HW_ => ?_)
    generalize w9.drew = w10 at HI0 HK HB hHeld ⊢
    refine pure_ (i := 0) (N := some 9) (v := ?_) (a' := ?_) #[true, false, false, false, false, false, false, false, false, false, false, false, false, false, false, false, false, false, false, false, false, false, false, false, false, false, false, false, false, false, false, false, false] rfl rfl (any_of HT_.out (by kernel_rfl)) (fun _ _ _ h => h) (Or.inl ⟨by rfl, ?_⟩) ?_ ?_
    rotate_left
    ·intro w'
     go_simp
     with_reducible rfl
    rotate_left
    ·simp only [Act.put, List.setIfInBounds_toArray, List.set_cons_zero, List.set_cons_succ, i64_w, i32_w]
     rfl
    refine pure_ (i := 1) (N := some 10) (v := ?_) (a' := ?_) #[true, true, false, false, false, false, false, false, false, false, false, false, false, false, false, false, false, false, false, false, false, false, false, false, false, false, false, false, false, false, false, false, false] rfl rfl (any_of HT_.out (by kernel_rfl)) (fun _ _ _ h => h) (Or.inl ⟨by rfl, ?_⟩) ?_ ?_
    rotate_left
    ·intro w'
     go_simp
     with_reducible rfl
    rotate_left
    ·simp only [Act.put, List.setIfInBounds_toArray, List.set_cons_zero, List.set_cons_succ, i64_w, i32_w]
     rfl
    refine pure_ (i := 2) (N := some 11) (v := ?_) (a' := ?_) #[true, true, true, false, false, false, false, false, false, false, false, false, false, false, false, false, false, false, false, false, false, false, false, false, false, false, false, false, false, false, false, false, false] rfl rfl (any_of HT_.out (by kernel_rfl)) (fun _ _ _ h => h) (Or.inl ⟨by rfl, ?_⟩) ?_ ?_
    rotate_left
    ·intro w'
     go_simp
     with_reducible rfl
    rotate_left
    ·simp only [Act.put, List.setIfInBounds_toArray, List.set_cons_zero, List.set_cons_succ, i64_w, i32_w]
     rfl
    refine pure_ (i := 3) (N := some 12) (v := ?_) (a' := ?_) #[true, true, true, true, false, false, false, false, false, false, false, false, false, false, false, false, false, false, false, false, false, false, false, false, false, false, false, false, false, false, false, false, false] rfl rfl (any_of HT_.out (by kernel_rfl)) (fun _ _ _ h => h) (Or.inl ⟨by rfl, ?_⟩) ?_ ?_
    rotate_left
    ·intro w'
     go_simp
     with_reducible rfl
    rotate_left
    ·simp only [Act.put, List.setIfInBounds_toArray, List.set_cons_zero, List.set_cons_succ, i64_w, i32_w]
     rfl
    refine pure_ (i := 6) (N := some 15) (v := ?_) (a' := ?_) #[true, true, true, true, false, false, true, false, false, false, false, false, false, false, false, false, false, false, false, false, false, false, false, false, false, false, false, false, false, false, false, false, false] rfl rfl (any_of HT_.out (by kernel_rfl)) (fun _ _ _ h => h) (Or.inl ⟨by rfl, ?_⟩) ?_ ?_
    rotate_left
    ·intro w'
     go_simp
     with_reducible rfl
    rotate_left
    ·simp only [Act.put, List.setIfInBounds_toArray, List.set_cons_zero, List.set_cons_succ, i64_w, i32_w]
     rfl
    refine pure_ (i := 7) (N := some 16) (v := ?_) (a' := ?_) #[true, true, true, true, false, false, true, true, false, false, false, false, false, false, false, false, false, false, false, false, false, false, false, false, false, false, false, false, false, false, false, false, false] rfl rfl (any_of HT_.out (by kernel_rfl)) (fun _ _ _ h => h) (Or.inl ⟨by rfl, ?_⟩) ?_ ?_
    rotate_left
    ·intro w'
     go_simp
     with_reducible rfl
    rotate_left
    ·simp only [Act.put, List.setIfInBounds_toArray, List.set_cons_zero, List.set_cons_succ, i64_w, i32_w]
     rfl
    refine pure_ (i := 8) (N := some 17) (v := ?_) (a' := ?_) #[true, true, true, true, false, false, true, true, true, false, false, false, false, false, false, false, false, false, false, false, false, false, false, false, false, false, false, false, false, false, false, false, false] rfl rfl (any_of HT_.out (by kernel_rfl)) (fun _ _ _ h => h) (Or.inl ⟨by rfl, ?_⟩) ?_ ?_
    rotate_left
    ·intro w'
     go_simp
     with_reducible rfl
    rotate_left
    ·simp only [Act.put, List.setIfInBounds_toArray, List.set_cons_zero, List.set_cons_succ, i64_w, i32_w]
     rfl
    refine pure_ (i := 9) (N := some 18) (v := ?_) (a' := ?_) #[true, true, true, true, false, false, true, true, true, true, false, false, false, false, false, false, false, false, false, false, false, false, false, false, false, false, false, false, false, false, false, false, false] rfl rfl (any_of HT_.out (by kernel_rfl)) (fun _ _ _ h => h) (Or.inl ⟨by rfl, ?_⟩) ?_ ?_
    rotate_left
    ·intro w'
     go_simp
     with_reducible rfl
    rotate_left
    ·simp only [Act.put, List.setIfInBounds_toArray, List.set_cons_zero, List.set_cons_succ, i64_w, i32_w]
     rfl
    refine take_ (i := 4) (N := some 13) (v := ?_) (a' := ?_) #[true, true, true, true, true, false, true, true, true, true, false, false, false, false, false, false, false, false, false, false, false, false, false, false, false, false, false, false, false, false, false, false, false] rfl rfl (take_ofW HT_.out HW_.out (by kernel_rfl)) (fun _ _ _ h => h) (Or.inl ⟨by rfl, ?_⟩) hHeld ?_ ?_
    rotate_left
    ·rintro w' ⟨s0, s1, s2, s3, s4, s5, s6, s7, s8, s9, s10, s11, s12, s13, s14, s15, s16⟩
     go_simp
     with_reducible rfl
    rotate_left
    ·simp only [Act.put, List.setIfInBounds_toArray, List.set_cons_zero, List.set_cons_succ, i64_w, i32_w]
     rfl
    refine pure_ (i := 5) (N := some 14) (v := ?_) (a' := ?_) #[true, true, true, true, true, true, true, true, true, true, false, false, false, false, false, false, false, false, false, false, false, false, false, false, false, false, false, false, false, false, false, false, false] rfl rfl (any_of HT_.out (by kernel_rfl)) (fun _ _ _ h => h) (Or.inl ⟨by rfl, ?_⟩) ?_ ?_
    rotate_left
    ·intro w'
     go_simp
     with_reducible rfl
    rotate_left
    ·simp only [Act.put, List.setIfInBounds_toArray, List.set_cons_zero, List.set_cons_succ, i64_w, i32_w]
     rfl
    refine take_ (i := 10) (N := some 19) (v := ?_) (a' := ?_) #[true, true, true, true, true, true, true, true, true, true, true, false, false, false, false, false, false, false, false, false, false, false, false, false, false, false, false, false, false, false, false, false, false] rfl rfl (take_ofW HT_.out HW_.out (by kernel_rfl)) (fun _ _ _ h => h) (Or.inl ⟨by rfl, ?_⟩) hHeld ?_ ?_
    rotate_left
    ·rintro w' ⟨s0, s1, s2, s3, s4, s5, s6, s7, s8, s9, s10, s11, s12, s13, s14, s15, s16⟩
     go_simp
     with_reducible rfl
    rotate_left
    ·simp only [Act.put, List.setIfInBounds_toArray, List.set_cons_zero, List.set_cons_succ, i64_w, i32_w]
     rfl
    refine pure_ (i := 11) (N := some 20) (v := ?_) (a' := ?_) #[true, true, true, true, true, true, true, true, true, true, true, true, false, false, false, false, false, false, false, false, false, false, false, false, false, false, false, false, false, false, false, false, false] rfl rfl (any_of HT_.out (by kernel_rfl)) (fun _ _ _ h => h) (Or.inl ⟨by rfl, ?_⟩) ?_ ?_
    rotate_left
    ·intro w'
     go_simp
     with_reducible rfl
    rotate_left
    ·simp only [Act.put, List.setIfInBounds_toArray, List.set_cons_zero, List.set_cons_succ, i64_w, i32_w]
     rfl
    refine pure_ (i := 12) (N := some 21) (v := ?_) (a' := ?_) #[true, true, true, true, true, true, true, true, true, true, true, true, true, false, false, false, false, false, false, false, false, false, false, false, false, false, false, false, false, false, false, false, false] rfl rfl (any_of HT_.out (by kernel_rfl)) (fun _ _ _ h => h) (Or.inl ⟨by rfl, ?_⟩) ?_ ?_
    rotate_left
    ·intro w'
     go_simp
     with_reducible rfl
    rotate_left
    ·simp only [Act.put, List.setIfInBounds_toArray, List.set_cons_zero, List.set_cons_succ, i64_w, i32_w]
     rfl
    refine pure_ (i := 13) (N := some 22) (v := ?_) (a' := ?_) #[true, true, true, true, true, true, true, true, true, true, true, true, true, true, false, false, false, false, false, false, false, false, false, false, false, false, false, false, false, false, false, false, false] rfl rfl (any_of HT_.out (by kernel_rfl)) (fun _ _ _ h => h) (Or.inl ⟨by rfl, ?_⟩) ?_ ?_
    rotate_left
    ·intro w'
     go_simp
     with_reducible rfl
    rotate_left
    ·simp only [Act.put, List.setIfInBounds_toArray, List.set_cons_zero, List.set_cons_succ, i64_w, i32_w]
     rfl
    refine pure_ (i := 14) (N := some 23) (v := ?_) (a' := ?_) #[true, true, true, true, true, true, true, true, true, true, true, true, true, true, true, false, false, false, false, false, false, false, false, false, false, false, false, false, false, false, false, false, false] rfl rfl (any_of HT_.out (by kernel_rfl)) (fun _ _ _ h => h) (Or.inl ⟨by rfl, ?_⟩) ?_ ?_
    rotate_left
    ·intro w'
     go_simp
     with_reducible rfl
    rotate_left
    ·simp only [Act.put, List.setIfInBounds_toArray, List.set_cons_zero, List.set_cons_succ, i64_w, i32_w]
     rfl
    refine pure_ (i := 15) (N := some 24) (v := ?_) (a' := ?_) #[true, true, true, true, true, true, true, true, true, true, true, true, true, true, true, true, false, false, false, false, false, false, false, false, false, false, false, false, false, false, false, false, false] rfl rfl (any_of HT_.out (by kernel_rfl)) (fun _ _ _ h => h) (Or.inl ⟨by rfl, ?_⟩) ?_ ?_
    rotate_left
    ·intro w'
     go_simp
     with_reducible rfl
    rotate_left
    ·simp only [Act.put, List.setIfInBounds_toArray, List.set_cons_zero, List.set_cons_succ, i64_w, i32_w]
     rfl
    refine take_ (i := 16) (N := some 25) (v := ?_) (a' := ?_) #[true, true, true, true, true, true, true, true, true, true, true, true, true, true, true, true, true, false, false, false, false, false, false, false, false, false, false, false, false, false, false, false, false] rfl rfl (take_ofW HT_.out HW_.out (by kernel_rfl)) (fun _ _ _ h => h) (Or.inl ⟨by rfl, ?_⟩) hHeld ?_ ?_
    rotate_left
    ·rintro w' ⟨s0, s1, s2, s3, s4, s5, s6, s7, s8, s9, s10, s11, s12, s13, s14, s15, s16⟩
     go_simp
     with_reducible rfl
    rotate_left
    ·simp only [Act.put, List.setIfInBounds_toArray, List.set_cons_zero, List.set_cons_succ, i64_w, i32_w]
     rfl
    refine pure_ (i := 17) (N := some 26) (v := ?_) (a' := ?_) #[true, true, true, true, true, true, true, true, true, true, true, true, true, true, true, true, true, true, false, false, false, false, false, false, false, false, false, false, false, false, false, false, false] rfl rfl (any_of HT_.out (by kernel_rfl)) (fun _ _ _ h => h) (Or.inl ⟨by rfl, ?_⟩) ?_ ?_
    rotate_left
    ·intro w'
     go_simp
     with_reducible rfl
    rotate_left
    ·simp only [Act.put, List.setIfInBounds_toArray, List.set_cons_zero, List.set_cons_succ, i64_w, i32_w]
     rfl
    refine pure_ (i := 18) (N := some 27) (v := ?_) (a' := ?_) #[true, true, true, true, true, true, true, true, true, true, true, true, true, true, true, true, true, true, true, false, false, false, false, false, false, false, false, false, false, false, false, false, false] rfl rfl (any_of HT_.out (by kernel_rfl)) (fun _ _ _ h => h) (Or.inl ⟨by rfl, ?_⟩) ?_ ?_
    rotate_left
    ·intro w'
     go_simp
     with_reducible rfl
    rotate_left
    ·simp only [Act.put, List.setIfInBounds_toArray, List.set_cons_zero, List.set_cons_succ, i64_w, i32_w]
     rfl
    refine pure_ (i := 19) (N := some 28) (v := ?_) (a' := ?_) #[true, true, true, true, true, true, true, true, true, true, true, true, true, true, true, true, true, true, true, true, false, false, false, false, false, false, false, false, false, false, false, false, false] rfl rfl (any_of HT_.out (by kernel_rfl)) (fun _ _ _ h => h) (Or.inl ⟨by rfl, ?_⟩) ?_ ?_
    rotate_left
    ·intro w'
     go_simp
     with_reducible rfl
    rotate_left
    ·simp only [Act.put, List.setIfInBounds_toArray, List.set_cons_zero, List.set_cons_succ, i64_w, i32_w]
     rfl
    refine pure_ (i := 20) (N := some 29) (v := ?_) (a' := ?_) #[true, true, true, true, true, true, true, true, true, true, true, true, true, true, true, true, true, true, true, true, true, false, false, false, false, false, false, false, false, false, false, false, false] rfl rfl (any_of HT_.out (by kernel_rfl)) (fun _ _ _ h => h) (Or.inl ⟨by rfl, ?_⟩) ?_ ?_
    rotate_left
    ·intro w'
     go_simp
     with_reducible rfl
    rotate_left
    ·simp only [Act.put, List.setIfInBounds_toArray, List.set_cons_zero, List.set_cons_succ, i64_w, i32_w]
     rfl
    refine pure_ (i := 21) (N := some 30) (v := ?_) (a' := ?_) #[true, true, true, true, true, true, true, true, true, true, true, true, true, true, true, true, true, true, true, true, true, true, false, false, false, false, false, false, false, false, false, false, false] rfl rfl (any_of HT_.out (by kernel_rfl)) (fun _ _ _ h => h) (Or.inl ⟨by rfl, ?_⟩) ?_ ?_
    rotate_left
    ·intro w'
     go_simp
     with_reducible rfl
    rotate_left
    ·simp only [Act.put, List.setIfInBounds_toArray, List.set_cons_zero, List.set_cons_succ, i64_w, i32_w]
     rfl
    refine pure_ (i := 22) (N := some 31) (v := ?_) (a' := ?_) #[true, true, true, true, true, true, true, true, true, true, true, true, true, true, true, true, true, true, true, true, true, true, true, false, false, false, false, false, false, false, false, false, false] rfl rfl (any_of HT_.out (by kernel_rfl)) (fun _ _ _ h => h) (Or.inl ⟨by rfl, ?_⟩) ?_ ?_
    rotate_left
    ·intro w'
     go_simp
     with_reducible rfl
    rotate_left
    ·simp only [Act.put, List.setIfInBounds_toArray, List.set_cons_zero, List.set_cons_succ, i64_w, i32_w]
     rfl
    refine pure_ (i := 25) (N := some 34) (v := ?_) (a' := ?_) #[true, true, true, true, true, true, true, true, true, true, true, true, true, true, true, true, true, true, true, true, true, true, true, false, false, true, false, false, false, false, false, false, false] rfl rfl (any_of HT_.out (by kernel_rfl)) (fun _ _ _ h => h) (Or.inl ⟨by rfl, ?_⟩) ?_ ?_
    rotate_left
    ·intro w'
     go_simp
     with_reducible rfl
    rotate_left
    ·simp only [Act.put, List.setIfInBounds_toArray, List.set_cons_zero, List.set_cons_succ, i64_w, i32_w]
     rfl
    refine pure_ (i := 26) (N := some 35) (v := ?_) (a' := ?_) #[true, true, true, true, true, true, true, true, true, true, true, true, true, true, true, true, true, true, true, true, true, true, true, false, false, true, true, false, false, false, false, false, false] rfl rfl (any_of HT_.out (by kernel_rfl)) (fun _ _ _ h => h) (Or.inl ⟨by rfl, ?_⟩) ?_ ?_
    rotate_left
    ·intro w'
     go_simp
     with_reducible rfl
    rotate_left
    ·simp only [Act.put, List.setIfInBounds_toArray, List.set_cons_zero, List.set_cons_succ, i64_w, i32_w]
     rfl
    refine pure_ (i := 27) (N := some 36) (v := ?_) (a' := ?_) #[true, true, true, true, true, true, true, true, true, true, true, true, true, true, true, true, true, true, true, true, true, true, true, false, false, true, true, true, false, false, false, false, false] rfl rfl (any_of HT_.out (by kernel_rfl)) (fun _ _ _ h => h) (Or.inl ⟨by rfl, ?_⟩) ?_ ?_
    rotate_left
    ·intro w'
     go_simp
     with_reducible rfl
    rotate_left
    ·simp only [Act.put, List.setIfInBounds_toArray, List.set_cons_zero, List.set_cons_succ, i64_w, i32_w]
     rfl
    refine pure_ (i := 28) (N := some 37) (v := ?_) (a' := ?_) #[true, true, true, true, true, true, true, true, true, true, true, true, true, true, true, true, true, true, true, true, true, true, true, false, false, true, true, true, true, false, false, false, false] rfl rfl (any_of HT_.out (by kernel_rfl)) (fun _ _ _ h => h) (Or.inl ⟨by rfl, ?_⟩) ?_ ?_
    rotate_left
    ·intro w'
     go_simp
     with_reducible rfl
    rotate_left
    ·simp only [Act.put, List.setIfInBounds_toArray, List.set_cons_zero, List.set_cons_succ, i64_w, i32_w]
     rfl
    refine take_ (i := 23) (N := some 32) (v := ?_) (a' := ?_) #[true, true, true, true, true, true, true, true, true, true, true, true, true, true, true, true, true, true, true, true, true, true, true, true, false, true, true, true, true, false, false, false, false] rfl rfl (take_ofW HT_.out HW_.out (by kernel_rfl)) (fun _ _ _ h => h) (Or.inl ⟨by rfl, ?_⟩) hHeld ?_ ?_
    rotate_left
    ·rintro w' ⟨s0, s1, s2, s3, s4, s5, s6, s7, s8, s9, s10, s11, s12, s13, s14, s15, s16⟩
     go_simp
     with_reducible rfl
    rotate_left
    ·simp only [Act.put, List.setIfInBounds_toArray, List.set_cons_zero, List.set_cons_succ, i64_w, i32_w]
     rfl
    refine pure_ (i := 24) (N := some 33) (v := ?_) (a' := ?_) #[true, true, true, true, true, true, true, true, true, true, true, true, true, true, true, true, true, true, true, true, true, true, true, true, true, true, true, true, true, false, false, false, false] rfl rfl (any_of HT_.out (by kernel_rfl)) (fun _ _ _ h => h) (Or.inl ⟨by rfl, ?_⟩) ?_ ?_
    rotate_left
    ·intro w'
     go_simp
     with_reducible rfl
    rotate_left
    ·simp only [Act.put, List.setIfInBounds_toArray, List.set_cons_zero, List.set_cons_succ, i64_w, i32_w]
     rfl
    refine take_ (i := 29) (N := some 38) (v := ?_) (a' := ?_) #[true, true, true, true, true, true, true, true, true, true, true, true, true, true, true, true, true, true, true, true, true, true, true, true, true, true, true, true, true, true, false, false, false] rfl rfl (take_ofW HT_.out HW_.out (by kernel_rfl)) (fun _ _ _ h => h) (Or.inl ⟨by rfl, ?_⟩) hHeld ?_ ?_
    rotate_left
    ·rintro w' ⟨s0, s1, s2, s3, s4, s5, s6, s7, s8, s9, s10, s11, s12, s13, s14, s15, s16⟩
     go_simp
     with_reducible rfl
    rotate_left
    ·simp only [Act.put, List.setIfInBounds_toArray, List.set_cons_zero, List.set_cons_succ, i64_w, i32_w]
     rfl
    refine pure_ (i := 30) (N := some 39) (v := ?_) (a' := ?_) #[true, true, true, true, true, true, true, true, true, true, true, true, true, true, true, true, true, true, true, true, true, true, true, true, true, true, true, true, true, true, true, false, false] rfl rfl (any_of HT_.out (by kernel_rfl)) (fun _ _ _ h => h) (Or.inl ⟨by rfl, ?_⟩) ?_ ?_
    rotate_left
    ·intro w'
     go_simp
     with_reducible rfl
    rotate_left
    ·simp only [Act.put, List.setIfInBounds_toArray, List.set_cons_zero, List.set_cons_succ, i64_w, i32_w]
     rfl
    refine pure_ (i := 31) (N := some 40) (v := ?_) (a' := ?_) #[true, true, true, true, true, true, true, true, true, true, true, true, true, true, true, true, true, true, true, true, true, true, true, true, true, true, true, true, true, true, true, true, false] rfl rfl (any_of HT_.out (by kernel_rfl)) (fun _ _ _ h => h) (Or.inl ⟨by rfl, ?_⟩) ?_ ?_
    rotate_left
    ·intro w'
     go_simp
     with_reducible rfl
    rotate_left
    ·simp only [Act.put, List.setIfInBounds_toArray, List.set_cons_zero, List.set_cons_succ, i64_w, i32_w]
     rfl
    refine pure_ (i := 32) (N := some 41) (v := ?_) (a' := ?_) #[true, true, true, true, true, true, true, true, true, true, true, true, true, true, true, true, true, true, true, true, true, true, true, true, true, true, true, true, true, true, true, true, true] rfl rfl (any_of HT_.out (by kernel_rfl)) (fun _ _ _ h => h) (Or.inl ⟨by rfl, ?_⟩) ?_ ?_
    rotate_left
    ·intro w'
     go_simp
     with_reducible rfl
    rotate_left
    ·simp only [Act.put, List.setIfInBounds_toArray, List.set_cons_zero, List.set_cons_succ, i64_w, i32_w]
     rfl
    refine done_ (done_of HT_.out (by kernel_rfl)) ?_
    try go_wp2
    have n0_ := Aside0.mk (IsS48.drew HI0.out)
    have n1_ := Aside0.mk (keep_drew HK.out)
    have n2_ := Aside0.mk (below_drew1 HB.out)
    clear HI0
    clear HK
    clear HB
    have HI0 := n0_
    have HK := n1_
    have HB := n2_
    clear n0_ n1_ n2_
    refine start_ (n := 15) (S := fun w' => w'.cell? ⟨g, 0, none⟩ = some (.int .i64 s0_0) ∧ w'.cell? ⟨g, 1, none⟩ = some (.int .i64 s0_1) ∧ w'.cell? ⟨g, 2, none⟩ = some (.int .i64 s0_2) ∧ w'.cell? ⟨g, 3, none⟩ = some (.int .i64 s0_3) ∧ w'.cell? ⟨g, 4, none⟩ = some (.int .i64 s0_4) ∧ w'.cell? ⟨g, 5, none⟩ = some (.int .i64 s0_5) ∧ w'.cell? ⟨g, 6, none⟩ = some (.int .i64 s0_6) ∧ w'.cell? ⟨g, 7, none⟩ = some (.int .i64 s0_7) ∧ w'.cell? ⟨g, 8, none⟩ = some (.int .i64 s0_8) ∧ w'.cell? ⟨g, 9, none⟩ = some (.int .i64 s0_9) ∧ w'.cell? ⟨g, 10, none⟩ = some (.int .i64 s0_10) ∧ w'.cell? ⟨g, 12, none⟩ = some (.int .i64 s0_12) ∧ w'.cell? ⟨g, 13, none⟩ = some (.int .i64 s0_13) ∧ w'.cell? ⟨g, 14, none⟩ = some (.int .i64 s0_14) ∧ w'.cell? ⟨g, 15, none⟩ = some (.int .i64 s0_15) ∧ w'.cell? ⟨g, 16, none⟩ = some (.bool true) ∧ w'.cell? ⟨g, 17, none⟩ = some (.bool s0_17)) (ds := [14]) #[false, false, false, false, false, false, false, false, false, false, false, false, false, false, false] (by kernel_rfl) rfl rfl ⟨(IsS48.cell_0 HI0.out), (IsS48.cell_1 HI0.out), (IsS48.cell_2 HI0.out), (IsS48.cell_3 HI0.out), (IsS48.cell_4 HI0.out), (IsS48.cell_5 HI0.out), (IsS48.cell_6 HI0.out), (IsS48.cell_7 HI0.out), (IsS48.cell_8 HI0.out), (IsS48.cell_9 HI0.out), (IsS48.cell_10 HI0.out), (IsS48.cell_12 HI0.out), (IsS48.cell_13 HI0.out), (IsS48.cell_14 HI0.out), (IsS48.cell_15 HI0.out), (IsS48.cell_16 HI0.out), (IsS48.cell_17 HI0.out)⟩ (fun hHeld => ?_); refine with_tabW guard_Guard_Tick.tab5 guard_Guard_Tick.bits5 (fun HT_ HW_ => ?_)
    generalize w10.drew = w11 at HI0 HK HB hHeld ⊢
    refine pure_ (i := 0) (N := some 42) (v := ?_) (a' := ?_) #[true, false, false, false, false, false, false, false, false, false, false, false, false, false, false] rfl rfl (any_of HT_.out (by kernel_rfl)) (fun _ _ _ h => h) (Or.inl ⟨by rfl, ?_⟩) ?_ ?_
    rotate_left
    ·intro w'
     go_simp
     with_reducible rfl
    rotate_left
    ·simp only [Act.put, List.setIfInBounds_toArray, List.set_cons_zero, List.set_cons_succ, i64_w, i32_w]
     rfl
    refine pure_ (i := 1) (N := some 43) (v := ?_) (a' := ?_) #[true, true, false, false, false, false, false, false, false, false, false, false, false, false, false] rfl rfl (any_of HT_.out (by kernel_rfl)) (fun _ _ _ h => h) (Or.inl ⟨by rfl, ?_⟩) ?_ ?_
    rotate_left
    ·intro w'
     go_simp
     with_reducible rfl
    rotate_left
    ·simp only [Act.put, List.setIfInBounds_toArray, List.set_cons_zero, List.set_cons_succ, i64_w, i32_w]
     rfl
    refine pure_ (i := 2) (N := some 44) (v := ?_) (a' := ?_) #[true, true, true, false, false, false, false, false, false, false, false, false, false, false, false] rfl rfl (any_of HT_.out (by kernel_rfl)) (fun _ _ _ h => h) (Or.inl ⟨by rfl, ?_⟩) ?_ ?_
    rotate_left
    ·intro w'
     go_simp
     with_reducible rfl
    rotate_left
    ·simp only [Act.put, List.setIfInBounds_toArray, List.set_cons_zero, List.set_cons_succ, i64_w, i32_w]
     rfl
    refine pure_ (i := 3) (N := some 45) (v := ?_) (a' := ?_) #[true, true, true, true, false, false, false, false, false, false, false, false, false, false, false] rfl rfl (any_of HT_.out (by kernel_rfl)) (fun _ _ _ h => h) (Or.inl ⟨by rfl, ?_⟩) ?_ ?_
    rotate_left
    ·intro w'
     go_simp
     with_reducible rfl
    rotate_left
    ·simp only [Act.put, List.setIfInBounds_toArray, List.set_cons_zero, List.set_cons_succ, i64_w, i32_w]
     rfl
    refine pure_ (i := 6) (N := some 48) (v := ?_) (a' := ?_) #[true, true, true, true, false, false, true, false, false, false, false, false, false, false, false] rfl rfl (any_of HT_.out (by kernel_rfl)) (fun _ _ _ h => h) (Or.inl ⟨by rfl, ?_⟩) ?_ ?_
    rotate_left
    ·intro w'
     go_simp
     with_reducible rfl
    rotate_left
    ·simp only [Act.put, List.setIfInBounds_toArray, List.set_cons_zero, List.set_cons_succ, i64_w, i32_w]
     rfl
    refine pure_ (i := 7) (N := some 49) (v := ?_) (a' := ?_) #[true, true, true, true, false, false, true, true, false, false, false, false, false, false, false] rfl rfl (any_of HT_.out (by kernel_rfl)) (fun _ _ _ h => h) (Or.inl ⟨by rfl, ?_⟩) ?_ ?_
    rotate_left
    ·intro w'
     go_simp
     with_reducible rfl
    rotate_left
    ·simp only [Act.put, List.setIfInBounds_toArray, List.set_cons_zero, List.set_cons_succ, i64_w, i32_w]
     rfl
    refine pure_ (i := 8) (N := some 50) (v := ?_) (a' := ?_) #[true, true, true, true, false, false, true, true, true, false, false, false, false, false, false] rfl rfl (any_of HT_.out (by kernel_rfl)) (fun _ _ _ h => h) (Or.inl ⟨by rfl, ?_⟩) ?_ ?_
    rotate_left
    ·intro w'
     go_simp
     with_reducible rfl
    rotate_left
    ·simp only [Act.put, List.setIfInBounds_toArray, List.set_cons_zero, List.set_cons_succ, i64_w, i32_w]
     rfl
    refine pure_ (i := 9) (N := some 51) (v := ?_) (a' := ?_) #[true, true, true, true, false, false, true, true, true, true, false, false, false, false, false] rfl rfl (any_of HT_.out (by kernel_rfl)) (fun _ _ _ h => h) (Or.inl ⟨by rfl, ?_⟩) ?_ ?_
    rotate_left
    ·intro w'
     go_simp
     with_reducible rfl
    rotate_left
    ·simp only [Act.put, List.setIfInBounds_toArray, List.set_cons_zero, List.set_cons_succ, i64_w, i32_w]
     rfl
    refine take_ (i := 4) (N := some 46) (v := ?_) (a' := ?_) #[true, true, true, true, true, false, true, true, true, true, false, false, false, false, false] rfl rfl (take_ofW HT_.out HW_.out (by kernel_rfl)) (fun _ _ _ h => h) (Or.inl ⟨by rfl, ?_⟩) hHeld ?_ ?_
    rotate_left
    ·rintro w' ⟨s0, s1, s2, s3, s4, s5, s6, s7, s8, s9, s10, s11, s12, s13, s14, s15, s16⟩
     go_simp
     with_reducible rfl
    rotate_left
    ·simp only [Act.put, List.setIfInBounds_toArray, List.set_cons_zero, List.set_cons_succ, i64_w, i32_w]
     rfl
    refine take_ (i := 10) (N := some 52) (v := ?_) (a' := ?_) #[true, true, true, true, true, false, true, true, true, true, true, false, false, false, false] rfl rfl (take_ofW HT_.out HW_.out (by kernel_rfl)) (fun _ _ _ h => h) (Or.inl ⟨by rfl, ?_⟩) hHeld ?_ ?_
    rotate_left
    ·rintro w' ⟨s0, s1, s2, s3, s4, s5, s6, s7, s8, s9, s10, s11, s12, s13, s14, s15, s16⟩
     go_simp
     with_reducible rfl
    rotate_left
    ·simp only [Act.put, List.setIfInBounds_toArray, List.set_cons_zero, List.set_cons_succ, i64_w, i32_w]
     rfl
    refine one_ (i := 5) (N := some 47) #[true, true, true, true, true, true, true, true, true, true, true, false, false, false, false] rfl rfl (one_of HT_.out (by kernel_rfl)) (by decide) (fun K hK => ?_)
    refine goes_ Try.func21 (by kernel_rfl) rfl #[.int .i64 s0_13, .int .i64 1, .int .i64 2, .int .i64 1] (by rfl) rfl rfl (by (try simp only [List.map_toArray, List.map_cons, List.map_nil]); first | done | rfl | (simp only [List.length_drop, List.length_take]; rfl)) ?_
    with_reducible refine (muldiv_Do.calls s0_13 1 2 1 t122 _ A7.out).mono ?_
    rintro e w12 ⟨rfl, hb⟩
    refine ⟨_, rfl, ?_⟩
    have n0_ := Aside0.mk (IsS48.below (by repeat (first | (with_reducible first | exact HI0.out | apply IsS48.alloc | apply IsS48.drewN | apply IsS48.drew | apply IsS48.set_0 | apply IsS48.set_1 | apply IsS48.set_2 | apply IsS48.set_3 | apply IsS48.set_4 | apply IsS48.set_5 | apply IsS48.set_6 | apply IsS48.set_7 | apply IsS48.set_8 | apply IsS48.set_9 | apply IsS48.set_10 | apply IsS48.set_12 | apply IsS48.set_13 | apply IsS48.set_14 | apply IsS48.set_15 | apply IsS48.set_16 | apply IsS48.set_17) | exact HI0.out)) hb)
    have n1_ := Aside0.mk (KeepBut.trans (by repeat (first | (with_reducible first | exact HK.out | apply KeepBut.set_ | apply keep_drewN | apply keep_drew | apply keep_alloc) | exact HK.out)) (KeepBut.of_below hb g none) (.inl rfl))
    have n2_ := Aside0.mk (below_step (by repeat (first | (with_reducible first | exact HB.out | apply below_alloc | apply pw_below_drewN | apply below_drew1 | refine below_set ?_ (IsS48.ge HI0.out)) | exact HB.out)) hb)
    clear HI0
    clear HK
    clear HB
    have HI0 := n0_
    have HK := n1_
    have HB := n2_
    clear n0_ n1_ n2_
    (try clear hb)
    (try clear hb2)
    (try clear hk)
    (try clear hi)
    refine hK.out _ _ ⟨(IsS48.cell_0 HI0.out), (IsS48.cell_1 HI0.out), (IsS48.cell_2 HI0.out), (IsS48.cell_3 HI0.out), (IsS48.cell_4 HI0.out), (IsS48.cell_5 HI0.out), (IsS48.cell_6 HI0.out), (IsS48.cell_7 HI0.out), (IsS48.cell_8 HI0.out), (IsS48.cell_9 HI0.out), (IsS48.cell_10 HI0.out), (IsS48.cell_12 HI0.out), (IsS48.cell_13 HI0.out), (IsS48.cell_14 HI0.out), (IsS48.cell_15 HI0.out), (IsS48.cell_16 HI0.out), (IsS48.cell_17 HI0.out)⟩ (fun hHeld => ?_)
    clear hK K
    refine norm_ (a' := ?_) ?_ ?_
    rotate_left
    ·show Act.put _ (some 47) _ = _
     simp only [Act.put, List.setIfInBounds_toArray, List.set_cons_zero, List.set_cons_succ, i64_w, i32_w]
     rfl
    refine pure_ (i := 11) (N := some 53) (v := ?_) (a' := ?_) #[true, true, true, true, true, true, true, true, true, true, true, true, false, false, false] rfl rfl (any_of HT_.out (by kernel_rfl)) (fun _ _ _ h => h) (Or.inl ⟨by rfl, ?_⟩) ?_ ?_
    rotate_left
    ·intro w'
     go_simp
     with_reducible rfl
    rotate_left
    ·simp only [Act.put, List.setIfInBounds_toArray, List.set_cons_zero, List.set_cons_succ, i64_w, i32_w]
     rfl
    refine pure_ (i := 12) (N := some 54) (v := ?_) (a' := ?_) #[true, true, true, true, true, true, true, true, true, true, true, true, true, false, false] rfl rfl (any_of HT_.out (by kernel_rfl)) (fun _ _ _ h => h) (Or.inl ⟨by rfl, ?_⟩) ?_ ?_
    rotate_left
    ·intro w'
     go_simp
     with_reducible rfl
    rotate_left
    ·simp only [Act.put, List.setIfInBounds_toArray, List.set_cons_zero, List.set_cons_succ, i64_w, i32_w]
     rfl
    refine pure_ (i := 13) (N := some 55) (v := ?_) (a' := ?_) #[true, true, true, true, true, true, true, true, true, true, true, true, true, true, false] rfl rfl (any_of HT_.out (by kernel_rfl)) (fun _ _ _ h => h) (Or.inl ⟨by rfl, ?_⟩) ?_ ?_
    rotate_left
    ·intro w'
     go_simp
     with_reducible rfl
    rotate_left
    ·simp only [Act.put, List.setIfInBounds_toArray, List.set_cons_zero, List.set_cons_succ, i64_w, i32_w]
     rfl
    refine last_ (i := 14) (N := none) #[true, true, true, true, true, true, true, true, true, true, true, true, true, true, true] rfl rfl (one_of HT_.out (by kernel_rfl)) (by decide) (fun K hK => ?_)
    have hs13 : w12.cell? ⟨g, 13, none⟩ = some (.int .i64 s0_13) := IsS48.cell_13 HI0.out
    have hfs13 := IsS48.froz_13 HI0.out
    refine skip_ (w1 := ?_) (by rfl) rfl ?_ ?_
    rotate_left
    ·go_simp
     rfl
    refine hK.out _ _ ?_
    clear hK K
    refine done_ (done_of HT_.out (by kernel_rfl)) ?_
    obtain ⟨ASz14_11, cSz14_11, HGz14, hgz14, HSz14_11⟩ := HI0.out
    have hcz14_0 := cellS48_0 HGz14
    have hcz14_1 := cellS48_1 HGz14
    have hcz14_2 := cellS48_2 HGz14
    have hcz14_3 := cellS48_3 HGz14
    have hcz14_4 := cellS48_4 HGz14
    have hcz14_5 := cellS48_5 HGz14
    have hcz14_6 := cellS48_6 HGz14
    have hcz14_7 := cellS48_7 HGz14
    have hcz14_8 := cellS48_8 HGz14
    have hcz14_9 := cellS48_9 HGz14
    have hcz14_10 := cellS48_10 HGz14
    have hcz14_11 := cellS48_11 HGz14
    have hcz14_12 := cellS48_12 HGz14
    have hcz14_13 := cellS48_13 HGz14
    have hcz14_14 := cellS48_14 HGz14
    have hcz14_15 := cellS48_15 HGz14
    have hcz14_16 := cellS48_16 HGz14
    have hcz14_17 := cellS48_17 HGz14
    have hfz14_0 := blk_frozen HGz14 0
    have hfz14_1 := blk_frozen HGz14 1
    have hfz14_2 := blk_frozen HGz14 2
    have hfz14_3 := blk_frozen HGz14 3
    have hfz14_4 := blk_frozen HGz14 4
    have hfz14_5 := blk_frozen HGz14 5
    have hfz14_6 := blk_frozen HGz14 6
    have hfz14_7 := blk_frozen HGz14 7
    have hfz14_8 := blk_frozen HGz14 8
    have hfz14_9 := blk_frozen HGz14 9
    have hfz14_10 := blk_frozen HGz14 10
    have hfz14_12 := blk_frozen HGz14 12
    have hfz14_13 := blk_frozen HGz14 13
    have hfz14_14 := blk_frozen HGz14 14
    have hfz14_15 := blk_frozen HGz14 15
    have hfz14_16 := blk_frozen HGz14 16
    have hfz14_17 := blk_frozen HGz14 17
    clear HGz14 hgz14
    try go_wp2
    go_ret
    exact ⟨by first | rfl | (simp [errW_none, errW_some] <;> rfl) | (simp only [← hji8]; first | rfl | (simp [errW_none, errW_some] <;> rfl)) | (simp [*, errW_none, errW_some] <;> rfl), by repeat (first | (with_reducible first | exact HI0.out | apply IsS48.alloc | apply IsS48.drewN | apply IsS48.drew | apply IsS48.set_0 | apply IsS48.set_1 | apply IsS48.set_2 | apply IsS48.set_3 | apply IsS48.set_4 | apply IsS48.set_5 | apply IsS48.set_6 | apply IsS48.set_7 | apply IsS48.set_8 | apply IsS48.set_9 | apply IsS48.set_10 | apply IsS48.set_12 | apply IsS48.set_13 | apply IsS48.set_14 | apply IsS48.set_15 | apply IsS48.set_16 | apply IsS48.set_17) | exact HI0.out), by repeat (first | (with_reducible first | exact HB.out | apply below_alloc | apply pw_below_drewN | apply below_drew1 | refine below_set ?_ (IsS48.ge HI0.out)) | exact HB.out), by repeat (first | (with_reducible first | exact HK.out | apply KeepBut.set_ | apply keep_drewN | apply keep_drew | apply keep_alloc) | exact HK.out)⟩
   ·rw [if_neg c6] at H
    have c6b0 : decide (s0_7 < (wrap64 (t121 - s0_15))) = false := decide_eq_false c6
    clear c6
    simp only [Option.some.injEq, Prod.mk.injEq] at H
    obtain ⟨rfl, rfl, rfl, rfl, rfl, rfl, rfl, rfl, rfl, rfl, rfl, rfl, rfl, rfl, rfl, rfl, rfl, rfl⟩ := H
    go_enter Try.func17, Try.ntmps17
    try go_wp2_with (first | ((with_reducible refine gate_callee (f := 19) rfl ?_); refine goesL_ (some 8) rfl rfl Try.func19 (by kernel_rfl) rfl #[.int .i64 a1, .int .i64 0, .int .i64 1125899906842624] rfl (by (try simp only [List.map_toArray, List.map_cons, List.map_nil]); first | done | rfl | (simp only [List.length_drop, List.length_take]; rfl)) ?_; (with_reducible refine (sat_Clamp.calls a1 0 1125899906842624 t121 _ A3.out).mono ?_); rintro e w' ⟨rfl, ⟨nd, rfl⟩⟩; refine ⟨_, rfl, ?_⟩))
    (generalize hq_ : World.drewN w _ = w15; have n0_ : Aside0 (IsS48 w0 w15 g s0_0 s0_1 s0_2 s0_3 s0_4 s0_5 s0_6 s0_7 s0_8 s0_9 s0_10 s0_11 s0_12 s0_13 s0_14 s0_15 true s0_17) := ⟨by rw [← hq_]; exact (by repeat (first | (with_reducible first | exact HI0.out | apply IsS48.alloc | apply IsS48.drewN | apply IsS48.drew | apply IsS48.set_0 | apply IsS48.set_1 | apply IsS48.set_2 | apply IsS48.set_3 | apply IsS48.set_4 | apply IsS48.set_5 | apply IsS48.set_6 | apply IsS48.set_7 | apply IsS48.set_8 | apply IsS48.set_9 | apply IsS48.set_10 | apply IsS48.set_12 | apply IsS48.set_13 | apply IsS48.set_14 | apply IsS48.set_15 | apply IsS48.set_16 | apply IsS48.set_17) | exact HI0.out))⟩; have n1_ : Aside0 (KeepBut w w15 g none) := ⟨by rw [← hq_]; exact (by repeat (first | (with_reducible first | exact HK.out | apply KeepBut.set_ | apply keep_drewN | apply keep_drew | apply keep_alloc) | exact HK.out))⟩; have n2_ : Aside0 (Below w0.heap.size w0 w15) := ⟨by rw [← hq_]; exact (by repeat (first | (with_reducible first | exact HB.out | apply below_alloc | apply pw_below_drewN | apply below_drew1 | refine below_set ?_ (IsS48.ge HI0.out)) | exact HB.out))⟩; clear HI0 HK HB hq_; have HI0 := n0_; have HK := n1_; have HB := n2_; clear n0_ n1_ n2_)
    have n0_ := Aside0.mk (IsS48.drew HI0.out)
    have n1_ := Aside0.mk (keep_drew HK.out)
    have n2_ := Aside0.mk (below_drew1 HB.out)
    clear HI0
    clear HK
    clear HB
    have HI0 := n0_
    have HK := n1_
    have HB := n2_
    clear n0_ n1_ n2_
    refine start_ (n := 33) (S := fun w' => w'.cell? ⟨g, 0, none⟩ = some (.int .i64 s0_0) ∧ w'.cell? ⟨g, 1, none⟩ = some (.int .i64 s0_1) ∧ w'.cell? ⟨g, 2, none⟩ = some (.int .i64 s0_2) ∧ w'.cell? ⟨g, 3, none⟩ = some (.int .i64 s0_3) ∧ w'.cell? ⟨g, 4, none⟩ = some (.int .i64 s0_4) ∧ w'.cell? ⟨g, 5, none⟩ = some (.int .i64 s0_5) ∧ w'.cell? ⟨g, 6, none⟩ = some (.int .i64 s0_6) ∧ w'.cell? ⟨g, 7, none⟩ = some (.int .i64 s0_7) ∧ w'.cell? ⟨g, 8, none⟩ = some (.int .i64 s0_8) ∧ w'.cell? ⟨g, 9, none⟩ = some (.int .i64 s0_9) ∧ w'.cell? ⟨g, 10, none⟩ = some (.int .i64 s0_10) ∧ w'.cell? ⟨g, 12, none⟩ = some (.int .i64 s0_12) ∧ w'.cell? ⟨g, 13, none⟩ = some (.int .i64 s0_13) ∧ w'.cell? ⟨g, 14, none⟩ = some (.int .i64 s0_14) ∧ w'.cell? ⟨g, 15, none⟩ = some (.int .i64 s0_15) ∧ w'.cell? ⟨g, 16, none⟩ = some (.bool true) ∧ w'.cell? ⟨g, 17, none⟩ = some (.bool s0_17)) (ds := []) #[false, false, false, false, false, false, false, false, false, false, false, false, false, false, false, false, false, false, false, false, false, false, false, false, false, false, false, false, false, false, false, false, false] (by kernel_rfl) rfl rfl ⟨(IsS48.cell_0 HI0.out), (IsS48.cell_1 HI0.out), (IsS48.cell_2 HI0.out), (IsS48.cell_3 HI0.out), (IsS48.cell_4 HI0.out), (IsS48.cell_5 HI0.out), (IsS48.cell_6 HI0.out), (IsS48.cell_7 HI0.out), (IsS48.cell_8 HI0.out), (IsS48.cell_9 HI0.out), (IsS48.cell_10 HI0.out), (IsS48.cell_12 HI0.out), (IsS48.cell_13 HI0.out), (IsS48.cell_14 HI0.out), (IsS48.cell_15 HI0.out), (IsS48.cell_16 HI0.out), (IsS48.cell_17 HI0.out)⟩ (fun hHeld => ?_); refine with_tabW guard_Guard_Tick.tab4 guard_Guard_Tick.bits4 (fun HT_ HW_ => ?_)
    generalize w15.drew = w16 at HI0 HK HB hHeld ⊢
    refine pure_ (i := 0) (N := some 9) (v := ?_) (a' := ?_) #[true, false, false, false, false, false, false, false, false, false, false, false, false, false, false, false, false, false, false, false, false, false, false, false, false, false, false, false, false, false, false, false, false] rfl rfl (any_of HT_.out (by kernel_rfl)) (fun _ _ _ h => h) (Or.inl ⟨by rfl, ?_⟩) ?_ ?_
    rotate_left
    ·intro w'
     go_simp
     with_reducible rfl
    rotate_left
    ·simp only [Act.put, List.setIfInBounds_toArray, List.set_cons_zero, List.set_cons_succ, i64_w, i32_w]
     rfl
    refine pure_ (i := 1) (N := some 10) (v := ?_) (a' := ?_) #[true, true, false, false, false, false, false, false, false, false, false, false, false, false, false, false, false, false, false, false, false, false, false, false, false, false, false, false, false, false, false, false, false] rfl rfl (any_of HT_.out (by kernel_rfl)) (fun _ _ _ h => h) (Or.inl ⟨by rfl, ?_⟩) ?_ ?_
    rotate_left
    ·intro w'
     go_simp
     with_reducible rfl
    rotate_left
    ·simp only [Act.put, List.setIfInBounds_toArray, List.set_cons_zero, List.set_cons_succ, i64_w, i32_w]
     rfl
    refine pure_ (i := 2) (N := some 11) (v := ?_) (a' := ?_) #[true, true, true, false, false, false, false, false, false, false, false, false, false, false, false, false, false, false, false, false, false, false, false, false, false, false, false, false, false, false, false, false, false] rfl rfl (any_of HT_.out (by kernel_rfl)) (fun _ _ _ h => h) (Or.inl ⟨by rfl, ?_⟩) ?_ ?_
    rotate_left
    ·intro w'
     go_simp
     with_reducible rfl
    rotate_left
    ·simp only [Act.put, List.setIfInBounds_toArray, List.set_cons_zero, List.set_cons_succ, i64_w, i32_w]
     rfl
    refine pure_ (i := 3) (N := some 12) (v := ?_) (a' := ?_) #[true, true, true, true, false, false, false, false, false, false, false, false, false, false, false, false, false, false, false, false, false, false, false, false, false, false, false, false, false, false, false, false, false] rfl rfl (any_of HT_.out (by kernel_rfl)) (fun _ _ _ h => h) (Or.inl ⟨by rfl, ?_⟩) ?_ ?_
    rotate_left
    ·intro w'
     go_simp
     with_reducible rfl
    rotate_left
    ·simp only [Act.put, List.setIfInBounds_toArray, List.set_cons_zero, List.set_cons_succ, i64_w, i32_w]
     rfl
    refine pure_ (i := 6) (N := some 15) (v := ?_) (a' := ?_) #[true, true, true, true, false, false, true, false, false, false, false, false, false, false, false, false, false, false, false, false, false, false, false, false, false, false, false, false, false, false, false, false, false] rfl rfl (any_of HT_.out (by kernel_rfl)) (fun _ _ _ h => h) (Or.inl ⟨by rfl, ?_⟩) ?_ ?_
    rotate_left
    ·intro w'
     go_simp
     with_reducible rfl
    rotate_left
    ·simp only [Act.put, List.setIfInBounds_toArray, List.set_cons_zero, List.set_cons_succ, i64_w, i32_w]
     rfl
    refine pure_ (i := 7) (N := some 16) (v := ?_) (a' := ?_) #[true, true, true, true, false, false, true, true, false, false, false, false, false, false, false, false, false, false, false, false, false, false, false, false, false, false, false, false, false, false, false, false, false] rfl rfl (any_of HT_.out (by kernel_rfl)) (fun _ _ _ h => h) (Or.inl ⟨by rfl, ?_⟩) ?_ ?_
    rotate_left
    ·intro w'
     go_simp
     with_reducible rfl
    rotate_left
    ·simp only [Act.put, List.setIfInBounds_toArray, List.set_cons_zero, List.set_cons_succ, i64_w, i32_w]
     rfl
    refine pure_ (i := 8) (N := some 17) (v := ?_) (a' := ?_) #[true, true, true, true, false, false, true, true, true, false, false, false, false, false, false, false, false, false, false, false, false, false, false, false, false, false, false, false, false, false, false, false, false] rfl rfl (any_of HT_.out (by kernel_rfl)) (fun _ _ _ h => h) (Or.inl ⟨by rfl, ?_⟩) ?_ ?_
    rotate_left
    ·intro w'
     go_simp
     with_reducible rfl
    rotate_left
    ·simp only [Act.put, List.setIfInBounds_toArray, List.set_cons_zero, List.set_cons_succ, i64_w, i32_w]
     rfl
    refine pure_ (i := 9) (N := some 18) (v := ?_) (a' := ?_) #[true, true, true, true, false, false, true, true, true, true, false, false, false, false, false, false, false, false, false, false, false, false, false, false, false, false, false, false, false, false, false, false, false] rfl rfl (any_of HT_.out (by kernel_rfl)) (fun _ _ _ h => h) (Or.inl ⟨by rfl, ?_⟩) ?_ ?_
    rotate_left
    ·intro w'
     go_simp
     with_reducible rfl
    rotate_left
    ·simp only [Act.put, List.setIfInBounds_toArray, List.set_cons_zero, List.set_cons_succ, i64_w, i32_w]
     rfl
    refine take_ (i := 4) (N := some 13) (v := ?_) (a' := ?_) #[true, true, true, true, true, false, true, true, true, true, false, false, false, false, false, false, false, false, false, false, false, false, false, false, false, false, false, false, false, false, false, false, false] rfl rfl (take_ofW HT_.out HW_.out (by kernel_rfl)) (fun _ _ _ h => h) (Or.inl ⟨by rfl, ?_⟩) hHeld ?_ ?_
    rotate_left
    ·rintro w' ⟨s0, s1, s2, s3, s4, s5, s6, s7, s8, s9, s10, s11, s12, s13, s14, s15, s16⟩
     go_simp
     with_reducible rfl
    rotate_left
    ·simp only [Act.put, List.setIfInBounds_toArray, List.set_cons_zero, List.set_cons_succ, i64_w, i32_w]
     rfl
    refine pure_ (i := 5) (N := some 14) (v := ?_) (a' := ?_) #[true, true, true, true, true, true, true, true, true, true, false, false, false, false, false, false, false, false, false, false, false, false, false, false, false, false, false, false, false, false, false, false, false] rfl rfl (any_of HT_.out (by kernel_rfl)) (fun _ _ _ h => h) (Or.inl ⟨by rfl, ?_⟩) ?_ ?_
    rotate_left
    ·intro w'
     go_simp
     with_reducible rfl
    rotate_left
    ·simp only [Act.put, List.setIfInBounds_toArray, List.set_cons_zero, List.set_cons_succ, i64_w, i32_w]
     rfl
    refine take_ (i := 10) (N := some 19) (v := ?_) (a' := ?_) #[true, true, true, true, true, true, true, true, true, true, true, false, false, false, false, false, false, false, false, false, false, false, false, false, false, false, false, false, false, false, false, false, false] rfl rfl (take_ofW HT_.out HW_.out (by kernel_rfl)) (fun _ _ _ h => h) (Or.inl ⟨by rfl, ?_⟩) hHeld ?_ ?_
    rotate_left
    ·rintro w' ⟨s0, s1, s2, s3, s4, s5, s6, s7, s8, s9, s10, s11, s12, s13, s14, s15, s16⟩
     go_simp
     with_reducible rfl
    rotate_left
    ·simp only [Act.put, List.setIfInBounds_toArray, List.set_cons_zero, List.set_cons_succ, i64_w, i32_w]
     rfl
    refine pure_ (i := 11) (N := some 20) (v := ?_) (a' := ?_) #[true, true, true, true, true, true, true, true, true, true, true, true, false, false, false, false, false, false, false, false, false, false, false, false, false, false, false, false, false, false, false, false, false] rfl rfl (any_of HT_.out (by kernel_rfl)) (fun _ _ _ h => h) (Or.inl ⟨by rfl, ?_⟩) ?_ ?_
    rotate_left
    ·intro w'
     go_simp
     with_reducible rfl
    rotate_left
    ·simp only [Act.put, List.setIfInBounds_toArray, List.set_cons_zero, List.set_cons_succ, i64_w, i32_w]
     rfl
    refine pure_ (i := 12) (N := some 21) (v := ?_) (a' := ?_) #[true, true, true, true, true, true, true, true, true, true, true, true, true, false, false, false, false, false, false, false, false, false, false, false, false, false, false, false, false, false, false, false, false] rfl rfl (any_of HT_.out (by kernel_rfl)) (fun _ _ _ h => h) (Or.inl ⟨by rfl, ?_⟩) ?_ ?_
    rotate_left
    ·intro w'
     go_simp
     with_reducible rfl
    rotate_left
    ·simp only [Act.put, List.setIfInBounds_toArray, List.set_cons_zero, List.set_cons_succ, i64_w, i32_w]
     rfl
    refine pure_ (i := 13) (N := some 22) (v := ?_) (a' := ?_) #[true, true, true, true, true, true, true, true, true, true, true, true, true, true, false, false, false, false, false, false, false, false, false, false, false, false, false, false, false, false, false, false, false] rfl rfl (any_of HT_.out (by kernel_rfl)) (fun _ _ _ h => h) (Or.inl ⟨by rfl, ?_⟩) ?_ ?_
    rotate_left
    ·intro w'
     go_simp
     with_reducible rfl
    rotate_left
    ·simp only [Act.put, List.setIfInBounds_toArray, List.set_cons_zero, List.set_cons_succ, i64_w, i32_w]
     rfl
    refine pure_ (i := 14) (N := some 23) (v := ?_) (a' := ?_) #[true, true, true, true, true, true, true, true, true, true, true, true, true, true, true, false, false, false, false, false, false, false, false, false, false, false, false, false, false, false, false, false, false] rfl rfl (any_of HT_.out (by kernel_rfl)) (fun _ _ _ h => h) (Or.inl ⟨by rfl, ?_⟩) ?_ ?_
    rotate_left
    ·intro w'
     go_simp
     with_reducible rfl
    rotate_left
    ·simp only [Act.put, List.setIfInBounds_toArray, List.set_cons_zero, List.set_cons_succ, i64_w, i32_w]
     rfl
    refine pure_ (i := 15) (N := some 24) (v := ?_) (a' := ?_) #[true, true, true, true, true, true, true, true, true, true, true, true, true, true, true, true, false, false, false, false, false, false, false, false, false, false, false, false, false, false, false, false, false] rfl rfl (any_of HT_.out (by kernel_rfl)) (fun _ _ _ h => h) (Or.inl ⟨by rfl, ?_⟩) ?_ ?_
    rotate_left
    ·intro w'
     go_simp
     with_reducible rfl
    rotate_left
    ·simp only [Act.put, List.setIfInBounds_toArray, List.set_cons_zero, List.set_cons_succ, i64_w, i32_w]
     rfl
    refine take_ (i := 16) (N := some 25) (v := ?_) (a' := ?_) #[true, true, true, true, true, true, true, true, true, true, true, true, true, true, true, true, true, false, false, false, false, false, false, false, false, false, false, false, false, false, false, false, false] rfl rfl (take_ofW HT_.out HW_.out (by kernel_rfl)) (fun _ _ _ h => h) (Or.inl ⟨by rfl, ?_⟩) hHeld ?_ ?_
    rotate_left
    ·rintro w' ⟨s0, s1, s2, s3, s4, s5, s6, s7, s8, s9, s10, s11, s12, s13, s14, s15, s16⟩
     go_simp
     with_reducible rfl
    rotate_left
    ·simp only [Act.put, List.setIfInBounds_toArray, List.set_cons_zero, List.set_cons_succ, i64_w, i32_w]
     rfl
    refine pure_ (i := 17) (N := some 26) (v := ?_) (a' := ?_) #[true, true, true, true, true, true, true, true, true, true, true, true, true, true, true, true, true, true, false, false, false, false, false, false, false, false, false, false, false, false, false, false, false] rfl rfl (any_of HT_.out (by kernel_rfl)) (fun _ _ _ h => h) (Or.inl ⟨by rfl, ?_⟩) ?_ ?_
    rotate_left
    ·intro w'
     go_simp
     with_reducible rfl
    rotate_left
    ·simp only [Act.put, List.setIfInBounds_toArray, List.set_cons_zero, List.set_cons_succ, i64_w, i32_w]
     rfl
    refine pure_ (i := 18) (N := some 27) (v := ?_) (a' := ?_) #[true, true, true, true, true, true, true, true, true, true, true, true, true, true, true, true, true, true, true, false, false, false, false, false, false, false, false, false, false, false, false, false, false] rfl rfl (any_of HT_.out (by kernel_rfl)) (fun _ _ _ h => h) (Or.inl ⟨by rfl, ?_⟩) ?_ ?_
    rotate_left
    ·intro w'
     go_simp
     with_reducible rfl
    rotate_left
    ·simp only [Act.put, List.setIfInBounds_toArray, List.set_cons_zero, List.set_cons_succ, i64_w, i32_w]
     rfl
    refine pure_ (i := 19) (N := some 28) (v := ?_) (a' := ?_) #[true, true, true, true, true, true, true, true, true, true, true, true, true, true, true, true, true, true, true, true, false, false, false, false, false, false, false, false, false, false, false, false, false] rfl rfl (any_of HT_.out (by kernel_rfl)) (fun _ _ _ h => h) (Or.inl ⟨by rfl, ?_⟩) ?_ ?_
    rotate_left
    ·intro w'
     go_simp
     with_reducible rfl
    rotate_left
    ·simp only [Act.put, List.setIfInBounds_toArray, List.set_cons_zero, List.set_cons_succ, i64_w, i32_w]
     rfl
    refine pure_ (i := 20) (N := some 29) (v := ?_) (a' := ?_) #[true, true, true, true, true, true, true, true, true, true, true, true, true, true, true, true, true, true, true, true, true, false, false, false, false, false, false, false, false, false, false, false, false] rfl rfl (any_of HT_.out (by kernel_rfl)) (fun _ _ _ h => h) (Or.inl ⟨by rfl, ?_⟩) ?_ ?_
    rotate_left
    ·intro w'
     go_simp
     with_reducible rfl
    rotate_left
    ·simp only [Act.put, List.setIfInBounds_toArray, List.set_cons_zero, List.set_cons_succ, i64_w, i32_w]
     rfl
    refine pure_ (i := 21) (N := some 30) (v := ?_) (a' := ?_) #[true, true, true, true, true, true, true, true, true, true, true, true, true, true, true, true, true, true, true, true, true, true, false, false, false, false, false, false, false, false, false, false, false] rfl rfl (any_of HT_.out (by kernel_rfl)) (fun _ _ _ h => h) (Or.inl ⟨by rfl, ?_⟩) ?_ ?_
    rotate_left
    ·intro w'
     go_simp
     with_reducible rfl
    rotate_left
    ·simp only [Act.put, List.setIfInBounds_toArray, List.set_cons_zero, List.set_cons_succ, i64_w, i32_w]
     rfl
    refine pure_ (i := 22) (N := some 31) (v := ?_) (a' := ?_) #[true, true, true, true, true, true, true, true, true, true, true, true, true, true, true, true, true, true, true, true, true, true, true, false, false, false, false, false, false, false, false, false, false] rfl rfl (any_of HT_.out (by kernel_rfl)) (fun _ _ _ h => h) (Or.inl ⟨by rfl, ?_⟩) ?_ ?_
    rotate_left
    ·intro w'
     go_simp
     with_reducible rfl
    rotate_left
    ·simp only [Act.put, List.setIfInBounds_toArray, List.set_cons_zero, List.set_cons_succ, i64_w, i32_w]
     rfl
    refine pure_ (i := 25) (N := some 34) (v := ?_) (a' := ?_) #[true, true, true, true, true, true, true, true, true, true, true, true, true, true, true, true, true, true, true, true, true, true, true, false, false, true, false, false, false, false, false, false, false] rfl rfl (any_of HT_.out (by kernel_rfl)) (fun _ _ _ h => h) (Or.inl ⟨by rfl, ?_⟩) ?_ ?_
    rotate_left
    ·intro w'
     go_simp
     with_reducible rfl
    rotate_left
    ·simp only [Act.put, List.setIfInBounds_toArray, List.set_cons_zero, List.set_cons_succ, i64_w, i32_w]
     rfl
    refine pure_ (i := 26) (N := some 35) (v := ?_) (a' := ?_) #[true, true, true, true, true, true, true, true, true, true, true, true, true, true, true, true, true, true, true, true, true, true, true, false, false, true, true, false, false, false, false, false, false] rfl rfl (any_of HT_.out (by kernel_rfl)) (fun _ _ _ h => h) (Or.inl ⟨by rfl, ?_⟩) ?_ ?_
    rotate_left
    ·intro w'
     go_simp
     with_reducible rfl
    rotate_left
    ·simp only [Act.put, List.setIfInBounds_toArray, List.set_cons_zero, List.set_cons_succ, i64_w, i32_w]
     rfl
    refine pure_ (i := 27) (N := some 36) (v := ?_) (a' := ?_) #[true, true, true, true, true, true, true, true, true, true, true, true, true, true, true, true, true, true, true, true, true, true, true, false, false, true, true, true, false, false, false, false, false] rfl rfl (any_of HT_.out (by kernel_rfl)) (fun _ _ _ h => h) (Or.inl ⟨by rfl, ?_⟩) ?_ ?_
    rotate_left
    ·intro w'
     go_simp
     with_reducible rfl
    rotate_left
    ·simp only [Act.put, List.setIfInBounds_toArray, List.set_cons_zero, List.set_cons_succ, i64_w, i32_w]
     rfl
    refine pure_ (i := 28) (N := some 37) (v := ?_) (a' := ?_) #[true, true, true, true, true, true, true, true, true, true, true, true, true, true, true, true, true, true, true, true, true, true, true, false, false, true, true, true, true, false, false, false, false] rfl rfl (any_of HT_.out (by kernel_rfl)) (fun _ _ _ h => h) (Or.inl ⟨by rfl, ?_⟩) ?_ ?_
    rotate_left
    ·intro w'
     go_simp
     with_reducible rfl
    rotate_left
    ·simp only [Act.put, List.setIfInBounds_toArray, List.set_cons_zero, List.set_cons_succ, i64_w, i32_w]
     rfl
    refine take_ (i := 23) (N := some 32) (v := ?_) (a' := ?_) #[true, true, true, true, true, true, true, true, true, true, true, true, true, true, true, true, true, true, true, true, true, true, true, true, false, true, true, true, true, false, false, false, false] rfl rfl (take_ofW HT_.out HW_.out (by kernel_rfl)) (fun _ _ _ h => h) (Or.inl ⟨by rfl, ?_⟩) hHeld ?_ ?_
    rotate_left
    ·rintro w' ⟨s0, s1, s2, s3, s4, s5, s6, s7, s8, s9, s10, s11, s12, s13, s14, s15, s16⟩
     go_simp
     with_reducible rfl
    rotate_left
    ·simp only [Act.put, List.setIfInBounds_toArray, List.set_cons_zero, List.set_cons_succ, i64_w, i32_w]
     rfl
    refine pure_ (i := 24) (N := some 33) (v := ?_) (a' := ?_) #[true, true, true, true, true, true, true, true, true, true, true, true, true, true, true, true, true, true, true, true, true, true, true, true, true, true, true, true, true, false, false, false, false] rfl rfl (any_of HT_.out (by kernel_rfl)) (fun _ _ _ h => h) (Or.inl ⟨by rfl, ?_⟩) ?_ ?_
    rotate_left
    ·intro w'
     go_simp
     with_reducible rfl
    rotate_left
    ·simp only [Act.put, List.setIfInBounds_toArray, List.set_cons_zero, List.set_cons_succ, i64_w, i32_w]
     rfl
    refine take_ (i := 29) (N := some 38) (v := ?_) (a' := ?_) #[true, true, true, true, true, true, true, true, true, true, true, true, true, true, true, true, true, true, true, true, true, true, true, true, true, true, true, true, true, true, false, false, false] rfl rfl (take_ofW HT_.out HW_.out (by kernel_rfl)) (fun _ _ _ h => h) (Or.inl ⟨by rfl, ?_⟩) hHeld ?_ ?_
    rotate_left
    ·rintro w' ⟨s0, s1, s2, s3, s4, s5, s6, s7, s8, s9, s10, s11, s12, s13, s14, s15, s16⟩
     go_simp
     with_reducible rfl
    rotate_left
    ·simp only [Act.put, List.setIfInBounds_toArray, List.set_cons_zero, List.set_cons_succ, i64_w, i32_w]
     rfl
    refine pure_ (i := 30) (N := some 39) (v := ?_) (a' := ?_) #[true, true, true, true, true, true, true, true, true, true, true, true, true, true, true, true, true, true, true, true, true, true, true, true, true, true, true, true, true, true, true, false, false] rfl rfl (any_of HT_.out (by kernel_rfl)) (fun _ _ _ h => h) (Or.inl ⟨by rfl, ?_⟩) ?_ ?_
    rotate_left
    ·intro w'
     go_simp
     with_reducible rfl
    rotate_left
    ·simp only [Act.put, List.setIfInBounds_toArray, List.set_cons_zero, List.set_cons_succ, i64_w, i32_w]
     rfl
    refine pure_ (i := 31) (N := some 40) (v := ?_) (a' := ?_) #[true, true, true, true, true, true, true, true, true, true, true, true, true, true, true, true, true, true, true, true, true, true, true, true, true, true, true, true, true, true, true, true, false] rfl rfl (any_of HT_.out (by kernel_rfl)) (fun _ _ _ h => h) (Or.inl ⟨by rfl, ?_⟩) ?_ ?_
    rotate_left
    ·intro w'
     go_simp
     with_reducible rfl
    rotate_left
    ·simp only [Act.put, List.setIfInBounds_toArray, List.set_cons_zero, List.set_cons_succ, i64_w, i32_w]
     rfl
    refine pure_ (i := 32) (N := some 41) (v := ?_) (a' := ?_) #[true, true, true, true, true, true, true, true, true, true, true, true, true, true, true, true, true, true, true, true, true, true, true, true, true, true, true, true, true, true, true, true, true] rfl rfl (any_of HT_.out (by kernel_rfl)) (fun _ _ _ h => h) (Or.inl ⟨by rfl, ?_⟩) ?_ ?_
    rotate_left
    ·intro w'
     go_simp
     with_reducible rfl
    rotate_left
    ·simp only [Act.put, List.setIfInBounds_toArray, List.set_cons_zero, List.set_cons_succ, i64_w, i32_w]
     rfl
    refine done_ (done_of HT_.out (by kernel_rfl)) ?_
    obtain ⟨ASz17_11, cSz17_11, HGz17, hgz17, HSz17_11⟩ := HI0.out
    have hcz17_0 := cellS48_0 HGz17
    have hcz17_1 := cellS48_1 HGz17
    have hcz17_2 := cellS48_2 HGz17
    have hcz17_3 := cellS48_3 HGz17
    have hcz17_4 := cellS48_4 HGz17
    have hcz17_5 := cellS48_5 HGz17
    have hcz17_6 := cellS48_6 HGz17
    have hcz17_7 := cellS48_7 HGz17
    have hcz17_8 := cellS48_8 HGz17
    have hcz17_9 := cellS48_9 HGz17
    have hcz17_10 := cellS48_10 HGz17
    have hcz17_11 := cellS48_11 HGz17
    have hcz17_12 := cellS48_12 HGz17
    have hcz17_13 := cellS48_13 HGz17
    have hcz17_14 := cellS48_14 HGz17
    have hcz17_15 := cellS48_15 HGz17
    have hcz17_16 := cellS48_16 HGz17
    have hcz17_17 := cellS48_17 HGz17
    have hfz17_0 := blk_frozen HGz17 0
    have hfz17_1 := blk_frozen HGz17 1
    have hfz17_2 := blk_frozen HGz17 2
    have hfz17_3 := blk_frozen HGz17 3
    have hfz17_4 := blk_frozen HGz17 4
    have hfz17_5 := blk_frozen HGz17 5
    have hfz17_6 := blk_frozen HGz17 6
    have hfz17_7 := blk_frozen HGz17 7
    have hfz17_8 := blk_frozen HGz17 8
    have hfz17_9 := blk_frozen HGz17 9
    have hfz17_10 := blk_frozen HGz17 10
    have hfz17_12 := blk_frozen HGz17 12
    have hfz17_13 := blk_frozen HGz17 13
    have hfz17_14 := blk_frozen HGz17 14
    have hfz17_15 := blk_frozen HGz17 15
    have hfz17_16 := blk_frozen HGz17 16
    have hfz17_17 := blk_frozen HGz17 17
    clear HGz17 hgz17
    try go_wp2
    go_ret
    exact ⟨by first | rfl | (simp [errW_none, errW_some] <;> rfl) | (simp [*, errW_none, errW_some] <;> rfl), by repeat (first | (with_reducible first | exact HI0.out | apply IsS48.alloc | apply IsS48.drewN | apply IsS48.drew | apply IsS48.set_0 | apply IsS48.set_1 | apply IsS48.set_2 | apply IsS48.set_3 | apply IsS48.set_4 | apply IsS48.set_5 | apply IsS48.set_6 | apply IsS48.set_7 | apply IsS48.set_8 | apply IsS48.set_9 | apply IsS48.set_10 | apply IsS48.set_12 | apply IsS48.set_13 | apply IsS48.set_14 | apply IsS48.set_15 | apply IsS48.set_16 | apply IsS48.set_17) | exact HI0.out), by repeat (first | (with_reducible first | exact HB.out | apply below_alloc | apply pw_below_drewN | apply below_drew1 | refine below_set ?_ (IsS48.ge HI0.out)) | exact HB.out), by repeat (first | (with_reducible first | exact HK.out | apply KeepBut.set_ | apply keep_drewN | apply keep_drew | apply keep_alloc) | exact HK.out)⟩
  ·replace c5 := Bool.eq_false_iff.mpr c5
   subst c5
   have H1 : ((muldiv_Do.f s0_13 1 2 1).bind fun t123 => (some (mx t123 s0_1, s0_0, s0_1, s0_2, s0_3, s0_4, s0_5, s0_6, s0_7, s0_8, s0_9, s0_10, s0_12, mx t123 s0_1, s0_14, t121, true, s0_17))) = some (r1, r2, r3, r4, r5, r6, r7, r8, r9, r10, r11, r12, r13, r14, r15, r16, r17, r18) := by rw [if_neg (show ¬ (false = true) by decide)] at H; exact H
   clear H
   have H := H1
   clear H1
   replace H := Option.bind_eq_some_iff.mp H
   obtain ⟨t123, A180, H⟩ := H
   replace H : (some (mx t123 s0_1, s0_0, s0_1, s0_2, s0_3, s0_4, s0_5, s0_6, s0_7, s0_8, s0_9, s0_10, s0_12, mx t123 s0_1, s0_14, t121, true, s0_17)) = some (r1, r2, r3, r4, r5, r6, r7, r8, r9, r10, r11, r12, r13, r14, r15, r16, r17, r18) := H
   have A18 := Aside0.mk A180
   clear A180
   obtain ⟨ji19, hji19⟩ : ∃ j_ : Int, (mx t123 s0_1) = j_ := ⟨_, rfl⟩
   replace H : (some (ji19, s0_0, s0_1, s0_2, s0_3, s0_4, s0_5, s0_6, s0_7, s0_8, s0_9, s0_10, s0_12, ji19, s0_14, t121, true, s0_17)) = some (r1, r2, r3, r4, r5, r6, r7, r8, r9, r10, r11, r12, r13, r14, r15, r16, r17, r18) := by first | (rw [hji19] at H; exact H) | (simp only [hji19] at H ⊢; exact H)
   (try rw [hji19] at A3)
   (try rw [hji19] at A18)
   have hji19_ : (if t123 < s0_1 then s0_1 else t123) = ji19 := hji19
   simp only [Option.some.injEq, Prod.mk.injEq] at H
   obtain ⟨rfl, rfl, rfl, rfl, rfl, rfl, rfl, rfl, rfl, rfl, rfl, rfl, rfl, rfl, rfl, rfl, rfl, rfl⟩ := H
   go_enter Try.func17, Try.ntmps17
   try go_wp2_with (first | ((with_reducible refine gate_callee (f := 19) rfl ?_); refine goesL_ (some 8) rfl rfl Try.func19 (by kernel_rfl) rfl #[.int .i64 a1, .int .i64 0, .int .i64 1125899906842624] rfl (by (try simp only [List.map_toArray, List.map_cons, List.map_nil]); first | done | rfl | (simp only [List.length_drop, List.length_take]; rfl)) ?_; (with_reducible refine (sat_Clamp.calls a1 0 1125899906842624 t121 _ A3.out).mono ?_); rintro e w' ⟨rfl, ⟨nd, rfl⟩⟩; refine ⟨_, rfl, ?_⟩; (generalize hq_ : World.drewN w _ = w20; have n0_ : Aside0 (IsS48 w0 w20 g s0_0 s0_1 s0_2 s0_3 s0_4 s0_5 s0_6 s0_7 s0_8 s0_9 s0_10 s0_11 s0_12 s0_13 s0_14 s0_15 false s0_17) := ⟨by rw [← hq_]; exact (by repeat (first | (with_reducible first | exact HI0.out | apply IsS48.alloc | apply IsS48.drewN | apply IsS48.drew | apply IsS48.set_0 | apply IsS48.set_1 | apply IsS48.set_2 | apply IsS48.set_3 | apply IsS48.set_4 | apply IsS48.set_5 | apply IsS48.set_6 | apply IsS48.set_7 | apply IsS48.set_8 | apply IsS48.set_9 | apply IsS48.set_10 | apply IsS48.set_12 | apply IsS48.set_13 | apply IsS48.set_14 | apply IsS48.set_15 | apply IsS48.set_16 | apply IsS48.set_17) | exact HI0.out))⟩; have n1_ : Aside0 (KeepBut w w20 g none) := ⟨by rw [← hq_]; exact (by repeat (first | (with_reducible first | exact HK.out | apply KeepBut.set_ | apply keep_drewN | apply keep_drew | apply keep_alloc) | exact HK.out))⟩; have n2_ : Aside0 (Below w0.heap.size w0 w20) := ⟨by rw [← hq_]; exact (by repeat (first | (with_reducible first | exact HB.out | apply below_alloc | apply pw_below_drewN | apply below_drew1 | refine below_set ?_ (IsS48.ge HI0.out)) | exact HB.out))⟩; clear HI0 HK HB hq_; have HI0 := n0_; have HK := n1_; have HB := n2_; clear n0_ n1_ n2_)))
   have n0_ := Aside0.mk (IsS48.drew HI0.out)
   have n1_ := Aside0.mk (keep_drew HK.out)
   have n2_ := Aside0.mk (below_drew1 HB.out)
   clear HI0
   clear HK
   clear HB
   have HI0 := n0_
   have HK := n1_
   have HB := n2_
   clear n0_ n1_ n2_
   refine start_ (n := 33) (S := fun w' => w'.cell? ⟨g, 0, none⟩ = some (.int .i64 s0_0) ∧ w'.cell? ⟨g, 1, none⟩ = some (.int .i64 s0_1) ∧ w'.cell? ⟨g, 2, none⟩ = some (.int .i64 s0_2) ∧ w'.cell? ⟨g, 3, none⟩ = some (.int .i64 s0_3) ∧ w'.cell? ⟨g, 4, none⟩ = some (.int .i64 s0_4) ∧ w'.cell? ⟨g, 5, none⟩ = some (.int .i64 s0_5) ∧ w'.cell? ⟨g, 6, none⟩ = some (.int .i64 s0_6) ∧ w'.cell? ⟨g, 7, none⟩ = some (.int .i64 s0_7) ∧ w'.cell? ⟨g, 8, none⟩ = some (.int .i64 s0_8) ∧ w'.cell? ⟨g, 9, none⟩ = some (.int .i64 s0_9) ∧ w'.cell? ⟨g, 10, none⟩ = some (.int .i64 s0_10) ∧ w'.cell? ⟨g, 12, none⟩ = some (.int .i64 s0_12) ∧ w'.cell? ⟨g, 13, none⟩ = some (.int .i64 s0_13) ∧ w'.cell? ⟨g, 14, none⟩ = some (.int .i64 s0_14) ∧ w'.cell? ⟨g, 15, none⟩ = some (.int .i64 s0_15) ∧ w'.cell? ⟨g, 16, none⟩ = some (.bool false) ∧ w'.cell? ⟨g, 17, none⟩ = some (.bool s0_17)) (ds := []) #[false, false, false, false, false, false, false, false, false, false, false, false, false, false, false, false, false, false, false, false, false, false, false, false, false, false, false, false, false, false, false, false, false] (by kernel_rfl) rfl rfl ⟨(IsS48.cell_0 HI0.out), (IsS48.cell_1 HI0.out), (IsS48.cell_2 HI0.out), (IsS48.cell_3 HI0.out), (IsS48.cell_4 HI0.out), (IsS48.cell_5 HI0.out), (IsS48.cell_6 HI0.out), (IsS48.cell_7 HI0.out), (IsS48.cell_8 HI0.out), (IsS48.cell_9 HI0.out), (IsS48.cell_10 HI0.out), (IsS48.cell_12 HI0.out), (IsS48.cell_13 HI0.out), (IsS48.cell_14 HI0.out), (IsS48.cell_15 HI0.out), (IsS48.cell_16 HI0.out), (IsS48.cell_17 HI0.out)⟩ (fun hHeld => ?_); refine with_tabW guard_Guard_Tick.tab4 guard_Guard_Tick.bits4 (fun HT_ HW_ => ?_)
   generalize w20.drew = w21 at HI0 HK HB hHeld ⊢
   refine pure_ (i := 0) (N := some 9) (v := ?_) (a' := ?_) #[true, false, false, false, false, false, false, false, false, false, false, false, false, false, false, false, false, false, false, false, false, false, false, false, false, false, false, false, false, false, false, false, false] rfl rfl (any_of HT_.out (by kernel_rfl)) (fun _ _ _ h => h) (Or.inl ⟨by rfl, ?_⟩) ?_ ?_
   rotate_left
   ·intro w'
    go_simp
    with_reducible rfl
   rotate_left
   ·simp only [Act.put, List.setIfInBounds_toArray, List.set_cons_zero, List.set_cons_succ, i64_w, i32_w]
    rfl
   refine pure_ (i := 1) (N := some 10) (v := ?_) (a' := ?_) #[true, true, false, false, false, false, false, false, false, false, false, false, false, false, false, false, false, false, false, false, false, false, false, false, false, false, false, false, false, false, false, false, false] rfl rfl (any_of HT_.out (by kernel_rfl)) (fun _ _ _ h => h) (Or.inl ⟨by rfl, ?_⟩) ?_ ?_
   rotate_left
   ·intro w'
    go_simp
    with_reducible rfl
   rotate_left
   ·simp only [Act.put, List.setIfInBounds_toArray, List.set_cons_zero, List.set_cons_succ, i64_w, i32_w]
    rfl
   refine pure_ (i := 2) (N := some 11) (v := ?_) (a' := ?_) #[true, true, true, false, false, false, false, false, false, false, false, false, false, false, false, false, false, false, false, false, false, false, false, false, false, false, false, false, false, false, false, false, false] rfl rfl (any_of HT_.out (by kernel_rfl)) (fun _ _ _ h => h) (Or.inl ⟨by rfl, ?_⟩) ?_ ?_
   rotate_left
   ·intro w'
    go_simp
    with_reducible rfl
   rotate_left
   ·simp only [Act.put, List.setIfInBounds_toArray, List.set_cons_zero, List.set_cons_succ, i64_w, i32_w]
    rfl
   refine pure_ (i := 3) (N := some 12) (v := ?_) (a' := ?_) #[true, true, true, true, false, false, false, false, false, false, false, false, false, false, false, false, false, false, false, false, false, false, false, false, false, false, false, false, false, false, false, false, false] rfl rfl (any_of HT_.out (by kernel_rfl)) (fun _ _ _ h => h) (Or.inl ⟨by rfl, ?_⟩) ?_ ?_
   rotate_left
   ·intro w'
    go_simp
    with_reducible rfl
   rotate_left
   ·simp only [Act.put, List.setIfInBounds_toArray, List.set_cons_zero, List.set_cons_succ, i64_w, i32_w]
    rfl
   refine pure_ (i := 6) (N := some 15) (v := ?_) (a' := ?_) #[true, true, true, true, false, false, true, false, false, false, false, false, false, false, false, false, false, false, false, false, false, false, false, false, false, false, false, false, false, false, false, false, false] rfl rfl (any_of HT_.out (by kernel_rfl)) (fun _ _ _ h => h) (Or.inl ⟨by rfl, ?_⟩) ?_ ?_
   rotate_left
   ·intro w'
    go_simp
    with_reducible rfl
   rotate_left
   ·simp only [Act.put, List.setIfInBounds_toArray, List.set_cons_zero, List.set_cons_succ, i64_w, i32_w]
    rfl
   refine pure_ (i := 7) (N := some 16) (v := ?_) (a' := ?_) #[true, true, true, true, false, false, true, true, false, false, false, false, false, false, false, false, false, false, false, false, false, false, false, false, false, false, false, false, false, false, false, false, false] rfl rfl (any_of HT_.out (by kernel_rfl)) (fun _ _ _ h => h) (Or.inl ⟨by rfl, ?_⟩) ?_ ?_
   rotate_left
   ·intro w'
    go_simp
    with_reducible rfl
   rotate_left
   ·simp only [Act.put, List.setIfInBounds_toArray, List.set_cons_zero, List.set_cons_succ, i64_w, i32_w]
    rfl
   refine pure_ (i := 8) (N := some 17) (v := ?_) (a' := ?_) #[true, true, true, true, false, false, true, true, true, false, false, false, false, false, false, false, false, false, false, false, false, false, false, false, false, false, false, false, false, false, false, false, false] rfl rfl (any_of HT_.out (by kernel_rfl)) (fun _ _ _ h => h) (Or.inl ⟨by rfl, ?_⟩) ?_ ?_
   rotate_left
   ·intro w'
    go_simp
    with_reducible rfl
   rotate_left
   ·simp only [Act.put, List.setIfInBounds_toArray, List.set_cons_zero, List.set_cons_succ, i64_w, i32_w]
    rfl
   refine pure_ (i := 9) (N := some 18) (v := ?_) (a' := ?_) #[true, true, true, true, false, false, true, true, true, true, false, false, false, false, false, false, false, false, false, false, false, false, false, false, false, false, false, false, false, false, false, false, false] rfl rfl (any_of HT_.out (by kernel_rfl)) (fun _ _ _ h => h) (Or.inl ⟨by rfl, ?_⟩) ?_ ?_
   rotate_left
   ·intro w'
    go_simp
    with_reducible rfl
   rotate_left
   ·simp only [Act.put, List.setIfInBounds_toArray, List.set_cons_zero, List.set_cons_succ, i64_w, i32_w]
    rfl
   refine take_ (i := 4) (N := some 13) (v := ?_) (a' := ?_) #[true, true, true, true, true, false, true, true, true, true, false, false, false, false, false, false, false, false, false, false, false, false, false, false, false, false, false, false, false, false, false, false, false] rfl rfl (take_ofW HT_.out HW_.out (by kernel_rfl)) (fun _ _ _ h => h) (Or.inl ⟨by rfl, ?_⟩) hHeld ?_ ?_
   rotate_left
   ·rintro w' ⟨s0, s1, s2, s3, s4, s5, s6, s7, s8, s9, s10, s11, s12, s13, s14, s15, s16⟩
    go_simp
    with_reducible rfl
   rotate_left
   ·simp only [Act.put, List.setIfInBounds_toArray, List.set_cons_zero, List.set_cons_succ, i64_w, i32_w]
    rfl
   refine pure_ (i := 5) (N := some 14) (v := ?_) (a' := ?_) #[true, true, true, true, true, true, true, true, true, true, false, false, false, false, false, false, false, false, false, false, false, false, false, false, false, false, false, false, false, false, false, false, false] rfl rfl (any_of HT_.out (by kernel_rfl)) (fun _ _ _ h => h) (Or.inl ⟨by rfl, ?_⟩) ?_ ?_
   rotate_left
   ·intro w'
    go_simp
    with_reducible rfl
   rotate_left
   ·simp only [Act.put, List.setIfInBounds_toArray, List.set_cons_zero, List.set_cons_succ, i64_w, i32_w]
    rfl
   refine take_ (i := 10) (N := some 19) (v := ?_) (a' := ?_) #[true, true, true, true, true, true, true, true, true, true, true, false, false, false, false, false, false, false, false, false, false, false, false, false, false, false, false, false, false, false, false, false, false] rfl rfl (take_ofW HT_.out HW_.out (by kernel_rfl)) (fun _ _ _ h => h) (Or.inl ⟨by rfl, ?_⟩) hHeld ?_ ?_
   rotate_left
   ·rintro w' ⟨s0, s1, s2, s3, s4, s5, s6, s7, s8, s9, s10, s11, s12, s13, s14, s15, s16⟩
    go_simp
    with_reducible rfl
   rotate_left
   ·simp only [Act.put, List.setIfInBounds_toArray, List.set_cons_zero, List.set_cons_succ, i64_w, i32_w]
    rfl
   refine pure_ (i := 11) (N := some 20) (v := ?_) (a' := ?_) #[true, true, true, true, true, true, true, true, true, true, true, true, false, false, false, false, false, false, false, false, false, false, false, false, false, false, false, false, false, false, false, false, false] rfl rfl (any_of HT_.out (by kernel_rfl)) (fun _ _ _ h => h) (Or.inl ⟨by rfl, ?_⟩) ?_ ?_
   rotate_left
   ·intro w'
    go_simp
    with_reducible rfl
   rotate_left
   ·simp only [Act.put, List.setIfInBounds_toArray, List.set_cons_zero, List.set_cons_succ, i64_w, i32_w]
    rfl
   refine pure_ (i := 12) (N := some 21) (v := ?_) (a' := ?_) #[true, true, true, true, true, true, true, true, true, true, true, true, true, false, false, false, false, false, false, false, false, false, false, false, false, false, false, false, false, false, false, false, false] rfl rfl (any_of HT_.out (by kernel_rfl)) (fun _ _ _ h => h) (Or.inl ⟨by rfl, ?_⟩) ?_ ?_
   rotate_left
   ·intro w'
    go_simp
    with_reducible rfl
   rotate_left
   ·simp only [Act.put, List.setIfInBounds_toArray, List.set_cons_zero, List.set_cons_succ, i64_w, i32_w]
    rfl
   refine pure_ (i := 13) (N := some 22) (v := ?_) (a' := ?_) #[true, true, true, true, true, true, true, true, true, true, true, true, true, true, false, false, false, false, false, false, false, false, false, false, false, false, false, false, false, false, false, false, false] rfl rfl (any_of HT_.out (by kernel_rfl)) (fun _ _ _ h => h) (Or.inl ⟨by rfl, ?_⟩) ?_ ?_
   rotate_left
   ·intro w'
    go_simp
    with_reducible rfl
   rotate_left
   ·simp only [Act.put, List.setIfInBounds_toArray, List.set_cons_zero, List.set_cons_succ, i64_w, i32_w]
    rfl
   refine pure_ (i := 14) (N := some 23) (v := ?_) (a' := ?_) #[true, true, true, true, true, true, true, true, true, true, true, true, true, true, true, false, false, false, false, false, false, false, false, false, false, false, false, false, false, false, false, false, false] rfl rfl (any_of HT_.out (by kernel_rfl)) (fun _ _ _ h => h) (Or.inl ⟨by rfl, ?_⟩) ?_ ?_
   rotate_left
   ·intro w'
    go_simp
    with_reducible rfl
   rotate_left
   ·simp only [Act.put, List.setIfInBounds_toArray, List.set_cons_zero, List.set_cons_succ, i64_w, i32_w]
    rfl
   refine pure_ (i := 15) (N := some 24) (v := ?_) (a' := ?_) #[true, true, true, true, true, true, true, true, true, true, true, true, true, true, true, true, false, false, false, false, false, false, false, false, false, false, false, false, false, false, false, false, false] rfl rfl (any_of HT_.out (by kernel_rfl)) (fun _ _ _ h => h) (Or.inl ⟨by rfl, ?_⟩) ?_ ?_
   rotate_left
   ·intro w'
    go_simp
    with_reducible rfl
   rotate_left
   ·simp only [Act.put, List.setIfInBounds_toArray, List.set_cons_zero, List.set_cons_succ, i64_w, i32_w]
    rfl
   refine take_ (i := 16) (N := some 25) (v := ?_) (a' := ?_) #[true, true, true, true, true, true, true, true, true, true, true, true, true, true, true, true, true, false, false, false, false, false, false, false, false, false, false, false, false, false, false, false, false] rfl rfl (take_ofW HT_.out HW_.out (by kernel_rfl)) (fun _ _ _ h => h) (Or.inl ⟨by rfl, ?_⟩) hHeld ?_ ?_
   rotate_left
   ·rintro w' ⟨s0, s1, s2, s3, s4, s5, s6, s7, s8, s9, s10, s11, s12, s13, s14, s15, s16⟩
    go_simp
    with_reducible rfl
   rotate_left
   ·simp only [Act.put, List.setIfInBounds_toArray, List.set_cons_zero, List.set_cons_succ, i64_w, i32_w]
    rfl
   refine pure_ (i := 17) (N := some 26) (v := ?_) (a' := ?_) #[true, true, true, true, true, true, true, true, true, true, true, true, true, true, true, true, true, true, false, false, false, false, false, false, false, false, false, false, false, false, false, false, false] rfl rfl (any_of HT_.out (by kernel_rfl)) (fun _ _ _ h => h) (Or.inl ⟨by rfl, ?_⟩) ?_ ?_
   rotate_left
   ·intro w'
    go_simp
    with_reducible rfl
   rotate_left
   ·simp only [Act.put, List.setIfInBounds_toArray, List.set_cons_zero, List.set_cons_succ, i64_w, i32_w]
    rfl
   refine pure_ (i := 18) (N := some 27) (v := ?_) (a' := ?_) #[true, true, true, true, true, true, true, true, true, true, true, true, true, true, true, true, true, true, true, false, false, false, false, false, false, false, false, false, false, false, false, false, false] rfl rfl (any_of HT_.out (by kernel_rfl)) (fun _ _ _ h => h) (Or.inl ⟨by rfl, ?_⟩) ?_ ?_
   rotate_left
   ·intro w'
    go_simp
    with_reducible rfl
   rotate_left
   ·simp only [Act.put, List.setIfInBounds_toArray, List.set_cons_zero, List.set_cons_succ, i64_w, i32_w]
    rfl
   refine pure_ (i := 19) (N := some 28) (v := undef) (a' := ?_) #[true, true, true, true, true, true, true, true, true, true, true, true, true, true, true, true, true, true, true, true, false, false, false, false, false, false, false, false, false, false, false, false, false] rfl rfl (any_of HT_.out (by kernel_rfl)) (fun _ _ _ h => h) (Or.inr ⟨by rfl, rfl⟩) ?_ ?_
   rotate_left
   ·simp only [Act.put, List.setIfInBounds_toArray, List.set_cons_zero, List.set_cons_succ, i64_w, i32_w]
    rfl
   refine pure_ (i := 20) (N := some 29) (v := undef) (a' := ?_) #[true, true, true, true, true, true, true, true, true, true, true, true, true, true, true, true, true, true, true, true, true, false, false, false, false, false, false, false, false, false, false, false, false] rfl rfl (any_of HT_.out (by kernel_rfl)) (fun _ _ _ h => h) (Or.inr ⟨by rfl, rfl⟩) ?_ ?_
   rotate_left
   ·simp only [Act.put, List.setIfInBounds_toArray, List.set_cons_zero, List.set_cons_succ, i64_w, i32_w]
    rfl
   refine pure_ (i := 21) (N := some 30) (v := undef) (a' := ?_) #[true, true, true, true, true, true, true, true, true, true, true, true, true, true, true, true, true, true, true, true, true, true, false, false, false, false, false, false, false, false, false, false, false] rfl rfl (any_of HT_.out (by kernel_rfl)) (fun _ _ _ h => h) (Or.inr ⟨by rfl, rfl⟩) ?_ ?_
   rotate_left
   ·simp only [Act.put, List.setIfInBounds_toArray, List.set_cons_zero, List.set_cons_succ, i64_w, i32_w]
    rfl
   refine pure_ (i := 22) (N := some 31) (v := undef) (a' := ?_) #[true, true, true, true, true, true, true, true, true, true, true, true, true, true, true, true, true, true, true, true, true, true, true, false, false, false, false, false, false, false, false, false, false] rfl rfl (any_of HT_.out (by kernel_rfl)) (fun _ _ _ h => h) (Or.inr ⟨by rfl, rfl⟩) ?_ ?_
   rotate_left
   ·simp only [Act.put, List.setIfInBounds_toArray, List.set_cons_zero, List.set_cons_succ, i64_w, i32_w]
    rfl
   refine pure_ (i := 23) (N := some 32) (v := undef) (a' := ?_) #[true, true, true, true, true, true, true, true, true, true, true, true, true, true, true, true, true, true, true, true, true, true, true, true, false, false, false, false, false, false, false, false, false] rfl rfl (any_of HT_.out (by kernel_rfl)) (fun _ _ _ h => h) (Or.inr ⟨by rfl, rfl⟩) ?_ ?_
   rotate_left
   ·simp only [Act.put, List.setIfInBounds_toArray, List.set_cons_zero, List.set_cons_succ, i64_w, i32_w]
    rfl
   refine pure_ (i := 24) (N := some 33) (v := undef) (a' := ?_) #[true, true, true, true, true, true, true, true, true, true, true, true, true, true, true, true, true, true, true, true, true, true, true, true, true, false, false, false, false, false, false, false, false] rfl rfl (any_of HT_.out (by kernel_rfl)) (fun _ _ _ h => h) (Or.inr ⟨by rfl, rfl⟩) ?_ ?_
   rotate_left
   ·simp only [Act.put, List.setIfInBounds_toArray, List.set_cons_zero, List.set_cons_succ, i64_w, i32_w]
    rfl
   refine pure_ (i := 25) (N := some 34) (v := undef) (a' := ?_) #[true, true, true, true, true, true, true, true, true, true, true, true, true, true, true, true, true, true, true, true, true, true, true, true, true, true, false, false, false, false, false, false, false] rfl rfl (any_of HT_.out (by kernel_rfl)) (fun _ _ _ h => h) (Or.inr ⟨by rfl, rfl⟩) ?_ ?_
   rotate_left
   ·simp only [Act.put, List.setIfInBounds_toArray, List.set_cons_zero, List.set_cons_succ, i64_w, i32_w]
    rfl
   refine pure_ (i := 26) (N := some 35) (v := undef) (a' := ?_) #[true, true, true, true, true, true, true, true, true, true, true, true, true, true, true, true, true, true, true, true, true, true, true, true, true, true, true, false, false, false, false, false, false] rfl rfl (any_of HT_.out (by kernel_rfl)) (fun _ _ _ h => h) (Or.inr ⟨by rfl, rfl⟩) ?_ ?_
   rotate_left
   ·simp only [Act.put, List.setIfInBounds_toArray, List.set_cons_zero, List.set_cons_succ, i64_w, i32_w]
    rfl
   refine pure_ (i := 27) (N := some 36) (v := undef) (a' := ?_) #[true, true, true, true, true, true, true, true, true, true, true, true, true, true, true, true, true, true, true, true, true, true, true, true, true, true, true, true, false, false, false, false, false] rfl rfl (any_of HT_.out (by kernel_rfl)) (fun _ _ _ h => h) (Or.inr ⟨by rfl, rfl⟩) ?_ ?_
   rotate_left
   ·simp only [Act.put, List.setIfInBounds_toArray, List.set_cons_zero, List.set_cons_succ, i64_w, i32_w]
    rfl
   refine pure_ (i := 28) (N := some 37) (v := undef) (a' := ?_) #[true, true, true, true, true, true, true, true, true, true, true, true, true, true, true, true, true, true, true, true, true, true, true, true, true, true, true, true, true, false, false, false, false] rfl rfl (any_of HT_.out (by kernel_rfl)) (fun _ _ _ h => h) (Or.inr ⟨by rfl, rfl⟩) ?_ ?_
   rotate_left
   ·simp only [Act.put, List.setIfInBounds_toArray, List.set_cons_zero, List.set_cons_succ, i64_w, i32_w]
    rfl
   refine pure_ (i := 29) (N := some 38) (v := undef) (a' := ?_) #[true, true, true, true, true, true, true, true, true, true, true, true, true, true, true, true, true, true, true, true, true, true, true, true, true, true, true, true, true, true, false, false, false] rfl rfl (any_of HT_.out (by kernel_rfl)) (fun _ _ _ h => h) (Or.inr ⟨by rfl, rfl⟩) ?_ ?_
   rotate_left
   ·simp only [Act.put, List.setIfInBounds_toArray, List.set_cons_zero, List.set_cons_succ, i64_w, i32_w]
    rfl
   refine pure_ (i := 30) (N := some 39) (v := undef) (a' := ?_) #[true, true, true, true, true, true, true, true, true, true, true, true, true, true, true, true, true, true, true, true, true, true, true, true, true, true, true, true, true, true, true, false, false] rfl rfl (any_of HT_.out (by kernel_rfl)) (fun _ _ _ h => h) (Or.inr ⟨by rfl, rfl⟩) ?_ ?_
   rotate_left
   ·simp only [Act.put, List.setIfInBounds_toArray, List.set_cons_zero, List.set_cons_succ, i64_w, i32_w]
    rfl
   refine pure_ (i := 31) (N := some 40) (v := ?_) (a' := ?_) #[true, true, true, true, true, true, true, true, true, true, true, true, true, true, true, true, true, true, true, true, true, true, true, true, true, true, true, true, true, true, true, true, false] rfl rfl (any_of HT_.out (by kernel_rfl)) (fun _ _ _ h => h) (Or.inl ⟨by rfl, ?_⟩) ?_ ?_
   rotate_left
   ·intro w'
    go_simp
    with_reducible rfl
   rotate_left
   ·simp only [Act.put, List.setIfInBounds_toArray, List.set_cons_zero, List.set_cons_succ, i64_w, i32_w]
    rfl
   refine pure_ (i := 32) (N := some 41) (v := ?_) (a' := ?_) #[true, true, true, true, true, true, true, true, true, true, true, true, true, true, true, true, true, true, true, true, true, true, true, true, true, true, true, true, true, true, true, true, true] rfl rfl (any_of HT_.out (by kernel_rfl)) (fun _ _ _ h => h) (Or.inl ⟨by rfl, ?_⟩) ?_ ?_
   rotate_left
   ·intro w'
    go_simp
    with_reducible rfl
   rotate_left
   ·simp only [Act.put, List.setIfInBounds_toArray, List.set_cons_zero, List.set_cons_succ, i64_w, i32_w]
    rfl
   refine done_ (done_of HT_.out (by kernel_rfl)) ?_
   try go_wp2
   have n0_ := Aside0.mk (IsS48.drew HI0.out)
   have n1_ := Aside0.mk (keep_drew HK.out)
   have n2_ := Aside0.mk (below_drew1 HB.out)
   clear HI0
   clear HK
   clear HB
   have HI0 := n0_
   have HK := n1_
   have HB := n2_
   clear n0_ n1_ n2_
   refine start_ (n := 15) (S := fun w' => w'.cell? ⟨g, 0, none⟩ = some (.int .i64 s0_0) ∧ w'.cell? ⟨g, 1, none⟩ = some (.int .i64 s0_1) ∧ w'.cell? ⟨g, 2, none⟩ = some (.int .i64 s0_2) ∧ w'.cell? ⟨g, 3, none⟩ = some (.int .i64 s0_3) ∧ w'.cell? ⟨g, 4, none⟩ = some (.int .i64 s0_4) ∧ w'.cell? ⟨g, 5, none⟩ = some (.int .i64 s0_5) ∧ w'.cell? ⟨g, 6, none⟩ = some (.int .i64 s0_6) ∧ w'.cell? ⟨g, 7, none⟩ = some (.int .i64 s0_7) ∧ w'.cell? ⟨g, 8, none⟩ = some (.int .i64 s0_8) ∧ w'.cell? ⟨g, 9, none⟩ = some (.int .i64 s0_9) ∧ w'.cell? ⟨g, 10, none⟩ = some (.int .i64 s0_10) ∧ w'.cell? ⟨g, 12, none⟩ = some (.int .i64 s0_12) ∧ w'.cell? ⟨g, 13, none⟩ = some (.int .i64 s0_13) ∧ w'.cell? ⟨g, 14, none⟩ = some (.int .i64 s0_14) ∧ w'.cell? ⟨g, 15, none⟩ = some (.int .i64 s0_15) ∧ w'.cell? ⟨g, 16, none⟩ = some (.bool false) ∧ w'.cell? ⟨g, 17, none⟩ = some (.bool s0_17)) (ds := [14]) #[false, false, false, false, false, false, false, false, false, false, false, false, false, false, false] (by kernel_rfl) rfl rfl ⟨(IsS48.cell_0 HI0.out), (IsS48.cell_1 HI0.out), (IsS48.cell_2 HI0.out), (IsS48.cell_3 HI0.out), (IsS48.cell_4 HI0.out), (IsS48.cell_5 HI0.out), (IsS48.cell_6 HI0.out), (IsS48.cell_7 HI0.out), (IsS48.cell_8 HI0.out), (IsS48.cell_9 HI0.out), (IsS48.cell_10 HI0.out), (IsS48.cell_12 HI0.out), (IsS48.cell_13 HI0.out), (IsS48.cell_14 HI0.out), (IsS48.cell_15 HI0.out), (IsS48.cell_16 HI0.out), (IsS48.cell_17 HI0.out)⟩ (fun hHeld => ?_); refine with_tabW guard_Guard_Tick.tab5 guard_Guard_Tick.bits5 (fun HT_ HW_ => ?_)
   generalize w21.drew = w22 at HI0 HK HB hHeld ⊢
   refine pure_ (i := 0) (N := some 42) (v := ?_) (a' := ?_) #[true, false, false, false, false, false, false, false, false, false, false, false, false, false, false] rfl rfl (any_of HT_.out (by kernel_rfl)) (fun _ _ _ h => h) (Or.inl ⟨by rfl, ?_⟩) ?_ ?_
   rotate_left
   ·intro w'
    go_simp
    with_reducible rfl
   rotate_left
   ·simp only [Act.put, List.setIfInBounds_toArray, List.set_cons_zero, List.set_cons_succ, i64_w, i32_w]
    rfl
   refine pure_ (i := 1) (N := some 43) (v := ?_) (a' := ?_) #[true, true, false, false, false, false, false, false, false, false, false, false, false, false, false] rfl rfl (any_of HT_.out (by kernel_rfl)) (fun _ _ _ h => h) (Or.inl ⟨by rfl, ?_⟩) ?_ ?_
   rotate_left
   ·intro w'
    go_simp
    with_reducible rfl
   rotate_left
   ·simp only [Act.put, List.setIfInBounds_toArray, List.set_cons_zero, List.set_cons_succ, i64_w, i32_w]
    rfl
   refine pure_ (i := 2) (N := some 44) (v := ?_) (a' := ?_) #[true, true, true, false, false, false, false, false, false, false, false, false, false, false, false] rfl rfl (any_of HT_.out (by kernel_rfl)) (fun _ _ _ h => h) (Or.inl ⟨by rfl, ?_⟩) ?_ ?_
   rotate_left
   ·intro w'
    go_simp
    with_reducible rfl
   rotate_left
   ·simp only [Act.put, List.setIfInBounds_toArray, List.set_cons_zero, List.set_cons_succ, i64_w, i32_w]
    rfl
   refine pure_ (i := 3) (N := some 45) (v := ?_) (a' := ?_) #[true, true, true, true, false, false, false, false, false, false, false, false, false, false, false] rfl rfl (any_of HT_.out (by kernel_rfl)) (fun _ _ _ h => h) (Or.inl ⟨by rfl, ?_⟩) ?_ ?_
   rotate_left
   ·intro w'
    go_simp
    with_reducible rfl
   rotate_left
   ·simp only [Act.put, List.setIfInBounds_toArray, List.set_cons_zero, List.set_cons_succ, i64_w, i32_w]
    rfl
   refine pure_ (i := 6) (N := some 48) (v := ?_) (a' := ?_) #[true, true, true, true, false, false, true, false, false, false, false, false, false, false, false] rfl rfl (any_of HT_.out (by kernel_rfl)) (fun _ _ _ h => h) (Or.inl ⟨by rfl, ?_⟩) ?_ ?_
   rotate_left
   ·intro w'
    go_simp
    with_reducible rfl
   rotate_left
   ·simp only [Act.put, List.setIfInBounds_toArray, List.set_cons_zero, List.set_cons_succ, i64_w, i32_w]
    rfl
   refine pure_ (i := 7) (N := some 49) (v := ?_) (a' := ?_) #[true, true, true, true, false, false, true, true, false, false, false, false, false, false, false] rfl rfl (any_of HT_.out (by kernel_rfl)) (fun _ _ _ h => h) (Or.inl ⟨by rfl, ?_⟩) ?_ ?_
   rotate_left
   ·intro w'
    go_simp
    with_reducible rfl
   rotate_left
   ·simp only [Act.put, List.setIfInBounds_toArray, List.set_cons_zero, List.set_cons_succ, i64_w, i32_w]
    rfl
   refine pure_ (i := 8) (N := some 50) (v := ?_) (a' := ?_) #[true, true, true, true, false, false, true, true, true, false, false, false, false, false, false] rfl rfl (any_of HT_.out (by kernel_rfl)) (fun _ _ _ h => h) (Or.inl ⟨by rfl, ?_⟩) ?_ ?_
   rotate_left
   ·intro w'
    go_simp
    with_reducible rfl
   rotate_left
   ·simp only [Act.put, List.setIfInBounds_toArray, List.set_cons_zero, List.set_cons_succ, i64_w, i32_w]
    rfl
   refine pure_ (i := 9) (N := some 51) (v := ?_) (a' := ?_) #[true, true, true, true, false, false, true, true, true, true, false, false, false, false, false] rfl rfl (any_of HT_.out (by kernel_rfl)) (fun _ _ _ h => h) (Or.inl ⟨by rfl, ?_⟩) ?_ ?_
   rotate_left
   ·intro w'
    go_simp
    with_reducible rfl
   rotate_left
   ·simp only [Act.put, List.setIfInBounds_toArray, List.set_cons_zero, List.set_cons_succ, i64_w, i32_w]
    rfl
   refine take_ (i := 4) (N := some 46) (v := ?_) (a' := ?_) #[true, true, true, true, true, false, true, true, true, true, false, false, false, false, false] rfl rfl (take_ofW HT_.out HW_.out (by kernel_rfl)) (fun _ _ _ h => h) (Or.inl ⟨by rfl, ?_⟩) hHeld ?_ ?_
   rotate_left
   ·rintro w' ⟨s0, s1, s2, s3, s4, s5, s6, s7, s8, s9, s10, s11, s12, s13, s14, s15, s16⟩
    go_simp
    with_reducible rfl
   rotate_left
   ·simp only [Act.put, List.setIfInBounds_toArray, List.set_cons_zero, List.set_cons_succ, i64_w, i32_w]
    rfl
   refine take_ (i := 10) (N := some 52) (v := ?_) (a' := ?_) #[true, true, true, true, true, false, true, true, true, true, true, false, false, false, false] rfl rfl (take_ofW HT_.out HW_.out (by kernel_rfl)) (fun _ _ _ h => h) (Or.inl ⟨by rfl, ?_⟩) hHeld ?_ ?_
   rotate_left
   ·rintro w' ⟨s0, s1, s2, s3, s4, s5, s6, s7, s8, s9, s10, s11, s12, s13, s14, s15, s16⟩
    go_simp
    with_reducible rfl
   rotate_left
   ·simp only [Act.put, List.setIfInBounds_toArray, List.set_cons_zero, List.set_cons_succ, i64_w, i32_w]
    rfl
   refine one_ (i := 5) (N := some 47) #[true, true, true, true, true, true, true, true, true, true, true, false, false, false, false] rfl rfl (one_of HT_.out (by kernel_rfl)) (by decide) (fun K hK => ?_)
   refine goes_ Try.func21 (by kernel_rfl) rfl #[.int .i64 s0_13, .int .i64 1, .int .i64 2, .int .i64 1] (by rfl) rfl rfl (by (try simp only [List.map_toArray, List.map_cons, List.map_nil]); first | done | rfl | (simp only [List.length_drop, List.length_take]; rfl)) ?_
   with_reducible refine (muldiv_Do.calls s0_13 1 2 1 t123 _ A18.out).mono ?_
   rintro e w23 ⟨rfl, hb⟩
   refine ⟨_, rfl, ?_⟩
   have n0_ := Aside0.mk (IsS48.below (by repeat (first | (with_reducible first | exact HI0.out | apply IsS48.alloc | apply IsS48.drewN | apply IsS48.drew | apply IsS48.set_0 | apply IsS48.set_1 | apply IsS48.set_2 | apply IsS48.set_3 | apply IsS48.set_4 | apply IsS48.set_5 | apply IsS48.set_6 | apply IsS48.set_7 | apply IsS48.set_8 | apply IsS48.set_9 | apply IsS48.set_10 | apply IsS48.set_12 | apply IsS48.set_13 | apply IsS48.set_14 | apply IsS48.set_15 | apply IsS48.set_16 | apply IsS48.set_17) | exact HI0.out)) hb)
   have n1_ := Aside0.mk (KeepBut.trans (by repeat (first | (with_reducible first | exact HK.out | apply KeepBut.set_ | apply keep_drewN | apply keep_drew | apply keep_alloc) | exact HK.out)) (KeepBut.of_below hb g none) (.inl rfl))
   have n2_ := Aside0.mk (below_step (by repeat (first | (with_reducible first | exact HB.out | apply below_alloc | apply pw_below_drewN | apply below_drew1 | refine below_set ?_ (IsS48.ge HI0.out)) | exact HB.out)) hb)
   clear HI0
   clear HK
   clear HB
   have HI0 := n0_
   have HK := n1_
   have HB := n2_
   clear n0_ n1_ n2_
   (try clear hb)
   (try clear hb2)
   (try clear hk)
   (try clear hi)
   refine hK.out _ _ ⟨(IsS48.cell_0 HI0.out), (IsS48.cell_1 HI0.out), (IsS48.cell_2 HI0.out), (IsS48.cell_3 HI0.out), (IsS48.cell_4 HI0.out), (IsS48.cell_5 HI0.out), (IsS48.cell_6 HI0.out), (IsS48.cell_7 HI0.out), (IsS48.cell_8 HI0.out), (IsS48.cell_9 HI0.out), (IsS48.cell_10 HI0.out), (IsS48.cell_12 HI0.out), (IsS48.cell_13 HI0.out), (IsS48.cell_14 HI0.out), (IsS48.cell_15 HI0.out), (IsS48.cell_16 HI0.out), (IsS48.cell_17 HI0.out)⟩ (fun hHeld => ?_)
   clear hK K
   refine norm_ (a' := ?_) ?_ ?_
   rotate_left
   ·show Act.put _ (some 47) _ = _
    simp only [Act.put, List.setIfInBounds_toArray, List.set_cons_zero, List.set_cons_succ, i64_w, i32_w]
    rfl
   refine pure_ (i := 11) (N := some 53) (v := ?_) (a' := ?_) #[true, true, true, true, true, true, true, true, true, true, true, true, false, false, false] rfl rfl (any_of HT_.out (by kernel_rfl)) (fun _ _ _ h => h) (Or.inl ⟨by rfl, ?_⟩) ?_ ?_
   rotate_left
   ·intro w'
    go_simp
    with_reducible rfl
   rotate_left
   ·simp only [Act.put, List.setIfInBounds_toArray, List.set_cons_zero, List.set_cons_succ, i64_w, i32_w]
    rfl
   refine pure_ (i := 12) (N := some 54) (v := ?_) (a' := ?_) #[true, true, true, true, true, true, true, true, true, true, true, true, true, false, false] rfl rfl (any_of HT_.out (by kernel_rfl)) (fun _ _ _ h => h) (Or.inl ⟨by rfl, ?_⟩) ?_ ?_
   rotate_left
   ·intro w'
    go_simp
    with_reducible rfl
   rotate_left
   ·simp only [Act.put, List.setIfInBounds_toArray, List.set_cons_zero, List.set_cons_succ, i64_w, i32_w]
    rfl
   refine pure_ (i := 13) (N := some 55) (v := ?_) (a' := ?_) #[true, true, true, true, true, true, true, true, true, true, true, true, true, true, false] rfl rfl (any_of HT_.out (by kernel_rfl)) (fun _ _ _ h => h) (Or.inl ⟨by rfl, ?_⟩) ?_ ?_
   rotate_left
   ·intro w'
    go_simp
    with_reducible rfl
   rotate_left
   ·simp only [Act.put, List.setIfInBounds_toArray, List.set_cons_zero, List.set_cons_succ, i64_w, i32_w]
    rfl
   refine last_ (i := 14) (N := none) #[true, true, true, true, true, true, true, true, true, true, true, true, true, true, true] rfl rfl (one_of HT_.out (by kernel_rfl)) (by decide) (fun K hK => ?_)
   have hs24 : w23.cell? ⟨g, 13, none⟩ = some (.int .i64 s0_13) := IsS48.cell_13 HI0.out
   have hfs24 := IsS48.froz_13 HI0.out
   refine skip_ (w1 := ?_) (by rfl) rfl ?_ ?_
   rotate_left
   ·go_simp
    rfl
   refine hK.out _ _ ?_
   clear hK K
   refine done_ (done_of HT_.out (by kernel_rfl)) ?_
   obtain ⟨ASz25_11, cSz25_11, HGz25, hgz25, HSz25_11⟩ := HI0.out
   have hcz25_0 := cellS48_0 HGz25
   have hcz25_1 := cellS48_1 HGz25
   have hcz25_2 := cellS48_2 HGz25
   have hcz25_3 := cellS48_3 HGz25
   have hcz25_4 := cellS48_4 HGz25
   have hcz25_5 := cellS48_5 HGz25
   have hcz25_6 := cellS48_6 HGz25
   have hcz25_7 := cellS48_7 HGz25
   have hcz25_8 := cellS48_8 HGz25
   have hcz25_9 := cellS48_9 HGz25
   have hcz25_10 := cellS48_10 HGz25
   have hcz25_11 := cellS48_11 HGz25
   have hcz25_12 := cellS48_12 HGz25
   have hcz25_13 := cellS48_13 HGz25
   have hcz25_14 := cellS48_14 HGz25
   have hcz25_15 := cellS48_15 HGz25
   have hcz25_16 := cellS48_16 HGz25
   have hcz25_17 := cellS48_17 HGz25
   have hfz25_0 := blk_frozen HGz25 0
   have hfz25_1 := blk_frozen HGz25 1
   have hfz25_2 := blk_frozen HGz25 2
   have hfz25_3 := blk_frozen HGz25 3
   have hfz25_4 := blk_frozen HGz25 4
   have hfz25_5 := blk_frozen HGz25 5
   have hfz25_6 := blk_frozen HGz25 6
   have hfz25_7 := blk_frozen HGz25 7
   have hfz25_8 := blk_frozen HGz25 8
   have hfz25_9 := blk_frozen HGz25 9
   have hfz25_10 := blk_frozen HGz25 10
   have hfz25_12 := blk_frozen HGz25 12
   have hfz25_13 := blk_frozen HGz25 13
   have hfz25_14 := blk_frozen HGz25 14
   have hfz25_15 := blk_frozen HGz25 15
   have hfz25_16 := blk_frozen HGz25 16
   have hfz25_17 := blk_frozen HGz25 17
   clear HGz25 hgz25
   try go_wp2
   go_ret
   exact ⟨by first | rfl | (simp [errW_none, errW_some] <;> rfl) | (simp only [← hji19]; first | rfl | (simp [errW_none, errW_some] <;> rfl)) | (simp [*, errW_none, errW_some] <;> rfl), by repeat (first | (with_reducible first | exact HI0.out | apply IsS48.alloc | apply IsS48.drewN | apply IsS48.drew | apply IsS48.set_0 | apply IsS48.set_1 | apply IsS48.set_2 | apply IsS48.set_3 | apply IsS48.set_4 | apply IsS48.set_5 | apply IsS48.set_6 | apply IsS48.set_7 | apply IsS48.set_8 | apply IsS48.set_9 | apply IsS48.set_10 | apply IsS48.set_12 | apply IsS48.set_13 | apply IsS48.set_14 | apply IsS48.set_15 | apply IsS48.set_16 | apply IsS48.set_17) | exact HI0.out), by repeat (first | (with_reducible first | exact HB.out | apply below_alloc | apply pw_below_drewN | apply below_drew1 | refine below_set ?_ (IsS48.ge HI0.out)) | exact HB.out), by repeat (first | (with_reducible first | exact HK.out | apply KeepBut.set_ | apply keep_drewN | apply keep_drew | apply keep_alloc) | exact HK.out)⟩
 ·rw [if_neg c4] at H
  have c4b0 : decide (s0_7 < (wrap64 (t121 - s0_14))) = false := decide_eq_false c4
  clear c4
  simp only [Option.some.injEq, Prod.mk.injEq] at H
  obtain ⟨rfl, rfl, rfl, rfl, rfl, rfl, rfl, rfl, rfl, rfl, rfl, rfl, rfl, rfl, rfl, rfl, rfl, rfl⟩ := H
  go_enter Try.func17, Try.ntmps17
  try go_wp2_with (first | ((with_reducible refine gate_callee (f := 19) rfl ?_); refine goesL_ (some 8) rfl rfl Try.func19 (by kernel_rfl) rfl #[.int .i64 a1, .int .i64 0, .int .i64 1125899906842624] rfl (by (try simp only [List.map_toArray, List.map_cons, List.map_nil]); first | done | rfl | (simp only [List.length_drop, List.length_take]; rfl)) ?_; (with_reducible refine (sat_Clamp.calls a1 0 1125899906842624 t121 _ A3.out).mono ?_); rintro e w' ⟨rfl, ⟨nd, rfl⟩⟩; refine ⟨_, rfl, ?_⟩))
  (generalize hq_ : World.drewN w _ = w26; have n0_ : Aside0 (IsS48 w0 w26 g s0_0 s0_1 s0_2 s0_3 s0_4 s0_5 s0_6 s0_7 s0_8 s0_9 s0_10 s0_11 s0_12 s0_13 s0_14 s0_15 s0_16 s0_17) := ⟨by rw [← hq_]; exact (by repeat (first | (with_reducible first | exact HI0.out | apply IsS48.alloc | apply IsS48.drewN | apply IsS48.drew | apply IsS48.set_0 | apply IsS48.set_1 | apply IsS48.set_2 | apply IsS48.set_3 | apply IsS48.set_4 | apply IsS48.set_5 | apply IsS48.set_6 | apply IsS48.set_7 | apply IsS48.set_8 | apply IsS48.set_9 | apply IsS48.set_10 | apply IsS48.set_12 | apply IsS48.set_13 | apply IsS48.set_14 | apply IsS48.set_15 | apply IsS48.set_16 | apply IsS48.set_17) | exact HI0.out))⟩; have n1_ : Aside0 (KeepBut w w26 g none) := ⟨by rw [← hq_]; exact (by repeat (first | (with_reducible first | exact HK.out | apply KeepBut.set_ | apply keep_drewN | apply keep_drew | apply keep_alloc) | exact HK.out))⟩; have n2_ : Aside0 (Below w0.heap.size w0 w26) := ⟨by rw [← hq_]; exact (by repeat (first | (with_reducible first | exact HB.out | apply below_alloc | apply pw_below_drewN | apply below_drew1 | refine below_set ?_ (IsS48.ge HI0.out)) | exact HB.out))⟩; clear HI0 HK HB hq_; have HI0 := n0_; have HK := n1_; have HB := n2_; clear n0_ n1_ n2_)
  have n0_ := Aside0.mk (IsS48.drew HI0.out)
  have n1_ := Aside0.mk (keep_drew HK.out)
  have n2_ := Aside0.mk (below_drew1 HB.out)
  clear HI0
  clear HK
  clear HB
  have HI0 := n0_
  have HK := n1_
  have HB := n2_
  clear n0_ n1_ n2_
  refine start_ (n := 33) (S := fun w' => w'.cell? ⟨g, 0, none⟩ = some (.int .i64 s0_0) ∧ w'.cell? ⟨g, 1, none⟩ = some (.int .i64 s0_1) ∧ w'.cell? ⟨g, 2, none⟩ = some (.int .i64 s0_2) ∧ w'.cell? ⟨g, 3, none⟩ = some (.int .i64 s0_3) ∧ w'.cell? ⟨g, 4, none⟩ = some (.int .i64 s0_4) ∧ w'.cell? ⟨g, 5, none⟩ = some (.int .i64 s0_5) ∧ w'.cell? ⟨g, 6, none⟩ = some (.int .i64 s0_6) ∧ w'.cell? ⟨g, 7, none⟩ = some (.int .i64 s0_7) ∧ w'.cell? ⟨g, 8, none⟩ = some (.int .i64 s0_8) ∧ w'.cell? ⟨g, 9, none⟩ = some (.int .i64 s0_9) ∧ w'.cell? ⟨g, 10, none⟩ = some (.int .i64 s0_10) ∧ w'.cell? ⟨g, 12, none⟩ = some (.int .i64 s0_12) ∧ w'.cell? ⟨g, 13, none⟩ = some (.int .i64 s0_13) ∧ w'.cell? ⟨g, 14, none⟩ = some (.int .i64 s0_14) ∧ w'.cell? ⟨g, 15, none⟩ = some (.int .i64 s0_15) ∧ w'.cell? ⟨g, 16, none⟩ = some (.bool s0_16) ∧ w'.cell? ⟨g, 17, none⟩ = some (.bool s0_17)) (ds := []) #[false, false, false, false, false, false, false, false, false, false, false, false, false, false, false, false, false, false, false, false, false, false, false, false, false, false, false, false, false, false, false, false, false] (by kernel_rfl) rfl rfl ⟨(IsS48.cell_0 HI0.out), (IsS48.cell_1 HI0.out), (IsS48.cell_2 HI0.out), (IsS48.cell_3 HI0.out), (IsS48.cell_4 HI0.out), (IsS48.cell_5 HI0.out), (IsS48.cell_6 HI0.out), (IsS48.cell_7 HI0.out), (IsS48.cell_8 HI0.out), (IsS48.cell_9 HI0.out), (IsS48.cell_10 HI0.out), (IsS48.cell_12 HI0.out), (IsS48.cell_13 HI0.out), (IsS48.cell_14 HI0.out), (IsS48.cell_15 HI0.out), (IsS48.cell_16 HI0.out), (IsS48.cell_17 HI0.out)⟩ (fun hHeld => ?_); refine with_tabW guard_Guard_Tick.tab4 guard_Guard_Tick.bits4 (fun HT_ HW_ => ?_)
  generalize w26.drew = w27 at HI0 HK HB hHeld ⊢
  refine pure_ (i := 0) (N := some 9) (v := ?_) (a' := ?_) #[true, false, false, false, false, false, false, false, false, false, false, false, false, false, false, false, false, false, false, false, false, false, false, false, false, false, false, false, false, false, false, false, false] rfl rfl (any_of HT_.out (by kernel_rfl)) (fun _ _ _ h => h) (Or.inl ⟨by rfl, ?_⟩) ?_ ?_
  rotate_left
  ·intro w'
   go_simp
   with_reducible rfl
  rotate_left
  ·simp only [Act.put, List.setIfInBounds_toArray, List.set_cons_zero, List.set_cons_succ, i64_w, i32_w]
   rfl
  refine pure_ (i := 1) (N := some 10) (v := ?_) (a' := ?_) #[true, true, false, false, false, false, false, false, false, false, false, false, false, false, false, false, false, false, false, false, false, false, false, false, false, false, false, false, false, false, false, false, false] rfl rfl (any_of HT_.out (by kernel_rfl)) (fun _ _ _ h => h) (Or.inl ⟨by rfl, ?_⟩) ?_ ?_
  rotate_left
  ·intro w'
   go_simp
   with_reducible rfl
  rotate_left
  ·simp only [Act.put, List.setIfInBounds_toArray, List.set_cons_zero, List.set_cons_succ, i64_w, i32_w]
   rfl
  refine pure_ (i := 2) (N := some 11) (v := ?_) (a' := ?_) #[true, true, true, false, false, false, false, false, false, false, false, false, false, false, false, false, false, false, false, false, false, false, false, false, false, false, false, false, false, false, false, false, false] rfl rfl (any_of HT_.out (by kernel_rfl)) (fun _ _ _ h => h) (Or.inl ⟨by rfl, ?_⟩) ?_ ?_
  rotate_left
  ·intro w'
   go_simp
   with_reducible rfl
  rotate_left
  ·simp only [Act.put, List.setIfInBounds_toArray, List.set_cons_zero, List.set_cons_succ, i64_w, i32_w]
   rfl
  refine pure_ (i := 3) (N := some 12) (v := ?_) (a' := ?_) #[true, true, true, true, false, false, false, false, false, false, false, false, false, false, false, false, false, false, false, false, false, false, false, false, false, false, false, false, false, false, false, false, false] rfl rfl (any_of HT_.out (by kernel_rfl)) (fun _ _ _ h => h) (Or.inl ⟨by rfl, ?_⟩) ?_ ?_
  rotate_left
  ·intro w'
   go_simp
   with_reducible rfl
  rotate_left
  ·simp only [Act.put, List.setIfInBounds_toArray, List.set_cons_zero, List.set_cons_succ, i64_w, i32_w]
   rfl
  refine pure_ (i := 6) (N := some 15) (v := ?_) (a' := ?_) #[true, true, true, true, false, false, true, false, false, false, false, false, false, false, false, false, false, false, false, false, false, false, false, false, false, false, false, false, false, false, false, false, false] rfl rfl (any_of HT_.out (by kernel_rfl)) (fun _ _ _ h => h) (Or.inl ⟨by rfl, ?_⟩) ?_ ?_
  rotate_left
  ·intro w'
   go_simp
   with_reducible rfl
  rotate_left
  ·simp only [Act.put, List.setIfInBounds_toArray, List.set_cons_zero, List.set_cons_succ, i64_w, i32_w]
   rfl
  refine pure_ (i := 7) (N := some 16) (v := ?_) (a' := ?_) #[true, true, true, true, false, false, true, true, false, false, false, false, false, false, false, false, false, false, false, false, false, false, false, false, false, false, false, false, false, false, false, false, false] rfl rfl (any_of HT_.out (by kernel_rfl)) (fun _ _ _ h => h) (Or.inl ⟨by rfl, ?_⟩) ?_ ?_
  rotate_left
  ·intro w'
   go_simp
   with_reducible rfl
  rotate_left
  ·simp only [Act.put, List.setIfInBounds_toArray, List.set_cons_zero, List.set_cons_succ, i64_w, i32_w]
   rfl
  refine pure_ (i := 8) (N := some 17) (v := ?_) (a' := ?_) #[true, true, true, true, false, false, true, true, true, false, false, false, false, false, false, false, false, false, false, false, false, false, false, false, false, false, false, false, false, false, false, false, false] rfl rfl (any_of HT_.out (by kernel_rfl)) (fun _ _ _ h => h) (Or.inl ⟨by rfl, ?_⟩) ?_ ?_
  rotate_left
  ·intro w'
   go_simp
   with_reducible rfl
  rotate_left
  ·simp only [Act.put, List.setIfInBounds_toArray, List.set_cons_zero, List.set_cons_succ, i64_w, i32_w]
   rfl
  refine pure_ (i := 9) (N := some 18) (v := ?_) (a' := ?_) #[true, true, true, true, false, false, true, true, true, true, false, false, false, false, false, false, false, false, false, false, false, false, false, false, false, false, false, false, false, false, false, false, false] rfl rfl (any_of HT_.out (by kernel_rfl)) (fun _ _ _ h => h) (Or.inl ⟨by rfl, ?_⟩) ?_ ?_
  rotate_left
  ·intro w'
   go_simp
   with_reducible rfl
  rotate_left
  ·simp only [Act.put, List.setIfInBounds_toArray, List.set_cons_zero, List.set_cons_succ, i64_w, i32_w]
   rfl
  refine take_ (i := 4) (N := some 13) (v := ?_) (a' := ?_) #[true, true, true, true, true, false, true, true, true, true, false, false, false, false, false, false, false, false, false, false, false, false, false, false, false, false, false, false, false, false, false, false, false] rfl rfl (take_ofW HT_.out HW_.out (by kernel_rfl)) (fun _ _ _ h => h) (Or.inl ⟨by rfl, ?_⟩) hHeld ?_ ?_
  rotate_left
  ·rintro w' ⟨s0, s1, s2, s3, s4, s5, s6, s7, s8, s9, s10, s11, s12, s13, s14, s15, s16⟩
   go_simp
   with_reducible rfl
  rotate_left
  ·simp only [Act.put, List.setIfInBounds_toArray, List.set_cons_zero, List.set_cons_succ, i64_w, i32_w]
   rfl
  refine pure_ (i := 5) (N := some 14) (v := ?_) (a' := ?_) #[true, true, true, true, true, true, true, true, true, true, false, false, false, false, false, false, false, false, false, false, false, false, false, false, false, false, false, false, false, false, false, false, false] rfl rfl (any_of HT_.out (by kernel_rfl)) (fun _ _ _ h => h) (Or.inl ⟨by rfl, ?_⟩) ?_ ?_
  rotate_left
  ·intro w'
   go_simp
   with_reducible rfl
  rotate_left
  ·simp only [Act.put, List.setIfInBounds_toArray, List.set_cons_zero, List.set_cons_succ, i64_w, i32_w]
   rfl
  refine take_ (i := 10) (N := some 19) (v := ?_) (a' := ?_) #[true, true, true, true, true, true, true, true, true, true, true, false, false, false, false, false, false, false, false, false, false, false, false, false, false, false, false, false, false, false, false, false, false] rfl rfl (take_ofW HT_.out HW_.out (by kernel_rfl)) (fun _ _ _ h => h) (Or.inl ⟨by rfl, ?_⟩) hHeld ?_ ?_
  rotate_left
  ·rintro w' ⟨s0, s1, s2, s3, s4, s5, s6, s7, s8, s9, s10, s11, s12, s13, s14, s15, s16⟩
   go_simp
   with_reducible rfl
  rotate_left
  ·simp only [Act.put, List.setIfInBounds_toArray, List.set_cons_zero, List.set_cons_succ, i64_w, i32_w]
   rfl
  refine pure_ (i := 11) (N := some 20) (v := ?_) (a' := ?_) #[true, true, true, true, true, true, true, true, true, true, true, true, false, false, false, false, false, false, false, false, false, false, false, false, false, false, false, false, false, false, false, false, false] rfl rfl (any_of HT_.out (by kernel_rfl)) (fun _ _ _ h => h) (Or.inl ⟨by rfl, ?_⟩) ?_ ?_
  rotate_left
  ·intro w'
   go_simp
   with_reducible rfl
  rotate_left
  ·simp only [Act.put, List.setIfInBounds_toArray, List.set_cons_zero, List.set_cons_succ, i64_w, i32_w]
   rfl
  refine pure_ (i := 12) (N := some 21) (v := ?_) (a' := ?_) #[true, true, true, true, true, true, true, true, true, true, true, true, true, false, false, false, false, false, false, false, false, false, false, false, false, false, false, false, false, false, false, false, false] rfl rfl (any_of HT_.out (by kernel_rfl)) (fun _ _ _ h => h) (Or.inl ⟨by rfl, ?_⟩) ?_ ?_
  rotate_left
  ·intro w'
   go_simp
   with_reducible rfl
  rotate_left
  ·simp only [Act.put, List.setIfInBounds_toArray, List.set_cons_zero, List.set_cons_succ, i64_w, i32_w]
   rfl
  refine pure_ (i := 13) (N := some 22) (v := undef) (a' := ?_) #[true, true, true, true, true, true, true, true, true, true, true, true, true, true, false, false, false, false, false, false, false, false, false, false, false, false, false, false, false, false, false, false, false] rfl rfl (any_of HT_.out (by kernel_rfl)) (fun _ _ _ h => h) (Or.inr ⟨by rfl, rfl⟩) ?_ ?_
  rotate_left
  ·simp only [Act.put, List.setIfInBounds_toArray, List.set_cons_zero, List.set_cons_succ, i64_w, i32_w]
   rfl
  refine pure_ (i := 14) (N := some 23) (v := undef) (a' := ?_) #[true, true, true, true, true, true, true, true, true, true, true, true, true, true, true, false, false, false, false, false, false, false, false, false, false, false, false, false, false, false, false, false, false] rfl rfl (any_of HT_.out (by kernel_rfl)) (fun _ _ _ h => h) (Or.inr ⟨by rfl, rfl⟩) ?_ ?_
  rotate_left
  ·simp only [Act.put, List.setIfInBounds_toArray, List.set_cons_zero, List.set_cons_succ, i64_w, i32_w]
   rfl
  refine pure_ (i := 15) (N := some 24) (v := undef) (a' := ?_) #[true, true, true, true, true, true, true, true, true, true, true, true, true, true, true, true, false, false, false, false, false, false, false, false, false, false, false, false, false, false, false, false, false] rfl rfl (any_of HT_.out (by kernel_rfl)) (fun _ _ _ h => h) (Or.inr ⟨by rfl, rfl⟩) ?_ ?_
  rotate_left
  ·simp only [Act.put, List.setIfInBounds_toArray, List.set_cons_zero, List.set_cons_succ, i64_w, i32_w]
   rfl
  refine pure_ (i := 16) (N := some 25) (v := undef) (a' := ?_) #[true, true, true, true, true, true, true, true, true, true, true, true, true, true, true, true, true, false, false, false, false, false, false, false, false, false, false, false, false, false, false, false, false] rfl rfl (any_of HT_.out (by kernel_rfl)) (fun _ _ _ h => h) (Or.inr ⟨by rfl, rfl⟩) ?_ ?_
  rotate_left
  ·simp only [Act.put, List.setIfInBounds_toArray, List.set_cons_zero, List.set_cons_succ, i64_w, i32_w]
   rfl
  refine pure_ (i := 17) (N := some 26) (v := undef) (a' := ?_) #[true, true, true, true, true, true, true, true, true, true, true, true, true, true, true, true, true, true, false, false, false, false, false, false, false, false, false, false, false, false, false, false, false] rfl rfl (any_of HT_.out (by kernel_rfl)) (fun _ _ _ h => h) (Or.inr ⟨by rfl, rfl⟩) ?_ ?_
  rotate_left
  ·simp only [Act.put, List.setIfInBounds_toArray, List.set_cons_zero, List.set_cons_succ, i64_w, i32_w]
   rfl
  refine pure_ (i := 18) (N := some 27) (v := undef) (a' := ?_) #[true, true, true, true, true, true, true, true, true, true, true, true, true, true, true, true, true, true, true, false, false, false, false, false, false, false, false, false, false, false, false, false, false] rfl rfl (any_of HT_.out (by kernel_rfl)) (fun _ _ _ h => h) (Or.inr ⟨by rfl, rfl⟩) ?_ ?_
  rotate_left
  ·simp only [Act.put, List.setIfInBounds_toArray, List.set_cons_zero, List.set_cons_succ, i64_w, i32_w]
   rfl
  refine pure_ (i := 19) (N := some 28) (v := undef) (a' := ?_) #[true, true, true, true, true, true, true, true, true, true, true, true, true, true, true, true, true, true, true, true, false, false, false, false, false, false, false, false, false, false, false, false, false] rfl rfl (any_of HT_.out (by kernel_rfl)) (fun _ _ _ h => h) (Or.inr ⟨by rfl, rfl⟩) ?_ ?_
  rotate_left
  ·simp only [Act.put, List.setIfInBounds_toArray, List.set_cons_zero, List.set_cons_succ, i64_w, i32_w]
   rfl
  refine pure_ (i := 20) (N := some 29) (v := undef) (a' := ?_) #[true, true, true, true, true, true, true, true, true, true, true, true, true, true, true, true, true, true, true, true, true, false, false, false, false, false, false, false, false, false, false, false, false] rfl rfl (any_of HT_.out (by kernel_rfl)) (fun _ _ _ h => h) (Or.inr ⟨by rfl, rfl⟩) ?_ ?_
  rotate_left
  ·simp only [Act.put, List.setIfInBounds_toArray, List.set_cons_zero, List.set_cons_succ, i64_w, i32_w]
   rfl
  refine pure_ (i := 21) (N := some 30) (v := undef) (a' := ?_) #[true, true, true, true, true, true, true, true, true, true, true, true, true, true, true, true, true, true, true, true, true, true, false, false, false, false, false, false, false, false, false, false, false] rfl rfl (any_of HT_.out (by kernel_rfl)) (fun _ _ _ h => h) (Or.inr ⟨by rfl, rfl⟩) ?_ ?_
  rotate_left
  ·simp only [Act.put, List.setIfInBounds_toArray, List.set_cons_zero, List.set_cons_succ, i64_w, i32_w]
   rfl
  refine pure_ (i := 22) (N := some 31) (v := undef) (a' := ?_) #[true, true, true, true, true, true, true, true, true, true, true, true, true, true, true, true, true, true, true, true, true, true, true, false, false, false, false, false, false, false, false, false, false] rfl rfl (any_of HT_.out (by kernel_rfl)) (fun _ _ _ h => h) (Or.inr ⟨by rfl, rfl⟩) ?_ ?_
  rotate_left
  ·simp only [Act.put, List.setIfInBounds_toArray, List.set_cons_zero, List.set_cons_succ, i64_w, i32_w]
   rfl
  refine pure_ (i := 23) (N := some 32) (v := undef) (a' := ?_) #[true, true, true, true, true, true, true, true, true, true, true, true, true, true, true, true, true, true, true, true, true, true, true, true, false, false, false, false, false, false, false, false, false] rfl rfl (any_of HT_.out (by kernel_rfl)) (fun _ _ _ h => h) (Or.inr ⟨by rfl, rfl⟩) ?_ ?_
  rotate_left
  ·simp only [Act.put, List.setIfInBounds_toArray, List.set_cons_zero, List.set_cons_succ, i64_w, i32_w]
   rfl
  refine pure_ (i := 24) (N := some 33) (v := undef) (a' := ?_) #[true, true, true, true, true, true, true, true, true, true, true, true, true, true, true, true, true, true, true, true, true, true, true, true, true, false, false, false, false, false, false, false, false] rfl rfl (any_of HT_.out (by kernel_rfl)) (fun _ _ _ h => h) (Or.inr ⟨by rfl, rfl⟩) ?_ ?_
  rotate_left
  ·simp only [Act.put, List.setIfInBounds_toArray, List.set_cons_zero, List.set_cons_succ, i64_w, i32_w]
   rfl
  refine pure_ (i := 25) (N := some 34) (v := undef) (a' := ?_) #[true, true, true, true, true, true, true, true, true, true, true, true, true, true, true, true, true, true, true, true, true, true, true, true, true, true, false, false, false, false, false, false, false] rfl rfl (any_of HT_.out (by kernel_rfl)) (fun _ _ _ h => h) (Or.inr ⟨by rfl, rfl⟩) ?_ ?_
  rotate_left
  ·simp only [Act.put, List.setIfInBounds_toArray, List.set_cons_zero, List.set_cons_succ, i64_w, i32_w]
   rfl
  refine pure_ (i := 26) (N := some 35) (v := undef) (a' := ?_) #[true, true, true, true, true, true, true, true, true, true, true, true, true, true, true, true, true, true, true, true, true, true, true, true, true, true, true, false, false, false, false, false, false] rfl rfl (any_of HT_.out (by kernel_rfl)) (fun _ _ _ h => h) (Or.inr ⟨by rfl, rfl⟩) ?_ ?_
  rotate_left
  ·simp only [Act.put, List.setIfInBounds_toArray, List.set_cons_zero, List.set_cons_succ, i64_w, i32_w]
   rfl
  refine pure_ (i := 27) (N := some 36) (v := undef) (a' := ?_) #[true, true, true, true, true, true, true, true, true, true, true, true, true, true, true, true, true, true, true, true, true, true, true, true, true, true, true, true, false, false, false, false, false] rfl rfl (any_of HT_.out (by kernel_rfl)) (fun _ _ _ h => h) (Or.inr ⟨by rfl, rfl⟩) ?_ ?_
  rotate_left
  ·simp only [Act.put, List.setIfInBounds_toArray, List.set_cons_zero, List.set_cons_succ, i64_w, i32_w]
   rfl
  refine pure_ (i := 28) (N := some 37) (v := undef) (a' := ?_) #[true, true, true, true, true, true, true, true, true, true, true, true, true, true, true, true, true, true, true, true, true, true, true, true, true, true, true, true, true, false, false, false, false] rfl rfl (any_of HT_.out (by kernel_rfl)) (fun _ _ _ h => h) (Or.inr ⟨by rfl, rfl⟩) ?_ ?_
  rotate_left
  ·simp only [Act.put, List.setIfInBounds_toArray, List.set_cons_zero, List.set_cons_succ, i64_w, i32_w]
   rfl
  refine pure_ (i := 29) (N := some 38) (v := undef) (a' := ?_) #[true, true, true, true, true, true, true, true, true, true, true, true, true, true, true, true, true, true, true, true, true, true, true, true, true, true, true, true, true, true, false, false, false] rfl rfl (any_of HT_.out (by kernel_rfl)) (fun _ _ _ h => h) (Or.inr ⟨by rfl, rfl⟩) ?_ ?_
  rotate_left
  ·simp only [Act.put, List.setIfInBounds_toArray, List.set_cons_zero, List.set_cons_succ, i64_w, i32_w]
   rfl
  refine pure_ (i := 30) (N := some 39) (v := undef) (a' := ?_) #[true, true, true, true, true, true, true, true, true, true, true, true, true, true, true, true, true, true, true, true, true, true, true, true, true, true, true, true, true, true, true, false, false] rfl rfl (any_of HT_.out (by kernel_rfl)) (fun _ _ _ h => h) (Or.inr ⟨by rfl, rfl⟩) ?_ ?_
  rotate_left
  ·simp only [Act.put, List.setIfInBounds_toArray, List.set_cons_zero, List.set_cons_succ, i64_w, i32_w]
   rfl
  refine pure_ (i := 31) (N := some 40) (v := undef) (a' := ?_) #[true, true, true, true, true, true, true, true, true, true, true, true, true, true, true, true, true, true, true, true, true, true, true, true, true, true, true, true, true, true, true, true, false] rfl rfl (any_of HT_.out (by kernel_rfl)) (fun _ _ _ h => h) (Or.inr ⟨by rfl, rfl⟩) ?_ ?_
  rotate_left
  ·simp only [Act.put, List.setIfInBounds_toArray, List.set_cons_zero, List.set_cons_succ, i64_w, i32_w]
   rfl
  refine pure_ (i := 32) (N := some 41) (v := ?_) (a' := ?_) #[true, true, true, true, true, true, true, true, true, true, true, true, true, true, true, true, true, true, true, true, true, true, true, true, true, true, true, true, true, true, true, true, true] rfl rfl (any_of HT_.out (by kernel_rfl)) (fun _ _ _ h => h) (Or.inl ⟨by rfl, ?_⟩) ?_ ?_
  rotate_left
  ·intro w'
   go_simp
   with_reducible rfl
  rotate_left
  ·simp only [Act.put, List.setIfInBounds_toArray, List.set_cons_zero, List.set_cons_succ, i64_w, i32_w]
   rfl
  refine done_ (done_of HT_.out (by kernel_rfl)) ?_
  obtain ⟨ASz28_11, cSz28_11, HGz28, hgz28, HSz28_11⟩ := HI0.out
  have hcz28_0 := cellS48_0 HGz28
  have hcz28_1 := cellS48_1 HGz28
  have hcz28_2 := cellS48_2 HGz28
  have hcz28_3 := cellS48_3 HGz28
  have hcz28_4 := cellS48_4 HGz28
  have hcz28_5 := cellS48_5 HGz28
  have hcz28_6 := cellS48_6 HGz28
  have hcz28_7 := cellS48_7 HGz28
  have hcz28_8 := cellS48_8 HGz28
  have hcz28_9 := cellS48_9 HGz28
  have hcz28_10 := cellS48_10 HGz28
  have hcz28_11 := cellS48_11 HGz28
  have hcz28_12 := cellS48_12 HGz28
  have hcz28_13 := cellS48_13 HGz28
  have hcz28_14 := cellS48_14 HGz28
  have hcz28_15 := cellS48_15 HGz28
  have hcz28_16 := cellS48_16 HGz28
  have hcz28_17 := cellS48_17 HGz28
  have hfz28_0 := blk_frozen HGz28 0
  have hfz28_1 := blk_frozen HGz28 1
  have hfz28_2 := blk_frozen HGz28 2
  have hfz28_3 := blk_frozen HGz28 3
  have hfz28_4 := blk_frozen HGz28 4
  have hfz28_5 := blk_frozen HGz28 5
  have hfz28_6 := blk_frozen HGz28 6
  have hfz28_7 := blk_frozen HGz28 7
  have hfz28_8 := blk_frozen HGz28 8
  have hfz28_9 := blk_frozen HGz28 9
  have hfz28_10 := blk_frozen HGz28 10
  have hfz28_12 := blk_frozen HGz28 12
  have hfz28_13 := blk_frozen HGz28 13
  have hfz28_14 := blk_frozen HGz28 14
  have hfz28_15 := blk_frozen HGz28 15
  have hfz28_16 := blk_frozen HGz28 16
  have hfz28_17 := blk_frozen HGz28 17
  clear HGz28 hgz28
  try go_wp2
  go_ret
  exact ⟨by first | rfl | (simp [errW_none, errW_some] <;> rfl) | (simp [*, errW_none, errW_some] <;> rfl), by repeat (first | (with_reducible first | exact HI0.out | apply IsS48.alloc | apply IsS48.drewN | apply IsS48.drew | apply IsS48.set_0 | apply IsS48.set_1 | apply IsS48.set_2 | apply IsS48.set_3 | apply IsS48.set_4 | apply IsS48.set_5 | apply IsS48.set_6 | apply IsS48.set_7 | apply IsS48.set_8 | apply IsS48.set_9 | apply IsS48.set_10 | apply IsS48.set_12 | apply IsS48.set_13 | apply IsS48.set_14 | apply IsS48.set_15 | apply IsS48.set_16 | apply IsS48.set_17) | exact HI0.out), by repeat (first | (with_reducible first | exact HB.out | apply below_alloc | apply pw_below_drewN | apply below_drew1 | refine below_set ?_ (IsS48.ge HI0.out)) | exact HB.out), by repeat (first | (with_reducible first | exact HK.out | apply KeepBut.set_ | apply keep_drewN | apply keep_drew | apply keep_alloc) | exact HK.out)⟩
def guard_Guard_Tick.nilrecv.f  (a1 : Int) : Option (Int) := some 0
set_option maxHeartbeats 8000000 in
set_option maxRecDepth 100000 in
theorem guard_Guard_Tick.nilrecv.calls  (a1 : Int) (r : Int) (w : World) (h : guard_Guard_Tick.nilrecv.f a1 = some r) :
  Calls Try.prog 17 #[.pointer none, .int .i64 a1] w fun e w' => e = .returned (.int .i64 r) ∧ Below w.heap.size w w' := by
 have hpn29_eql : ∀ (a_ : Addr) (W_ : World), (Go.binOp .eql 29 (.pointer (some a_)) (.pointer none)).run Try.prog W_ = .ok (.bool false) W_ := fun _ _ => by kernel_rfl
 have hnn29_eql : ∀ (W_ : World), (Go.binOp .eql 29 (.pointer none) (.pointer none)).run Try.prog W_ = .ok (.bool true) W_ := fun _ => by kernel_rfl
 have HB := Aside0.mk (Below.refl w.heap.size w)
 have H : (some 0) = some r := h
 clear h
 obtain rfl := Option.some.inj H
 go_enter Try.func17, Try.ntmps17
 go_wp2
 go_ret
 exact ⟨by first | rfl | (simp [errW_none, errW_some] <;> rfl) | (simp [*, errW_none, errW_some] <;> rfl), by repeat (first | (with_reducible first | exact HB.out | apply below_alloc | apply pw_below_drewN | apply below_drew1) | exact HB.out)⟩
end Go.Proofs.Ytkfkbebpcmmnfaa.P
end

section
namespace Go.Proofs.Ytkfkbebpcmmnfaa.P
open Go.RowKit Go.Proofs.YtkfkbebpcmmnfaaW.PrintWords Go.Proofs.YtkfkbebpcmmnfaaW.PrintLast Go.Proofs.YtkfkbebpcmmnfaaW.PrintMore
attribute [local go_sem] max2_int min2_int max_two min_two max_three min_three max_four min_four   -- for this text's walks alone
set_option linter.unusedVariables false
set_option linter.unusedSimpArgs false
def flywheellaw28_wakes.f  : Option (Bool) := (flywheellaw28_Some.f).bind fun bt124 => (if (guard_New.made.f bt124.1 bt124.2.1 bt124.2.2.1 bt124.2.2.2.1 bt124.2.2.2.2.1 bt124.2.2.2.2.2.1 bt124.2.2.2.2.2.2.1 bt124.2.2.2.2.2.2.2.1 bt124.2.2.2.2.2.2.2.2.1 bt124.2.2.2.2.2.2.2.2.2.1 bt124.2.2.2.2.2.2.2.2.2.2.1 ([] : List (S85)) bt124.2.2.2.2.2.2.2.2.2.2.2).isSome = true then ((guard_New.made.f bt124.1 bt124.2.1 bt124.2.2.1 bt124.2.2.2.1 bt124.2.2.2.2.1 bt124.2.2.2.2.2.1 bt124.2.2.2.2.2.2.1 bt124.2.2.2.2.2.2.2.1 bt124.2.2.2.2.2.2.2.2.1 bt124.2.2.2.2.2.2.2.2.2.1 bt124.2.2.2.2.2.2.2.2.2.2.1 ([] : List (S85)) bt124.2.2.2.2.2.2.2.2.2.2.2).bind fun bt136 => (if bt136.2.2.2.2.2.2.2.2.2.2.2.2.2.2.2.2.2.2 = 0 then ((guard_Guard_Hear.f bt136.1 bt136.2.1 bt136.2.2.1 bt136.2.2.2.1 bt136.2.2.2.2.1 bt136.2.2.2.2.2.1 bt136.2.2.2.2.2.2.1 bt136.2.2.2.2.2.2.2.1 bt136.2.2.2.2.2.2.2.2.1 bt136.2.2.2.2.2.2.2.2.2.1 bt136.2.2.2.2.2.2.2.2.2.2.1 bt136.2.2.2.2.2.2.2.2.2.2.2.1 bt136.2.2.2.2.2.2.2.2.2.2.2.2.1 bt136.2.2.2.2.2.2.2.2.2.2.2.2.2.1 bt136.2.2.2.2.2.2.2.2.2.2.2.2.2.2.1 bt136.2.2.2.2.2.2.2.2.2.2.2.2.2.2.2.1 bt136.2.2.2.2.2.2.2.2.2.2.2.2.2.2.2.2.1 bt136.2.2.2.2.2.2.2.2.2.2.2.2.2.2.2.2.2.1 5000000 200000 800000 false 5).bind fun bt156 => (if bt156.1 = 700000 then ((guard_Guard_Brakes.f bt156.2.1 bt156.2.2.1 bt156.2.2.2.1 bt156.2.2.2.2.1 bt156.2.2.2.2.2.1 bt156.2.2.2.2.2.2.1 bt156.2.2.2.2.2.2.2.1 bt156.2.2.2.2.2.2.2.2.1 bt156.2.2.2.2.2.2.2.2.2.1 bt156.2.2.2.2.2.2.2.2.2.2.1 bt156.2.2.2.2.2.2.2.2.2.2.2.1 bt136.2.2.2.2.2.2.2.2.2.2.2.1 bt156.2.2.2.2.2.2.2.2.2.2.2.2.1 bt156.2.2.2.2.2.2.2.2.2.2.2.2.2.1 bt156.2.2.2.2.2.2.2.2.2.2.2.2.2.2.1 bt156.2.2.2.2.2.2.2.2.2.2.2.2.2.2.2.1 bt156.2.2.2.2.2.2.2.2.2.2.2.2.2.2.2.2.1 bt156.2.2.2.2.2.2.2.2.2.2.2.2.2.2.2.2.2).bind fun bt174 => (if bt174.1 = true then ((guard_Guard_Tick.f bt174.2.1 bt174.2.2.1 bt174.2.2.2.1 bt174.2.2.2.2.1 bt174.2.2.2.2.2.1 bt174.2.2.2.2.2.2.1 bt174.2.2.2.2.2.2.2.1 bt174.2.2.2.2.2.2.2.2.1 bt174.2.2.2.2.2.2.2.2.2.1 bt174.2.2.2.2.2.2.2.2.2.2.1 bt174.2.2.2.2.2.2.2.2.2.2.2.1 bt136.2.2.2.2.2.2.2.2.2.2.2.1 bt174.2.2.2.2.2.2.2.2.2.2.2.2.1 bt174.2.2.2.2.2.2.2.2.2.2.2.2.2.1 bt174.2.2.2.2.2.2.2.2.2.2.2.2.2.2.1 bt174.2.2.2.2.2.2.2.2.2.2.2.2.2.2.2.1 bt174.2.2.2.2.2.2.2.2.2.2.2.2.2.2.2.2.1 bt174.2.2.2.2.2.2.2.2.2.2.2.2.2.2.2.2.2 1000006).bind fun bt192 => (some (bt192.1 == 350000))) else (some false))) else (some false))) else (some false))) else ((guard_New.nil.f bt124.1 bt124.2.1 bt124.2.2.1 bt124.2.2.2.1 bt124.2.2.2.2.1 bt124.2.2.2.2.2.1 bt124.2.2.2.2.2.2.1 bt124.2.2.2.2.2.2.2.1 bt124.2.2.2.2.2.2.2.2.1 bt124.2.2.2.2.2.2.2.2.2.1 bt124.2.2.2.2.2.2.2.2.2.2.1 ([] : List (S85)) bt124.2.2.2.2.2.2.2.2.2.2.2).bind fun t210 => (if t210 = 0 then ((guard_Guard_Hear.nilrecv.f 5000000 200000 800000 false 5).bind fun t211 => (if t211 = 700000 then ((guard_Guard_Brakes.nilrecv.f).bind fun t212 => (if t212 = true then ((guard_Guard_Tick.nilrecv.f 1000006).bind fun t213 => (some (t213 == 350000))) else (some false))) else (some false))) else (some false))))
set_option maxHeartbeats 8000000 in
set_option maxRecDepth 100000 in
theorem flywheellaw28_wakes.calls  (r : Bool) (w : World) (h : flywheellaw28_wakes.f  = some r) :
  Calls Try.prog 14 #[] w fun e w' => e = .returned (.bool r) ∧ Below w.heap.size w w' := by
 have HB := Aside0.mk (Below.refl w.heap.size w)
 have H : ((flywheellaw28_Some.f).bind fun bt124 => (if (guard_New.made.f bt124.1 bt124.2.1 bt124.2.2.1 bt124.2.2.2.1 bt124.2.2.2.2.1 bt124.2.2.2.2.2.1 bt124.2.2.2.2.2.2.1 bt124.2.2.2.2.2.2.2.1 bt124.2.2.2.2.2.2.2.2.1 bt124.2.2.2.2.2.2.2.2.2.1 bt124.2.2.2.2.2.2.2.2.2.2.1 ([] : List (S85)) bt124.2.2.2.2.2.2.2.2.2.2.2).isSome = true then ((guard_New.made.f bt124.1 bt124.2.1 bt124.2.2.1 bt124.2.2.2.1 bt124.2.2.2.2.1 bt124.2.2.2.2.2.1 bt124.2.2.2.2.2.2.1 bt124.2.2.2.2.2.2.2.1 bt124.2.2.2.2.2.2.2.2.1 bt124.2.2.2.2.2.2.2.2.2.1 bt124.2.2.2.2.2.2.2.2.2.2.1 ([] : List (S85)) bt124.2.2.2.2.2.2.2.2.2.2.2).bind fun bt136 => (if bt136.2.2.2.2.2.2.2.2.2.2.2.2.2.2.2.2.2.2 = 0 then ((guard_Guard_Hear.f bt136.1 bt136.2.1 bt136.2.2.1 bt136.2.2.2.1 bt136.2.2.2.2.1 bt136.2.2.2.2.2.1 bt136.2.2.2.2.2.2.1 bt136.2.2.2.2.2.2.2.1 bt136.2.2.2.2.2.2.2.2.1 bt136.2.2.2.2.2.2.2.2.2.1 bt136.2.2.2.2.2.2.2.2.2.2.1 bt136.2.2.2.2.2.2.2.2.2.2.2.1 bt136.2.2.2.2.2.2.2.2.2.2.2.2.1 bt136.2.2.2.2.2.2.2.2.2.2.2.2.2.1 bt136.2.2.2.2.2.2.2.2.2.2.2.2.2.2.1 bt136.2.2.2.2.2.2.2.2.2.2.2.2.2.2.2.1 bt136.2.2.2.2.2.2.2.2.2.2.2.2.2.2.2.2.1 bt136.2.2.2.2.2.2.2.2.2.2.2.2.2.2.2.2.2.1 5000000 200000 800000 false 5).bind fun bt156 => (if bt156.1 = 700000 then ((guard_Guard_Brakes.f bt156.2.1 bt156.2.2.1 bt156.2.2.2.1 bt156.2.2.2.2.1 bt156.2.2.2.2.2.1 bt156.2.2.2.2.2.2.1 bt156.2.2.2.2.2.2.2.1 bt156.2.2.2.2.2.2.2.2.1 bt156.2.2.2.2.2.2.2.2.2.1 bt156.2.2.2.2.2.2.2.2.2.2.1 bt156.2.2.2.2.2.2.2.2.2.2.2.1 bt136.2.2.2.2.2.2.2.2.2.2.2.1 bt156.2.2.2.2.2.2.2.2.2.2.2.2.1 bt156.2.2.2.2.2.2.2.2.2.2.2.2.2.1 bt156.2.2.2.2.2.2.2.2.2.2.2.2.2.2.1 bt156.2.2.2.2.2.2.2.2.2.2.2.2.2.2.2.1 bt156.2.2.2.2.2.2.2.2.2.2.2.2.2.2.2.2.1 bt156.2.2.2.2.2.2.2.2.2.2.2.2.2.2.2.2.2).bind fun bt174 => (if bt174.1 = true then ((guard_Guard_Tick.f bt174.2.1 bt174.2.2.1 bt174.2.2.2.1 bt174.2.2.2.2.1 bt174.2.2.2.2.2.1 bt174.2.2.2.2.2.2.1 bt174.2.2.2.2.2.2.2.1 bt174.2.2.2.2.2.2.2.2.1 bt174.2.2.2.2.2.2.2.2.2.1 bt174.2.2.2.2.2.2.2.2.2.2.1 bt174.2.2.2.2.2.2.2.2.2.2.2.1 bt136.2.2.2.2.2.2.2.2.2.2.2.1 bt174.2.2.2.2.2.2.2.2.2.2.2.2.1 bt174.2.2.2.2.2.2.2.2.2.2.2.2.2.1 bt174.2.2.2.2.2.2.2.2.2.2.2.2.2.2.1 bt174.2.2.2.2.2.2.2.2.2.2.2.2.2.2.2.1 bt174.2.2.2.2.2.2.2.2.2.2.2.2.2.2.2.2.1 bt174.2.2.2.2.2.2.2.2.2.2.2.2.2.2.2.2.2 1000006).bind fun bt192 => (some (bt192.1 == 350000))) else (some false))) else (some false))) else (some false))) else ((guard_New.nil.f bt124.1 bt124.2.1 bt124.2.2.1 bt124.2.2.2.1 bt124.2.2.2.2.1 bt124.2.2.2.2.2.1 bt124.2.2.2.2.2.2.1 bt124.2.2.2.2.2.2.2.1 bt124.2.2.2.2.2.2.2.2.1 bt124.2.2.2.2.2.2.2.2.2.1 bt124.2.2.2.2.2.2.2.2.2.2.1 ([] : List (S85)) bt124.2.2.2.2.2.2.2.2.2.2.2).bind fun t210 => (if t210 = 0 then ((guard_Guard_Hear.nilrecv.f 5000000 200000 800000 false 5).bind fun t211 => (if t211 = 700000 then ((guard_Guard_Brakes.nilrecv.f).bind fun t212 => (if t212 = true then ((guard_Guard_Tick.nilrecv.f 1000006).bind fun t213 => (some (t213 == 350000))) else (some false))) else (some false))) else (some false))))) = some r := h
 clear h
 replace H := Option.bind_eq_some_iff.mp H
 obtain ⟨⟨t124, t125, t126, t127, t128, t129, t130, t131, t132, t133, t134, t135⟩, A10, H⟩ := H
 replace H : (if (guard_New.made.f t124 t125 t126 t127 t128 t129 t130 t131 t132 t133 t134 ([] : List (S85)) t135).isSome = true then ((guard_New.made.f t124 t125 t126 t127 t128 t129 t130 t131 t132 t133 t134 ([] : List (S85)) t135).bind fun bt136 => (if bt136.2.2.2.2.2.2.2.2.2.2.2.2.2.2.2.2.2.2 = 0 then ((guard_Guard_Hear.f bt136.1 bt136.2.1 bt136.2.2.1 bt136.2.2.2.1 bt136.2.2.2.2.1 bt136.2.2.2.2.2.1 bt136.2.2.2.2.2.2.1 bt136.2.2.2.2.2.2.2.1 bt136.2.2.2.2.2.2.2.2.1 bt136.2.2.2.2.2.2.2.2.2.1 bt136.2.2.2.2.2.2.2.2.2.2.1 bt136.2.2.2.2.2.2.2.2.2.2.2.1 bt136.2.2.2.2.2.2.2.2.2.2.2.2.1 bt136.2.2.2.2.2.2.2.2.2.2.2.2.2.1 bt136.2.2.2.2.2.2.2.2.2.2.2.2.2.2.1 bt136.2.2.2.2.2.2.2.2.2.2.2.2.2.2.2.1 bt136.2.2.2.2.2.2.2.2.2.2.2.2.2.2.2.2.1 bt136.2.2.2.2.2.2.2.2.2.2.2.2.2.2.2.2.2.1 5000000 200000 800000 false 5).bind fun bt156 => (if bt156.1 = 700000 then ((guard_Guard_Brakes.f bt156.2.1 bt156.2.2.1 bt156.2.2.2.1 bt156.2.2.2.2.1 bt156.2.2.2.2.2.1 bt156.2.2.2.2.2.2.1 bt156.2.2.2.2.2.2.2.1 bt156.2.2.2.2.2.2.2.2.1 bt156.2.2.2.2.2.2.2.2.2.1 bt156.2.2.2.2.2.2.2.2.2.2.1 bt156.2.2.2.2.2.2.2.2.2.2.2.1 bt136.2.2.2.2.2.2.2.2.2.2.2.1 bt156.2.2.2.2.2.2.2.2.2.2.2.2.1 bt156.2.2.2.2.2.2.2.2.2.2.2.2.2.1 bt156.2.2.2.2.2.2.2.2.2.2.2.2.2.2.1 bt156.2.2.2.2.2.2.2.2.2.2.2.2.2.2.2.1 bt156.2.2.2.2.2.2.2.2.2.2.2.2.2.2.2.2.1 bt156.2.2.2.2.2.2.2.2.2.2.2.2.2.2.2.2.2).bind fun bt174 => (if bt174.1 = true then ((guard_Guard_Tick.f bt174.2.1 bt174.2.2.1 bt174.2.2.2.1 bt174.2.2.2.2.1 bt174.2.2.2.2.2.1 bt174.2.2.2.2.2.2.1 bt174.2.2.2.2.2.2.2.1 bt174.2.2.2.2.2.2.2.2.1 bt174.2.2.2.2.2.2.2.2.2.1 bt174.2.2.2.2.2.2.2.2.2.2.1 bt174.2.2.2.2.2.2.2.2.2.2.2.1 bt136.2.2.2.2.2.2.2.2.2.2.2.1 bt174.2.2.2.2.2.2.2.2.2.2.2.2.1 bt174.2.2.2.2.2.2.2.2.2.2.2.2.2.1 bt174.2.2.2.2.2.2.2.2.2.2.2.2.2.2.1 bt174.2.2.2.2.2.2.2.2.2.2.2.2.2.2.2.1 bt174.2.2.2.2.2.2.2.2.2.2.2.2.2.2.2.2.1 bt174.2.2.2.2.2.2.2.2.2.2.2.2.2.2.2.2.2 1000006).bind fun bt192 => (some (bt192.1 == 350000))) else (some false))) else (some false))) else (some false))) else ((guard_New.nil.f t124 t125 t126 t127 t128 t129 t130 t131 t132 t133 t134 ([] : List (S85)) t135).bind fun t210 => (if t210 = 0 then ((guard_Guard_Hear.nilrecv.f 5000000 200000 800000 false 5).bind fun t211 => (if t211 = 700000 then ((guard_Guard_Brakes.nilrecv.f).bind fun t212 => (if t212 = true then ((guard_Guard_Tick.nilrecv.f 1000006).bind fun t213 => (some (t213 == 350000))) else (some false))) else (some false))) else (some false)))) = some r := H
 have A1 := Aside0.mk A10
 clear A10
 by_cases c2 : (guard_New.made.f t124 t125 t126 t127 t128 t129 t130 t131 t132 t133 t134 ([] : List (S85)) t135).isSome = true
 ·rw [if_pos c2] at H
  have c2b0 : (guard_New.made.f t124 t125 t126 t127 t128 t129 t130 t131 t132 t133 t134 ([] : List (S85)) t135).isSome = true := c2
  clear c2
  replace H := Option.bind_eq_some_iff.mp H
  obtain ⟨⟨t136, t137, t138, t139, t140, t141, t142, t143, t144, t145, t146, t147, t148, t149, t150, t151, t152, t153, t155⟩, A30, H⟩ := H
  replace H : (if t155 = 0 then ((guard_Guard_Hear.f t136 t137 t138 t139 t140 t141 t142 t143 t144 t145 t146 t147 t148 t149 t150 t151 t152 t153 5000000 200000 800000 false 5).bind fun bt156 => (if bt156.1 = 700000 then ((guard_Guard_Brakes.f bt156.2.1 bt156.2.2.1 bt156.2.2.2.1 bt156.2.2.2.2.1 bt156.2.2.2.2.2.1 bt156.2.2.2.2.2.2.1 bt156.2.2.2.2.2.2.2.1 bt156.2.2.2.2.2.2.2.2.1 bt156.2.2.2.2.2.2.2.2.2.1 bt156.2.2.2.2.2.2.2.2.2.2.1 bt156.2.2.2.2.2.2.2.2.2.2.2.1 t147 bt156.2.2.2.2.2.2.2.2.2.2.2.2.1 bt156.2.2.2.2.2.2.2.2.2.2.2.2.2.1 bt156.2.2.2.2.2.2.2.2.2.2.2.2.2.2.1 bt156.2.2.2.2.2.2.2.2.2.2.2.2.2.2.2.1 bt156.2.2.2.2.2.2.2.2.2.2.2.2.2.2.2.2.1 bt156.2.2.2.2.2.2.2.2.2.2.2.2.2.2.2.2.2).bind fun bt174 => (if bt174.1 = true then ((guard_Guard_Tick.f bt174.2.1 bt174.2.2.1 bt174.2.2.2.1 bt174.2.2.2.2.1 bt174.2.2.2.2.2.1 bt174.2.2.2.2.2.2.1 bt174.2.2.2.2.2.2.2.1 bt174.2.2.2.2.2.2.2.2.1 bt174.2.2.2.2.2.2.2.2.2.1 bt174.2.2.2.2.2.2.2.2.2.2.1 bt174.2.2.2.2.2.2.2.2.2.2.2.1 t147 bt174.2.2.2.2.2.2.2.2.2.2.2.2.1 bt174.2.2.2.2.2.2.2.2.2.2.2.2.2.1 bt174.2.2.2.2.2.2.2.2.2.2.2.2.2.2.1 bt174.2.2.2.2.2.2.2.2.2.2.2.2.2.2.2.1 bt174.2.2.2.2.2.2.2.2.2.2.2.2.2.2.2.2.1 bt174.2.2.2.2.2.2.2.2.2.2.2.2.2.2.2.2.2 1000006).bind fun bt192 => (some (bt192.1 == 350000))) else (some false))) else (some false))) else (some false)) = some r := H
  have A3 := Aside0.mk A30
  clear A30
  by_cases c4 : t155 = 0
  ·rw [if_pos c4] at H
   have c4b0 : (t155 == 0) = true := beq_iff_eq.mpr c4
   have c4b1 : (t155 != 0) = false := bne_eq_false_iff_eq.mpr c4
   clear c4
   replace H := Option.bind_eq_some_iff.mp H
   obtain ⟨⟨t156, t157, t158, t159, t160, t161, t162, t163, t164, t165, t166, t167, t168, t169, t170, t171, t172, t173⟩, A50, H⟩ := H
   replace H : (if t156 = 700000 then ((guard_Guard_Brakes.f t157 t158 t159 t160 t161 t162 t163 t164 t165 t166 t167 t147 t168 t169 t170 t171 t172 t173).bind fun bt174 => (if bt174.1 = true then ((guard_Guard_Tick.f bt174.2.1 bt174.2.2.1 bt174.2.2.2.1 bt174.2.2.2.2.1 bt174.2.2.2.2.2.1 bt174.2.2.2.2.2.2.1 bt174.2.2.2.2.2.2.2.1 bt174.2.2.2.2.2.2.2.2.1 bt174.2.2.2.2.2.2.2.2.2.1 bt174.2.2.2.2.2.2.2.2.2.2.1 bt174.2.2.2.2.2.2.2.2.2.2.2.1 t147 bt174.2.2.2.2.2.2.2.2.2.2.2.2.1 bt174.2.2.2.2.2.2.2.2.2.2.2.2.2.1 bt174.2.2.2.2.2.2.2.2.2.2.2.2.2.2.1 bt174.2.2.2.2.2.2.2.2.2.2.2.2.2.2.2.1 bt174.2.2.2.2.2.2.2.2.2.2.2.2.2.2.2.2.1 bt174.2.2.2.2.2.2.2.2.2.2.2.2.2.2.2.2.2 1000006).bind fun bt192 => (some (bt192.1 == 350000))) else (some false))) else (some false)) = some r := H
   have A5 := Aside0.mk A50
   clear A50
   by_cases c6 : t156 = 700000
   ·rw [if_pos c6] at H
    have c6b0 : (t156 == 700000) = true := beq_iff_eq.mpr c6
    have c6b1 : (t156 != 700000) = false := bne_eq_false_iff_eq.mpr c6
    clear c6
    replace H := Option.bind_eq_some_iff.mp H
    obtain ⟨⟨t174, t175, t176, t177, t178, t179, t180, t181, t182, t183, t184, t185, t186, t187, t188, t189, t190, t191⟩, A70, H⟩ := H
    replace H : (if t174 = true then ((guard_Guard_Tick.f t175 t176 t177 t178 t179 t180 t181 t182 t183 t184 t185 t147 t186 t187 t188 t189 t190 t191 1000006).bind fun bt192 => (some (bt192.1 == 350000))) else (some false)) = some r := H
    have A7 := Aside0.mk A70
    clear A70
    by_cases c8 : t174 = true
    ·subst c8
     have H1 : ((guard_Guard_Tick.f t175 t176 t177 t178 t179 t180 t181 t182 t183 t184 t185 t147 t186 t187 t188 t189 t190 t191 1000006).bind fun bt192 => (some (bt192.1 == 350000))) = some r := by rw [if_pos rfl] at H; exact H
     clear H
     have H := H1
     clear H1
     replace H := Option.bind_eq_some_iff.mp H
     obtain ⟨⟨t192, t193, t194, t195, t196, t197, t198, t199, t200, t201, t202, t203, t204, t205, t206, t207, t208, t209⟩, A90, H⟩ := H
     replace H : (some (t192 == 350000)) = some r := H
     have A9 := Aside0.mk A90
     clear A90
     obtain rfl := Option.some.inj H
     go_enter Try.func14, Try.ntmps14
     go_wp2_with (first | ((with_reducible refine gate_callee (f := 9) rfl ?_); refine goesL_ (some 4) rfl rfl Try.func9 (by kernel_rfl) rfl #[] rfl (by (try simp only [List.map_toArray, List.map_cons, List.map_nil]); first | done | rfl | (simp only [List.length_drop, List.length_take]; rfl)) ?_; (with_reducible refine (flywheellaw28_Some.calls  t124 t125 t126 t127 t128 t129 t130 t131 t132 t133 t134 t135 _ A1.out).mono ?_); rintro e w10 ⟨rfl, hb⟩; refine ⟨_, rfl, ?_⟩; have n0_ := Aside0.mk (below_step (by repeat (first | (with_reducible first | exact HB.out | apply below_alloc | apply pw_below_drewN | apply below_drew1) | exact HB.out)) hb); clear HB; have HB := n0_; clear n0_; (try clear hb); (try clear hb2); (try clear hk); (try clear hi)) | ((with_reducible refine gate_callee (f := 10) rfl ?_); refine goesL_ (some 5) rfl rfl Try.func10 (by kernel_rfl) rfl #[.agg #[.int .i64 t124, .int .i64 t125, .int .i64 t126, .int .i64 t127, .int .i64 t128, .int .i64 t129, .int .i64 t130, .int .i64 t131, .int .i64 t132, .int .i64 t133, .int .i64 t134, .slice none 0 0, .int .i64 t135]] rfl (by (try simp only [List.map_toArray, List.map_cons, List.map_nil]); first | done | rfl | (simp only [List.length_drop, List.length_take]; rfl)) ?_; (refine (guard_New.made.calls t124 t125 t126 t127 t128 t129 t130 t131 t132 t133 t134 _ _ ([] : List (S85)) t135 t136 t137 t138 t139 t140 t141 t142 t143 t144 t145 t146 t147 t148 t149 t150 t151 t152 t153 t155 w _ ?side1 ?side2 ?side3 A3.out).mono ?_); (case side1 => repeat (first | (with_reducible first | exact HB.out | apply below_alloc | apply pw_below_drewN | apply below_drew1) | exact HB.out)); (case side2 => exact Kd.C_nil _ _); (case side3 => exact Nat.le_refl _); rintro e w11 ⟨g154, rfl, hi, hb, hb2⟩; refine ⟨_, rfl, ?_⟩; have n0_ := Aside0.mk (hb); have n1_ := Aside0.mk (hi); clear HB; have HB := n0_; have HI154 := n1_; clear n0_ n1_; (try clear hb); (try clear hb2); (try clear hk); (try clear hi)) | (go_at_call 11; (with_reducible refine (guard_Guard_Hear.calls g154 t136 t137 t138 t139 t140 t141 t142 t143 t144 t145 t146 t147 t148 t149 t150 t151 t152 t153 5000000 200000 800000 false 5 t156 t157 t158 t159 t160 t161 t162 t163 t164 t165 t166 t167 t168 t169 t170 t171 t172 t173 w _ ?side1 ?side2 A5.out).mono ?_); (case side1 => repeat (first | (with_reducible first | exact HI154.out | apply IsS48.alloc | apply IsS48.drewN | apply IsS48.drew | apply IsS48.set_0 | apply IsS48.set_1 | apply IsS48.set_2 | apply IsS48.set_3 | apply IsS48.set_4 | apply IsS48.set_5 | apply IsS48.set_6 | apply IsS48.set_7 | apply IsS48.set_8 | apply IsS48.set_9 | apply IsS48.set_10 | apply IsS48.set_12 | apply IsS48.set_13 | apply IsS48.set_14 | apply IsS48.set_15 | apply IsS48.set_16 | apply IsS48.set_17) | exact HI154.out)); (case side2 => repeat (first | (with_reducible first | exact HB.out | apply below_alloc | apply pw_below_drewN | apply below_drew1 | refine below_set ?_ (IsS48.ge HI154.out)) | exact HB.out)); rintro e w12 ⟨rfl, hi, hb, hk⟩; have n0_ := Aside0.mk (hb); have n1_ := Aside0.mk (hi); clear HB; clear HI154; have HB := n0_; have HI154 := n1_; clear n0_ n1_; (try clear hb); (try clear hb2); (try clear hk); (try clear hi)) | (go_at_call 13; (with_reducible refine (guard_Guard_Brakes.calls g154 t157 t158 t159 t160 t161 t162 t163 t164 t165 t166 t167 t147 t168 t169 t170 t171 t172 t173 true t175 t176 t177 t178 t179 t180 t181 t182 t183 t184 t185 t186 t187 t188 t189 t190 t191 w _ ?side1 ?side2 A7.out).mono ?_); (case side1 => repeat (first | (with_reducible first | exact HI154.out | apply IsS48.alloc | apply IsS48.drewN | apply IsS48.drew | apply IsS48.set_0 | apply IsS48.set_1 | apply IsS48.set_2 | apply IsS48.set_3 | apply IsS48.set_4 | apply IsS48.set_5 | apply IsS48.set_6 | apply IsS48.set_7 | apply IsS48.set_8 | apply IsS48.set_9 | apply IsS48.set_10 | apply IsS48.set_12 | apply IsS48.set_13 | apply IsS48.set_14 | apply IsS48.set_15 | apply IsS48.set_16 | apply IsS48.set_17) | exact HI154.out)); (case side2 => repeat (first | (with_reducible first | exact HB.out | apply below_alloc | apply pw_below_drewN | apply below_drew1 | refine below_set ?_ (IsS48.ge HI154.out)) | exact HB.out)); rintro e w13 ⟨rfl, hi, hb, hk⟩; have n0_ := Aside0.mk (hb); have n1_ := Aside0.mk (hi); clear HB; clear HI154; have HB := n0_; have HI154 := n1_; clear n0_ n1_; (try clear hb); (try clear hb2); (try clear hk); (try clear hi)) | (go_at_call 17; (with_reducible refine (guard_Guard_Tick.calls g154 t175 t176 t177 t178 t179 t180 t181 t182 t183 t184 t185 t147 t186 t187 t188 t189 t190 t191 1000006 t192 t193 t194 t195 t196 t197 t198 t199 t200 t201 t202 t203 t204 t205 t206 t207 t208 t209 w _ ?side1 ?side2 A9.out).mono ?_); (case side1 => repeat (first | (with_reducible first | exact HI154.out | apply IsS48.alloc | apply IsS48.drewN | apply IsS48.drew | apply IsS48.set_0 | apply IsS48.set_1 | apply IsS48.set_2 | apply IsS48.set_3 | apply IsS48.set_4 | apply IsS48.set_5 | apply IsS48.set_6 | apply IsS48.set_7 | apply IsS48.set_8 | apply IsS48.set_9 | apply IsS48.set_10 | apply IsS48.set_12 | apply IsS48.set_13 | apply IsS48.set_14 | apply IsS48.set_15 | apply IsS48.set_16 | apply IsS48.set_17) | exact HI154.out)); (case side2 => repeat (first | (with_reducible first | exact HB.out | apply below_alloc | apply pw_below_drewN | apply below_drew1 | refine below_set ?_ (IsS48.ge HI154.out)) | exact HB.out)); rintro e w14 ⟨rfl, hi, hb, hk⟩; have n0_ := Aside0.mk (hb); have n1_ := Aside0.mk (hi); clear HB; clear HI154; have HB := n0_; have HI154 := n1_; clear n0_ n1_; (try clear hb); (try clear hb2); (try clear hk); (try clear hi)))
     go_ret
     exact ⟨by first | rfl | (simp [errW_none, errW_some] <;> rfl) | (simp [*, errW_none, errW_some] <;> rfl), by repeat (first | (with_reducible first | exact HB.out | apply below_alloc | apply pw_below_drewN | apply below_drew1 | refine below_set ?_ (IsS48.ge HI154.out)) | exact HB.out)⟩
    ·replace c8 := Bool.eq_false_iff.mpr c8
     subst c8
     have H1 : (some false) = some r := by rw [if_neg (show ¬ (false = true) by decide)] at H; exact H
     clear H
     have H := H1
     clear H1
     obtain rfl := Option.some.inj H
     go_enter Try.func14, Try.ntmps14
     go_wp2_with (first | ((with_reducible refine gate_callee (f := 9) rfl ?_); refine goesL_ (some 4) rfl rfl Try.func9 (by kernel_rfl) rfl #[] rfl (by (try simp only [List.map_toArray, List.map_cons, List.map_nil]); first | done | rfl | (simp only [List.length_drop, List.length_take]; rfl)) ?_; (with_reducible refine (flywheellaw28_Some.calls  t124 t125 t126 t127 t128 t129 t130 t131 t132 t133 t134 t135 _ A1.out).mono ?_); rintro e w15 ⟨rfl, hb⟩; refine ⟨_, rfl, ?_⟩; have n0_ := Aside0.mk (below_step (by repeat (first | (with_reducible first | exact HB.out | apply below_alloc | apply pw_below_drewN | apply below_drew1) | exact HB.out)) hb); clear HB; have HB := n0_; clear n0_; (try clear hb); (try clear hb2); (try clear hk); (try clear hi)) | ((with_reducible refine gate_callee (f := 10) rfl ?_); refine goesL_ (some 5) rfl rfl Try.func10 (by kernel_rfl) rfl #[.agg #[.int .i64 t124, .int .i64 t125, .int .i64 t126, .int .i64 t127, .int .i64 t128, .int .i64 t129, .int .i64 t130, .int .i64 t131, .int .i64 t132, .int .i64 t133, .int .i64 t134, .slice none 0 0, .int .i64 t135]] rfl (by (try simp only [List.map_toArray, List.map_cons, List.map_nil]); first | done | rfl | (simp only [List.length_drop, List.length_take]; rfl)) ?_; (refine (guard_New.made.calls t124 t125 t126 t127 t128 t129 t130 t131 t132 t133 t134 _ _ ([] : List (S85)) t135 t136 t137 t138 t139 t140 t141 t142 t143 t144 t145 t146 t147 t148 t149 t150 t151 t152 t153 t155 w _ ?side1 ?side2 ?side3 A3.out).mono ?_); (case side1 => repeat (first | (with_reducible first | exact HB.out | apply below_alloc | apply pw_below_drewN | apply below_drew1) | exact HB.out)); (case side2 => exact Kd.C_nil _ _); (case side3 => exact Nat.le_refl _); rintro e w16 ⟨g154, rfl, hi, hb, hb2⟩; refine ⟨_, rfl, ?_⟩; have n0_ := Aside0.mk (hb); have n1_ := Aside0.mk (hi); clear HB; have HB := n0_; have HI154 := n1_; clear n0_ n1_; (try clear hb); (try clear hb2); (try clear hk); (try clear hi)) | (go_at_call 11; (with_reducible refine (guard_Guard_Hear.calls g154 t136 t137 t138 t139 t140 t141 t142 t143 t144 t145 t146 t147 t148 t149 t150 t151 t152 t153 5000000 200000 800000 false 5 t156 t157 t158 t159 t160 t161 t162 t163 t164 t165 t166 t167 t168 t169 t170 t171 t172 t173 w _ ?side1 ?side2 A5.out).mono ?_); (case side1 => repeat (first | (with_reducible first | exact HI154.out | apply IsS48.alloc | apply IsS48.drewN | apply IsS48.drew | apply IsS48.set_0 | apply IsS48.set_1 | apply IsS48.set_2 | apply IsS48.set_3 | apply IsS48.set_4 | apply IsS48.set_5 | apply IsS48.set_6 | apply IsS48.set_7 | apply IsS48.set_8 | apply IsS48.set_9 | apply IsS48.set_10 | apply IsS48.set_12 | apply IsS48.set_13 | apply IsS48.set_14 | apply IsS48.set_15 | apply IsS48.set_16 | apply IsS48.set_17) | exact HI154.out)); (case side2 => repeat (first | (with_reducible first | exact HB.out | apply below_alloc | apply pw_below_drewN | apply below_drew1 | refine below_set ?_ (IsS48.ge HI154.out)) | exact HB.out)); rintro e w17 ⟨rfl, hi, hb, hk⟩; have n0_ := Aside0.mk (hb); have n1_ := Aside0.mk (hi); clear HB; clear HI154; have HB := n0_; have HI154 := n1_; clear n0_ n1_; (try clear hb); (try clear hb2); (try clear hk); (try clear hi)) | (go_at_call 13; (with_reducible refine (guard_Guard_Brakes.calls g154 t157 t158 t159 t160 t161 t162 t163 t164 t165 t166 t167 t147 t168 t169 t170 t171 t172 t173 false t175 t176 t177 t178 t179 t180 t181 t182 t183 t184 t185 t186 t187 t188 t189 t190 t191 w _ ?side1 ?side2 A7.out).mono ?_); (case side1 => repeat (first | (with_reducible first | exact HI154.out | apply IsS48.alloc | apply IsS48.drewN | apply IsS48.drew | apply IsS48.set_0 | apply IsS48.set_1 | apply IsS48.set_2 | apply IsS48.set_3 | apply IsS48.set_4 | apply IsS48.set_5 | apply IsS48.set_6 | apply IsS48.set_7 | apply IsS48.set_8 | apply IsS48.set_9 | apply IsS48.set_10 | apply IsS48.set_12 | apply IsS48.set_13 | apply IsS48.set_14 | apply IsS48.set_15 | apply IsS48.set_16 | apply IsS48.set_17) | exact HI154.out)); (case side2 => repeat (first | (with_reducible first | exact HB.out | apply below_alloc | apply pw_below_drewN | apply below_drew1 | refine below_set ?_ (IsS48.ge HI154.out)) | exact HB.out)); rintro e w18 ⟨rfl, hi, hb, hk⟩; have n0_ := Aside0.mk (hb); have n1_ := Aside0.mk (hi); clear HB; clear HI154; have HB := n0_; have HI154 := n1_; clear n0_ n1_; (try clear hb); (try clear hb2); (try clear hk); (try clear hi)))
     go_ret
     exact ⟨by first | rfl | (simp [errW_none, errW_some] <;> rfl) | (simp [*, errW_none, errW_some] <;> rfl), by repeat (first | (with_reducible first | exact HB.out | apply below_alloc | apply pw_below_drewN | apply below_drew1 | refine below_set ?_ (IsS48.ge HI154.out)) | exact HB.out)⟩
   ·rw [if_neg c6] at H
    have c6b0 : (t156 == 700000) = false := beq_eq_false_iff_ne.mpr c6
    have c6b1 : (t156 != 700000) = true := bne_iff_ne.mpr c6
    obtain rfl := Option.some.inj H
    go_enter Try.func14, Try.ntmps14
    go_wp2_with (first | ((with_reducible refine gate_callee (f := 9) rfl ?_); refine goesL_ (some 4) rfl rfl Try.func9 (by kernel_rfl) rfl #[] rfl (by (try simp only [List.map_toArray, List.map_cons, List.map_nil]); first | done | rfl | (simp only [List.length_drop, List.length_take]; rfl)) ?_; (with_reducible refine (flywheellaw28_Some.calls  t124 t125 t126 t127 t128 t129 t130 t131 t132 t133 t134 t135 _ A1.out).mono ?_); rintro e w19 ⟨rfl, hb⟩; refine ⟨_, rfl, ?_⟩; have n0_ := Aside0.mk (below_step (by repeat (first | (with_reducible first | exact HB.out | apply below_alloc | apply pw_below_drewN | apply below_drew1) | exact HB.out)) hb); clear HB; have HB := n0_; clear n0_; (try clear hb); (try clear hb2); (try clear hk); (try clear hi)) | ((with_reducible refine gate_callee (f := 10) rfl ?_); refine goesL_ (some 5) rfl rfl Try.func10 (by kernel_rfl) rfl #[.agg #[.int .i64 t124, .int .i64 t125, .int .i64 t126, .int .i64 t127, .int .i64 t128, .int .i64 t129, .int .i64 t130, .int .i64 t131, .int .i64 t132, .int .i64 t133, .int .i64 t134, .slice none 0 0, .int .i64 t135]] rfl (by (try simp only [List.map_toArray, List.map_cons, List.map_nil]); first | done | rfl | (simp only [List.length_drop, List.length_take]; rfl)) ?_; (refine (guard_New.made.calls t124 t125 t126 t127 t128 t129 t130 t131 t132 t133 t134 _ _ ([] : List (S85)) t135 t136 t137 t138 t139 t140 t141 t142 t143 t144 t145 t146 t147 t148 t149 t150 t151 t152 t153 t155 w _ ?side1 ?side2 ?side3 A3.out).mono ?_); (case side1 => repeat (first | (with_reducible first | exact HB.out | apply below_alloc | apply pw_below_drewN | apply below_drew1) | exact HB.out)); (case side2 => exact Kd.C_nil _ _); (case side3 => exact Nat.le_refl _); rintro e w20 ⟨g154, rfl, hi, hb, hb2⟩; refine ⟨_, rfl, ?_⟩; have n0_ := Aside0.mk (hb); have n1_ := Aside0.mk (hi); clear HB; have HB := n0_; have HI154 := n1_; clear n0_ n1_; (try clear hb); (try clear hb2); (try clear hk); (try clear hi)) | (go_at_call 11; (with_reducible refine (guard_Guard_Hear.calls g154 t136 t137 t138 t139 t140 t141 t142 t143 t144 t145 t146 t147 t148 t149 t150 t151 t152 t153 5000000 200000 800000 false 5 t156 t157 t158 t159 t160 t161 t162 t163 t164 t165 t166 t167 t168 t169 t170 t171 t172 t173 w _ ?side1 ?side2 A5.out).mono ?_); (case side1 => repeat (first | (with_reducible first | exact HI154.out | apply IsS48.alloc | apply IsS48.drewN | apply IsS48.drew | apply IsS48.set_0 | apply IsS48.set_1 | apply IsS48.set_2 | apply IsS48.set_3 | apply IsS48.set_4 | apply IsS48.set_5 | apply IsS48.set_6 | apply IsS48.set_7 | apply IsS48.set_8 | apply IsS48.set_9 | apply IsS48.set_10 | apply IsS48.set_12 | apply IsS48.set_13 | apply IsS48.set_14 | apply IsS48.set_15 | apply IsS48.set_16 | apply IsS48.set_17) | exact HI154.out)); (case side2 => repeat (first | (with_reducible first | exact HB.out | apply below_alloc | apply pw_below_drewN | apply below_drew1 | refine below_set ?_ (IsS48.ge HI154.out)) | exact HB.out)); rintro e w21 ⟨rfl, hi, hb, hk⟩; have n0_ := Aside0.mk (hb); have n1_ := Aside0.mk (hi); clear HB; clear HI154; have HB := n0_; have HI154 := n1_; clear n0_ n1_; (try clear hb); (try clear hb2); (try clear hk); (try clear hi)))
    go_ret
    exact ⟨by first | rfl | (simp [errW_none, errW_some] <;> rfl) | (simp [*, errW_none, errW_some] <;> rfl), by repeat (first | (with_reducible first | exact HB.out | apply below_alloc | apply pw_below_drewN | apply below_drew1 | refine below_set ?_ (IsS48.ge HI154.out)) | exact HB.out)⟩
  ·rw [if_neg c4] at H
   have c4b0 : (t155 == 0) = false := beq_eq_false_iff_ne.mpr c4
   have c4b1 : (t155 != 0) = true := bne_iff_ne.mpr c4
   obtain rfl := Option.some.inj H
   go_enter Try.func14, Try.ntmps14
   go_wp2_with (first | ((with_reducible refine gate_callee (f := 9) rfl ?_); refine goesL_ (some 4) rfl rfl Try.func9 (by kernel_rfl) rfl #[] rfl (by (try simp only [List.map_toArray, List.map_cons, List.map_nil]); first | done | rfl | (simp only [List.length_drop, List.length_take]; rfl)) ?_; (with_reducible refine (flywheellaw28_Some.calls  t124 t125 t126 t127 t128 t129 t130 t131 t132 t133 t134 t135 _ A1.out).mono ?_); rintro e w22 ⟨rfl, hb⟩; refine ⟨_, rfl, ?_⟩; have n0_ := Aside0.mk (below_step (by repeat (first | (with_reducible first | exact HB.out | apply below_alloc | apply pw_below_drewN | apply below_drew1) | exact HB.out)) hb); clear HB; have HB := n0_; clear n0_; (try clear hb); (try clear hb2); (try clear hk); (try clear hi)) | ((with_reducible refine gate_callee (f := 10) rfl ?_); refine goesL_ (some 5) rfl rfl Try.func10 (by kernel_rfl) rfl #[.agg #[.int .i64 t124, .int .i64 t125, .int .i64 t126, .int .i64 t127, .int .i64 t128, .int .i64 t129, .int .i64 t130, .int .i64 t131, .int .i64 t132, .int .i64 t133, .int .i64 t134, .slice none 0 0, .int .i64 t135]] rfl (by (try simp only [List.map_toArray, List.map_cons, List.map_nil]); first | done | rfl | (simp only [List.length_drop, List.length_take]; rfl)) ?_; (refine (guard_New.made.calls t124 t125 t126 t127 t128 t129 t130 t131 t132 t133 t134 _ _ ([] : List (S85)) t135 t136 t137 t138 t139 t140 t141 t142 t143 t144 t145 t146 t147 t148 t149 t150 t151 t152 t153 t155 w _ ?side1 ?side2 ?side3 A3.out).mono ?_); (case side1 => repeat (first | (with_reducible first | exact HB.out | apply below_alloc | apply pw_below_drewN | apply below_drew1) | exact HB.out)); (case side2 => exact Kd.C_nil _ _); (case side3 => exact Nat.le_refl _); rintro e w23 ⟨g154, rfl, hi, hb, hb2⟩; refine ⟨_, rfl, ?_⟩; have n0_ := Aside0.mk (hb); have n1_ := Aside0.mk (hi); clear HB; have HB := n0_; have HI154 := n1_; clear n0_ n1_; (try clear hb); (try clear hb2); (try clear hk); (try clear hi)))
   go_ret
   exact ⟨by first | rfl | (simp [errW_none, errW_some] <;> rfl) | (simp [*, errW_none, errW_some] <;> rfl), by repeat (first | (with_reducible first | exact HB.out | apply below_alloc | apply pw_below_drewN | apply below_drew1 | refine below_set ?_ (IsS48.ge HI154.out)) | exact HB.out)⟩
 ·rw [if_neg c2] at H
  have c2b0 : (guard_New.made.f t124 t125 t126 t127 t128 t129 t130 t131 t132 t133 t134 ([] : List (S85)) t135).isSome = false := by simpa using c2
  clear c2
  replace H := Option.bind_eq_some_iff.mp H
  obtain ⟨t210, A240, H⟩ := H
  replace H : (if t210 = 0 then ((guard_Guard_Hear.nilrecv.f 5000000 200000 800000 false 5).bind fun t211 => (if t211 = 700000 then ((guard_Guard_Brakes.nilrecv.f).bind fun t212 => (if t212 = true then ((guard_Guard_Tick.nilrecv.f 1000006).bind fun t213 => (some (t213 == 350000))) else (some false))) else (some false))) else (some false)) = some r := H
  have A24 := Aside0.mk A240
  clear A240
  by_cases c25 : t210 = 0
  ·rw [if_pos c25] at H
   have c25b0 : (t210 == 0) = true := beq_iff_eq.mpr c25
   have c25b1 : (t210 != 0) = false := bne_eq_false_iff_eq.mpr c25
   clear c25
   replace H := Option.bind_eq_some_iff.mp H
   obtain ⟨t211, A260, H⟩ := H
   replace H : (if t211 = 700000 then ((guard_Guard_Brakes.nilrecv.f).bind fun t212 => (if t212 = true then ((guard_Guard_Tick.nilrecv.f 1000006).bind fun t213 => (some (t213 == 350000))) else (some false))) else (some false)) = some r := H
   have A26 := Aside0.mk A260
   clear A260
   by_cases c27 : t211 = 700000
   ·rw [if_pos c27] at H
    have c27b0 : (t211 == 700000) = true := beq_iff_eq.mpr c27
    have c27b1 : (t211 != 700000) = false := bne_eq_false_iff_eq.mpr c27
    clear c27
    replace H := Option.bind_eq_some_iff.mp H
    obtain ⟨t212, A280, H⟩ := H
    replace H : (if t212 = true then ((guard_Guard_Tick.nilrecv.f 1000006).bind fun t213 => (some (t213 == 350000))) else (some false)) = some r := H
    have A28 := Aside0.mk A280
    clear A280
    by_cases c29 : t212 = true
    ·subst c29
     have H1 : ((guard_Guard_Tick.nilrecv.f 1000006).bind fun t213 => (some (t213 == 350000))) = some r := by rw [if_pos rfl] at H; exact H
     clear H
     have H := H1
     clear H1
     replace H := Option.bind_eq_some_iff.mp H
     obtain ⟨t213, A300, H⟩ := H
     replace H : (some (t213 == 350000)) = some r := H
     have A30 := Aside0.mk A300
     clear A300
     obtain rfl := Option.some.inj H
     go_enter Try.func14, Try.ntmps14
     go_wp2_with (first | ((with_reducible refine gate_callee (f := 9) rfl ?_); refine goesL_ (some 4) rfl rfl Try.func9 (by kernel_rfl) rfl #[] rfl (by (try simp only [List.map_toArray, List.map_cons, List.map_nil]); first | done | rfl | (simp only [List.length_drop, List.length_take]; rfl)) ?_; (with_reducible refine (flywheellaw28_Some.calls  t124 t125 t126 t127 t128 t129 t130 t131 t132 t133 t134 t135 _ A1.out).mono ?_); rintro e w31 ⟨rfl, hb⟩; refine ⟨_, rfl, ?_⟩; have n0_ := Aside0.mk (below_step (by repeat (first | (with_reducible first | exact HB.out | apply below_alloc | apply pw_below_drewN | apply below_drew1) | exact HB.out)) hb); clear HB; have HB := n0_; clear n0_; (try clear hb); (try clear hb2); (try clear hk); (try clear hi)) | ((with_reducible refine gate_callee (f := 10) rfl ?_); refine goesL_ (some 5) rfl rfl Try.func10 (by kernel_rfl) rfl #[.agg #[.int .i64 t124, .int .i64 t125, .int .i64 t126, .int .i64 t127, .int .i64 t128, .int .i64 t129, .int .i64 t130, .int .i64 t131, .int .i64 t132, .int .i64 t133, .int .i64 t134, .slice none 0 0, .int .i64 t135]] rfl (by (try simp only [List.map_toArray, List.map_cons, List.map_nil]); first | done | rfl | (simp only [List.length_drop, List.length_take]; rfl)) ?_; (refine (guard_New.nil.calls t124 t125 t126 t127 t128 t129 t130 t131 t132 t133 t134 _ _ ([] : List (S85)) t135 t210 _ ?side1 ?side2 A24.out).mono ?_); (case side1 => exact Kd.C_nil _ _); (case side2 => exact Nat.le_refl _); rintro e w32 ⟨rfl, hb⟩; refine ⟨_, rfl, ?_⟩; have n0_ := Aside0.mk (below_step (by repeat (first | (with_reducible first | exact HB.out | apply below_alloc | apply pw_below_drewN | apply below_drew1) | exact HB.out)) hb); clear HB; have HB := n0_; clear n0_; (try clear hb); (try clear hb2); (try clear hk); (try clear hi)) | (go_at_call 11; (with_reducible refine (guard_Guard_Hear.nilrecv.calls  5000000 200000 800000 false 5 t211 _ A26.out).mono ?_); rintro e w33 ⟨rfl, hb⟩; have n0_ := Aside0.mk (below_step (by repeat (first | (with_reducible first | exact HB.out | apply below_alloc | apply pw_below_drewN | apply below_drew1) | exact HB.out)) hb); clear HB; have HB := n0_; clear n0_; (try clear hb); (try clear hb2); (try clear hk); (try clear hi)) | (go_at_call 13; (with_reducible refine (guard_Guard_Brakes.nilrecv.calls  true _ A28.out).mono ?_); rintro e w' ⟨rfl, ⟨nd, rfl⟩⟩) | (go_at_call 17; (with_reducible refine (guard_Guard_Tick.nilrecv.calls  1000006 t213 _ A30.out).mono ?_); rintro e w34 ⟨rfl, hb⟩; have n0_ := Aside0.mk (below_step (by repeat (first | (with_reducible first | exact HB.out | apply below_alloc | apply pw_below_drewN | apply below_drew1) | exact HB.out)) hb); clear HB; have HB := n0_; clear n0_; (try clear hb); (try clear hb2); (try clear hk); (try clear hi)))
     go_ret
     exact ⟨by first | rfl | (simp [errW_none, errW_some] <;> rfl) | (simp [*, errW_none, errW_some] <;> rfl), by repeat (first | (with_reducible first | exact HB.out | apply below_alloc | apply pw_below_drewN | apply below_drew1) | exact HB.out)⟩
    ·replace c29 := Bool.eq_false_iff.mpr c29
     subst c29
     have H1 : (some false) = some r := by rw [if_neg (show ¬ (false = true) by decide)] at H; exact H
     clear H
     have H := H1
     clear H1
     obtain rfl := Option.some.inj H
     go_enter Try.func14, Try.ntmps14
     go_wp2_with (first | ((with_reducible refine gate_callee (f := 9) rfl ?_); refine goesL_ (some 4) rfl rfl Try.func9 (by kernel_rfl) rfl #[] rfl (by (try simp only [List.map_toArray, List.map_cons, List.map_nil]); first | done | rfl | (simp only [List.length_drop, List.length_take]; rfl)) ?_; (with_reducible refine (flywheellaw28_Some.calls  t124 t125 t126 t127 t128 t129 t130 t131 t132 t133 t134 t135 _ A1.out).mono ?_); rintro e w35 ⟨rfl, hb⟩; refine ⟨_, rfl, ?_⟩; have n0_ := Aside0.mk (below_step (by repeat (first | (with_reducible first | exact HB.out | apply below_alloc | apply pw_below_drewN | apply below_drew1) | exact HB.out)) hb); clear HB; have HB := n0_; clear n0_; (try clear hb); (try clear hb2); (try clear hk); (try clear hi)) | ((with_reducible refine gate_callee (f := 10) rfl ?_); refine goesL_ (some 5) rfl rfl Try.func10 (by kernel_rfl) rfl #[.agg #[.int .i64 t124, .int .i64 t125, .int .i64 t126, .int .i64 t127, .int .i64 t128, .int .i64 t129, .int .i64 t130, .int .i64 t131, .int .i64 t132, .int .i64 t133, .int .i64 t134, .slice none 0 0, .int .i64 t135]] rfl (by (try simp only [List.map_toArray, List.map_cons, List.map_nil]); first | done | rfl | (simp only [List.length_drop, List.length_take]; rfl)) ?_; (refine (guard_New.nil.calls t124 t125 t126 t127 t128 t129 t130 t131 t132 t133 t134 _ _ ([] : List (S85)) t135 t210 _ ?side1 ?side2 A24.out).mono ?_); (case side1 => exact Kd.C_nil _ _); (case side2 => exact Nat.le_refl _); rintro e w36 ⟨rfl, hb⟩; refine ⟨_, rfl, ?_⟩; have n0_ := Aside0.mk (below_step (by repeat (first | (with_reducible first | exact HB.out | apply below_alloc | apply pw_below_drewN | apply below_drew1) | exact HB.out)) hb); clear HB; have HB := n0_; clear n0_; (try clear hb); (try clear hb2); (try clear hk); (try clear hi)) | (go_at_call 11; (with_reducible refine (guard_Guard_Hear.nilrecv.calls  5000000 200000 800000 false 5 t211 _ A26.out).mono ?_); rintro e w37 ⟨rfl, hb⟩; have n0_ := Aside0.mk (below_step (by repeat (first | (with_reducible first | exact HB.out | apply below_alloc | apply pw_below_drewN | apply below_drew1) | exact HB.out)) hb); clear HB; have HB := n0_; clear n0_; (try clear hb); (try clear hb2); (try clear hk); (try clear hi)) | (go_at_call 13; (with_reducible refine (guard_Guard_Brakes.nilrecv.calls  false _ A28.out).mono ?_); rintro e w' ⟨rfl, ⟨nd, rfl⟩⟩))
     go_ret
     exact ⟨by first | rfl | (simp [errW_none, errW_some] <;> rfl) | (simp [*, errW_none, errW_some] <;> rfl), by repeat (first | (with_reducible first | exact HB.out | apply below_alloc | apply pw_below_drewN | apply below_drew1) | exact HB.out)⟩
   ·rw [if_neg c27] at H
    have c27b0 : (t211 == 700000) = false := beq_eq_false_iff_ne.mpr c27
    have c27b1 : (t211 != 700000) = true := bne_iff_ne.mpr c27
    obtain rfl := Option.some.inj H
    go_enter Try.func14, Try.ntmps14
    go_wp2_with (first | ((with_reducible refine gate_callee (f := 9) rfl ?_); refine goesL_ (some 4) rfl rfl Try.func9 (by kernel_rfl) rfl #[] rfl (by (try simp only [List.map_toArray, List.map_cons, List.map_nil]); first | done | rfl | (simp only [List.length_drop, List.length_take]; rfl)) ?_; (with_reducible refine (flywheellaw28_Some.calls  t124 t125 t126 t127 t128 t129 t130 t131 t132 t133 t134 t135 _ A1.out).mono ?_); rintro e w38 ⟨rfl, hb⟩; refine ⟨_, rfl, ?_⟩; have n0_ := Aside0.mk (below_step (by repeat (first | (with_reducible first | exact HB.out | apply below_alloc | apply pw_below_drewN | apply below_drew1) | exact HB.out)) hb); clear HB; have HB := n0_; clear n0_; (try clear hb); (try clear hb2); (try clear hk); (try clear hi)) | ((with_reducible refine gate_callee (f := 10) rfl ?_); refine goesL_ (some 5) rfl rfl Try.func10 (by kernel_rfl) rfl #[.agg #[.int .i64 t124, .int .i64 t125, .int .i64 t126, .int .i64 t127, .int .i64 t128, .int .i64 t129, .int .i64 t130, .int .i64 t131, .int .i64 t132, .int .i64 t133, .int .i64 t134, .slice none 0 0, .int .i64 t135]] rfl (by (try simp only [List.map_toArray, List.map_cons, List.map_nil]); first | done | rfl | (simp only [List.length_drop, List.length_take]; rfl)) ?_; (refine (guard_New.nil.calls t124 t125 t126 t127 t128 t129 t130 t131 t132 t133 t134 _ _ ([] : List (S85)) t135 t210 _ ?side1 ?side2 A24.out).mono ?_); (case side1 => exact Kd.C_nil _ _); (case side2 => exact Nat.le_refl _); rintro e w39 ⟨rfl, hb⟩; refine ⟨_, rfl, ?_⟩; have n0_ := Aside0.mk (below_step (by repeat (first | (with_reducible first | exact HB.out | apply below_alloc | apply pw_below_drewN | apply below_drew1) | exact HB.out)) hb); clear HB; have HB := n0_; clear n0_; (try clear hb); (try clear hb2); (try clear hk); (try clear hi)) | (go_at_call 11; (with_reducible refine (guard_Guard_Hear.nilrecv.calls  5000000 200000 800000 false 5 t211 _ A26.out).mono ?_); rintro e w40 ⟨rfl, hb⟩; have n0_ := Aside0.mk (below_step (by repeat (first | (with_reducible first | exact HB.out | apply below_alloc | apply pw_below_drewN | apply below_drew1) | exact HB.out)) hb); clear HB; have HB := n0_; clear n0_; (try clear hb); (try clear hb2); (try clear hk); (try clear hi)))
    go_ret
    exact ⟨by first | rfl | (simp [errW_none, errW_some] <;> rfl) | (simp [*, errW_none, errW_some] <;> rfl), by repeat (first | (with_reducible first | exact HB.out | apply below_alloc | apply pw_below_drewN | apply below_drew1) | exact HB.out)⟩
  ·rw [if_neg c25] at H
   have c25b0 : (t210 == 0) = false := beq_eq_false_iff_ne.mpr c25
   have c25b1 : (t210 != 0) = true := bne_iff_ne.mpr c25
   obtain rfl := Option.some.inj H
   go_enter Try.func14, Try.ntmps14
   go_wp2_with (first | ((with_reducible refine gate_callee (f := 9) rfl ?_); refine goesL_ (some 4) rfl rfl Try.func9 (by kernel_rfl) rfl #[] rfl (by (try simp only [List.map_toArray, List.map_cons, List.map_nil]); first | done | rfl | (simp only [List.length_drop, List.length_take]; rfl)) ?_; (with_reducible refine (flywheellaw28_Some.calls  t124 t125 t126 t127 t128 t129 t130 t131 t132 t133 t134 t135 _ A1.out).mono ?_); rintro e w41 ⟨rfl, hb⟩; refine ⟨_, rfl, ?_⟩; have n0_ := Aside0.mk (below_step (by repeat (first | (with_reducible first | exact HB.out | apply below_alloc | apply pw_below_drewN | apply below_drew1) | exact HB.out)) hb); clear HB; have HB := n0_; clear n0_; (try clear hb); (try clear hb2); (try clear hk); (try clear hi)) | ((with_reducible refine gate_callee (f := 10) rfl ?_); refine goesL_ (some 5) rfl rfl Try.func10 (by kernel_rfl) rfl #[.agg #[.int .i64 t124, .int .i64 t125, .int .i64 t126, .int .i64 t127, .int .i64 t128, .int .i64 t129, .int .i64 t130, .int .i64 t131, .int .i64 t132, .int .i64 t133, .int .i64 t134, .slice none 0 0, .int .i64 t135]] rfl (by (try simp only [List.map_toArray, List.map_cons, List.map_nil]); first | done | rfl | (simp only [List.length_drop, List.length_take]; rfl)) ?_; (refine (guard_New.nil.calls t124 t125 t126 t127 t128 t129 t130 t131 t132 t133 t134 _ _ ([] : List (S85)) t135 t210 _ ?side1 ?side2 A24.out).mono ?_); (case side1 => exact Kd.C_nil _ _); (case side2 => exact Nat.le_refl _); rintro e w42 ⟨rfl, hb⟩; refine ⟨_, rfl, ?_⟩; have n0_ := Aside0.mk (below_step (by repeat (first | (with_reducible first | exact HB.out | apply below_alloc | apply pw_below_drewN | apply below_drew1) | exact HB.out)) hb); clear HB; have HB := n0_; clear n0_; (try clear hb); (try clear hb2); (try clear hk); (try clear hi)))
   go_ret
   exact ⟨by first | rfl | (simp [errW_none, errW_some] <;> rfl) | (simp [*, errW_none, errW_some] <;> rfl), by repeat (first | (with_reducible first | exact HB.out | apply below_alloc | apply pw_below_drewN | apply below_drew1) | exact HB.out)⟩
end Go.Proofs.Ytkfkbebpcmmnfaa.P
end

section
namespace Go.Proofs.Ytkfkbebpcmmnfaa.P
open Go.RowKit Go.Proofs.YtkfkbebpcmmnfaaW.PrintWords Go.Proofs.YtkfkbebpcmmnfaaW.PrintLast Go.Proofs.YtkfkbebpcmmnfaaW.PrintMore
attribute [local go_sem] max2_int min2_int max_two min_two max_three min_three max_four min_four   -- for this text's walks alone
set_option linter.unusedVariables false
set_option linter.unusedSimpArgs false
def guard_Guard_Target.f (s0_0 : Int) (s0_1 : Int) (s0_2 : Int) (s0_3 : Int) (s0_4 : Int) (s0_5 : Int) (s0_6 : Int) (s0_7 : Int) (s0_8 : Int) (s0_9 : Int) (s0_10 : Int) (s0_11 : List (S85)) (s0_12 : Int) (s0_13 : Int) (s0_14 : Int) (s0_15 : Int) (s0_16 : Bool) (s0_17 : Bool) : Option (Int × Int × Int × Int × Int × Int × Int × Int × Int × Int × Int × Int × Int × Int × Int × Int × Bool × Bool) := some (s0_13, s0_0, s0_1, s0_2, s0_3, s0_4, s0_5, s0_6, s0_7, s0_8, s0_9, s0_10, s0_12, s0_13, s0_14, s0_15, s0_16, s0_17)
set_option maxHeartbeats 8000000 in
set_option maxRecDepth 100000 in
theorem guard_Guard_Target.calls (g : Nat) (s0_0 : Int) (s0_1 : Int) (s0_2 : Int) (s0_3 : Int) (s0_4 : Int) (s0_5 : Int) (s0_6 : Int) (s0_7 : Int) (s0_8 : Int) (s0_9 : Int) (s0_10 : Int) (s0_11 : List (S85)) (s0_12 : Int) (s0_13 : Int) (s0_14 : Int) (s0_15 : Int) (s0_16 : Bool) (s0_17 : Bool) (r1 : Int) (r2 : Int) (r3 : Int) (r4 : Int) (r5 : Int) (r6 : Int) (r7 : Int) (r8 : Int) (r9 : Int) (r10 : Int) (r11 : Int) (r12 : Int) (r13 : Int) (r14 : Int) (r15 : Int) (r16 : Int) (r17 : Bool) (r18 : Bool) (w0 w : World) (hI : IsS48 w0 w g s0_0 s0_1 s0_2 s0_3 s0_4 s0_5 s0_6 s0_7 s0_8 s0_9 s0_10 s0_11 s0_12 s0_13 s0_14 s0_15 s0_16 s0_17) (hB : Below w0.heap.size w0 w) (h : guard_Guard_Target.f s0_0 s0_1 s0_2 s0_3 s0_4 s0_5 s0_6 s0_7 s0_8 s0_9 s0_10 s0_11 s0_12 s0_13 s0_14 s0_15 s0_16 s0_17 = some (r1, r2, r3, r4, r5, r6, r7, r8, r9, r10, r11, r12, r13, r14, r15, r16, r17, r18)) :
  Calls Try.prog 16 #[.pointer (some ⟨g, 0, none⟩)] w fun e w' => e = .returned (.int .i64 r1) ∧ IsS48 w0 w' g r2 r3 r4 r5 r6 r7 r8 r9 r10 r11 r12 s0_11 r13 r14 r15 r16 r17 r18 ∧ Below w0.heap.size w0 w' ∧ KeepBut w w' g none := by
 have hpn29_eql : ∀ (a_ : Addr) (W_ : World), (Go.binOp .eql 29 (.pointer (some a_)) (.pointer none)).run Try.prog W_ = .ok (.bool false) W_ := fun _ _ => by kernel_rfl
 have hnn29_eql : ∀ (W_ : World), (Go.binOp .eql 29 (.pointer none) (.pointer none)).run Try.prog W_ = .ok (.bool true) W_ := fun _ => by kernel_rfl
 have HI0 := Aside0.mk hI
 have HK := Aside0.mk (KeepBut.refl w g none)
 have HL := Aside0.mk hB.size
 clear hI
 have HW0 := Aside0.mk hB.size
 have HB := Aside0.mk hB
 clear hB
 have H : (some (s0_13, s0_0, s0_1, s0_2, s0_3, s0_4, s0_5, s0_6, s0_7, s0_8, s0_9, s0_10, s0_12, s0_13, s0_14, s0_15, s0_16, s0_17)) = some (r1, r2, r3, r4, r5, r6, r7, r8, r9, r10, r11, r12, r13, r14, r15, r16, r17, r18) := h
 clear h
 simp only [Option.some.injEq, Prod.mk.injEq] at H
 obtain ⟨rfl, rfl, rfl, rfl, rfl, rfl, rfl, rfl, rfl, rfl, rfl, rfl, rfl, rfl, rfl, rfl, rfl, rfl⟩ := H
 obtain ⟨ASz2_11, cSz2_11, HGz2, hgz2, HSz2_11⟩ := HI0.out
 have hcz2_0 := cellS48_0 HGz2
 have hcz2_1 := cellS48_1 HGz2
 have hcz2_2 := cellS48_2 HGz2
 have hcz2_3 := cellS48_3 HGz2
 have hcz2_4 := cellS48_4 HGz2
 have hcz2_5 := cellS48_5 HGz2
 have hcz2_6 := cellS48_6 HGz2
 have hcz2_7 := cellS48_7 HGz2
 have hcz2_8 := cellS48_8 HGz2
 have hcz2_9 := cellS48_9 HGz2
 have hcz2_10 := cellS48_10 HGz2
 have hcz2_11 := cellS48_11 HGz2
 have hcz2_12 := cellS48_12 HGz2
 have hcz2_13 := cellS48_13 HGz2
 have hcz2_14 := cellS48_14 HGz2
 have hcz2_15 := cellS48_15 HGz2
 have hcz2_16 := cellS48_16 HGz2
 have hcz2_17 := cellS48_17 HGz2
 have hfz2_0 := blk_frozen HGz2 0
 have hfz2_1 := blk_frozen HGz2 1
 have hfz2_2 := blk_frozen HGz2 2
 have hfz2_3 := blk_frozen HGz2 3
 have hfz2_4 := blk_frozen HGz2 4
 have hfz2_5 := blk_frozen HGz2 5
 have hfz2_6 := blk_frozen HGz2 6
 have hfz2_7 := blk_frozen HGz2 7
 have hfz2_8 := blk_frozen HGz2 8
 have hfz2_9 := blk_frozen HGz2 9
 have hfz2_10 := blk_frozen HGz2 10
 have hfz2_12 := blk_frozen HGz2 12
 have hfz2_13 := blk_frozen HGz2 13
 have hfz2_14 := blk_frozen HGz2 14
 have hfz2_15 := blk_frozen HGz2 15
 have hfz2_16 := blk_frozen HGz2 16
 have hfz2_17 := blk_frozen HGz2 17
 clear HGz2 hgz2
 go_enter Try.func16, Try.ntmps16
 go_wp2
 go_ret
 exact ⟨by first | rfl | (simp [errW_none, errW_some] <;> rfl) | (simp [*, errW_none, errW_some] <;> rfl), by repeat (first | (with_reducible first | exact HI0.out | apply IsS48.alloc | apply IsS48.drewN | apply IsS48.drew | apply IsS48.set_0 | apply IsS48.set_1 | apply IsS48.set_2 | apply IsS48.set_3 | apply IsS48.set_4 | apply IsS48.set_5 | apply IsS48.set_6 | apply IsS48.set_7 | apply IsS48.set_8 | apply IsS48.set_9 | apply IsS48.set_10 | apply IsS48.set_12 | apply IsS48.set_13 | apply IsS48.set_14 | apply IsS48.set_15 | apply IsS48.set_16 | apply IsS48.set_17) | exact HI0.out), by repeat (first | (with_reducible first | exact HB.out | apply below_alloc | apply pw_below_drewN | apply below_drew1 | refine below_set ?_ (IsS48.ge HI0.out)) | exact HB.out), by repeat (first | (with_reducible first | exact HK.out | apply KeepBut.set_ | apply keep_drewN | apply keep_drew | apply keep_alloc) | exact HK.out)⟩
end Go.Proofs.Ytkfkbebpcmmnfaa.P
end

section
namespace Go.Proofs.Ytkfkbebpcmmnfaa.P
open Go.RowKit Go.Proofs.YtkfkbebpcmmnfaaW.PrintWords Go.Proofs.YtkfkbebpcmmnfaaW.PrintLast Go.Proofs.YtkfkbebpcmmnfaaW.PrintMore
attribute [local go_sem] max2_int min2_int max_two min_two max_three min_three max_four min_four   -- for this text's walks alone
set_option linter.unusedVariables false
set_option linter.unusedSimpArgs false
def flywheelkeep_Mod.f (a0 : Int) (a1 : Int) : Option (Int) := if a1 < 1 then (some 0) else (if a1 = 0 then (none) else (some (Int.tmod (wrap64 ((Int.tmod a0 a1) + a1)) a1)))
set_option maxHeartbeats 8000000 in
set_option maxRecDepth 100000 in
theorem flywheelkeep_Mod.calls (a0 : Int) (a1 : Int) (r : Int) (w : World) (h : flywheelkeep_Mod.f a0 a1 = some r) :
  Calls Try.prog 18 #[.int .i64 a0, .int .i64 a1] w fun e w' => e = .returned (.int .i64 r) ∧ Drawn0 w w' := by
 have H : (if a1 < 1 then (some 0) else (if a1 = 0 then (none) else (some (Int.tmod (wrap64 ((Int.tmod a0 a1) + a1)) a1)))) = some r := h
 clear h
 by_cases c3 : a1 < 1
 ·rw [if_pos c3] at H
  have c3b0 : decide (a1 < 1) = true := decide_eq_true c3
  clear c3
  obtain rfl := Option.some.inj H
  go_enter Try.func18, Try.ntmps18
  go_wp2
  go_ret
  exact ⟨by first | rfl | (simp; done) | (simp [*]; done), by repeat (first | exact Drawn0.refl _ | apply Drawn0.step)⟩
 ·rw [if_neg c3] at H
  have c3b0 : decide (a1 < 1) = false := decide_eq_false c3
  clear c3
  by_cases c4 : a1 = 0
  ·rw [if_pos c4] at H
   exact absurd H (by simp)
  ·rw [if_neg c4] at H
   have c4b0 : (a1 == 0) = false := beq_eq_false_iff_ne.mpr c4
   have c4b1 : (a1 != 0) = true := bne_iff_ne.mpr c4
   obtain rfl := Option.some.inj H
   go_enter Try.func18, Try.ntmps18
   go_wp2
   go_ret
   exact ⟨by first | rfl | (simp; done) | (simp [*]; done), by repeat (first | exact Drawn0.refl _ | apply Drawn0.step)⟩
def flywheellaw28_GuardSilent.l0 : Nat → Int → Int → Int → Int → Int → Int → Int → Int → Int → Int → Int → Int → Int → Int → Int → Int → Int → Int → Int → Int → Int → Int → Int → Int → Int → Int → Int → List (S85) → Int → Int → Int → Int → Bool → Bool → Option (Bool)
 | 0, _, _, _, _, _, _, _, _, _, _, _, _, _, _, _, _, _, _, _, _, _, _, _, _, _, _, _, _, _, _, _, _, _, _ => none
 | k + 1, x1, x8, x9, x10, x671000, x671001, x671002, x671003, x671004, x671005, x671006, x671007, x671008, x671009, x671010, x671012, x690000, x690001, x690002, x690003, x690004, x690005, x690006, x690007, x690008, x690009, x690010, x690011, x690012, x690013, x690014, x690015, x690016, x690017 => (flywheelkeep_Mod.f x1 20).bind fun t691 => (if x10 < t691 then ((guard_Guard_Tick.f x690000 x690001 x690002 x690003 x690004 x690005 x690006 x690007 x690008 x690009 x690010 x690011 x690012 x690013 x690014 x690015 x690016 x690017 (wrap64 (x9 + x671007))).bind fun bt711 => (if bt711.1 = x8 then ((guard_Guard_Tick.f bt711.2.1 bt711.2.2.1 bt711.2.2.2.1 bt711.2.2.2.2.1 bt711.2.2.2.2.2.1 bt711.2.2.2.2.2.2.1 bt711.2.2.2.2.2.2.2.1 bt711.2.2.2.2.2.2.2.2.1 bt711.2.2.2.2.2.2.2.2.2.1 bt711.2.2.2.2.2.2.2.2.2.2.1 bt711.2.2.2.2.2.2.2.2.2.2.2.1 x690011 bt711.2.2.2.2.2.2.2.2.2.2.2.2.1 bt711.2.2.2.2.2.2.2.2.2.2.2.2.2.1 bt711.2.2.2.2.2.2.2.2.2.2.2.2.2.2.1 bt711.2.2.2.2.2.2.2.2.2.2.2.2.2.2.2.1 bt711.2.2.2.2.2.2.2.2.2.2.2.2.2.2.2.2.1 bt711.2.2.2.2.2.2.2.2.2.2.2.2.2.2.2.2.2 (wrap64 (x9 + (wrap64 (x671007 + 1))))).bind fun bt729 => (if bt729.1 = (mx (wrap64 (Int.tdiv x8 2)) x671001) then (flywheellaw28_GuardSilent.l0 k x1 (mx (wrap64 (Int.tdiv x8 2)) x671001) (wrap64 (x9 + (wrap64 (x671007 + 1)))) (wrap64 (x10 + 1)) x671000 x671001 x671002 x671003 x671004 x671005 x671006 x671007 x671008 x671009 x671010 x671012 bt729.2.1 bt729.2.2.1 bt729.2.2.2.1 bt729.2.2.2.2.1 bt729.2.2.2.2.2.1 bt729.2.2.2.2.2.2.1 bt729.2.2.2.2.2.2.2.1 bt729.2.2.2.2.2.2.2.2.1 bt729.2.2.2.2.2.2.2.2.2.1 bt729.2.2.2.2.2.2.2.2.2.2.1 bt729.2.2.2.2.2.2.2.2.2.2.2.1 x690011 bt729.2.2.2.2.2.2.2.2.2.2.2.2.1 bt729.2.2.2.2.2.2.2.2.2.2.2.2.2.1 bt729.2.2.2.2.2.2.2.2.2.2.2.2.2.2.1 bt729.2.2.2.2.2.2.2.2.2.2.2.2.2.2.2.1 bt729.2.2.2.2.2.2.2.2.2.2.2.2.2.2.2.2.1 bt729.2.2.2.2.2.2.2.2.2.2.2.2.2.2.2.2.2) else (some false))) else (some false))) else ((guard_Guard_Target.f x690000 x690001 x690002 x690003 x690004 x690005 x690006 x690007 x690008 x690009 x690010 x690011 x690012 x690013 x690014 x690015 x690016 x690017).bind fun bt692 => (if bt692.1 = x8 then ((flywheellaw28_wakes.f).bind fun t710 => (some t710)) else (some false))))
def flywheellaw28_GuardSilent.f (k : Nat) (a0 : Int) (a1 : Int) : Option (Bool) := (flywheellaw28_Some.f).bind fun bt658 => (if (guard_New.made.f bt658.1 bt658.2.1 bt658.2.2.1 bt658.2.2.2.1 bt658.2.2.2.2.1 bt658.2.2.2.2.2.1 bt658.2.2.2.2.2.2.1 (wrap64 (1000 + (wrap64 (a0)))) bt658.2.2.2.2.2.2.2.2.1 bt658.2.2.2.2.2.2.2.2.2.1 bt658.2.2.2.2.2.2.2.2.2.2.1 ([] : List (S85)) bt658.2.2.2.2.2.2.2.2.2.2.2).isSome = true then ((guard_New.made.f bt658.1 bt658.2.1 bt658.2.2.1 bt658.2.2.2.1 bt658.2.2.2.2.1 bt658.2.2.2.2.2.1 bt658.2.2.2.2.2.2.1 (wrap64 (1000 + (wrap64 (a0)))) bt658.2.2.2.2.2.2.2.2.1 bt658.2.2.2.2.2.2.2.2.2.1 bt658.2.2.2.2.2.2.2.2.2.2.1 ([] : List (S85)) bt658.2.2.2.2.2.2.2.2.2.2.2).bind fun bt671 => (if bt671.2.2.2.2.2.2.2.2.2.2.2.2.2.2.2.2.2.2 = 0 then (flywheellaw28_GuardSilent.l0 k a1 bt658.2.2.2.1 0 0 bt658.1 bt658.2.1 bt658.2.2.1 bt658.2.2.2.1 bt658.2.2.2.2.1 bt658.2.2.2.2.2.1 bt658.2.2.2.2.2.2.1 (wrap64 (1000 + (wrap64 (a0)))) bt658.2.2.2.2.2.2.2.2.1 bt658.2.2.2.2.2.2.2.2.2.1 bt658.2.2.2.2.2.2.2.2.2.2.1 bt658.2.2.2.2.2.2.2.2.2.2.2 bt671.1 bt671.2.1 bt671.2.2.1 bt671.2.2.2.1 bt671.2.2.2.2.1 bt671.2.2.2.2.2.1 bt671.2.2.2.2.2.2.1 bt671.2.2.2.2.2.2.2.1 bt671.2.2.2.2.2.2.2.2.1 bt671.2.2.2.2.2.2.2.2.2.1 bt671.2.2.2.2.2.2.2.2.2.2.1 bt671.2.2.2.2.2.2.2.2.2.2.2.1 bt671.2.2.2.2.2.2.2.2.2.2.2.2.1 bt671.2.2.2.2.2.2.2.2.2.2.2.2.2.1 bt671.2.2.2.2.2.2.2.2.2.2.2.2.2.2.1 bt671.2.2.2.2.2.2.2.2.2.2.2.2.2.2.2.1 bt671.2.2.2.2.2.2.2.2.2.2.2.2.2.2.2.2.1 bt671.2.2.2.2.2.2.2.2.2.2.2.2.2.2.2.2.2.1) else (some false))) else (none))
set_option maxHeartbeats 8000000 in
set_option maxRecDepth 100000 in
theorem flywheellaw28_GuardSilent.calls (k : Nat) (a0 : Int) (a1 : Int) (r : Bool) (w : World) (h : flywheellaw28_GuardSilent.f k a0 a1 = some r) :
  Calls Try.prog 7 #[.int .u32 a0, .int .i64 a1] w fun e w' => e = .returned (.bool r) ∧ Below w.heap.size w w' := by
 have hu27 := Try.underlying27
 have HB := Aside0.mk (Below.refl w.heap.size w)
 have H : ((flywheellaw28_Some.f).bind fun bt658 => (if (guard_New.made.f bt658.1 bt658.2.1 bt658.2.2.1 bt658.2.2.2.1 bt658.2.2.2.2.1 bt658.2.2.2.2.2.1 bt658.2.2.2.2.2.2.1 (wrap64 (1000 + (wrap64 (a0)))) bt658.2.2.2.2.2.2.2.2.1 bt658.2.2.2.2.2.2.2.2.2.1 bt658.2.2.2.2.2.2.2.2.2.2.1 ([] : List (S85)) bt658.2.2.2.2.2.2.2.2.2.2.2).isSome = true then ((guard_New.made.f bt658.1 bt658.2.1 bt658.2.2.1 bt658.2.2.2.1 bt658.2.2.2.2.1 bt658.2.2.2.2.2.1 bt658.2.2.2.2.2.2.1 (wrap64 (1000 + (wrap64 (a0)))) bt658.2.2.2.2.2.2.2.2.1 bt658.2.2.2.2.2.2.2.2.2.1 bt658.2.2.2.2.2.2.2.2.2.2.1 ([] : List (S85)) bt658.2.2.2.2.2.2.2.2.2.2.2).bind fun bt671 => (if bt671.2.2.2.2.2.2.2.2.2.2.2.2.2.2.2.2.2.2 = 0 then (flywheellaw28_GuardSilent.l0 k a1 bt658.2.2.2.1 0 0 bt658.1 bt658.2.1 bt658.2.2.1 bt658.2.2.2.1 bt658.2.2.2.2.1 bt658.2.2.2.2.2.1 bt658.2.2.2.2.2.2.1 (wrap64 (1000 + (wrap64 (a0)))) bt658.2.2.2.2.2.2.2.2.1 bt658.2.2.2.2.2.2.2.2.2.1 bt658.2.2.2.2.2.2.2.2.2.2.1 bt658.2.2.2.2.2.2.2.2.2.2.2 bt671.1 bt671.2.1 bt671.2.2.1 bt671.2.2.2.1 bt671.2.2.2.2.1 bt671.2.2.2.2.2.1 bt671.2.2.2.2.2.2.1 bt671.2.2.2.2.2.2.2.1 bt671.2.2.2.2.2.2.2.2.1 bt671.2.2.2.2.2.2.2.2.2.1 bt671.2.2.2.2.2.2.2.2.2.2.1 bt671.2.2.2.2.2.2.2.2.2.2.2.1 bt671.2.2.2.2.2.2.2.2.2.2.2.2.1 bt671.2.2.2.2.2.2.2.2.2.2.2.2.2.1 bt671.2.2.2.2.2.2.2.2.2.2.2.2.2.2.1 bt671.2.2.2.2.2.2.2.2.2.2.2.2.2.2.2.1 bt671.2.2.2.2.2.2.2.2.2.2.2.2.2.2.2.2.1 bt671.2.2.2.2.2.2.2.2.2.2.2.2.2.2.2.2.2.1) else (some false))) else (none))) = some r := h
 clear h
 replace H := Option.bind_eq_some_iff.mp H
 obtain ⟨⟨t658, t659, t660, t661, t662, t663, t664, t665, t666, t667, t668, t669⟩, A30, H⟩ := H
 replace H : (if (guard_New.made.f t658 t659 t660 t661 t662 t663 t664 (wrap64 (1000 + (wrap64 (a0)))) t666 t667 t668 ([] : List (S85)) t669).isSome = true then ((guard_New.made.f t658 t659 t660 t661 t662 t663 t664 (wrap64 (1000 + (wrap64 (a0)))) t666 t667 t668 ([] : List (S85)) t669).bind fun bt671 => (if bt671.2.2.2.2.2.2.2.2.2.2.2.2.2.2.2.2.2.2 = 0 then (flywheellaw28_GuardSilent.l0 k a1 t661 0 0 t658 t659 t660 t661 t662 t663 t664 (wrap64 (1000 + (wrap64 (a0)))) t666 t667 t668 t669 bt671.1 bt671.2.1 bt671.2.2.1 bt671.2.2.2.1 bt671.2.2.2.2.1 bt671.2.2.2.2.2.1 bt671.2.2.2.2.2.2.1 bt671.2.2.2.2.2.2.2.1 bt671.2.2.2.2.2.2.2.2.1 bt671.2.2.2.2.2.2.2.2.2.1 bt671.2.2.2.2.2.2.2.2.2.2.1 bt671.2.2.2.2.2.2.2.2.2.2.2.1 bt671.2.2.2.2.2.2.2.2.2.2.2.2.1 bt671.2.2.2.2.2.2.2.2.2.2.2.2.2.1 bt671.2.2.2.2.2.2.2.2.2.2.2.2.2.2.1 bt671.2.2.2.2.2.2.2.2.2.2.2.2.2.2.2.1 bt671.2.2.2.2.2.2.2.2.2.2.2.2.2.2.2.2.1 bt671.2.2.2.2.2.2.2.2.2.2.2.2.2.2.2.2.2.1) else (some false))) else (none)) = some r := H
 have A3 := Aside0.mk A30
 clear A30
 by_cases c4 : (guard_New.made.f t658 t659 t660 t661 t662 t663 t664 (wrap64 (1000 + (wrap64 (a0)))) t666 t667 t668 ([] : List (S85)) t669).isSome = true
 ·rw [if_pos c4] at H
  have c4b0 : (guard_New.made.f t658 t659 t660 t661 t662 t663 t664 (wrap64 (1000 + (wrap64 (a0)))) t666 t667 t668 ([] : List (S85)) t669).isSome = true := c4
  clear c4
  replace H := Option.bind_eq_some_iff.mp H
  obtain ⟨⟨t671, t672, t673, t674, t675, t676, t677, t678, t679, t680, t681, t682, t683, t684, t685, t686, t687, t688, t690⟩, A50, H⟩ := H
  replace H : (if t690 = 0 then (flywheellaw28_GuardSilent.l0 k a1 t661 0 0 t658 t659 t660 t661 t662 t663 t664 (wrap64 (1000 + (wrap64 (a0)))) t666 t667 t668 t669 t671 t672 t673 t674 t675 t676 t677 t678 t679 t680 t681 t682 t683 t684 t685 t686 t687 t688) else (some false)) = some r := H
  have A5 := Aside0.mk A50
  clear A50
  by_cases c6 : t690 = 0
  ·rw [if_pos c6] at H
   have c6b0 : (t690 == 0) = true := beq_iff_eq.mpr c6
   have c6b1 : (t690 != 0) = false := bne_eq_false_iff_eq.mpr c6
   clear c6
   have H' := Aside0.mk H
   clear H
   go_enter Try.func7, Try.ntmps7
   go_wp2_with (first | ((with_reducible refine gate_callee (f := 9) rfl ?_); refine goesL_ (some 11) rfl rfl Try.func9 (by kernel_rfl) rfl #[] rfl (by (try simp only [List.map_toArray, List.map_cons, List.map_nil]); first | done | rfl | (simp only [List.length_drop, List.length_take]; rfl)) ?_; (with_reducible refine (flywheellaw28_Some.calls  t658 t659 t660 t661 t662 t663 t664 t665 t666 t667 t668 t669 _ A3.out).mono ?_); rintro e w7 ⟨rfl, hb⟩; refine ⟨_, rfl, ?_⟩; have n0_ := Aside0.mk (below_step (by repeat (first | (with_reducible first | exact HB.out | apply below_alloc | apply pw_below_drewN | apply below_drew1) | exact HB.out)) hb); clear HB; have HB := n0_; clear n0_; (try clear hb); (try clear hb2); (try clear hk); (try clear hi)) | ((with_reducible refine gate_dst (N := 5) rfl ?_); refine box_event ?hg (N := 5) ?hd (cs := #[.int .i64 0, .int .i64 0, .int .i64 0, .int .i64 0, .int .i64 0, .int .i64 0, .int .i64 0, .int .i64 0, .int .i64 0, .int .i64 0, .int .i64 0, .slice none 0 0, .int .i64 0]) (t := 27) ?hr ?_; (case hd => rfl); (case hg => rfl); (case hr => first | (go_simp; done) | (go_simp; rfl)); intro gb670 hg w8 hbox hb; have n0_ := Aside0.mk (below_step (by repeat (first | (with_reducible first | exact HB.out | apply below_alloc | apply pw_below_drewN | apply below_drew1) | exact HB.out)) hb); have n1_ := Aside0.mk (hbox); have n2_ := Aside0.mk ((by rw [hg]; exact (below_size (by repeat (first | (with_reducible first | exact HB.out | apply below_alloc | apply pw_below_drewN | apply below_drew1) | exact HB.out))) : w.heap.size ≤ gb670)); have n3_ := Aside0.mk ((by rw [hg]; exact (below_size (by repeat (first | (with_reducible first | exact HB.out | apply below_alloc | apply pw_below_drewN | apply below_drew1) | exact HB.out))) : w.heap.size ≤ gb670)); clear HB; have HB := n0_; have BK670 := n1_; have GW670 := n2_; have GE670 := n3_; clear n0_ n1_ n2_ n3_; clear hb hbox hg; have hcz9_0 : w8.cell? ⟨gb670, 0, none⟩ = some (.int .i64 0) := (blk_cell BK670.out 0).trans rfl; have hcz9_1 : w8.cell? ⟨gb670, 1, none⟩ = some (.int .i64 0) := (blk_cell BK670.out 1).trans rfl; have hcz9_2 : w8.cell? ⟨gb670, 2, none⟩ = some (.int .i64 0) := (blk_cell BK670.out 2).trans rfl; have hcz9_3 : w8.cell? ⟨gb670, 3, none⟩ = some (.int .i64 0) := (blk_cell BK670.out 3).trans rfl; have hcz9_4 : w8.cell? ⟨gb670, 4, none⟩ = some (.int .i64 0) := (blk_cell BK670.out 4).trans rfl; have hcz9_5 : w8.cell? ⟨gb670, 5, none⟩ = some (.int .i64 0) := (blk_cell BK670.out 5).trans rfl; have hcz9_6 : w8.cell? ⟨gb670, 6, none⟩ = some (.int .i64 0) := (blk_cell BK670.out 6).trans rfl; have hcz9_7 : w8.cell? ⟨gb670, 7, none⟩ = some (.int .i64 0) := (blk_cell BK670.out 7).trans rfl; have hcz9_8 : w8.cell? ⟨gb670, 8, none⟩ = some (.int .i64 0) := (blk_cell BK670.out 8).trans rfl; have hcz9_9 : w8.cell? ⟨gb670, 9, none⟩ = some (.int .i64 0) := (blk_cell BK670.out 9).trans rfl; have hcz9_10 : w8.cell? ⟨gb670, 10, none⟩ = some (.int .i64 0) := (blk_cell BK670.out 10).trans rfl; have hcz9_11 : w8.cell? ⟨gb670, 11, none⟩ = some (.slice none 0 0) := (blk_cell BK670.out 11).trans rfl; have hcz9_12 : w8.cell? ⟨gb670, 12, none⟩ = some (.int .i64 0) := (blk_cell BK670.out 12).trans rfl; have hfz9_0 := blk_frozen BK670.out 0; have hfz9_1 := blk_frozen BK670.out 1; have hfz9_2 := blk_frozen BK670.out 2; have hfz9_3 := blk_frozen BK670.out 3; have hfz9_4 := blk_frozen BK670.out 4; have hfz9_5 := blk_frozen BK670.out 5; have hfz9_6 := blk_frozen BK670.out 6; have hfz9_7 := blk_frozen BK670.out 7; have hfz9_8 := blk_frozen BK670.out 8; have hfz9_9 := blk_frozen BK670.out 9; have hfz9_10 := blk_frozen BK670.out 10; have hfz9_11 := blk_frozen BK670.out 11; have hfz9_12 := blk_frozen BK670.out 12) | ((with_reducible refine gate_store (t := 27) (p := 5) (v := .tmp 11) rfl ?_); refine whole_store [.int .i64 t658, .int .i64 t659, .int .i64 t660, .int .i64 t661, .int .i64 t662, .int .i64 t663, .int .i64 t664, .int .i64 t665, .int .i64 t666, .int .i64 t667, .int .i64 t668, .slice none 0 0, .int .i64 t669] 5 (.tmp 11) rfl rfl rfl rfl rfl rfl (by kernel_rfl) (by simp [Value.oneCell']) BK670.out rfl HB.out GE670.out ?_; intro wv_ hbk_ hB_; clear BK670 HB hcz9_0 hfz9_0 hcz9_1 hfz9_1 hcz9_2 hfz9_2 hcz9_3 hfz9_3 hcz9_4 hfz9_4 hcz9_5 hfz9_5 hcz9_6 hfz9_6 hcz9_7 hfz9_7 hcz9_8 hfz9_8 hcz9_9 hfz9_9 hcz9_10 hfz9_10 hcz9_11 hfz9_11 hcz9_12 hfz9_12; have BK670 := Aside0.mk hbk_; have HB := Aside0.mk hB_; clear hbk_ hB_; have hcz9_0 : wv_.cell? ⟨gb670, 0, none⟩ = some (.int .i64 t658) := (blk_cell BK670.out 0).trans rfl; have hfz9_0 := blk_frozen BK670.out 0; have hcz9_1 : wv_.cell? ⟨gb670, 1, none⟩ = some (.int .i64 t659) := (blk_cell BK670.out 1).trans rfl; have hfz9_1 := blk_frozen BK670.out 1; have hcz9_2 : wv_.cell? ⟨gb670, 2, none⟩ = some (.int .i64 t660) := (blk_cell BK670.out 2).trans rfl; have hfz9_2 := blk_frozen BK670.out 2; have hcz9_3 : wv_.cell? ⟨gb670, 3, none⟩ = some (.int .i64 t661) := (blk_cell BK670.out 3).trans rfl; have hfz9_3 := blk_frozen BK670.out 3; have hcz9_4 : wv_.cell? ⟨gb670, 4, none⟩ = some (.int .i64 t662) := (blk_cell BK670.out 4).trans rfl; have hfz9_4 := blk_frozen BK670.out 4; have hcz9_5 : wv_.cell? ⟨gb670, 5, none⟩ = some (.int .i64 t663) := (blk_cell BK670.out 5).trans rfl; have hfz9_5 := blk_frozen BK670.out 5; have hcz9_6 : wv_.cell? ⟨gb670, 6, none⟩ = some (.int .i64 t664) := (blk_cell BK670.out 6).trans rfl; have hfz9_6 := blk_frozen BK670.out 6; have hcz9_7 : wv_.cell? ⟨gb670, 7, none⟩ = some (.int .i64 t665) := (blk_cell BK670.out 7).trans rfl; have hfz9_7 := blk_frozen BK670.out 7; have hcz9_8 : wv_.cell? ⟨gb670, 8, none⟩ = some (.int .i64 t666) := (blk_cell BK670.out 8).trans rfl; have hfz9_8 := blk_frozen BK670.out 8; have hcz9_9 : wv_.cell? ⟨gb670, 9, none⟩ = some (.int .i64 t667) := (blk_cell BK670.out 9).trans rfl; have hfz9_9 := blk_frozen BK670.out 9; have hcz9_10 : wv_.cell? ⟨gb670, 10, none⟩ = some (.int .i64 t668) := (blk_cell BK670.out 10).trans rfl; have hfz9_10 := blk_frozen BK670.out 10; have hcz9_11 : wv_.cell? ⟨gb670, 11, none⟩ = some (.slice none 0 0) := (blk_cell BK670.out 11).trans rfl; have hfz9_11 := blk_frozen BK670.out 11; have hcz9_12 : wv_.cell? ⟨gb670, 12, none⟩ = some (.int .i64 t669) := (blk_cell BK670.out 12).trans rfl; have hfz9_12 := blk_frozen BK670.out 12) | ((with_reducible refine gate_callee (f := 10) rfl ?_); refine goesL_ (some 18) rfl rfl Try.func10 (by kernel_rfl) rfl #[.agg #[.int .i64 t658, .int .i64 t659, .int .i64 t660, .int .i64 t661, .int .i64 t662, .int .i64 t663, .int .i64 t664, .int .i64 (wrap64 (1000 + (wrap64 (a0)))), .int .i64 t666, .int .i64 t667, .int .i64 t668, .slice none 0 0, .int .i64 t669]] rfl (by (try simp only [List.map_toArray, List.map_cons, List.map_nil]); first | done | rfl | (simp only [List.length_drop, List.length_take]; rfl)) ?_; (refine (guard_New.made.calls t658 t659 t660 t661 t662 t663 t664 (wrap64 (1000 + (wrap64 (a0)))) t666 t667 t668 _ _ ([] : List (S85)) t669 t671 t672 t673 t674 t675 t676 t677 t678 t679 t680 t681 t682 t683 t684 t685 t686 t687 t688 t690 w _ ?side1 ?side2 ?side3 A5.out).mono ?_); (case side1 => repeat (first | (with_reducible first | exact HB.out | apply below_alloc | apply pw_below_drewN | apply below_drew1 | refine below_set ?_ GE670.out) | exact HB.out)); (case side2 => exact Kd.C_nil _ _); (case side3 => exact Nat.le_refl _); rintro e w10 ⟨g689, rfl, hi, hb, hb2⟩; refine ⟨_, rfl, ?_⟩; have n0_ := Aside0.mk (blk_below (g := gb670) (o := .cells #[.int .i64 t658, .int .i64 t659, .int .i64 t660, .int .i64 t661, .int .i64 t662, .int .i64 t663, .int .i64 t664, .int .i64 (wrap64 (1000 + (wrap64 (a0)))), .int .i64 t666, .int .i64 t667, .int .i64 t668, .slice none 0 0, .int .i64 t669] 27 (0, 0)) (by (with_reducible repeat (first | refine blk_drewN ?_ _ | refine blk_drew ?_ | refine blk_alloc ?_ _)); refine blk_put (cs := #[.int .i64 t658, .int .i64 t659, .int .i64 t660, .int .i64 t661, .int .i64 t662, .int .i64 t663, .int .i64 t664, .int .i64 t665, .int .i64 t666, .int .i64 t667, .int .i64 t668, .slice none 0 0, .int .i64 t669]) ?_ 7 _ rfl; exact BK670.out) hb2); have n1_ := Aside0.mk (hb); have n2_ := Aside0.mk (hi); have n3_ := Aside0.mk (IsS48.ne_blk hi (blk_below (g := gb670) (o := .cells #[.int .i64 t658, .int .i64 t659, .int .i64 t660, .int .i64 t661, .int .i64 t662, .int .i64 t663, .int .i64 t664, .int .i64 (wrap64 (1000 + (wrap64 (a0)))), .int .i64 t666, .int .i64 t667, .int .i64 t668, .slice none 0 0, .int .i64 t669] 27 (0, 0)) (by (with_reducible repeat (first | refine blk_drewN ?_ _ | refine blk_drew ?_ | refine blk_alloc ?_ _)); refine blk_put (cs := #[.int .i64 t658, .int .i64 t659, .int .i64 t660, .int .i64 t661, .int .i64 t662, .int .i64 t663, .int .i64 t664, .int .i64 t665, .int .i64 t666, .int .i64 t667, .int .i64 t668, .slice none 0 0, .int .i64 t669]) ?_ 7 _ rfl; exact BK670.out) hb2) (by decide)); have n4_ := Aside0.mk (Ne.symm (IsS48.ne_blk hi (blk_below (g := gb670) (o := .cells #[.int .i64 t658, .int .i64 t659, .int .i64 t660, .int .i64 t661, .int .i64 t662, .int .i64 t663, .int .i64 t664, .int .i64 (wrap64 (1000 + (wrap64 (a0)))), .int .i64 t666, .int .i64 t667, .int .i64 t668, .slice none 0 0, .int .i64 t669] 27 (0, 0)) (by (with_reducible repeat (first | refine blk_drewN ?_ _ | refine blk_drew ?_ | refine blk_alloc ?_ _)); refine blk_put (cs := #[.int .i64 t658, .int .i64 t659, .int .i64 t660, .int .i64 t661, .int .i64 t662, .int .i64 t663, .int .i64 t664, .int .i64 t665, .int .i64 t666, .int .i64 t667, .int .i64 t668, .slice none 0 0, .int .i64 t669]) ?_ 7 _ rfl; exact BK670.out) hb2) (by decide))); clear BK670; clear HB; have BK670 := n0_; have HB := n1_; have HI689 := n2_; have NB689_670 := n3_; have NB670_689 := n4_; clear n0_ n1_ n2_ n3_ n4_; (try clear hb); (try clear hb2); (try clear hk); (try clear hi); have hnb11 := NB670_689.out; have hnc11 := NB689_670.out; have hcz12_0 : w10.cell? ⟨gb670, 0, none⟩ = some (.int .i64 t658) := (blk_cell BK670.out 0).trans rfl; have hcz12_1 : w10.cell? ⟨gb670, 1, none⟩ = some (.int .i64 t659) := (blk_cell BK670.out 1).trans rfl; have hcz12_2 : w10.cell? ⟨gb670, 2, none⟩ = some (.int .i64 t660) := (blk_cell BK670.out 2).trans rfl; have hcz12_3 : w10.cell? ⟨gb670, 3, none⟩ = some (.int .i64 t661) := (blk_cell BK670.out 3).trans rfl; have hcz12_4 : w10.cell? ⟨gb670, 4, none⟩ = some (.int .i64 t662) := (blk_cell BK670.out 4).trans rfl; have hcz12_5 : w10.cell? ⟨gb670, 5, none⟩ = some (.int .i64 t663) := (blk_cell BK670.out 5).trans rfl; have hcz12_6 : w10.cell? ⟨gb670, 6, none⟩ = some (.int .i64 t664) := (blk_cell BK670.out 6).trans rfl; have hcz12_7 : w10.cell? ⟨gb670, 7, none⟩ = some (.int .i64 (wrap64 (1000 + (wrap64 (a0))))) := (blk_cell BK670.out 7).trans rfl; have hcz12_8 : w10.cell? ⟨gb670, 8, none⟩ = some (.int .i64 t666) := (blk_cell BK670.out 8).trans rfl; have hcz12_9 : w10.cell? ⟨gb670, 9, none⟩ = some (.int .i64 t667) := (blk_cell BK670.out 9).trans rfl; have hcz12_10 : w10.cell? ⟨gb670, 10, none⟩ = some (.int .i64 t668) := (blk_cell BK670.out 10).trans rfl; have hcz12_11 : w10.cell? ⟨gb670, 11, none⟩ = some (.slice none 0 0) := (blk_cell BK670.out 11).trans rfl; have hcz12_12 : w10.cell? ⟨gb670, 12, none⟩ = some (.int .i64 t669) := (blk_cell BK670.out 12).trans rfl; have hfz12_0 := blk_frozen BK670.out 0; have hfz12_1 := blk_frozen BK670.out 1; have hfz12_2 := blk_frozen BK670.out 2; have hfz12_3 := blk_frozen BK670.out 3; have hfz12_4 := blk_frozen BK670.out 4; have hfz12_5 := blk_frozen BK670.out 5; have hfz12_6 := blk_frozen BK670.out 6; have hfz12_7 := blk_frozen BK670.out 7; have hfz12_8 := blk_frozen BK670.out 8; have hfz12_9 := blk_frozen BK670.out 9; have hfz12_10 := blk_frozen BK670.out 10; have hfz12_11 := blk_frozen BK670.out 11; have hfz12_12 := blk_frozen BK670.out 12))
   go_loopg [8, 9, 10] k (fun kq v8 v9 v10 w' => ∃ (x8_1 : Int) (x9_1 : Int) (x10_1 : Int) (x690000_1 : Int) (x690001_1 : Int) (x690002_1 : Int) (x690003_1 : Int) (x690004_1 : Int) (x690005_1 : Int) (x690006_1 : Int) (x690007_1 : Int) (x690008_1 : Int) (x690009_1 : Int) (x690010_1 : Int) (x690012_1 : Int) (x690013_1 : Int) (x690014_1 : Int) (x690015_1 : Int) (x690016_1 : Bool) (x690017_1 : Bool), v8 = .int .i64 x8_1 ∧ v9 = .int .i64 x9_1 ∧ v10 = .int .i64 x10_1 ∧ Aside0 (flywheellaw28_GuardSilent.l0 kq a1 x8_1 x9_1 x10_1 t658 t659 t660 t661 t662 t663 t664 (wrap64 (1000 + (wrap64 (a0)))) t666 t667 t668 t669 x690000_1 x690001_1 x690002_1 x690003_1 x690004_1 x690005_1 x690006_1 x690007_1 x690008_1 x690009_1 x690010_1 t682 x690012_1 x690013_1 x690014_1 x690015_1 x690016_1 x690017_1 = some r) ∧ Aside0 (kq ≤ k) ∧ Aside0 (w'.heap[gb670]? = some (.cells #[.int .i64 t658, .int .i64 t659, .int .i64 t660, .int .i64 t661, .int .i64 t662, .int .i64 t663, .int .i64 t664, .int .i64 (wrap64 (1000 + (wrap64 (a0)))), .int .i64 t666, .int .i64 t667, .int .i64 t668, (.slice none 0 0), .int .i64 t669] 27 (0, 0))) ∧ Aside0 (IsS48 w w' g689 x690000_1 x690001_1 x690002_1 x690003_1 x690004_1 x690005_1 x690006_1 x690007_1 x690008_1 x690009_1 x690010_1 t682 x690012_1 x690013_1 x690014_1 x690015_1 x690016_1 x690017_1) ∧ Aside0 (Below w.heap.size w w'))
   case atStart => exact ⟨(t661), (0), (0), (t671), (t672), (t673), (t674), (t675), (t676), (t677), (t678), (t679), (t680), (t681), (t683), (t684), (t685), (t686), (t687), (t688), (by first | rfl | (simp; done) | (simp [*]; done)), (by first | rfl | (simp; done) | (simp [*]; done)), (by first | rfl | (simp; done) | (simp [*]; done)), H', ⟨Nat.le_refl _⟩, ⟨by (with_reducible repeat (first | refine blk_drewN ?_ _ | refine blk_drew ?_ | refine blk_alloc ?_ _)); exact BK670.out⟩, ⟨by repeat (first | (with_reducible first | exact HI689.out | apply IsS48.alloc | apply IsS48.drewN | apply IsS48.drew | apply IsS48.set_0 | apply IsS48.set_1 | apply IsS48.set_2 | apply IsS48.set_3 | apply IsS48.set_4 | apply IsS48.set_5 | apply IsS48.set_6 | apply IsS48.set_7 | apply IsS48.set_8 | apply IsS48.set_9 | apply IsS48.set_10 | apply IsS48.set_12 | apply IsS48.set_13 | apply IsS48.set_14 | apply IsS48.set_15 | apply IsS48.set_16 | apply IsS48.set_17 | refine IsS48.far ?_ NB689_670.out _) | exact HI689.out)⟩, ⟨by repeat (first | (with_reducible first | exact HB.out | apply below_alloc | apply pw_below_drewN | apply below_drew1 | refine below_set ?_ (IsS48.ge HI689.out) | refine below_set ?_ GE670.out) | exact HB.out)⟩⟩
   case round =>
    clear H'
    try clear c1
    try clear p2
    try clear c4
    try clear c4b0
    try clear c6
    try clear c6b0
    try clear c6b1
    try clear p6
    try clear c7
    try clear c9
    try clear c10
    try clear c11
    try clear hcz12_0
    try clear hcz12_1
    try clear hcz12_10
    try clear hcz12_11
    try clear hcz12_12
    try clear hcz12_2
    try clear hcz12_3
    try clear hcz12_4
    try clear hcz12_5
    try clear hcz12_6
    try clear hcz12_7
    try clear hcz12_8
    try clear hcz12_9
    try clear hcz9_0
    try clear hcz9_1
    try clear hcz9_10
    try clear hcz9_11
    try clear hcz9_12
    try clear hcz9_2
    try clear hcz9_3
    try clear hcz9_4
    try clear hcz9_5
    try clear hcz9_6
    try clear hcz9_7
    try clear hcz9_8
    try clear hcz9_9
    try clear hfz12_0
    try clear hfz12_1
    try clear hfz12_10
    try clear hfz12_11
    try clear hfz12_12
    try clear hfz12_2
    try clear hfz12_3
    try clear hfz12_4
    try clear hfz12_5
    try clear hfz12_6
    try clear hfz12_7
    try clear hfz12_8
    try clear hfz12_9
    try clear hfz9_0
    try clear hfz9_1
    try clear hfz9_10
    try clear hfz9_11
    try clear hfz9_12
    try clear hfz9_2
    try clear hfz9_3
    try clear hfz9_4
    try clear hfz9_5
    try clear hfz9_6
    try clear hfz9_7
    try clear hfz9_8
    try clear hfz9_9
    obtain ⟨x8_1, x9_1, x10_1, x690000_1, x690001_1, x690002_1, x690003_1, x690004_1, x690005_1, x690006_1, x690007_1, x690008_1, x690009_1, x690010_1, x690012_1, x690013_1, x690014_1, x690015_1, x690016_1, x690017_1, rfl, rfl, rfl, HA, HK1, BK670, HI689, HB⟩ := hrel
    cases gk with
    | zero => exact absurd HA.out (by simp [flywheellaw28_GuardSilent.l0])
    | succ k1 =>
     have H := HA.out
     clear HA
     simp only [flywheellaw28_GuardSilent.l0] at H
     replace H := Option.bind_eq_some_iff.mp H
     obtain ⟨t691, A130, H⟩ := H
     replace H : (if x10_1 < t691 then ((guard_Guard_Tick.f x690000_1 x690001_1 x690002_1 x690003_1 x690004_1 x690005_1 x690006_1 x690007_1 x690008_1 x690009_1 x690010_1 t682 x690012_1 x690013_1 x690014_1 x690015_1 x690016_1 x690017_1 (wrap64 (x9_1 + (wrap64 (1000 + (wrap64 (a0))))))).bind fun bt711 => (if bt711.1 = x8_1 then ((guard_Guard_Tick.f bt711.2.1 bt711.2.2.1 bt711.2.2.2.1 bt711.2.2.2.2.1 bt711.2.2.2.2.2.1 bt711.2.2.2.2.2.2.1 bt711.2.2.2.2.2.2.2.1 bt711.2.2.2.2.2.2.2.2.1 bt711.2.2.2.2.2.2.2.2.2.1 bt711.2.2.2.2.2.2.2.2.2.2.1 bt711.2.2.2.2.2.2.2.2.2.2.2.1 t682 bt711.2.2.2.2.2.2.2.2.2.2.2.2.1 bt711.2.2.2.2.2.2.2.2.2.2.2.2.2.1 bt711.2.2.2.2.2.2.2.2.2.2.2.2.2.2.1 bt711.2.2.2.2.2.2.2.2.2.2.2.2.2.2.2.1 bt711.2.2.2.2.2.2.2.2.2.2.2.2.2.2.2.2.1 bt711.2.2.2.2.2.2.2.2.2.2.2.2.2.2.2.2.2 (wrap64 (x9_1 + (wrap64 ((wrap64 (1000 + (wrap64 (a0)))) + 1))))).bind fun bt729 => (if bt729.1 = (mx (wrap64 (Int.tdiv x8_1 2)) t659) then (flywheellaw28_GuardSilent.l0 k1 a1 (mx (wrap64 (Int.tdiv x8_1 2)) t659) (wrap64 (x9_1 + (wrap64 ((wrap64 (1000 + (wrap64 (a0)))) + 1)))) (wrap64 (x10_1 + 1)) t658 t659 t660 t661 t662 t663 t664 (wrap64 (1000 + (wrap64 (a0)))) t666 t667 t668 t669 bt729.2.1 bt729.2.2.1 bt729.2.2.2.1 bt729.2.2.2.2.1 bt729.2.2.2.2.2.1 bt729.2.2.2.2.2.2.1 bt729.2.2.2.2.2.2.2.1 bt729.2.2.2.2.2.2.2.2.1 bt729.2.2.2.2.2.2.2.2.2.1 bt729.2.2.2.2.2.2.2.2.2.2.1 bt729.2.2.2.2.2.2.2.2.2.2.2.1 t682 bt729.2.2.2.2.2.2.2.2.2.2.2.2.1 bt729.2.2.2.2.2.2.2.2.2.2.2.2.2.1 bt729.2.2.2.2.2.2.2.2.2.2.2.2.2.2.1 bt729.2.2.2.2.2.2.2.2.2.2.2.2.2.2.2.1 bt729.2.2.2.2.2.2.2.2.2.2.2.2.2.2.2.2.1 bt729.2.2.2.2.2.2.2.2.2.2.2.2.2.2.2.2.2) else (some false))) else (some false))) else ((guard_Guard_Target.f x690000_1 x690001_1 x690002_1 x690003_1 x690004_1 x690005_1 x690006_1 x690007_1 x690008_1 x690009_1 x690010_1 t682 x690012_1 x690013_1 x690014_1 x690015_1 x690016_1 x690017_1).bind fun bt692 => (if bt692.1 = x8_1 then ((flywheellaw28_wakes.f).bind fun t710 => (some t710)) else (some false)))) = some r := H
     have A13 := Aside0.mk A130
     clear A130
     by_cases c14 : x10_1 < t691
     ·rw [if_pos c14] at H
      have c14b0 : decide (x10_1 < t691) = true := decide_eq_true c14
      clear c14
      replace H := Option.bind_eq_some_iff.mp H
      obtain ⟨⟨t711, t712, t713, t714, t715, t716, t717, t718, t719, t720, t721, t722, t723, t724, t725, t726, t727, t728⟩, A150, H⟩ := H
      replace H : (if t711 = x8_1 then ((guard_Guard_Tick.f t712 t713 t714 t715 t716 t717 t718 t719 t720 t721 t722 t682 t723 t724 t725 t726 t727 t728 (wrap64 (x9_1 + (wrap64 ((wrap64 (1000 + (wrap64 (a0)))) + 1))))).bind fun bt729 => (if bt729.1 = (mx (wrap64 (Int.tdiv x8_1 2)) t659) then (flywheellaw28_GuardSilent.l0 k1 a1 (mx (wrap64 (Int.tdiv x8_1 2)) t659) (wrap64 (x9_1 + (wrap64 ((wrap64 (1000 + (wrap64 (a0)))) + 1)))) (wrap64 (x10_1 + 1)) t658 t659 t660 t661 t662 t663 t664 (wrap64 (1000 + (wrap64 (a0)))) t666 t667 t668 t669 bt729.2.1 bt729.2.2.1 bt729.2.2.2.1 bt729.2.2.2.2.1 bt729.2.2.2.2.2.1 bt729.2.2.2.2.2.2.1 bt729.2.2.2.2.2.2.2.1 bt729.2.2.2.2.2.2.2.2.1 bt729.2.2.2.2.2.2.2.2.2.1 bt729.2.2.2.2.2.2.2.2.2.2.1 bt729.2.2.2.2.2.2.2.2.2.2.2.1 t682 bt729.2.2.2.2.2.2.2.2.2.2.2.2.1 bt729.2.2.2.2.2.2.2.2.2.2.2.2.2.1 bt729.2.2.2.2.2.2.2.2.2.2.2.2.2.2.1 bt729.2.2.2.2.2.2.2.2.2.2.2.2.2.2.2.1 bt729.2.2.2.2.2.2.2.2.2.2.2.2.2.2.2.2.1 bt729.2.2.2.2.2.2.2.2.2.2.2.2.2.2.2.2.2) else (some false))) else (some false)) = some r := H
      have A15 := Aside0.mk A150
      clear A150
      by_cases c16 : t711 = x8_1
      ·rw [if_pos c16] at H
       have c16b0 : (t711 == x8_1) = true := beq_iff_eq.mpr c16
       have c16b1 : (t711 != x8_1) = false := bne_eq_false_iff_eq.mpr c16
       clear c16
       obtain ⟨ji17, hji17⟩ : ∃ j_ : Int, (mx (wrap64 (Int.tdiv x8_1 2)) t659) = j_ := ⟨_, rfl⟩
       replace H : ((guard_Guard_Tick.f t712 t713 t714 t715 t716 t717 t718 t719 t720 t721 t722 t682 t723 t724 t725 t726 t727 t728 (wrap64 (x9_1 + (wrap64 ((wrap64 (1000 + (wrap64 (a0)))) + 1))))).bind fun bt729 => (if bt729.1 = (ji17) then (flywheellaw28_GuardSilent.l0 k1 a1 ji17 (wrap64 (x9_1 + (wrap64 ((wrap64 (1000 + (wrap64 (a0)))) + 1)))) (wrap64 (x10_1 + 1)) t658 t659 t660 t661 t662 t663 t664 (wrap64 (1000 + (wrap64 (a0)))) t666 t667 t668 t669 bt729.2.1 bt729.2.2.1 bt729.2.2.2.1 bt729.2.2.2.2.1 bt729.2.2.2.2.2.1 bt729.2.2.2.2.2.2.1 bt729.2.2.2.2.2.2.2.1 bt729.2.2.2.2.2.2.2.2.1 bt729.2.2.2.2.2.2.2.2.2.1 bt729.2.2.2.2.2.2.2.2.2.2.1 bt729.2.2.2.2.2.2.2.2.2.2.2.1 t682 bt729.2.2.2.2.2.2.2.2.2.2.2.2.1 bt729.2.2.2.2.2.2.2.2.2.2.2.2.2.1 bt729.2.2.2.2.2.2.2.2.2.2.2.2.2.2.1 bt729.2.2.2.2.2.2.2.2.2.2.2.2.2.2.2.1 bt729.2.2.2.2.2.2.2.2.2.2.2.2.2.2.2.2.1 bt729.2.2.2.2.2.2.2.2.2.2.2.2.2.2.2.2.2) else (some false))) = some r := by first | (rw [hji17] at H; exact H) | (simp only [hji17] at H ⊢; exact H)
       (try rw [hji17] at A13)
       (try rw [hji17] at A15)
       have hji17_ : (if (wrap64 (Int.tdiv x8_1 2)) < t659 then t659 else (wrap64 (Int.tdiv x8_1 2))) = ji17 := hji17
       replace H := Option.bind_eq_some_iff.mp H
       obtain ⟨⟨t729, t730, t731, t732, t733, t734, t735, t736, t737, t738, t739, t740, t741, t742, t743, t744, t745, t746⟩, A180, H⟩ := H
       replace H : (if t729 = (ji17) then (flywheellaw28_GuardSilent.l0 k1 a1 ji17 (wrap64 (x9_1 + (wrap64 ((wrap64 (1000 + (wrap64 (a0)))) + 1)))) (wrap64 (x10_1 + 1)) t658 t659 t660 t661 t662 t663 t664 (wrap64 (1000 + (wrap64 (a0)))) t666 t667 t668 t669 t730 t731 t732 t733 t734 t735 t736 t737 t738 t739 t740 t682 t741 t742 t743 t744 t745 t746) else (some false)) = some r := H
       have A18 := Aside0.mk A180
       clear A180
       by_cases c19 : t729 = (ji17)
       ·rw [if_pos c19] at H
        have c19b0 : (t729 == (ji17)) = true := beq_iff_eq.mpr c19
        have c19b1 : (t729 != (ji17)) = false := bne_eq_false_iff_eq.mpr c19
        clear c19
        have H' := Aside0.mk H
        clear H
        go_wp2_with (first | ((with_reducible refine gate_callee (f := 18) rfl ?_); refine goesL_ (some 27) rfl rfl Try.func18 (by kernel_rfl) rfl #[.int .i64 a1, .int .i64 20] rfl (by (try simp only [List.map_toArray, List.map_cons, List.map_nil]); first | done | rfl | (simp only [List.length_drop, List.length_take]; rfl)) ?_; (with_reducible refine (flywheelkeep_Mod.calls a1 20 t691 _ A13.out).mono ?_); rintro e w' ⟨rfl, ⟨nd, rfl⟩⟩; refine ⟨_, rfl, ?_⟩; have hnb20 := NB670_689.out; have hnc20 := NB689_670.out; have hcz21_0 : wr.cell? ⟨gb670, 0, none⟩ = some (.int .i64 t658) := (blk_cell BK670.out 0).trans rfl; have hcz21_1 : wr.cell? ⟨gb670, 1, none⟩ = some (.int .i64 t659) := (blk_cell BK670.out 1).trans rfl; have hcz21_2 : wr.cell? ⟨gb670, 2, none⟩ = some (.int .i64 t660) := (blk_cell BK670.out 2).trans rfl; have hcz21_3 : wr.cell? ⟨gb670, 3, none⟩ = some (.int .i64 t661) := (blk_cell BK670.out 3).trans rfl; have hcz21_4 : wr.cell? ⟨gb670, 4, none⟩ = some (.int .i64 t662) := (blk_cell BK670.out 4).trans rfl; have hcz21_5 : wr.cell? ⟨gb670, 5, none⟩ = some (.int .i64 t663) := (blk_cell BK670.out 5).trans rfl; have hcz21_6 : wr.cell? ⟨gb670, 6, none⟩ = some (.int .i64 t664) := (blk_cell BK670.out 6).trans rfl; have hcz21_7 : wr.cell? ⟨gb670, 7, none⟩ = some (.int .i64 (wrap64 (1000 + (wrap64 (a0))))) := (blk_cell BK670.out 7).trans rfl; have hcz21_8 : wr.cell? ⟨gb670, 8, none⟩ = some (.int .i64 t666) := (blk_cell BK670.out 8).trans rfl; have hcz21_9 : wr.cell? ⟨gb670, 9, none⟩ = some (.int .i64 t667) := (blk_cell BK670.out 9).trans rfl; have hcz21_10 : wr.cell? ⟨gb670, 10, none⟩ = some (.int .i64 t668) := (blk_cell BK670.out 10).trans rfl; have hcz21_11 : wr.cell? ⟨gb670, 11, none⟩ = some (.slice none 0 0) := (blk_cell BK670.out 11).trans rfl; have hcz21_12 : wr.cell? ⟨gb670, 12, none⟩ = some (.int .i64 t669) := (blk_cell BK670.out 12).trans rfl; have hfz21_0 := blk_frozen BK670.out 0; have hfz21_1 := blk_frozen BK670.out 1; have hfz21_2 := blk_frozen BK670.out 2; have hfz21_3 := blk_frozen BK670.out 3; have hfz21_4 := blk_frozen BK670.out 4; have hfz21_5 := blk_frozen BK670.out 5; have hfz21_6 := blk_frozen BK670.out 6; have hfz21_7 := blk_frozen BK670.out 7; have hfz21_8 := blk_frozen BK670.out 8; have hfz21_9 := blk_frozen BK670.out 9; have hfz21_10 := blk_frozen BK670.out 10; have hfz21_11 := blk_frozen BK670.out 11; have hfz21_12 := blk_frozen BK670.out 12) | ((with_reducible refine gate_callee (f := 17) rfl ?_); refine goesL_ (some 36) rfl rfl Try.func17 (by kernel_rfl) rfl #[.pointer (some ⟨g689, 0, none⟩), .int .i64 (wrap64 (x9_1 + (wrap64 (1000 + (wrap64 (a0))))))] rfl (by (try simp only [List.map_toArray, List.map_cons, List.map_nil]); first | done | rfl | (simp only [List.length_drop, List.length_take]; rfl)) ?_; (with_reducible refine (guard_Guard_Tick.calls g689 x690000_1 x690001_1 x690002_1 x690003_1 x690004_1 x690005_1 x690006_1 x690007_1 x690008_1 x690009_1 x690010_1 t682 x690012_1 x690013_1 x690014_1 x690015_1 x690016_1 x690017_1 (wrap64 (x9_1 + (wrap64 (1000 + (wrap64 (a0)))))) t711 t712 t713 t714 t715 t716 t717 t718 t719 t720 t721 t722 t723 t724 t725 t726 t727 t728 w _ ?side1 ?side2 A15.out).mono ?_); (case side1 => repeat (first | (with_reducible first | exact HI689.out | apply IsS48.alloc | apply IsS48.drewN | apply IsS48.drew | apply IsS48.set_0 | apply IsS48.set_1 | apply IsS48.set_2 | apply IsS48.set_3 | apply IsS48.set_4 | apply IsS48.set_5 | apply IsS48.set_6 | apply IsS48.set_7 | apply IsS48.set_8 | apply IsS48.set_9 | apply IsS48.set_10 | apply IsS48.set_12 | apply IsS48.set_13 | apply IsS48.set_14 | apply IsS48.set_15 | apply IsS48.set_16 | apply IsS48.set_17 | refine IsS48.far ?_ NB689_670.out _) | exact HI689.out)); (case side2 => repeat (first | (with_reducible first | exact HB.out | apply below_alloc | apply pw_below_drewN | apply below_drew1 | refine below_set ?_ (IsS48.ge HI689.out) | refine below_set ?_ GE670.out) | exact HB.out)); rintro e w22 ⟨rfl, hi, hb, hk⟩; refine ⟨_, rfl, ?_⟩; have n0_ := Aside0.mk (KeepBut.blk hk (g' := gb670) (o := .cells #[.int .i64 t658, .int .i64 t659, .int .i64 t660, .int .i64 t661, .int .i64 t662, .int .i64 t663, .int .i64 t664, .int .i64 (wrap64 (1000 + (wrap64 (a0)))), .int .i64 t666, .int .i64 t667, .int .i64 t668, .slice none 0 0, .int .i64 t669] 27 (0, 0)) (by (with_reducible repeat (first | refine blk_drewN ?_ _ | refine blk_drew ?_ | refine blk_alloc ?_ _)); exact BK670.out) NB670_689.out (by simp)); have n1_ := Aside0.mk (hb); have n2_ := Aside0.mk (hi); clear BK670; clear HB; clear HI689; have BK670 := n0_; have HB := n1_; have HI689 := n2_; clear n0_ n1_ n2_; (try clear hb); (try clear hb2); (try clear hk); (try clear hi); have hcz23_0 : w22.cell? ⟨gb670, 0, none⟩ = some (.int .i64 t658) := (blk_cell BK670.out 0).trans rfl; have hcz23_1 : w22.cell? ⟨gb670, 1, none⟩ = some (.int .i64 t659) := (blk_cell BK670.out 1).trans rfl; have hcz23_2 : w22.cell? ⟨gb670, 2, none⟩ = some (.int .i64 t660) := (blk_cell BK670.out 2).trans rfl; have hcz23_3 : w22.cell? ⟨gb670, 3, none⟩ = some (.int .i64 t661) := (blk_cell BK670.out 3).trans rfl; have hcz23_4 : w22.cell? ⟨gb670, 4, none⟩ = some (.int .i64 t662) := (blk_cell BK670.out 4).trans rfl; have hcz23_5 : w22.cell? ⟨gb670, 5, none⟩ = some (.int .i64 t663) := (blk_cell BK670.out 5).trans rfl; have hcz23_6 : w22.cell? ⟨gb670, 6, none⟩ = some (.int .i64 t664) := (blk_cell BK670.out 6).trans rfl; have hcz23_7 : w22.cell? ⟨gb670, 7, none⟩ = some (.int .i64 (wrap64 (1000 + (wrap64 (a0))))) := (blk_cell BK670.out 7).trans rfl; have hcz23_8 : w22.cell? ⟨gb670, 8, none⟩ = some (.int .i64 t666) := (blk_cell BK670.out 8).trans rfl; have hcz23_9 : w22.cell? ⟨gb670, 9, none⟩ = some (.int .i64 t667) := (blk_cell BK670.out 9).trans rfl; have hcz23_10 : w22.cell? ⟨gb670, 10, none⟩ = some (.int .i64 t668) := (blk_cell BK670.out 10).trans rfl; have hcz23_11 : w22.cell? ⟨gb670, 11, none⟩ = some (.slice none 0 0) := (blk_cell BK670.out 11).trans rfl; have hcz23_12 : w22.cell? ⟨gb670, 12, none⟩ = some (.int .i64 t669) := (blk_cell BK670.out 12).trans rfl; have hfz23_0 := blk_frozen BK670.out 0; have hfz23_1 := blk_frozen BK670.out 1; have hfz23_2 := blk_frozen BK670.out 2; have hfz23_3 := blk_frozen BK670.out 3; have hfz23_4 := blk_frozen BK670.out 4; have hfz23_5 := blk_frozen BK670.out 5; have hfz23_6 := blk_frozen BK670.out 6; have hfz23_7 := blk_frozen BK670.out 7; have hfz23_8 := blk_frozen BK670.out 8; have hfz23_9 := blk_frozen BK670.out 9; have hfz23_10 := blk_frozen BK670.out 10; have hfz23_11 := blk_frozen BK670.out 11; have hfz23_12 := blk_frozen BK670.out 12) | ((with_reducible refine gate_callee (f := 17) rfl ?_); refine goesL_ (some 51) rfl rfl Try.func17 (by kernel_rfl) rfl #[.pointer (some ⟨g689, 0, none⟩), .int .i64 (wrap64 (x9_1 + (wrap64 ((wrap64 (1000 + (wrap64 (a0)))) + 1))))] rfl (by (try simp only [List.map_toArray, List.map_cons, List.map_nil]); first | done | rfl | (simp only [List.length_drop, List.length_take]; rfl)) ?_; (with_reducible refine (guard_Guard_Tick.calls g689 t712 t713 t714 t715 t716 t717 t718 t719 t720 t721 t722 t682 t723 t724 t725 t726 t727 t728 (wrap64 (x9_1 + (wrap64 ((wrap64 (1000 + (wrap64 (a0)))) + 1)))) t729 t730 t731 t732 t733 t734 t735 t736 t737 t738 t739 t740 t741 t742 t743 t744 t745 t746 w _ ?side1 ?side2 A18.out).mono ?_); (case side1 => repeat (first | (with_reducible first | exact HI689.out | apply IsS48.alloc | apply IsS48.drewN | apply IsS48.drew | apply IsS48.set_0 | apply IsS48.set_1 | apply IsS48.set_2 | apply IsS48.set_3 | apply IsS48.set_4 | apply IsS48.set_5 | apply IsS48.set_6 | apply IsS48.set_7 | apply IsS48.set_8 | apply IsS48.set_9 | apply IsS48.set_10 | apply IsS48.set_12 | apply IsS48.set_13 | apply IsS48.set_14 | apply IsS48.set_15 | apply IsS48.set_16 | apply IsS48.set_17 | refine IsS48.far ?_ NB689_670.out _) | exact HI689.out)); (case side2 => repeat (first | (with_reducible first | exact HB.out | apply below_alloc | apply pw_below_drewN | apply below_drew1 | refine below_set ?_ (IsS48.ge HI689.out) | refine below_set ?_ GE670.out) | exact HB.out)); rintro e w24 ⟨rfl, hi, hb, hk⟩; refine ⟨_, rfl, ?_⟩; have n0_ := Aside0.mk (KeepBut.blk hk (g' := gb670) (o := .cells #[.int .i64 t658, .int .i64 t659, .int .i64 t660, .int .i64 t661, .int .i64 t662, .int .i64 t663, .int .i64 t664, .int .i64 (wrap64 (1000 + (wrap64 (a0)))), .int .i64 t666, .int .i64 t667, .int .i64 t668, .slice none 0 0, .int .i64 t669] 27 (0, 0)) (by (with_reducible repeat (first | refine blk_drewN ?_ _ | refine blk_drew ?_ | refine blk_alloc ?_ _)); exact BK670.out) NB670_689.out (by simp)); have n1_ := Aside0.mk (hb); have n2_ := Aside0.mk (hi); clear BK670; clear HB; clear HI689; have BK670 := n0_; have HB := n1_; have HI689 := n2_; clear n0_ n1_ n2_; (try clear hb); (try clear hb2); (try clear hk); (try clear hi)))
        go_roundg k1
        case measure => have := HK1.out; omega
        case rel => exact ⟨(ji17), (wrap64 (x9_1 + (wrap64 ((wrap64 (1000 + (wrap64 (a0)))) + 1)))), (wrap64 (x10_1 + 1)), (t730), (t731), (t732), (t733), (t734), (t735), (t736), (t737), (t738), (t739), (t740), (t741), (t742), (t743), (t744), (t745), (t746), (by first | rfl | (simp; done) | (simp only [← hji17] <;> (first | rfl | simp)) | (simp [*]; done)), (by first | rfl | (simp; done) | (simp [*]; done)), (by first | rfl | (simp; done) | (simp [*]; done)), H', ⟨by have := HK1.out; omega⟩, ⟨by (with_reducible repeat (first | refine blk_drewN ?_ _ | refine blk_drew ?_ | refine blk_alloc ?_ _)); exact BK670.out⟩, ⟨by repeat (first | (with_reducible first | exact HI689.out | apply IsS48.alloc | apply IsS48.drewN | apply IsS48.drew | apply IsS48.set_0 | apply IsS48.set_1 | apply IsS48.set_2 | apply IsS48.set_3 | apply IsS48.set_4 | apply IsS48.set_5 | apply IsS48.set_6 | apply IsS48.set_7 | apply IsS48.set_8 | apply IsS48.set_9 | apply IsS48.set_10 | apply IsS48.set_12 | apply IsS48.set_13 | apply IsS48.set_14 | apply IsS48.set_15 | apply IsS48.set_16 | apply IsS48.set_17 | refine IsS48.far ?_ NB689_670.out _) | exact HI689.out)⟩, ⟨by repeat (first | (with_reducible first | exact HB.out | apply below_alloc | apply pw_below_drewN | apply below_drew1 | refine below_set ?_ (IsS48.ge HI689.out) | refine below_set ?_ GE670.out) | exact HB.out)⟩⟩
       ·rw [if_neg c19] at H
        have c19b0 : (t729 == (ji17)) = false := beq_eq_false_iff_ne.mpr c19
        have c19b1 : (t729 != (ji17)) = true := bne_iff_ne.mpr c19
        obtain rfl := Option.some.inj H
        go_wp2_with (first | ((with_reducible refine gate_callee (f := 18) rfl ?_); refine goesL_ (some 27) rfl rfl Try.func18 (by kernel_rfl) rfl #[.int .i64 a1, .int .i64 20] rfl (by (try simp only [List.map_toArray, List.map_cons, List.map_nil]); first | done | rfl | (simp only [List.length_drop, List.length_take]; rfl)) ?_; (with_reducible refine (flywheelkeep_Mod.calls a1 20 t691 _ A13.out).mono ?_); rintro e w' ⟨rfl, ⟨nd, rfl⟩⟩; refine ⟨_, rfl, ?_⟩; have hnb25 := NB670_689.out; have hnc25 := NB689_670.out; have hcz26_0 : wr.cell? ⟨gb670, 0, none⟩ = some (.int .i64 t658) := (blk_cell BK670.out 0).trans rfl; have hcz26_1 : wr.cell? ⟨gb670, 1, none⟩ = some (.int .i64 t659) := (blk_cell BK670.out 1).trans rfl; have hcz26_2 : wr.cell? ⟨gb670, 2, none⟩ = some (.int .i64 t660) := (blk_cell BK670.out 2).trans rfl; have hcz26_3 : wr.cell? ⟨gb670, 3, none⟩ = some (.int .i64 t661) := (blk_cell BK670.out 3).trans rfl; have hcz26_4 : wr.cell? ⟨gb670, 4, none⟩ = some (.int .i64 t662) := (blk_cell BK670.out 4).trans rfl; have hcz26_5 : wr.cell? ⟨gb670, 5, none⟩ = some (.int .i64 t663) := (blk_cell BK670.out 5).trans rfl; have hcz26_6 : wr.cell? ⟨gb670, 6, none⟩ = some (.int .i64 t664) := (blk_cell BK670.out 6).trans rfl; have hcz26_7 : wr.cell? ⟨gb670, 7, none⟩ = some (.int .i64 (wrap64 (1000 + (wrap64 (a0))))) := (blk_cell BK670.out 7).trans rfl; have hcz26_8 : wr.cell? ⟨gb670, 8, none⟩ = some (.int .i64 t666) := (blk_cell BK670.out 8).trans rfl; have hcz26_9 : wr.cell? ⟨gb670, 9, none⟩ = some (.int .i64 t667) := (blk_cell BK670.out 9).trans rfl; have hcz26_10 : wr.cell? ⟨gb670, 10, none⟩ = some (.int .i64 t668) := (blk_cell BK670.out 10).trans rfl; have hcz26_11 : wr.cell? ⟨gb670, 11, none⟩ = some (.slice none 0 0) := (blk_cell BK670.out 11).trans rfl; have hcz26_12 : wr.cell? ⟨gb670, 12, none⟩ = some (.int .i64 t669) := (blk_cell BK670.out 12).trans rfl; have hfz26_0 := blk_frozen BK670.out 0; have hfz26_1 := blk_frozen BK670.out 1; have hfz26_2 := blk_frozen BK670.out 2; have hfz26_3 := blk_frozen BK670.out 3; have hfz26_4 := blk_frozen BK670.out 4; have hfz26_5 := blk_frozen BK670.out 5; have hfz26_6 := blk_frozen BK670.out 6; have hfz26_7 := blk_frozen BK670.out 7; have hfz26_8 := blk_frozen BK670.out 8; have hfz26_9 := blk_frozen BK670.out 9; have hfz26_10 := blk_frozen BK670.out 10; have hfz26_11 := blk_frozen BK670.out 11; have hfz26_12 := blk_frozen BK670.out 12) | ((with_reducible refine gate_callee (f := 17) rfl ?_); refine goesL_ (some 36) rfl rfl Try.func17 (by kernel_rfl) rfl #[.pointer (some ⟨g689, 0, none⟩), .int .i64 (wrap64 (x9_1 + (wrap64 (1000 + (wrap64 (a0))))))] rfl (by (try simp only [List.map_toArray, List.map_cons, List.map_nil]); first | done | rfl | (simp only [List.length_drop, List.length_take]; rfl)) ?_; (with_reducible refine (guard_Guard_Tick.calls g689 x690000_1 x690001_1 x690002_1 x690003_1 x690004_1 x690005_1 x690006_1 x690007_1 x690008_1 x690009_1 x690010_1 t682 x690012_1 x690013_1 x690014_1 x690015_1 x690016_1 x690017_1 (wrap64 (x9_1 + (wrap64 (1000 + (wrap64 (a0)))))) t711 t712 t713 t714 t715 t716 t717 t718 t719 t720 t721 t722 t723 t724 t725 t726 t727 t728 w _ ?side1 ?side2 A15.out).mono ?_); (case side1 => repeat (first | (with_reducible first | exact HI689.out | apply IsS48.alloc | apply IsS48.drewN | apply IsS48.drew | apply IsS48.set_0 | apply IsS48.set_1 | apply IsS48.set_2 | apply IsS48.set_3 | apply IsS48.set_4 | apply IsS48.set_5 | apply IsS48.set_6 | apply IsS48.set_7 | apply IsS48.set_8 | apply IsS48.set_9 | apply IsS48.set_10 | apply IsS48.set_12 | apply IsS48.set_13 | apply IsS48.set_14 | apply IsS48.set_15 | apply IsS48.set_16 | apply IsS48.set_17 | refine IsS48.far ?_ NB689_670.out _) | exact HI689.out)); (case side2 => repeat (first | (with_reducible first | exact HB.out | apply below_alloc | apply pw_below_drewN | apply below_drew1 | refine below_set ?_ (IsS48.ge HI689.out) | refine below_set ?_ GE670.out) | exact HB.out)); rintro e w27 ⟨rfl, hi, hb, hk⟩; refine ⟨_, rfl, ?_⟩; have n0_ := Aside0.mk (KeepBut.blk hk (g' := gb670) (o := .cells #[.int .i64 t658, .int .i64 t659, .int .i64 t660, .int .i64 t661, .int .i64 t662, .int .i64 t663, .int .i64 t664, .int .i64 (wrap64 (1000 + (wrap64 (a0)))), .int .i64 t666, .int .i64 t667, .int .i64 t668, .slice none 0 0, .int .i64 t669] 27 (0, 0)) (by (with_reducible repeat (first | refine blk_drewN ?_ _ | refine blk_drew ?_ | refine blk_alloc ?_ _)); exact BK670.out) NB670_689.out (by simp)); have n1_ := Aside0.mk (hb); have n2_ := Aside0.mk (hi); clear BK670; clear HB; clear HI689; have BK670 := n0_; have HB := n1_; have HI689 := n2_; clear n0_ n1_ n2_; (try clear hb); (try clear hb2); (try clear hk); (try clear hi); have hcz28_0 : w27.cell? ⟨gb670, 0, none⟩ = some (.int .i64 t658) := (blk_cell BK670.out 0).trans rfl; have hcz28_1 : w27.cell? ⟨gb670, 1, none⟩ = some (.int .i64 t659) := (blk_cell BK670.out 1).trans rfl; have hcz28_2 : w27.cell? ⟨gb670, 2, none⟩ = some (.int .i64 t660) := (blk_cell BK670.out 2).trans rfl; have hcz28_3 : w27.cell? ⟨gb670, 3, none⟩ = some (.int .i64 t661) := (blk_cell BK670.out 3).trans rfl; have hcz28_4 : w27.cell? ⟨gb670, 4, none⟩ = some (.int .i64 t662) := (blk_cell BK670.out 4).trans rfl; have hcz28_5 : w27.cell? ⟨gb670, 5, none⟩ = some (.int .i64 t663) := (blk_cell BK670.out 5).trans rfl; have hcz28_6 : w27.cell? ⟨gb670, 6, none⟩ = some (.int .i64 t664) := (blk_cell BK670.out 6).trans rfl; have hcz28_7 : w27.cell? ⟨gb670, 7, none⟩ = some (.int .i64 (wrap64 (1000 + (wrap64 (a0))))) := (blk_cell BK670.out 7).trans rfl; have hcz28_8 : w27.cell? ⟨gb670, 8, none⟩ = some (.int .i64 t666) := (blk_cell BK670.out 8).trans rfl; have hcz28_9 : w27.cell? ⟨gb670, 9, none⟩ = some (.int .i64 t667) := (blk_cell BK670.out 9).trans rfl; have hcz28_10 : w27.cell? ⟨gb670, 10, none⟩ = some (.int .i64 t668) := (blk_cell BK670.out 10).trans rfl; have hcz28_11 : w27.cell? ⟨gb670, 11, none⟩ = some (.slice none 0 0) := (blk_cell BK670.out 11).trans rfl; have hcz28_12 : w27.cell? ⟨gb670, 12, none⟩ = some (.int .i64 t669) := (blk_cell BK670.out 12).trans rfl; have hfz28_0 := blk_frozen BK670.out 0; have hfz28_1 := blk_frozen BK670.out 1; have hfz28_2 := blk_frozen BK670.out 2; have hfz28_3 := blk_frozen BK670.out 3; have hfz28_4 := blk_frozen BK670.out 4; have hfz28_5 := blk_frozen BK670.out 5; have hfz28_6 := blk_frozen BK670.out 6; have hfz28_7 := blk_frozen BK670.out 7; have hfz28_8 := blk_frozen BK670.out 8; have hfz28_9 := blk_frozen BK670.out 9; have hfz28_10 := blk_frozen BK670.out 10; have hfz28_11 := blk_frozen BK670.out 11; have hfz28_12 := blk_frozen BK670.out 12) | ((with_reducible refine gate_callee (f := 17) rfl ?_); refine goesL_ (some 51) rfl rfl Try.func17 (by kernel_rfl) rfl #[.pointer (some ⟨g689, 0, none⟩), .int .i64 (wrap64 (x9_1 + (wrap64 ((wrap64 (1000 + (wrap64 (a0)))) + 1))))] rfl (by (try simp only [List.map_toArray, List.map_cons, List.map_nil]); first | done | rfl | (simp only [List.length_drop, List.length_take]; rfl)) ?_; (with_reducible refine (guard_Guard_Tick.calls g689 t712 t713 t714 t715 t716 t717 t718 t719 t720 t721 t722 t682 t723 t724 t725 t726 t727 t728 (wrap64 (x9_1 + (wrap64 ((wrap64 (1000 + (wrap64 (a0)))) + 1)))) t729 t730 t731 t732 t733 t734 t735 t736 t737 t738 t739 t740 t741 t742 t743 t744 t745 t746 w _ ?side1 ?side2 A18.out).mono ?_); (case side1 => repeat (first | (with_reducible first | exact HI689.out | apply IsS48.alloc | apply IsS48.drewN | apply IsS48.drew | apply IsS48.set_0 | apply IsS48.set_1 | apply IsS48.set_2 | apply IsS48.set_3 | apply IsS48.set_4 | apply IsS48.set_5 | apply IsS48.set_6 | apply IsS48.set_7 | apply IsS48.set_8 | apply IsS48.set_9 | apply IsS48.set_10 | apply IsS48.set_12 | apply IsS48.set_13 | apply IsS48.set_14 | apply IsS48.set_15 | apply IsS48.set_16 | apply IsS48.set_17 | refine IsS48.far ?_ NB689_670.out _) | exact HI689.out)); (case side2 => repeat (first | (with_reducible first | exact HB.out | apply below_alloc | apply pw_below_drewN | apply below_drew1 | refine below_set ?_ (IsS48.ge HI689.out) | refine below_set ?_ GE670.out) | exact HB.out)); rintro e w29 ⟨rfl, hi, hb, hk⟩; refine ⟨_, rfl, ?_⟩; have n0_ := Aside0.mk (KeepBut.blk hk (g' := gb670) (o := .cells #[.int .i64 t658, .int .i64 t659, .int .i64 t660, .int .i64 t661, .int .i64 t662, .int .i64 t663, .int .i64 t664, .int .i64 (wrap64 (1000 + (wrap64 (a0)))), .int .i64 t666, .int .i64 t667, .int .i64 t668, .slice none 0 0, .int .i64 t669] 27 (0, 0)) (by (with_reducible repeat (first | refine blk_drewN ?_ _ | refine blk_drew ?_ | refine blk_alloc ?_ _)); exact BK670.out) NB670_689.out (by simp)); have n1_ := Aside0.mk (hb); have n2_ := Aside0.mk (hi); clear BK670; clear HB; clear HI689; have BK670 := n0_; have HB := n1_; have HI689 := n2_; clear n0_ n1_ n2_; (try clear hb); (try clear hb2); (try clear hk); (try clear hi)))
        go_ret
        exact ⟨by first | rfl | (simp [errW_none, errW_some] <;> rfl) | (simp only [← hji17]; first | rfl | (simp [errW_none, errW_some] <;> rfl)) | (simp [*, errW_none, errW_some] <;> rfl), by repeat (first | (with_reducible first | exact HB.out | apply below_alloc | apply pw_below_drewN | apply below_drew1 | refine below_set ?_ (IsS48.ge HI689.out) | refine below_set ?_ GE670.out) | exact HB.out)⟩
      ·rw [if_neg c16] at H
       have c16b0 : (t711 == x8_1) = false := beq_eq_false_iff_ne.mpr c16
       have c16b1 : (t711 != x8_1) = true := bne_iff_ne.mpr c16
       obtain rfl := Option.some.inj H
       go_wp2_with (first | ((with_reducible refine gate_callee (f := 18) rfl ?_); refine goesL_ (some 27) rfl rfl Try.func18 (by kernel_rfl) rfl #[.int .i64 a1, .int .i64 20] rfl (by (try simp only [List.map_toArray, List.map_cons, List.map_nil]); first | done | rfl | (simp only [List.length_drop, List.length_take]; rfl)) ?_; (with_reducible refine (flywheelkeep_Mod.calls a1 20 t691 _ A13.out).mono ?_); rintro e w' ⟨rfl, ⟨nd, rfl⟩⟩; refine ⟨_, rfl, ?_⟩; have hnb30 := NB670_689.out; have hnc30 := NB689_670.out; have hcz31_0 : wr.cell? ⟨gb670, 0, none⟩ = some (.int .i64 t658) := (blk_cell BK670.out 0).trans rfl; have hcz31_1 : wr.cell? ⟨gb670, 1, none⟩ = some (.int .i64 t659) := (blk_cell BK670.out 1).trans rfl; have hcz31_2 : wr.cell? ⟨gb670, 2, none⟩ = some (.int .i64 t660) := (blk_cell BK670.out 2).trans rfl; have hcz31_3 : wr.cell? ⟨gb670, 3, none⟩ = some (.int .i64 t661) := (blk_cell BK670.out 3).trans rfl; have hcz31_4 : wr.cell? ⟨gb670, 4, none⟩ = some (.int .i64 t662) := (blk_cell BK670.out 4).trans rfl; have hcz31_5 : wr.cell? ⟨gb670, 5, none⟩ = some (.int .i64 t663) := (blk_cell BK670.out 5).trans rfl; have hcz31_6 : wr.cell? ⟨gb670, 6, none⟩ = some (.int .i64 t664) := (blk_cell BK670.out 6).trans rfl; have hcz31_7 : wr.cell? ⟨gb670, 7, none⟩ = some (.int .i64 (wrap64 (1000 + (wrap64 (a0))))) := (blk_cell BK670.out 7).trans rfl; have hcz31_8 : wr.cell? ⟨gb670, 8, none⟩ = some (.int .i64 t666) := (blk_cell BK670.out 8).trans rfl; have hcz31_9 : wr.cell? ⟨gb670, 9, none⟩ = some (.int .i64 t667) := (blk_cell BK670.out 9).trans rfl; have hcz31_10 : wr.cell? ⟨gb670, 10, none⟩ = some (.int .i64 t668) := (blk_cell BK670.out 10).trans rfl; have hcz31_11 : wr.cell? ⟨gb670, 11, none⟩ = some (.slice none 0 0) := (blk_cell BK670.out 11).trans rfl; have hcz31_12 : wr.cell? ⟨gb670, 12, none⟩ = some (.int .i64 t669) := (blk_cell BK670.out 12).trans rfl; have hfz31_0 := blk_frozen BK670.out 0; have hfz31_1 := blk_frozen BK670.out 1; have hfz31_2 := blk_frozen BK670.out 2; have hfz31_3 := blk_frozen BK670.out 3; have hfz31_4 := blk_frozen BK670.out 4; have hfz31_5 := blk_frozen BK670.out 5; have hfz31_6 := blk_frozen BK670.out 6; have hfz31_7 := blk_frozen BK670.out 7; have hfz31_8 := blk_frozen BK670.out 8; have hfz31_9 := blk_frozen BK670.out 9; have hfz31_10 := blk_frozen BK670.out 10; have hfz31_11 := blk_frozen BK670.out 11; have hfz31_12 := blk_frozen BK670.out 12) | ((with_reducible refine gate_callee (f := 17) rfl ?_); refine goesL_ (some 36) rfl rfl Try.func17 (by kernel_rfl) rfl #[.pointer (some ⟨g689, 0, none⟩), .int .i64 (wrap64 (x9_1 + (wrap64 (1000 + (wrap64 (a0))))))] rfl (by (try simp only [List.map_toArray, List.map_cons, List.map_nil]); first | done | rfl | (simp only [List.length_drop, List.length_take]; rfl)) ?_; (with_reducible refine (guard_Guard_Tick.calls g689 x690000_1 x690001_1 x690002_1 x690003_1 x690004_1 x690005_1 x690006_1 x690007_1 x690008_1 x690009_1 x690010_1 t682 x690012_1 x690013_1 x690014_1 x690015_1 x690016_1 x690017_1 (wrap64 (x9_1 + (wrap64 (1000 + (wrap64 (a0)))))) t711 t712 t713 t714 t715 t716 t717 t718 t719 t720 t721 t722 t723 t724 t725 t726 t727 t728 w _ ?side1 ?side2 A15.out).mono ?_); (case side1 => repeat (first | (with_reducible first | exact HI689.out | apply IsS48.alloc | apply IsS48.drewN | apply IsS48.drew | apply IsS48.set_0 | apply IsS48.set_1 | apply IsS48.set_2 | apply IsS48.set_3 | apply IsS48.set_4 | apply IsS48.set_5 | apply IsS48.set_6 | apply IsS48.set_7 | apply IsS48.set_8 | apply IsS48.set_9 | apply IsS48.set_10 | apply IsS48.set_12 | apply IsS48.set_13 | apply IsS48.set_14 | apply IsS48.set_15 | apply IsS48.set_16 | apply IsS48.set_17 | refine IsS48.far ?_ NB689_670.out _) | exact HI689.out)); (case side2 => repeat (first | (with_reducible first | exact HB.out | apply below_alloc | apply pw_below_drewN | apply below_drew1 | refine below_set ?_ (IsS48.ge HI689.out) | refine below_set ?_ GE670.out) | exact HB.out)); rintro e w32 ⟨rfl, hi, hb, hk⟩; refine ⟨_, rfl, ?_⟩; have n0_ := Aside0.mk (KeepBut.blk hk (g' := gb670) (o := .cells #[.int .i64 t658, .int .i64 t659, .int .i64 t660, .int .i64 t661, .int .i64 t662, .int .i64 t663, .int .i64 t664, .int .i64 (wrap64 (1000 + (wrap64 (a0)))), .int .i64 t666, .int .i64 t667, .int .i64 t668, .slice none 0 0, .int .i64 t669] 27 (0, 0)) (by (with_reducible repeat (first | refine blk_drewN ?_ _ | refine blk_drew ?_ | refine blk_alloc ?_ _)); exact BK670.out) NB670_689.out (by simp)); have n1_ := Aside0.mk (hb); have n2_ := Aside0.mk (hi); clear BK670; clear HB; clear HI689; have BK670 := n0_; have HB := n1_; have HI689 := n2_; clear n0_ n1_ n2_; (try clear hb); (try clear hb2); (try clear hk); (try clear hi)))
       go_ret
       exact ⟨by first | rfl | (simp [errW_none, errW_some] <;> rfl) | (simp [*, errW_none, errW_some] <;> rfl), by repeat (first | (with_reducible first | exact HB.out | apply below_alloc | apply pw_below_drewN | apply below_drew1 | refine below_set ?_ (IsS48.ge HI689.out) | refine below_set ?_ GE670.out) | exact HB.out)⟩
     ·rw [if_neg c14] at H
      have c14b0 : decide (x10_1 < t691) = false := decide_eq_false c14
      clear c14
      replace H := Option.bind_eq_some_iff.mp H
      obtain ⟨⟨t692, t693, t694, t695, t696, t697, t698, t699, t700, t701, t702, t703, t704, t705, t706, t707, t708, t709⟩, A330, H⟩ := H
      replace H : (if t692 = x8_1 then ((flywheellaw28_wakes.f).bind fun t710 => (some t710)) else (some false)) = some r := H
      have A33 := Aside0.mk A330
      clear A330
      by_cases c34 : t692 = x8_1
      ·rw [if_pos c34] at H
       have c34b0 : (t692 == x8_1) = true := beq_iff_eq.mpr c34
       have c34b1 : (t692 != x8_1) = false := bne_eq_false_iff_eq.mpr c34
       clear c34
       replace H := Option.bind_eq_some_iff.mp H
       obtain ⟨t710, A350, H⟩ := H
       replace H : (some t710) = some r := H
       have A35 := Aside0.mk A350
       clear A350
       obtain rfl := Option.some.inj H
       go_wp2_with (first | ((with_reducible refine gate_callee (f := 18) rfl ?_); refine goesL_ (some 27) rfl rfl Try.func18 (by kernel_rfl) rfl #[.int .i64 a1, .int .i64 20] rfl (by (try simp only [List.map_toArray, List.map_cons, List.map_nil]); first | done | rfl | (simp only [List.length_drop, List.length_take]; rfl)) ?_; (with_reducible refine (flywheelkeep_Mod.calls a1 20 t691 _ A13.out).mono ?_); rintro e w' ⟨rfl, ⟨nd, rfl⟩⟩; refine ⟨_, rfl, ?_⟩) | ((with_reducible refine gate_callee (f := 16) rfl ?_); refine goesL_ (some 55) rfl rfl Try.func16 (by kernel_rfl) rfl #[.pointer (some ⟨g689, 0, none⟩)] rfl (by (try simp only [List.map_toArray, List.map_cons, List.map_nil]); first | done | rfl | (simp only [List.length_drop, List.length_take]; rfl)) ?_; (with_reducible refine (guard_Guard_Target.calls g689 x690000_1 x690001_1 x690002_1 x690003_1 x690004_1 x690005_1 x690006_1 x690007_1 x690008_1 x690009_1 x690010_1 t682 x690012_1 x690013_1 x690014_1 x690015_1 x690016_1 x690017_1 t692 t693 t694 t695 t696 t697 t698 t699 t700 t701 t702 t703 t704 t705 t706 t707 t708 t709 w _ ?side1 ?side2 A33.out).mono ?_); (case side1 => repeat (first | (with_reducible first | exact HI689.out | apply IsS48.alloc | apply IsS48.drewN | apply IsS48.drew | apply IsS48.set_0 | apply IsS48.set_1 | apply IsS48.set_2 | apply IsS48.set_3 | apply IsS48.set_4 | apply IsS48.set_5 | apply IsS48.set_6 | apply IsS48.set_7 | apply IsS48.set_8 | apply IsS48.set_9 | apply IsS48.set_10 | apply IsS48.set_12 | apply IsS48.set_13 | apply IsS48.set_14 | apply IsS48.set_15 | apply IsS48.set_16 | apply IsS48.set_17 | refine IsS48.far ?_ NB689_670.out _) | exact HI689.out)); (case side2 => repeat (first | (with_reducible first | exact HB.out | apply below_alloc | apply pw_below_drewN | apply below_drew1 | refine below_set ?_ (IsS48.ge HI689.out) | refine below_set ?_ GE670.out) | exact HB.out)); rintro e w36 ⟨rfl, hi, hb, hk⟩; refine ⟨_, rfl, ?_⟩; have n0_ := Aside0.mk (KeepBut.blk hk (g' := gb670) (o := .cells #[.int .i64 t658, .int .i64 t659, .int .i64 t660, .int .i64 t661, .int .i64 t662, .int .i64 t663, .int .i64 t664, .int .i64 (wrap64 (1000 + (wrap64 (a0)))), .int .i64 t666, .int .i64 t667, .int .i64 t668, .slice none 0 0, .int .i64 t669] 27 (0, 0)) (by (with_reducible repeat (first | refine blk_drewN ?_ _ | refine blk_drew ?_ | refine blk_alloc ?_ _)); exact BK670.out) NB670_689.out (by simp)); have n1_ := Aside0.mk (hb); have n2_ := Aside0.mk (hi); clear BK670; clear HB; clear HI689; have BK670 := n0_; have HB := n1_; have HI689 := n2_; clear n0_ n1_ n2_; (try clear hb); (try clear hb2); (try clear hk); (try clear hi)) | (go_at_call 14; (with_reducible refine (flywheellaw28_wakes.calls  t710 _ A35.out).mono ?_); rintro e w37 ⟨rfl, hb⟩; have n0_ := Aside0.mk (blk_below (g := gb670) (o := .cells #[.int .i64 t658, .int .i64 t659, .int .i64 t660, .int .i64 t661, .int .i64 t662, .int .i64 t663, .int .i64 t664, .int .i64 (wrap64 (1000 + (wrap64 (a0)))), .int .i64 t666, .int .i64 t667, .int .i64 t668, .slice none 0 0, .int .i64 t669] 27 (0, 0)) (by (with_reducible repeat (first | refine blk_drewN ?_ _ | refine blk_drew ?_ | refine blk_alloc ?_ _)); exact BK670.out) hb); have n1_ := Aside0.mk (IsS48.below (by repeat (first | (with_reducible first | exact HI689.out | apply IsS48.alloc | apply IsS48.drewN | apply IsS48.drew | apply IsS48.set_0 | apply IsS48.set_1 | apply IsS48.set_2 | apply IsS48.set_3 | apply IsS48.set_4 | apply IsS48.set_5 | apply IsS48.set_6 | apply IsS48.set_7 | apply IsS48.set_8 | apply IsS48.set_9 | apply IsS48.set_10 | apply IsS48.set_12 | apply IsS48.set_13 | apply IsS48.set_14 | apply IsS48.set_15 | apply IsS48.set_16 | apply IsS48.set_17 | refine IsS48.far ?_ NB689_670.out _) | exact HI689.out)) hb); have n2_ := Aside0.mk (below_step (by repeat (first | (with_reducible first | exact HB.out | apply below_alloc | apply pw_below_drewN | apply below_drew1 | refine below_set ?_ (IsS48.ge HI689.out) | refine below_set ?_ GE670.out) | exact HB.out)) hb); clear BK670; clear HI689; clear HB; have BK670 := n0_; have HI689 := n1_; have HB := n2_; clear n0_ n1_ n2_; (try clear hb); (try clear hb2); (try clear hk); (try clear hi)))
       go_ret
       exact ⟨by first | rfl | (simp [errW_none, errW_some] <;> rfl) | (simp [*, errW_none, errW_some] <;> rfl), by repeat (first | (with_reducible first | exact HB.out | apply below_alloc | apply pw_below_drewN | apply below_drew1 | refine below_set ?_ (IsS48.ge HI689.out) | refine below_set ?_ GE670.out) | exact HB.out)⟩
      ·rw [if_neg c34] at H
       have c34b0 : (t692 == x8_1) = false := beq_eq_false_iff_ne.mpr c34
       have c34b1 : (t692 != x8_1) = true := bne_iff_ne.mpr c34
       obtain rfl := Option.some.inj H
       go_wp2_with (first | ((with_reducible refine gate_callee (f := 18) rfl ?_); refine goesL_ (some 27) rfl rfl Try.func18 (by kernel_rfl) rfl #[.int .i64 a1, .int .i64 20] rfl (by (try simp only [List.map_toArray, List.map_cons, List.map_nil]); first | done | rfl | (simp only [List.length_drop, List.length_take]; rfl)) ?_; (with_reducible refine (flywheelkeep_Mod.calls a1 20 t691 _ A13.out).mono ?_); rintro e w' ⟨rfl, ⟨nd, rfl⟩⟩; refine ⟨_, rfl, ?_⟩) | ((with_reducible refine gate_callee (f := 16) rfl ?_); refine goesL_ (some 55) rfl rfl Try.func16 (by kernel_rfl) rfl #[.pointer (some ⟨g689, 0, none⟩)] rfl (by (try simp only [List.map_toArray, List.map_cons, List.map_nil]); first | done | rfl | (simp only [List.length_drop, List.length_take]; rfl)) ?_; (with_reducible refine (guard_Guard_Target.calls g689 x690000_1 x690001_1 x690002_1 x690003_1 x690004_1 x690005_1 x690006_1 x690007_1 x690008_1 x690009_1 x690010_1 t682 x690012_1 x690013_1 x690014_1 x690015_1 x690016_1 x690017_1 t692 t693 t694 t695 t696 t697 t698 t699 t700 t701 t702 t703 t704 t705 t706 t707 t708 t709 w _ ?side1 ?side2 A33.out).mono ?_); (case side1 => repeat (first | (with_reducible first | exact HI689.out | apply IsS48.alloc | apply IsS48.drewN | apply IsS48.drew | apply IsS48.set_0 | apply IsS48.set_1 | apply IsS48.set_2 | apply IsS48.set_3 | apply IsS48.set_4 | apply IsS48.set_5 | apply IsS48.set_6 | apply IsS48.set_7 | apply IsS48.set_8 | apply IsS48.set_9 | apply IsS48.set_10 | apply IsS48.set_12 | apply IsS48.set_13 | apply IsS48.set_14 | apply IsS48.set_15 | apply IsS48.set_16 | apply IsS48.set_17 | refine IsS48.far ?_ NB689_670.out _) | exact HI689.out)); (case side2 => repeat (first | (with_reducible first | exact HB.out | apply below_alloc | apply pw_below_drewN | apply below_drew1 | refine below_set ?_ (IsS48.ge HI689.out) | refine below_set ?_ GE670.out) | exact HB.out)); rintro e w38 ⟨rfl, hi, hb, hk⟩; refine ⟨_, rfl, ?_⟩; have n0_ := Aside0.mk (KeepBut.blk hk (g' := gb670) (o := .cells #[.int .i64 t658, .int .i64 t659, .int .i64 t660, .int .i64 t661, .int .i64 t662, .int .i64 t663, .int .i64 t664, .int .i64 (wrap64 (1000 + (wrap64 (a0)))), .int .i64 t666, .int .i64 t667, .int .i64 t668, .slice none 0 0, .int .i64 t669] 27 (0, 0)) (by (with_reducible repeat (first | refine blk_drewN ?_ _ | refine blk_drew ?_ | refine blk_alloc ?_ _)); exact BK670.out) NB670_689.out (by simp)); have n1_ := Aside0.mk (hb); have n2_ := Aside0.mk (hi); clear BK670; clear HB; clear HI689; have BK670 := n0_; have HB := n1_; have HI689 := n2_; clear n0_ n1_ n2_; (try clear hb); (try clear hb2); (try clear hk); (try clear hi)))
       go_ret
       exact ⟨by first | rfl | (simp [errW_none, errW_some] <;> rfl) | (simp [*, errW_none, errW_some] <;> rfl), by repeat (first | (with_reducible first | exact HB.out | apply below_alloc | apply pw_below_drewN | apply below_drew1 | refine below_set ?_ (IsS48.ge HI689.out) | refine below_set ?_ GE670.out) | exact HB.out)⟩
  ·rw [if_neg c6] at H
   have c6b0 : (t690 == 0) = false := beq_eq_false_iff_ne.mpr c6
   have c6b1 : (t690 != 0) = true := bne_iff_ne.mpr c6
   obtain rfl := Option.some.inj H
   go_enter Try.func7, Try.ntmps7
   go_wp2_with (first | ((with_reducible refine gate_callee (f := 9) rfl ?_); refine goesL_ (some 11) rfl rfl Try.func9 (by kernel_rfl) rfl #[] rfl (by (try simp only [List.map_toArray, List.map_cons, List.map_nil]); first | done | rfl | (simp only [List.length_drop, List.length_take]; rfl)) ?_; (with_reducible refine (flywheellaw28_Some.calls  t658 t659 t660 t661 t662 t663 t664 t665 t666 t667 t668 t669 _ A3.out).mono ?_); rintro e w39 ⟨rfl, hb⟩; refine ⟨_, rfl, ?_⟩; have n0_ := Aside0.mk (below_step (by repeat (first | (with_reducible first | exact HB.out | apply below_alloc | apply pw_below_drewN | apply below_drew1) | exact HB.out)) hb); clear HB; have HB := n0_; clear n0_; (try clear hb); (try clear hb2); (try clear hk); (try clear hi)) | ((with_reducible refine gate_dst (N := 5) rfl ?_); refine box_event ?hg (N := 5) ?hd (cs := #[.int .i64 0, .int .i64 0, .int .i64 0, .int .i64 0, .int .i64 0, .int .i64 0, .int .i64 0, .int .i64 0, .int .i64 0, .int .i64 0, .int .i64 0, .slice none 0 0, .int .i64 0]) (t := 27) ?hr ?_; (case hd => rfl); (case hg => rfl); (case hr => first | (go_simp; done) | (go_simp; rfl)); intro gb670 hg w40 hbox hb; have n0_ := Aside0.mk (below_step (by repeat (first | (with_reducible first | exact HB.out | apply below_alloc | apply pw_below_drewN | apply below_drew1) | exact HB.out)) hb); have n1_ := Aside0.mk (hbox); have n2_ := Aside0.mk ((by rw [hg]; exact (below_size (by repeat (first | (with_reducible first | exact HB.out | apply below_alloc | apply pw_below_drewN | apply below_drew1) | exact HB.out))) : w.heap.size ≤ gb670)); have n3_ := Aside0.mk ((by rw [hg]; exact (below_size (by repeat (first | (with_reducible first | exact HB.out | apply below_alloc | apply pw_below_drewN | apply below_drew1) | exact HB.out))) : w.heap.size ≤ gb670)); clear HB; have HB := n0_; have BK670 := n1_; have GW670 := n2_; have GE670 := n3_; clear n0_ n1_ n2_ n3_; clear hb hbox hg; have hcz41_0 : w40.cell? ⟨gb670, 0, none⟩ = some (.int .i64 0) := (blk_cell BK670.out 0).trans rfl; have hcz41_1 : w40.cell? ⟨gb670, 1, none⟩ = some (.int .i64 0) := (blk_cell BK670.out 1).trans rfl; have hcz41_2 : w40.cell? ⟨gb670, 2, none⟩ = some (.int .i64 0) := (blk_cell BK670.out 2).trans rfl; have hcz41_3 : w40.cell? ⟨gb670, 3, none⟩ = some (.int .i64 0) := (blk_cell BK670.out 3).trans rfl; have hcz41_4 : w40.cell? ⟨gb670, 4, none⟩ = some (.int .i64 0) := (blk_cell BK670.out 4).trans rfl; have hcz41_5 : w40.cell? ⟨gb670, 5, none⟩ = some (.int .i64 0) := (blk_cell BK670.out 5).trans rfl; have hcz41_6 : w40.cell? ⟨gb670, 6, none⟩ = some (.int .i64 0) := (blk_cell BK670.out 6).trans rfl; have hcz41_7 : w40.cell? ⟨gb670, 7, none⟩ = some (.int .i64 0) := (blk_cell BK670.out 7).trans rfl; have hcz41_8 : w40.cell? ⟨gb670, 8, none⟩ = some (.int .i64 0) := (blk_cell BK670.out 8).trans rfl; have hcz41_9 : w40.cell? ⟨gb670, 9, none⟩ = some (.int .i64 0) := (blk_cell BK670.out 9).trans rfl; have hcz41_10 : w40.cell? ⟨gb670, 10, none⟩ = some (.int .i64 0) := (blk_cell BK670.out 10).trans rfl; have hcz41_11 : w40.cell? ⟨gb670, 11, none⟩ = some (.slice none 0 0) := (blk_cell BK670.out 11).trans rfl; have hcz41_12 : w40.cell? ⟨gb670, 12, none⟩ = some (.int .i64 0) := (blk_cell BK670.out 12).trans rfl; have hfz41_0 := blk_frozen BK670.out 0; have hfz41_1 := blk_frozen BK670.out 1; have hfz41_2 := blk_frozen BK670.out 2; have hfz41_3 := blk_frozen BK670.out 3; have hfz41_4 := blk_frozen BK670.out 4; have hfz41_5 := blk_frozen BK670.out 5; have hfz41_6 := blk_frozen BK670.out 6; have hfz41_7 := blk_frozen BK670.out 7; have hfz41_8 := blk_frozen BK670.out 8; have hfz41_9 := blk_frozen BK670.out 9; have hfz41_10 := blk_frozen BK670.out 10; have hfz41_11 := blk_frozen BK670.out 11; have hfz41_12 := blk_frozen BK670.out 12) | ((with_reducible refine gate_store (t := 27) (p := 5) (v := .tmp 11) rfl ?_); refine whole_store [.int .i64 t658, .int .i64 t659, .int .i64 t660, .int .i64 t661, .int .i64 t662, .int .i64 t663, .int .i64 t664, .int .i64 t665, .int .i64 t666, .int .i64 t667, .int .i64 t668, .slice none 0 0, .int .i64 t669] 5 (.tmp 11) rfl rfl rfl rfl rfl rfl (by kernel_rfl) (by simp [Value.oneCell']) BK670.out rfl HB.out GE670.out ?_; intro wv_ hbk_ hB_; clear BK670 HB hcz41_0 hfz41_0 hcz41_1 hfz41_1 hcz41_2 hfz41_2 hcz41_3 hfz41_3 hcz41_4 hfz41_4 hcz41_5 hfz41_5 hcz41_6 hfz41_6 hcz41_7 hfz41_7 hcz41_8 hfz41_8 hcz41_9 hfz41_9 hcz41_10 hfz41_10 hcz41_11 hfz41_11 hcz41_12 hfz41_12; have BK670 := Aside0.mk hbk_; have HB := Aside0.mk hB_; clear hbk_ hB_; have hcz41_0 : wv_.cell? ⟨gb670, 0, none⟩ = some (.int .i64 t658) := (blk_cell BK670.out 0).trans rfl; have hfz41_0 := blk_frozen BK670.out 0; have hcz41_1 : wv_.cell? ⟨gb670, 1, none⟩ = some (.int .i64 t659) := (blk_cell BK670.out 1).trans rfl; have hfz41_1 := blk_frozen BK670.out 1; have hcz41_2 : wv_.cell? ⟨gb670, 2, none⟩ = some (.int .i64 t660) := (blk_cell BK670.out 2).trans rfl; have hfz41_2 := blk_frozen BK670.out 2; have hcz41_3 : wv_.cell? ⟨gb670, 3, none⟩ = some (.int .i64 t661) := (blk_cell BK670.out 3).trans rfl; have hfz41_3 := blk_frozen BK670.out 3; have hcz41_4 : wv_.cell? ⟨gb670, 4, none⟩ = some (.int .i64 t662) := (blk_cell BK670.out 4).trans rfl; have hfz41_4 := blk_frozen BK670.out 4; have hcz41_5 : wv_.cell? ⟨gb670, 5, none⟩ = some (.int .i64 t663) := (blk_cell BK670.out 5).trans rfl; have hfz41_5 := blk_frozen BK670.out 5; have hcz41_6 : wv_.cell? ⟨gb670, 6, none⟩ = some (.int .i64 t664) := (blk_cell BK670.out 6).trans rfl; have hfz41_6 := blk_frozen BK670.out 6; have hcz41_7 : wv_.cell? ⟨gb670, 7, none⟩ = some (.int .i64 t665) := (blk_cell BK670.out 7).trans rfl; have hfz41_7 := blk_frozen BK670.out 7; have hcz41_8 : wv_.cell? ⟨gb670, 8, none⟩ = some (.int .i64 t666) := (blk_cell BK670.out 8).trans rfl; have hfz41_8 := blk_frozen BK670.out 8; have hcz41_9 : wv_.cell? ⟨gb670, 9, none⟩ = some (.int .i64 t667) := (blk_cell BK670.out 9).trans rfl; have hfz41_9 := blk_frozen BK670.out 9; have hcz41_10 : wv_.cell? ⟨gb670, 10, none⟩ = some (.int .i64 t668) := (blk_cell BK670.out 10).trans rfl; have hfz41_10 := blk_frozen BK670.out 10; have hcz41_11 : wv_.cell? ⟨gb670, 11, none⟩ = some (.slice none 0 0) := (blk_cell BK670.out 11).trans rfl; have hfz41_11 := blk_frozen BK670.out 11; have hcz41_12 : wv_.cell? ⟨gb670, 12, none⟩ = some (.int .i64 t669) := (blk_cell BK670.out 12).trans rfl; have hfz41_12 := blk_frozen BK670.out 12) | ((with_reducible refine gate_callee (f := 10) rfl ?_); refine goesL_ (some 18) rfl rfl Try.func10 (by kernel_rfl) rfl #[.agg #[.int .i64 t658, .int .i64 t659, .int .i64 t660, .int .i64 t661, .int .i64 t662, .int .i64 t663, .int .i64 t664, .int .i64 (wrap64 (1000 + (wrap64 (a0)))), .int .i64 t666, .int .i64 t667, .int .i64 t668, .slice none 0 0, .int .i64 t669]] rfl (by (try simp only [List.map_toArray, List.map_cons, List.map_nil]); first | done | rfl | (simp only [List.length_drop, List.length_take]; rfl)) ?_; (refine (guard_New.made.calls t658 t659 t660 t661 t662 t663 t664 (wrap64 (1000 + (wrap64 (a0)))) t666 t667 t668 _ _ ([] : List (S85)) t669 t671 t672 t673 t674 t675 t676 t677 t678 t679 t680 t681 t682 t683 t684 t685 t686 t687 t688 t690 w _ ?side1 ?side2 ?side3 A5.out).mono ?_); (case side1 => repeat (first | (with_reducible first | exact HB.out | apply below_alloc | apply pw_below_drewN | apply below_drew1 | refine below_set ?_ GE670.out) | exact HB.out)); (case side2 => exact Kd.C_nil _ _); (case side3 => exact Nat.le_refl _); rintro e w42 ⟨g689, rfl, hi, hb, hb2⟩; refine ⟨_, rfl, ?_⟩; have n0_ := Aside0.mk (blk_below (g := gb670) (o := .cells #[.int .i64 t658, .int .i64 t659, .int .i64 t660, .int .i64 t661, .int .i64 t662, .int .i64 t663, .int .i64 t664, .int .i64 (wrap64 (1000 + (wrap64 (a0)))), .int .i64 t666, .int .i64 t667, .int .i64 t668, .slice none 0 0, .int .i64 t669] 27 (0, 0)) (by (with_reducible repeat (first | refine blk_drewN ?_ _ | refine blk_drew ?_ | refine blk_alloc ?_ _)); refine blk_put (cs := #[.int .i64 t658, .int .i64 t659, .int .i64 t660, .int .i64 t661, .int .i64 t662, .int .i64 t663, .int .i64 t664, .int .i64 t665, .int .i64 t666, .int .i64 t667, .int .i64 t668, .slice none 0 0, .int .i64 t669]) ?_ 7 _ rfl; exact BK670.out) hb2); have n1_ := Aside0.mk (hb); have n2_ := Aside0.mk (hi); have n3_ := Aside0.mk (IsS48.ne_blk hi (blk_below (g := gb670) (o := .cells #[.int .i64 t658, .int .i64 t659, .int .i64 t660, .int .i64 t661, .int .i64 t662, .int .i64 t663, .int .i64 t664, .int .i64 (wrap64 (1000 + (wrap64 (a0)))), .int .i64 t666, .int .i64 t667, .int .i64 t668, .slice none 0 0, .int .i64 t669] 27 (0, 0)) (by (with_reducible repeat (first | refine blk_drewN ?_ _ | refine blk_drew ?_ | refine blk_alloc ?_ _)); refine blk_put (cs := #[.int .i64 t658, .int .i64 t659, .int .i64 t660, .int .i64 t661, .int .i64 t662, .int .i64 t663, .int .i64 t664, .int .i64 t665, .int .i64 t666, .int .i64 t667, .int .i64 t668, .slice none 0 0, .int .i64 t669]) ?_ 7 _ rfl; exact BK670.out) hb2) (by decide)); have n4_ := Aside0.mk (Ne.symm (IsS48.ne_blk hi (blk_below (g := gb670) (o := .cells #[.int .i64 t658, .int .i64 t659, .int .i64 t660, .int .i64 t661, .int .i64 t662, .int .i64 t663, .int .i64 t664, .int .i64 (wrap64 (1000 + (wrap64 (a0)))), .int .i64 t666, .int .i64 t667, .int .i64 t668, .slice none 0 0, .int .i64 t669] 27 (0, 0)) (by (with_reducible repeat (first | refine blk_drewN ?_ _ | refine blk_drew ?_ | refine blk_alloc ?_ _)); refine blk_put (cs := #[.int .i64 t658, .int .i64 t659, .int .i64 t660, .int .i64 t661, .int .i64 t662, .int .i64 t663, .int .i64 t664, .int .i64 t665, .int .i64 t666, .int .i64 t667, .int .i64 t668, .slice none 0 0, .int .i64 t669]) ?_ 7 _ rfl; exact BK670.out) hb2) (by decide))); clear BK670; clear HB; have BK670 := n0_; have HB := n1_; have HI689 := n2_; have NB689_670 := n3_; have NB670_689 := n4_; clear n0_ n1_ n2_ n3_ n4_; (try clear hb); (try clear hb2); (try clear hk); (try clear hi)))
   go_ret
   exact ⟨by first | rfl | (simp [errW_none, errW_some] <;> rfl) | (simp [*, errW_none, errW_some] <;> rfl), by repeat (first | (with_reducible first | exact HB.out | apply below_alloc | apply pw_below_drewN | apply below_drew1 | refine below_set ?_ (IsS48.ge HI689.out) | refine below_set ?_ GE670.out) | exact HB.out)⟩
 ·rw [if_neg c4] at H
  exact absurd H (by simp)
def flywheellaw28_GuardSilent.Pure : Prop := ∀ (a0 : Int) (a1 : Int), (Lit.int .u32 a0).wf = true → (Lit.int .i64 a1).wf = true → ∃ k, flywheellaw28_GuardSilent.f k a0 a1 = some true
theorem flywheellaw28_GuardSilent.walk (P : flywheellaw28_GuardSilent.Pure) (a0 : Int) (a1 : Int) (w : World) (w0 : (Lit.int .u32 a0).wf = true) (w1 : (Lit.int .i64 a1).wf = true) :
  Calls Try.prog 7 #[.int .u32 a0, .int .i64 a1] w fun e w' => e = .returned (.bool true) ∧ Below w.heap.size w w' := by
 obtain ⟨k, h⟩ := P a0 a1 w0 w1
 refine (flywheellaw28_GuardSilent.calls k a0 a1 true w h).mono ?_
 rintro e w' ⟨rfl, hd⟩
 exact ⟨rfl, hd⟩
end Go.Proofs.Ytkfkbebpcmmnfaa.P
end

section
namespace Go.Proofs.Ytkfkbebpcmmnfaa.P
open Go.RowKit Go.Proofs.YtkfkbebpcmmnfaaW.PrintWords Go.Proofs.YtkfkbebpcmmnfaaW.PrintLast Go.Proofs.YtkfkbebpcmmnfaaW.PrintMore
attribute [local go_sem] max2_int min2_int max_two min_two max_three min_three max_four min_four   -- for this text's walks alone
set_option linter.unusedVariables false
set_option linter.unusedSimpArgs false
def flywheelref19_Rates.f (a0 : Int) (a1 : Int) (a2 : Int) : Option (Bool) := if a1 ≥ 1 then (if a1 ≤ a0 then (if a0 ≤ a2 then (some (decide (a2 ≤ 17179869184))) else (some false)) else (some false)) else (some false)
def flywheelref28_Good.f (a0_0 : Int) (a0_1 : Int) (a0_2 : Int) (a0_3 : Int) (a0_4 : Int) (a0_5 : Int) (a0_6 : Int) (a0_7 : Int) (a0_8 : Int) (a0_9 : Int) (a0_10 : Int) (l0_11 : List (S85)) (a0_12 : Int) : Option (Bool) := (flywheelref19_Rates.f a0_3 a0_1 a0_2).bind fun t365 => (if t365 = true then (if a0_5 ≥ 0 then (if a0_5 ≤ a0_4 then (if a0_4 ≤ 1000000 then (if a0_7 ≥ 1000 then (some (decide (a0_7 ≤ 1125899906842624))) else (some false)) else (some false)) else (some false)) else (some false)) else (some false))
end Go.Proofs.Ytkfkbebpcmmnfaa.P
end

section
namespace Go.Proofs.Ytkfkbebpcmmnfaa.P
open Go.RowKit Go.Proofs.YtkfkbebpcmmnfaaW.PrintWords Go.Proofs.YtkfkbebpcmmnfaaW.PrintLast Go.Proofs.YtkfkbebpcmmnfaaW.PrintMore
attribute [local go_sem] max2_int min2_int max_two min_two max_three min_three max_four min_four   -- for this text's walks alone
set_option linter.unusedVariables false
set_option linter.unusedSimpArgs false
end Go.Proofs.Ytkfkbebpcmmnfaa.P
end

section
namespace Go.Proofs.Ytkfkbebpcmmnfaa.P
open Go.RowKit Go.Proofs.YtkfkbebpcmmnfaaW.PrintWords Go.Proofs.YtkfkbebpcmmnfaaW.PrintLast Go.Proofs.YtkfkbebpcmmnfaaW.PrintMore
attribute [local go_sem] max2_int min2_int max_two min_two max_three min_three max_four min_four   -- for this text's walks alone
set_option linter.unusedVariables false
set_option linter.unusedSimpArgs false
end Go.Proofs.Ytkfkbebpcmmnfaa.P
end

section
namespace Go.Proofs.Ytkfkbebpcmmnfaa.P
open Go.RowKit
set_option linter.unusedVariables false
set_option linter.unusedSimpArgs false
theorem clamp_eq (a lo hi : Int) : sat_Clamp.f a lo hi = some (if a < lo then lo else if a > hi then hi else a) := by
  unfold sat_Clamp.f
  split
  · rfl
  · split <;> rfl
end Go.Proofs.Ytkfkbebpcmmnfaa.P
end

-- PUT TOGETHER by a program of this session: of the claim's texts, what is used
import Derived.Test.YtlgfnclgkhfhpaaKAllocOne2
import Derived.Test.YtlgfnclgkhfhpaaKAllocOne7
import Derived.Test.YtlgfnclgkhfhpaaKAllocOne8
section
namespace Go.Proofs.Ytlgfnclgkhfhpaa.P
open Go.RowKit Go.Proofs.YtlgfnclgkhfhpaaW.PrintWords Go.Proofs.YtlgfnclgkhfhpaaW.PrintLast Go.Proofs.YtlgfnclgkhfhpaaW.PrintMore
attribute [local go_sem] max2_int min2_int max_two min_two max_three min_three max_four min_four   -- for this text's walks alone
set_option linter.unusedVariables false
set_option linter.unusedSimpArgs false
def flywheellaw27_AllocOne.f (k : Nat) (a0 : Int) (a1_0 : Int) (a1_1 : Int) (a1_2 : Int) (a2 : Int) : Option (Bool) := (flywheelref27_Good.f k (([(⟨a1_0, a1_1, a1_2⟩ : S31)] : List (S31)))).bind fun t367 => (if t367 = true then ((alloc_Split.f k a0 (([(⟨a1_0, a1_1, a1_2⟩ : S31)] : List (S31)))).bind fun t371 => ((alloc_Share.f k a0 (([(⟨a1_0, a1_1, a1_2⟩ : S31)] : List (S31))) (wrap64 (a2)) 0).bind fun bt377 => (if (t371.length : Int) = 1 then (if 0 < (t371.length : Int) then (if (rd t371 0) = (mn (mx 0 (mn a0 17179869184)) a1_2) then (if (bt377.1.length : Int) = 1 then (if bt377.2 = 0 then (if 0 < (bt377.1.length : Int) then (if ((rd_T67 bt377.1 0).f1) = (wrap64 ((wrap64 ((wrap64 (Int.tdiv (mn (mx 0 (mn a0 17179869184)) a1_2) 256)) * (mn (wrap64 (a2)) 128))) + (wrap64 (Int.tdiv (wrap64 ((Int.tmod (mn (mx 0 (mn a0 17179869184)) a1_2) 256) * (mn (wrap64 (a2)) 128))) 256)))) then (if ((rd_T67 bt377.1 0).f0) = (wrap64 ((mn (mx 0 (mn a0 17179869184)) a1_2) - ((rd_T67 bt377.1 0).f1))) then ((flywheellaw27_wakes.f k).bind fun t385 => (some t385)) else (some false)) else (some false)) else (none)) else (some false)) else (some false)) else (some false)) else (none)) else (some false)))) else ((alloc_Split.f k a0 (([(⟨a1_0, a1_1, a1_2⟩ : S31)] : List (S31)))).bind fun t389 => (if (t389.length : Int) = 0 then ((flywheellaw27_wakes.f k).bind fun t392 => (some t392)) else (some false))))
def flywheellaw27_AllocOne.T8 : Bool × List (List Nat × List Nat) := (true, [([], []), ([0], [0]), ([1], [1]), ([2], [2]), ([3], [3]), ([4, 3], [3, 4]), ([5, 3], [3, 5]), ([3], [3]), ([6, 7, 3], [3, 6, 7]), ([3, 8], [3, 8]), ([9, 3], [9]), ([10], [10]), ([11, 10], [10, 11]), ([12, 10], [10, 12]), ([10, 13], [10, 13]), ([14, 10], [14]), ([15], [15]), ([16, 15], [15, 16]), ([15, 17], [15, 17]), ([18, 15], [18]), ([19], [19]), ([20, 19], [19, 20]), ([21, 19], [19, 21]), ([22, 19], [19, 22]), ([19], [19]), ([24, 19], [19, 24]), ([19], [19]), ([25, 26, 19], [19, 25, 26]), ([19], [19]), ([28, 19], [19, 28]), ([19], [19]), ([29, 30, 19], [19, 29, 30]), ([31, 19], [19, 31]), ([27, 32, 19], [19, 27, 32]), ([23, 33, 19], [19, 23, 33]), ([19, 34], [19, 34]), ([35, 19], [35]), ([36], [36]), ([37, 36], [36, 37]), ([38, 36], [36, 38]), ([39, 36], [36, 39]), ([36], [36]), ([36], [36]), ([42, 36], [36, 42]), ([43, 36], [36, 43]), ([44, 36], [36, 44]), ([41, 45, 36], [36, 41, 45]), ([40, 46, 36], [36, 40, 46]), ([36, 47], [36, 47]), ([48, 36], [48]), ([49, 49], [49]), ([49, 50], [49, 50]), ([51, 50, 0, 1, 2, 3, 4, 5, 6, 7, 8, 9, 10, 11, 12, 13, 14, 15, 16, 17, 18, 19, 20, 21, 22, 23, 24, 25, 26, 27, 28, 29, 30, 31, 32, 33, 34, 35, 36, 37, 38, 39, 40, 41, 42, 43, 44, 45, 46, 47, 48, 49, 50, 51], [51])])
def flywheellaw27_AllocOne.B8 : List Nat := [0, 1, 3, 7, 15, 31, 63, 15, 255, 511, 1023, 2047, 4095, 8191, 16383, 32767, 65535, 131071, 262143, 524287, 1048575, 2097151, 4194303, 8388607, 1048575, 17825791, 1048575, 118489087, 1048575, 269484031, 1048575, 1880096767, 4027580415, 8574205951, 17179869183, 34359738367, 68719476735, 137438953471, 274877906943, 549755813887, 1099511627775, 137438953471, 137438953471, 4535485464575, 13331578486783, 30923764531199, 68307159875583, 140737488355327, 281474976710655, 562949953421311, 1125899906842623, 2251799813685247, 4503599627370495]
theorem flywheellaw27_AllocOne.tab8 : rtab .any (opsOf Try.f12 8) = flywheellaw27_AllocOne.T8 := by kernel_rfl
theorem flywheellaw27_AllocOne.bits8 : waitsOk flywheellaw27_AllocOne.T8.2 flywheellaw27_AllocOne.B8 = true := by kernel_rfl
set_option maxHeartbeats 8000000 in
set_option maxRecDepth 100000 in
theorem flywheellaw27_AllocOne.calls (k : Nat) (a0 : Int) (a1_0 : Int) (a1_1 : Int) (a1_2 : Int) (a2 : Int) (r : Bool) (w : World) (h : flywheellaw27_AllocOne.f k a0 a1_0 a1_1 a1_2 a2 = some r) :
  Calls Try.prog 12 #[.int .i64 a0, .agg #[.int .i64 a1_0, .int .i64 a1_1, .int .i64 a1_2], .int .u8 a2] w fun e w' => e = .returned (.bool r) ∧ Below w.heap.size w w' := by
 have hu31 := Try.underlying31
 have HB := Aside0.mk (Below.refl w.heap.size w)
 have H : ((flywheelref27_Good.f k (([(⟨a1_0, a1_1, a1_2⟩ : S31)] : List (S31)))).bind fun t367 => (if t367 = true then ((alloc_Split.f k a0 (([(⟨a1_0, a1_1, a1_2⟩ : S31)] : List (S31)))).bind fun t371 => ((alloc_Share.f k a0 (([(⟨a1_0, a1_1, a1_2⟩ : S31)] : List (S31))) (wrap64 (a2)) 0).bind fun bt377 => (if (t371.length : Int) = 1 then (if 0 < (t371.length : Int) then (if (rd t371 0) = (mn (mx 0 (mn a0 17179869184)) a1_2) then (if (bt377.1.length : Int) = 1 then (if bt377.2 = 0 then (if 0 < (bt377.1.length : Int) then (if ((rd_T67 bt377.1 0).f1) = (wrap64 ((wrap64 ((wrap64 (Int.tdiv (mn (mx 0 (mn a0 17179869184)) a1_2) 256)) * (mn (wrap64 (a2)) 128))) + (wrap64 (Int.tdiv (wrap64 ((Int.tmod (mn (mx 0 (mn a0 17179869184)) a1_2) 256) * (mn (wrap64 (a2)) 128))) 256)))) then (if ((rd_T67 bt377.1 0).f0) = (wrap64 ((mn (mx 0 (mn a0 17179869184)) a1_2) - ((rd_T67 bt377.1 0).f1))) then ((flywheellaw27_wakes.f k).bind fun t385 => (some t385)) else (some false)) else (some false)) else (none)) else (some false)) else (some false)) else (some false)) else (none)) else (some false)))) else ((alloc_Split.f k a0 (([(⟨a1_0, a1_1, a1_2⟩ : S31)] : List (S31)))).bind fun t389 => (if (t389.length : Int) = 0 then ((flywheellaw27_wakes.f k).bind fun t392 => (some t392)) else (some false))))) = some r := h
 clear h
 obtain ⟨y364, hy364⟩ : ∃ y_ : List (S31), y_ = (([(⟨a1_0, a1_1, a1_2⟩ : S31)] : List (S31))) := ⟨_, rfl⟩
 replace H : ((flywheelref27_Good.f k y364).bind fun t367 => (if t367 = true then ((alloc_Split.f k a0 (([(⟨a1_0, a1_1, a1_2⟩ : S31)] : List (S31)))).bind fun t371 => ((alloc_Share.f k a0 (([(⟨a1_0, a1_1, a1_2⟩ : S31)] : List (S31))) (wrap64 (a2)) 0).bind fun bt377 => (if (t371.length : Int) = 1 then (if 0 < (t371.length : Int) then (if (rd t371 0) = (mn (mx 0 (mn a0 17179869184)) a1_2) then (if (bt377.1.length : Int) = 1 then (if bt377.2 = 0 then (if 0 < (bt377.1.length : Int) then (if ((rd_T67 bt377.1 0).f1) = (wrap64 ((wrap64 ((wrap64 (Int.tdiv (mn (mx 0 (mn a0 17179869184)) a1_2) 256)) * (mn (wrap64 (a2)) 128))) + (wrap64 (Int.tdiv (wrap64 ((Int.tmod (mn (mx 0 (mn a0 17179869184)) a1_2) 256) * (mn (wrap64 (a2)) 128))) 256)))) then (if ((rd_T67 bt377.1 0).f0) = (wrap64 ((mn (mx 0 (mn a0 17179869184)) a1_2) - ((rd_T67 bt377.1 0).f1))) then ((flywheellaw27_wakes.f k).bind fun t385 => (some t385)) else (some false)) else (some false)) else (none)) else (some false)) else (some false)) else (some false)) else (none)) else (some false)))) else ((alloc_Split.f k a0 (([(⟨a1_0, a1_1, a1_2⟩ : S31)] : List (S31)))).bind fun t389 => (if (t389.length : Int) = 0 then ((flywheellaw27_wakes.f k).bind fun t392 => (some t392)) else (some false))))) = some r := by first | (rw [hy364]; with_reducible exact H) | (have H2_ := (Option.bind_some _ _).symm.trans H; rw [hy364]; with_reducible exact H2_) | (have H2_ := (Option.bind_some _ _).symm.trans H; with_reducible exact H2_) | with_reducible exact H | (rw [hy364]; exact H) | exact H
 have Ny364 := Aside0.mk hy364
 clear hy364
 replace H := Option.bind_eq_some_iff.mp H
 obtain ⟨t367, A40, H⟩ := H
 replace H : (if t367 = true then ((alloc_Split.f k a0 (([(⟨a1_0, a1_1, a1_2⟩ : S31)] : List (S31)))).bind fun t371 => ((alloc_Share.f k a0 (([(⟨a1_0, a1_1, a1_2⟩ : S31)] : List (S31))) (wrap64 (a2)) 0).bind fun bt377 => (if (t371.length : Int) = 1 then (if 0 < (t371.length : Int) then (if (rd t371 0) = (mn (mx 0 (mn a0 17179869184)) a1_2) then (if (bt377.1.length : Int) = 1 then (if bt377.2 = 0 then (if 0 < (bt377.1.length : Int) then (if ((rd_T67 bt377.1 0).f1) = (wrap64 ((wrap64 ((wrap64 (Int.tdiv (mn (mx 0 (mn a0 17179869184)) a1_2) 256)) * (mn (wrap64 (a2)) 128))) + (wrap64 (Int.tdiv (wrap64 ((Int.tmod (mn (mx 0 (mn a0 17179869184)) a1_2) 256) * (mn (wrap64 (a2)) 128))) 256)))) then (if ((rd_T67 bt377.1 0).f0) = (wrap64 ((mn (mx 0 (mn a0 17179869184)) a1_2) - ((rd_T67 bt377.1 0).f1))) then ((flywheellaw27_wakes.f k).bind fun t385 => (some t385)) else (some false)) else (some false)) else (none)) else (some false)) else (some false)) else (some false)) else (none)) else (some false)))) else ((alloc_Split.f k a0 (([(⟨a1_0, a1_1, a1_2⟩ : S31)] : List (S31)))).bind fun t389 => (if (t389.length : Int) = 0 then ((flywheellaw27_wakes.f k).bind fun t392 => (some t392)) else (some false)))) = some r := H
 have A4 := Aside0.mk A40
 clear A40
 by_cases c5 : t367 = true
 ·subst c5
  have H1 : ((alloc_Split.f k a0 (([(⟨a1_0, a1_1, a1_2⟩ : S31)] : List (S31)))).bind fun t371 => ((alloc_Share.f k a0 (([(⟨a1_0, a1_1, a1_2⟩ : S31)] : List (S31))) (wrap64 (a2)) 0).bind fun bt377 => (if (t371.length : Int) = 1 then (if 0 < (t371.length : Int) then (if (rd t371 0) = (mn (mx 0 (mn a0 17179869184)) a1_2) then (if (bt377.1.length : Int) = 1 then (if bt377.2 = 0 then (if 0 < (bt377.1.length : Int) then (if ((rd_T67 bt377.1 0).f1) = (wrap64 ((wrap64 ((wrap64 (Int.tdiv (mn (mx 0 (mn a0 17179869184)) a1_2) 256)) * (mn (wrap64 (a2)) 128))) + (wrap64 (Int.tdiv (wrap64 ((Int.tmod (mn (mx 0 (mn a0 17179869184)) a1_2) 256) * (mn (wrap64 (a2)) 128))) 256)))) then (if ((rd_T67 bt377.1 0).f0) = (wrap64 ((mn (mx 0 (mn a0 17179869184)) a1_2) - ((rd_T67 bt377.1 0).f1))) then ((flywheellaw27_wakes.f k).bind fun t385 => (some t385)) else (some false)) else (some false)) else (none)) else (some false)) else (some false)) else (some false)) else (none)) else (some false)))) = some r := by rw [if_pos rfl] at H; exact H
  clear H
  have H := H1
  clear H1
  obtain ⟨ji6, hji6⟩ : ∃ j_ : Int, (mn a0 17179869184) = j_ := ⟨_, rfl⟩
  replace H : ((alloc_Split.f k a0 (([(⟨a1_0, a1_1, a1_2⟩ : S31)] : List (S31)))).bind fun t371 => ((alloc_Share.f k a0 (([(⟨a1_0, a1_1, a1_2⟩ : S31)] : List (S31))) (wrap64 (a2)) 0).bind fun bt377 => (if (t371.length : Int) = 1 then (if 0 < (t371.length : Int) then (if (rd t371 0) = (mn (mx 0 (ji6)) a1_2) then (if (bt377.1.length : Int) = 1 then (if bt377.2 = 0 then (if 0 < (bt377.1.length : Int) then (if ((rd_T67 bt377.1 0).f1) = (wrap64 ((wrap64 ((wrap64 (Int.tdiv (mn (mx 0 (ji6)) a1_2) 256)) * (mn (wrap64 (a2)) 128))) + (wrap64 (Int.tdiv (wrap64 ((Int.tmod (mn (mx 0 (ji6)) a1_2) 256) * (mn (wrap64 (a2)) 128))) 256)))) then (if ((rd_T67 bt377.1 0).f0) = (wrap64 ((mn (mx 0 (ji6)) a1_2) - ((rd_T67 bt377.1 0).f1))) then ((flywheellaw27_wakes.f k).bind fun t385 => (some t385)) else (some false)) else (some false)) else (none)) else (some false)) else (some false)) else (some false)) else (none)) else (some false)))) = some r := by first | (rw [hji6] at H; exact H) | (simp only [hji6] at H ⊢; exact H)
  (try rw [hji6] at A4)
  (try (have hji6h : ji6 ≤ 17179869184 := by (rw [← hji6]; unfold mn; (repeat' split) <;> omega)))
  (try (have hji6g : ji6 ≤ 64 := by omega))
  have hji6_ : (if 17179869184 < a0 then 17179869184 else a0) = ji6 := hji6
  obtain ⟨ji7, hji7⟩ : ∃ j_ : Int, (mx 0 (ji6)) = j_ := ⟨_, rfl⟩
  replace H : ((alloc_Split.f k a0 (([(⟨a1_0, a1_1, a1_2⟩ : S31)] : List (S31)))).bind fun t371 => ((alloc_Share.f k a0 (([(⟨a1_0, a1_1, a1_2⟩ : S31)] : List (S31))) (wrap64 (a2)) 0).bind fun bt377 => (if (t371.length : Int) = 1 then (if 0 < (t371.length : Int) then (if (rd t371 0) = (mn (ji7) a1_2) then (if (bt377.1.length : Int) = 1 then (if bt377.2 = 0 then (if 0 < (bt377.1.length : Int) then (if ((rd_T67 bt377.1 0).f1) = (wrap64 ((wrap64 ((wrap64 (Int.tdiv (mn (ji7) a1_2) 256)) * (mn (wrap64 (a2)) 128))) + (wrap64 (Int.tdiv (wrap64 ((Int.tmod (mn (ji7) a1_2) 256) * (mn (wrap64 (a2)) 128))) 256)))) then (if ((rd_T67 bt377.1 0).f0) = (wrap64 ((mn (ji7) a1_2) - ((rd_T67 bt377.1 0).f1))) then ((flywheellaw27_wakes.f k).bind fun t385 => (some t385)) else (some false)) else (some false)) else (none)) else (some false)) else (some false)) else (some false)) else (none)) else (some false)))) = some r := by first | (rw [hji7] at H; exact H) | (simp only [hji7] at H ⊢; exact H)
  (try rw [hji7] at A4)
  have hji7_ : (if 0 < (ji6) then (ji6) else 0) = ji7 := hji7
  obtain ⟨y368, hy368⟩ : ∃ y_ : List (S31), y_ = (([(⟨a1_0, a1_1, a1_2⟩ : S31)] : List (S31))) := ⟨_, rfl⟩
  replace H : ((alloc_Split.f k a0 y368).bind fun t371 => ((alloc_Share.f k a0 (([(⟨a1_0, a1_1, a1_2⟩ : S31)] : List (S31))) (wrap64 (a2)) 0).bind fun bt377 => (if (t371.length : Int) = 1 then (if 0 < (t371.length : Int) then (if (rd t371 0) = (mn (ji7) a1_2) then (if (bt377.1.length : Int) = 1 then (if bt377.2 = 0 then (if 0 < (bt377.1.length : Int) then (if ((rd_T67 bt377.1 0).f1) = (wrap64 ((wrap64 ((wrap64 (Int.tdiv (mn (ji7) a1_2) 256)) * (mn (wrap64 (a2)) 128))) + (wrap64 (Int.tdiv (wrap64 ((Int.tmod (mn (ji7) a1_2) 256) * (mn (wrap64 (a2)) 128))) 256)))) then (if ((rd_T67 bt377.1 0).f0) = (wrap64 ((mn (ji7) a1_2) - ((rd_T67 bt377.1 0).f1))) then ((flywheellaw27_wakes.f k).bind fun t385 => (some t385)) else (some false)) else (some false)) else (none)) else (some false)) else (some false)) else (some false)) else (none)) else (some false)))) = some r := by first | (rw [hy368]; with_reducible exact H) | (have H2_ := (Option.bind_some _ _).symm.trans H; rw [hy368]; with_reducible exact H2_) | (have H2_ := (Option.bind_some _ _).symm.trans H; with_reducible exact H2_) | with_reducible exact H | (rw [hy368]; exact H) | exact H
  have Ny368 := Aside0.mk hy368
  clear hy368
  replace H := Option.bind_eq_some_iff.mp H
  obtain ⟨t371, A80, H⟩ := H
  replace H : ((alloc_Share.f k a0 (([(⟨a1_0, a1_1, a1_2⟩ : S31)] : List (S31))) (wrap64 (a2)) 0).bind fun bt377 => (if (t371.length : Int) = 1 then (if 0 < (t371.length : Int) then (if (rd t371 0) = (mn (ji7) a1_2) then (if (bt377.1.length : Int) = 1 then (if bt377.2 = 0 then (if 0 < (bt377.1.length : Int) then (if ((rd_T67 bt377.1 0).f1) = (wrap64 ((wrap64 ((wrap64 (Int.tdiv (mn (ji7) a1_2) 256)) * (mn (wrap64 (a2)) 128))) + (wrap64 (Int.tdiv (wrap64 ((Int.tmod (mn (ji7) a1_2) 256) * (mn (wrap64 (a2)) 128))) 256)))) then (if ((rd_T67 bt377.1 0).f0) = (wrap64 ((mn (ji7) a1_2) - ((rd_T67 bt377.1 0).f1))) then ((flywheellaw27_wakes.f k).bind fun t385 => (some t385)) else (some false)) else (some false)) else (none)) else (some false)) else (some false)) else (some false)) else (none)) else (some false))) = some r := H
  have A8 := Aside0.mk A80
  clear A80
  obtain ⟨ji9, hji9⟩ : ∃ j_ : Int, (mn (wrap64 (a2)) 128) = j_ := ⟨_, rfl⟩
  replace H : ((alloc_Share.f k a0 (([(⟨a1_0, a1_1, a1_2⟩ : S31)] : List (S31))) (wrap64 (a2)) 0).bind fun bt377 => (if (t371.length : Int) = 1 then (if 0 < (t371.length : Int) then (if (rd t371 0) = (mn (ji7) a1_2) then (if (bt377.1.length : Int) = 1 then (if bt377.2 = 0 then (if 0 < (bt377.1.length : Int) then (if ((rd_T67 bt377.1 0).f1) = (wrap64 ((wrap64 ((wrap64 (Int.tdiv (mn (ji7) a1_2) 256)) * (ji9))) + (wrap64 (Int.tdiv (wrap64 ((Int.tmod (mn (ji7) a1_2) 256) * (ji9))) 256)))) then (if ((rd_T67 bt377.1 0).f0) = (wrap64 ((mn (ji7) a1_2) - ((rd_T67 bt377.1 0).f1))) then ((flywheellaw27_wakes.f k).bind fun t385 => (some t385)) else (some false)) else (some false)) else (none)) else (some false)) else (some false)) else (some false)) else (none)) else (some false))) = some r := by first | (rw [hji9] at H; exact H) | (simp only [hji9] at H ⊢; exact H)
  (try rw [hji9] at A4)
  (try rw [hji9] at A8)
  (try (have hji9h : ji9 ≤ 128 := by (rw [← hji9]; unfold mn; (repeat' split) <;> omega)))
  (try (have hji9g : ji9 ≤ 64 := by omega))
  have hji9_ : (if 128 < (wrap64 (a2)) then 128 else (wrap64 (a2))) = ji9 := hji9
  obtain ⟨y374, hy374⟩ : ∃ y_ : List (S31), y_ = (([(⟨a1_0, a1_1, a1_2⟩ : S31)] : List (S31))) := ⟨_, rfl⟩
  replace H : ((alloc_Share.f k a0 y374 (wrap64 (a2)) 0).bind fun bt377 => (if (t371.length : Int) = 1 then (if 0 < (t371.length : Int) then (if (rd t371 0) = (mn (ji7) a1_2) then (if (bt377.1.length : Int) = 1 then (if bt377.2 = 0 then (if 0 < (bt377.1.length : Int) then (if ((rd_T67 bt377.1 0).f1) = (wrap64 ((wrap64 ((wrap64 (Int.tdiv (mn (ji7) a1_2) 256)) * (ji9))) + (wrap64 (Int.tdiv (wrap64 ((Int.tmod (mn (ji7) a1_2) 256) * (ji9))) 256)))) then (if ((rd_T67 bt377.1 0).f0) = (wrap64 ((mn (ji7) a1_2) - ((rd_T67 bt377.1 0).f1))) then ((flywheellaw27_wakes.f k).bind fun t385 => (some t385)) else (some false)) else (some false)) else (none)) else (some false)) else (some false)) else (some false)) else (none)) else (some false))) = some r := by first | (rw [hy374]; with_reducible exact H) | (have H2_ := (Option.bind_some _ _).symm.trans H; rw [hy374]; with_reducible exact H2_) | (have H2_ := (Option.bind_some _ _).symm.trans H; with_reducible exact H2_) | with_reducible exact H | (rw [hy374]; exact H) | exact H
  have Ny374 := Aside0.mk hy374
  clear hy374
  replace H := Option.bind_eq_some_iff.mp H
  obtain ⟨⟨t377, t378⟩, A100, H⟩ := H
  replace H : (if (t371.length : Int) = 1 then (if 0 < (t371.length : Int) then (if (rd t371 0) = (mn (ji7) a1_2) then (if (t377.length : Int) = 1 then (if t378 = 0 then (if 0 < (t377.length : Int) then (if ((rd_T67 t377 0).f1) = (wrap64 ((wrap64 ((wrap64 (Int.tdiv (mn (ji7) a1_2) 256)) * (ji9))) + (wrap64 (Int.tdiv (wrap64 ((Int.tmod (mn (ji7) a1_2) 256) * (ji9))) 256)))) then (if ((rd_T67 t377 0).f0) = (wrap64 ((mn (ji7) a1_2) - ((rd_T67 t377 0).f1))) then ((flywheellaw27_wakes.f k).bind fun t385 => (some t385)) else (some false)) else (some false)) else (none)) else (some false)) else (some false)) else (some false)) else (none)) else (some false)) = some r := H
  have A10 := Aside0.mk A100
  clear A100
  obtain ⟨ji11, hji11⟩ : ∃ j_ : Int, (mn (ji7) a1_2) = j_ := ⟨_, rfl⟩
  replace H : (if (t371.length : Int) = 1 then (if 0 < (t371.length : Int) then (if (rd t371 0) = (ji11) then (if (t377.length : Int) = 1 then (if t378 = 0 then (if 0 < (t377.length : Int) then (if ((rd_T67 t377 0).f1) = (wrap64 ((wrap64 ((wrap64 (Int.tdiv (ji11) 256)) * (ji9))) + (wrap64 (Int.tdiv (wrap64 ((Int.tmod (ji11) 256) * (ji9))) 256)))) then (if ((rd_T67 t377 0).f0) = (wrap64 ((ji11) - ((rd_T67 t377 0).f1))) then ((flywheellaw27_wakes.f k).bind fun t385 => (some t385)) else (some false)) else (some false)) else (none)) else (some false)) else (some false)) else (some false)) else (none)) else (some false)) = some r := by first | (rw [hji11] at H; exact H) | (simp only [hji11] at H ⊢; exact H)
  (try rw [hji11] at A4)
  (try rw [hji11] at A8)
  (try rw [hji11] at A10)
  have hji11_ : (if a1_2 < (ji7) then a1_2 else (ji7)) = ji11 := hji11
  by_cases c12 : (t371.length : Int) = 1
  ·rw [if_pos c12] at H
   have c12b0 : ((t371.length : Int) == 1) = true := beq_iff_eq.mpr c12
   have c12b1 : ((t371.length : Int) != 1) = false := bne_eq_false_iff_eq.mpr c12
   clear c12
   by_cases c13 : 0 < (t371.length : Int)
   ·rw [if_pos c13] at H
    have c13b0 : decide (0 < (t371.length : Int)) = true := decide_eq_true c13
    have c13b1 : decide (0 < t371.length) = true := decide_eq_true (by omega)
    clear c13
    by_cases c14 : (rd t371 0) = (ji11)
    ·rw [if_pos c14] at H
     have c14b0 : ((rd t371 0) == (ji11)) = true := beq_iff_eq.mpr c14
     have c14b1 : ((rd t371 0) != (ji11)) = false := bne_eq_false_iff_eq.mpr c14
     clear c14
     by_cases c15 : (t377.length : Int) = 1
     ·rw [if_pos c15] at H
      have c15b0 : ((t377.length : Int) == 1) = true := beq_iff_eq.mpr c15
      have c15b1 : ((t377.length : Int) != 1) = false := bne_eq_false_iff_eq.mpr c15
      clear c15
      by_cases c16 : t378 = 0
      ·rw [if_pos c16] at H
       have c16b0 : (t378 == 0) = true := beq_iff_eq.mpr c16
       have c16b1 : (t378 != 0) = false := bne_eq_false_iff_eq.mpr c16
       clear c16
       by_cases c17 : 0 < (t377.length : Int)
       ·rw [if_pos c17] at H
        have c17b0 : decide (0 < (t377.length : Int)) = true := decide_eq_true c17
        have c17b1 : decide (0 < t377.length) = true := decide_eq_true (by omega)
        clear c17
        by_cases c18 : ((rd_T67 t377 0).f1) = (wrap64 ((wrap64 ((wrap64 (Int.tdiv (ji11) 256)) * (ji9))) + (wrap64 (Int.tdiv (wrap64 ((Int.tmod (ji11) 256) * (ji9))) 256))))
        ·rw [if_pos c18] at H
         have c18b0 : (((rd_T67 t377 0).f1) == (wrap64 ((wrap64 ((wrap64 (Int.tdiv (ji11) 256)) * (ji9))) + (wrap64 (Int.tdiv (wrap64 ((Int.tmod (ji11) 256) * (ji9))) 256))))) = true := beq_iff_eq.mpr c18
         have c18b1 : (((rd_T67 t377 0).f1) != (wrap64 ((wrap64 ((wrap64 (Int.tdiv (ji11) 256)) * (ji9))) + (wrap64 (Int.tdiv (wrap64 ((Int.tmod (ji11) 256) * (ji9))) 256))))) = false := bne_eq_false_iff_eq.mpr c18
         clear c18
         by_cases c19 : ((rd_T67 t377 0).f0) = (wrap64 ((ji11) - ((rd_T67 t377 0).f1)))
         ·rw [if_pos c19] at H
          have c19b0 : (((rd_T67 t377 0).f0) == (wrap64 ((ji11) - ((rd_T67 t377 0).f1)))) = true := beq_iff_eq.mpr c19
          have c19b1 : (((rd_T67 t377 0).f0) != (wrap64 ((ji11) - ((rd_T67 t377 0).f1)))) = false := bne_eq_false_iff_eq.mpr c19
          clear c19
          replace H := Option.bind_eq_some_iff.mp H
          obtain ⟨t385, A200, H⟩ := H
          replace H : (some t385) = some r := H
          have A20 := Aside0.mk A200
          clear A200
          obtain rfl := Option.some.inj H
          go_enter Try.func12, Try.ntmps12
          try go_wp2_with (first | ((with_reducible refine gate_dst (N := 4) rfl ?_); (try (refine gate_guard (by rfl) ?_; dsimp only)); refine box_event ?hg (N := 4) ?hd (cs := #[.int .i64 a1_0, .int .i64 a1_1, .int .i64 a1_2]) (t := 31) ?hr ?_; (case hd => rfl); (case hg => rfl); (case hr => first | (go_simp; done) | (go_simp; rfl)); intro gb363 hg w21 hbox hb; have n0_ := Aside0.mk (below_step (by repeat (first | (with_reducible first | exact HB.out | apply below_alloc | apply pw_below_drewN | apply below_drew1) | exact HB.out)) hb); have n1_ := Aside0.mk (hbox); have n2_ := Aside0.mk ((by rw [hg]; exact (below_size (by repeat (first | (with_reducible first | exact HB.out | apply below_alloc | apply pw_below_drewN | apply below_drew1) | exact HB.out))) : w.heap.size ≤ gb363)); have n3_ := Aside0.mk ((by rw [hg]; exact (below_size (by repeat (first | (with_reducible first | exact HB.out | apply below_alloc | apply pw_below_drewN | apply below_drew1) | exact HB.out))) : w.heap.size ≤ gb363)); clear HB; have HB := n0_; have BK363 := n1_; have GW363 := n2_; have GE363 := n3_; clear n0_ n1_ n2_ n3_; clear hb hbox hg; have hcz22_0 : w21.cell? ⟨gb363, 0, none⟩ = some (.int .i64 a1_0) := (blk_cell BK363.out 0).trans rfl; have hcz22_1 : w21.cell? ⟨gb363, 1, none⟩ = some (.int .i64 a1_1) := (blk_cell BK363.out 1).trans rfl; have hcz22_2 : w21.cell? ⟨gb363, 2, none⟩ = some (.int .i64 a1_2) := (blk_cell BK363.out 2).trans rfl; have hfz22_0 := blk_frozen BK363.out 0; have hfz22_1 := blk_frozen BK363.out 1; have hfz22_2 := blk_frozen BK363.out 2) | ((with_reducible refine gate_dst (N := 14) rfl ?_); (try (refine gate_guard (by rfl) ?_; dsimp only)); refine Kd.R_lit k31 _ 31 ?hg (N := 14) ?hd (xs := ([(⟨a1_0, a1_1, a1_2⟩ : S31)] : List (S31))) (inner := [.int .i64 a1_0, .int .i64 a1_1, .int .i64 a1_2]) (ok := fun _ => True) (okp := fun _ => True) ?hr ?hp (fun _ hk => hk) trivial (Below.refl _ _) (Nat.le_refl _) (by simp) ?_; (case hd => rfl); (case hg => rfl); (case hr => first | (go_simp; done) | (go_simp; rfl)); (case hp => exact (Reps.c3 (show Kd.M k31 _ _ _ (⟨a1_0, a1_1, a1_2⟩ : S31) [.int .i64 a1_0, .int .i64 a1_1, .int .i64 a1_2] from (k31_mkM _ _ _ (⟨a1_0, a1_1, a1_2⟩ : S31) )) (Reps.none _ _))); intro v365 w23 ho24 hb hg_ hnew_; clear hg_ hnew_; (first | rw [← Ny364.out] at ho24 | (simp only [Int.reduceToNat] at ho24; rw [← Ny364.out] at ho24)); have n0_ := Aside0.mk (Kd.R_lower (Kd.R_newB ho24 (g := gb363) (o := .cells #[.int .i64 a1_0, .int .i64 a1_1, .int .i64 a1_2] 31 (0, 0)) (by (with_reducible repeat (first | refine blk_drewN ?_ _ | refine blk_drew ?_ | refine blk_alloc ?_ _)); exact BK363.out)) (below_size (by repeat (first | (with_reducible first | exact HB.out | apply below_alloc | apply pw_below_drewN | apply below_drew1 | refine below_set ?_ GE363.out) | exact HB.out)))); have n1_ := Aside0.mk (blk_below (g := gb363) (o := .cells #[.int .i64 a1_0, .int .i64 a1_1, .int .i64 a1_2] 31 (0, 0)) (by (with_reducible repeat (first | refine blk_drewN ?_ _ | refine blk_drew ?_ | refine blk_alloc ?_ _)); exact BK363.out) hb); have n2_ := Aside0.mk (below_step (by repeat (first | (with_reducible first | exact HB.out | apply below_alloc | apply pw_below_drewN | apply below_drew1 | refine below_set ?_ GE363.out) | exact HB.out)) hb); clear BK363; clear HB; have HO366 := n0_; have BK363 := n1_; have HB := n2_; clear n0_ n1_ n2_; clear hb ho24; obtain ⟨Ao25, co25, eo25⟩ := Kd.R_slice HO366.out; subst eo25) | ((with_reducible refine gate_callee (f := 16) rfl ?_); refine goesL_ (some 15) rfl rfl Try.func16 (by kernel_rfl) rfl #[.slice Ao25 y364.length co25] rfl (by (try simp only [List.map_toArray, List.map_cons, List.map_nil]); first | done | rfl | (simp only [List.length_drop, List.length_take]; rfl)) ?_; (with_reducible refine (flywheelref27_Good.calls k _ _ y364 true _ ?side1 ?side2 A4.out).mono ?_); (case side1 => repeat (first | exact (Kd.R_reads' HO366.out).2.2 | (with_reducible refine Kd.C_alloc ?_ _) | (with_reducible refine Kd.C_drewN ?_ _) | (with_reducible refine Kd.C_drew ?_))); (case side2 => exact (Kd.R_reads' HO366.out).2.1); rintro e w' ⟨rfl, ⟨nd, rfl⟩⟩; refine ⟨_, rfl, ?_⟩; have hcz26_0 : w23.cell? ⟨gb363, 0, none⟩ = some (.int .i64 a1_0) := (blk_cell BK363.out 0).trans rfl; have hcz26_1 : w23.cell? ⟨gb363, 1, none⟩ = some (.int .i64 a1_1) := (blk_cell BK363.out 1).trans rfl; have hcz26_2 : w23.cell? ⟨gb363, 2, none⟩ = some (.int .i64 a1_2) := (blk_cell BK363.out 2).trans rfl; have hfz26_0 := blk_frozen BK363.out 0; have hfz26_1 := blk_frozen BK363.out 1; have hfz26_2 := blk_frozen BK363.out 2) | ((with_reducible refine gate_dst (N := 31) rfl ?_); (try (refine gate_guard (by rfl) ?_; dsimp only)); refine Kd.R_lit k31 _ 31 ?hg (N := 31) ?hd (xs := ([(⟨a1_0, a1_1, a1_2⟩ : S31)] : List (S31))) (inner := [.int .i64 a1_0, .int .i64 a1_1, .int .i64 a1_2]) (ok := fun _ => True) (okp := fun _ => True) ?hr ?hp (fun _ hk => hk) trivial (Below.refl _ _) (Nat.le_refl _) (by simp) ?_; (case hd => rfl); (case hg => rfl); (case hr => first | (go_simp; done) | (go_simp; rfl)); (case hp => exact (Reps.c3 (show Kd.M k31 _ _ _ (⟨a1_0, a1_1, a1_2⟩ : S31) [.int .i64 a1_0, .int .i64 a1_1, .int .i64 a1_2] from (k31_mkM _ _ _ (⟨a1_0, a1_1, a1_2⟩ : S31) )) (Reps.none _ _))); intro v369 w27 ho28 hb hg_ hnew_; clear hg_ hnew_; (first | rw [← Ny368.out] at ho28 | (simp only [Int.reduceToNat] at ho28; rw [← Ny368.out] at ho28)); have n0_ := Aside0.mk (Kd.R_elder' (by (with_reducible repeat (first | apply Kd.R_alloc | apply Kd.R_drewN | apply Kd.R_drew)); exact HO366.out) (Kd.R_base ho28) hb); have n1_ := Aside0.mk (Kd.R_lower (Kd.R_newB (Kd.R_new' ho28 (Kd.R_lt (by (with_reducible repeat (first | apply Kd.R_alloc | apply Kd.R_drewN | apply Kd.R_drew)); exact HO366.out))) (g := gb363) (o := .cells #[.int .i64 a1_0, .int .i64 a1_1, .int .i64 a1_2] 31 (0, 0)) (by (with_reducible repeat (first | refine blk_drewN ?_ _ | refine blk_drew ?_ | refine blk_alloc ?_ _)); exact BK363.out)) (below_size (by repeat (first | (with_reducible first | exact HB.out | apply below_alloc | apply pw_below_drewN | apply below_drew1 | refine below_set ?_ GE363.out) | exact HB.out)))); have n2_ := Aside0.mk (blk_below (g := gb363) (o := .cells #[.int .i64 a1_0, .int .i64 a1_1, .int .i64 a1_2] 31 (0, 0)) (by (with_reducible repeat (first | refine blk_drewN ?_ _ | refine blk_drew ?_ | refine blk_alloc ?_ _)); exact BK363.out) hb); have n3_ := Aside0.mk (below_step (by repeat (first | (with_reducible first | exact HB.out | apply below_alloc | apply pw_below_drewN | apply below_drew1 | refine below_set ?_ GE363.out) | exact HB.out)) hb); clear HO366; clear BK363; clear HB; have HO366 := n0_; have HO370 := n1_; have BK363 := n2_; have HB := n3_; clear n0_ n1_ n2_ n3_; clear hb ho28; obtain ⟨Ao29, co29, eo29⟩ := Kd.R_slice HO370.out; subst eo29) | ((with_reducible refine gate_callee (f := 18) rfl ?_); refine goesL_ (some 32) rfl rfl Try.func18 (by kernel_rfl) rfl #[.int .i64 a0, .slice Ao29 y368.length co29] rfl (by (try simp only [List.map_toArray, List.map_cons, List.map_nil]); first | done | rfl | (simp only [List.length_drop, List.length_take]; rfl)) ?_; (with_reducible refine (alloc_Split.calls k a0 _ _ y368 t371 _ ?side1 ?side2 A8.out).mono ?_); (case side1 => repeat (first | exact (Kd.R_reads' HO370.out).2.2 | (with_reducible refine Kd.C_alloc ?_ _) | (with_reducible refine Kd.C_drewN ?_ _) | (with_reducible refine Kd.C_drew ?_))); (case side2 => exact (Kd.R_reads' HO370.out).2.1); rintro e w30 ⟨v372, rfl, ho0, hb⟩; refine ⟨_, rfl, ?_⟩; have n0_ := Aside0.mk (Kd.R_below (by (with_reducible repeat (first | apply Kd.R_alloc | apply Kd.R_drewN | apply Kd.R_drew)); exact HO366.out) hb); have n1_ := Aside0.mk (Kd.R_below (by (with_reducible repeat (first | apply Kd.R_alloc | apply Kd.R_drewN | apply Kd.R_drew)); exact HO370.out) hb); have n2_ := Aside0.mk (Kd.R_lower ho0 (below_size (by repeat (first | (with_reducible first | exact HB.out | apply below_alloc | apply pw_below_drewN | apply below_drew1 | refine below_set ?_ GE363.out) | exact HB.out)))); have n3_ := Aside0.mk (blk_below (g := gb363) (o := .cells #[.int .i64 a1_0, .int .i64 a1_1, .int .i64 a1_2] 31 (0, 0)) (by (with_reducible repeat (first | refine blk_drewN ?_ _ | refine blk_drew ?_ | refine blk_alloc ?_ _)); exact BK363.out) hb); have n4_ := Aside0.mk (below_step (by repeat (first | (with_reducible first | exact HB.out | apply below_alloc | apply pw_below_drewN | apply below_drew1 | refine below_set ?_ GE363.out) | exact HB.out)) hb); clear HO366; clear HO370; clear BK363; clear HB; have HO366 := n0_; have HO370 := n1_; have HO373 := n2_; have BK363 := n3_; have HB := n4_; clear n0_ n1_ n2_ n3_ n4_; (try clear hb); (try clear hb2); (try clear hk); (try clear hi); (try clear ho0); have hcz31_0 : w30.cell? ⟨gb363, 0, none⟩ = some (.int .i64 a1_0) := (blk_cell BK363.out 0).trans rfl; have hcz31_1 : w30.cell? ⟨gb363, 1, none⟩ = some (.int .i64 a1_1) := (blk_cell BK363.out 1).trans rfl; have hcz31_2 : w30.cell? ⟨gb363, 2, none⟩ = some (.int .i64 a1_2) := (blk_cell BK363.out 2).trans rfl; have hfz31_0 := blk_frozen BK363.out 0; have hfz31_1 := blk_frozen BK363.out 1; have hfz31_2 := blk_frozen BK363.out 2) | ((with_reducible refine gate_dst (N := 39) rfl ?_); (try (refine gate_guard (by rfl) ?_; dsimp only)); refine Kd.R_lit k31 _ 31 ?hg (N := 39) ?hd (xs := ([(⟨a1_0, a1_1, a1_2⟩ : S31)] : List (S31))) (inner := [.int .i64 a1_0, .int .i64 a1_1, .int .i64 a1_2]) (ok := fun _ => True) (okp := fun _ => True) ?hr ?hp (fun _ hk => hk) trivial (Below.refl _ _) (Nat.le_refl _) (by simp) ?_; (case hd => rfl); (case hg => rfl); (case hr => first | (go_simp; done) | (go_simp; rfl)); (case hp => exact (Reps.c3 (show Kd.M k31 _ _ _ (⟨a1_0, a1_1, a1_2⟩ : S31) [.int .i64 a1_0, .int .i64 a1_1, .int .i64 a1_2] from (k31_mkM _ _ _ (⟨a1_0, a1_1, a1_2⟩ : S31) )) (Reps.none _ _))); intro v375 w32 ho33 hb hg_ hnew_; clear hg_ hnew_; (first | rw [← Ny374.out] at ho33 | (simp only [Int.reduceToNat] at ho33; rw [← Ny374.out] at ho33)); have n0_ := Aside0.mk (Kd.R_elder' (by (with_reducible repeat (first | apply Kd.R_alloc | apply Kd.R_drewN | apply Kd.R_drew)); exact HO366.out) (Kd.R_base ho33) hb); have n1_ := Aside0.mk (Kd.R_elder' (by (with_reducible repeat (first | apply Kd.R_alloc | apply Kd.R_drewN | apply Kd.R_drew)); exact HO370.out) (Kd.R_base ho33) hb); have n2_ := Aside0.mk (Kd.R_below (by (with_reducible repeat (first | apply Kd.R_alloc | apply Kd.R_drewN | apply Kd.R_drew)); exact HO373.out) hb); have n3_ := Aside0.mk (Kd.R_lower (Kd.R_newB (Kd.R_new' (Kd.R_new' ho33 (Kd.R_lt (by (with_reducible repeat (first | apply Kd.R_alloc | apply Kd.R_drewN | apply Kd.R_drew)); exact HO366.out))) (Kd.R_lt (by (with_reducible repeat (first | apply Kd.R_alloc | apply Kd.R_drewN | apply Kd.R_drew)); exact HO370.out))) (g := gb363) (o := .cells #[.int .i64 a1_0, .int .i64 a1_1, .int .i64 a1_2] 31 (0, 0)) (by (with_reducible repeat (first | refine blk_drewN ?_ _ | refine blk_drew ?_ | refine blk_alloc ?_ _)); exact BK363.out)) (below_size (by repeat (first | (with_reducible first | exact HB.out | apply below_alloc | apply pw_below_drewN | apply below_drew1 | refine below_set ?_ GE363.out) | exact HB.out)))); have n4_ := Aside0.mk (blk_below (g := gb363) (o := .cells #[.int .i64 a1_0, .int .i64 a1_1, .int .i64 a1_2] 31 (0, 0)) (by (with_reducible repeat (first | refine blk_drewN ?_ _ | refine blk_drew ?_ | refine blk_alloc ?_ _)); exact BK363.out) hb); have n5_ := Aside0.mk (below_step (by repeat (first | (with_reducible first | exact HB.out | apply below_alloc | apply pw_below_drewN | apply below_drew1 | refine below_set ?_ GE363.out) | exact HB.out)) hb); clear HO366; clear HO370; clear HO373; clear BK363; clear HB; have HO366 := n0_; have HO370 := n1_; have HO373 := n2_; have HO376 := n3_; have BK363 := n4_; have HB := n5_; clear n0_ n1_ n2_ n3_ n4_ n5_; clear hb ho33; obtain ⟨Ao34, co34, eo34⟩ := Kd.R_slice HO376.out; subst eo34) | ((with_reducible refine gate_callee (f := 36) rfl ?_); refine goesL_ (some 42) rfl rfl Try.func36 (by kernel_rfl) rfl #[.int .i64 a0, .slice Ao34 y374.length co34, .int .i64 (wrap64 (a2)), .int .i64 0] rfl (by (try simp only [List.map_toArray, List.map_cons, List.map_nil]); first | done | rfl | (simp only [List.length_drop, List.length_take]; rfl)) ?_; (with_reducible refine (alloc_Share.calls k a0 _ _ y374 (wrap64 (a2)) 0 t377 t378 _ ?side1 ?side2 A10.out).mono ?_); (case side1 => repeat (first | exact (Kd.R_reads' HO376.out).2.2 | (with_reducible refine Kd.C_alloc ?_ _) | (with_reducible refine Kd.C_drewN ?_ _) | (with_reducible refine Kd.C_drew ?_))); (case side2 => exact (Kd.R_reads' HO376.out).2.1); rintro e w35 ⟨v379, rfl, ho0, hb⟩; refine ⟨_, rfl, ?_⟩; have n0_ := Aside0.mk (Kd.R_below (by (with_reducible repeat (first | apply Kd.R_alloc | apply Kd.R_drewN | apply Kd.R_drew)); exact HO366.out) hb); have n1_ := Aside0.mk (Kd.R_below (by (with_reducible repeat (first | apply Kd.R_alloc | apply Kd.R_drewN | apply Kd.R_drew)); exact HO370.out) hb); have n2_ := Aside0.mk (Kd.R_below (by (with_reducible repeat (first | apply Kd.R_alloc | apply Kd.R_drewN | apply Kd.R_drew)); exact HO373.out) hb); have n3_ := Aside0.mk (Kd.R_below (by (with_reducible repeat (first | apply Kd.R_alloc | apply Kd.R_drewN | apply Kd.R_drew)); exact HO376.out) hb); have n4_ := Aside0.mk (Kd.R_lower ho0 (below_size (by repeat (first | (with_reducible first | exact HB.out | apply below_alloc | apply pw_below_drewN | apply below_drew1 | refine below_set ?_ GE363.out) | exact HB.out)))); have n5_ := Aside0.mk (blk_below (g := gb363) (o := .cells #[.int .i64 a1_0, .int .i64 a1_1, .int .i64 a1_2] 31 (0, 0)) (by (with_reducible repeat (first | refine blk_drewN ?_ _ | refine blk_drew ?_ | refine blk_alloc ?_ _)); exact BK363.out) hb); have n6_ := Aside0.mk (below_step (by repeat (first | (with_reducible first | exact HB.out | apply below_alloc | apply pw_below_drewN | apply below_drew1 | refine below_set ?_ GE363.out) | exact HB.out)) hb); clear HO366; clear HO370; clear HO373; clear HO376; clear BK363; clear HB; have HO366 := n0_; have HO370 := n1_; have HO373 := n2_; have HO376 := n3_; have HO380 := n4_; have BK363 := n5_; have HB := n6_; clear n0_ n1_ n2_ n3_ n4_ n5_ n6_; (try clear hb); (try clear hb2); (try clear hk); (try clear hi); (try clear ho0); have hcz36_0 : w35.cell? ⟨gb363, 0, none⟩ = some (.int .i64 a1_0) := (blk_cell BK363.out 0).trans rfl; have hcz36_1 : w35.cell? ⟨gb363, 1, none⟩ = some (.int .i64 a1_1) := (blk_cell BK363.out 1).trans rfl; have hcz36_2 : w35.cell? ⟨gb363, 2, none⟩ = some (.int .i64 a1_2) := (blk_cell BK363.out 2).trans rfl; have hfz36_0 := blk_frozen BK363.out 0; have hfz36_1 := blk_frozen BK363.out 1; have hfz36_2 := blk_frozen BK363.out 2))
          have n0_ := Aside0.mk (Kd.R_drew HO366.out)
          have n1_ := Aside0.mk (Kd.R_drew HO370.out)
          have n2_ := Aside0.mk (Kd.R_drew HO373.out)
          have n3_ := Aside0.mk (Kd.R_drew HO376.out)
          have n4_ := Aside0.mk (Kd.R_drew HO380.out)
          have n5_ := Aside0.mk (blk_drew BK363.out)
          have n6_ := Aside0.mk (below_drew1 HB.out)
          clear HO366
          clear HO370
          clear HO373
          clear HO376
          clear HO380
          clear BK363
          clear HB
          have HO366 := n0_
          have HO370 := n1_
          have HO373 := n2_
          have HO376 := n3_
          have HO380 := n4_
          have BK363 := n5_
          have HB := n6_
          clear n0_ n1_ n2_ n3_ n4_ n5_ n6_
          obtain ⟨Ao38, co38, eo38⟩ := Kd.R_slice HO373.out
          (first | subst eo38 | (injection eo38 with f1_ f2_ f3_; have f4_ := f1_.symm; have f5_ := f3_.symm; clear f1_ f2_ f3_; subst f4_; subst f5_))
          have p381 : 0 ≤ (0 : Int) := (by omega)
          have q381 : 0 < (t371.length : Int) := of_decide_eq_true (by first | (with_reducible assumption) | assumption)
          obtain ⟨ad381, e381, hx381_0⟩ := Kd.at_int (Kd.R_reads' HO373.out).2.2 0 p381 q381
          cases e381
          have qi381 : (0 < t371.length) = True := eq_true (by omega)
          (try rw [show ((0 : Int)).toNat = 0 from rfl] at hx381_0)
          (try rw [Addr.add_zero'] at hx381_0)
          replace p381 := eq_true p381
          replace q381 := eq_true q381
          obtain ⟨Ao39, co39, eo39⟩ := Kd.R_slice HO380.out
          (first | subst eo39 | (injection eo39 with f1_ f2_ f3_; have f4_ := f1_.symm; have f5_ := f3_.symm; clear f1_ f2_ f3_; subst f4_; subst f5_))
          have p382 : 0 ≤ (0 : Int) := (by omega)
          have q382 : 0 < (t377.length : Int) := of_decide_eq_true (by first | (with_reducible assumption) | assumption)
          obtain ⟨ad382, e382, hx382_0, hx382_1⟩ := at_T67 (Kd.R_reads' HO380.out).2.2 0 p382 q382
          cases e382
          have qi382 : (0 < t377.length) = True := eq_true (by omega)
          (try rw [show ((0 : Int)).toNat = 0 from rfl] at hx382_0)
          (try rw [show 0 * 2 = 0 from rfl] at hx382_0)
          (try rw [Addr.add_zero'] at hx382_0)
          (try rw [show ((0 : Int)).toNat = 0 from rfl] at hx382_1)
          (try rw [show 0 * 2 = 0 from rfl] at hx382_1)
          (try rw [Addr.add_zero'] at hx382_1)
          replace p382 := eq_true p382
          replace q382 := eq_true q382
          have p383 : 0 ≤ (0 : Int) := (by omega)
          have q383 : 0 < (t377.length : Int) := of_decide_eq_true (by first | (with_reducible assumption) | assumption)
          obtain ⟨ad383, e383, hx383_0, hx383_1⟩ := at_T67 (Kd.R_reads' HO380.out).2.2 0 p383 q383
          obtain rfl : ad382 = ad383 := (by injection e383)
          have qi383 : (0 < t377.length) = True := eq_true (by omega)
          (try rw [show ((0 : Int)).toNat = 0 from rfl] at hx383_0)
          (try rw [show 0 * 2 = 0 from rfl] at hx383_0)
          (try rw [Addr.add_zero'] at hx383_0)
          (try rw [show ((0 : Int)).toNat = 0 from rfl] at hx383_1)
          (try rw [show 0 * 2 = 0 from rfl] at hx383_1)
          (try rw [Addr.add_zero'] at hx383_1)
          replace p383 := eq_true p383
          replace q383 := eq_true q383
          have p384 : 0 ≤ (0 : Int) := (by omega)
          have q384 : 0 < (t377.length : Int) := of_decide_eq_true (by first | (with_reducible assumption) | assumption)
          obtain ⟨ad384, e384, hx384_0, hx384_1⟩ := at_T67 (Kd.R_reads' HO380.out).2.2 0 p384 q384
          obtain rfl : ad382 = ad384 := (by injection e384)
          have qi384 : (0 < t377.length) = True := eq_true (by omega)
          (try rw [show ((0 : Int)).toNat = 0 from rfl] at hx384_0)
          (try rw [show 0 * 2 = 0 from rfl] at hx384_0)
          (try rw [Addr.add_zero'] at hx384_0)
          (try rw [show ((0 : Int)).toNat = 0 from rfl] at hx384_1)
          (try rw [show 0 * 2 = 0 from rfl] at hx384_1)
          (try rw [Addr.add_zero'] at hx384_1)
          replace p384 := eq_true p384
          replace q384 := eq_true q384
          refine start_ (n := 53) (S := fun w' => w'.cell? ad381 = some (.int .i64 (rd t371 0)) ∧ w'.cell? ad382 = some (.int .i64 ((rd_T67 t377 0).f0)) ∧ w'.cell? ⟨ad382.block, ad382.off + 1, none⟩ = some (.int .i64 ((rd_T67 t377 0).f1)) ∧ w'.cell? ad382 = some (.int .i64 ((rd_T67 t377 0).f0)) ∧ w'.cell? ⟨ad382.block, ad382.off + 1, none⟩ = some (.int .i64 ((rd_T67 t377 0).f1)) ∧ w'.cell? ad382 = some (.int .i64 ((rd_T67 t377 0).f0)) ∧ w'.cell? ⟨ad382.block, ad382.off + 1, none⟩ = some (.int .i64 ((rd_T67 t377 0).f1))) (ds := []) #[false, false, false, false, false, false, false, false, false, false, false, false, false, false, false, false, false, false, false, false, false, false, false, false, false, false, false, false, false, false, false, false, false, false, false, false, false, false, false, false, false, false, false, false, false, false, false, false, false, false, false, false, false] (by kernel_rfl) rfl rfl ⟨hx381_0, hx382_0, hx382_1, hx383_0, hx383_1, hx384_0, hx384_1⟩ (fun hHeld => ?_); refine with_tabW flywheellaw27_AllocOne.tab8 flywheellaw27_AllocOne.bits8 (fun HT_ HW_ => ?_)
          generalize w35.drew = w37 at HO366 HO370 HO373 HO376 HO380 BK363 HB hx381_0 hx382_0 hx382_1 hx383_0 hx383_1 hx384_0 hx384_1 hHeld ⊢
          refine pure_ (i := 0) (N := some 49) (v := ?_) (a' := ?_) (bl 53 1) rfl rfl (any_of HT_.out (by kernel_rfl)) (fun _ _ _ h => h) (Or.inl ⟨by rfl, ?_⟩) ?_ ?_
          rotate_left
          ·intro w'
           go_simp
           with_reducible rfl
          rotate_left
          ·simp only [puts_]
           rfl
          refine pure_ (i := 1) (N := some 50) (v := ?_) (a' := ?_) (bl 53 3) rfl rfl (any_of HT_.out (by kernel_rfl)) (fun _ _ _ h => h) (Or.inl ⟨by rfl, ?_⟩) ?_ ?_
          rotate_left
          ·intro w'
           go_simp
           with_reducible rfl
          rotate_left
          ·simp only [puts_]
           rfl
          refine pure_ (i := 2) (N := some 51) (v := ?_) (a' := ?_) (bl 53 7) rfl rfl (any_of HT_.out (by kernel_rfl)) (fun _ _ _ h => h) (Or.inl ⟨by rfl, ?_⟩) ?_ ?_
          rotate_left
          ·intro w'
           go_simp
           with_reducible rfl
          rotate_left
          ·simp only [puts_]
           rfl
          refine pure_ (i := 3) (N := some 52) (v := ?_) (a' := ?_) (bl 53 15) rfl rfl (any_of HT_.out (by kernel_rfl)) (fun _ _ _ h => h) (Or.inl ⟨by rfl, ?_⟩) ?_ ?_
          rotate_left
          ·intro w'
           go_simp
           with_reducible rfl
          rotate_left
          ·simp only [puts_]
           rfl
          refine pure_ (i := 4) (N := some 53) (v := ?_) (a' := ?_) (bl 53 31) rfl rfl (any_of HT_.out (by kernel_rfl)) (fun _ _ _ h => h) (Or.inl ⟨by rfl, ?_⟩) ?_ ?_
          rotate_left
          ·intro w'
           go_simp
           with_reducible rfl
          rotate_left
          ·simp only [puts_]
           rfl
          refine pure_ (i := 5) (N := some 54) (v := ?_) (a' := ?_) (bl 53 63) rfl rfl (any_of HT_.out (by kernel_rfl)) (fun _ _ _ h => h) (Or.inl ⟨by rfl, ?_⟩) ?_ ?_
          rotate_left
          ·intro w'
           go_simp
           with_reducible rfl
          rotate_left
          ·simp only [puts_]
           rfl
          refine pure_ (i := 7) (N := some 56) (v := ?_) (a' := ?_) (bl 53 191) rfl rfl (any_of HT_.out (by kernel_rfl)) (fun _ _ _ h => h) (Or.inl ⟨by rfl, ?_⟩) ?_ ?_
          rotate_left
          ·intro w'
           go_simp
           with_reducible rfl
          rotate_left
          ·simp only [puts_]
           rfl
          refine take_ (i := 6) (N := some 55) (v := ?_) (a' := ?_) (bl 53 255) rfl rfl (take_ofW HT_.out HW_.out (by kernel_rfl)) (fun _ _ _ h => h) (Or.inl ⟨by rfl, ?_⟩) hHeld ?_ ?_
          rotate_left
          ·rintro w' ⟨s0, s1, s2, s3, s4, s5, s6⟩
           go_simp
           with_reducible rfl
          rotate_left
          ·simp only [puts_]
           rfl
          refine pure_ (i := 8) (N := some 57) (v := ?_) (a' := ?_) (bl 53 511) rfl rfl (any_of HT_.out (by kernel_rfl)) (fun _ _ _ h => h) (Or.inl ⟨by rfl, ?_⟩) ?_ ?_
          rotate_left
          ·intro w'
           go_simp
           with_reducible rfl
          rotate_left
          ·simp only [puts_]
           rfl
          refine pure_ (i := 9) (N := some 58) (v := ?_) (a' := ?_) (bl 53 1023) rfl rfl (any_of HT_.out (by kernel_rfl)) (fun _ _ _ h => h) (Or.inl ⟨by rfl, ?_⟩) ?_ ?_
          rotate_left
          ·intro w'
           go_simp
           with_reducible rfl
          rotate_left
          ·simp only [puts_]
           rfl
          refine pure_ (i := 10) (N := some 59) (v := ?_) (a' := ?_) (bl 53 2047) rfl rfl (any_of HT_.out (by kernel_rfl)) (fun _ _ _ h => h) (Or.inl ⟨by rfl, ?_⟩) ?_ ?_
          rotate_left
          ·intro w'
           go_simp
           with_reducible rfl
          rotate_left
          ·simp only [puts_]
           rfl
          refine pure_ (i := 11) (N := some 60) (v := ?_) (a' := ?_) (bl 53 4095) rfl rfl (any_of HT_.out (by kernel_rfl)) (fun _ _ _ h => h) (Or.inl ⟨by rfl, ?_⟩) ?_ ?_
          rotate_left
          ·intro w'
           go_simp
           with_reducible rfl
          rotate_left
          ·simp only [puts_]
           rfl
          refine pure_ (i := 12) (N := some 61) (v := ?_) (a' := ?_) (bl 53 8191) rfl rfl (any_of HT_.out (by kernel_rfl)) (fun _ _ _ h => h) (Or.inl ⟨by rfl, ?_⟩) ?_ ?_
          rotate_left
          ·intro w'
           go_simp
           with_reducible rfl
          rotate_left
          ·simp only [puts_]
           rfl
          refine pure_ (i := 13) (N := some 62) (v := ?_) (a' := ?_) (bl 53 16383) rfl rfl (any_of HT_.out (by kernel_rfl)) (fun _ _ _ h => h) (Or.inl ⟨by rfl, ?_⟩) ?_ ?_
          rotate_left
          ·intro w'
           go_simp
           with_reducible rfl
          rotate_left
          ·simp only [puts_]
           rfl
          refine pure_ (i := 14) (N := some 63) (v := ?_) (a' := ?_) (bl 53 32767) rfl rfl (any_of HT_.out (by kernel_rfl)) (fun _ _ _ h => h) (Or.inl ⟨by rfl, ?_⟩) ?_ ?_
          rotate_left
          ·intro w'
           go_simp
           with_reducible rfl
          rotate_left
          ·simp only [puts_]
           rfl
          refine pure_ (i := 15) (N := some 64) (v := ?_) (a' := ?_) (bl 53 65535) rfl rfl (any_of HT_.out (by kernel_rfl)) (fun _ _ _ h => h) (Or.inl ⟨by rfl, ?_⟩) ?_ ?_
          rotate_left
          ·intro w'
           go_simp
           with_reducible rfl
          rotate_left
          ·simp only [puts_]
           rfl
          refine pure_ (i := 16) (N := some 65) (v := ?_) (a' := ?_) (bl 53 131071) rfl rfl (any_of HT_.out (by kernel_rfl)) (fun _ _ _ h => h) (Or.inl ⟨by rfl, ?_⟩) ?_ ?_
          rotate_left
          ·intro w'
           go_simp
           with_reducible rfl
          rotate_left
          ·simp only [puts_]
           rfl
          refine pure_ (i := 17) (N := some 66) (v := ?_) (a' := ?_) (bl 53 262143) rfl rfl (any_of HT_.out (by kernel_rfl)) (fun _ _ _ h => h) (Or.inl ⟨by rfl, ?_⟩) ?_ ?_
          rotate_left
          ·intro w'
           go_simp
           with_reducible rfl
          rotate_left
          ·simp only [puts_]
           rfl
          refine pure_ (i := 18) (N := some 67) (v := ?_) (a' := ?_) (bl 53 524287) rfl rfl (any_of HT_.out (by kernel_rfl)) (fun _ _ _ h => h) (Or.inl ⟨by rfl, ?_⟩) ?_ ?_
          rotate_left
          ·intro w'
           go_simp
           with_reducible rfl
          rotate_left
          ·simp only [puts_]
           rfl
          refine pure_ (i := 19) (N := some 68) (v := ?_) (a' := ?_) (bl 53 1048575) rfl rfl (any_of HT_.out (by kernel_rfl)) (fun _ _ _ h => h) (Or.inl ⟨by rfl, ?_⟩) ?_ ?_
          rotate_left
          ·intro w'
           go_simp
           with_reducible rfl
          rotate_left
          ·simp only [puts_]
           rfl
          refine pure_ (i := 20) (N := some 69) (v := ?_) (a' := ?_) (bl 53 2097151) rfl rfl (any_of HT_.out (by kernel_rfl)) (fun _ _ _ h => h) (Or.inl ⟨by rfl, ?_⟩) ?_ ?_
          rotate_left
          ·intro w'
           go_simp
           with_reducible rfl
          rotate_left
          ·simp only [puts_]
           rfl
          refine pure_ (i := 21) (N := some 70) (v := ?_) (a' := ?_) (bl 53 4194303) rfl rfl (any_of HT_.out (by kernel_rfl)) (fun _ _ _ h => h) (Or.inl ⟨by rfl, ?_⟩) ?_ ?_
          rotate_left
          ·intro w'
           go_simp
           with_reducible rfl
          rotate_left
          ·simp only [puts_]
           rfl
          refine pure_ (i := 22) (N := some 71) (v := ?_) (a' := ?_) (bl 53 8388607) rfl rfl (any_of HT_.out (by kernel_rfl)) (fun _ _ _ h => h) (Or.inl ⟨by rfl, ?_⟩) ?_ ?_
          rotate_left
          ·intro w'
           go_simp
           with_reducible rfl
          rotate_left
          ·simp only [puts_]
           rfl
          refine pure_ (i := 24) (N := some 73) (v := ?_) (a' := ?_) (bl 53 25165823) rfl rfl (any_of HT_.out (by kernel_rfl)) (fun _ _ _ h => h) (Or.inl ⟨by rfl, ?_⟩) ?_ ?_
          rotate_left
          ·intro w'
           go_simp
           with_reducible rfl
          rotate_left
          ·simp only [puts_]
           rfl
          refine pure_ (i := 25) (N := some 74) (v := ?_) (a' := ?_) (bl 53 58720255) rfl rfl (any_of HT_.out (by kernel_rfl)) (fun _ _ _ h => h) (Or.inl ⟨by rfl, ?_⟩) ?_ ?_
          rotate_left
          ·intro w'
           go_simp
           with_reducible rfl
          rotate_left
          ·simp only [puts_]
           rfl
          refine pure_ (i := 26) (N := some 75) (v := ?_) (a' := ?_) (bl 53 125829119) rfl rfl (any_of HT_.out (by kernel_rfl)) (fun _ _ _ h => h) (Or.inl ⟨by rfl, ?_⟩) ?_ ?_
          rotate_left
          ·intro w'
           go_simp
           with_reducible rfl
          rotate_left
          ·simp only [puts_]
           rfl
          refine pure_ (i := 27) (N := some 76) (v := ?_) (a' := ?_) (bl 53 260046847) rfl rfl (any_of HT_.out (by kernel_rfl)) (fun _ _ _ h => h) (Or.inl ⟨by rfl, ?_⟩) ?_ ?_
          rotate_left
          ·intro w'
           go_simp
           with_reducible rfl
          rotate_left
          ·simp only [puts_]
           rfl
          refine pure_ (i := 28) (N := some 77) (v := ?_) (a' := ?_) (bl 53 528482303) rfl rfl (any_of HT_.out (by kernel_rfl)) (fun _ _ _ h => h) (Or.inl ⟨by rfl, ?_⟩) ?_ ?_
          rotate_left
          ·intro w'
           go_simp
           with_reducible rfl
          rotate_left
          ·simp only [puts_]
           rfl
          refine pure_ (i := 29) (N := some 78) (v := ?_) (a' := ?_) (bl 53 1065353215) rfl rfl (any_of HT_.out (by kernel_rfl)) (fun _ _ _ h => h) (Or.inl ⟨by rfl, ?_⟩) ?_ ?_
          rotate_left
          ·intro w'
           go_simp
           with_reducible rfl
          rotate_left
          ·simp only [puts_]
           rfl
          refine pure_ (i := 30) (N := some 79) (v := ?_) (a' := ?_) (bl 53 2139095039) rfl rfl (any_of HT_.out (by kernel_rfl)) (fun _ _ _ h => h) (Or.inl ⟨by rfl, ?_⟩) ?_ ?_
          rotate_left
          ·intro w'
           go_simp
           with_reducible rfl
          rotate_left
          ·simp only [puts_]
           rfl
          refine pure_ (i := 31) (N := some 80) (v := ?_) (a' := ?_) (bl 53 4286578687) rfl rfl (any_of HT_.out (by kernel_rfl)) (fun _ _ _ h => h) (Or.inl ⟨by rfl, ?_⟩) ?_ ?_
          rotate_left
          ·intro w'
           go_simp
           with_reducible rfl
          rotate_left
          ·simp only [puts_]
           rfl
          refine pure_ (i := 32) (N := some 81) (v := ?_) (a' := ?_) (bl 53 8581545983) rfl rfl (any_of HT_.out (by kernel_rfl)) (fun _ _ _ h => h) (Or.inl ⟨by rfl, ?_⟩) ?_ ?_
          rotate_left
          ·intro w'
           go_simp
           with_reducible rfl
          rotate_left
          ·simp only [puts_]
           rfl
          refine pure_ (i := 33) (N := some 82) (v := ?_) (a' := ?_) (bl 53 17171480575) rfl rfl (any_of HT_.out (by kernel_rfl)) (fun _ _ _ h => h) (Or.inl ⟨by rfl, ?_⟩) ?_ ?_
          rotate_left
          ·intro w'
           go_simp
           with_reducible rfl
          rotate_left
          ·simp only [puts_]
           rfl
          refine take_ (i := 23) (N := some 72) (v := ?_) (a' := ?_) (bl 53 17179869183) rfl rfl (take_ofW HT_.out HW_.out (by kernel_rfl)) (fun _ _ _ h => h) (Or.inl ⟨by rfl, ?_⟩) hHeld ?_ ?_
          rotate_left
          ·rintro w' ⟨s0, s1, s2, s3, s4, s5, s6⟩
           go_simp
           with_reducible rfl
          rotate_left
          ·simp only [puts_]
           rfl
          refine pure_ (i := 34) (N := some 83) (v := ?_) (a' := ?_) (bl 53 34359738367) rfl rfl (any_of HT_.out (by kernel_rfl)) (fun _ _ _ h => h) (Or.inl ⟨by rfl, ?_⟩) ?_ ?_
          rotate_left
          ·intro w'
           go_simp
           with_reducible rfl
          rotate_left
          ·simp only [puts_]
           rfl
          refine pure_ (i := 35) (N := some 84) (v := ?_) (a' := ?_) (bl 53 68719476735) rfl rfl (any_of HT_.out (by kernel_rfl)) (fun _ _ _ h => h) (Or.inl ⟨by rfl, ?_⟩) ?_ ?_
          rotate_left
          ·intro w'
           go_simp
           with_reducible rfl
          rotate_left
          ·simp only [puts_]
           rfl
          refine pure_ (i := 36) (N := some 85) (v := ?_) (a' := ?_) (bl 53 137438953471) rfl rfl (any_of HT_.out (by kernel_rfl)) (fun _ _ _ h => h) (Or.inl ⟨by rfl, ?_⟩) ?_ ?_
          rotate_left
          ·intro w'
           go_simp
           with_reducible rfl
          rotate_left
          ·simp only [puts_]
           rfl
          refine pure_ (i := 37) (N := some 86) (v := ?_) (a' := ?_) (bl 53 274877906943) rfl rfl (any_of HT_.out (by kernel_rfl)) (fun _ _ _ h => h) (Or.inl ⟨by rfl, ?_⟩) ?_ ?_
          rotate_left
          ·intro w'
           go_simp
           with_reducible rfl
          rotate_left
          ·simp only [puts_]
           rfl
          refine pure_ (i := 38) (N := some 87) (v := ?_) (a' := ?_) (bl 53 549755813887) rfl rfl (any_of HT_.out (by kernel_rfl)) (fun _ _ _ h => h) (Or.inl ⟨by rfl, ?_⟩) ?_ ?_
          rotate_left
          ·intro w'
           go_simp
           with_reducible rfl
          rotate_left
          ·simp only [puts_]
           rfl
          refine pure_ (i := 39) (N := some 88) (v := ?_) (a' := ?_) (bl 53 1099511627775) rfl rfl (any_of HT_.out (by kernel_rfl)) (fun _ _ _ h => h) (Or.inl ⟨by rfl, ?_⟩) ?_ ?_
          rotate_left
          ·intro w'
           go_simp
           with_reducible rfl
          rotate_left
          ·simp only [puts_]
           rfl
          refine pure_ (i := 41) (N := some 90) (v := ?_) (a' := ?_) (bl 53 3298534883327) rfl rfl (any_of HT_.out (by kernel_rfl)) (fun _ _ _ h => h) (Or.inl ⟨by rfl, ?_⟩) ?_ ?_
          rotate_left
          ·intro w'
           go_simp
           with_reducible rfl
          rotate_left
          ·simp only [puts_]
           rfl
          refine pure_ (i := 42) (N := some 91) (v := ?_) (a' := ?_) (bl 53 7696581394431) rfl rfl (any_of HT_.out (by kernel_rfl)) (fun _ _ _ h => h) (Or.inl ⟨by rfl, ?_⟩) ?_ ?_
          rotate_left
          ·intro w'
           go_simp
           with_reducible rfl
          rotate_left
          ·simp only [puts_]
           rfl
          refine pure_ (i := 43) (N := some 92) (v := ?_) (a' := ?_) (bl 53 16492674416639) rfl rfl (any_of HT_.out (by kernel_rfl)) (fun _ _ _ h => h) (Or.inl ⟨by rfl, ?_⟩) ?_ ?_
          rotate_left
          ·intro w'
           go_simp
           with_reducible rfl
          rotate_left
          ·simp only [puts_]
           rfl
          refine pure_ (i := 44) (N := some 93) (v := ?_) (a' := ?_) (bl 53 34084860461055) rfl rfl (any_of HT_.out (by kernel_rfl)) (fun _ _ _ h => h) (Or.inl ⟨by rfl, ?_⟩) ?_ ?_
          rotate_left
          ·intro w'
           go_simp
           with_reducible rfl
          rotate_left
          ·simp only [puts_]
           rfl
          refine take_ (i := 40) (N := some 89) (v := ?_) (a' := ?_) (bl 53 35184372088831) rfl rfl (take_ofW HT_.out HW_.out (by kernel_rfl)) (fun _ _ _ h => h) (Or.inl ⟨by rfl, ?_⟩) hHeld ?_ ?_
          rotate_left
          ·rintro w' ⟨s0, s1, s2, s3, s4, s5, s6⟩
           go_simp
           with_reducible rfl
          rotate_left
          ·simp only [puts_]
           rfl
          refine take_ (i := 45) (N := some 94) (v := ?_) (a' := ?_) (bl 53 70368744177663) rfl rfl (take_ofW HT_.out HW_.out (by kernel_rfl)) (fun _ _ _ h => h) (Or.inl ⟨by rfl, ?_⟩) hHeld ?_ ?_
          rotate_left
          ·rintro w' ⟨s0, s1, s2, s3, s4, s5, s6⟩
           go_simp
           with_reducible rfl
          rotate_left
          ·simp only [puts_]
           rfl
          refine pure_ (i := 46) (N := some 95) (v := ?_) (a' := ?_) (bl 53 140737488355327) rfl rfl (any_of HT_.out (by kernel_rfl)) (fun _ _ _ h => h) (Or.inl ⟨by rfl, ?_⟩) ?_ ?_
          rotate_left
          ·intro w'
           go_simp
           with_reducible rfl
          rotate_left
          ·simp only [puts_]
           rfl
          refine pure_ (i := 47) (N := some 96) (v := ?_) (a' := ?_) (bl 53 281474976710655) rfl rfl (any_of HT_.out (by kernel_rfl)) (fun _ _ _ h => h) (Or.inl ⟨by rfl, ?_⟩) ?_ ?_
          rotate_left
          ·intro w'
           go_simp
           with_reducible rfl
          rotate_left
          ·simp only [puts_]
           rfl
          refine pure_ (i := 48) (N := some 97) (v := ?_) (a' := ?_) (bl 53 562949953421311) rfl rfl (any_of HT_.out (by kernel_rfl)) (fun _ _ _ h => h) (Or.inl ⟨by rfl, ?_⟩) ?_ ?_
          rotate_left
          ·intro w'
           go_simp
           with_reducible rfl
          rotate_left
          ·simp only [puts_]
           rfl
          refine pure_ (i := 49) (N := some 98) (v := ?_) (a' := ?_) (bl 53 1125899906842623) rfl rfl (any_of HT_.out (by kernel_rfl)) (fun _ _ _ h => h) (Or.inl ⟨by rfl, ?_⟩) ?_ ?_
          rotate_left
          ·intro w'
           go_simp
           with_reducible rfl
          rotate_left
          ·simp only [puts_]
           rfl
          refine one_ (i := 50) (N := some 99) (bl 53 2251799813685247) rfl rfl (one_of HT_.out (by kernel_rfl)) (by decide) (fun K hK => ?_)
          refine goes_ Try.func13 (by kernel_rfl) rfl #[] (by rfl) rfl rfl (by (try simp only [List.map_toArray, List.map_cons, List.map_nil]); first | done | rfl | (simp only [List.length_drop, List.length_take]; rfl)) ?_
          with_reducible refine (flywheellaw27_wakes.calls k  t385 _ A20.out).mono ?_
          rintro e w40 ⟨rfl, hb⟩
          have HS0_ := (hb.cell (World.block_lt_of_cell? _ _ (hHeld.1))).trans (hHeld.1)
          have HS1_ := (hb.cell (World.block_lt_of_cell? _ _ (hHeld.2.1))).trans (hHeld.2.1)
          have HS2_ := (hb.cell (World.block_lt_of_cell? _ _ (hHeld.2.2.1))).trans (hHeld.2.2.1)
          have HS3_ := (hb.cell (World.block_lt_of_cell? _ _ (hHeld.2.2.2.1))).trans (hHeld.2.2.2.1)
          have HS4_ := (hb.cell (World.block_lt_of_cell? _ _ (hHeld.2.2.2.2.1))).trans (hHeld.2.2.2.2.1)
          have HS5_ := (hb.cell (World.block_lt_of_cell? _ _ (hHeld.2.2.2.2.2.1))).trans (hHeld.2.2.2.2.2.1)
          have HS6_ := (hb.cell (World.block_lt_of_cell? _ _ (hHeld.2.2.2.2.2.2))).trans (hHeld.2.2.2.2.2.2)
          refine ⟨_, rfl, ?_⟩
          have n0_ := Aside0.mk (Kd.R_below (by (with_reducible repeat (first | apply Kd.R_alloc | apply Kd.R_drewN | apply Kd.R_drew)); exact HO366.out) hb)
          have n1_ := Aside0.mk (Kd.R_below (by (with_reducible repeat (first | apply Kd.R_alloc | apply Kd.R_drewN | apply Kd.R_drew)); exact HO370.out) hb)
          have n2_ := Aside0.mk (Kd.R_below (by (with_reducible repeat (first | apply Kd.R_alloc | apply Kd.R_drewN | apply Kd.R_drew)); exact HO373.out) hb)
          have n3_ := Aside0.mk (Kd.R_below (by (with_reducible repeat (first | apply Kd.R_alloc | apply Kd.R_drewN | apply Kd.R_drew)); exact HO376.out) hb)
          have n4_ := Aside0.mk (Kd.R_below (by (with_reducible repeat (first | apply Kd.R_alloc | apply Kd.R_drewN | apply Kd.R_drew)); exact HO380.out) hb)
          have n5_ := Aside0.mk (blk_below (g := gb363) (o := .cells #[.int .i64 a1_0, .int .i64 a1_1, .int .i64 a1_2] 31 (0, 0)) (by (with_reducible repeat (first | refine blk_drewN ?_ _ | refine blk_drew ?_ | refine blk_alloc ?_ _)); exact BK363.out) hb)
          have n6_ := Aside0.mk (below_step (by repeat (first | (with_reducible first | exact HB.out | apply below_alloc | apply pw_below_drewN | apply below_drew1 | refine below_set ?_ GE363.out) | exact HB.out)) hb)
          clear HO366
          clear HO370
          clear HO373
          clear HO376
          clear HO380
          clear BK363
          clear HB
          have HO366 := n0_
          have HO370 := n1_
          have HO373 := n2_
          have HO376 := n3_
          have HO380 := n4_
          have BK363 := n5_
          have HB := n6_
          clear n0_ n1_ n2_ n3_ n4_ n5_ n6_
          (try clear hb)
          (try clear hb2)
          (try clear hk)
          (try clear hi)
          refine hK.out _ _ ⟨HS0_, HS1_, HS2_, HS3_, HS4_, HS5_, HS6_⟩ (fun hHeld => ?_)
          clear hK K
          refine norm_ (a' := ?_) ?_ ?_
          rotate_left
          ·show Act.put _ (some 99) _ = _
           simp only [puts_]
           rfl
          refine pure_ (i := 51) (N := some 100) (v := ?_) (a' := ?_) (bl 53 4503599627370495) rfl rfl (any_of HT_.out (by kernel_rfl)) (fun _ _ _ h => h) (Or.inl ⟨by rfl, ?_⟩) ?_ ?_
          rotate_left
          ·intro w'
           go_simp
           with_reducible rfl
          rotate_left
          ·simp only [puts_]
           rfl
          refine pure_ (i := 52) (N := some 6) (v := ?_) (a' := ?_) (bl 53 9007199254740991) rfl rfl (any_of HT_.out (by kernel_rfl)) (fun _ _ _ h => h) (Or.inl ⟨by rfl, ?_⟩) ?_ ?_
          rotate_left
          ·intro w'
           go_simp
           with_reducible rfl
          rotate_left
          ·simp only [puts_]
           rfl
          refine done_ (done_of HT_.out (by kernel_rfl)) ?_
          try go_wp2
          go_ret
          exact ⟨by first | rfl | (simp [errW_none, errW_some] <;> rfl) | (simp only [← hji6, ← hji7, ← hji9, ← hji11]; first | rfl | (simp [errW_none, errW_some] <;> rfl)) | (simp [*, errW_none, errW_some] <;> rfl), by repeat (first | (with_reducible first | exact HB.out | apply below_alloc | apply pw_below_drewN | apply below_drew1 | refine below_set ?_ GE363.out) | exact HB.out)⟩
         ·rw [if_neg c19] at H
          have c19b0 : (((rd_T67 t377 0).f0) == (wrap64 ((ji11) - ((rd_T67 t377 0).f1)))) = false := beq_eq_false_iff_ne.mpr c19
          have c19b1 : (((rd_T67 t377 0).f0) != (wrap64 ((ji11) - ((rd_T67 t377 0).f1)))) = true := bne_iff_ne.mpr c19
          obtain rfl := Option.some.inj H
          go_enter Try.func12, Try.ntmps12
          try go_wp2_with (first | ((with_reducible refine gate_dst (N := 4) rfl ?_); (try (refine gate_guard (by rfl) ?_; dsimp only)); refine box_event ?hg (N := 4) ?hd (cs := #[.int .i64 a1_0, .int .i64 a1_1, .int .i64 a1_2]) (t := 31) ?hr ?_; (case hd => rfl); (case hg => rfl); (case hr => first | (go_simp; done) | (go_simp; rfl)); intro gb363 hg w41 hbox hb; have n0_ := Aside0.mk (below_step (by repeat (first | (with_reducible first | exact HB.out | apply below_alloc | apply pw_below_drewN | apply below_drew1) | exact HB.out)) hb); have n1_ := Aside0.mk (hbox); have n2_ := Aside0.mk ((by rw [hg]; exact (below_size (by repeat (first | (with_reducible first | exact HB.out | apply below_alloc | apply pw_below_drewN | apply below_drew1) | exact HB.out))) : w.heap.size ≤ gb363)); have n3_ := Aside0.mk ((by rw [hg]; exact (below_size (by repeat (first | (with_reducible first | exact HB.out | apply below_alloc | apply pw_below_drewN | apply below_drew1) | exact HB.out))) : w.heap.size ≤ gb363)); clear HB; have HB := n0_; have BK363 := n1_; have GW363 := n2_; have GE363 := n3_; clear n0_ n1_ n2_ n3_; clear hb hbox hg; have hcz42_0 : w41.cell? ⟨gb363, 0, none⟩ = some (.int .i64 a1_0) := (blk_cell BK363.out 0).trans rfl; have hcz42_1 : w41.cell? ⟨gb363, 1, none⟩ = some (.int .i64 a1_1) := (blk_cell BK363.out 1).trans rfl; have hcz42_2 : w41.cell? ⟨gb363, 2, none⟩ = some (.int .i64 a1_2) := (blk_cell BK363.out 2).trans rfl; have hfz42_0 := blk_frozen BK363.out 0; have hfz42_1 := blk_frozen BK363.out 1; have hfz42_2 := blk_frozen BK363.out 2) | ((with_reducible refine gate_dst (N := 14) rfl ?_); (try (refine gate_guard (by rfl) ?_; dsimp only)); refine Kd.R_lit k31 _ 31 ?hg (N := 14) ?hd (xs := ([(⟨a1_0, a1_1, a1_2⟩ : S31)] : List (S31))) (inner := [.int .i64 a1_0, .int .i64 a1_1, .int .i64 a1_2]) (ok := fun _ => True) (okp := fun _ => True) ?hr ?hp (fun _ hk => hk) trivial (Below.refl _ _) (Nat.le_refl _) (by simp) ?_; (case hd => rfl); (case hg => rfl); (case hr => first | (go_simp; done) | (go_simp; rfl)); (case hp => exact (Reps.c3 (show Kd.M k31 _ _ _ (⟨a1_0, a1_1, a1_2⟩ : S31) [.int .i64 a1_0, .int .i64 a1_1, .int .i64 a1_2] from (k31_mkM _ _ _ (⟨a1_0, a1_1, a1_2⟩ : S31) )) (Reps.none _ _))); intro v365 w43 ho44 hb hg_ hnew_; clear hg_ hnew_; (first | rw [← Ny364.out] at ho44 | (simp only [Int.reduceToNat] at ho44; rw [← Ny364.out] at ho44)); have n0_ := Aside0.mk (Kd.R_lower (Kd.R_newB ho44 (g := gb363) (o := .cells #[.int .i64 a1_0, .int .i64 a1_1, .int .i64 a1_2] 31 (0, 0)) (by (with_reducible repeat (first | refine blk_drewN ?_ _ | refine blk_drew ?_ | refine blk_alloc ?_ _)); exact BK363.out)) (below_size (by repeat (first | (with_reducible first | exact HB.out | apply below_alloc | apply pw_below_drewN | apply below_drew1 | refine below_set ?_ GE363.out) | exact HB.out)))); have n1_ := Aside0.mk (blk_below (g := gb363) (o := .cells #[.int .i64 a1_0, .int .i64 a1_1, .int .i64 a1_2] 31 (0, 0)) (by (with_reducible repeat (first | refine blk_drewN ?_ _ | refine blk_drew ?_ | refine blk_alloc ?_ _)); exact BK363.out) hb); have n2_ := Aside0.mk (below_step (by repeat (first | (with_reducible first | exact HB.out | apply below_alloc | apply pw_below_drewN | apply below_drew1 | refine below_set ?_ GE363.out) | exact HB.out)) hb); clear BK363; clear HB; have HO366 := n0_; have BK363 := n1_; have HB := n2_; clear n0_ n1_ n2_; clear hb ho44; obtain ⟨Ao45, co45, eo45⟩ := Kd.R_slice HO366.out; subst eo45) | ((with_reducible refine gate_callee (f := 16) rfl ?_); refine goesL_ (some 15) rfl rfl Try.func16 (by kernel_rfl) rfl #[.slice Ao45 y364.length co45] rfl (by (try simp only [List.map_toArray, List.map_cons, List.map_nil]); first | done | rfl | (simp only [List.length_drop, List.length_take]; rfl)) ?_; (with_reducible refine (flywheelref27_Good.calls k _ _ y364 true _ ?side1 ?side2 A4.out).mono ?_); (case side1 => repeat (first | exact (Kd.R_reads' HO366.out).2.2 | (with_reducible refine Kd.C_alloc ?_ _) | (with_reducible refine Kd.C_drewN ?_ _) | (with_reducible refine Kd.C_drew ?_))); (case side2 => exact (Kd.R_reads' HO366.out).2.1); rintro e w' ⟨rfl, ⟨nd, rfl⟩⟩; refine ⟨_, rfl, ?_⟩; have hcz46_0 : w43.cell? ⟨gb363, 0, none⟩ = some (.int .i64 a1_0) := (blk_cell BK363.out 0).trans rfl; have hcz46_1 : w43.cell? ⟨gb363, 1, none⟩ = some (.int .i64 a1_1) := (blk_cell BK363.out 1).trans rfl; have hcz46_2 : w43.cell? ⟨gb363, 2, none⟩ = some (.int .i64 a1_2) := (blk_cell BK363.out 2).trans rfl; have hfz46_0 := blk_frozen BK363.out 0; have hfz46_1 := blk_frozen BK363.out 1; have hfz46_2 := blk_frozen BK363.out 2) | ((with_reducible refine gate_dst (N := 31) rfl ?_); (try (refine gate_guard (by rfl) ?_; dsimp only)); refine Kd.R_lit k31 _ 31 ?hg (N := 31) ?hd (xs := ([(⟨a1_0, a1_1, a1_2⟩ : S31)] : List (S31))) (inner := [.int .i64 a1_0, .int .i64 a1_1, .int .i64 a1_2]) (ok := fun _ => True) (okp := fun _ => True) ?hr ?hp (fun _ hk => hk) trivial (Below.refl _ _) (Nat.le_refl _) (by simp) ?_; (case hd => rfl); (case hg => rfl); (case hr => first | (go_simp; done) | (go_simp; rfl)); (case hp => exact (Reps.c3 (show Kd.M k31 _ _ _ (⟨a1_0, a1_1, a1_2⟩ : S31) [.int .i64 a1_0, .int .i64 a1_1, .int .i64 a1_2] from (k31_mkM _ _ _ (⟨a1_0, a1_1, a1_2⟩ : S31) )) (Reps.none _ _))); intro v369 w47 ho48 hb hg_ hnew_; clear hg_ hnew_; (first | rw [← Ny368.out] at ho48 | (simp only [Int.reduceToNat] at ho48; rw [← Ny368.out] at ho48)); have n0_ := Aside0.mk (Kd.R_elder' (by (with_reducible repeat (first | apply Kd.R_alloc | apply Kd.R_drewN | apply Kd.R_drew)); exact HO366.out) (Kd.R_base ho48) hb); have n1_ := Aside0.mk (Kd.R_lower (Kd.R_newB (Kd.R_new' ho48 (Kd.R_lt (by (with_reducible repeat (first | apply Kd.R_alloc | apply Kd.R_drewN | apply Kd.R_drew)); exact HO366.out))) (g := gb363) (o := .cells #[.int .i64 a1_0, .int .i64 a1_1, .int .i64 a1_2] 31 (0, 0)) (by (with_reducible repeat (first | refine blk_drewN ?_ _ | refine blk_drew ?_ | refine blk_alloc ?_ _)); exact BK363.out)) (below_size (by repeat (first | (with_reducible first | exact HB.out | apply below_alloc | apply pw_below_drewN | apply below_drew1 | refine below_set ?_ GE363.out) | exact HB.out)))); have n2_ := Aside0.mk (blk_below (g := gb363) (o := .cells #[.int .i64 a1_0, .int .i64 a1_1, .int .i64 a1_2] 31 (0, 0)) (by (with_reducible repeat (first | refine blk_drewN ?_ _ | refine blk_drew ?_ | refine blk_alloc ?_ _)); exact BK363.out) hb); have n3_ := Aside0.mk (below_step (by repeat (first | (with_reducible first | exact HB.out | apply below_alloc | apply pw_below_drewN | apply below_drew1 | refine below_set ?_ GE363.out) | exact HB.out)) hb); clear HO366; clear BK363; clear HB; have HO366 := n0_; have HO370 := n1_; have BK363 := n2_; have HB := n3_; clear n0_ n1_ n2_ n3_; clear hb ho48; obtain ⟨Ao49, co49, eo49⟩ := Kd.R_slice HO370.out; subst eo49) | ((with_reducible refine gate_callee (f := 18) rfl ?_); refine goesL_ (some 32) rfl rfl Try.func18 (by kernel_rfl) rfl #[.int .i64 a0, .slice Ao49 y368.length co49] rfl (by (try simp only [List.map_toArray, List.map_cons, List.map_nil]); first | done | rfl | (simp only [List.length_drop, List.length_take]; rfl)) ?_; (with_reducible refine (alloc_Split.calls k a0 _ _ y368 t371 _ ?side1 ?side2 A8.out).mono ?_); (case side1 => repeat (first | exact (Kd.R_reads' HO370.out).2.2 | (with_reducible refine Kd.C_alloc ?_ _) | (with_reducible refine Kd.C_drewN ?_ _) | (with_reducible refine Kd.C_drew ?_))); (case side2 => exact (Kd.R_reads' HO370.out).2.1); rintro e w50 ⟨v372, rfl, ho0, hb⟩; refine ⟨_, rfl, ?_⟩; have n0_ := Aside0.mk (Kd.R_below (by (with_reducible repeat (first | apply Kd.R_alloc | apply Kd.R_drewN | apply Kd.R_drew)); exact HO366.out) hb); have n1_ := Aside0.mk (Kd.R_below (by (with_reducible repeat (first | apply Kd.R_alloc | apply Kd.R_drewN | apply Kd.R_drew)); exact HO370.out) hb); have n2_ := Aside0.mk (Kd.R_lower ho0 (below_size (by repeat (first | (with_reducible first | exact HB.out | apply below_alloc | apply pw_below_drewN | apply below_drew1 | refine below_set ?_ GE363.out) | exact HB.out)))); have n3_ := Aside0.mk (blk_below (g := gb363) (o := .cells #[.int .i64 a1_0, .int .i64 a1_1, .int .i64 a1_2] 31 (0, 0)) (by (with_reducible repeat (first | refine blk_drewN ?_ _ | refine blk_drew ?_ | refine blk_alloc ?_ _)); exact BK363.out) hb); have n4_ := Aside0.mk (below_step (by repeat (first | (with_reducible first | exact HB.out | apply below_alloc | apply pw_below_drewN | apply below_drew1 | refine below_set ?_ GE363.out) | exact HB.out)) hb); clear HO366; clear HO370; clear BK363; clear HB; have HO366 := n0_; have HO370 := n1_; have HO373 := n2_; have BK363 := n3_; have HB := n4_; clear n0_ n1_ n2_ n3_ n4_; (try clear hb); (try clear hb2); (try clear hk); (try clear hi); (try clear ho0); have hcz51_0 : w50.cell? ⟨gb363, 0, none⟩ = some (.int .i64 a1_0) := (blk_cell BK363.out 0).trans rfl; have hcz51_1 : w50.cell? ⟨gb363, 1, none⟩ = some (.int .i64 a1_1) := (blk_cell BK363.out 1).trans rfl; have hcz51_2 : w50.cell? ⟨gb363, 2, none⟩ = some (.int .i64 a1_2) := (blk_cell BK363.out 2).trans rfl; have hfz51_0 := blk_frozen BK363.out 0; have hfz51_1 := blk_frozen BK363.out 1; have hfz51_2 := blk_frozen BK363.out 2) | ((with_reducible refine gate_dst (N := 39) rfl ?_); (try (refine gate_guard (by rfl) ?_; dsimp only)); refine Kd.R_lit k31 _ 31 ?hg (N := 39) ?hd (xs := ([(⟨a1_0, a1_1, a1_2⟩ : S31)] : List (S31))) (inner := [.int .i64 a1_0, .int .i64 a1_1, .int .i64 a1_2]) (ok := fun _ => True) (okp := fun _ => True) ?hr ?hp (fun _ hk => hk) trivial (Below.refl _ _) (Nat.le_refl _) (by simp) ?_; (case hd => rfl); (case hg => rfl); (case hr => first | (go_simp; done) | (go_simp; rfl)); (case hp => exact (Reps.c3 (show Kd.M k31 _ _ _ (⟨a1_0, a1_1, a1_2⟩ : S31) [.int .i64 a1_0, .int .i64 a1_1, .int .i64 a1_2] from (k31_mkM _ _ _ (⟨a1_0, a1_1, a1_2⟩ : S31) )) (Reps.none _ _))); intro v375 w52 ho53 hb hg_ hnew_; clear hg_ hnew_; (first | rw [← Ny374.out] at ho53 | (simp only [Int.reduceToNat] at ho53; rw [← Ny374.out] at ho53)); have n0_ := Aside0.mk (Kd.R_elder' (by (with_reducible repeat (first | apply Kd.R_alloc | apply Kd.R_drewN | apply Kd.R_drew)); exact HO366.out) (Kd.R_base ho53) hb); have n1_ := Aside0.mk (Kd.R_elder' (by (with_reducible repeat (first | apply Kd.R_alloc | apply Kd.R_drewN | apply Kd.R_drew)); exact HO370.out) (Kd.R_base ho53) hb); have n2_ := Aside0.mk (Kd.R_below (by (with_reducible repeat (first | apply Kd.R_alloc | apply Kd.R_drewN | apply Kd.R_drew)); exact HO373.out) hb); have n3_ := Aside0.mk (Kd.R_lower (Kd.R_newB (Kd.R_new' (Kd.R_new' ho53 (Kd.R_lt (by (with_reducible repeat (first | apply Kd.R_alloc | apply Kd.R_drewN | apply Kd.R_drew)); exact HO366.out))) (Kd.R_lt (by (with_reducible repeat (first | apply Kd.R_alloc | apply Kd.R_drewN | apply Kd.R_drew)); exact HO370.out))) (g := gb363) (o := .cells #[.int .i64 a1_0, .int .i64 a1_1, .int .i64 a1_2] 31 (0, 0)) (by (with_reducible repeat (first | refine blk_drewN ?_ _ | refine blk_drew ?_ | refine blk_alloc ?_ _)); exact BK363.out)) (below_size (by repeat (first | (with_reducible first | exact HB.out | apply below_alloc | apply pw_below_drewN | apply below_drew1 | refine below_set ?_ GE363.out) | exact HB.out)))); have n4_ := Aside0.mk (blk_below (g := gb363) (o := .cells #[.int .i64 a1_0, .int .i64 a1_1, .int .i64 a1_2] 31 (0, 0)) (by (with_reducible repeat (first | refine blk_drewN ?_ _ | refine blk_drew ?_ | refine blk_alloc ?_ _)); exact BK363.out) hb); have n5_ := Aside0.mk (below_step (by repeat (first | (with_reducible first | exact HB.out | apply below_alloc | apply pw_below_drewN | apply below_drew1 | refine below_set ?_ GE363.out) | exact HB.out)) hb); clear HO366; clear HO370; clear HO373; clear BK363; clear HB; have HO366 := n0_; have HO370 := n1_; have HO373 := n2_; have HO376 := n3_; have BK363 := n4_; have HB := n5_; clear n0_ n1_ n2_ n3_ n4_ n5_; clear hb ho53; obtain ⟨Ao54, co54, eo54⟩ := Kd.R_slice HO376.out; subst eo54) | ((with_reducible refine gate_callee (f := 36) rfl ?_); refine goesL_ (some 42) rfl rfl Try.func36 (by kernel_rfl) rfl #[.int .i64 a0, .slice Ao54 y374.length co54, .int .i64 (wrap64 (a2)), .int .i64 0] rfl (by (try simp only [List.map_toArray, List.map_cons, List.map_nil]); first | done | rfl | (simp only [List.length_drop, List.length_take]; rfl)) ?_; (with_reducible refine (alloc_Share.calls k a0 _ _ y374 (wrap64 (a2)) 0 t377 t378 _ ?side1 ?side2 A10.out).mono ?_); (case side1 => repeat (first | exact (Kd.R_reads' HO376.out).2.2 | (with_reducible refine Kd.C_alloc ?_ _) | (with_reducible refine Kd.C_drewN ?_ _) | (with_reducible refine Kd.C_drew ?_))); (case side2 => exact (Kd.R_reads' HO376.out).2.1); rintro e w55 ⟨v379, rfl, ho0, hb⟩; refine ⟨_, rfl, ?_⟩; have n0_ := Aside0.mk (Kd.R_below (by (with_reducible repeat (first | apply Kd.R_alloc | apply Kd.R_drewN | apply Kd.R_drew)); exact HO366.out) hb); have n1_ := Aside0.mk (Kd.R_below (by (with_reducible repeat (first | apply Kd.R_alloc | apply Kd.R_drewN | apply Kd.R_drew)); exact HO370.out) hb); have n2_ := Aside0.mk (Kd.R_below (by (with_reducible repeat (first | apply Kd.R_alloc | apply Kd.R_drewN | apply Kd.R_drew)); exact HO373.out) hb); have n3_ := Aside0.mk (Kd.R_below (by (with_reducible repeat (first | apply Kd.R_alloc | apply Kd.R_drewN | apply Kd.R_drew)); exact HO376.out) hb); have n4_ := Aside0.mk (Kd.R_lower ho0 (below_size (by repeat (first | (with_reducible first | exact HB.out | apply below_alloc | apply pw_below_drewN | apply below_drew1 | refine below_set ?_ GE363.out) | exact HB.out)))); have n5_ := Aside0.mk (blk_below (g := gb363) (o := .cells #[.int .i64 a1_0, .int .i64 a1_1, .int .i64 a1_2] 31 (0, 0)) (by (with_reducible repeat (first | refine blk_drewN ?_ _ | refine blk_drew ?_ | refine blk_alloc ?_ _)); exact BK363.out) hb); have n6_ := Aside0.mk (below_step (by repeat (first | (with_reducible first | exact HB.out | apply below_alloc | apply pw_below_drewN | apply below_drew1 | refine below_set ?_ GE363.out) | exact HB.out)) hb); clear HO366; clear HO370; clear HO373; clear HO376; clear BK363; clear HB; have HO366 := n0_; have HO370 := n1_; have HO373 := n2_; have HO376 := n3_; have HO380 := n4_; have BK363 := n5_; have HB := n6_; clear n0_ n1_ n2_ n3_ n4_ n5_ n6_; (try clear hb); (try clear hb2); (try clear hk); (try clear hi); (try clear ho0); have hcz56_0 : w55.cell? ⟨gb363, 0, none⟩ = some (.int .i64 a1_0) := (blk_cell BK363.out 0).trans rfl; have hcz56_1 : w55.cell? ⟨gb363, 1, none⟩ = some (.int .i64 a1_1) := (blk_cell BK363.out 1).trans rfl; have hcz56_2 : w55.cell? ⟨gb363, 2, none⟩ = some (.int .i64 a1_2) := (blk_cell BK363.out 2).trans rfl; have hfz56_0 := blk_frozen BK363.out 0; have hfz56_1 := blk_frozen BK363.out 1; have hfz56_2 := blk_frozen BK363.out 2))
          have n0_ := Aside0.mk (Kd.R_drew HO366.out)
          have n1_ := Aside0.mk (Kd.R_drew HO370.out)
          have n2_ := Aside0.mk (Kd.R_drew HO373.out)
          have n3_ := Aside0.mk (Kd.R_drew HO376.out)
          have n4_ := Aside0.mk (Kd.R_drew HO380.out)
          have n5_ := Aside0.mk (blk_drew BK363.out)
          have n6_ := Aside0.mk (below_drew1 HB.out)
          clear HO366
          clear HO370
          clear HO373
          clear HO376
          clear HO380
          clear BK363
          clear HB
          have HO366 := n0_
          have HO370 := n1_
          have HO373 := n2_
          have HO376 := n3_
          have HO380 := n4_
          have BK363 := n5_
          have HB := n6_
          clear n0_ n1_ n2_ n3_ n4_ n5_ n6_
          obtain ⟨Ao58, co58, eo58⟩ := Kd.R_slice HO373.out
          (first | subst eo58 | (injection eo58 with f1_ f2_ f3_; have f4_ := f1_.symm; have f5_ := f3_.symm; clear f1_ f2_ f3_; subst f4_; subst f5_))
          have p381 : 0 ≤ (0 : Int) := (by omega)
          have q381 : 0 < (t371.length : Int) := of_decide_eq_true (by first | (with_reducible assumption) | assumption)
          obtain ⟨ad381, e381, hx381_0⟩ := Kd.at_int (Kd.R_reads' HO373.out).2.2 0 p381 q381
          cases e381
          have qi381 : (0 < t371.length) = True := eq_true (by omega)
          (try rw [show ((0 : Int)).toNat = 0 from rfl] at hx381_0)
          (try rw [Addr.add_zero'] at hx381_0)
          replace p381 := eq_true p381
          replace q381 := eq_true q381
          obtain ⟨Ao59, co59, eo59⟩ := Kd.R_slice HO380.out
          (first | subst eo59 | (injection eo59 with f1_ f2_ f3_; have f4_ := f1_.symm; have f5_ := f3_.symm; clear f1_ f2_ f3_; subst f4_; subst f5_))
          have p382 : 0 ≤ (0 : Int) := (by omega)
          have q382 : 0 < (t377.length : Int) := of_decide_eq_true (by first | (with_reducible assumption) | assumption)
          obtain ⟨ad382, e382, hx382_0, hx382_1⟩ := at_T67 (Kd.R_reads' HO380.out).2.2 0 p382 q382
          cases e382
          have qi382 : (0 < t377.length) = True := eq_true (by omega)
          (try rw [show ((0 : Int)).toNat = 0 from rfl] at hx382_0)
          (try rw [show 0 * 2 = 0 from rfl] at hx382_0)
          (try rw [Addr.add_zero'] at hx382_0)
          (try rw [show ((0 : Int)).toNat = 0 from rfl] at hx382_1)
          (try rw [show 0 * 2 = 0 from rfl] at hx382_1)
          (try rw [Addr.add_zero'] at hx382_1)
          replace p382 := eq_true p382
          replace q382 := eq_true q382
          have p383 : 0 ≤ (0 : Int) := (by omega)
          have q383 : 0 < (t377.length : Int) := of_decide_eq_true (by first | (with_reducible assumption) | assumption)
          obtain ⟨ad383, e383, hx383_0, hx383_1⟩ := at_T67 (Kd.R_reads' HO380.out).2.2 0 p383 q383
          obtain rfl : ad382 = ad383 := (by injection e383)
          have qi383 : (0 < t377.length) = True := eq_true (by omega)
          (try rw [show ((0 : Int)).toNat = 0 from rfl] at hx383_0)
          (try rw [show 0 * 2 = 0 from rfl] at hx383_0)
          (try rw [Addr.add_zero'] at hx383_0)
          (try rw [show ((0 : Int)).toNat = 0 from rfl] at hx383_1)
          (try rw [show 0 * 2 = 0 from rfl] at hx383_1)
          (try rw [Addr.add_zero'] at hx383_1)
          replace p383 := eq_true p383
          replace q383 := eq_true q383
          have p384 : 0 ≤ (0 : Int) := (by omega)
          have q384 : 0 < (t377.length : Int) := of_decide_eq_true (by first | (with_reducible assumption) | assumption)
          obtain ⟨ad384, e384, hx384_0, hx384_1⟩ := at_T67 (Kd.R_reads' HO380.out).2.2 0 p384 q384
          obtain rfl : ad382 = ad384 := (by injection e384)
          have qi384 : (0 < t377.length) = True := eq_true (by omega)
          (try rw [show ((0 : Int)).toNat = 0 from rfl] at hx384_0)
          (try rw [show 0 * 2 = 0 from rfl] at hx384_0)
          (try rw [Addr.add_zero'] at hx384_0)
          (try rw [show ((0 : Int)).toNat = 0 from rfl] at hx384_1)
          (try rw [show 0 * 2 = 0 from rfl] at hx384_1)
          (try rw [Addr.add_zero'] at hx384_1)
          replace p384 := eq_true p384
          replace q384 := eq_true q384
          refine start_ (n := 53) (S := fun w' => w'.cell? ad381 = some (.int .i64 (rd t371 0)) ∧ w'.cell? ad382 = some (.int .i64 ((rd_T67 t377 0).f0)) ∧ w'.cell? ⟨ad382.block, ad382.off + 1, none⟩ = some (.int .i64 ((rd_T67 t377 0).f1)) ∧ w'.cell? ad382 = some (.int .i64 ((rd_T67 t377 0).f0)) ∧ w'.cell? ⟨ad382.block, ad382.off + 1, none⟩ = some (.int .i64 ((rd_T67 t377 0).f1)) ∧ w'.cell? ad382 = some (.int .i64 ((rd_T67 t377 0).f0)) ∧ w'.cell? ⟨ad382.block, ad382.off + 1, none⟩ = some (.int .i64 ((rd_T67 t377 0).f1))) (ds := []) #[false, false, false, false, false, false, false, false, false, false, false, false, false, false, false, false, false, false, false, false, false, false, false, false, false, false, false, false, false, false, false, false, false, false, false, false, false, false, false, false, false, false, false, false, false, false, false, false, false, false, false, false, false] (by kernel_rfl) rfl rfl ⟨hx381_0, hx382_0, hx382_1, hx383_0, hx383_1, hx384_0, hx384_1⟩ (fun hHeld => ?_); refine with_tabW flywheellaw27_AllocOne.tab8 flywheellaw27_AllocOne.bits8 (fun HT_ HW_ => ?_)
          generalize w55.drew = w57 at HO366 HO370 HO373 HO376 HO380 BK363 HB hx381_0 hx382_0 hx382_1 hx383_0 hx383_1 hx384_0 hx384_1 hHeld ⊢
          refine pure_ (i := 0) (N := some 49) (v := ?_) (a' := ?_) (bl 53 1) rfl rfl (any_of HT_.out (by kernel_rfl)) (fun _ _ _ h => h) (Or.inl ⟨by rfl, ?_⟩) ?_ ?_
          rotate_left
          ·intro w'
           go_simp
           with_reducible rfl
          rotate_left
          ·simp only [puts_]
           rfl
          refine pure_ (i := 1) (N := some 50) (v := ?_) (a' := ?_) (bl 53 3) rfl rfl (any_of HT_.out (by kernel_rfl)) (fun _ _ _ h => h) (Or.inl ⟨by rfl, ?_⟩) ?_ ?_
          rotate_left
          ·intro w'
           go_simp
           with_reducible rfl
          rotate_left
          ·simp only [puts_]
           rfl
          refine pure_ (i := 2) (N := some 51) (v := ?_) (a' := ?_) (bl 53 7) rfl rfl (any_of HT_.out (by kernel_rfl)) (fun _ _ _ h => h) (Or.inl ⟨by rfl, ?_⟩) ?_ ?_
          rotate_left
          ·intro w'
           go_simp
           with_reducible rfl
          rotate_left
          ·simp only [puts_]
           rfl
          refine pure_ (i := 3) (N := some 52) (v := ?_) (a' := ?_) (bl 53 15) rfl rfl (any_of HT_.out (by kernel_rfl)) (fun _ _ _ h => h) (Or.inl ⟨by rfl, ?_⟩) ?_ ?_
          rotate_left
          ·intro w'
           go_simp
           with_reducible rfl
          rotate_left
          ·simp only [puts_]
           rfl
          refine pure_ (i := 4) (N := some 53) (v := ?_) (a' := ?_) (bl 53 31) rfl rfl (any_of HT_.out (by kernel_rfl)) (fun _ _ _ h => h) (Or.inl ⟨by rfl, ?_⟩) ?_ ?_
          rotate_left
          ·intro w'
           go_simp
           with_reducible rfl
          rotate_left
          ·simp only [puts_]
           rfl
          refine pure_ (i := 5) (N := some 54) (v := ?_) (a' := ?_) (bl 53 63) rfl rfl (any_of HT_.out (by kernel_rfl)) (fun _ _ _ h => h) (Or.inl ⟨by rfl, ?_⟩) ?_ ?_
          rotate_left
          ·intro w'
           go_simp
           with_reducible rfl
          rotate_left
          ·simp only [puts_]
           rfl
          refine pure_ (i := 7) (N := some 56) (v := ?_) (a' := ?_) (bl 53 191) rfl rfl (any_of HT_.out (by kernel_rfl)) (fun _ _ _ h => h) (Or.inl ⟨by rfl, ?_⟩) ?_ ?_
          rotate_left
          ·intro w'
           go_simp
           with_reducible rfl
          rotate_left
          ·simp only [puts_]
           rfl
          refine take_ (i := 6) (N := some 55) (v := ?_) (a' := ?_) (bl 53 255) rfl rfl (take_ofW HT_.out HW_.out (by kernel_rfl)) (fun _ _ _ h => h) (Or.inl ⟨by rfl, ?_⟩) hHeld ?_ ?_
          rotate_left
          ·rintro w' ⟨s0, s1, s2, s3, s4, s5, s6⟩
           go_simp
           with_reducible rfl
          rotate_left
          ·simp only [puts_]
           rfl
          refine pure_ (i := 8) (N := some 57) (v := ?_) (a' := ?_) (bl 53 511) rfl rfl (any_of HT_.out (by kernel_rfl)) (fun _ _ _ h => h) (Or.inl ⟨by rfl, ?_⟩) ?_ ?_
          rotate_left
          ·intro w'
           go_simp
           with_reducible rfl
          rotate_left
          ·simp only [puts_]
           rfl
          refine pure_ (i := 9) (N := some 58) (v := ?_) (a' := ?_) (bl 53 1023) rfl rfl (any_of HT_.out (by kernel_rfl)) (fun _ _ _ h => h) (Or.inl ⟨by rfl, ?_⟩) ?_ ?_
          rotate_left
          ·intro w'
           go_simp
           with_reducible rfl
          rotate_left
          ·simp only [puts_]
           rfl
          refine pure_ (i := 10) (N := some 59) (v := ?_) (a' := ?_) (bl 53 2047) rfl rfl (any_of HT_.out (by kernel_rfl)) (fun _ _ _ h => h) (Or.inl ⟨by rfl, ?_⟩) ?_ ?_
          rotate_left
          ·intro w'
           go_simp
           with_reducible rfl
          rotate_left
          ·simp only [puts_]
           rfl
          refine pure_ (i := 11) (N := some 60) (v := ?_) (a' := ?_) (bl 53 4095) rfl rfl (any_of HT_.out (by kernel_rfl)) (fun _ _ _ h => h) (Or.inl ⟨by rfl, ?_⟩) ?_ ?_
          rotate_left
          ·intro w'
           go_simp
           with_reducible rfl
          rotate_left
          ·simp only [puts_]
           rfl
          refine pure_ (i := 12) (N := some 61) (v := ?_) (a' := ?_) (bl 53 8191) rfl rfl (any_of HT_.out (by kernel_rfl)) (fun _ _ _ h => h) (Or.inl ⟨by rfl, ?_⟩) ?_ ?_
          rotate_left
          ·intro w'
           go_simp
           with_reducible rfl
          rotate_left
          ·simp only [puts_]
           rfl
          refine pure_ (i := 13) (N := some 62) (v := ?_) (a' := ?_) (bl 53 16383) rfl rfl (any_of HT_.out (by kernel_rfl)) (fun _ _ _ h => h) (Or.inl ⟨by rfl, ?_⟩) ?_ ?_
          rotate_left
          ·intro w'
           go_simp
           with_reducible rfl
          rotate_left
          ·simp only [puts_]
           rfl
          refine pure_ (i := 14) (N := some 63) (v := ?_) (a' := ?_) (bl 53 32767) rfl rfl (any_of HT_.out (by kernel_rfl)) (fun _ _ _ h => h) (Or.inl ⟨by rfl, ?_⟩) ?_ ?_
          rotate_left
          ·intro w'
           go_simp
           with_reducible rfl
          rotate_left
          ·simp only [puts_]
           rfl
          refine pure_ (i := 15) (N := some 64) (v := ?_) (a' := ?_) (bl 53 65535) rfl rfl (any_of HT_.out (by kernel_rfl)) (fun _ _ _ h => h) (Or.inl ⟨by rfl, ?_⟩) ?_ ?_
          rotate_left
          ·intro w'
           go_simp
           with_reducible rfl
          rotate_left
          ·simp only [puts_]
           rfl
          refine pure_ (i := 16) (N := some 65) (v := ?_) (a' := ?_) (bl 53 131071) rfl rfl (any_of HT_.out (by kernel_rfl)) (fun _ _ _ h => h) (Or.inl ⟨by rfl, ?_⟩) ?_ ?_
          rotate_left
          ·intro w'
           go_simp
           with_reducible rfl
          rotate_left
          ·simp only [puts_]
           rfl
          refine pure_ (i := 17) (N := some 66) (v := ?_) (a' := ?_) (bl 53 262143) rfl rfl (any_of HT_.out (by kernel_rfl)) (fun _ _ _ h => h) (Or.inl ⟨by rfl, ?_⟩) ?_ ?_
          rotate_left
          ·intro w'
           go_simp
           with_reducible rfl
          rotate_left
          ·simp only [puts_]
           rfl
          refine pure_ (i := 18) (N := some 67) (v := ?_) (a' := ?_) (bl 53 524287) rfl rfl (any_of HT_.out (by kernel_rfl)) (fun _ _ _ h => h) (Or.inl ⟨by rfl, ?_⟩) ?_ ?_
          rotate_left
          ·intro w'
           go_simp
           with_reducible rfl
          rotate_left
          ·simp only [puts_]
           rfl
          refine pure_ (i := 19) (N := some 68) (v := ?_) (a' := ?_) (bl 53 1048575) rfl rfl (any_of HT_.out (by kernel_rfl)) (fun _ _ _ h => h) (Or.inl ⟨by rfl, ?_⟩) ?_ ?_
          rotate_left
          ·intro w'
           go_simp
           with_reducible rfl
          rotate_left
          ·simp only [puts_]
           rfl
          refine pure_ (i := 20) (N := some 69) (v := ?_) (a' := ?_) (bl 53 2097151) rfl rfl (any_of HT_.out (by kernel_rfl)) (fun _ _ _ h => h) (Or.inl ⟨by rfl, ?_⟩) ?_ ?_
          rotate_left
          ·intro w'
           go_simp
           with_reducible rfl
          rotate_left
          ·simp only [puts_]
           rfl
          refine pure_ (i := 21) (N := some 70) (v := ?_) (a' := ?_) (bl 53 4194303) rfl rfl (any_of HT_.out (by kernel_rfl)) (fun _ _ _ h => h) (Or.inl ⟨by rfl, ?_⟩) ?_ ?_
          rotate_left
          ·intro w'
           go_simp
           with_reducible rfl
          rotate_left
          ·simp only [puts_]
           rfl
          refine pure_ (i := 22) (N := some 71) (v := ?_) (a' := ?_) (bl 53 8388607) rfl rfl (any_of HT_.out (by kernel_rfl)) (fun _ _ _ h => h) (Or.inl ⟨by rfl, ?_⟩) ?_ ?_
          rotate_left
          ·intro w'
           go_simp
           with_reducible rfl
          rotate_left
          ·simp only [puts_]
           rfl
          refine pure_ (i := 24) (N := some 73) (v := ?_) (a' := ?_) (bl 53 25165823) rfl rfl (any_of HT_.out (by kernel_rfl)) (fun _ _ _ h => h) (Or.inl ⟨by rfl, ?_⟩) ?_ ?_
          rotate_left
          ·intro w'
           go_simp
           with_reducible rfl
          rotate_left
          ·simp only [puts_]
           rfl
          refine pure_ (i := 25) (N := some 74) (v := ?_) (a' := ?_) (bl 53 58720255) rfl rfl (any_of HT_.out (by kernel_rfl)) (fun _ _ _ h => h) (Or.inl ⟨by rfl, ?_⟩) ?_ ?_
          rotate_left
          ·intro w'
           go_simp
           with_reducible rfl
          rotate_left
          ·simp only [puts_]
           rfl
          refine pure_ (i := 26) (N := some 75) (v := ?_) (a' := ?_) (bl 53 125829119) rfl rfl (any_of HT_.out (by kernel_rfl)) (fun _ _ _ h => h) (Or.inl ⟨by rfl, ?_⟩) ?_ ?_
          rotate_left
          ·intro w'
           go_simp
           with_reducible rfl
          rotate_left
          ·simp only [puts_]
           rfl
          refine pure_ (i := 27) (N := some 76) (v := ?_) (a' := ?_) (bl 53 260046847) rfl rfl (any_of HT_.out (by kernel_rfl)) (fun _ _ _ h => h) (Or.inl ⟨by rfl, ?_⟩) ?_ ?_
          rotate_left
          ·intro w'
           go_simp
           with_reducible rfl
          rotate_left
          ·simp only [puts_]
           rfl
          refine pure_ (i := 28) (N := some 77) (v := ?_) (a' := ?_) (bl 53 528482303) rfl rfl (any_of HT_.out (by kernel_rfl)) (fun _ _ _ h => h) (Or.inl ⟨by rfl, ?_⟩) ?_ ?_
          rotate_left
          ·intro w'
           go_simp
           with_reducible rfl
          rotate_left
          ·simp only [puts_]
           rfl
          refine pure_ (i := 29) (N := some 78) (v := ?_) (a' := ?_) (bl 53 1065353215) rfl rfl (any_of HT_.out (by kernel_rfl)) (fun _ _ _ h => h) (Or.inl ⟨by rfl, ?_⟩) ?_ ?_
          rotate_left
          ·intro w'
           go_simp
           with_reducible rfl
          rotate_left
          ·simp only [puts_]
           rfl
          refine pure_ (i := 30) (N := some 79) (v := ?_) (a' := ?_) (bl 53 2139095039) rfl rfl (any_of HT_.out (by kernel_rfl)) (fun _ _ _ h => h) (Or.inl ⟨by rfl, ?_⟩) ?_ ?_
          rotate_left
          ·intro w'
           go_simp
           with_reducible rfl
          rotate_left
          ·simp only [puts_]
           rfl
          refine pure_ (i := 31) (N := some 80) (v := ?_) (a' := ?_) (bl 53 4286578687) rfl rfl (any_of HT_.out (by kernel_rfl)) (fun _ _ _ h => h) (Or.inl ⟨by rfl, ?_⟩) ?_ ?_
          rotate_left
          ·intro w'
           go_simp
           with_reducible rfl
          rotate_left
          ·simp only [puts_]
           rfl
          refine pure_ (i := 32) (N := some 81) (v := ?_) (a' := ?_) (bl 53 8581545983) rfl rfl (any_of HT_.out (by kernel_rfl)) (fun _ _ _ h => h) (Or.inl ⟨by rfl, ?_⟩) ?_ ?_
          rotate_left
          ·intro w'
           go_simp
           with_reducible rfl
          rotate_left
          ·simp only [puts_]
           rfl
          refine pure_ (i := 33) (N := some 82) (v := ?_) (a' := ?_) (bl 53 17171480575) rfl rfl (any_of HT_.out (by kernel_rfl)) (fun _ _ _ h => h) (Or.inl ⟨by rfl, ?_⟩) ?_ ?_
          rotate_left
          ·intro w'
           go_simp
           with_reducible rfl
          rotate_left
          ·simp only [puts_]
           rfl
          refine take_ (i := 23) (N := some 72) (v := ?_) (a' := ?_) (bl 53 17179869183) rfl rfl (take_ofW HT_.out HW_.out (by kernel_rfl)) (fun _ _ _ h => h) (Or.inl ⟨by rfl, ?_⟩) hHeld ?_ ?_
          rotate_left
          ·rintro w' ⟨s0, s1, s2, s3, s4, s5, s6⟩
           go_simp
           with_reducible rfl
          rotate_left
          ·simp only [puts_]
           rfl
          refine pure_ (i := 34) (N := some 83) (v := ?_) (a' := ?_) (bl 53 34359738367) rfl rfl (any_of HT_.out (by kernel_rfl)) (fun _ _ _ h => h) (Or.inl ⟨by rfl, ?_⟩) ?_ ?_
          rotate_left
          ·intro w'
           go_simp
           with_reducible rfl
          rotate_left
          ·simp only [puts_]
           rfl
          refine pure_ (i := 35) (N := some 84) (v := ?_) (a' := ?_) (bl 53 68719476735) rfl rfl (any_of HT_.out (by kernel_rfl)) (fun _ _ _ h => h) (Or.inl ⟨by rfl, ?_⟩) ?_ ?_
          rotate_left
          ·intro w'
           go_simp
           with_reducible rfl
          rotate_left
          ·simp only [puts_]
           rfl
          refine pure_ (i := 36) (N := some 85) (v := ?_) (a' := ?_) (bl 53 137438953471) rfl rfl (any_of HT_.out (by kernel_rfl)) (fun _ _ _ h => h) (Or.inl ⟨by rfl, ?_⟩) ?_ ?_
          rotate_left
          ·intro w'
           go_simp
           with_reducible rfl
          rotate_left
          ·simp only [puts_]
           rfl
          refine pure_ (i := 37) (N := some 86) (v := ?_) (a' := ?_) (bl 53 274877906943) rfl rfl (any_of HT_.out (by kernel_rfl)) (fun _ _ _ h => h) (Or.inl ⟨by rfl, ?_⟩) ?_ ?_
          rotate_left
          ·intro w'
           go_simp
           with_reducible rfl
          rotate_left
          ·simp only [puts_]
           rfl
          refine pure_ (i := 38) (N := some 87) (v := ?_) (a' := ?_) (bl 53 549755813887) rfl rfl (any_of HT_.out (by kernel_rfl)) (fun _ _ _ h => h) (Or.inl ⟨by rfl, ?_⟩) ?_ ?_
          rotate_left
          ·intro w'
           go_simp
           with_reducible rfl
          rotate_left
          ·simp only [puts_]
           rfl
          refine pure_ (i := 39) (N := some 88) (v := ?_) (a' := ?_) (bl 53 1099511627775) rfl rfl (any_of HT_.out (by kernel_rfl)) (fun _ _ _ h => h) (Or.inl ⟨by rfl, ?_⟩) ?_ ?_
          rotate_left
          ·intro w'
           go_simp
           with_reducible rfl
          rotate_left
          ·simp only [puts_]
           rfl
          refine pure_ (i := 41) (N := some 90) (v := ?_) (a' := ?_) (bl 53 3298534883327) rfl rfl (any_of HT_.out (by kernel_rfl)) (fun _ _ _ h => h) (Or.inl ⟨by rfl, ?_⟩) ?_ ?_
          rotate_left
          ·intro w'
           go_simp
           with_reducible rfl
          rotate_left
          ·simp only [puts_]
           rfl
          refine pure_ (i := 42) (N := some 91) (v := ?_) (a' := ?_) (bl 53 7696581394431) rfl rfl (any_of HT_.out (by kernel_rfl)) (fun _ _ _ h => h) (Or.inl ⟨by rfl, ?_⟩) ?_ ?_
          rotate_left
          ·intro w'
           go_simp
           with_reducible rfl
          rotate_left
          ·simp only [puts_]
           rfl
          refine pure_ (i := 43) (N := some 92) (v := ?_) (a' := ?_) (bl 53 16492674416639) rfl rfl (any_of HT_.out (by kernel_rfl)) (fun _ _ _ h => h) (Or.inl ⟨by rfl, ?_⟩) ?_ ?_
          rotate_left
          ·intro w'
           go_simp
           with_reducible rfl
          rotate_left
          ·simp only [puts_]
           rfl
          refine pure_ (i := 44) (N := some 93) (v := ?_) (a' := ?_) (bl 53 34084860461055) rfl rfl (any_of HT_.out (by kernel_rfl)) (fun _ _ _ h => h) (Or.inl ⟨by rfl, ?_⟩) ?_ ?_
          rotate_left
          ·intro w'
           go_simp
           with_reducible rfl
          rotate_left
          ·simp only [puts_]
           rfl
          refine take_ (i := 40) (N := some 89) (v := ?_) (a' := ?_) (bl 53 35184372088831) rfl rfl (take_ofW HT_.out HW_.out (by kernel_rfl)) (fun _ _ _ h => h) (Or.inl ⟨by rfl, ?_⟩) hHeld ?_ ?_
          rotate_left
          ·rintro w' ⟨s0, s1, s2, s3, s4, s5, s6⟩
           go_simp
           with_reducible rfl
          rotate_left
          ·simp only [puts_]
           rfl
          refine take_ (i := 45) (N := some 94) (v := ?_) (a' := ?_) (bl 53 70368744177663) rfl rfl (take_ofW HT_.out HW_.out (by kernel_rfl)) (fun _ _ _ h => h) (Or.inl ⟨by rfl, ?_⟩) hHeld ?_ ?_
          rotate_left
          ·rintro w' ⟨s0, s1, s2, s3, s4, s5, s6⟩
           go_simp
           with_reducible rfl
          rotate_left
          ·simp only [puts_]
           rfl
          refine pure_ (i := 46) (N := some 95) (v := ?_) (a' := ?_) (bl 53 140737488355327) rfl rfl (any_of HT_.out (by kernel_rfl)) (fun _ _ _ h => h) (Or.inl ⟨by rfl, ?_⟩) ?_ ?_
          rotate_left
          ·intro w'
           go_simp
           with_reducible rfl
          rotate_left
          ·simp only [puts_]
           rfl
          refine pure_ (i := 47) (N := some 96) (v := ?_) (a' := ?_) (bl 53 281474976710655) rfl rfl (any_of HT_.out (by kernel_rfl)) (fun _ _ _ h => h) (Or.inl ⟨by rfl, ?_⟩) ?_ ?_
          rotate_left
          ·intro w'
           go_simp
           with_reducible rfl
          rotate_left
          ·simp only [puts_]
           rfl
          refine pure_ (i := 48) (N := some 97) (v := ?_) (a' := ?_) (bl 53 562949953421311) rfl rfl (any_of HT_.out (by kernel_rfl)) (fun _ _ _ h => h) (Or.inl ⟨by rfl, ?_⟩) ?_ ?_
          rotate_left
          ·intro w'
           go_simp
           with_reducible rfl
          rotate_left
          ·simp only [puts_]
           rfl
          refine pure_ (i := 49) (N := some 98) (v := ?_) (a' := ?_) (bl 53 1125899906842623) rfl rfl (any_of HT_.out (by kernel_rfl)) (fun _ _ _ h => h) (Or.inl ⟨by rfl, ?_⟩) ?_ ?_
          rotate_left
          ·intro w'
           go_simp
           with_reducible rfl
          rotate_left
          ·simp only [puts_]
           rfl
          refine pure_ (i := 50) (N := some 99) (v := undef) (a' := ?_) (bl 53 2251799813685247) rfl rfl (any_of HT_.out (by kernel_rfl)) (fun _ _ _ h => h) (Or.inr ⟨by rfl, rfl⟩) ?_ ?_
          rotate_left
          ·simp only [puts_]
           rfl
          refine pure_ (i := 51) (N := some 100) (v := ?_) (a' := ?_) (bl 53 4503599627370495) rfl rfl (any_of HT_.out (by kernel_rfl)) (fun _ _ _ h => h) (Or.inl ⟨by rfl, ?_⟩) ?_ ?_
          rotate_left
          ·intro w'
           go_simp
           with_reducible rfl
          rotate_left
          ·simp only [puts_]
           rfl
          refine pure_ (i := 52) (N := some 6) (v := ?_) (a' := ?_) (bl 53 9007199254740991) rfl rfl (any_of HT_.out (by kernel_rfl)) (fun _ _ _ h => h) (Or.inl ⟨by rfl, ?_⟩) ?_ ?_
          rotate_left
          ·intro w'
           go_simp
           with_reducible rfl
          rotate_left
          ·simp only [puts_]
           rfl
          refine done_ (done_of HT_.out (by kernel_rfl)) ?_
          try go_wp2
          go_ret
          exact ⟨by first | rfl | (simp [errW_none, errW_some] <;> rfl) | (simp only [← hji6, ← hji7, ← hji9, ← hji11]; first | rfl | (simp [errW_none, errW_some] <;> rfl)) | (simp [*, errW_none, errW_some] <;> rfl), by repeat (first | (with_reducible first | exact HB.out | apply below_alloc | apply pw_below_drewN | apply below_drew1 | refine below_set ?_ GE363.out) | exact HB.out)⟩
        ·rw [if_neg c18] at H
         have c18b0 : (((rd_T67 t377 0).f1) == (wrap64 ((wrap64 ((wrap64 (Int.tdiv (ji11) 256)) * (ji9))) + (wrap64 (Int.tdiv (wrap64 ((Int.tmod (ji11) 256) * (ji9))) 256))))) = false := beq_eq_false_iff_ne.mpr c18
         have c18b1 : (((rd_T67 t377 0).f1) != (wrap64 ((wrap64 ((wrap64 (Int.tdiv (ji11) 256)) * (ji9))) + (wrap64 (Int.tdiv (wrap64 ((Int.tmod (ji11) 256) * (ji9))) 256))))) = true := bne_iff_ne.mpr c18
         obtain rfl := Option.some.inj H
         go_enter Try.func12, Try.ntmps12
         try go_wp2_with (first | ((with_reducible refine gate_dst (N := 4) rfl ?_); (try (refine gate_guard (by rfl) ?_; dsimp only)); refine box_event ?hg (N := 4) ?hd (cs := #[.int .i64 a1_0, .int .i64 a1_1, .int .i64 a1_2]) (t := 31) ?hr ?_; (case hd => rfl); (case hg => rfl); (case hr => first | (go_simp; done) | (go_simp; rfl)); intro gb363 hg w60 hbox hb; have n0_ := Aside0.mk (below_step (by repeat (first | (with_reducible first | exact HB.out | apply below_alloc | apply pw_below_drewN | apply below_drew1) | exact HB.out)) hb); have n1_ := Aside0.mk (hbox); have n2_ := Aside0.mk ((by rw [hg]; exact (below_size (by repeat (first | (with_reducible first | exact HB.out | apply below_alloc | apply pw_below_drewN | apply below_drew1) | exact HB.out))) : w.heap.size ≤ gb363)); have n3_ := Aside0.mk ((by rw [hg]; exact (below_size (by repeat (first | (with_reducible first | exact HB.out | apply below_alloc | apply pw_below_drewN | apply below_drew1) | exact HB.out))) : w.heap.size ≤ gb363)); clear HB; have HB := n0_; have BK363 := n1_; have GW363 := n2_; have GE363 := n3_; clear n0_ n1_ n2_ n3_; clear hb hbox hg; have hcz61_0 : w60.cell? ⟨gb363, 0, none⟩ = some (.int .i64 a1_0) := (blk_cell BK363.out 0).trans rfl; have hcz61_1 : w60.cell? ⟨gb363, 1, none⟩ = some (.int .i64 a1_1) := (blk_cell BK363.out 1).trans rfl; have hcz61_2 : w60.cell? ⟨gb363, 2, none⟩ = some (.int .i64 a1_2) := (blk_cell BK363.out 2).trans rfl; have hfz61_0 := blk_frozen BK363.out 0; have hfz61_1 := blk_frozen BK363.out 1; have hfz61_2 := blk_frozen BK363.out 2) | ((with_reducible refine gate_dst (N := 14) rfl ?_); (try (refine gate_guard (by rfl) ?_; dsimp only)); refine Kd.R_lit k31 _ 31 ?hg (N := 14) ?hd (xs := ([(⟨a1_0, a1_1, a1_2⟩ : S31)] : List (S31))) (inner := [.int .i64 a1_0, .int .i64 a1_1, .int .i64 a1_2]) (ok := fun _ => True) (okp := fun _ => True) ?hr ?hp (fun _ hk => hk) trivial (Below.refl _ _) (Nat.le_refl _) (by simp) ?_; (case hd => rfl); (case hg => rfl); (case hr => first | (go_simp; done) | (go_simp; rfl)); (case hp => exact (Reps.c3 (show Kd.M k31 _ _ _ (⟨a1_0, a1_1, a1_2⟩ : S31) [.int .i64 a1_0, .int .i64 a1_1, .int .i64 a1_2] from (k31_mkM _ _ _ (⟨a1_0, a1_1, a1_2⟩ : S31) )) (Reps.none _ _))); intro v365 w62 ho63 hb hg_ hnew_; clear hg_ hnew_; (first | rw [← Ny364.out] at ho63 | (simp only [Int.reduceToNat] at ho63; rw [← Ny364.out] at ho63)); have n0_ := Aside0.mk (Kd.R_lower (Kd.R_newB ho63 (g := gb363) (o := .cells #[.int .i64 a1_0, .int .i64 a1_1, .int .i64 a1_2] 31 (0, 0)) (by (with_reducible repeat (first | refine blk_drewN ?_ _ | refine blk_drew ?_ | refine blk_alloc ?_ _)); exact BK363.out)) (below_size (by repeat (first | (with_reducible first | exact HB.out | apply below_alloc | apply pw_below_drewN | apply below_drew1 | refine below_set ?_ GE363.out) | exact HB.out)))); have n1_ := Aside0.mk (blk_below (g := gb363) (o := .cells #[.int .i64 a1_0, .int .i64 a1_1, .int .i64 a1_2] 31 (0, 0)) (by (with_reducible repeat (first | refine blk_drewN ?_ _ | refine blk_drew ?_ | refine blk_alloc ?_ _)); exact BK363.out) hb); have n2_ := Aside0.mk (below_step (by repeat (first | (with_reducible first | exact HB.out | apply below_alloc | apply pw_below_drewN | apply below_drew1 | refine below_set ?_ GE363.out) | exact HB.out)) hb); clear BK363; clear HB; have HO366 := n0_; have BK363 := n1_; have HB := n2_; clear n0_ n1_ n2_; clear hb ho63; obtain ⟨Ao64, co64, eo64⟩ := Kd.R_slice HO366.out; subst eo64) | ((with_reducible refine gate_callee (f := 16) rfl ?_); refine goesL_ (some 15) rfl rfl Try.func16 (by kernel_rfl) rfl #[.slice Ao64 y364.length co64] rfl (by (try simp only [List.map_toArray, List.map_cons, List.map_nil]); first | done | rfl | (simp only [List.length_drop, List.length_take]; rfl)) ?_; (with_reducible refine (flywheelref27_Good.calls k _ _ y364 true _ ?side1 ?side2 A4.out).mono ?_); (case side1 => repeat (first | exact (Kd.R_reads' HO366.out).2.2 | (with_reducible refine Kd.C_alloc ?_ _) | (with_reducible refine Kd.C_drewN ?_ _) | (with_reducible refine Kd.C_drew ?_))); (case side2 => exact (Kd.R_reads' HO366.out).2.1); rintro e w' ⟨rfl, ⟨nd, rfl⟩⟩; refine ⟨_, rfl, ?_⟩; have hcz65_0 : w62.cell? ⟨gb363, 0, none⟩ = some (.int .i64 a1_0) := (blk_cell BK363.out 0).trans rfl; have hcz65_1 : w62.cell? ⟨gb363, 1, none⟩ = some (.int .i64 a1_1) := (blk_cell BK363.out 1).trans rfl; have hcz65_2 : w62.cell? ⟨gb363, 2, none⟩ = some (.int .i64 a1_2) := (blk_cell BK363.out 2).trans rfl; have hfz65_0 := blk_frozen BK363.out 0; have hfz65_1 := blk_frozen BK363.out 1; have hfz65_2 := blk_frozen BK363.out 2) | ((with_reducible refine gate_dst (N := 31) rfl ?_); (try (refine gate_guard (by rfl) ?_; dsimp only)); refine Kd.R_lit k31 _ 31 ?hg (N := 31) ?hd (xs := ([(⟨a1_0, a1_1, a1_2⟩ : S31)] : List (S31))) (inner := [.int .i64 a1_0, .int .i64 a1_1, .int .i64 a1_2]) (ok := fun _ => True) (okp := fun _ => True) ?hr ?hp (fun _ hk => hk) trivial (Below.refl _ _) (Nat.le_refl _) (by simp) ?_; (case hd => rfl); (case hg => rfl); (case hr => first | (go_simp; done) | (go_simp; rfl)); (case hp => exact (Reps.c3 (show Kd.M k31 _ _ _ (⟨a1_0, a1_1, a1_2⟩ : S31) [.int .i64 a1_0, .int .i64 a1_1, .int .i64 a1_2] from (k31_mkM _ _ _ (⟨a1_0, a1_1, a1_2⟩ : S31) )) (Reps.none _ _))); intro v369 w66 ho67 hb hg_ hnew_; clear hg_ hnew_; (first | rw [← Ny368.out] at ho67 | (simp only [Int.reduceToNat] at ho67; rw [← Ny368.out] at ho67)); have n0_ := Aside0.mk (Kd.R_elder' (by (with_reducible repeat (first | apply Kd.R_alloc | apply Kd.R_drewN | apply Kd.R_drew)); exact HO366.out) (Kd.R_base ho67) hb); have n1_ := Aside0.mk (Kd.R_lower (Kd.R_newB (Kd.R_new' ho67 (Kd.R_lt (by (with_reducible repeat (first | apply Kd.R_alloc | apply Kd.R_drewN | apply Kd.R_drew)); exact HO366.out))) (g := gb363) (o := .cells #[.int .i64 a1_0, .int .i64 a1_1, .int .i64 a1_2] 31 (0, 0)) (by (with_reducible repeat (first | refine blk_drewN ?_ _ | refine blk_drew ?_ | refine blk_alloc ?_ _)); exact BK363.out)) (below_size (by repeat (first | (with_reducible first | exact HB.out | apply below_alloc | apply pw_below_drewN | apply below_drew1 | refine below_set ?_ GE363.out) | exact HB.out)))); have n2_ := Aside0.mk (blk_below (g := gb363) (o := .cells #[.int .i64 a1_0, .int .i64 a1_1, .int .i64 a1_2] 31 (0, 0)) (by (with_reducible repeat (first | refine blk_drewN ?_ _ | refine blk_drew ?_ | refine blk_alloc ?_ _)); exact BK363.out) hb); have n3_ := Aside0.mk (below_step (by repeat (first | (with_reducible first | exact HB.out | apply below_alloc | apply pw_below_drewN | apply below_drew1 | refine below_set ?_ GE363.out) | exact HB.out)) hb); clear HO366; clear BK363; clear HB; have HO366 := n0_; have HO370 := n1_; have BK363 := n2_; have HB := n3_; clear n0_ n1_ n2_ n3_; clear hb ho67; obtain ⟨Ao68, co68, eo68⟩ := Kd.R_slice HO370.out; subst eo68) | ((with_reducible refine gate_callee (f := 18) rfl ?_); refine goesL_ (some 32) rfl rfl Try.func18 (by kernel_rfl) rfl #[.int .i64 a0, .slice Ao68 y368.length co68] rfl (by (try simp only [List.map_toArray, List.map_cons, List.map_nil]); first | done | rfl | (simp only [List.length_drop, List.length_take]; rfl)) ?_; (with_reducible refine (alloc_Split.calls k a0 _ _ y368 t371 _ ?side1 ?side2 A8.out).mono ?_); (case side1 => repeat (first | exact (Kd.R_reads' HO370.out).2.2 | (with_reducible refine Kd.C_alloc ?_ _) | (with_reducible refine Kd.C_drewN ?_ _) | (with_reducible refine Kd.C_drew ?_))); (case side2 => exact (Kd.R_reads' HO370.out).2.1); rintro e w69 ⟨v372, rfl, ho0, hb⟩; refine ⟨_, rfl, ?_⟩; have n0_ := Aside0.mk (Kd.R_below (by (with_reducible repeat (first | apply Kd.R_alloc | apply Kd.R_drewN | apply Kd.R_drew)); exact HO366.out) hb); have n1_ := Aside0.mk (Kd.R_below (by (with_reducible repeat (first | apply Kd.R_alloc | apply Kd.R_drewN | apply Kd.R_drew)); exact HO370.out) hb); have n2_ := Aside0.mk (Kd.R_lower ho0 (below_size (by repeat (first | (with_reducible first | exact HB.out | apply below_alloc | apply pw_below_drewN | apply below_drew1 | refine below_set ?_ GE363.out) | exact HB.out)))); have n3_ := Aside0.mk (blk_below (g := gb363) (o := .cells #[.int .i64 a1_0, .int .i64 a1_1, .int .i64 a1_2] 31 (0, 0)) (by (with_reducible repeat (first | refine blk_drewN ?_ _ | refine blk_drew ?_ | refine blk_alloc ?_ _)); exact BK363.out) hb); have n4_ := Aside0.mk (below_step (by repeat (first | (with_reducible first | exact HB.out | apply below_alloc | apply pw_below_drewN | apply below_drew1 | refine below_set ?_ GE363.out) | exact HB.out)) hb); clear HO366; clear HO370; clear BK363; clear HB; have HO366 := n0_; have HO370 := n1_; have HO373 := n2_; have BK363 := n3_; have HB := n4_; clear n0_ n1_ n2_ n3_ n4_; (try clear hb); (try clear hb2); (try clear hk); (try clear hi); (try clear ho0); have hcz70_0 : w69.cell? ⟨gb363, 0, none⟩ = some (.int .i64 a1_0) := (blk_cell BK363.out 0).trans rfl; have hcz70_1 : w69.cell? ⟨gb363, 1, none⟩ = some (.int .i64 a1_1) := (blk_cell BK363.out 1).trans rfl; have hcz70_2 : w69.cell? ⟨gb363, 2, none⟩ = some (.int .i64 a1_2) := (blk_cell BK363.out 2).trans rfl; have hfz70_0 := blk_frozen BK363.out 0; have hfz70_1 := blk_frozen BK363.out 1; have hfz70_2 := blk_frozen BK363.out 2) | ((with_reducible refine gate_dst (N := 39) rfl ?_); (try (refine gate_guard (by rfl) ?_; dsimp only)); refine Kd.R_lit k31 _ 31 ?hg (N := 39) ?hd (xs := ([(⟨a1_0, a1_1, a1_2⟩ : S31)] : List (S31))) (inner := [.int .i64 a1_0, .int .i64 a1_1, .int .i64 a1_2]) (ok := fun _ => True) (okp := fun _ => True) ?hr ?hp (fun _ hk => hk) trivial (Below.refl _ _) (Nat.le_refl _) (by simp) ?_; (case hd => rfl); (case hg => rfl); (case hr => first | (go_simp; done) | (go_simp; rfl)); (case hp => exact (Reps.c3 (show Kd.M k31 _ _ _ (⟨a1_0, a1_1, a1_2⟩ : S31) [.int .i64 a1_0, .int .i64 a1_1, .int .i64 a1_2] from (k31_mkM _ _ _ (⟨a1_0, a1_1, a1_2⟩ : S31) )) (Reps.none _ _))); intro v375 w71 ho72 hb hg_ hnew_; clear hg_ hnew_; (first | rw [← Ny374.out] at ho72 | (simp only [Int.reduceToNat] at ho72; rw [← Ny374.out] at ho72)); have n0_ := Aside0.mk (Kd.R_elder' (by (with_reducible repeat (first | apply Kd.R_alloc | apply Kd.R_drewN | apply Kd.R_drew)); exact HO366.out) (Kd.R_base ho72) hb); have n1_ := Aside0.mk (Kd.R_elder' (by (with_reducible repeat (first | apply Kd.R_alloc | apply Kd.R_drewN | apply Kd.R_drew)); exact HO370.out) (Kd.R_base ho72) hb); have n2_ := Aside0.mk (Kd.R_below (by (with_reducible repeat (first | apply Kd.R_alloc | apply Kd.R_drewN | apply Kd.R_drew)); exact HO373.out) hb); have n3_ := Aside0.mk (Kd.R_lower (Kd.R_newB (Kd.R_new' (Kd.R_new' ho72 (Kd.R_lt (by (with_reducible repeat (first | apply Kd.R_alloc | apply Kd.R_drewN | apply Kd.R_drew)); exact HO366.out))) (Kd.R_lt (by (with_reducible repeat (first | apply Kd.R_alloc | apply Kd.R_drewN | apply Kd.R_drew)); exact HO370.out))) (g := gb363) (o := .cells #[.int .i64 a1_0, .int .i64 a1_1, .int .i64 a1_2] 31 (0, 0)) (by (with_reducible repeat (first | refine blk_drewN ?_ _ | refine blk_drew ?_ | refine blk_alloc ?_ _)); exact BK363.out)) (below_size (by repeat (first | (with_reducible first | exact HB.out | apply below_alloc | apply pw_below_drewN | apply below_drew1 | refine below_set ?_ GE363.out) | exact HB.out)))); have n4_ := Aside0.mk (blk_below (g := gb363) (o := .cells #[.int .i64 a1_0, .int .i64 a1_1, .int .i64 a1_2] 31 (0, 0)) (by (with_reducible repeat (first | refine blk_drewN ?_ _ | refine blk_drew ?_ | refine blk_alloc ?_ _)); exact BK363.out) hb); have n5_ := Aside0.mk (below_step (by repeat (first | (with_reducible first | exact HB.out | apply below_alloc | apply pw_below_drewN | apply below_drew1 | refine below_set ?_ GE363.out) | exact HB.out)) hb); clear HO366; clear HO370; clear HO373; clear BK363; clear HB; have HO366 := n0_; have HO370 := n1_; have HO373 := n2_; have HO376 := n3_; have BK363 := n4_; have HB := n5_; clear n0_ n1_ n2_ n3_ n4_ n5_; clear hb ho72; obtain ⟨Ao73, co73, eo73⟩ := Kd.R_slice HO376.out; subst eo73) | ((with_reducible refine gate_callee (f := 36) rfl ?_); refine goesL_ (some 42) rfl rfl Try.func36 (by kernel_rfl) rfl #[.int .i64 a0, .slice Ao73 y374.length co73, .int .i64 (wrap64 (a2)), .int .i64 0] rfl (by (try simp only [List.map_toArray, List.map_cons, List.map_nil]); first | done | rfl | (simp only [List.length_drop, List.length_take]; rfl)) ?_; (with_reducible refine (alloc_Share.calls k a0 _ _ y374 (wrap64 (a2)) 0 t377 t378 _ ?side1 ?side2 A10.out).mono ?_); (case side1 => repeat (first | exact (Kd.R_reads' HO376.out).2.2 | (with_reducible refine Kd.C_alloc ?_ _) | (with_reducible refine Kd.C_drewN ?_ _) | (with_reducible refine Kd.C_drew ?_))); (case side2 => exact (Kd.R_reads' HO376.out).2.1); rintro e w74 ⟨v379, rfl, ho0, hb⟩; refine ⟨_, rfl, ?_⟩; have n0_ := Aside0.mk (Kd.R_below (by (with_reducible repeat (first | apply Kd.R_alloc | apply Kd.R_drewN | apply Kd.R_drew)); exact HO366.out) hb); have n1_ := Aside0.mk (Kd.R_below (by (with_reducible repeat (first | apply Kd.R_alloc | apply Kd.R_drewN | apply Kd.R_drew)); exact HO370.out) hb); have n2_ := Aside0.mk (Kd.R_below (by (with_reducible repeat (first | apply Kd.R_alloc | apply Kd.R_drewN | apply Kd.R_drew)); exact HO373.out) hb); have n3_ := Aside0.mk (Kd.R_below (by (with_reducible repeat (first | apply Kd.R_alloc | apply Kd.R_drewN | apply Kd.R_drew)); exact HO376.out) hb); have n4_ := Aside0.mk (Kd.R_lower ho0 (below_size (by repeat (first | (with_reducible first | exact HB.out | apply below_alloc | apply pw_below_drewN | apply below_drew1 | refine below_set ?_ GE363.out) | exact HB.out)))); have n5_ := Aside0.mk (blk_below (g := gb363) (o := .cells #[.int .i64 a1_0, .int .i64 a1_1, .int .i64 a1_2] 31 (0, 0)) (by (with_reducible repeat (first | refine blk_drewN ?_ _ | refine blk_drew ?_ | refine blk_alloc ?_ _)); exact BK363.out) hb); have n6_ := Aside0.mk (below_step (by repeat (first | (with_reducible first | exact HB.out | apply below_alloc | apply pw_below_drewN | apply below_drew1 | refine below_set ?_ GE363.out) | exact HB.out)) hb); clear HO366; clear HO370; clear HO373; clear HO376; clear BK363; clear HB; have HO366 := n0_; have HO370 := n1_; have HO373 := n2_; have HO376 := n3_; have HO380 := n4_; have BK363 := n5_; have HB := n6_; clear n0_ n1_ n2_ n3_ n4_ n5_ n6_; (try clear hb); (try clear hb2); (try clear hk); (try clear hi); (try clear ho0); have hcz75_0 : w74.cell? ⟨gb363, 0, none⟩ = some (.int .i64 a1_0) := (blk_cell BK363.out 0).trans rfl; have hcz75_1 : w74.cell? ⟨gb363, 1, none⟩ = some (.int .i64 a1_1) := (blk_cell BK363.out 1).trans rfl; have hcz75_2 : w74.cell? ⟨gb363, 2, none⟩ = some (.int .i64 a1_2) := (blk_cell BK363.out 2).trans rfl; have hfz75_0 := blk_frozen BK363.out 0; have hfz75_1 := blk_frozen BK363.out 1; have hfz75_2 := blk_frozen BK363.out 2))
         have n0_ := Aside0.mk (Kd.R_drew HO366.out)
         have n1_ := Aside0.mk (Kd.R_drew HO370.out)
         have n2_ := Aside0.mk (Kd.R_drew HO373.out)
         have n3_ := Aside0.mk (Kd.R_drew HO376.out)
         have n4_ := Aside0.mk (Kd.R_drew HO380.out)
         have n5_ := Aside0.mk (blk_drew BK363.out)
         have n6_ := Aside0.mk (below_drew1 HB.out)
         clear HO366
         clear HO370
         clear HO373
         clear HO376
         clear HO380
         clear BK363
         clear HB
         have HO366 := n0_
         have HO370 := n1_
         have HO373 := n2_
         have HO376 := n3_
         have HO380 := n4_
         have BK363 := n5_
         have HB := n6_
         clear n0_ n1_ n2_ n3_ n4_ n5_ n6_
         obtain ⟨Ao77, co77, eo77⟩ := Kd.R_slice HO373.out
         (first | subst eo77 | (injection eo77 with f1_ f2_ f3_; have f4_ := f1_.symm; have f5_ := f3_.symm; clear f1_ f2_ f3_; subst f4_; subst f5_))
         have p381 : 0 ≤ (0 : Int) := (by omega)
         have q381 : 0 < (t371.length : Int) := of_decide_eq_true (by first | (with_reducible assumption) | assumption)
         obtain ⟨ad381, e381, hx381_0⟩ := Kd.at_int (Kd.R_reads' HO373.out).2.2 0 p381 q381
         cases e381
         have qi381 : (0 < t371.length) = True := eq_true (by omega)
         (try rw [show ((0 : Int)).toNat = 0 from rfl] at hx381_0)
         (try rw [Addr.add_zero'] at hx381_0)
         replace p381 := eq_true p381
         replace q381 := eq_true q381
         obtain ⟨Ao78, co78, eo78⟩ := Kd.R_slice HO380.out
         (first | subst eo78 | (injection eo78 with f1_ f2_ f3_; have f4_ := f1_.symm; have f5_ := f3_.symm; clear f1_ f2_ f3_; subst f4_; subst f5_))
         have p382 : 0 ≤ (0 : Int) := (by omega)
         have q382 : 0 < (t377.length : Int) := of_decide_eq_true (by first | (with_reducible assumption) | assumption)
         obtain ⟨ad382, e382, hx382_0, hx382_1⟩ := at_T67 (Kd.R_reads' HO380.out).2.2 0 p382 q382
         cases e382
         have qi382 : (0 < t377.length) = True := eq_true (by omega)
         (try rw [show ((0 : Int)).toNat = 0 from rfl] at hx382_0)
         (try rw [show 0 * 2 = 0 from rfl] at hx382_0)
         (try rw [Addr.add_zero'] at hx382_0)
         (try rw [show ((0 : Int)).toNat = 0 from rfl] at hx382_1)
         (try rw [show 0 * 2 = 0 from rfl] at hx382_1)
         (try rw [Addr.add_zero'] at hx382_1)
         replace p382 := eq_true p382
         replace q382 := eq_true q382
         refine start_ (n := 53) (S := fun w' => w'.cell? ad381 = some (.int .i64 (rd t371 0)) ∧ w'.cell? ad382 = some (.int .i64 ((rd_T67 t377 0).f0)) ∧ w'.cell? ⟨ad382.block, ad382.off + 1, none⟩ = some (.int .i64 ((rd_T67 t377 0).f1))) (ds := []) #[false, false, false, false, false, false, false, false, false, false, false, false, false, false, false, false, false, false, false, false, false, false, false, false, false, false, false, false, false, false, false, false, false, false, false, false, false, false, false, false, false, false, false, false, false, false, false, false, false, false, false, false, false] (by kernel_rfl) rfl rfl ⟨hx381_0, hx382_0, hx382_1⟩ (fun hHeld => ?_); refine with_tabW flywheellaw27_AllocOne.tab8 flywheellaw27_AllocOne.bits8 (fun HT_ HW_ => ?_)
         generalize w74.drew = w76 at HO366 HO370 HO373 HO376 HO380 BK363 HB hx381_0 hx382_0 hx382_1 hHeld ⊢
         refine pure_ (i := 0) (N := some 49) (v := ?_) (a' := ?_) (bl 53 1) rfl rfl (any_of HT_.out (by kernel_rfl)) (fun _ _ _ h => h) (Or.inl ⟨by rfl, ?_⟩) ?_ ?_
         rotate_left
         ·intro w'
          go_simp
          with_reducible rfl
         rotate_left
         ·simp only [puts_]
          rfl
         refine pure_ (i := 1) (N := some 50) (v := ?_) (a' := ?_) (bl 53 3) rfl rfl (any_of HT_.out (by kernel_rfl)) (fun _ _ _ h => h) (Or.inl ⟨by rfl, ?_⟩) ?_ ?_
         rotate_left
         ·intro w'
          go_simp
          with_reducible rfl
         rotate_left
         ·simp only [puts_]
          rfl
         refine pure_ (i := 2) (N := some 51) (v := ?_) (a' := ?_) (bl 53 7) rfl rfl (any_of HT_.out (by kernel_rfl)) (fun _ _ _ h => h) (Or.inl ⟨by rfl, ?_⟩) ?_ ?_
         rotate_left
         ·intro w'
          go_simp
          with_reducible rfl
         rotate_left
         ·simp only [puts_]
          rfl
         refine pure_ (i := 3) (N := some 52) (v := ?_) (a' := ?_) (bl 53 15) rfl rfl (any_of HT_.out (by kernel_rfl)) (fun _ _ _ h => h) (Or.inl ⟨by rfl, ?_⟩) ?_ ?_
         rotate_left
         ·intro w'
          go_simp
          with_reducible rfl
         rotate_left
         ·simp only [puts_]
          rfl
         refine pure_ (i := 4) (N := some 53) (v := ?_) (a' := ?_) (bl 53 31) rfl rfl (any_of HT_.out (by kernel_rfl)) (fun _ _ _ h => h) (Or.inl ⟨by rfl, ?_⟩) ?_ ?_
         rotate_left
         ·intro w'
          go_simp
          with_reducible rfl
         rotate_left
         ·simp only [puts_]
          rfl
         refine pure_ (i := 5) (N := some 54) (v := ?_) (a' := ?_) (bl 53 63) rfl rfl (any_of HT_.out (by kernel_rfl)) (fun _ _ _ h => h) (Or.inl ⟨by rfl, ?_⟩) ?_ ?_
         rotate_left
         ·intro w'
          go_simp
          with_reducible rfl
         rotate_left
         ·simp only [puts_]
          rfl
         refine pure_ (i := 7) (N := some 56) (v := ?_) (a' := ?_) (bl 53 191) rfl rfl (any_of HT_.out (by kernel_rfl)) (fun _ _ _ h => h) (Or.inl ⟨by rfl, ?_⟩) ?_ ?_
         rotate_left
         ·intro w'
          go_simp
          with_reducible rfl
         rotate_left
         ·simp only [puts_]
          rfl
         refine take_ (i := 6) (N := some 55) (v := ?_) (a' := ?_) (bl 53 255) rfl rfl (take_ofW HT_.out HW_.out (by kernel_rfl)) (fun _ _ _ h => h) (Or.inl ⟨by rfl, ?_⟩) hHeld ?_ ?_
         rotate_left
         ·rintro w' ⟨s0, s1, s2⟩
          go_simp
          with_reducible rfl
         rotate_left
         ·simp only [puts_]
          rfl
         refine pure_ (i := 8) (N := some 57) (v := ?_) (a' := ?_) (bl 53 511) rfl rfl (any_of HT_.out (by kernel_rfl)) (fun _ _ _ h => h) (Or.inl ⟨by rfl, ?_⟩) ?_ ?_
         rotate_left
         ·intro w'
          go_simp
          with_reducible rfl
         rotate_left
         ·simp only [puts_]
          rfl
         refine pure_ (i := 9) (N := some 58) (v := ?_) (a' := ?_) (bl 53 1023) rfl rfl (any_of HT_.out (by kernel_rfl)) (fun _ _ _ h => h) (Or.inl ⟨by rfl, ?_⟩) ?_ ?_
         rotate_left
         ·intro w'
          go_simp
          with_reducible rfl
         rotate_left
         ·simp only [puts_]
          rfl
         refine pure_ (i := 10) (N := some 59) (v := ?_) (a' := ?_) (bl 53 2047) rfl rfl (any_of HT_.out (by kernel_rfl)) (fun _ _ _ h => h) (Or.inl ⟨by rfl, ?_⟩) ?_ ?_
         rotate_left
         ·intro w'
          go_simp
          with_reducible rfl
         rotate_left
         ·simp only [puts_]
          rfl
         refine pure_ (i := 11) (N := some 60) (v := ?_) (a' := ?_) (bl 53 4095) rfl rfl (any_of HT_.out (by kernel_rfl)) (fun _ _ _ h => h) (Or.inl ⟨by rfl, ?_⟩) ?_ ?_
         rotate_left
         ·intro w'
          go_simp
          with_reducible rfl
         rotate_left
         ·simp only [puts_]
          rfl
         refine pure_ (i := 12) (N := some 61) (v := ?_) (a' := ?_) (bl 53 8191) rfl rfl (any_of HT_.out (by kernel_rfl)) (fun _ _ _ h => h) (Or.inl ⟨by rfl, ?_⟩) ?_ ?_
         rotate_left
         ·intro w'
          go_simp
          with_reducible rfl
         rotate_left
         ·simp only [puts_]
          rfl
         refine pure_ (i := 13) (N := some 62) (v := ?_) (a' := ?_) (bl 53 16383) rfl rfl (any_of HT_.out (by kernel_rfl)) (fun _ _ _ h => h) (Or.inl ⟨by rfl, ?_⟩) ?_ ?_
         rotate_left
         ·intro w'
          go_simp
          with_reducible rfl
         rotate_left
         ·simp only [puts_]
          rfl
         refine pure_ (i := 14) (N := some 63) (v := ?_) (a' := ?_) (bl 53 32767) rfl rfl (any_of HT_.out (by kernel_rfl)) (fun _ _ _ h => h) (Or.inl ⟨by rfl, ?_⟩) ?_ ?_
         rotate_left
         ·intro w'
          go_simp
          with_reducible rfl
         rotate_left
         ·simp only [puts_]
          rfl
         refine pure_ (i := 15) (N := some 64) (v := ?_) (a' := ?_) (bl 53 65535) rfl rfl (any_of HT_.out (by kernel_rfl)) (fun _ _ _ h => h) (Or.inl ⟨by rfl, ?_⟩) ?_ ?_
         rotate_left
         ·intro w'
          go_simp
          with_reducible rfl
         rotate_left
         ·simp only [puts_]
          rfl
         refine pure_ (i := 16) (N := some 65) (v := ?_) (a' := ?_) (bl 53 131071) rfl rfl (any_of HT_.out (by kernel_rfl)) (fun _ _ _ h => h) (Or.inl ⟨by rfl, ?_⟩) ?_ ?_
         rotate_left
         ·intro w'
          go_simp
          with_reducible rfl
         rotate_left
         ·simp only [puts_]
          rfl
         refine pure_ (i := 17) (N := some 66) (v := ?_) (a' := ?_) (bl 53 262143) rfl rfl (any_of HT_.out (by kernel_rfl)) (fun _ _ _ h => h) (Or.inl ⟨by rfl, ?_⟩) ?_ ?_
         rotate_left
         ·intro w'
          go_simp
          with_reducible rfl
         rotate_left
         ·simp only [puts_]
          rfl
         refine pure_ (i := 18) (N := some 67) (v := ?_) (a' := ?_) (bl 53 524287) rfl rfl (any_of HT_.out (by kernel_rfl)) (fun _ _ _ h => h) (Or.inl ⟨by rfl, ?_⟩) ?_ ?_
         rotate_left
         ·intro w'
          go_simp
          with_reducible rfl
         rotate_left
         ·simp only [puts_]
          rfl
         refine pure_ (i := 19) (N := some 68) (v := ?_) (a' := ?_) (bl 53 1048575) rfl rfl (any_of HT_.out (by kernel_rfl)) (fun _ _ _ h => h) (Or.inl ⟨by rfl, ?_⟩) ?_ ?_
         rotate_left
         ·intro w'
          go_simp
          with_reducible rfl
         rotate_left
         ·simp only [puts_]
          rfl
         refine pure_ (i := 20) (N := some 69) (v := ?_) (a' := ?_) (bl 53 2097151) rfl rfl (any_of HT_.out (by kernel_rfl)) (fun _ _ _ h => h) (Or.inl ⟨by rfl, ?_⟩) ?_ ?_
         rotate_left
         ·intro w'
          go_simp
          with_reducible rfl
         rotate_left
         ·simp only [puts_]
          rfl
         refine pure_ (i := 21) (N := some 70) (v := ?_) (a' := ?_) (bl 53 4194303) rfl rfl (any_of HT_.out (by kernel_rfl)) (fun _ _ _ h => h) (Or.inl ⟨by rfl, ?_⟩) ?_ ?_
         rotate_left
         ·intro w'
          go_simp
          with_reducible rfl
         rotate_left
         ·simp only [puts_]
          rfl
         refine pure_ (i := 22) (N := some 71) (v := ?_) (a' := ?_) (bl 53 8388607) rfl rfl (any_of HT_.out (by kernel_rfl)) (fun _ _ _ h => h) (Or.inl ⟨by rfl, ?_⟩) ?_ ?_
         rotate_left
         ·intro w'
          go_simp
          with_reducible rfl
         rotate_left
         ·simp only [puts_]
          rfl
         refine pure_ (i := 24) (N := some 73) (v := ?_) (a' := ?_) (bl 53 25165823) rfl rfl (any_of HT_.out (by kernel_rfl)) (fun _ _ _ h => h) (Or.inl ⟨by rfl, ?_⟩) ?_ ?_
         rotate_left
         ·intro w'
          go_simp
          with_reducible rfl
         rotate_left
         ·simp only [puts_]
          rfl
         refine pure_ (i := 25) (N := some 74) (v := ?_) (a' := ?_) (bl 53 58720255) rfl rfl (any_of HT_.out (by kernel_rfl)) (fun _ _ _ h => h) (Or.inl ⟨by rfl, ?_⟩) ?_ ?_
         rotate_left
         ·intro w'
          go_simp
          with_reducible rfl
         rotate_left
         ·simp only [puts_]
          rfl
         refine pure_ (i := 26) (N := some 75) (v := ?_) (a' := ?_) (bl 53 125829119) rfl rfl (any_of HT_.out (by kernel_rfl)) (fun _ _ _ h => h) (Or.inl ⟨by rfl, ?_⟩) ?_ ?_
         rotate_left
         ·intro w'
          go_simp
          with_reducible rfl
         rotate_left
         ·simp only [puts_]
          rfl
         refine pure_ (i := 27) (N := some 76) (v := ?_) (a' := ?_) (bl 53 260046847) rfl rfl (any_of HT_.out (by kernel_rfl)) (fun _ _ _ h => h) (Or.inl ⟨by rfl, ?_⟩) ?_ ?_
         rotate_left
         ·intro w'
          go_simp
          with_reducible rfl
         rotate_left
         ·simp only [puts_]
          rfl
         refine pure_ (i := 28) (N := some 77) (v := ?_) (a' := ?_) (bl 53 528482303) rfl rfl (any_of HT_.out (by kernel_rfl)) (fun _ _ _ h => h) (Or.inl ⟨by rfl, ?_⟩) ?_ ?_
         rotate_left
         ·intro w'
          go_simp
          with_reducible rfl
         rotate_left
         ·simp only [puts_]
          rfl
         refine pure_ (i := 29) (N := some 78) (v := ?_) (a' := ?_) (bl 53 1065353215) rfl rfl (any_of HT_.out (by kernel_rfl)) (fun _ _ _ h => h) (Or.inl ⟨by rfl, ?_⟩) ?_ ?_
         rotate_left
         ·intro w'
          go_simp
          with_reducible rfl
         rotate_left
         ·simp only [puts_]
          rfl
         refine pure_ (i := 30) (N := some 79) (v := ?_) (a' := ?_) (bl 53 2139095039) rfl rfl (any_of HT_.out (by kernel_rfl)) (fun _ _ _ h => h) (Or.inl ⟨by rfl, ?_⟩) ?_ ?_
         rotate_left
         ·intro w'
          go_simp
          with_reducible rfl
         rotate_left
         ·simp only [puts_]
          rfl
         refine pure_ (i := 31) (N := some 80) (v := ?_) (a' := ?_) (bl 53 4286578687) rfl rfl (any_of HT_.out (by kernel_rfl)) (fun _ _ _ h => h) (Or.inl ⟨by rfl, ?_⟩) ?_ ?_
         rotate_left
         ·intro w'
          go_simp
          with_reducible rfl
         rotate_left
         ·simp only [puts_]
          rfl
         refine pure_ (i := 32) (N := some 81) (v := ?_) (a' := ?_) (bl 53 8581545983) rfl rfl (any_of HT_.out (by kernel_rfl)) (fun _ _ _ h => h) (Or.inl ⟨by rfl, ?_⟩) ?_ ?_
         rotate_left
         ·intro w'
          go_simp
          with_reducible rfl
         rotate_left
         ·simp only [puts_]
          rfl
         refine pure_ (i := 33) (N := some 82) (v := ?_) (a' := ?_) (bl 53 17171480575) rfl rfl (any_of HT_.out (by kernel_rfl)) (fun _ _ _ h => h) (Or.inl ⟨by rfl, ?_⟩) ?_ ?_
         rotate_left
         ·intro w'
          go_simp
          with_reducible rfl
         rotate_left
         ·simp only [puts_]
          rfl
         refine take_ (i := 23) (N := some 72) (v := ?_) (a' := ?_) (bl 53 17179869183) rfl rfl (take_ofW HT_.out HW_.out (by kernel_rfl)) (fun _ _ _ h => h) (Or.inl ⟨by rfl, ?_⟩) hHeld ?_ ?_
         rotate_left
         ·rintro w' ⟨s0, s1, s2⟩
          go_simp
          with_reducible rfl
         rotate_left
         ·simp only [puts_]
          rfl
         refine pure_ (i := 34) (N := some 83) (v := ?_) (a' := ?_) (bl 53 34359738367) rfl rfl (any_of HT_.out (by kernel_rfl)) (fun _ _ _ h => h) (Or.inl ⟨by rfl, ?_⟩) ?_ ?_
         rotate_left
         ·intro w'
          go_simp
          with_reducible rfl
         rotate_left
         ·simp only [puts_]
          rfl
         refine pure_ (i := 35) (N := some 84) (v := ?_) (a' := ?_) (bl 53 68719476735) rfl rfl (any_of HT_.out (by kernel_rfl)) (fun _ _ _ h => h) (Or.inl ⟨by rfl, ?_⟩) ?_ ?_
         rotate_left
         ·intro w'
          go_simp
          with_reducible rfl
         rotate_left
         ·simp only [puts_]
          rfl
         refine pure_ (i := 36) (N := some 85) (v := ?_) (a' := ?_) (bl 53 137438953471) rfl rfl (any_of HT_.out (by kernel_rfl)) (fun _ _ _ h => h) (Or.inl ⟨by rfl, ?_⟩) ?_ ?_
         rotate_left
         ·intro w'
          go_simp
          with_reducible rfl
         rotate_left
         ·simp only [puts_]
          rfl
         refine pure_ (i := 37) (N := some 86) (v := undef) (a' := ?_) (bl 53 274877906943) rfl rfl (any_of HT_.out (by kernel_rfl)) (fun _ _ _ h => h) (Or.inr ⟨by rfl, rfl⟩) ?_ ?_
         rotate_left
         ·simp only [puts_]
          rfl
         refine pure_ (i := 38) (N := some 87) (v := undef) (a' := ?_) (bl 53 549755813887) rfl rfl (any_of HT_.out (by kernel_rfl)) (fun _ _ _ h => h) (Or.inr ⟨by rfl, rfl⟩) ?_ ?_
         rotate_left
         ·simp only [puts_]
          rfl
         refine pure_ (i := 39) (N := some 88) (v := undef) (a' := ?_) (bl 53 1099511627775) rfl rfl (any_of HT_.out (by kernel_rfl)) (fun _ _ _ h => h) (Or.inr ⟨by rfl, rfl⟩) ?_ ?_
         rotate_left
         ·simp only [puts_]
          rfl
         refine pure_ (i := 40) (N := some 89) (v := undef) (a' := ?_) (bl 53 2199023255551) rfl rfl (any_of HT_.out (by kernel_rfl)) (fun _ _ _ h => h) (Or.inr ⟨by rfl, rfl⟩) ?_ ?_
         rotate_left
         ·simp only [puts_]
          rfl
         refine pure_ (i := 41) (N := some 90) (v := undef) (a' := ?_) (bl 53 4398046511103) rfl rfl (any_of HT_.out (by kernel_rfl)) (fun _ _ _ h => h) (Or.inr ⟨by rfl, rfl⟩) ?_ ?_
         rotate_left
         ·simp only [puts_]
          rfl
         refine pure_ (i := 42) (N := some 91) (v := undef) (a' := ?_) (bl 53 8796093022207) rfl rfl (any_of HT_.out (by kernel_rfl)) (fun _ _ _ h => h) (Or.inr ⟨by rfl, rfl⟩) ?_ ?_
         rotate_left
         ·simp only [puts_]
          rfl
         refine pure_ (i := 43) (N := some 92) (v := undef) (a' := ?_) (bl 53 17592186044415) rfl rfl (any_of HT_.out (by kernel_rfl)) (fun _ _ _ h => h) (Or.inr ⟨by rfl, rfl⟩) ?_ ?_
         rotate_left
         ·simp only [puts_]
          rfl
         refine pure_ (i := 44) (N := some 93) (v := undef) (a' := ?_) (bl 53 35184372088831) rfl rfl (any_of HT_.out (by kernel_rfl)) (fun _ _ _ h => h) (Or.inr ⟨by rfl, rfl⟩) ?_ ?_
         rotate_left
         ·simp only [puts_]
          rfl
         refine pure_ (i := 45) (N := some 94) (v := undef) (a' := ?_) (bl 53 70368744177663) rfl rfl (any_of HT_.out (by kernel_rfl)) (fun _ _ _ h => h) (Or.inr ⟨by rfl, rfl⟩) ?_ ?_
         rotate_left
         ·simp only [puts_]
          rfl
         refine pure_ (i := 46) (N := some 95) (v := undef) (a' := ?_) (bl 53 140737488355327) rfl rfl (any_of HT_.out (by kernel_rfl)) (fun _ _ _ h => h) (Or.inr ⟨by rfl, rfl⟩) ?_ ?_
         rotate_left
         ·simp only [puts_]
          rfl
         refine pure_ (i := 47) (N := some 96) (v := undef) (a' := ?_) (bl 53 281474976710655) rfl rfl (any_of HT_.out (by kernel_rfl)) (fun _ _ _ h => h) (Or.inr ⟨by rfl, rfl⟩) ?_ ?_
         rotate_left
         ·simp only [puts_]
          rfl
         refine pure_ (i := 48) (N := some 97) (v := ?_) (a' := ?_) (bl 53 562949953421311) rfl rfl (any_of HT_.out (by kernel_rfl)) (fun _ _ _ h => h) (Or.inl ⟨by rfl, ?_⟩) ?_ ?_
         rotate_left
         ·intro w'
          go_simp
          with_reducible rfl
         rotate_left
         ·simp only [puts_]
          rfl
         refine pure_ (i := 49) (N := some 98) (v := ?_) (a' := ?_) (bl 53 1125899906842623) rfl rfl (any_of HT_.out (by kernel_rfl)) (fun _ _ _ h => h) (Or.inl ⟨by rfl, ?_⟩) ?_ ?_
         rotate_left
         ·intro w'
          go_simp
          with_reducible rfl
         rotate_left
         ·simp only [puts_]
          rfl
         refine pure_ (i := 50) (N := some 99) (v := undef) (a' := ?_) (bl 53 2251799813685247) rfl rfl (any_of HT_.out (by kernel_rfl)) (fun _ _ _ h => h) (Or.inr ⟨by rfl, rfl⟩) ?_ ?_
         rotate_left
         ·simp only [puts_]
          rfl
         refine pure_ (i := 51) (N := some 100) (v := ?_) (a' := ?_) (bl 53 4503599627370495) rfl rfl (any_of HT_.out (by kernel_rfl)) (fun _ _ _ h => h) (Or.inl ⟨by rfl, ?_⟩) ?_ ?_
         rotate_left
         ·intro w'
          go_simp
          with_reducible rfl
         rotate_left
         ·simp only [puts_]
          rfl
         refine pure_ (i := 52) (N := some 6) (v := ?_) (a' := ?_) (bl 53 9007199254740991) rfl rfl (any_of HT_.out (by kernel_rfl)) (fun _ _ _ h => h) (Or.inl ⟨by rfl, ?_⟩) ?_ ?_
         rotate_left
         ·intro w'
          go_simp
          with_reducible rfl
         rotate_left
         ·simp only [puts_]
          rfl
         refine done_ (done_of HT_.out (by kernel_rfl)) ?_
         try go_wp2
         go_ret
         exact ⟨by first | rfl | (simp [errW_none, errW_some] <;> rfl) | (simp only [← hji6, ← hji7, ← hji9, ← hji11]; first | rfl | (simp [errW_none, errW_some] <;> rfl)) | (simp [*, errW_none, errW_some] <;> rfl), by repeat (first | (with_reducible first | exact HB.out | apply below_alloc | apply pw_below_drewN | apply below_drew1 | refine below_set ?_ GE363.out) | exact HB.out)⟩
       ·rw [if_neg c17] at H
        exact absurd H (by simp)
      ·rw [if_neg c16] at H
       have c16b0 : (t378 == 0) = false := beq_eq_false_iff_ne.mpr c16
       have c16b1 : (t378 != 0) = true := bne_iff_ne.mpr c16
       obtain rfl := Option.some.inj H
       go_enter Try.func12, Try.ntmps12
       try go_wp2_with (first | ((with_reducible refine gate_dst (N := 4) rfl ?_); (try (refine gate_guard (by rfl) ?_; dsimp only)); refine box_event ?hg (N := 4) ?hd (cs := #[.int .i64 a1_0, .int .i64 a1_1, .int .i64 a1_2]) (t := 31) ?hr ?_; (case hd => rfl); (case hg => rfl); (case hr => first | (go_simp; done) | (go_simp; rfl)); intro gb363 hg w79 hbox hb; have n0_ := Aside0.mk (below_step (by repeat (first | (with_reducible first | exact HB.out | apply below_alloc | apply pw_below_drewN | apply below_drew1) | exact HB.out)) hb); have n1_ := Aside0.mk (hbox); have n2_ := Aside0.mk ((by rw [hg]; exact (below_size (by repeat (first | (with_reducible first | exact HB.out | apply below_alloc | apply pw_below_drewN | apply below_drew1) | exact HB.out))) : w.heap.size ≤ gb363)); have n3_ := Aside0.mk ((by rw [hg]; exact (below_size (by repeat (first | (with_reducible first | exact HB.out | apply below_alloc | apply pw_below_drewN | apply below_drew1) | exact HB.out))) : w.heap.size ≤ gb363)); clear HB; have HB := n0_; have BK363 := n1_; have GW363 := n2_; have GE363 := n3_; clear n0_ n1_ n2_ n3_; clear hb hbox hg; have hcz80_0 : w79.cell? ⟨gb363, 0, none⟩ = some (.int .i64 a1_0) := (blk_cell BK363.out 0).trans rfl; have hcz80_1 : w79.cell? ⟨gb363, 1, none⟩ = some (.int .i64 a1_1) := (blk_cell BK363.out 1).trans rfl; have hcz80_2 : w79.cell? ⟨gb363, 2, none⟩ = some (.int .i64 a1_2) := (blk_cell BK363.out 2).trans rfl; have hfz80_0 := blk_frozen BK363.out 0; have hfz80_1 := blk_frozen BK363.out 1; have hfz80_2 := blk_frozen BK363.out 2) | ((with_reducible refine gate_dst (N := 14) rfl ?_); (try (refine gate_guard (by rfl) ?_; dsimp only)); refine Kd.R_lit k31 _ 31 ?hg (N := 14) ?hd (xs := ([(⟨a1_0, a1_1, a1_2⟩ : S31)] : List (S31))) (inner := [.int .i64 a1_0, .int .i64 a1_1, .int .i64 a1_2]) (ok := fun _ => True) (okp := fun _ => True) ?hr ?hp (fun _ hk => hk) trivial (Below.refl _ _) (Nat.le_refl _) (by simp) ?_; (case hd => rfl); (case hg => rfl); (case hr => first | (go_simp; done) | (go_simp; rfl)); (case hp => exact (Reps.c3 (show Kd.M k31 _ _ _ (⟨a1_0, a1_1, a1_2⟩ : S31) [.int .i64 a1_0, .int .i64 a1_1, .int .i64 a1_2] from (k31_mkM _ _ _ (⟨a1_0, a1_1, a1_2⟩ : S31) )) (Reps.none _ _))); intro v365 w81 ho82 hb hg_ hnew_; clear hg_ hnew_; (first | rw [← Ny364.out] at ho82 | (simp only [Int.reduceToNat] at ho82; rw [← Ny364.out] at ho82)); have n0_ := Aside0.mk (Kd.R_lower (Kd.R_newB ho82 (g := gb363) (o := .cells #[.int .i64 a1_0, .int .i64 a1_1, .int .i64 a1_2] 31 (0, 0)) (by (with_reducible repeat (first | refine blk_drewN ?_ _ | refine blk_drew ?_ | refine blk_alloc ?_ _)); exact BK363.out)) (below_size (by repeat (first | (with_reducible first | exact HB.out | apply below_alloc | apply pw_below_drewN | apply below_drew1 | refine below_set ?_ GE363.out) | exact HB.out)))); have n1_ := Aside0.mk (blk_below (g := gb363) (o := .cells #[.int .i64 a1_0, .int .i64 a1_1, .int .i64 a1_2] 31 (0, 0)) (by (with_reducible repeat (first | refine blk_drewN ?_ _ | refine blk_drew ?_ | refine blk_alloc ?_ _)); exact BK363.out) hb); have n2_ := Aside0.mk (below_step (by repeat (first | (with_reducible first | exact HB.out | apply below_alloc | apply pw_below_drewN | apply below_drew1 | refine below_set ?_ GE363.out) | exact HB.out)) hb); clear BK363; clear HB; have HO366 := n0_; have BK363 := n1_; have HB := n2_; clear n0_ n1_ n2_; clear hb ho82; obtain ⟨Ao83, co83, eo83⟩ := Kd.R_slice HO366.out; subst eo83) | ((with_reducible refine gate_callee (f := 16) rfl ?_); refine goesL_ (some 15) rfl rfl Try.func16 (by kernel_rfl) rfl #[.slice Ao83 y364.length co83] rfl (by (try simp only [List.map_toArray, List.map_cons, List.map_nil]); first | done | rfl | (simp only [List.length_drop, List.length_take]; rfl)) ?_; (with_reducible refine (flywheelref27_Good.calls k _ _ y364 true _ ?side1 ?side2 A4.out).mono ?_); (case side1 => repeat (first | exact (Kd.R_reads' HO366.out).2.2 | (with_reducible refine Kd.C_alloc ?_ _) | (with_reducible refine Kd.C_drewN ?_ _) | (with_reducible refine Kd.C_drew ?_))); (case side2 => exact (Kd.R_reads' HO366.out).2.1); rintro e w' ⟨rfl, ⟨nd, rfl⟩⟩; refine ⟨_, rfl, ?_⟩; have hcz84_0 : w81.cell? ⟨gb363, 0, none⟩ = some (.int .i64 a1_0) := (blk_cell BK363.out 0).trans rfl; have hcz84_1 : w81.cell? ⟨gb363, 1, none⟩ = some (.int .i64 a1_1) := (blk_cell BK363.out 1).trans rfl; have hcz84_2 : w81.cell? ⟨gb363, 2, none⟩ = some (.int .i64 a1_2) := (blk_cell BK363.out 2).trans rfl; have hfz84_0 := blk_frozen BK363.out 0; have hfz84_1 := blk_frozen BK363.out 1; have hfz84_2 := blk_frozen BK363.out 2) | ((with_reducible refine gate_dst (N := 31) rfl ?_); (try (refine gate_guard (by rfl) ?_; dsimp only)); refine Kd.R_lit k31 _ 31 ?hg (N := 31) ?hd (xs := ([(⟨a1_0, a1_1, a1_2⟩ : S31)] : List (S31))) (inner := [.int .i64 a1_0, .int .i64 a1_1, .int .i64 a1_2]) (ok := fun _ => True) (okp := fun _ => True) ?hr ?hp (fun _ hk => hk) trivial (Below.refl _ _) (Nat.le_refl _) (by simp) ?_; (case hd => rfl); (case hg => rfl); (case hr => first | (go_simp; done) | (go_simp; rfl)); (case hp => exact (Reps.c3 (show Kd.M k31 _ _ _ (⟨a1_0, a1_1, a1_2⟩ : S31) [.int .i64 a1_0, .int .i64 a1_1, .int .i64 a1_2] from (k31_mkM _ _ _ (⟨a1_0, a1_1, a1_2⟩ : S31) )) (Reps.none _ _))); intro v369 w85 ho86 hb hg_ hnew_; clear hg_ hnew_; (first | rw [← Ny368.out] at ho86 | (simp only [Int.reduceToNat] at ho86; rw [← Ny368.out] at ho86)); have n0_ := Aside0.mk (Kd.R_elder' (by (with_reducible repeat (first | apply Kd.R_alloc | apply Kd.R_drewN | apply Kd.R_drew)); exact HO366.out) (Kd.R_base ho86) hb); have n1_ := Aside0.mk (Kd.R_lower (Kd.R_newB (Kd.R_new' ho86 (Kd.R_lt (by (with_reducible repeat (first | apply Kd.R_alloc | apply Kd.R_drewN | apply Kd.R_drew)); exact HO366.out))) (g := gb363) (o := .cells #[.int .i64 a1_0, .int .i64 a1_1, .int .i64 a1_2] 31 (0, 0)) (by (with_reducible repeat (first | refine blk_drewN ?_ _ | refine blk_drew ?_ | refine blk_alloc ?_ _)); exact BK363.out)) (below_size (by repeat (first | (with_reducible first | exact HB.out | apply below_alloc | apply pw_below_drewN | apply below_drew1 | refine below_set ?_ GE363.out) | exact HB.out)))); have n2_ := Aside0.mk (blk_below (g := gb363) (o := .cells #[.int .i64 a1_0, .int .i64 a1_1, .int .i64 a1_2] 31 (0, 0)) (by (with_reducible repeat (first | refine blk_drewN ?_ _ | refine blk_drew ?_ | refine blk_alloc ?_ _)); exact BK363.out) hb); have n3_ := Aside0.mk (below_step (by repeat (first | (with_reducible first | exact HB.out | apply below_alloc | apply pw_below_drewN | apply below_drew1 | refine below_set ?_ GE363.out) | exact HB.out)) hb); clear HO366; clear BK363; clear HB; have HO366 := n0_; have HO370 := n1_; have BK363 := n2_; have HB := n3_; clear n0_ n1_ n2_ n3_; clear hb ho86; obtain ⟨Ao87, co87, eo87⟩ := Kd.R_slice HO370.out; subst eo87) | ((with_reducible refine gate_callee (f := 18) rfl ?_); refine goesL_ (some 32) rfl rfl Try.func18 (by kernel_rfl) rfl #[.int .i64 a0, .slice Ao87 y368.length co87] rfl (by (try simp only [List.map_toArray, List.map_cons, List.map_nil]); first | done | rfl | (simp only [List.length_drop, List.length_take]; rfl)) ?_; (with_reducible refine (alloc_Split.calls k a0 _ _ y368 t371 _ ?side1 ?side2 A8.out).mono ?_); (case side1 => repeat (first | exact (Kd.R_reads' HO370.out).2.2 | (with_reducible refine Kd.C_alloc ?_ _) | (with_reducible refine Kd.C_drewN ?_ _) | (with_reducible refine Kd.C_drew ?_))); (case side2 => exact (Kd.R_reads' HO370.out).2.1); rintro e w88 ⟨v372, rfl, ho0, hb⟩; refine ⟨_, rfl, ?_⟩; have n0_ := Aside0.mk (Kd.R_below (by (with_reducible repeat (first | apply Kd.R_alloc | apply Kd.R_drewN | apply Kd.R_drew)); exact HO366.out) hb); have n1_ := Aside0.mk (Kd.R_below (by (with_reducible repeat (first | apply Kd.R_alloc | apply Kd.R_drewN | apply Kd.R_drew)); exact HO370.out) hb); have n2_ := Aside0.mk (Kd.R_lower ho0 (below_size (by repeat (first | (with_reducible first | exact HB.out | apply below_alloc | apply pw_below_drewN | apply below_drew1 | refine below_set ?_ GE363.out) | exact HB.out)))); have n3_ := Aside0.mk (blk_below (g := gb363) (o := .cells #[.int .i64 a1_0, .int .i64 a1_1, .int .i64 a1_2] 31 (0, 0)) (by (with_reducible repeat (first | refine blk_drewN ?_ _ | refine blk_drew ?_ | refine blk_alloc ?_ _)); exact BK363.out) hb); have n4_ := Aside0.mk (below_step (by repeat (first | (with_reducible first | exact HB.out | apply below_alloc | apply pw_below_drewN | apply below_drew1 | refine below_set ?_ GE363.out) | exact HB.out)) hb); clear HO366; clear HO370; clear BK363; clear HB; have HO366 := n0_; have HO370 := n1_; have HO373 := n2_; have BK363 := n3_; have HB := n4_; clear n0_ n1_ n2_ n3_ n4_; (try clear hb); (try clear hb2); (try clear hk); (try clear hi); (try clear ho0); have hcz89_0 : w88.cell? ⟨gb363, 0, none⟩ = some (.int .i64 a1_0) := (blk_cell BK363.out 0).trans rfl; have hcz89_1 : w88.cell? ⟨gb363, 1, none⟩ = some (.int .i64 a1_1) := (blk_cell BK363.out 1).trans rfl; have hcz89_2 : w88.cell? ⟨gb363, 2, none⟩ = some (.int .i64 a1_2) := (blk_cell BK363.out 2).trans rfl; have hfz89_0 := blk_frozen BK363.out 0; have hfz89_1 := blk_frozen BK363.out 1; have hfz89_2 := blk_frozen BK363.out 2) | ((with_reducible refine gate_dst (N := 39) rfl ?_); (try (refine gate_guard (by rfl) ?_; dsimp only)); refine Kd.R_lit k31 _ 31 ?hg (N := 39) ?hd (xs := ([(⟨a1_0, a1_1, a1_2⟩ : S31)] : List (S31))) (inner := [.int .i64 a1_0, .int .i64 a1_1, .int .i64 a1_2]) (ok := fun _ => True) (okp := fun _ => True) ?hr ?hp (fun _ hk => hk) trivial (Below.refl _ _) (Nat.le_refl _) (by simp) ?_; (case hd => rfl); (case hg => rfl); (case hr => first | (go_simp; done) | (go_simp; rfl)); (case hp => exact (Reps.c3 (show Kd.M k31 _ _ _ (⟨a1_0, a1_1, a1_2⟩ : S31) [.int .i64 a1_0, .int .i64 a1_1, .int .i64 a1_2] from (k31_mkM _ _ _ (⟨a1_0, a1_1, a1_2⟩ : S31) )) (Reps.none _ _))); intro v375 w90 ho91 hb hg_ hnew_; clear hg_ hnew_; (first | rw [← Ny374.out] at ho91 | (simp only [Int.reduceToNat] at ho91; rw [← Ny374.out] at ho91)); have n0_ := Aside0.mk (Kd.R_elder' (by (with_reducible repeat (first | apply Kd.R_alloc | apply Kd.R_drewN | apply Kd.R_drew)); exact HO366.out) (Kd.R_base ho91) hb); have n1_ := Aside0.mk (Kd.R_elder' (by (with_reducible repeat (first | apply Kd.R_alloc | apply Kd.R_drewN | apply Kd.R_drew)); exact HO370.out) (Kd.R_base ho91) hb); have n2_ := Aside0.mk (Kd.R_below (by (with_reducible repeat (first | apply Kd.R_alloc | apply Kd.R_drewN | apply Kd.R_drew)); exact HO373.out) hb); have n3_ := Aside0.mk (Kd.R_lower (Kd.R_newB (Kd.R_new' (Kd.R_new' ho91 (Kd.R_lt (by (with_reducible repeat (first | apply Kd.R_alloc | apply Kd.R_drewN | apply Kd.R_drew)); exact HO366.out))) (Kd.R_lt (by (with_reducible repeat (first | apply Kd.R_alloc | apply Kd.R_drewN | apply Kd.R_drew)); exact HO370.out))) (g := gb363) (o := .cells #[.int .i64 a1_0, .int .i64 a1_1, .int .i64 a1_2] 31 (0, 0)) (by (with_reducible repeat (first | refine blk_drewN ?_ _ | refine blk_drew ?_ | refine blk_alloc ?_ _)); exact BK363.out)) (below_size (by repeat (first | (with_reducible first | exact HB.out | apply below_alloc | apply pw_below_drewN | apply below_drew1 | refine below_set ?_ GE363.out) | exact HB.out)))); have n4_ := Aside0.mk (blk_below (g := gb363) (o := .cells #[.int .i64 a1_0, .int .i64 a1_1, .int .i64 a1_2] 31 (0, 0)) (by (with_reducible repeat (first | refine blk_drewN ?_ _ | refine blk_drew ?_ | refine blk_alloc ?_ _)); exact BK363.out) hb); have n5_ := Aside0.mk (below_step (by repeat (first | (with_reducible first | exact HB.out | apply below_alloc | apply pw_below_drewN | apply below_drew1 | refine below_set ?_ GE363.out) | exact HB.out)) hb); clear HO366; clear HO370; clear HO373; clear BK363; clear HB; have HO366 := n0_; have HO370 := n1_; have HO373 := n2_; have HO376 := n3_; have BK363 := n4_; have HB := n5_; clear n0_ n1_ n2_ n3_ n4_ n5_; clear hb ho91; obtain ⟨Ao92, co92, eo92⟩ := Kd.R_slice HO376.out; subst eo92) | ((with_reducible refine gate_callee (f := 36) rfl ?_); refine goesL_ (some 42) rfl rfl Try.func36 (by kernel_rfl) rfl #[.int .i64 a0, .slice Ao92 y374.length co92, .int .i64 (wrap64 (a2)), .int .i64 0] rfl (by (try simp only [List.map_toArray, List.map_cons, List.map_nil]); first | done | rfl | (simp only [List.length_drop, List.length_take]; rfl)) ?_; (with_reducible refine (alloc_Share.calls k a0 _ _ y374 (wrap64 (a2)) 0 t377 t378 _ ?side1 ?side2 A10.out).mono ?_); (case side1 => repeat (first | exact (Kd.R_reads' HO376.out).2.2 | (with_reducible refine Kd.C_alloc ?_ _) | (with_reducible refine Kd.C_drewN ?_ _) | (with_reducible refine Kd.C_drew ?_))); (case side2 => exact (Kd.R_reads' HO376.out).2.1); rintro e w93 ⟨v379, rfl, ho0, hb⟩; refine ⟨_, rfl, ?_⟩; have n0_ := Aside0.mk (Kd.R_below (by (with_reducible repeat (first | apply Kd.R_alloc | apply Kd.R_drewN | apply Kd.R_drew)); exact HO366.out) hb); have n1_ := Aside0.mk (Kd.R_below (by (with_reducible repeat (first | apply Kd.R_alloc | apply Kd.R_drewN | apply Kd.R_drew)); exact HO370.out) hb); have n2_ := Aside0.mk (Kd.R_below (by (with_reducible repeat (first | apply Kd.R_alloc | apply Kd.R_drewN | apply Kd.R_drew)); exact HO373.out) hb); have n3_ := Aside0.mk (Kd.R_below (by (with_reducible repeat (first | apply Kd.R_alloc | apply Kd.R_drewN | apply Kd.R_drew)); exact HO376.out) hb); have n4_ := Aside0.mk (Kd.R_lower ho0 (below_size (by repeat (first | (with_reducible first | exact HB.out | apply below_alloc | apply pw_below_drewN | apply below_drew1 | refine below_set ?_ GE363.out) | exact HB.out)))); have n5_ := Aside0.mk (blk_below (g := gb363) (o := .cells #[.int .i64 a1_0, .int .i64 a1_1, .int .i64 a1_2] 31 (0, 0)) (by (with_reducible repeat (first | refine blk_drewN ?_ _ | refine blk_drew ?_ | refine blk_alloc ?_ _)); exact BK363.out) hb); have n6_ := Aside0.mk (below_step (by repeat (first | (with_reducible first | exact HB.out | apply below_alloc | apply pw_below_drewN | apply below_drew1 | refine below_set ?_ GE363.out) | exact HB.out)) hb); clear HO366; clear HO370; clear HO373; clear HO376; clear BK363; clear HB; have HO366 := n0_; have HO370 := n1_; have HO373 := n2_; have HO376 := n3_; have HO380 := n4_; have BK363 := n5_; have HB := n6_; clear n0_ n1_ n2_ n3_ n4_ n5_ n6_; (try clear hb); (try clear hb2); (try clear hk); (try clear hi); (try clear ho0); have hcz94_0 : w93.cell? ⟨gb363, 0, none⟩ = some (.int .i64 a1_0) := (blk_cell BK363.out 0).trans rfl; have hcz94_1 : w93.cell? ⟨gb363, 1, none⟩ = some (.int .i64 a1_1) := (blk_cell BK363.out 1).trans rfl; have hcz94_2 : w93.cell? ⟨gb363, 2, none⟩ = some (.int .i64 a1_2) := (blk_cell BK363.out 2).trans rfl; have hfz94_0 := blk_frozen BK363.out 0; have hfz94_1 := blk_frozen BK363.out 1; have hfz94_2 := blk_frozen BK363.out 2))
       have n0_ := Aside0.mk (Kd.R_drew HO366.out)
       have n1_ := Aside0.mk (Kd.R_drew HO370.out)
       have n2_ := Aside0.mk (Kd.R_drew HO373.out)
       have n3_ := Aside0.mk (Kd.R_drew HO376.out)
       have n4_ := Aside0.mk (Kd.R_drew HO380.out)
       have n5_ := Aside0.mk (blk_drew BK363.out)
       have n6_ := Aside0.mk (below_drew1 HB.out)
       clear HO366
       clear HO370
       clear HO373
       clear HO376
       clear HO380
       clear BK363
       clear HB
       have HO366 := n0_
       have HO370 := n1_
       have HO373 := n2_
       have HO376 := n3_
       have HO380 := n4_
       have BK363 := n5_
       have HB := n6_
       clear n0_ n1_ n2_ n3_ n4_ n5_ n6_
       obtain ⟨Ao96, co96, eo96⟩ := Kd.R_slice HO373.out
       (first | subst eo96 | (injection eo96 with f1_ f2_ f3_; have f4_ := f1_.symm; have f5_ := f3_.symm; clear f1_ f2_ f3_; subst f4_; subst f5_))
       have p381 : 0 ≤ (0 : Int) := (by omega)
       have q381 : 0 < (t371.length : Int) := of_decide_eq_true (by first | (with_reducible assumption) | assumption)
       obtain ⟨ad381, e381, hx381_0⟩ := Kd.at_int (Kd.R_reads' HO373.out).2.2 0 p381 q381
       cases e381
       have qi381 : (0 < t371.length) = True := eq_true (by omega)
       (try rw [show ((0 : Int)).toNat = 0 from rfl] at hx381_0)
       (try rw [Addr.add_zero'] at hx381_0)
       replace p381 := eq_true p381
       replace q381 := eq_true q381
       obtain ⟨Ao97, co97, eo97⟩ := Kd.R_slice HO380.out
       (first | subst eo97 | (injection eo97 with f1_ f2_ f3_; have f4_ := f1_.symm; have f5_ := f3_.symm; clear f1_ f2_ f3_; subst f4_; subst f5_))
       refine start_ (n := 53) (S := fun w' => w'.cell? ad381 = some (.int .i64 (rd t371 0))) (ds := []) #[false, false, false, false, false, false, false, false, false, false, false, false, false, false, false, false, false, false, false, false, false, false, false, false, false, false, false, false, false, false, false, false, false, false, false, false, false, false, false, false, false, false, false, false, false, false, false, false, false, false, false, false, false] (by kernel_rfl) rfl rfl (hx381_0) (fun hHeld => ?_); refine with_tabW flywheellaw27_AllocOne.tab8 flywheellaw27_AllocOne.bits8 (fun HT_ HW_ => ?_)
       generalize w93.drew = w95 at HO366 HO370 HO373 HO376 HO380 BK363 HB hx381_0 hHeld ⊢
       refine pure_ (i := 0) (N := some 49) (v := ?_) (a' := ?_) (bl 53 1) rfl rfl (any_of HT_.out (by kernel_rfl)) (fun _ _ _ h => h) (Or.inl ⟨by rfl, ?_⟩) ?_ ?_
       rotate_left
       ·intro w'
        go_simp
        with_reducible rfl
       rotate_left
       ·simp only [puts_]
        rfl
       refine pure_ (i := 1) (N := some 50) (v := ?_) (a' := ?_) (bl 53 3) rfl rfl (any_of HT_.out (by kernel_rfl)) (fun _ _ _ h => h) (Or.inl ⟨by rfl, ?_⟩) ?_ ?_
       rotate_left
       ·intro w'
        go_simp
        with_reducible rfl
       rotate_left
       ·simp only [puts_]
        rfl
       refine pure_ (i := 2) (N := some 51) (v := ?_) (a' := ?_) (bl 53 7) rfl rfl (any_of HT_.out (by kernel_rfl)) (fun _ _ _ h => h) (Or.inl ⟨by rfl, ?_⟩) ?_ ?_
       rotate_left
       ·intro w'
        go_simp
        with_reducible rfl
       rotate_left
       ·simp only [puts_]
        rfl
       refine pure_ (i := 3) (N := some 52) (v := ?_) (a' := ?_) (bl 53 15) rfl rfl (any_of HT_.out (by kernel_rfl)) (fun _ _ _ h => h) (Or.inl ⟨by rfl, ?_⟩) ?_ ?_
       rotate_left
       ·intro w'
        go_simp
        with_reducible rfl
       rotate_left
       ·simp only [puts_]
        rfl
       refine pure_ (i := 4) (N := some 53) (v := ?_) (a' := ?_) (bl 53 31) rfl rfl (any_of HT_.out (by kernel_rfl)) (fun _ _ _ h => h) (Or.inl ⟨by rfl, ?_⟩) ?_ ?_
       rotate_left
       ·intro w'
        go_simp
        with_reducible rfl
       rotate_left
       ·simp only [puts_]
        rfl
       refine pure_ (i := 5) (N := some 54) (v := ?_) (a' := ?_) (bl 53 63) rfl rfl (any_of HT_.out (by kernel_rfl)) (fun _ _ _ h => h) (Or.inl ⟨by rfl, ?_⟩) ?_ ?_
       rotate_left
       ·intro w'
        go_simp
        with_reducible rfl
       rotate_left
       ·simp only [puts_]
        rfl
       refine pure_ (i := 7) (N := some 56) (v := ?_) (a' := ?_) (bl 53 191) rfl rfl (any_of HT_.out (by kernel_rfl)) (fun _ _ _ h => h) (Or.inl ⟨by rfl, ?_⟩) ?_ ?_
       rotate_left
       ·intro w'
        go_simp
        with_reducible rfl
       rotate_left
       ·simp only [puts_]
        rfl
       refine take_ (i := 6) (N := some 55) (v := ?_) (a' := ?_) (bl 53 255) rfl rfl (take_ofW HT_.out HW_.out (by kernel_rfl)) (fun _ _ _ h => h) (Or.inl ⟨by rfl, ?_⟩) hHeld ?_ ?_
       rotate_left
       ·intro w' s0
        go_simp
        with_reducible rfl
       rotate_left
       ·simp only [puts_]
        rfl
       refine pure_ (i := 8) (N := some 57) (v := ?_) (a' := ?_) (bl 53 511) rfl rfl (any_of HT_.out (by kernel_rfl)) (fun _ _ _ h => h) (Or.inl ⟨by rfl, ?_⟩) ?_ ?_
       rotate_left
       ·intro w'
        go_simp
        with_reducible rfl
       rotate_left
       ·simp only [puts_]
        rfl
       refine pure_ (i := 9) (N := some 58) (v := ?_) (a' := ?_) (bl 53 1023) rfl rfl (any_of HT_.out (by kernel_rfl)) (fun _ _ _ h => h) (Or.inl ⟨by rfl, ?_⟩) ?_ ?_
       rotate_left
       ·intro w'
        go_simp
        with_reducible rfl
       rotate_left
       ·simp only [puts_]
        rfl
       refine pure_ (i := 10) (N := some 59) (v := ?_) (a' := ?_) (bl 53 2047) rfl rfl (any_of HT_.out (by kernel_rfl)) (fun _ _ _ h => h) (Or.inl ⟨by rfl, ?_⟩) ?_ ?_
       rotate_left
       ·intro w'
        go_simp
        with_reducible rfl
       rotate_left
       ·simp only [puts_]
        rfl
       refine pure_ (i := 11) (N := some 60) (v := ?_) (a' := ?_) (bl 53 4095) rfl rfl (any_of HT_.out (by kernel_rfl)) (fun _ _ _ h => h) (Or.inl ⟨by rfl, ?_⟩) ?_ ?_
       rotate_left
       ·intro w'
        go_simp
        with_reducible rfl
       rotate_left
       ·simp only [puts_]
        rfl
       refine pure_ (i := 12) (N := some 61) (v := ?_) (a' := ?_) (bl 53 8191) rfl rfl (any_of HT_.out (by kernel_rfl)) (fun _ _ _ h => h) (Or.inl ⟨by rfl, ?_⟩) ?_ ?_
       rotate_left
       ·intro w'
        go_simp
        with_reducible rfl
       rotate_left
       ·simp only [puts_]
        rfl
       refine pure_ (i := 13) (N := some 62) (v := ?_) (a' := ?_) (bl 53 16383) rfl rfl (any_of HT_.out (by kernel_rfl)) (fun _ _ _ h => h) (Or.inl ⟨by rfl, ?_⟩) ?_ ?_
       rotate_left
       ·intro w'
        go_simp
        with_reducible rfl
       rotate_left
       ·simp only [puts_]
        rfl
       refine pure_ (i := 14) (N := some 63) (v := ?_) (a' := ?_) (bl 53 32767) rfl rfl (any_of HT_.out (by kernel_rfl)) (fun _ _ _ h => h) (Or.inl ⟨by rfl, ?_⟩) ?_ ?_
       rotate_left
       ·intro w'
        go_simp
        with_reducible rfl
       rotate_left
       ·simp only [puts_]
        rfl
       refine pure_ (i := 15) (N := some 64) (v := ?_) (a' := ?_) (bl 53 65535) rfl rfl (any_of HT_.out (by kernel_rfl)) (fun _ _ _ h => h) (Or.inl ⟨by rfl, ?_⟩) ?_ ?_
       rotate_left
       ·intro w'
        go_simp
        with_reducible rfl
       rotate_left
       ·simp only [puts_]
        rfl
       refine pure_ (i := 16) (N := some 65) (v := ?_) (a' := ?_) (bl 53 131071) rfl rfl (any_of HT_.out (by kernel_rfl)) (fun _ _ _ h => h) (Or.inl ⟨by rfl, ?_⟩) ?_ ?_
       rotate_left
       ·intro w'
        go_simp
        with_reducible rfl
       rotate_left
       ·simp only [puts_]
        rfl
       refine pure_ (i := 17) (N := some 66) (v := ?_) (a' := ?_) (bl 53 262143) rfl rfl (any_of HT_.out (by kernel_rfl)) (fun _ _ _ h => h) (Or.inl ⟨by rfl, ?_⟩) ?_ ?_
       rotate_left
       ·intro w'
        go_simp
        with_reducible rfl
       rotate_left
       ·simp only [puts_]
        rfl
       refine pure_ (i := 18) (N := some 67) (v := ?_) (a' := ?_) (bl 53 524287) rfl rfl (any_of HT_.out (by kernel_rfl)) (fun _ _ _ h => h) (Or.inl ⟨by rfl, ?_⟩) ?_ ?_
       rotate_left
       ·intro w'
        go_simp
        with_reducible rfl
       rotate_left
       ·simp only [puts_]
        rfl
       refine pure_ (i := 19) (N := some 68) (v := ?_) (a' := ?_) (bl 53 1048575) rfl rfl (any_of HT_.out (by kernel_rfl)) (fun _ _ _ h => h) (Or.inl ⟨by rfl, ?_⟩) ?_ ?_
       rotate_left
       ·intro w'
        go_simp
        with_reducible rfl
       rotate_left
       ·simp only [puts_]
        rfl
       refine pure_ (i := 20) (N := some 69) (v := undef) (a' := ?_) (bl 53 2097151) rfl rfl (any_of HT_.out (by kernel_rfl)) (fun _ _ _ h => h) (Or.inr ⟨by rfl, rfl⟩) ?_ ?_
       rotate_left
       ·simp only [puts_]
        rfl
       refine pure_ (i := 21) (N := some 70) (v := undef) (a' := ?_) (bl 53 4194303) rfl rfl (any_of HT_.out (by kernel_rfl)) (fun _ _ _ h => h) (Or.inr ⟨by rfl, rfl⟩) ?_ ?_
       rotate_left
       ·simp only [puts_]
        rfl
       refine pure_ (i := 22) (N := some 71) (v := undef) (a' := ?_) (bl 53 8388607) rfl rfl (any_of HT_.out (by kernel_rfl)) (fun _ _ _ h => h) (Or.inr ⟨by rfl, rfl⟩) ?_ ?_
       rotate_left
       ·simp only [puts_]
        rfl
       refine pure_ (i := 23) (N := some 72) (v := undef) (a' := ?_) (bl 53 16777215) rfl rfl (any_of HT_.out (by kernel_rfl)) (fun _ _ _ h => h) (Or.inr ⟨by rfl, rfl⟩) ?_ ?_
       rotate_left
       ·simp only [puts_]
        rfl
       refine pure_ (i := 24) (N := some 73) (v := undef) (a' := ?_) (bl 53 33554431) rfl rfl (any_of HT_.out (by kernel_rfl)) (fun _ _ _ h => h) (Or.inr ⟨by rfl, rfl⟩) ?_ ?_
       rotate_left
       ·simp only [puts_]
        rfl
       refine pure_ (i := 25) (N := some 74) (v := undef) (a' := ?_) (bl 53 67108863) rfl rfl (any_of HT_.out (by kernel_rfl)) (fun _ _ _ h => h) (Or.inr ⟨by rfl, rfl⟩) ?_ ?_
       rotate_left
       ·simp only [puts_]
        rfl
       refine pure_ (i := 26) (N := some 75) (v := undef) (a' := ?_) (bl 53 134217727) rfl rfl (any_of HT_.out (by kernel_rfl)) (fun _ _ _ h => h) (Or.inr ⟨by rfl, rfl⟩) ?_ ?_
       rotate_left
       ·simp only [puts_]
        rfl
       refine pure_ (i := 27) (N := some 76) (v := undef) (a' := ?_) (bl 53 268435455) rfl rfl (any_of HT_.out (by kernel_rfl)) (fun _ _ _ h => h) (Or.inr ⟨by rfl, rfl⟩) ?_ ?_
       rotate_left
       ·simp only [puts_]
        rfl
       refine pure_ (i := 28) (N := some 77) (v := undef) (a' := ?_) (bl 53 536870911) rfl rfl (any_of HT_.out (by kernel_rfl)) (fun _ _ _ h => h) (Or.inr ⟨by rfl, rfl⟩) ?_ ?_
       rotate_left
       ·simp only [puts_]
        rfl
       refine pure_ (i := 29) (N := some 78) (v := undef) (a' := ?_) (bl 53 1073741823) rfl rfl (any_of HT_.out (by kernel_rfl)) (fun _ _ _ h => h) (Or.inr ⟨by rfl, rfl⟩) ?_ ?_
       rotate_left
       ·simp only [puts_]
        rfl
       refine pure_ (i := 30) (N := some 79) (v := undef) (a' := ?_) (bl 53 2147483647) rfl rfl (any_of HT_.out (by kernel_rfl)) (fun _ _ _ h => h) (Or.inr ⟨by rfl, rfl⟩) ?_ ?_
       rotate_left
       ·simp only [puts_]
        rfl
       refine pure_ (i := 31) (N := some 80) (v := undef) (a' := ?_) (bl 53 4294967295) rfl rfl (any_of HT_.out (by kernel_rfl)) (fun _ _ _ h => h) (Or.inr ⟨by rfl, rfl⟩) ?_ ?_
       rotate_left
       ·simp only [puts_]
        rfl
       refine pure_ (i := 32) (N := some 81) (v := undef) (a' := ?_) (bl 53 8589934591) rfl rfl (any_of HT_.out (by kernel_rfl)) (fun _ _ _ h => h) (Or.inr ⟨by rfl, rfl⟩) ?_ ?_
       rotate_left
       ·simp only [puts_]
        rfl
       refine pure_ (i := 33) (N := some 82) (v := undef) (a' := ?_) (bl 53 17179869183) rfl rfl (any_of HT_.out (by kernel_rfl)) (fun _ _ _ h => h) (Or.inr ⟨by rfl, rfl⟩) ?_ ?_
       rotate_left
       ·simp only [puts_]
        rfl
       refine pure_ (i := 34) (N := some 83) (v := undef) (a' := ?_) (bl 53 34359738367) rfl rfl (any_of HT_.out (by kernel_rfl)) (fun _ _ _ h => h) (Or.inr ⟨by rfl, rfl⟩) ?_ ?_
       rotate_left
       ·simp only [puts_]
        rfl
       refine pure_ (i := 35) (N := some 84) (v := ?_) (a' := ?_) (bl 53 68719476735) rfl rfl (any_of HT_.out (by kernel_rfl)) (fun _ _ _ h => h) (Or.inl ⟨by rfl, ?_⟩) ?_ ?_
       rotate_left
       ·intro w'
        go_simp
        with_reducible rfl
       rotate_left
       ·simp only [puts_]
        rfl
       refine pure_ (i := 36) (N := some 85) (v := ?_) (a' := ?_) (bl 53 137438953471) rfl rfl (any_of HT_.out (by kernel_rfl)) (fun _ _ _ h => h) (Or.inl ⟨by rfl, ?_⟩) ?_ ?_
       rotate_left
       ·intro w'
        go_simp
        with_reducible rfl
       rotate_left
       ·simp only [puts_]
        rfl
       refine pure_ (i := 37) (N := some 86) (v := undef) (a' := ?_) (bl 53 274877906943) rfl rfl (any_of HT_.out (by kernel_rfl)) (fun _ _ _ h => h) (Or.inr ⟨by rfl, rfl⟩) ?_ ?_
       rotate_left
       ·simp only [puts_]
        rfl
       refine pure_ (i := 38) (N := some 87) (v := undef) (a' := ?_) (bl 53 549755813887) rfl rfl (any_of HT_.out (by kernel_rfl)) (fun _ _ _ h => h) (Or.inr ⟨by rfl, rfl⟩) ?_ ?_
       rotate_left
       ·simp only [puts_]
        rfl
       refine pure_ (i := 39) (N := some 88) (v := undef) (a' := ?_) (bl 53 1099511627775) rfl rfl (any_of HT_.out (by kernel_rfl)) (fun _ _ _ h => h) (Or.inr ⟨by rfl, rfl⟩) ?_ ?_
       rotate_left
       ·simp only [puts_]
        rfl
       refine pure_ (i := 40) (N := some 89) (v := undef) (a' := ?_) (bl 53 2199023255551) rfl rfl (any_of HT_.out (by kernel_rfl)) (fun _ _ _ h => h) (Or.inr ⟨by rfl, rfl⟩) ?_ ?_
       rotate_left
       ·simp only [puts_]
        rfl
       refine pure_ (i := 41) (N := some 90) (v := undef) (a' := ?_) (bl 53 4398046511103) rfl rfl (any_of HT_.out (by kernel_rfl)) (fun _ _ _ h => h) (Or.inr ⟨by rfl, rfl⟩) ?_ ?_
       rotate_left
       ·simp only [puts_]
        rfl
       refine pure_ (i := 42) (N := some 91) (v := undef) (a' := ?_) (bl 53 8796093022207) rfl rfl (any_of HT_.out (by kernel_rfl)) (fun _ _ _ h => h) (Or.inr ⟨by rfl, rfl⟩) ?_ ?_
       rotate_left
       ·simp only [puts_]
        rfl
       refine pure_ (i := 43) (N := some 92) (v := undef) (a' := ?_) (bl 53 17592186044415) rfl rfl (any_of HT_.out (by kernel_rfl)) (fun _ _ _ h => h) (Or.inr ⟨by rfl, rfl⟩) ?_ ?_
       rotate_left
       ·simp only [puts_]
        rfl
       refine pure_ (i := 44) (N := some 93) (v := undef) (a' := ?_) (bl 53 35184372088831) rfl rfl (any_of HT_.out (by kernel_rfl)) (fun _ _ _ h => h) (Or.inr ⟨by rfl, rfl⟩) ?_ ?_
       rotate_left
       ·simp only [puts_]
        rfl
       refine pure_ (i := 45) (N := some 94) (v := undef) (a' := ?_) (bl 53 70368744177663) rfl rfl (any_of HT_.out (by kernel_rfl)) (fun _ _ _ h => h) (Or.inr ⟨by rfl, rfl⟩) ?_ ?_
       rotate_left
       ·simp only [puts_]
        rfl
       refine pure_ (i := 46) (N := some 95) (v := undef) (a' := ?_) (bl 53 140737488355327) rfl rfl (any_of HT_.out (by kernel_rfl)) (fun _ _ _ h => h) (Or.inr ⟨by rfl, rfl⟩) ?_ ?_
       rotate_left
       ·simp only [puts_]
        rfl
       refine pure_ (i := 47) (N := some 96) (v := undef) (a' := ?_) (bl 53 281474976710655) rfl rfl (any_of HT_.out (by kernel_rfl)) (fun _ _ _ h => h) (Or.inr ⟨by rfl, rfl⟩) ?_ ?_
       rotate_left
       ·simp only [puts_]
        rfl
       refine pure_ (i := 48) (N := some 97) (v := ?_) (a' := ?_) (bl 53 562949953421311) rfl rfl (any_of HT_.out (by kernel_rfl)) (fun _ _ _ h => h) (Or.inl ⟨by rfl, ?_⟩) ?_ ?_
       rotate_left
       ·intro w'
        go_simp
        with_reducible rfl
       rotate_left
       ·simp only [puts_]
        rfl
       refine pure_ (i := 49) (N := some 98) (v := ?_) (a' := ?_) (bl 53 1125899906842623) rfl rfl (any_of HT_.out (by kernel_rfl)) (fun _ _ _ h => h) (Or.inl ⟨by rfl, ?_⟩) ?_ ?_
       rotate_left
       ·intro w'
        go_simp
        with_reducible rfl
       rotate_left
       ·simp only [puts_]
        rfl
       refine pure_ (i := 50) (N := some 99) (v := undef) (a' := ?_) (bl 53 2251799813685247) rfl rfl (any_of HT_.out (by kernel_rfl)) (fun _ _ _ h => h) (Or.inr ⟨by rfl, rfl⟩) ?_ ?_
       rotate_left
       ·simp only [puts_]
        rfl
       refine pure_ (i := 51) (N := some 100) (v := ?_) (a' := ?_) (bl 53 4503599627370495) rfl rfl (any_of HT_.out (by kernel_rfl)) (fun _ _ _ h => h) (Or.inl ⟨by rfl, ?_⟩) ?_ ?_
       rotate_left
       ·intro w'
        go_simp
        with_reducible rfl
       rotate_left
       ·simp only [puts_]
        rfl
       refine pure_ (i := 52) (N := some 6) (v := ?_) (a' := ?_) (bl 53 9007199254740991) rfl rfl (any_of HT_.out (by kernel_rfl)) (fun _ _ _ h => h) (Or.inl ⟨by rfl, ?_⟩) ?_ ?_
       rotate_left
       ·intro w'
        go_simp
        with_reducible rfl
       rotate_left
       ·simp only [puts_]
        rfl
       refine done_ (done_of HT_.out (by kernel_rfl)) ?_
       try go_wp2
       go_ret
       exact ⟨by first | rfl | (simp [errW_none, errW_some] <;> rfl) | (simp only [← hji6, ← hji7, ← hji9, ← hji11]; first | rfl | (simp [errW_none, errW_some] <;> rfl)) | (simp [*, errW_none, errW_some] <;> rfl), by repeat (first | (with_reducible first | exact HB.out | apply below_alloc | apply pw_below_drewN | apply below_drew1 | refine below_set ?_ GE363.out) | exact HB.out)⟩
     ·rw [if_neg c15] at H
      have c15b0 : ((t377.length : Int) == 1) = false := beq_eq_false_iff_ne.mpr c15
      have c15b1 : ((t377.length : Int) != 1) = true := bne_iff_ne.mpr c15
      obtain rfl := Option.some.inj H
      go_enter Try.func12, Try.ntmps12
      try go_wp2_with (first | ((with_reducible refine gate_dst (N := 4) rfl ?_); (try (refine gate_guard (by rfl) ?_; dsimp only)); refine box_event ?hg (N := 4) ?hd (cs := #[.int .i64 a1_0, .int .i64 a1_1, .int .i64 a1_2]) (t := 31) ?hr ?_; (case hd => rfl); (case hg => rfl); (case hr => first | (go_simp; done) | (go_simp; rfl)); intro gb363 hg w98 hbox hb; have n0_ := Aside0.mk (below_step (by repeat (first | (with_reducible first | exact HB.out | apply below_alloc | apply pw_below_drewN | apply below_drew1) | exact HB.out)) hb); have n1_ := Aside0.mk (hbox); have n2_ := Aside0.mk ((by rw [hg]; exact (below_size (by repeat (first | (with_reducible first | exact HB.out | apply below_alloc | apply pw_below_drewN | apply below_drew1) | exact HB.out))) : w.heap.size ≤ gb363)); have n3_ := Aside0.mk ((by rw [hg]; exact (below_size (by repeat (first | (with_reducible first | exact HB.out | apply below_alloc | apply pw_below_drewN | apply below_drew1) | exact HB.out))) : w.heap.size ≤ gb363)); clear HB; have HB := n0_; have BK363 := n1_; have GW363 := n2_; have GE363 := n3_; clear n0_ n1_ n2_ n3_; clear hb hbox hg; have hcz99_0 : w98.cell? ⟨gb363, 0, none⟩ = some (.int .i64 a1_0) := (blk_cell BK363.out 0).trans rfl; have hcz99_1 : w98.cell? ⟨gb363, 1, none⟩ = some (.int .i64 a1_1) := (blk_cell BK363.out 1).trans rfl; have hcz99_2 : w98.cell? ⟨gb363, 2, none⟩ = some (.int .i64 a1_2) := (blk_cell BK363.out 2).trans rfl; have hfz99_0 := blk_frozen BK363.out 0; have hfz99_1 := blk_frozen BK363.out 1; have hfz99_2 := blk_frozen BK363.out 2) | ((with_reducible refine gate_dst (N := 14) rfl ?_); (try (refine gate_guard (by rfl) ?_; dsimp only)); refine Kd.R_lit k31 _ 31 ?hg (N := 14) ?hd (xs := ([(⟨a1_0, a1_1, a1_2⟩ : S31)] : List (S31))) (inner := [.int .i64 a1_0, .int .i64 a1_1, .int .i64 a1_2]) (ok := fun _ => True) (okp := fun _ => True) ?hr ?hp (fun _ hk => hk) trivial (Below.refl _ _) (Nat.le_refl _) (by simp) ?_; (case hd => rfl); (case hg => rfl); (case hr => first | (go_simp; done) | (go_simp; rfl)); (case hp => exact (Reps.c3 (show Kd.M k31 _ _ _ (⟨a1_0, a1_1, a1_2⟩ : S31) [.int .i64 a1_0, .int .i64 a1_1, .int .i64 a1_2] from (k31_mkM _ _ _ (⟨a1_0, a1_1, a1_2⟩ : S31) )) (Reps.none _ _))); intro v365 w100 ho101 hb hg_ hnew_; clear hg_ hnew_; (first | rw [← Ny364.out] at ho101 | (simp only [Int.reduceToNat] at ho101; rw [← Ny364.out] at ho101)); have n0_ := Aside0.mk (Kd.R_lower (Kd.R_newB ho101 (g := gb363) (o := .cells #[.int .i64 a1_0, .int .i64 a1_1, .int .i64 a1_2] 31 (0, 0)) (by (with_reducible repeat (first | refine blk_drewN ?_ _ | refine blk_drew ?_ | refine blk_alloc ?_ _)); exact BK363.out)) (below_size (by repeat (first | (with_reducible first | exact HB.out | apply below_alloc | apply pw_below_drewN | apply below_drew1 | refine below_set ?_ GE363.out) | exact HB.out)))); have n1_ := Aside0.mk (blk_below (g := gb363) (o := .cells #[.int .i64 a1_0, .int .i64 a1_1, .int .i64 a1_2] 31 (0, 0)) (by (with_reducible repeat (first | refine blk_drewN ?_ _ | refine blk_drew ?_ | refine blk_alloc ?_ _)); exact BK363.out) hb); have n2_ := Aside0.mk (below_step (by repeat (first | (with_reducible first | exact HB.out | apply below_alloc | apply pw_below_drewN | apply below_drew1 | refine below_set ?_ GE363.out) | exact HB.out)) hb); clear BK363; clear HB; have HO366 := n0_; have BK363 := n1_; have HB := n2_; clear n0_ n1_ n2_; clear hb ho101; obtain ⟨Ao102, co102, eo102⟩ := Kd.R_slice HO366.out; subst eo102) | ((with_reducible refine gate_callee (f := 16) rfl ?_); refine goesL_ (some 15) rfl rfl Try.func16 (by kernel_rfl) rfl #[.slice Ao102 y364.length co102] rfl (by (try simp only [List.map_toArray, List.map_cons, List.map_nil]); first | done | rfl | (simp only [List.length_drop, List.length_take]; rfl)) ?_; (with_reducible refine (flywheelref27_Good.calls k _ _ y364 true _ ?side1 ?side2 A4.out).mono ?_); (case side1 => repeat (first | exact (Kd.R_reads' HO366.out).2.2 | (with_reducible refine Kd.C_alloc ?_ _) | (with_reducible refine Kd.C_drewN ?_ _) | (with_reducible refine Kd.C_drew ?_))); (case side2 => exact (Kd.R_reads' HO366.out).2.1); rintro e w' ⟨rfl, ⟨nd, rfl⟩⟩; refine ⟨_, rfl, ?_⟩; have hcz103_0 : w100.cell? ⟨gb363, 0, none⟩ = some (.int .i64 a1_0) := (blk_cell BK363.out 0).trans rfl; have hcz103_1 : w100.cell? ⟨gb363, 1, none⟩ = some (.int .i64 a1_1) := (blk_cell BK363.out 1).trans rfl; have hcz103_2 : w100.cell? ⟨gb363, 2, none⟩ = some (.int .i64 a1_2) := (blk_cell BK363.out 2).trans rfl; have hfz103_0 := blk_frozen BK363.out 0; have hfz103_1 := blk_frozen BK363.out 1; have hfz103_2 := blk_frozen BK363.out 2) | ((with_reducible refine gate_dst (N := 31) rfl ?_); (try (refine gate_guard (by rfl) ?_; dsimp only)); refine Kd.R_lit k31 _ 31 ?hg (N := 31) ?hd (xs := ([(⟨a1_0, a1_1, a1_2⟩ : S31)] : List (S31))) (inner := [.int .i64 a1_0, .int .i64 a1_1, .int .i64 a1_2]) (ok := fun _ => True) (okp := fun _ => True) ?hr ?hp (fun _ hk => hk) trivial (Below.refl _ _) (Nat.le_refl _) (by simp) ?_; (case hd => rfl); (case hg => rfl); (case hr => first | (go_simp; done) | (go_simp; rfl)); (case hp => exact (Reps.c3 (show Kd.M k31 _ _ _ (⟨a1_0, a1_1, a1_2⟩ : S31) [.int .i64 a1_0, .int .i64 a1_1, .int .i64 a1_2] from (k31_mkM _ _ _ (⟨a1_0, a1_1, a1_2⟩ : S31) )) (Reps.none _ _))); intro v369 w104 ho105 hb hg_ hnew_; clear hg_ hnew_; (first | rw [← Ny368.out] at ho105 | (simp only [Int.reduceToNat] at ho105; rw [← Ny368.out] at ho105)); have n0_ := Aside0.mk (Kd.R_elder' (by (with_reducible repeat (first | apply Kd.R_alloc | apply Kd.R_drewN | apply Kd.R_drew)); exact HO366.out) (Kd.R_base ho105) hb); have n1_ := Aside0.mk (Kd.R_lower (Kd.R_newB (Kd.R_new' ho105 (Kd.R_lt (by (with_reducible repeat (first | apply Kd.R_alloc | apply Kd.R_drewN | apply Kd.R_drew)); exact HO366.out))) (g := gb363) (o := .cells #[.int .i64 a1_0, .int .i64 a1_1, .int .i64 a1_2] 31 (0, 0)) (by (with_reducible repeat (first | refine blk_drewN ?_ _ | refine blk_drew ?_ | refine blk_alloc ?_ _)); exact BK363.out)) (below_size (by repeat (first | (with_reducible first | exact HB.out | apply below_alloc | apply pw_below_drewN | apply below_drew1 | refine below_set ?_ GE363.out) | exact HB.out)))); have n2_ := Aside0.mk (blk_below (g := gb363) (o := .cells #[.int .i64 a1_0, .int .i64 a1_1, .int .i64 a1_2] 31 (0, 0)) (by (with_reducible repeat (first | refine blk_drewN ?_ _ | refine blk_drew ?_ | refine blk_alloc ?_ _)); exact BK363.out) hb); have n3_ := Aside0.mk (below_step (by repeat (first | (with_reducible first | exact HB.out | apply below_alloc | apply pw_below_drewN | apply below_drew1 | refine below_set ?_ GE363.out) | exact HB.out)) hb); clear HO366; clear BK363; clear HB; have HO366 := n0_; have HO370 := n1_; have BK363 := n2_; have HB := n3_; clear n0_ n1_ n2_ n3_; clear hb ho105; obtain ⟨Ao106, co106, eo106⟩ := Kd.R_slice HO370.out; subst eo106) | ((with_reducible refine gate_callee (f := 18) rfl ?_); refine goesL_ (some 32) rfl rfl Try.func18 (by kernel_rfl) rfl #[.int .i64 a0, .slice Ao106 y368.length co106] rfl (by (try simp only [List.map_toArray, List.map_cons, List.map_nil]); first | done | rfl | (simp only [List.length_drop, List.length_take]; rfl)) ?_; (with_reducible refine (alloc_Split.calls k a0 _ _ y368 t371 _ ?side1 ?side2 A8.out).mono ?_); (case side1 => repeat (first | exact (Kd.R_reads' HO370.out).2.2 | (with_reducible refine Kd.C_alloc ?_ _) | (with_reducible refine Kd.C_drewN ?_ _) | (with_reducible refine Kd.C_drew ?_))); (case side2 => exact (Kd.R_reads' HO370.out).2.1); rintro e w107 ⟨v372, rfl, ho0, hb⟩; refine ⟨_, rfl, ?_⟩; have n0_ := Aside0.mk (Kd.R_below (by (with_reducible repeat (first | apply Kd.R_alloc | apply Kd.R_drewN | apply Kd.R_drew)); exact HO366.out) hb); have n1_ := Aside0.mk (Kd.R_below (by (with_reducible repeat (first | apply Kd.R_alloc | apply Kd.R_drewN | apply Kd.R_drew)); exact HO370.out) hb); have n2_ := Aside0.mk (Kd.R_lower ho0 (below_size (by repeat (first | (with_reducible first | exact HB.out | apply below_alloc | apply pw_below_drewN | apply below_drew1 | refine below_set ?_ GE363.out) | exact HB.out)))); have n3_ := Aside0.mk (blk_below (g := gb363) (o := .cells #[.int .i64 a1_0, .int .i64 a1_1, .int .i64 a1_2] 31 (0, 0)) (by (with_reducible repeat (first | refine blk_drewN ?_ _ | refine blk_drew ?_ | refine blk_alloc ?_ _)); exact BK363.out) hb); have n4_ := Aside0.mk (below_step (by repeat (first | (with_reducible first | exact HB.out | apply below_alloc | apply pw_below_drewN | apply below_drew1 | refine below_set ?_ GE363.out) | exact HB.out)) hb); clear HO366; clear HO370; clear BK363; clear HB; have HO366 := n0_; have HO370 := n1_; have HO373 := n2_; have BK363 := n3_; have HB := n4_; clear n0_ n1_ n2_ n3_ n4_; (try clear hb); (try clear hb2); (try clear hk); (try clear hi); (try clear ho0); have hcz108_0 : w107.cell? ⟨gb363, 0, none⟩ = some (.int .i64 a1_0) := (blk_cell BK363.out 0).trans rfl; have hcz108_1 : w107.cell? ⟨gb363, 1, none⟩ = some (.int .i64 a1_1) := (blk_cell BK363.out 1).trans rfl; have hcz108_2 : w107.cell? ⟨gb363, 2, none⟩ = some (.int .i64 a1_2) := (blk_cell BK363.out 2).trans rfl; have hfz108_0 := blk_frozen BK363.out 0; have hfz108_1 := blk_frozen BK363.out 1; have hfz108_2 := blk_frozen BK363.out 2) | ((with_reducible refine gate_dst (N := 39) rfl ?_); (try (refine gate_guard (by rfl) ?_; dsimp only)); refine Kd.R_lit k31 _ 31 ?hg (N := 39) ?hd (xs := ([(⟨a1_0, a1_1, a1_2⟩ : S31)] : List (S31))) (inner := [.int .i64 a1_0, .int .i64 a1_1, .int .i64 a1_2]) (ok := fun _ => True) (okp := fun _ => True) ?hr ?hp (fun _ hk => hk) trivial (Below.refl _ _) (Nat.le_refl _) (by simp) ?_; (case hd => rfl); (case hg => rfl); (case hr => first | (go_simp; done) | (go_simp; rfl)); (case hp => exact (Reps.c3 (show Kd.M k31 _ _ _ (⟨a1_0, a1_1, a1_2⟩ : S31) [.int .i64 a1_0, .int .i64 a1_1, .int .i64 a1_2] from (k31_mkM _ _ _ (⟨a1_0, a1_1, a1_2⟩ : S31) )) (Reps.none _ _))); intro v375 w109 ho110 hb hg_ hnew_; clear hg_ hnew_; (first | rw [← Ny374.out] at ho110 | (simp only [Int.reduceToNat] at ho110; rw [← Ny374.out] at ho110)); have n0_ := Aside0.mk (Kd.R_elder' (by (with_reducible repeat (first | apply Kd.R_alloc | apply Kd.R_drewN | apply Kd.R_drew)); exact HO366.out) (Kd.R_base ho110) hb); have n1_ := Aside0.mk (Kd.R_elder' (by (with_reducible repeat (first | apply Kd.R_alloc | apply Kd.R_drewN | apply Kd.R_drew)); exact HO370.out) (Kd.R_base ho110) hb); have n2_ := Aside0.mk (Kd.R_below (by (with_reducible repeat (first | apply Kd.R_alloc | apply Kd.R_drewN | apply Kd.R_drew)); exact HO373.out) hb); have n3_ := Aside0.mk (Kd.R_lower (Kd.R_newB (Kd.R_new' (Kd.R_new' ho110 (Kd.R_lt (by (with_reducible repeat (first | apply Kd.R_alloc | apply Kd.R_drewN | apply Kd.R_drew)); exact HO366.out))) (Kd.R_lt (by (with_reducible repeat (first | apply Kd.R_alloc | apply Kd.R_drewN | apply Kd.R_drew)); exact HO370.out))) (g := gb363) (o := .cells #[.int .i64 a1_0, .int .i64 a1_1, .int .i64 a1_2] 31 (0, 0)) (by (with_reducible repeat (first | refine blk_drewN ?_ _ | refine blk_drew ?_ | refine blk_alloc ?_ _)); exact BK363.out)) (below_size (by repeat (first | (with_reducible first | exact HB.out | apply below_alloc | apply pw_below_drewN | apply below_drew1 | refine below_set ?_ GE363.out) | exact HB.out)))); have n4_ := Aside0.mk (blk_below (g := gb363) (o := .cells #[.int .i64 a1_0, .int .i64 a1_1, .int .i64 a1_2] 31 (0, 0)) (by (with_reducible repeat (first | refine blk_drewN ?_ _ | refine blk_drew ?_ | refine blk_alloc ?_ _)); exact BK363.out) hb); have n5_ := Aside0.mk (below_step (by repeat (first | (with_reducible first | exact HB.out | apply below_alloc | apply pw_below_drewN | apply below_drew1 | refine below_set ?_ GE363.out) | exact HB.out)) hb); clear HO366; clear HO370; clear HO373; clear BK363; clear HB; have HO366 := n0_; have HO370 := n1_; have HO373 := n2_; have HO376 := n3_; have BK363 := n4_; have HB := n5_; clear n0_ n1_ n2_ n3_ n4_ n5_; clear hb ho110; obtain ⟨Ao111, co111, eo111⟩ := Kd.R_slice HO376.out; subst eo111) | ((with_reducible refine gate_callee (f := 36) rfl ?_); refine goesL_ (some 42) rfl rfl Try.func36 (by kernel_rfl) rfl #[.int .i64 a0, .slice Ao111 y374.length co111, .int .i64 (wrap64 (a2)), .int .i64 0] rfl (by (try simp only [List.map_toArray, List.map_cons, List.map_nil]); first | done | rfl | (simp only [List.length_drop, List.length_take]; rfl)) ?_; (with_reducible refine (alloc_Share.calls k a0 _ _ y374 (wrap64 (a2)) 0 t377 t378 _ ?side1 ?side2 A10.out).mono ?_); (case side1 => repeat (first | exact (Kd.R_reads' HO376.out).2.2 | (with_reducible refine Kd.C_alloc ?_ _) | (with_reducible refine Kd.C_drewN ?_ _) | (with_reducible refine Kd.C_drew ?_))); (case side2 => exact (Kd.R_reads' HO376.out).2.1); rintro e w112 ⟨v379, rfl, ho0, hb⟩; refine ⟨_, rfl, ?_⟩; have n0_ := Aside0.mk (Kd.R_below (by (with_reducible repeat (first | apply Kd.R_alloc | apply Kd.R_drewN | apply Kd.R_drew)); exact HO366.out) hb); have n1_ := Aside0.mk (Kd.R_below (by (with_reducible repeat (first | apply Kd.R_alloc | apply Kd.R_drewN | apply Kd.R_drew)); exact HO370.out) hb); have n2_ := Aside0.mk (Kd.R_below (by (with_reducible repeat (first | apply Kd.R_alloc | apply Kd.R_drewN | apply Kd.R_drew)); exact HO373.out) hb); have n3_ := Aside0.mk (Kd.R_below (by (with_reducible repeat (first | apply Kd.R_alloc | apply Kd.R_drewN | apply Kd.R_drew)); exact HO376.out) hb); have n4_ := Aside0.mk (Kd.R_lower ho0 (below_size (by repeat (first | (with_reducible first | exact HB.out | apply below_alloc | apply pw_below_drewN | apply below_drew1 | refine below_set ?_ GE363.out) | exact HB.out)))); have n5_ := Aside0.mk (blk_below (g := gb363) (o := .cells #[.int .i64 a1_0, .int .i64 a1_1, .int .i64 a1_2] 31 (0, 0)) (by (with_reducible repeat (first | refine blk_drewN ?_ _ | refine blk_drew ?_ | refine blk_alloc ?_ _)); exact BK363.out) hb); have n6_ := Aside0.mk (below_step (by repeat (first | (with_reducible first | exact HB.out | apply below_alloc | apply pw_below_drewN | apply below_drew1 | refine below_set ?_ GE363.out) | exact HB.out)) hb); clear HO366; clear HO370; clear HO373; clear HO376; clear BK363; clear HB; have HO366 := n0_; have HO370 := n1_; have HO373 := n2_; have HO376 := n3_; have HO380 := n4_; have BK363 := n5_; have HB := n6_; clear n0_ n1_ n2_ n3_ n4_ n5_ n6_; (try clear hb); (try clear hb2); (try clear hk); (try clear hi); (try clear ho0); have hcz113_0 : w112.cell? ⟨gb363, 0, none⟩ = some (.int .i64 a1_0) := (blk_cell BK363.out 0).trans rfl; have hcz113_1 : w112.cell? ⟨gb363, 1, none⟩ = some (.int .i64 a1_1) := (blk_cell BK363.out 1).trans rfl; have hcz113_2 : w112.cell? ⟨gb363, 2, none⟩ = some (.int .i64 a1_2) := (blk_cell BK363.out 2).trans rfl; have hfz113_0 := blk_frozen BK363.out 0; have hfz113_1 := blk_frozen BK363.out 1; have hfz113_2 := blk_frozen BK363.out 2))
      have n0_ := Aside0.mk (Kd.R_drew HO366.out)
      have n1_ := Aside0.mk (Kd.R_drew HO370.out)
      have n2_ := Aside0.mk (Kd.R_drew HO373.out)
      have n3_ := Aside0.mk (Kd.R_drew HO376.out)
      have n4_ := Aside0.mk (Kd.R_drew HO380.out)
      have n5_ := Aside0.mk (blk_drew BK363.out)
      have n6_ := Aside0.mk (below_drew1 HB.out)
      clear HO366
      clear HO370
      clear HO373
      clear HO376
      clear HO380
      clear BK363
      clear HB
      have HO366 := n0_
      have HO370 := n1_
      have HO373 := n2_
      have HO376 := n3_
      have HO380 := n4_
      have BK363 := n5_
      have HB := n6_
      clear n0_ n1_ n2_ n3_ n4_ n5_ n6_
      obtain ⟨Ao115, co115, eo115⟩ := Kd.R_slice HO373.out
      (first | subst eo115 | (injection eo115 with f1_ f2_ f3_; have f4_ := f1_.symm; have f5_ := f3_.symm; clear f1_ f2_ f3_; subst f4_; subst f5_))
      have p381 : 0 ≤ (0 : Int) := (by omega)
      have q381 : 0 < (t371.length : Int) := of_decide_eq_true (by first | (with_reducible assumption) | assumption)
      obtain ⟨ad381, e381, hx381_0⟩ := Kd.at_int (Kd.R_reads' HO373.out).2.2 0 p381 q381
      cases e381
      have qi381 : (0 < t371.length) = True := eq_true (by omega)
      (try rw [show ((0 : Int)).toNat = 0 from rfl] at hx381_0)
      (try rw [Addr.add_zero'] at hx381_0)
      replace p381 := eq_true p381
      replace q381 := eq_true q381
      obtain ⟨Ao116, co116, eo116⟩ := Kd.R_slice HO380.out
      (first | subst eo116 | (injection eo116 with f1_ f2_ f3_; have f4_ := f1_.symm; have f5_ := f3_.symm; clear f1_ f2_ f3_; subst f4_; subst f5_))
      refine start_ (n := 53) (S := fun w' => w'.cell? ad381 = some (.int .i64 (rd t371 0))) (ds := []) #[false, false, false, false, false, false, false, false, false, false, false, false, false, false, false, false, false, false, false, false, false, false, false, false, false, false, false, false, false, false, false, false, false, false, false, false, false, false, false, false, false, false, false, false, false, false, false, false, false, false, false, false, false] (by kernel_rfl) rfl rfl (hx381_0) (fun hHeld => ?_); refine with_tabW flywheellaw27_AllocOne.tab8 flywheellaw27_AllocOne.bits8 (fun HT_ HW_ => ?_)
      generalize w112.drew = w114 at HO366 HO370 HO373 HO376 HO380 BK363 HB hx381_0 hHeld ⊢
      refine pure_ (i := 0) (N := some 49) (v := ?_) (a' := ?_) (bl 53 1) rfl rfl (any_of HT_.out (by kernel_rfl)) (fun _ _ _ h => h) (Or.inl ⟨by rfl, ?_⟩) ?_ ?_
      rotate_left
      ·intro w'
       go_simp
       with_reducible rfl
      rotate_left
      ·simp only [puts_]
       rfl
      refine pure_ (i := 1) (N := some 50) (v := ?_) (a' := ?_) (bl 53 3) rfl rfl (any_of HT_.out (by kernel_rfl)) (fun _ _ _ h => h) (Or.inl ⟨by rfl, ?_⟩) ?_ ?_
      rotate_left
      ·intro w'
       go_simp
       with_reducible rfl
      rotate_left
      ·simp only [puts_]
       rfl
      refine pure_ (i := 2) (N := some 51) (v := ?_) (a' := ?_) (bl 53 7) rfl rfl (any_of HT_.out (by kernel_rfl)) (fun _ _ _ h => h) (Or.inl ⟨by rfl, ?_⟩) ?_ ?_
      rotate_left
      ·intro w'
       go_simp
       with_reducible rfl
      rotate_left
      ·simp only [puts_]
       rfl
      refine pure_ (i := 3) (N := some 52) (v := ?_) (a' := ?_) (bl 53 15) rfl rfl (any_of HT_.out (by kernel_rfl)) (fun _ _ _ h => h) (Or.inl ⟨by rfl, ?_⟩) ?_ ?_
      rotate_left
      ·intro w'
       go_simp
       with_reducible rfl
      rotate_left
      ·simp only [puts_]
       rfl
      refine pure_ (i := 4) (N := some 53) (v := ?_) (a' := ?_) (bl 53 31) rfl rfl (any_of HT_.out (by kernel_rfl)) (fun _ _ _ h => h) (Or.inl ⟨by rfl, ?_⟩) ?_ ?_
      rotate_left
      ·intro w'
       go_simp
       with_reducible rfl
      rotate_left
      ·simp only [puts_]
       rfl
      refine pure_ (i := 5) (N := some 54) (v := ?_) (a' := ?_) (bl 53 63) rfl rfl (any_of HT_.out (by kernel_rfl)) (fun _ _ _ h => h) (Or.inl ⟨by rfl, ?_⟩) ?_ ?_
      rotate_left
      ·intro w'
       go_simp
       with_reducible rfl
      rotate_left
      ·simp only [puts_]
       rfl
      refine pure_ (i := 7) (N := some 56) (v := ?_) (a' := ?_) (bl 53 191) rfl rfl (any_of HT_.out (by kernel_rfl)) (fun _ _ _ h => h) (Or.inl ⟨by rfl, ?_⟩) ?_ ?_
      rotate_left
      ·intro w'
       go_simp
       with_reducible rfl
      rotate_left
      ·simp only [puts_]
       rfl
      refine take_ (i := 6) (N := some 55) (v := ?_) (a' := ?_) (bl 53 255) rfl rfl (take_ofW HT_.out HW_.out (by kernel_rfl)) (fun _ _ _ h => h) (Or.inl ⟨by rfl, ?_⟩) hHeld ?_ ?_
      rotate_left
      ·intro w' s0
       go_simp
       with_reducible rfl
      rotate_left
      ·simp only [puts_]
       rfl
      refine pure_ (i := 8) (N := some 57) (v := ?_) (a' := ?_) (bl 53 511) rfl rfl (any_of HT_.out (by kernel_rfl)) (fun _ _ _ h => h) (Or.inl ⟨by rfl, ?_⟩) ?_ ?_
      rotate_left
      ·intro w'
       go_simp
       with_reducible rfl
      rotate_left
      ·simp only [puts_]
       rfl
      refine pure_ (i := 9) (N := some 58) (v := ?_) (a' := ?_) (bl 53 1023) rfl rfl (any_of HT_.out (by kernel_rfl)) (fun _ _ _ h => h) (Or.inl ⟨by rfl, ?_⟩) ?_ ?_
      rotate_left
      ·intro w'
       go_simp
       with_reducible rfl
      rotate_left
      ·simp only [puts_]
       rfl
      refine pure_ (i := 10) (N := some 59) (v := ?_) (a' := ?_) (bl 53 2047) rfl rfl (any_of HT_.out (by kernel_rfl)) (fun _ _ _ h => h) (Or.inl ⟨by rfl, ?_⟩) ?_ ?_
      rotate_left
      ·intro w'
       go_simp
       with_reducible rfl
      rotate_left
      ·simp only [puts_]
       rfl
      refine pure_ (i := 11) (N := some 60) (v := ?_) (a' := ?_) (bl 53 4095) rfl rfl (any_of HT_.out (by kernel_rfl)) (fun _ _ _ h => h) (Or.inl ⟨by rfl, ?_⟩) ?_ ?_
      rotate_left
      ·intro w'
       go_simp
       with_reducible rfl
      rotate_left
      ·simp only [puts_]
       rfl
      refine pure_ (i := 12) (N := some 61) (v := ?_) (a' := ?_) (bl 53 8191) rfl rfl (any_of HT_.out (by kernel_rfl)) (fun _ _ _ h => h) (Or.inl ⟨by rfl, ?_⟩) ?_ ?_
      rotate_left
      ·intro w'
       go_simp
       with_reducible rfl
      rotate_left
      ·simp only [puts_]
       rfl
      refine pure_ (i := 13) (N := some 62) (v := ?_) (a' := ?_) (bl 53 16383) rfl rfl (any_of HT_.out (by kernel_rfl)) (fun _ _ _ h => h) (Or.inl ⟨by rfl, ?_⟩) ?_ ?_
      rotate_left
      ·intro w'
       go_simp
       with_reducible rfl
      rotate_left
      ·simp only [puts_]
       rfl
      refine pure_ (i := 14) (N := some 63) (v := ?_) (a' := ?_) (bl 53 32767) rfl rfl (any_of HT_.out (by kernel_rfl)) (fun _ _ _ h => h) (Or.inl ⟨by rfl, ?_⟩) ?_ ?_
      rotate_left
      ·intro w'
       go_simp
       with_reducible rfl
      rotate_left
      ·simp only [puts_]
       rfl
      refine pure_ (i := 15) (N := some 64) (v := ?_) (a' := ?_) (bl 53 65535) rfl rfl (any_of HT_.out (by kernel_rfl)) (fun _ _ _ h => h) (Or.inl ⟨by rfl, ?_⟩) ?_ ?_
      rotate_left
      ·intro w'
       go_simp
       with_reducible rfl
      rotate_left
      ·simp only [puts_]
       rfl
      refine pure_ (i := 16) (N := some 65) (v := undef) (a' := ?_) (bl 53 131071) rfl rfl (any_of HT_.out (by kernel_rfl)) (fun _ _ _ h => h) (Or.inr ⟨by rfl, rfl⟩) ?_ ?_
      rotate_left
      ·simp only [puts_]
       rfl
      refine pure_ (i := 17) (N := some 66) (v := undef) (a' := ?_) (bl 53 262143) rfl rfl (any_of HT_.out (by kernel_rfl)) (fun _ _ _ h => h) (Or.inr ⟨by rfl, rfl⟩) ?_ ?_
      rotate_left
      ·simp only [puts_]
       rfl
      refine pure_ (i := 18) (N := some 67) (v := ?_) (a' := ?_) (bl 53 524287) rfl rfl (any_of HT_.out (by kernel_rfl)) (fun _ _ _ h => h) (Or.inl ⟨by rfl, ?_⟩) ?_ ?_
      rotate_left
      ·intro w'
       go_simp
       with_reducible rfl
      rotate_left
      ·simp only [puts_]
       rfl
      refine pure_ (i := 19) (N := some 68) (v := ?_) (a' := ?_) (bl 53 1048575) rfl rfl (any_of HT_.out (by kernel_rfl)) (fun _ _ _ h => h) (Or.inl ⟨by rfl, ?_⟩) ?_ ?_
      rotate_left
      ·intro w'
       go_simp
       with_reducible rfl
      rotate_left
      ·simp only [puts_]
       rfl
      refine pure_ (i := 20) (N := some 69) (v := undef) (a' := ?_) (bl 53 2097151) rfl rfl (any_of HT_.out (by kernel_rfl)) (fun _ _ _ h => h) (Or.inr ⟨by rfl, rfl⟩) ?_ ?_
      rotate_left
      ·simp only [puts_]
       rfl
      refine pure_ (i := 21) (N := some 70) (v := undef) (a' := ?_) (bl 53 4194303) rfl rfl (any_of HT_.out (by kernel_rfl)) (fun _ _ _ h => h) (Or.inr ⟨by rfl, rfl⟩) ?_ ?_
      rotate_left
      ·simp only [puts_]
       rfl
      refine pure_ (i := 22) (N := some 71) (v := undef) (a' := ?_) (bl 53 8388607) rfl rfl (any_of HT_.out (by kernel_rfl)) (fun _ _ _ h => h) (Or.inr ⟨by rfl, rfl⟩) ?_ ?_
      rotate_left
      ·simp only [puts_]
       rfl
      refine pure_ (i := 23) (N := some 72) (v := undef) (a' := ?_) (bl 53 16777215) rfl rfl (any_of HT_.out (by kernel_rfl)) (fun _ _ _ h => h) (Or.inr ⟨by rfl, rfl⟩) ?_ ?_
      rotate_left
      ·simp only [puts_]
       rfl
      refine pure_ (i := 24) (N := some 73) (v := undef) (a' := ?_) (bl 53 33554431) rfl rfl (any_of HT_.out (by kernel_rfl)) (fun _ _ _ h => h) (Or.inr ⟨by rfl, rfl⟩) ?_ ?_
      rotate_left
      ·simp only [puts_]
       rfl
      refine pure_ (i := 25) (N := some 74) (v := undef) (a' := ?_) (bl 53 67108863) rfl rfl (any_of HT_.out (by kernel_rfl)) (fun _ _ _ h => h) (Or.inr ⟨by rfl, rfl⟩) ?_ ?_
      rotate_left
      ·simp only [puts_]
       rfl
      refine pure_ (i := 26) (N := some 75) (v := undef) (a' := ?_) (bl 53 134217727) rfl rfl (any_of HT_.out (by kernel_rfl)) (fun _ _ _ h => h) (Or.inr ⟨by rfl, rfl⟩) ?_ ?_
      rotate_left
      ·simp only [puts_]
       rfl
      refine pure_ (i := 27) (N := some 76) (v := undef) (a' := ?_) (bl 53 268435455) rfl rfl (any_of HT_.out (by kernel_rfl)) (fun _ _ _ h => h) (Or.inr ⟨by rfl, rfl⟩) ?_ ?_
      rotate_left
      ·simp only [puts_]
       rfl
      refine pure_ (i := 28) (N := some 77) (v := undef) (a' := ?_) (bl 53 536870911) rfl rfl (any_of HT_.out (by kernel_rfl)) (fun _ _ _ h => h) (Or.inr ⟨by rfl, rfl⟩) ?_ ?_
      rotate_left
      ·simp only [puts_]
       rfl
      refine pure_ (i := 29) (N := some 78) (v := undef) (a' := ?_) (bl 53 1073741823) rfl rfl (any_of HT_.out (by kernel_rfl)) (fun _ _ _ h => h) (Or.inr ⟨by rfl, rfl⟩) ?_ ?_
      rotate_left
      ·simp only [puts_]
       rfl
      refine pure_ (i := 30) (N := some 79) (v := undef) (a' := ?_) (bl 53 2147483647) rfl rfl (any_of HT_.out (by kernel_rfl)) (fun _ _ _ h => h) (Or.inr ⟨by rfl, rfl⟩) ?_ ?_
      rotate_left
      ·simp only [puts_]
       rfl
      refine pure_ (i := 31) (N := some 80) (v := undef) (a' := ?_) (bl 53 4294967295) rfl rfl (any_of HT_.out (by kernel_rfl)) (fun _ _ _ h => h) (Or.inr ⟨by rfl, rfl⟩) ?_ ?_
      rotate_left
      ·simp only [puts_]
       rfl
      refine pure_ (i := 32) (N := some 81) (v := undef) (a' := ?_) (bl 53 8589934591) rfl rfl (any_of HT_.out (by kernel_rfl)) (fun _ _ _ h => h) (Or.inr ⟨by rfl, rfl⟩) ?_ ?_
      rotate_left
      ·simp only [puts_]
       rfl
      refine pure_ (i := 33) (N := some 82) (v := undef) (a' := ?_) (bl 53 17179869183) rfl rfl (any_of HT_.out (by kernel_rfl)) (fun _ _ _ h => h) (Or.inr ⟨by rfl, rfl⟩) ?_ ?_
      rotate_left
      ·simp only [puts_]
       rfl
      refine pure_ (i := 34) (N := some 83) (v := undef) (a' := ?_) (bl 53 34359738367) rfl rfl (any_of HT_.out (by kernel_rfl)) (fun _ _ _ h => h) (Or.inr ⟨by rfl, rfl⟩) ?_ ?_
      rotate_left
      ·simp only [puts_]
       rfl
      refine pure_ (i := 35) (N := some 84) (v := ?_) (a' := ?_) (bl 53 68719476735) rfl rfl (any_of HT_.out (by kernel_rfl)) (fun _ _ _ h => h) (Or.inl ⟨by rfl, ?_⟩) ?_ ?_
      rotate_left
      ·intro w'
       go_simp
       with_reducible rfl
      rotate_left
      ·simp only [puts_]
       rfl
      refine pure_ (i := 36) (N := some 85) (v := ?_) (a' := ?_) (bl 53 137438953471) rfl rfl (any_of HT_.out (by kernel_rfl)) (fun _ _ _ h => h) (Or.inl ⟨by rfl, ?_⟩) ?_ ?_
      rotate_left
      ·intro w'
       go_simp
       with_reducible rfl
      rotate_left
      ·simp only [puts_]
       rfl
      refine pure_ (i := 37) (N := some 86) (v := undef) (a' := ?_) (bl 53 274877906943) rfl rfl (any_of HT_.out (by kernel_rfl)) (fun _ _ _ h => h) (Or.inr ⟨by rfl, rfl⟩) ?_ ?_
      rotate_left
      ·simp only [puts_]
       rfl
      refine pure_ (i := 38) (N := some 87) (v := undef) (a' := ?_) (bl 53 549755813887) rfl rfl (any_of HT_.out (by kernel_rfl)) (fun _ _ _ h => h) (Or.inr ⟨by rfl, rfl⟩) ?_ ?_
      rotate_left
      ·simp only [puts_]
       rfl
      refine pure_ (i := 39) (N := some 88) (v := undef) (a' := ?_) (bl 53 1099511627775) rfl rfl (any_of HT_.out (by kernel_rfl)) (fun _ _ _ h => h) (Or.inr ⟨by rfl, rfl⟩) ?_ ?_
      rotate_left
      ·simp only [puts_]
       rfl
      refine pure_ (i := 40) (N := some 89) (v := undef) (a' := ?_) (bl 53 2199023255551) rfl rfl (any_of HT_.out (by kernel_rfl)) (fun _ _ _ h => h) (Or.inr ⟨by rfl, rfl⟩) ?_ ?_
      rotate_left
      ·simp only [puts_]
       rfl
      refine pure_ (i := 41) (N := some 90) (v := undef) (a' := ?_) (bl 53 4398046511103) rfl rfl (any_of HT_.out (by kernel_rfl)) (fun _ _ _ h => h) (Or.inr ⟨by rfl, rfl⟩) ?_ ?_
      rotate_left
      ·simp only [puts_]
       rfl
      refine pure_ (i := 42) (N := some 91) (v := undef) (a' := ?_) (bl 53 8796093022207) rfl rfl (any_of HT_.out (by kernel_rfl)) (fun _ _ _ h => h) (Or.inr ⟨by rfl, rfl⟩) ?_ ?_
      rotate_left
      ·simp only [puts_]
       rfl
      refine pure_ (i := 43) (N := some 92) (v := undef) (a' := ?_) (bl 53 17592186044415) rfl rfl (any_of HT_.out (by kernel_rfl)) (fun _ _ _ h => h) (Or.inr ⟨by rfl, rfl⟩) ?_ ?_
      rotate_left
      ·simp only [puts_]
       rfl
      refine pure_ (i := 44) (N := some 93) (v := undef) (a' := ?_) (bl 53 35184372088831) rfl rfl (any_of HT_.out (by kernel_rfl)) (fun _ _ _ h => h) (Or.inr ⟨by rfl, rfl⟩) ?_ ?_
      rotate_left
      ·simp only [puts_]
       rfl
      refine pure_ (i := 45) (N := some 94) (v := undef) (a' := ?_) (bl 53 70368744177663) rfl rfl (any_of HT_.out (by kernel_rfl)) (fun _ _ _ h => h) (Or.inr ⟨by rfl, rfl⟩) ?_ ?_
      rotate_left
      ·simp only [puts_]
       rfl
      refine pure_ (i := 46) (N := some 95) (v := undef) (a' := ?_) (bl 53 140737488355327) rfl rfl (any_of HT_.out (by kernel_rfl)) (fun _ _ _ h => h) (Or.inr ⟨by rfl, rfl⟩) ?_ ?_
      rotate_left
      ·simp only [puts_]
       rfl
      refine pure_ (i := 47) (N := some 96) (v := undef) (a' := ?_) (bl 53 281474976710655) rfl rfl (any_of HT_.out (by kernel_rfl)) (fun _ _ _ h => h) (Or.inr ⟨by rfl, rfl⟩) ?_ ?_
      rotate_left
      ·simp only [puts_]
       rfl
      refine pure_ (i := 48) (N := some 97) (v := ?_) (a' := ?_) (bl 53 562949953421311) rfl rfl (any_of HT_.out (by kernel_rfl)) (fun _ _ _ h => h) (Or.inl ⟨by rfl, ?_⟩) ?_ ?_
      rotate_left
      ·intro w'
       go_simp
       with_reducible rfl
      rotate_left
      ·simp only [puts_]
       rfl
      refine pure_ (i := 49) (N := some 98) (v := ?_) (a' := ?_) (bl 53 1125899906842623) rfl rfl (any_of HT_.out (by kernel_rfl)) (fun _ _ _ h => h) (Or.inl ⟨by rfl, ?_⟩) ?_ ?_
      rotate_left
      ·intro w'
       go_simp
       with_reducible rfl
      rotate_left
      ·simp only [puts_]
       rfl
      refine pure_ (i := 50) (N := some 99) (v := undef) (a' := ?_) (bl 53 2251799813685247) rfl rfl (any_of HT_.out (by kernel_rfl)) (fun _ _ _ h => h) (Or.inr ⟨by rfl, rfl⟩) ?_ ?_
      rotate_left
      ·simp only [puts_]
       rfl
      refine pure_ (i := 51) (N := some 100) (v := ?_) (a' := ?_) (bl 53 4503599627370495) rfl rfl (any_of HT_.out (by kernel_rfl)) (fun _ _ _ h => h) (Or.inl ⟨by rfl, ?_⟩) ?_ ?_
      rotate_left
      ·intro w'
       go_simp
       with_reducible rfl
      rotate_left
      ·simp only [puts_]
       rfl
      refine pure_ (i := 52) (N := some 6) (v := ?_) (a' := ?_) (bl 53 9007199254740991) rfl rfl (any_of HT_.out (by kernel_rfl)) (fun _ _ _ h => h) (Or.inl ⟨by rfl, ?_⟩) ?_ ?_
      rotate_left
      ·intro w'
       go_simp
       with_reducible rfl
      rotate_left
      ·simp only [puts_]
       rfl
      refine done_ (done_of HT_.out (by kernel_rfl)) ?_
      try go_wp2
      go_ret
      exact ⟨by first | rfl | (simp [errW_none, errW_some] <;> rfl) | (simp only [← hji6, ← hji7, ← hji9, ← hji11]; first | rfl | (simp [errW_none, errW_some] <;> rfl)) | (simp [*, errW_none, errW_some] <;> rfl), by repeat (first | (with_reducible first | exact HB.out | apply below_alloc | apply pw_below_drewN | apply below_drew1 | refine below_set ?_ GE363.out) | exact HB.out)⟩
    ·rw [if_neg c14] at H
     have c14b0 : ((rd t371 0) == (ji11)) = false := beq_eq_false_iff_ne.mpr c14
     have c14b1 : ((rd t371 0) != (ji11)) = true := bne_iff_ne.mpr c14
     obtain rfl := Option.some.inj H
     go_enter Try.func12, Try.ntmps12
     try go_wp2_with (first | ((with_reducible refine gate_dst (N := 4) rfl ?_); (try (refine gate_guard (by rfl) ?_; dsimp only)); refine box_event ?hg (N := 4) ?hd (cs := #[.int .i64 a1_0, .int .i64 a1_1, .int .i64 a1_2]) (t := 31) ?hr ?_; (case hd => rfl); (case hg => rfl); (case hr => first | (go_simp; done) | (go_simp; rfl)); intro gb363 hg w117 hbox hb; have n0_ := Aside0.mk (below_step (by repeat (first | (with_reducible first | exact HB.out | apply below_alloc | apply pw_below_drewN | apply below_drew1) | exact HB.out)) hb); have n1_ := Aside0.mk (hbox); have n2_ := Aside0.mk ((by rw [hg]; exact (below_size (by repeat (first | (with_reducible first | exact HB.out | apply below_alloc | apply pw_below_drewN | apply below_drew1) | exact HB.out))) : w.heap.size ≤ gb363)); have n3_ := Aside0.mk ((by rw [hg]; exact (below_size (by repeat (first | (with_reducible first | exact HB.out | apply below_alloc | apply pw_below_drewN | apply below_drew1) | exact HB.out))) : w.heap.size ≤ gb363)); clear HB; have HB := n0_; have BK363 := n1_; have GW363 := n2_; have GE363 := n3_; clear n0_ n1_ n2_ n3_; clear hb hbox hg; have hcz118_0 : w117.cell? ⟨gb363, 0, none⟩ = some (.int .i64 a1_0) := (blk_cell BK363.out 0).trans rfl; have hcz118_1 : w117.cell? ⟨gb363, 1, none⟩ = some (.int .i64 a1_1) := (blk_cell BK363.out 1).trans rfl; have hcz118_2 : w117.cell? ⟨gb363, 2, none⟩ = some (.int .i64 a1_2) := (blk_cell BK363.out 2).trans rfl; have hfz118_0 := blk_frozen BK363.out 0; have hfz118_1 := blk_frozen BK363.out 1; have hfz118_2 := blk_frozen BK363.out 2) | ((with_reducible refine gate_dst (N := 14) rfl ?_); (try (refine gate_guard (by rfl) ?_; dsimp only)); refine Kd.R_lit k31 _ 31 ?hg (N := 14) ?hd (xs := ([(⟨a1_0, a1_1, a1_2⟩ : S31)] : List (S31))) (inner := [.int .i64 a1_0, .int .i64 a1_1, .int .i64 a1_2]) (ok := fun _ => True) (okp := fun _ => True) ?hr ?hp (fun _ hk => hk) trivial (Below.refl _ _) (Nat.le_refl _) (by simp) ?_; (case hd => rfl); (case hg => rfl); (case hr => first | (go_simp; done) | (go_simp; rfl)); (case hp => exact (Reps.c3 (show Kd.M k31 _ _ _ (⟨a1_0, a1_1, a1_2⟩ : S31) [.int .i64 a1_0, .int .i64 a1_1, .int .i64 a1_2] from (k31_mkM _ _ _ (⟨a1_0, a1_1, a1_2⟩ : S31) )) (Reps.none _ _))); intro v365 w119 ho120 hb hg_ hnew_; clear hg_ hnew_; (first | rw [← Ny364.out] at ho120 | (simp only [Int.reduceToNat] at ho120; rw [← Ny364.out] at ho120)); have n0_ := Aside0.mk (Kd.R_lower (Kd.R_newB ho120 (g := gb363) (o := .cells #[.int .i64 a1_0, .int .i64 a1_1, .int .i64 a1_2] 31 (0, 0)) (by (with_reducible repeat (first | refine blk_drewN ?_ _ | refine blk_drew ?_ | refine blk_alloc ?_ _)); exact BK363.out)) (below_size (by repeat (first | (with_reducible first | exact HB.out | apply below_alloc | apply pw_below_drewN | apply below_drew1 | refine below_set ?_ GE363.out) | exact HB.out)))); have n1_ := Aside0.mk (blk_below (g := gb363) (o := .cells #[.int .i64 a1_0, .int .i64 a1_1, .int .i64 a1_2] 31 (0, 0)) (by (with_reducible repeat (first | refine blk_drewN ?_ _ | refine blk_drew ?_ | refine blk_alloc ?_ _)); exact BK363.out) hb); have n2_ := Aside0.mk (below_step (by repeat (first | (with_reducible first | exact HB.out | apply below_alloc | apply pw_below_drewN | apply below_drew1 | refine below_set ?_ GE363.out) | exact HB.out)) hb); clear BK363; clear HB; have HO366 := n0_; have BK363 := n1_; have HB := n2_; clear n0_ n1_ n2_; clear hb ho120; obtain ⟨Ao121, co121, eo121⟩ := Kd.R_slice HO366.out; subst eo121) | ((with_reducible refine gate_callee (f := 16) rfl ?_); refine goesL_ (some 15) rfl rfl Try.func16 (by kernel_rfl) rfl #[.slice Ao121 y364.length co121] rfl (by (try simp only [List.map_toArray, List.map_cons, List.map_nil]); first | done | rfl | (simp only [List.length_drop, List.length_take]; rfl)) ?_; (with_reducible refine (flywheelref27_Good.calls k _ _ y364 true _ ?side1 ?side2 A4.out).mono ?_); (case side1 => repeat (first | exact (Kd.R_reads' HO366.out).2.2 | (with_reducible refine Kd.C_alloc ?_ _) | (with_reducible refine Kd.C_drewN ?_ _) | (with_reducible refine Kd.C_drew ?_))); (case side2 => exact (Kd.R_reads' HO366.out).2.1); rintro e w' ⟨rfl, ⟨nd, rfl⟩⟩; refine ⟨_, rfl, ?_⟩; have hcz122_0 : w119.cell? ⟨gb363, 0, none⟩ = some (.int .i64 a1_0) := (blk_cell BK363.out 0).trans rfl; have hcz122_1 : w119.cell? ⟨gb363, 1, none⟩ = some (.int .i64 a1_1) := (blk_cell BK363.out 1).trans rfl; have hcz122_2 : w119.cell? ⟨gb363, 2, none⟩ = some (.int .i64 a1_2) := (blk_cell BK363.out 2).trans rfl; have hfz122_0 := blk_frozen BK363.out 0; have hfz122_1 := blk_frozen BK363.out 1; have hfz122_2 := blk_frozen BK363.out 2) | ((with_reducible refine gate_dst (N := 31) rfl ?_); (try (refine gate_guard (by rfl) ?_; dsimp only)); refine Kd.R_lit k31 _ 31 ?hg (N := 31) ?hd (xs := ([(⟨a1_0, a1_1, a1_2⟩ : S31)] : List (S31))) (inner := [.int .i64 a1_0, .int .i64 a1_1, .int .i64 a1_2]) (ok := fun _ => True) (okp := fun _ => True) ?hr ?hp (fun _ hk => hk) trivial (Below.refl _ _) (Nat.le_refl _) (by simp) ?_; (case hd => rfl); (case hg => rfl); (case hr => first | (go_simp; done) | (go_simp; rfl)); (case hp => exact (Reps.c3 (show Kd.M k31 _ _ _ (⟨a1_0, a1_1, a1_2⟩ : S31) [.int .i64 a1_0, .int .i64 a1_1, .int .i64 a1_2] from (k31_mkM _ _ _ (⟨a1_0, a1_1, a1_2⟩ : S31) )) (Reps.none _ _))); intro v369 w123 ho124 hb hg_ hnew_; clear hg_ hnew_; (first | rw [← Ny368.out] at ho124 | (simp only [Int.reduceToNat] at ho124; rw [← Ny368.out] at ho124)); have n0_ := Aside0.mk (Kd.R_elder' (by (with_reducible repeat (first | apply Kd.R_alloc | apply Kd.R_drewN | apply Kd.R_drew)); exact HO366.out) (Kd.R_base ho124) hb); have n1_ := Aside0.mk (Kd.R_lower (Kd.R_newB (Kd.R_new' ho124 (Kd.R_lt (by (with_reducible repeat (first | apply Kd.R_alloc | apply Kd.R_drewN | apply Kd.R_drew)); exact HO366.out))) (g := gb363) (o := .cells #[.int .i64 a1_0, .int .i64 a1_1, .int .i64 a1_2] 31 (0, 0)) (by (with_reducible repeat (first | refine blk_drewN ?_ _ | refine blk_drew ?_ | refine blk_alloc ?_ _)); exact BK363.out)) (below_size (by repeat (first | (with_reducible first | exact HB.out | apply below_alloc | apply pw_below_drewN | apply below_drew1 | refine below_set ?_ GE363.out) | exact HB.out)))); have n2_ := Aside0.mk (blk_below (g := gb363) (o := .cells #[.int .i64 a1_0, .int .i64 a1_1, .int .i64 a1_2] 31 (0, 0)) (by (with_reducible repeat (first | refine blk_drewN ?_ _ | refine blk_drew ?_ | refine blk_alloc ?_ _)); exact BK363.out) hb); have n3_ := Aside0.mk (below_step (by repeat (first | (with_reducible first | exact HB.out | apply below_alloc | apply pw_below_drewN | apply below_drew1 | refine below_set ?_ GE363.out) | exact HB.out)) hb); clear HO366; clear BK363; clear HB; have HO366 := n0_; have HO370 := n1_; have BK363 := n2_; have HB := n3_; clear n0_ n1_ n2_ n3_; clear hb ho124; obtain ⟨Ao125, co125, eo125⟩ := Kd.R_slice HO370.out; subst eo125) | ((with_reducible refine gate_callee (f := 18) rfl ?_); refine goesL_ (some 32) rfl rfl Try.func18 (by kernel_rfl) rfl #[.int .i64 a0, .slice Ao125 y368.length co125] rfl (by (try simp only [List.map_toArray, List.map_cons, List.map_nil]); first | done | rfl | (simp only [List.length_drop, List.length_take]; rfl)) ?_; (with_reducible refine (alloc_Split.calls k a0 _ _ y368 t371 _ ?side1 ?side2 A8.out).mono ?_); (case side1 => repeat (first | exact (Kd.R_reads' HO370.out).2.2 | (with_reducible refine Kd.C_alloc ?_ _) | (with_reducible refine Kd.C_drewN ?_ _) | (with_reducible refine Kd.C_drew ?_))); (case side2 => exact (Kd.R_reads' HO370.out).2.1); rintro e w126 ⟨v372, rfl, ho0, hb⟩; refine ⟨_, rfl, ?_⟩; have n0_ := Aside0.mk (Kd.R_below (by (with_reducible repeat (first | apply Kd.R_alloc | apply Kd.R_drewN | apply Kd.R_drew)); exact HO366.out) hb); have n1_ := Aside0.mk (Kd.R_below (by (with_reducible repeat (first | apply Kd.R_alloc | apply Kd.R_drewN | apply Kd.R_drew)); exact HO370.out) hb); have n2_ := Aside0.mk (Kd.R_lower ho0 (below_size (by repeat (first | (with_reducible first | exact HB.out | apply below_alloc | apply pw_below_drewN | apply below_drew1 | refine below_set ?_ GE363.out) | exact HB.out)))); have n3_ := Aside0.mk (blk_below (g := gb363) (o := .cells #[.int .i64 a1_0, .int .i64 a1_1, .int .i64 a1_2] 31 (0, 0)) (by (with_reducible repeat (first | refine blk_drewN ?_ _ | refine blk_drew ?_ | refine blk_alloc ?_ _)); exact BK363.out) hb); have n4_ := Aside0.mk (below_step (by repeat (first | (with_reducible first | exact HB.out | apply below_alloc | apply pw_below_drewN | apply below_drew1 | refine below_set ?_ GE363.out) | exact HB.out)) hb); clear HO366; clear HO370; clear BK363; clear HB; have HO366 := n0_; have HO370 := n1_; have HO373 := n2_; have BK363 := n3_; have HB := n4_; clear n0_ n1_ n2_ n3_ n4_; (try clear hb); (try clear hb2); (try clear hk); (try clear hi); (try clear ho0); have hcz127_0 : w126.cell? ⟨gb363, 0, none⟩ = some (.int .i64 a1_0) := (blk_cell BK363.out 0).trans rfl; have hcz127_1 : w126.cell? ⟨gb363, 1, none⟩ = some (.int .i64 a1_1) := (blk_cell BK363.out 1).trans rfl; have hcz127_2 : w126.cell? ⟨gb363, 2, none⟩ = some (.int .i64 a1_2) := (blk_cell BK363.out 2).trans rfl; have hfz127_0 := blk_frozen BK363.out 0; have hfz127_1 := blk_frozen BK363.out 1; have hfz127_2 := blk_frozen BK363.out 2) | ((with_reducible refine gate_dst (N := 39) rfl ?_); (try (refine gate_guard (by rfl) ?_; dsimp only)); refine Kd.R_lit k31 _ 31 ?hg (N := 39) ?hd (xs := ([(⟨a1_0, a1_1, a1_2⟩ : S31)] : List (S31))) (inner := [.int .i64 a1_0, .int .i64 a1_1, .int .i64 a1_2]) (ok := fun _ => True) (okp := fun _ => True) ?hr ?hp (fun _ hk => hk) trivial (Below.refl _ _) (Nat.le_refl _) (by simp) ?_; (case hd => rfl); (case hg => rfl); (case hr => first | (go_simp; done) | (go_simp; rfl)); (case hp => exact (Reps.c3 (show Kd.M k31 _ _ _ (⟨a1_0, a1_1, a1_2⟩ : S31) [.int .i64 a1_0, .int .i64 a1_1, .int .i64 a1_2] from (k31_mkM _ _ _ (⟨a1_0, a1_1, a1_2⟩ : S31) )) (Reps.none _ _))); intro v375 w128 ho129 hb hg_ hnew_; clear hg_ hnew_; (first | rw [← Ny374.out] at ho129 | (simp only [Int.reduceToNat] at ho129; rw [← Ny374.out] at ho129)); have n0_ := Aside0.mk (Kd.R_elder' (by (with_reducible repeat (first | apply Kd.R_alloc | apply Kd.R_drewN | apply Kd.R_drew)); exact HO366.out) (Kd.R_base ho129) hb); have n1_ := Aside0.mk (Kd.R_elder' (by (with_reducible repeat (first | apply Kd.R_alloc | apply Kd.R_drewN | apply Kd.R_drew)); exact HO370.out) (Kd.R_base ho129) hb); have n2_ := Aside0.mk (Kd.R_below (by (with_reducible repeat (first | apply Kd.R_alloc | apply Kd.R_drewN | apply Kd.R_drew)); exact HO373.out) hb); have n3_ := Aside0.mk (Kd.R_lower (Kd.R_newB (Kd.R_new' (Kd.R_new' ho129 (Kd.R_lt (by (with_reducible repeat (first | apply Kd.R_alloc | apply Kd.R_drewN | apply Kd.R_drew)); exact HO366.out))) (Kd.R_lt (by (with_reducible repeat (first | apply Kd.R_alloc | apply Kd.R_drewN | apply Kd.R_drew)); exact HO370.out))) (g := gb363) (o := .cells #[.int .i64 a1_0, .int .i64 a1_1, .int .i64 a1_2] 31 (0, 0)) (by (with_reducible repeat (first | refine blk_drewN ?_ _ | refine blk_drew ?_ | refine blk_alloc ?_ _)); exact BK363.out)) (below_size (by repeat (first | (with_reducible first | exact HB.out | apply below_alloc | apply pw_below_drewN | apply below_drew1 | refine below_set ?_ GE363.out) | exact HB.out)))); have n4_ := Aside0.mk (blk_below (g := gb363) (o := .cells #[.int .i64 a1_0, .int .i64 a1_1, .int .i64 a1_2] 31 (0, 0)) (by (with_reducible repeat (first | refine blk_drewN ?_ _ | refine blk_drew ?_ | refine blk_alloc ?_ _)); exact BK363.out) hb); have n5_ := Aside0.mk (below_step (by repeat (first | (with_reducible first | exact HB.out | apply below_alloc | apply pw_below_drewN | apply below_drew1 | refine below_set ?_ GE363.out) | exact HB.out)) hb); clear HO366; clear HO370; clear HO373; clear BK363; clear HB; have HO366 := n0_; have HO370 := n1_; have HO373 := n2_; have HO376 := n3_; have BK363 := n4_; have HB := n5_; clear n0_ n1_ n2_ n3_ n4_ n5_; clear hb ho129; obtain ⟨Ao130, co130, eo130⟩ := Kd.R_slice HO376.out; subst eo130) | ((with_reducible refine gate_callee (f := 36) rfl ?_); refine goesL_ (some 42) rfl rfl Try.func36 (by kernel_rfl) rfl #[.int .i64 a0, .slice Ao130 y374.length co130, .int .i64 (wrap64 (a2)), .int .i64 0] rfl (by (try simp only [List.map_toArray, List.map_cons, List.map_nil]); first | done | rfl | (simp only [List.length_drop, List.length_take]; rfl)) ?_; (with_reducible refine (alloc_Share.calls k a0 _ _ y374 (wrap64 (a2)) 0 t377 t378 _ ?side1 ?side2 A10.out).mono ?_); (case side1 => repeat (first | exact (Kd.R_reads' HO376.out).2.2 | (with_reducible refine Kd.C_alloc ?_ _) | (with_reducible refine Kd.C_drewN ?_ _) | (with_reducible refine Kd.C_drew ?_))); (case side2 => exact (Kd.R_reads' HO376.out).2.1); rintro e w131 ⟨v379, rfl, ho0, hb⟩; refine ⟨_, rfl, ?_⟩; have n0_ := Aside0.mk (Kd.R_below (by (with_reducible repeat (first | apply Kd.R_alloc | apply Kd.R_drewN | apply Kd.R_drew)); exact HO366.out) hb); have n1_ := Aside0.mk (Kd.R_below (by (with_reducible repeat (first | apply Kd.R_alloc | apply Kd.R_drewN | apply Kd.R_drew)); exact HO370.out) hb); have n2_ := Aside0.mk (Kd.R_below (by (with_reducible repeat (first | apply Kd.R_alloc | apply Kd.R_drewN | apply Kd.R_drew)); exact HO373.out) hb); have n3_ := Aside0.mk (Kd.R_below (by (with_reducible repeat (first | apply Kd.R_alloc | apply Kd.R_drewN | apply Kd.R_drew)); exact HO376.out) hb); have n4_ := Aside0.mk (Kd.R_lower ho0 (below_size (by repeat (first | (with_reducible first | exact HB.out | apply below_alloc | apply pw_below_drewN | apply below_drew1 | refine below_set ?_ GE363.out) | exact HB.out)))); have n5_ := Aside0.mk (blk_below (g := gb363) (o := .cells #[.int .i64 a1_0, .int .i64 a1_1, .int .i64 a1_2] 31 (0, 0)) (by (with_reducible repeat (first | refine blk_drewN ?_ _ | refine blk_drew ?_ | refine blk_alloc ?_ _)); exact BK363.out) hb); have n6_ := Aside0.mk (below_step (by repeat (first | (with_reducible first | exact HB.out | apply below_alloc | apply pw_below_drewN | apply below_drew1 | refine below_set ?_ GE363.out) | exact HB.out)) hb); clear HO366; clear HO370; clear HO373; clear HO376; clear BK363; clear HB; have HO366 := n0_; have HO370 := n1_; have HO373 := n2_; have HO376 := n3_; have HO380 := n4_; have BK363 := n5_; have HB := n6_; clear n0_ n1_ n2_ n3_ n4_ n5_ n6_; (try clear hb); (try clear hb2); (try clear hk); (try clear hi); (try clear ho0); have hcz132_0 : w131.cell? ⟨gb363, 0, none⟩ = some (.int .i64 a1_0) := (blk_cell BK363.out 0).trans rfl; have hcz132_1 : w131.cell? ⟨gb363, 1, none⟩ = some (.int .i64 a1_1) := (blk_cell BK363.out 1).trans rfl; have hcz132_2 : w131.cell? ⟨gb363, 2, none⟩ = some (.int .i64 a1_2) := (blk_cell BK363.out 2).trans rfl; have hfz132_0 := blk_frozen BK363.out 0; have hfz132_1 := blk_frozen BK363.out 1; have hfz132_2 := blk_frozen BK363.out 2))
     have n0_ := Aside0.mk (Kd.R_drew HO366.out)
     have n1_ := Aside0.mk (Kd.R_drew HO370.out)
     have n2_ := Aside0.mk (Kd.R_drew HO373.out)
     have n3_ := Aside0.mk (Kd.R_drew HO376.out)
     have n4_ := Aside0.mk (Kd.R_drew HO380.out)
     have n5_ := Aside0.mk (blk_drew BK363.out)
     have n6_ := Aside0.mk (below_drew1 HB.out)
     clear HO366
     clear HO370
     clear HO373
     clear HO376
     clear HO380
     clear BK363
     clear HB
     have HO366 := n0_
     have HO370 := n1_
     have HO373 := n2_
     have HO376 := n3_
     have HO380 := n4_
     have BK363 := n5_
     have HB := n6_
     clear n0_ n1_ n2_ n3_ n4_ n5_ n6_
     obtain ⟨Ao134, co134, eo134⟩ := Kd.R_slice HO373.out
     (first | subst eo134 | (injection eo134 with f1_ f2_ f3_; have f4_ := f1_.symm; have f5_ := f3_.symm; clear f1_ f2_ f3_; subst f4_; subst f5_))
     have p381 : 0 ≤ (0 : Int) := (by omega)
     have q381 : 0 < (t371.length : Int) := of_decide_eq_true (by first | (with_reducible assumption) | assumption)
     obtain ⟨ad381, e381, hx381_0⟩ := Kd.at_int (Kd.R_reads' HO373.out).2.2 0 p381 q381
     cases e381
     have qi381 : (0 < t371.length) = True := eq_true (by omega)
     (try rw [show ((0 : Int)).toNat = 0 from rfl] at hx381_0)
     (try rw [Addr.add_zero'] at hx381_0)
     replace p381 := eq_true p381
     replace q381 := eq_true q381
     refine start_ (n := 53) (S := fun w' => w'.cell? ad381 = some (.int .i64 (rd t371 0))) (ds := []) #[false, false, false, false, false, false, false, false, false, false, false, false, false, false, false, false, false, false, false, false, false, false, false, false, false, false, false, false, false, false, false, false, false, false, false, false, false, false, false, false, false, false, false, false, false, false, false, false, false, false, false, false, false] (by kernel_rfl) rfl rfl (hx381_0) (fun hHeld => ?_); refine with_tabW flywheellaw27_AllocOne.tab8 flywheellaw27_AllocOne.bits8 (fun HT_ HW_ => ?_)
     generalize w131.drew = w133 at HO366 HO370 HO373 HO376 HO380 BK363 HB hx381_0 hHeld ⊢
     refine pure_ (i := 0) (N := some 49) (v := ?_) (a' := ?_) (bl 53 1) rfl rfl (any_of HT_.out (by kernel_rfl)) (fun _ _ _ h => h) (Or.inl ⟨by rfl, ?_⟩) ?_ ?_
     rotate_left
     ·intro w'
      go_simp
      with_reducible rfl
     rotate_left
     ·simp only [puts_]
      rfl
     refine pure_ (i := 1) (N := some 50) (v := ?_) (a' := ?_) (bl 53 3) rfl rfl (any_of HT_.out (by kernel_rfl)) (fun _ _ _ h => h) (Or.inl ⟨by rfl, ?_⟩) ?_ ?_
     rotate_left
     ·intro w'
      go_simp
      with_reducible rfl
     rotate_left
     ·simp only [puts_]
      rfl
     refine pure_ (i := 2) (N := some 51) (v := ?_) (a' := ?_) (bl 53 7) rfl rfl (any_of HT_.out (by kernel_rfl)) (fun _ _ _ h => h) (Or.inl ⟨by rfl, ?_⟩) ?_ ?_
     rotate_left
     ·intro w'
      go_simp
      with_reducible rfl
     rotate_left
     ·simp only [puts_]
      rfl
     refine pure_ (i := 3) (N := some 52) (v := ?_) (a' := ?_) (bl 53 15) rfl rfl (any_of HT_.out (by kernel_rfl)) (fun _ _ _ h => h) (Or.inl ⟨by rfl, ?_⟩) ?_ ?_
     rotate_left
     ·intro w'
      go_simp
      with_reducible rfl
     rotate_left
     ·simp only [puts_]
      rfl
     refine pure_ (i := 4) (N := some 53) (v := ?_) (a' := ?_) (bl 53 31) rfl rfl (any_of HT_.out (by kernel_rfl)) (fun _ _ _ h => h) (Or.inl ⟨by rfl, ?_⟩) ?_ ?_
     rotate_left
     ·intro w'
      go_simp
      with_reducible rfl
     rotate_left
     ·simp only [puts_]
      rfl
     refine pure_ (i := 5) (N := some 54) (v := ?_) (a' := ?_) (bl 53 63) rfl rfl (any_of HT_.out (by kernel_rfl)) (fun _ _ _ h => h) (Or.inl ⟨by rfl, ?_⟩) ?_ ?_
     rotate_left
     ·intro w'
      go_simp
      with_reducible rfl
     rotate_left
     ·simp only [puts_]
      rfl
     refine pure_ (i := 7) (N := some 56) (v := ?_) (a' := ?_) (bl 53 191) rfl rfl (any_of HT_.out (by kernel_rfl)) (fun _ _ _ h => h) (Or.inl ⟨by rfl, ?_⟩) ?_ ?_
     rotate_left
     ·intro w'
      go_simp
      with_reducible rfl
     rotate_left
     ·simp only [puts_]
      rfl
     refine take_ (i := 6) (N := some 55) (v := ?_) (a' := ?_) (bl 53 255) rfl rfl (take_ofW HT_.out HW_.out (by kernel_rfl)) (fun _ _ _ h => h) (Or.inl ⟨by rfl, ?_⟩) hHeld ?_ ?_
     rotate_left
     ·intro w' s0
      go_simp
      with_reducible rfl
     rotate_left
     ·simp only [puts_]
      rfl
     refine pure_ (i := 8) (N := some 57) (v := ?_) (a' := ?_) (bl 53 511) rfl rfl (any_of HT_.out (by kernel_rfl)) (fun _ _ _ h => h) (Or.inl ⟨by rfl, ?_⟩) ?_ ?_
     rotate_left
     ·intro w'
      go_simp
      with_reducible rfl
     rotate_left
     ·simp only [puts_]
      rfl
     refine pure_ (i := 9) (N := some 58) (v := ?_) (a' := ?_) (bl 53 1023) rfl rfl (any_of HT_.out (by kernel_rfl)) (fun _ _ _ h => h) (Or.inl ⟨by rfl, ?_⟩) ?_ ?_
     rotate_left
     ·intro w'
      go_simp
      with_reducible rfl
     rotate_left
     ·simp only [puts_]
      rfl
     refine pure_ (i := 10) (N := some 59) (v := ?_) (a' := ?_) (bl 53 2047) rfl rfl (any_of HT_.out (by kernel_rfl)) (fun _ _ _ h => h) (Or.inl ⟨by rfl, ?_⟩) ?_ ?_
     rotate_left
     ·intro w'
      go_simp
      with_reducible rfl
     rotate_left
     ·simp only [puts_]
      rfl
     refine pure_ (i := 11) (N := some 60) (v := undef) (a' := ?_) (bl 53 4095) rfl rfl (any_of HT_.out (by kernel_rfl)) (fun _ _ _ h => h) (Or.inr ⟨by rfl, rfl⟩) ?_ ?_
     rotate_left
     ·simp only [puts_]
      rfl
     refine pure_ (i := 12) (N := some 61) (v := undef) (a' := ?_) (bl 53 8191) rfl rfl (any_of HT_.out (by kernel_rfl)) (fun _ _ _ h => h) (Or.inr ⟨by rfl, rfl⟩) ?_ ?_
     rotate_left
     ·simp only [puts_]
      rfl
     refine pure_ (i := 13) (N := some 62) (v := undef) (a' := ?_) (bl 53 16383) rfl rfl (any_of HT_.out (by kernel_rfl)) (fun _ _ _ h => h) (Or.inr ⟨by rfl, rfl⟩) ?_ ?_
     rotate_left
     ·simp only [puts_]
      rfl
     refine pure_ (i := 14) (N := some 63) (v := ?_) (a' := ?_) (bl 53 32767) rfl rfl (any_of HT_.out (by kernel_rfl)) (fun _ _ _ h => h) (Or.inl ⟨by rfl, ?_⟩) ?_ ?_
     rotate_left
     ·intro w'
      go_simp
      with_reducible rfl
     rotate_left
     ·simp only [puts_]
      rfl
     refine pure_ (i := 15) (N := some 64) (v := ?_) (a' := ?_) (bl 53 65535) rfl rfl (any_of HT_.out (by kernel_rfl)) (fun _ _ _ h => h) (Or.inl ⟨by rfl, ?_⟩) ?_ ?_
     rotate_left
     ·intro w'
      go_simp
      with_reducible rfl
     rotate_left
     ·simp only [puts_]
      rfl
     refine pure_ (i := 16) (N := some 65) (v := undef) (a' := ?_) (bl 53 131071) rfl rfl (any_of HT_.out (by kernel_rfl)) (fun _ _ _ h => h) (Or.inr ⟨by rfl, rfl⟩) ?_ ?_
     rotate_left
     ·simp only [puts_]
      rfl
     refine pure_ (i := 17) (N := some 66) (v := undef) (a' := ?_) (bl 53 262143) rfl rfl (any_of HT_.out (by kernel_rfl)) (fun _ _ _ h => h) (Or.inr ⟨by rfl, rfl⟩) ?_ ?_
     rotate_left
     ·simp only [puts_]
      rfl
     refine pure_ (i := 18) (N := some 67) (v := ?_) (a' := ?_) (bl 53 524287) rfl rfl (any_of HT_.out (by kernel_rfl)) (fun _ _ _ h => h) (Or.inl ⟨by rfl, ?_⟩) ?_ ?_
     rotate_left
     ·intro w'
      go_simp
      with_reducible rfl
     rotate_left
     ·simp only [puts_]
      rfl
     refine pure_ (i := 19) (N := some 68) (v := ?_) (a' := ?_) (bl 53 1048575) rfl rfl (any_of HT_.out (by kernel_rfl)) (fun _ _ _ h => h) (Or.inl ⟨by rfl, ?_⟩) ?_ ?_
     rotate_left
     ·intro w'
      go_simp
      with_reducible rfl
     rotate_left
     ·simp only [puts_]
      rfl
     refine pure_ (i := 20) (N := some 69) (v := undef) (a' := ?_) (bl 53 2097151) rfl rfl (any_of HT_.out (by kernel_rfl)) (fun _ _ _ h => h) (Or.inr ⟨by rfl, rfl⟩) ?_ ?_
     rotate_left
     ·simp only [puts_]
      rfl
     refine pure_ (i := 21) (N := some 70) (v := undef) (a' := ?_) (bl 53 4194303) rfl rfl (any_of HT_.out (by kernel_rfl)) (fun _ _ _ h => h) (Or.inr ⟨by rfl, rfl⟩) ?_ ?_
     rotate_left
     ·simp only [puts_]
      rfl
     refine pure_ (i := 22) (N := some 71) (v := undef) (a' := ?_) (bl 53 8388607) rfl rfl (any_of HT_.out (by kernel_rfl)) (fun _ _ _ h => h) (Or.inr ⟨by rfl, rfl⟩) ?_ ?_
     rotate_left
     ·simp only [puts_]
      rfl
     refine pure_ (i := 23) (N := some 72) (v := undef) (a' := ?_) (bl 53 16777215) rfl rfl (any_of HT_.out (by kernel_rfl)) (fun _ _ _ h => h) (Or.inr ⟨by rfl, rfl⟩) ?_ ?_
     rotate_left
     ·simp only [puts_]
      rfl
     refine pure_ (i := 24) (N := some 73) (v := undef) (a' := ?_) (bl 53 33554431) rfl rfl (any_of HT_.out (by kernel_rfl)) (fun _ _ _ h => h) (Or.inr ⟨by rfl, rfl⟩) ?_ ?_
     rotate_left
     ·simp only [puts_]
      rfl
     refine pure_ (i := 25) (N := some 74) (v := undef) (a' := ?_) (bl 53 67108863) rfl rfl (any_of HT_.out (by kernel_rfl)) (fun _ _ _ h => h) (Or.inr ⟨by rfl, rfl⟩) ?_ ?_
     rotate_left
     ·simp only [puts_]
      rfl
     refine pure_ (i := 26) (N := some 75) (v := undef) (a' := ?_) (bl 53 134217727) rfl rfl (any_of HT_.out (by kernel_rfl)) (fun _ _ _ h => h) (Or.inr ⟨by rfl, rfl⟩) ?_ ?_
     rotate_left
     ·simp only [puts_]
      rfl
     refine pure_ (i := 27) (N := some 76) (v := undef) (a' := ?_) (bl 53 268435455) rfl rfl (any_of HT_.out (by kernel_rfl)) (fun _ _ _ h => h) (Or.inr ⟨by rfl, rfl⟩) ?_ ?_
     rotate_left
     ·simp only [puts_]
      rfl
     refine pure_ (i := 28) (N := some 77) (v := undef) (a' := ?_) (bl 53 536870911) rfl rfl (any_of HT_.out (by kernel_rfl)) (fun _ _ _ h => h) (Or.inr ⟨by rfl, rfl⟩) ?_ ?_
     rotate_left
     ·simp only [puts_]
      rfl
     refine pure_ (i := 29) (N := some 78) (v := undef) (a' := ?_) (bl 53 1073741823) rfl rfl (any_of HT_.out (by kernel_rfl)) (fun _ _ _ h => h) (Or.inr ⟨by rfl, rfl⟩) ?_ ?_
     rotate_left
     ·simp only [puts_]
      rfl
     refine pure_ (i := 30) (N := some 79) (v := undef) (a' := ?_) (bl 53 2147483647) rfl rfl (any_of HT_.out (by kernel_rfl)) (fun _ _ _ h => h) (Or.inr ⟨by rfl, rfl⟩) ?_ ?_
     rotate_left
     ·simp only [puts_]
      rfl
     refine pure_ (i := 31) (N := some 80) (v := undef) (a' := ?_) (bl 53 4294967295) rfl rfl (any_of HT_.out (by kernel_rfl)) (fun _ _ _ h => h) (Or.inr ⟨by rfl, rfl⟩) ?_ ?_
     rotate_left
     ·simp only [puts_]
      rfl
     refine pure_ (i := 32) (N := some 81) (v := undef) (a' := ?_) (bl 53 8589934591) rfl rfl (any_of HT_.out (by kernel_rfl)) (fun _ _ _ h => h) (Or.inr ⟨by rfl, rfl⟩) ?_ ?_
     rotate_left
     ·simp only [puts_]
      rfl
     refine pure_ (i := 33) (N := some 82) (v := undef) (a' := ?_) (bl 53 17179869183) rfl rfl (any_of HT_.out (by kernel_rfl)) (fun _ _ _ h => h) (Or.inr ⟨by rfl, rfl⟩) ?_ ?_
     rotate_left
     ·simp only [puts_]
      rfl
     refine pure_ (i := 34) (N := some 83) (v := undef) (a' := ?_) (bl 53 34359738367) rfl rfl (any_of HT_.out (by kernel_rfl)) (fun _ _ _ h => h) (Or.inr ⟨by rfl, rfl⟩) ?_ ?_
     rotate_left
     ·simp only [puts_]
      rfl
     refine pure_ (i := 35) (N := some 84) (v := ?_) (a' := ?_) (bl 53 68719476735) rfl rfl (any_of HT_.out (by kernel_rfl)) (fun _ _ _ h => h) (Or.inl ⟨by rfl, ?_⟩) ?_ ?_
     rotate_left
     ·intro w'
      go_simp
      with_reducible rfl
     rotate_left
     ·simp only [puts_]
      rfl
     refine pure_ (i := 36) (N := some 85) (v := ?_) (a' := ?_) (bl 53 137438953471) rfl rfl (any_of HT_.out (by kernel_rfl)) (fun _ _ _ h => h) (Or.inl ⟨by rfl, ?_⟩) ?_ ?_
     rotate_left
     ·intro w'
      go_simp
      with_reducible rfl
     rotate_left
     ·simp only [puts_]
      rfl
     refine pure_ (i := 37) (N := some 86) (v := undef) (a' := ?_) (bl 53 274877906943) rfl rfl (any_of HT_.out (by kernel_rfl)) (fun _ _ _ h => h) (Or.inr ⟨by rfl, rfl⟩) ?_ ?_
     rotate_left
     ·simp only [puts_]
      rfl
     refine pure_ (i := 38) (N := some 87) (v := undef) (a' := ?_) (bl 53 549755813887) rfl rfl (any_of HT_.out (by kernel_rfl)) (fun _ _ _ h => h) (Or.inr ⟨by rfl, rfl⟩) ?_ ?_
     rotate_left
     ·simp only [puts_]
      rfl
     refine pure_ (i := 39) (N := some 88) (v := undef) (a' := ?_) (bl 53 1099511627775) rfl rfl (any_of HT_.out (by kernel_rfl)) (fun _ _ _ h => h) (Or.inr ⟨by rfl, rfl⟩) ?_ ?_
     rotate_left
     ·simp only [puts_]
      rfl
     refine pure_ (i := 40) (N := some 89) (v := undef) (a' := ?_) (bl 53 2199023255551) rfl rfl (any_of HT_.out (by kernel_rfl)) (fun _ _ _ h => h) (Or.inr ⟨by rfl, rfl⟩) ?_ ?_
     rotate_left
     ·simp only [puts_]
      rfl
     refine pure_ (i := 41) (N := some 90) (v := undef) (a' := ?_) (bl 53 4398046511103) rfl rfl (any_of HT_.out (by kernel_rfl)) (fun _ _ _ h => h) (Or.inr ⟨by rfl, rfl⟩) ?_ ?_
     rotate_left
     ·simp only [puts_]
      rfl
     refine pure_ (i := 42) (N := some 91) (v := undef) (a' := ?_) (bl 53 8796093022207) rfl rfl (any_of HT_.out (by kernel_rfl)) (fun _ _ _ h => h) (Or.inr ⟨by rfl, rfl⟩) ?_ ?_
     rotate_left
     ·simp only [puts_]
      rfl
     refine pure_ (i := 43) (N := some 92) (v := undef) (a' := ?_) (bl 53 17592186044415) rfl rfl (any_of HT_.out (by kernel_rfl)) (fun _ _ _ h => h) (Or.inr ⟨by rfl, rfl⟩) ?_ ?_
     rotate_left
     ·simp only [puts_]
      rfl
     refine pure_ (i := 44) (N := some 93) (v := undef) (a' := ?_) (bl 53 35184372088831) rfl rfl (any_of HT_.out (by kernel_rfl)) (fun _ _ _ h => h) (Or.inr ⟨by rfl, rfl⟩) ?_ ?_
     rotate_left
     ·simp only [puts_]
      rfl
     refine pure_ (i := 45) (N := some 94) (v := undef) (a' := ?_) (bl 53 70368744177663) rfl rfl (any_of HT_.out (by kernel_rfl)) (fun _ _ _ h => h) (Or.inr ⟨by rfl, rfl⟩) ?_ ?_
     rotate_left
     ·simp only [puts_]
      rfl
     refine pure_ (i := 46) (N := some 95) (v := undef) (a' := ?_) (bl 53 140737488355327) rfl rfl (any_of HT_.out (by kernel_rfl)) (fun _ _ _ h => h) (Or.inr ⟨by rfl, rfl⟩) ?_ ?_
     rotate_left
     ·simp only [puts_]
      rfl
     refine pure_ (i := 47) (N := some 96) (v := undef) (a' := ?_) (bl 53 281474976710655) rfl rfl (any_of HT_.out (by kernel_rfl)) (fun _ _ _ h => h) (Or.inr ⟨by rfl, rfl⟩) ?_ ?_
     rotate_left
     ·simp only [puts_]
      rfl
     refine pure_ (i := 48) (N := some 97) (v := ?_) (a' := ?_) (bl 53 562949953421311) rfl rfl (any_of HT_.out (by kernel_rfl)) (fun _ _ _ h => h) (Or.inl ⟨by rfl, ?_⟩) ?_ ?_
     rotate_left
     ·intro w'
      go_simp
      with_reducible rfl
     rotate_left
     ·simp only [puts_]
      rfl
     refine pure_ (i := 49) (N := some 98) (v := ?_) (a' := ?_) (bl 53 1125899906842623) rfl rfl (any_of HT_.out (by kernel_rfl)) (fun _ _ _ h => h) (Or.inl ⟨by rfl, ?_⟩) ?_ ?_
     rotate_left
     ·intro w'
      go_simp
      with_reducible rfl
     rotate_left
     ·simp only [puts_]
      rfl
     refine pure_ (i := 50) (N := some 99) (v := undef) (a' := ?_) (bl 53 2251799813685247) rfl rfl (any_of HT_.out (by kernel_rfl)) (fun _ _ _ h => h) (Or.inr ⟨by rfl, rfl⟩) ?_ ?_
     rotate_left
     ·simp only [puts_]
      rfl
     refine pure_ (i := 51) (N := some 100) (v := ?_) (a' := ?_) (bl 53 4503599627370495) rfl rfl (any_of HT_.out (by kernel_rfl)) (fun _ _ _ h => h) (Or.inl ⟨by rfl, ?_⟩) ?_ ?_
     rotate_left
     ·intro w'
      go_simp
      with_reducible rfl
     rotate_left
     ·simp only [puts_]
      rfl
     refine pure_ (i := 52) (N := some 6) (v := ?_) (a' := ?_) (bl 53 9007199254740991) rfl rfl (any_of HT_.out (by kernel_rfl)) (fun _ _ _ h => h) (Or.inl ⟨by rfl, ?_⟩) ?_ ?_
     rotate_left
     ·intro w'
      go_simp
      with_reducible rfl
     rotate_left
     ·simp only [puts_]
      rfl
     refine done_ (done_of HT_.out (by kernel_rfl)) ?_
     try go_wp2
     go_ret
     exact ⟨by first | rfl | (simp [errW_none, errW_some] <;> rfl) | (simp only [← hji6, ← hji7, ← hji9, ← hji11]; first | rfl | (simp [errW_none, errW_some] <;> rfl)) | (simp [*, errW_none, errW_some] <;> rfl), by repeat (first | (with_reducible first | exact HB.out | apply below_alloc | apply pw_below_drewN | apply below_drew1 | refine below_set ?_ GE363.out) | exact HB.out)⟩
   ·rw [if_neg c13] at H
    exact absurd H (by simp)
  ·rw [if_neg c12] at H
   have c12b0 : ((t371.length : Int) == 1) = false := beq_eq_false_iff_ne.mpr c12
   have c12b1 : ((t371.length : Int) != 1) = true := bne_iff_ne.mpr c12
   obtain rfl := Option.some.inj H
   go_enter Try.func12, Try.ntmps12
   try go_wp2_with (first | ((with_reducible refine gate_dst (N := 4) rfl ?_); (try (refine gate_guard (by rfl) ?_; dsimp only)); refine box_event ?hg (N := 4) ?hd (cs := #[.int .i64 a1_0, .int .i64 a1_1, .int .i64 a1_2]) (t := 31) ?hr ?_; (case hd => rfl); (case hg => rfl); (case hr => first | (go_simp; done) | (go_simp; rfl)); intro gb363 hg w135 hbox hb; have n0_ := Aside0.mk (below_step (by repeat (first | (with_reducible first | exact HB.out | apply below_alloc | apply pw_below_drewN | apply below_drew1) | exact HB.out)) hb); have n1_ := Aside0.mk (hbox); have n2_ := Aside0.mk ((by rw [hg]; exact (below_size (by repeat (first | (with_reducible first | exact HB.out | apply below_alloc | apply pw_below_drewN | apply below_drew1) | exact HB.out))) : w.heap.size ≤ gb363)); have n3_ := Aside0.mk ((by rw [hg]; exact (below_size (by repeat (first | (with_reducible first | exact HB.out | apply below_alloc | apply pw_below_drewN | apply below_drew1) | exact HB.out))) : w.heap.size ≤ gb363)); clear HB; have HB := n0_; have BK363 := n1_; have GW363 := n2_; have GE363 := n3_; clear n0_ n1_ n2_ n3_; clear hb hbox hg; have hcz136_0 : w135.cell? ⟨gb363, 0, none⟩ = some (.int .i64 a1_0) := (blk_cell BK363.out 0).trans rfl; have hcz136_1 : w135.cell? ⟨gb363, 1, none⟩ = some (.int .i64 a1_1) := (blk_cell BK363.out 1).trans rfl; have hcz136_2 : w135.cell? ⟨gb363, 2, none⟩ = some (.int .i64 a1_2) := (blk_cell BK363.out 2).trans rfl; have hfz136_0 := blk_frozen BK363.out 0; have hfz136_1 := blk_frozen BK363.out 1; have hfz136_2 := blk_frozen BK363.out 2) | ((with_reducible refine gate_dst (N := 14) rfl ?_); (try (refine gate_guard (by rfl) ?_; dsimp only)); refine Kd.R_lit k31 _ 31 ?hg (N := 14) ?hd (xs := ([(⟨a1_0, a1_1, a1_2⟩ : S31)] : List (S31))) (inner := [.int .i64 a1_0, .int .i64 a1_1, .int .i64 a1_2]) (ok := fun _ => True) (okp := fun _ => True) ?hr ?hp (fun _ hk => hk) trivial (Below.refl _ _) (Nat.le_refl _) (by simp) ?_; (case hd => rfl); (case hg => rfl); (case hr => first | (go_simp; done) | (go_simp; rfl)); (case hp => exact (Reps.c3 (show Kd.M k31 _ _ _ (⟨a1_0, a1_1, a1_2⟩ : S31) [.int .i64 a1_0, .int .i64 a1_1, .int .i64 a1_2] from (k31_mkM _ _ _ (⟨a1_0, a1_1, a1_2⟩ : S31) )) (Reps.none _ _))); intro v365 w137 ho138 hb hg_ hnew_; clear hg_ hnew_; (first | rw [← Ny364.out] at ho138 | (simp only [Int.reduceToNat] at ho138; rw [← Ny364.out] at ho138)); have n0_ := Aside0.mk (Kd.R_lower (Kd.R_newB ho138 (g := gb363) (o := .cells #[.int .i64 a1_0, .int .i64 a1_1, .int .i64 a1_2] 31 (0, 0)) (by (with_reducible repeat (first | refine blk_drewN ?_ _ | refine blk_drew ?_ | refine blk_alloc ?_ _)); exact BK363.out)) (below_size (by repeat (first | (with_reducible first | exact HB.out | apply below_alloc | apply pw_below_drewN | apply below_drew1 | refine below_set ?_ GE363.out) | exact HB.out)))); have n1_ := Aside0.mk (blk_below (g := gb363) (o := .cells #[.int .i64 a1_0, .int .i64 a1_1, .int .i64 a1_2] 31 (0, 0)) (by (with_reducible repeat (first | refine blk_drewN ?_ _ | refine blk_drew ?_ | refine blk_alloc ?_ _)); exact BK363.out) hb); have n2_ := Aside0.mk (below_step (by repeat (first | (with_reducible first | exact HB.out | apply below_alloc | apply pw_below_drewN | apply below_drew1 | refine below_set ?_ GE363.out) | exact HB.out)) hb); clear BK363; clear HB; have HO366 := n0_; have BK363 := n1_; have HB := n2_; clear n0_ n1_ n2_; clear hb ho138; obtain ⟨Ao139, co139, eo139⟩ := Kd.R_slice HO366.out; subst eo139) | ((with_reducible refine gate_callee (f := 16) rfl ?_); refine goesL_ (some 15) rfl rfl Try.func16 (by kernel_rfl) rfl #[.slice Ao139 y364.length co139] rfl (by (try simp only [List.map_toArray, List.map_cons, List.map_nil]); first | done | rfl | (simp only [List.length_drop, List.length_take]; rfl)) ?_; (with_reducible refine (flywheelref27_Good.calls k _ _ y364 true _ ?side1 ?side2 A4.out).mono ?_); (case side1 => repeat (first | exact (Kd.R_reads' HO366.out).2.2 | (with_reducible refine Kd.C_alloc ?_ _) | (with_reducible refine Kd.C_drewN ?_ _) | (with_reducible refine Kd.C_drew ?_))); (case side2 => exact (Kd.R_reads' HO366.out).2.1); rintro e w' ⟨rfl, ⟨nd, rfl⟩⟩; refine ⟨_, rfl, ?_⟩; have hcz140_0 : w137.cell? ⟨gb363, 0, none⟩ = some (.int .i64 a1_0) := (blk_cell BK363.out 0).trans rfl; have hcz140_1 : w137.cell? ⟨gb363, 1, none⟩ = some (.int .i64 a1_1) := (blk_cell BK363.out 1).trans rfl; have hcz140_2 : w137.cell? ⟨gb363, 2, none⟩ = some (.int .i64 a1_2) := (blk_cell BK363.out 2).trans rfl; have hfz140_0 := blk_frozen BK363.out 0; have hfz140_1 := blk_frozen BK363.out 1; have hfz140_2 := blk_frozen BK363.out 2) | ((with_reducible refine gate_dst (N := 31) rfl ?_); (try (refine gate_guard (by rfl) ?_; dsimp only)); refine Kd.R_lit k31 _ 31 ?hg (N := 31) ?hd (xs := ([(⟨a1_0, a1_1, a1_2⟩ : S31)] : List (S31))) (inner := [.int .i64 a1_0, .int .i64 a1_1, .int .i64 a1_2]) (ok := fun _ => True) (okp := fun _ => True) ?hr ?hp (fun _ hk => hk) trivial (Below.refl _ _) (Nat.le_refl _) (by simp) ?_; (case hd => rfl); (case hg => rfl); (case hr => first | (go_simp; done) | (go_simp; rfl)); (case hp => exact (Reps.c3 (show Kd.M k31 _ _ _ (⟨a1_0, a1_1, a1_2⟩ : S31) [.int .i64 a1_0, .int .i64 a1_1, .int .i64 a1_2] from (k31_mkM _ _ _ (⟨a1_0, a1_1, a1_2⟩ : S31) )) (Reps.none _ _))); intro v369 w141 ho142 hb hg_ hnew_; clear hg_ hnew_; (first | rw [← Ny368.out] at ho142 | (simp only [Int.reduceToNat] at ho142; rw [← Ny368.out] at ho142)); have n0_ := Aside0.mk (Kd.R_elder' (by (with_reducible repeat (first | apply Kd.R_alloc | apply Kd.R_drewN | apply Kd.R_drew)); exact HO366.out) (Kd.R_base ho142) hb); have n1_ := Aside0.mk (Kd.R_lower (Kd.R_newB (Kd.R_new' ho142 (Kd.R_lt (by (with_reducible repeat (first | apply Kd.R_alloc | apply Kd.R_drewN | apply Kd.R_drew)); exact HO366.out))) (g := gb363) (o := .cells #[.int .i64 a1_0, .int .i64 a1_1, .int .i64 a1_2] 31 (0, 0)) (by (with_reducible repeat (first | refine blk_drewN ?_ _ | refine blk_drew ?_ | refine blk_alloc ?_ _)); exact BK363.out)) (below_size (by repeat (first | (with_reducible first | exact HB.out | apply below_alloc | apply pw_below_drewN | apply below_drew1 | refine below_set ?_ GE363.out) | exact HB.out)))); have n2_ := Aside0.mk (blk_below (g := gb363) (o := .cells #[.int .i64 a1_0, .int .i64 a1_1, .int .i64 a1_2] 31 (0, 0)) (by (with_reducible repeat (first | refine blk_drewN ?_ _ | refine blk_drew ?_ | refine blk_alloc ?_ _)); exact BK363.out) hb); have n3_ := Aside0.mk (below_step (by repeat (first | (with_reducible first | exact HB.out | apply below_alloc | apply pw_below_drewN | apply below_drew1 | refine below_set ?_ GE363.out) | exact HB.out)) hb); clear HO366; clear BK363; clear HB; have HO366 := n0_; have HO370 := n1_; have BK363 := n2_; have HB := n3_; clear n0_ n1_ n2_ n3_; clear hb ho142; obtain ⟨Ao143, co143, eo143⟩ := Kd.R_slice HO370.out; subst eo143) | ((with_reducible refine gate_callee (f := 18) rfl ?_); refine goesL_ (some 32) rfl rfl Try.func18 (by kernel_rfl) rfl #[.int .i64 a0, .slice Ao143 y368.length co143] rfl (by (try simp only [List.map_toArray, List.map_cons, List.map_nil]); first | done | rfl | (simp only [List.length_drop, List.length_take]; rfl)) ?_; (with_reducible refine (alloc_Split.calls k a0 _ _ y368 t371 _ ?side1 ?side2 A8.out).mono ?_); (case side1 => repeat (first | exact (Kd.R_reads' HO370.out).2.2 | (with_reducible refine Kd.C_alloc ?_ _) | (with_reducible refine Kd.C_drewN ?_ _) | (with_reducible refine Kd.C_drew ?_))); (case side2 => exact (Kd.R_reads' HO370.out).2.1); rintro e w144 ⟨v372, rfl, ho0, hb⟩; refine ⟨_, rfl, ?_⟩; have n0_ := Aside0.mk (Kd.R_below (by (with_reducible repeat (first | apply Kd.R_alloc | apply Kd.R_drewN | apply Kd.R_drew)); exact HO366.out) hb); have n1_ := Aside0.mk (Kd.R_below (by (with_reducible repeat (first | apply Kd.R_alloc | apply Kd.R_drewN | apply Kd.R_drew)); exact HO370.out) hb); have n2_ := Aside0.mk (Kd.R_lower ho0 (below_size (by repeat (first | (with_reducible first | exact HB.out | apply below_alloc | apply pw_below_drewN | apply below_drew1 | refine below_set ?_ GE363.out) | exact HB.out)))); have n3_ := Aside0.mk (blk_below (g := gb363) (o := .cells #[.int .i64 a1_0, .int .i64 a1_1, .int .i64 a1_2] 31 (0, 0)) (by (with_reducible repeat (first | refine blk_drewN ?_ _ | refine blk_drew ?_ | refine blk_alloc ?_ _)); exact BK363.out) hb); have n4_ := Aside0.mk (below_step (by repeat (first | (with_reducible first | exact HB.out | apply below_alloc | apply pw_below_drewN | apply below_drew1 | refine below_set ?_ GE363.out) | exact HB.out)) hb); clear HO366; clear HO370; clear BK363; clear HB; have HO366 := n0_; have HO370 := n1_; have HO373 := n2_; have BK363 := n3_; have HB := n4_; clear n0_ n1_ n2_ n3_ n4_; (try clear hb); (try clear hb2); (try clear hk); (try clear hi); (try clear ho0); have hcz145_0 : w144.cell? ⟨gb363, 0, none⟩ = some (.int .i64 a1_0) := (blk_cell BK363.out 0).trans rfl; have hcz145_1 : w144.cell? ⟨gb363, 1, none⟩ = some (.int .i64 a1_1) := (blk_cell BK363.out 1).trans rfl; have hcz145_2 : w144.cell? ⟨gb363, 2, none⟩ = some (.int .i64 a1_2) := (blk_cell BK363.out 2).trans rfl; have hfz145_0 := blk_frozen BK363.out 0; have hfz145_1 := blk_frozen BK363.out 1; have hfz145_2 := blk_frozen BK363.out 2) | ((with_reducible refine gate_dst (N := 39) rfl ?_); (try (refine gate_guard (by rfl) ?_; dsimp only)); refine Kd.R_lit k31 _ 31 ?hg (N := 39) ?hd (xs := ([(⟨a1_0, a1_1, a1_2⟩ : S31)] : List (S31))) (inner := [.int .i64 a1_0, .int .i64 a1_1, .int .i64 a1_2]) (ok := fun _ => True) (okp := fun _ => True) ?hr ?hp (fun _ hk => hk) trivial (Below.refl _ _) (Nat.le_refl _) (by simp) ?_; (case hd => rfl); (case hg => rfl); (case hr => first | (go_simp; done) | (go_simp; rfl)); (case hp => exact (Reps.c3 (show Kd.M k31 _ _ _ (⟨a1_0, a1_1, a1_2⟩ : S31) [.int .i64 a1_0, .int .i64 a1_1, .int .i64 a1_2] from (k31_mkM _ _ _ (⟨a1_0, a1_1, a1_2⟩ : S31) )) (Reps.none _ _))); intro v375 w146 ho147 hb hg_ hnew_; clear hg_ hnew_; (first | rw [← Ny374.out] at ho147 | (simp only [Int.reduceToNat] at ho147; rw [← Ny374.out] at ho147)); have n0_ := Aside0.mk (Kd.R_elder' (by (with_reducible repeat (first | apply Kd.R_alloc | apply Kd.R_drewN | apply Kd.R_drew)); exact HO366.out) (Kd.R_base ho147) hb); have n1_ := Aside0.mk (Kd.R_elder' (by (with_reducible repeat (first | apply Kd.R_alloc | apply Kd.R_drewN | apply Kd.R_drew)); exact HO370.out) (Kd.R_base ho147) hb); have n2_ := Aside0.mk (Kd.R_below (by (with_reducible repeat (first | apply Kd.R_alloc | apply Kd.R_drewN | apply Kd.R_drew)); exact HO373.out) hb); have n3_ := Aside0.mk (Kd.R_lower (Kd.R_newB (Kd.R_new' (Kd.R_new' ho147 (Kd.R_lt (by (with_reducible repeat (first | apply Kd.R_alloc | apply Kd.R_drewN | apply Kd.R_drew)); exact HO366.out))) (Kd.R_lt (by (with_reducible repeat (first | apply Kd.R_alloc | apply Kd.R_drewN | apply Kd.R_drew)); exact HO370.out))) (g := gb363) (o := .cells #[.int .i64 a1_0, .int .i64 a1_1, .int .i64 a1_2] 31 (0, 0)) (by (with_reducible repeat (first | refine blk_drewN ?_ _ | refine blk_drew ?_ | refine blk_alloc ?_ _)); exact BK363.out)) (below_size (by repeat (first | (with_reducible first | exact HB.out | apply below_alloc | apply pw_below_drewN | apply below_drew1 | refine below_set ?_ GE363.out) | exact HB.out)))); have n4_ := Aside0.mk (blk_below (g := gb363) (o := .cells #[.int .i64 a1_0, .int .i64 a1_1, .int .i64 a1_2] 31 (0, 0)) (by (with_reducible repeat (first | refine blk_drewN ?_ _ | refine blk_drew ?_ | refine blk_alloc ?_ _)); exact BK363.out) hb); have n5_ := Aside0.mk (below_step (by repeat (first | (with_reducible first | exact HB.out | apply below_alloc | apply pw_below_drewN | apply below_drew1 | refine below_set ?_ GE363.out) | exact HB.out)) hb); clear HO366; clear HO370; clear HO373; clear BK363; clear HB; have HO366 := n0_; have HO370 := n1_; have HO373 := n2_; have HO376 := n3_; have BK363 := n4_; have HB := n5_; clear n0_ n1_ n2_ n3_ n4_ n5_; clear hb ho147; obtain ⟨Ao148, co148, eo148⟩ := Kd.R_slice HO376.out; subst eo148) | ((with_reducible refine gate_callee (f := 36) rfl ?_); refine goesL_ (some 42) rfl rfl Try.func36 (by kernel_rfl) rfl #[.int .i64 a0, .slice Ao148 y374.length co148, .int .i64 (wrap64 (a2)), .int .i64 0] rfl (by (try simp only [List.map_toArray, List.map_cons, List.map_nil]); first | done | rfl | (simp only [List.length_drop, List.length_take]; rfl)) ?_; (with_reducible refine (alloc_Share.calls k a0 _ _ y374 (wrap64 (a2)) 0 t377 t378 _ ?side1 ?side2 A10.out).mono ?_); (case side1 => repeat (first | exact (Kd.R_reads' HO376.out).2.2 | (with_reducible refine Kd.C_alloc ?_ _) | (with_reducible refine Kd.C_drewN ?_ _) | (with_reducible refine Kd.C_drew ?_))); (case side2 => exact (Kd.R_reads' HO376.out).2.1); rintro e w149 ⟨v379, rfl, ho0, hb⟩; refine ⟨_, rfl, ?_⟩; have n0_ := Aside0.mk (Kd.R_below (by (with_reducible repeat (first | apply Kd.R_alloc | apply Kd.R_drewN | apply Kd.R_drew)); exact HO366.out) hb); have n1_ := Aside0.mk (Kd.R_below (by (with_reducible repeat (first | apply Kd.R_alloc | apply Kd.R_drewN | apply Kd.R_drew)); exact HO370.out) hb); have n2_ := Aside0.mk (Kd.R_below (by (with_reducible repeat (first | apply Kd.R_alloc | apply Kd.R_drewN | apply Kd.R_drew)); exact HO373.out) hb); have n3_ := Aside0.mk (Kd.R_below (by (with_reducible repeat (first | apply Kd.R_alloc | apply Kd.R_drewN | apply Kd.R_drew)); exact HO376.out) hb); have n4_ := Aside0.mk (Kd.R_lower ho0 (below_size (by repeat (first | (with_reducible first | exact HB.out | apply below_alloc | apply pw_below_drewN | apply below_drew1 | refine below_set ?_ GE363.out) | exact HB.out)))); have n5_ := Aside0.mk (blk_below (g := gb363) (o := .cells #[.int .i64 a1_0, .int .i64 a1_1, .int .i64 a1_2] 31 (0, 0)) (by (with_reducible repeat (first | refine blk_drewN ?_ _ | refine blk_drew ?_ | refine blk_alloc ?_ _)); exact BK363.out) hb); have n6_ := Aside0.mk (below_step (by repeat (first | (with_reducible first | exact HB.out | apply below_alloc | apply pw_below_drewN | apply below_drew1 | refine below_set ?_ GE363.out) | exact HB.out)) hb); clear HO366; clear HO370; clear HO373; clear HO376; clear BK363; clear HB; have HO366 := n0_; have HO370 := n1_; have HO373 := n2_; have HO376 := n3_; have HO380 := n4_; have BK363 := n5_; have HB := n6_; clear n0_ n1_ n2_ n3_ n4_ n5_ n6_; (try clear hb); (try clear hb2); (try clear hk); (try clear hi); (try clear ho0); have hcz150_0 : w149.cell? ⟨gb363, 0, none⟩ = some (.int .i64 a1_0) := (blk_cell BK363.out 0).trans rfl; have hcz150_1 : w149.cell? ⟨gb363, 1, none⟩ = some (.int .i64 a1_1) := (blk_cell BK363.out 1).trans rfl; have hcz150_2 : w149.cell? ⟨gb363, 2, none⟩ = some (.int .i64 a1_2) := (blk_cell BK363.out 2).trans rfl; have hfz150_0 := blk_frozen BK363.out 0; have hfz150_1 := blk_frozen BK363.out 1; have hfz150_2 := blk_frozen BK363.out 2))
   have n0_ := Aside0.mk (Kd.R_drew HO366.out)
   have n1_ := Aside0.mk (Kd.R_drew HO370.out)
   have n2_ := Aside0.mk (Kd.R_drew HO373.out)
   have n3_ := Aside0.mk (Kd.R_drew HO376.out)
   have n4_ := Aside0.mk (Kd.R_drew HO380.out)
   have n5_ := Aside0.mk (blk_drew BK363.out)
   have n6_ := Aside0.mk (below_drew1 HB.out)
   clear HO366
   clear HO370
   clear HO373
   clear HO376
   clear HO380
   clear BK363
   clear HB
   have HO366 := n0_
   have HO370 := n1_
   have HO373 := n2_
   have HO376 := n3_
   have HO380 := n4_
   have BK363 := n5_
   have HB := n6_
   clear n0_ n1_ n2_ n3_ n4_ n5_ n6_
   obtain ⟨Ao152, co152, eo152⟩ := Kd.R_slice HO373.out
   (first | subst eo152 | (injection eo152 with f1_ f2_ f3_; have f4_ := f1_.symm; have f5_ := f3_.symm; clear f1_ f2_ f3_; subst f4_; subst f5_))
   refine start_ (n := 53) (S := fun w' => True) (ds := []) #[false, false, false, false, false, false, false, false, false, false, false, false, false, false, false, false, false, false, false, false, false, false, false, false, false, false, false, false, false, false, false, false, false, false, false, false, false, false, false, false, false, false, false, false, false, false, false, false, false, false, false, false, false] (by kernel_rfl) rfl rfl trivial (fun hHeld => ?_); refine with_tabW flywheellaw27_AllocOne.tab8 flywheellaw27_AllocOne.bits8 (fun HT_ HW_ => ?_)
   generalize w149.drew = w151 at HO366 HO370 HO373 HO376 HO380 BK363 HB hHeld ⊢
   refine pure_ (i := 0) (N := some 49) (v := ?_) (a' := ?_) (bl 53 1) rfl rfl (any_of HT_.out (by kernel_rfl)) (fun _ _ _ h => h) (Or.inl ⟨by rfl, ?_⟩) ?_ ?_
   rotate_left
   ·intro w'
    go_simp
    with_reducible rfl
   rotate_left
   ·simp only [puts_]
    rfl
   refine pure_ (i := 1) (N := some 50) (v := ?_) (a' := ?_) (bl 53 3) rfl rfl (any_of HT_.out (by kernel_rfl)) (fun _ _ _ h => h) (Or.inl ⟨by rfl, ?_⟩) ?_ ?_
   rotate_left
   ·intro w'
    go_simp
    with_reducible rfl
   rotate_left
   ·simp only [puts_]
    rfl
   refine pure_ (i := 2) (N := some 51) (v := ?_) (a' := ?_) (bl 53 7) rfl rfl (any_of HT_.out (by kernel_rfl)) (fun _ _ _ h => h) (Or.inl ⟨by rfl, ?_⟩) ?_ ?_
   rotate_left
   ·intro w'
    go_simp
    with_reducible rfl
   rotate_left
   ·simp only [puts_]
    rfl
   refine pure_ (i := 3) (N := some 52) (v := ?_) (a' := ?_) (bl 53 15) rfl rfl (any_of HT_.out (by kernel_rfl)) (fun _ _ _ h => h) (Or.inl ⟨by rfl, ?_⟩) ?_ ?_
   rotate_left
   ·intro w'
    go_simp
    with_reducible rfl
   rotate_left
   ·simp only [puts_]
    rfl
   refine pure_ (i := 4) (N := some 53) (v := undef) (a' := ?_) (bl 53 31) rfl rfl (any_of HT_.out (by kernel_rfl)) (fun _ _ _ h => h) (Or.inr ⟨by rfl, rfl⟩) ?_ ?_
   rotate_left
   ·simp only [puts_]
    rfl
   refine pure_ (i := 5) (N := some 54) (v := undef) (a' := ?_) (bl 53 63) rfl rfl (any_of HT_.out (by kernel_rfl)) (fun _ _ _ h => h) (Or.inr ⟨by rfl, rfl⟩) ?_ ?_
   rotate_left
   ·simp only [puts_]
    rfl
   refine pure_ (i := 6) (N := some 55) (v := undef) (a' := ?_) (bl 53 127) rfl rfl (any_of HT_.out (by kernel_rfl)) (fun _ _ _ h => h) (Or.inr ⟨by rfl, rfl⟩) ?_ ?_
   rotate_left
   ·simp only [puts_]
    rfl
   refine pure_ (i := 7) (N := some 56) (v := undef) (a' := ?_) (bl 53 255) rfl rfl (any_of HT_.out (by kernel_rfl)) (fun _ _ _ h => h) (Or.inr ⟨by rfl, rfl⟩) ?_ ?_
   rotate_left
   ·simp only [puts_]
    rfl
   refine pure_ (i := 8) (N := some 57) (v := undef) (a' := ?_) (bl 53 511) rfl rfl (any_of HT_.out (by kernel_rfl)) (fun _ _ _ h => h) (Or.inr ⟨by rfl, rfl⟩) ?_ ?_
   rotate_left
   ·simp only [puts_]
    rfl
   refine pure_ (i := 9) (N := some 58) (v := ?_) (a' := ?_) (bl 53 1023) rfl rfl (any_of HT_.out (by kernel_rfl)) (fun _ _ _ h => h) (Or.inl ⟨by rfl, ?_⟩) ?_ ?_
   rotate_left
   ·intro w'
    go_simp
    with_reducible rfl
   rotate_left
   ·simp only [puts_]
    rfl
   refine pure_ (i := 10) (N := some 59) (v := ?_) (a' := ?_) (bl 53 2047) rfl rfl (any_of HT_.out (by kernel_rfl)) (fun _ _ _ h => h) (Or.inl ⟨by rfl, ?_⟩) ?_ ?_
   rotate_left
   ·intro w'
    go_simp
    with_reducible rfl
   rotate_left
   ·simp only [puts_]
    rfl
   refine pure_ (i := 11) (N := some 60) (v := undef) (a' := ?_) (bl 53 4095) rfl rfl (any_of HT_.out (by kernel_rfl)) (fun _ _ _ h => h) (Or.inr ⟨by rfl, rfl⟩) ?_ ?_
   rotate_left
   ·simp only [puts_]
    rfl
   refine pure_ (i := 12) (N := some 61) (v := undef) (a' := ?_) (bl 53 8191) rfl rfl (any_of HT_.out (by kernel_rfl)) (fun _ _ _ h => h) (Or.inr ⟨by rfl, rfl⟩) ?_ ?_
   rotate_left
   ·simp only [puts_]
    rfl
   refine pure_ (i := 13) (N := some 62) (v := undef) (a' := ?_) (bl 53 16383) rfl rfl (any_of HT_.out (by kernel_rfl)) (fun _ _ _ h => h) (Or.inr ⟨by rfl, rfl⟩) ?_ ?_
   rotate_left
   ·simp only [puts_]
    rfl
   refine pure_ (i := 14) (N := some 63) (v := ?_) (a' := ?_) (bl 53 32767) rfl rfl (any_of HT_.out (by kernel_rfl)) (fun _ _ _ h => h) (Or.inl ⟨by rfl, ?_⟩) ?_ ?_
   rotate_left
   ·intro w'
    go_simp
    with_reducible rfl
   rotate_left
   ·simp only [puts_]
    rfl
   refine pure_ (i := 15) (N := some 64) (v := ?_) (a' := ?_) (bl 53 65535) rfl rfl (any_of HT_.out (by kernel_rfl)) (fun _ _ _ h => h) (Or.inl ⟨by rfl, ?_⟩) ?_ ?_
   rotate_left
   ·intro w'
    go_simp
    with_reducible rfl
   rotate_left
   ·simp only [puts_]
    rfl
   refine pure_ (i := 16) (N := some 65) (v := undef) (a' := ?_) (bl 53 131071) rfl rfl (any_of HT_.out (by kernel_rfl)) (fun _ _ _ h => h) (Or.inr ⟨by rfl, rfl⟩) ?_ ?_
   rotate_left
   ·simp only [puts_]
    rfl
   refine pure_ (i := 17) (N := some 66) (v := undef) (a' := ?_) (bl 53 262143) rfl rfl (any_of HT_.out (by kernel_rfl)) (fun _ _ _ h => h) (Or.inr ⟨by rfl, rfl⟩) ?_ ?_
   rotate_left
   ·simp only [puts_]
    rfl
   refine pure_ (i := 18) (N := some 67) (v := ?_) (a' := ?_) (bl 53 524287) rfl rfl (any_of HT_.out (by kernel_rfl)) (fun _ _ _ h => h) (Or.inl ⟨by rfl, ?_⟩) ?_ ?_
   rotate_left
   ·intro w'
    go_simp
    with_reducible rfl
   rotate_left
   ·simp only [puts_]
    rfl
   refine pure_ (i := 19) (N := some 68) (v := ?_) (a' := ?_) (bl 53 1048575) rfl rfl (any_of HT_.out (by kernel_rfl)) (fun _ _ _ h => h) (Or.inl ⟨by rfl, ?_⟩) ?_ ?_
   rotate_left
   ·intro w'
    go_simp
    with_reducible rfl
   rotate_left
   ·simp only [puts_]
    rfl
   refine pure_ (i := 20) (N := some 69) (v := undef) (a' := ?_) (bl 53 2097151) rfl rfl (any_of HT_.out (by kernel_rfl)) (fun _ _ _ h => h) (Or.inr ⟨by rfl, rfl⟩) ?_ ?_
   rotate_left
   ·simp only [puts_]
    rfl
   refine pure_ (i := 21) (N := some 70) (v := undef) (a' := ?_) (bl 53 4194303) rfl rfl (any_of HT_.out (by kernel_rfl)) (fun _ _ _ h => h) (Or.inr ⟨by rfl, rfl⟩) ?_ ?_
   rotate_left
   ·simp only [puts_]
    rfl
   refine pure_ (i := 22) (N := some 71) (v := undef) (a' := ?_) (bl 53 8388607) rfl rfl (any_of HT_.out (by kernel_rfl)) (fun _ _ _ h => h) (Or.inr ⟨by rfl, rfl⟩) ?_ ?_
   rotate_left
   ·simp only [puts_]
    rfl
   refine pure_ (i := 23) (N := some 72) (v := undef) (a' := ?_) (bl 53 16777215) rfl rfl (any_of HT_.out (by kernel_rfl)) (fun _ _ _ h => h) (Or.inr ⟨by rfl, rfl⟩) ?_ ?_
   rotate_left
   ·simp only [puts_]
    rfl
   refine pure_ (i := 24) (N := some 73) (v := undef) (a' := ?_) (bl 53 33554431) rfl rfl (any_of HT_.out (by kernel_rfl)) (fun _ _ _ h => h) (Or.inr ⟨by rfl, rfl⟩) ?_ ?_
   rotate_left
   ·simp only [puts_]
    rfl
   refine pure_ (i := 25) (N := some 74) (v := undef) (a' := ?_) (bl 53 67108863) rfl rfl (any_of HT_.out (by kernel_rfl)) (fun _ _ _ h => h) (Or.inr ⟨by rfl, rfl⟩) ?_ ?_
   rotate_left
   ·simp only [puts_]
    rfl
   refine pure_ (i := 26) (N := some 75) (v := undef) (a' := ?_) (bl 53 134217727) rfl rfl (any_of HT_.out (by kernel_rfl)) (fun _ _ _ h => h) (Or.inr ⟨by rfl, rfl⟩) ?_ ?_
   rotate_left
   ·simp only [puts_]
    rfl
   refine pure_ (i := 27) (N := some 76) (v := undef) (a' := ?_) (bl 53 268435455) rfl rfl (any_of HT_.out (by kernel_rfl)) (fun _ _ _ h => h) (Or.inr ⟨by rfl, rfl⟩) ?_ ?_
   rotate_left
   ·simp only [puts_]
    rfl
   refine pure_ (i := 28) (N := some 77) (v := undef) (a' := ?_) (bl 53 536870911) rfl rfl (any_of HT_.out (by kernel_rfl)) (fun _ _ _ h => h) (Or.inr ⟨by rfl, rfl⟩) ?_ ?_
   rotate_left
   ·simp only [puts_]
    rfl
   refine pure_ (i := 29) (N := some 78) (v := undef) (a' := ?_) (bl 53 1073741823) rfl rfl (any_of HT_.out (by kernel_rfl)) (fun _ _ _ h => h) (Or.inr ⟨by rfl, rfl⟩) ?_ ?_
   rotate_left
   ·simp only [puts_]
    rfl
   refine pure_ (i := 30) (N := some 79) (v := undef) (a' := ?_) (bl 53 2147483647) rfl rfl (any_of HT_.out (by kernel_rfl)) (fun _ _ _ h => h) (Or.inr ⟨by rfl, rfl⟩) ?_ ?_
   rotate_left
   ·simp only [puts_]
    rfl
   refine pure_ (i := 31) (N := some 80) (v := undef) (a' := ?_) (bl 53 4294967295) rfl rfl (any_of HT_.out (by kernel_rfl)) (fun _ _ _ h => h) (Or.inr ⟨by rfl, rfl⟩) ?_ ?_
   rotate_left
   ·simp only [puts_]
    rfl
   refine pure_ (i := 32) (N := some 81) (v := undef) (a' := ?_) (bl 53 8589934591) rfl rfl (any_of HT_.out (by kernel_rfl)) (fun _ _ _ h => h) (Or.inr ⟨by rfl, rfl⟩) ?_ ?_
   rotate_left
   ·simp only [puts_]
    rfl
   refine pure_ (i := 33) (N := some 82) (v := undef) (a' := ?_) (bl 53 17179869183) rfl rfl (any_of HT_.out (by kernel_rfl)) (fun _ _ _ h => h) (Or.inr ⟨by rfl, rfl⟩) ?_ ?_
   rotate_left
   ·simp only [puts_]
    rfl
   refine pure_ (i := 34) (N := some 83) (v := undef) (a' := ?_) (bl 53 34359738367) rfl rfl (any_of HT_.out (by kernel_rfl)) (fun _ _ _ h => h) (Or.inr ⟨by rfl, rfl⟩) ?_ ?_
   rotate_left
   ·simp only [puts_]
    rfl
   refine pure_ (i := 35) (N := some 84) (v := ?_) (a' := ?_) (bl 53 68719476735) rfl rfl (any_of HT_.out (by kernel_rfl)) (fun _ _ _ h => h) (Or.inl ⟨by rfl, ?_⟩) ?_ ?_
   rotate_left
   ·intro w'
    go_simp
    with_reducible rfl
   rotate_left
   ·simp only [puts_]
    rfl
   refine pure_ (i := 36) (N := some 85) (v := ?_) (a' := ?_) (bl 53 137438953471) rfl rfl (any_of HT_.out (by kernel_rfl)) (fun _ _ _ h => h) (Or.inl ⟨by rfl, ?_⟩) ?_ ?_
   rotate_left
   ·intro w'
    go_simp
    with_reducible rfl
   rotate_left
   ·simp only [puts_]
    rfl
   refine pure_ (i := 37) (N := some 86) (v := undef) (a' := ?_) (bl 53 274877906943) rfl rfl (any_of HT_.out (by kernel_rfl)) (fun _ _ _ h => h) (Or.inr ⟨by rfl, rfl⟩) ?_ ?_
   rotate_left
   ·simp only [puts_]
    rfl
   refine pure_ (i := 38) (N := some 87) (v := undef) (a' := ?_) (bl 53 549755813887) rfl rfl (any_of HT_.out (by kernel_rfl)) (fun _ _ _ h => h) (Or.inr ⟨by rfl, rfl⟩) ?_ ?_
   rotate_left
   ·simp only [puts_]
    rfl
   refine pure_ (i := 39) (N := some 88) (v := undef) (a' := ?_) (bl 53 1099511627775) rfl rfl (any_of HT_.out (by kernel_rfl)) (fun _ _ _ h => h) (Or.inr ⟨by rfl, rfl⟩) ?_ ?_
   rotate_left
   ·simp only [puts_]
    rfl
   refine pure_ (i := 40) (N := some 89) (v := undef) (a' := ?_) (bl 53 2199023255551) rfl rfl (any_of HT_.out (by kernel_rfl)) (fun _ _ _ h => h) (Or.inr ⟨by rfl, rfl⟩) ?_ ?_
   rotate_left
   ·simp only [puts_]
    rfl
   refine pure_ (i := 41) (N := some 90) (v := undef) (a' := ?_) (bl 53 4398046511103) rfl rfl (any_of HT_.out (by kernel_rfl)) (fun _ _ _ h => h) (Or.inr ⟨by rfl, rfl⟩) ?_ ?_
   rotate_left
   ·simp only [puts_]
    rfl
   refine pure_ (i := 42) (N := some 91) (v := undef) (a' := ?_) (bl 53 8796093022207) rfl rfl (any_of HT_.out (by kernel_rfl)) (fun _ _ _ h => h) (Or.inr ⟨by rfl, rfl⟩) ?_ ?_
   rotate_left
   ·simp only [puts_]
    rfl
   refine pure_ (i := 43) (N := some 92) (v := undef) (a' := ?_) (bl 53 17592186044415) rfl rfl (any_of HT_.out (by kernel_rfl)) (fun _ _ _ h => h) (Or.inr ⟨by rfl, rfl⟩) ?_ ?_
   rotate_left
   ·simp only [puts_]
    rfl
   refine pure_ (i := 44) (N := some 93) (v := undef) (a' := ?_) (bl 53 35184372088831) rfl rfl (any_of HT_.out (by kernel_rfl)) (fun _ _ _ h => h) (Or.inr ⟨by rfl, rfl⟩) ?_ ?_
   rotate_left
   ·simp only [puts_]
    rfl
   refine pure_ (i := 45) (N := some 94) (v := undef) (a' := ?_) (bl 53 70368744177663) rfl rfl (any_of HT_.out (by kernel_rfl)) (fun _ _ _ h => h) (Or.inr ⟨by rfl, rfl⟩) ?_ ?_
   rotate_left
   ·simp only [puts_]
    rfl
   refine pure_ (i := 46) (N := some 95) (v := undef) (a' := ?_) (bl 53 140737488355327) rfl rfl (any_of HT_.out (by kernel_rfl)) (fun _ _ _ h => h) (Or.inr ⟨by rfl, rfl⟩) ?_ ?_
   rotate_left
   ·simp only [puts_]
    rfl
   refine pure_ (i := 47) (N := some 96) (v := undef) (a' := ?_) (bl 53 281474976710655) rfl rfl (any_of HT_.out (by kernel_rfl)) (fun _ _ _ h => h) (Or.inr ⟨by rfl, rfl⟩) ?_ ?_
   rotate_left
   ·simp only [puts_]
    rfl
   refine pure_ (i := 48) (N := some 97) (v := ?_) (a' := ?_) (bl 53 562949953421311) rfl rfl (any_of HT_.out (by kernel_rfl)) (fun _ _ _ h => h) (Or.inl ⟨by rfl, ?_⟩) ?_ ?_
   rotate_left
   ·intro w'
    go_simp
    with_reducible rfl
   rotate_left
   ·simp only [puts_]
    rfl
   refine pure_ (i := 49) (N := some 98) (v := ?_) (a' := ?_) (bl 53 1125899906842623) rfl rfl (any_of HT_.out (by kernel_rfl)) (fun _ _ _ h => h) (Or.inl ⟨by rfl, ?_⟩) ?_ ?_
   rotate_left
   ·intro w'
    go_simp
    with_reducible rfl
   rotate_left
   ·simp only [puts_]
    rfl
   refine pure_ (i := 50) (N := some 99) (v := undef) (a' := ?_) (bl 53 2251799813685247) rfl rfl (any_of HT_.out (by kernel_rfl)) (fun _ _ _ h => h) (Or.inr ⟨by rfl, rfl⟩) ?_ ?_
   rotate_left
   ·simp only [puts_]
    rfl
   refine pure_ (i := 51) (N := some 100) (v := ?_) (a' := ?_) (bl 53 4503599627370495) rfl rfl (any_of HT_.out (by kernel_rfl)) (fun _ _ _ h => h) (Or.inl ⟨by rfl, ?_⟩) ?_ ?_
   rotate_left
   ·intro w'
    go_simp
    with_reducible rfl
   rotate_left
   ·simp only [puts_]
    rfl
   refine pure_ (i := 52) (N := some 6) (v := ?_) (a' := ?_) (bl 53 9007199254740991) rfl rfl (any_of HT_.out (by kernel_rfl)) (fun _ _ _ h => h) (Or.inl ⟨by rfl, ?_⟩) ?_ ?_
   rotate_left
   ·intro w'
    go_simp
    with_reducible rfl
   rotate_left
   ·simp only [puts_]
    rfl
   refine done_ (done_of HT_.out (by kernel_rfl)) ?_
   try go_wp2
   go_ret
   exact ⟨by first | rfl | (simp [errW_none, errW_some] <;> rfl) | (simp only [← hji6, ← hji7, ← hji9, ← hji11]; first | rfl | (simp [errW_none, errW_some] <;> rfl)) | (simp [*, errW_none, errW_some] <;> rfl), by repeat (first | (with_reducible first | exact HB.out | apply below_alloc | apply pw_below_drewN | apply below_drew1 | refine below_set ?_ GE363.out) | exact HB.out)⟩
 ·replace c5 := Bool.eq_false_iff.mpr c5
  subst c5
  have H1 : ((alloc_Split.f k a0 (([(⟨a1_0, a1_1, a1_2⟩ : S31)] : List (S31)))).bind fun t389 => (if (t389.length : Int) = 0 then ((flywheellaw27_wakes.f k).bind fun t392 => (some t392)) else (some false))) = some r := by rw [if_neg (show ¬ (false = true) by decide)] at H; exact H
  clear H
  have H := H1
  clear H1
  obtain ⟨y386, hy386⟩ : ∃ y_ : List (S31), y_ = (([(⟨a1_0, a1_1, a1_2⟩ : S31)] : List (S31))) := ⟨_, rfl⟩
  replace H : ((alloc_Split.f k a0 y386).bind fun t389 => (if (t389.length : Int) = 0 then ((flywheellaw27_wakes.f k).bind fun t392 => (some t392)) else (some false))) = some r := by first | (rw [hy386]; with_reducible exact H) | (have H2_ := (Option.bind_some _ _).symm.trans H; rw [hy386]; with_reducible exact H2_) | (have H2_ := (Option.bind_some _ _).symm.trans H; with_reducible exact H2_) | with_reducible exact H | (rw [hy386]; exact H) | exact H
  have Ny386 := Aside0.mk hy386
  clear hy386
  replace H := Option.bind_eq_some_iff.mp H
  obtain ⟨t389, A1530, H⟩ := H
  replace H : (if (t389.length : Int) = 0 then ((flywheellaw27_wakes.f k).bind fun t392 => (some t392)) else (some false)) = some r := H
  have A153 := Aside0.mk A1530
  clear A1530
  by_cases c154 : (t389.length : Int) = 0
  ·rw [if_pos c154] at H
   have c154b0 : ((t389.length : Int) == 0) = true := beq_iff_eq.mpr c154
   have c154b1 : ((t389.length : Int) != 0) = false := bne_eq_false_iff_eq.mpr c154
   clear c154
   replace H := Option.bind_eq_some_iff.mp H
   obtain ⟨t392, A1550, H⟩ := H
   replace H : (some t392) = some r := H
   have A155 := Aside0.mk A1550
   clear A1550
   obtain rfl := Option.some.inj H
   go_enter Try.func12, Try.ntmps12
   go_wp2_with (first | ((with_reducible refine gate_dst (N := 4) rfl ?_); (try (refine gate_guard (by rfl) ?_; dsimp only)); refine box_event ?hg (N := 4) ?hd (cs := #[.int .i64 a1_0, .int .i64 a1_1, .int .i64 a1_2]) (t := 31) ?hr ?_; (case hd => rfl); (case hg => rfl); (case hr => first | (go_simp; done) | (go_simp; rfl)); intro gb363 hg w156 hbox hb; have n0_ := Aside0.mk (below_step (by repeat (first | (with_reducible first | exact HB.out | apply below_alloc | apply pw_below_drewN | apply below_drew1) | exact HB.out)) hb); have n1_ := Aside0.mk (hbox); have n2_ := Aside0.mk ((by rw [hg]; exact (below_size (by repeat (first | (with_reducible first | exact HB.out | apply below_alloc | apply pw_below_drewN | apply below_drew1) | exact HB.out))) : w.heap.size ≤ gb363)); have n3_ := Aside0.mk ((by rw [hg]; exact (below_size (by repeat (first | (with_reducible first | exact HB.out | apply below_alloc | apply pw_below_drewN | apply below_drew1) | exact HB.out))) : w.heap.size ≤ gb363)); clear HB; have HB := n0_; have BK363 := n1_; have GW363 := n2_; have GE363 := n3_; clear n0_ n1_ n2_ n3_; clear hb hbox hg; have hcz157_0 : w156.cell? ⟨gb363, 0, none⟩ = some (.int .i64 a1_0) := (blk_cell BK363.out 0).trans rfl; have hcz157_1 : w156.cell? ⟨gb363, 1, none⟩ = some (.int .i64 a1_1) := (blk_cell BK363.out 1).trans rfl; have hcz157_2 : w156.cell? ⟨gb363, 2, none⟩ = some (.int .i64 a1_2) := (blk_cell BK363.out 2).trans rfl; have hfz157_0 := blk_frozen BK363.out 0; have hfz157_1 := blk_frozen BK363.out 1; have hfz157_2 := blk_frozen BK363.out 2) | ((with_reducible refine gate_dst (N := 14) rfl ?_); (try (refine gate_guard (by rfl) ?_; dsimp only)); refine Kd.R_lit k31 _ 31 ?hg (N := 14) ?hd (xs := ([(⟨a1_0, a1_1, a1_2⟩ : S31)] : List (S31))) (inner := [.int .i64 a1_0, .int .i64 a1_1, .int .i64 a1_2]) (ok := fun _ => True) (okp := fun _ => True) ?hr ?hp (fun _ hk => hk) trivial (Below.refl _ _) (Nat.le_refl _) (by simp) ?_; (case hd => rfl); (case hg => rfl); (case hr => first | (go_simp; done) | (go_simp; rfl)); (case hp => exact (Reps.c3 (show Kd.M k31 _ _ _ (⟨a1_0, a1_1, a1_2⟩ : S31) [.int .i64 a1_0, .int .i64 a1_1, .int .i64 a1_2] from (k31_mkM _ _ _ (⟨a1_0, a1_1, a1_2⟩ : S31) )) (Reps.none _ _))); intro v365 w158 ho159 hb hg_ hnew_; clear hg_ hnew_; (first | rw [← Ny364.out] at ho159 | (simp only [Int.reduceToNat] at ho159; rw [← Ny364.out] at ho159)); have n0_ := Aside0.mk (Kd.R_lower (Kd.R_newB ho159 (g := gb363) (o := .cells #[.int .i64 a1_0, .int .i64 a1_1, .int .i64 a1_2] 31 (0, 0)) (by (with_reducible repeat (first | refine blk_drewN ?_ _ | refine blk_drew ?_ | refine blk_alloc ?_ _)); exact BK363.out)) (below_size (by repeat (first | (with_reducible first | exact HB.out | apply below_alloc | apply pw_below_drewN | apply below_drew1 | refine below_set ?_ GE363.out) | exact HB.out)))); have n1_ := Aside0.mk (blk_below (g := gb363) (o := .cells #[.int .i64 a1_0, .int .i64 a1_1, .int .i64 a1_2] 31 (0, 0)) (by (with_reducible repeat (first | refine blk_drewN ?_ _ | refine blk_drew ?_ | refine blk_alloc ?_ _)); exact BK363.out) hb); have n2_ := Aside0.mk (below_step (by repeat (first | (with_reducible first | exact HB.out | apply below_alloc | apply pw_below_drewN | apply below_drew1 | refine below_set ?_ GE363.out) | exact HB.out)) hb); clear BK363; clear HB; have HO366 := n0_; have BK363 := n1_; have HB := n2_; clear n0_ n1_ n2_; clear hb ho159; obtain ⟨Ao160, co160, eo160⟩ := Kd.R_slice HO366.out; subst eo160) | ((with_reducible refine gate_callee (f := 16) rfl ?_); refine goesL_ (some 15) rfl rfl Try.func16 (by kernel_rfl) rfl #[.slice Ao160 y364.length co160] rfl (by (try simp only [List.map_toArray, List.map_cons, List.map_nil]); first | done | rfl | (simp only [List.length_drop, List.length_take]; rfl)) ?_; (with_reducible refine (flywheelref27_Good.calls k _ _ y364 false _ ?side1 ?side2 A4.out).mono ?_); (case side1 => repeat (first | exact (Kd.R_reads' HO366.out).2.2 | (with_reducible refine Kd.C_alloc ?_ _) | (with_reducible refine Kd.C_drewN ?_ _) | (with_reducible refine Kd.C_drew ?_))); (case side2 => exact (Kd.R_reads' HO366.out).2.1); rintro e w' ⟨rfl, ⟨nd, rfl⟩⟩; refine ⟨_, rfl, ?_⟩; have hcz161_0 : w158.cell? ⟨gb363, 0, none⟩ = some (.int .i64 a1_0) := (blk_cell BK363.out 0).trans rfl; have hcz161_1 : w158.cell? ⟨gb363, 1, none⟩ = some (.int .i64 a1_1) := (blk_cell BK363.out 1).trans rfl; have hcz161_2 : w158.cell? ⟨gb363, 2, none⟩ = some (.int .i64 a1_2) := (blk_cell BK363.out 2).trans rfl; have hfz161_0 := blk_frozen BK363.out 0; have hfz161_1 := blk_frozen BK363.out 1; have hfz161_2 := blk_frozen BK363.out 2) | ((with_reducible refine gate_dst (N := 19) rfl ?_); (try (refine gate_guard (by rfl) ?_; dsimp only)); refine Kd.R_lit k31 _ 31 ?hg (N := 19) ?hd (xs := ([(⟨a1_0, a1_1, a1_2⟩ : S31)] : List (S31))) (inner := [.int .i64 a1_0, .int .i64 a1_1, .int .i64 a1_2]) (ok := fun _ => True) (okp := fun _ => True) ?hr ?hp (fun _ hk => hk) trivial (Below.refl _ _) (Nat.le_refl _) (by simp) ?_; (case hd => rfl); (case hg => rfl); (case hr => first | (go_simp; done) | (go_simp; rfl)); (case hp => exact (Reps.c3 (show Kd.M k31 _ _ _ (⟨a1_0, a1_1, a1_2⟩ : S31) [.int .i64 a1_0, .int .i64 a1_1, .int .i64 a1_2] from (k31_mkM _ _ _ (⟨a1_0, a1_1, a1_2⟩ : S31) )) (Reps.none _ _))); intro v387 w162 ho163 hb hg_ hnew_; clear hg_ hnew_; (first | rw [← Ny386.out] at ho163 | (simp only [Int.reduceToNat] at ho163; rw [← Ny386.out] at ho163)); have n0_ := Aside0.mk (Kd.R_elder' (by (with_reducible repeat (first | apply Kd.R_alloc | apply Kd.R_drewN | apply Kd.R_drew)); exact HO366.out) (Kd.R_base ho163) hb); have n1_ := Aside0.mk (Kd.R_lower (Kd.R_newB (Kd.R_new' ho163 (Kd.R_lt (by (with_reducible repeat (first | apply Kd.R_alloc | apply Kd.R_drewN | apply Kd.R_drew)); exact HO366.out))) (g := gb363) (o := .cells #[.int .i64 a1_0, .int .i64 a1_1, .int .i64 a1_2] 31 (0, 0)) (by (with_reducible repeat (first | refine blk_drewN ?_ _ | refine blk_drew ?_ | refine blk_alloc ?_ _)); exact BK363.out)) (below_size (by repeat (first | (with_reducible first | exact HB.out | apply below_alloc | apply pw_below_drewN | apply below_drew1 | refine below_set ?_ GE363.out) | exact HB.out)))); have n2_ := Aside0.mk (blk_below (g := gb363) (o := .cells #[.int .i64 a1_0, .int .i64 a1_1, .int .i64 a1_2] 31 (0, 0)) (by (with_reducible repeat (first | refine blk_drewN ?_ _ | refine blk_drew ?_ | refine blk_alloc ?_ _)); exact BK363.out) hb); have n3_ := Aside0.mk (below_step (by repeat (first | (with_reducible first | exact HB.out | apply below_alloc | apply pw_below_drewN | apply below_drew1 | refine below_set ?_ GE363.out) | exact HB.out)) hb); clear HO366; clear BK363; clear HB; have HO366 := n0_; have HO388 := n1_; have BK363 := n2_; have HB := n3_; clear n0_ n1_ n2_ n3_; clear hb ho163; obtain ⟨Ao164, co164, eo164⟩ := Kd.R_slice HO388.out; subst eo164) | ((with_reducible refine gate_callee (f := 18) rfl ?_); refine goesL_ (some 20) rfl rfl Try.func18 (by kernel_rfl) rfl #[.int .i64 a0, .slice Ao164 y386.length co164] rfl (by (try simp only [List.map_toArray, List.map_cons, List.map_nil]); first | done | rfl | (simp only [List.length_drop, List.length_take]; rfl)) ?_; (with_reducible refine (alloc_Split.calls k a0 _ _ y386 t389 _ ?side1 ?side2 A153.out).mono ?_); (case side1 => repeat (first | exact (Kd.R_reads' HO388.out).2.2 | (with_reducible refine Kd.C_alloc ?_ _) | (with_reducible refine Kd.C_drewN ?_ _) | (with_reducible refine Kd.C_drew ?_))); (case side2 => exact (Kd.R_reads' HO388.out).2.1); rintro e w165 ⟨v390, rfl, ho0, hb⟩; refine ⟨_, rfl, ?_⟩; have n0_ := Aside0.mk (Kd.R_below (by (with_reducible repeat (first | apply Kd.R_alloc | apply Kd.R_drewN | apply Kd.R_drew)); exact HO366.out) hb); have n1_ := Aside0.mk (Kd.R_below (by (with_reducible repeat (first | apply Kd.R_alloc | apply Kd.R_drewN | apply Kd.R_drew)); exact HO388.out) hb); have n2_ := Aside0.mk (Kd.R_lower ho0 (below_size (by repeat (first | (with_reducible first | exact HB.out | apply below_alloc | apply pw_below_drewN | apply below_drew1 | refine below_set ?_ GE363.out) | exact HB.out)))); have n3_ := Aside0.mk (blk_below (g := gb363) (o := .cells #[.int .i64 a1_0, .int .i64 a1_1, .int .i64 a1_2] 31 (0, 0)) (by (with_reducible repeat (first | refine blk_drewN ?_ _ | refine blk_drew ?_ | refine blk_alloc ?_ _)); exact BK363.out) hb); have n4_ := Aside0.mk (below_step (by repeat (first | (with_reducible first | exact HB.out | apply below_alloc | apply pw_below_drewN | apply below_drew1 | refine below_set ?_ GE363.out) | exact HB.out)) hb); clear HO366; clear HO388; clear BK363; clear HB; have HO366 := n0_; have HO388 := n1_; have HO391 := n2_; have BK363 := n3_; have HB := n4_; clear n0_ n1_ n2_ n3_ n4_; (try clear hb); (try clear hb2); (try clear hk); (try clear hi); (try clear ho0); obtain ⟨Ao166, co166, eo166⟩ := Kd.R_slice HO391.out; subst eo166) | (go_at_call 13; (with_reducible refine (flywheellaw27_wakes.calls k  t392 _ A155.out).mono ?_); rintro e w167 ⟨rfl, hb⟩; have n0_ := Aside0.mk (Kd.R_below (by (with_reducible repeat (first | apply Kd.R_alloc | apply Kd.R_drewN | apply Kd.R_drew)); exact HO366.out) hb); have n1_ := Aside0.mk (Kd.R_below (by (with_reducible repeat (first | apply Kd.R_alloc | apply Kd.R_drewN | apply Kd.R_drew)); exact HO388.out) hb); have n2_ := Aside0.mk (Kd.R_below (by (with_reducible repeat (first | apply Kd.R_alloc | apply Kd.R_drewN | apply Kd.R_drew)); exact HO391.out) hb); have n3_ := Aside0.mk (blk_below (g := gb363) (o := .cells #[.int .i64 a1_0, .int .i64 a1_1, .int .i64 a1_2] 31 (0, 0)) (by (with_reducible repeat (first | refine blk_drewN ?_ _ | refine blk_drew ?_ | refine blk_alloc ?_ _)); exact BK363.out) hb); have n4_ := Aside0.mk (below_step (by repeat (first | (with_reducible first | exact HB.out | apply below_alloc | apply pw_below_drewN | apply below_drew1 | refine below_set ?_ GE363.out) | exact HB.out)) hb); clear HO366; clear HO388; clear HO391; clear BK363; clear HB; have HO366 := n0_; have HO388 := n1_; have HO391 := n2_; have BK363 := n3_; have HB := n4_; clear n0_ n1_ n2_ n3_ n4_; (try clear hb); (try clear hb2); (try clear hk); (try clear hi)))
   go_ret
   exact ⟨by first | rfl | (simp [errW_none, errW_some] <;> rfl) | (simp [*, errW_none, errW_some] <;> rfl), by repeat (first | (with_reducible first | exact HB.out | apply below_alloc | apply pw_below_drewN | apply below_drew1 | refine below_set ?_ GE363.out) | exact HB.out)⟩
  ·rw [if_neg c154] at H
   have c154b0 : ((t389.length : Int) == 0) = false := beq_eq_false_iff_ne.mpr c154
   have c154b1 : ((t389.length : Int) != 0) = true := bne_iff_ne.mpr c154
   have c154b2 : ¬ (t389 = []) := fun h_ => c154 (by rw [h_]; rfl)
   obtain rfl := Option.some.inj H
   go_enter Try.func12, Try.ntmps12
   go_wp2_with (first | ((with_reducible refine gate_dst (N := 4) rfl ?_); (try (refine gate_guard (by rfl) ?_; dsimp only)); refine box_event ?hg (N := 4) ?hd (cs := #[.int .i64 a1_0, .int .i64 a1_1, .int .i64 a1_2]) (t := 31) ?hr ?_; (case hd => rfl); (case hg => rfl); (case hr => first | (go_simp; done) | (go_simp; rfl)); intro gb363 hg w168 hbox hb; have n0_ := Aside0.mk (below_step (by repeat (first | (with_reducible first | exact HB.out | apply below_alloc | apply pw_below_drewN | apply below_drew1) | exact HB.out)) hb); have n1_ := Aside0.mk (hbox); have n2_ := Aside0.mk ((by rw [hg]; exact (below_size (by repeat (first | (with_reducible first | exact HB.out | apply below_alloc | apply pw_below_drewN | apply below_drew1) | exact HB.out))) : w.heap.size ≤ gb363)); have n3_ := Aside0.mk ((by rw [hg]; exact (below_size (by repeat (first | (with_reducible first | exact HB.out | apply below_alloc | apply pw_below_drewN | apply below_drew1) | exact HB.out))) : w.heap.size ≤ gb363)); clear HB; have HB := n0_; have BK363 := n1_; have GW363 := n2_; have GE363 := n3_; clear n0_ n1_ n2_ n3_; clear hb hbox hg; have hcz169_0 : w168.cell? ⟨gb363, 0, none⟩ = some (.int .i64 a1_0) := (blk_cell BK363.out 0).trans rfl; have hcz169_1 : w168.cell? ⟨gb363, 1, none⟩ = some (.int .i64 a1_1) := (blk_cell BK363.out 1).trans rfl; have hcz169_2 : w168.cell? ⟨gb363, 2, none⟩ = some (.int .i64 a1_2) := (blk_cell BK363.out 2).trans rfl; have hfz169_0 := blk_frozen BK363.out 0; have hfz169_1 := blk_frozen BK363.out 1; have hfz169_2 := blk_frozen BK363.out 2) | ((with_reducible refine gate_dst (N := 14) rfl ?_); (try (refine gate_guard (by rfl) ?_; dsimp only)); refine Kd.R_lit k31 _ 31 ?hg (N := 14) ?hd (xs := ([(⟨a1_0, a1_1, a1_2⟩ : S31)] : List (S31))) (inner := [.int .i64 a1_0, .int .i64 a1_1, .int .i64 a1_2]) (ok := fun _ => True) (okp := fun _ => True) ?hr ?hp (fun _ hk => hk) trivial (Below.refl _ _) (Nat.le_refl _) (by simp) ?_; (case hd => rfl); (case hg => rfl); (case hr => first | (go_simp; done) | (go_simp; rfl)); (case hp => exact (Reps.c3 (show Kd.M k31 _ _ _ (⟨a1_0, a1_1, a1_2⟩ : S31) [.int .i64 a1_0, .int .i64 a1_1, .int .i64 a1_2] from (k31_mkM _ _ _ (⟨a1_0, a1_1, a1_2⟩ : S31) )) (Reps.none _ _))); intro v365 w170 ho171 hb hg_ hnew_; clear hg_ hnew_; (first | rw [← Ny364.out] at ho171 | (simp only [Int.reduceToNat] at ho171; rw [← Ny364.out] at ho171)); have n0_ := Aside0.mk (Kd.R_lower (Kd.R_newB ho171 (g := gb363) (o := .cells #[.int .i64 a1_0, .int .i64 a1_1, .int .i64 a1_2] 31 (0, 0)) (by (with_reducible repeat (first | refine blk_drewN ?_ _ | refine blk_drew ?_ | refine blk_alloc ?_ _)); exact BK363.out)) (below_size (by repeat (first | (with_reducible first | exact HB.out | apply below_alloc | apply pw_below_drewN | apply below_drew1 | refine below_set ?_ GE363.out) | exact HB.out)))); have n1_ := Aside0.mk (blk_below (g := gb363) (o := .cells #[.int .i64 a1_0, .int .i64 a1_1, .int .i64 a1_2] 31 (0, 0)) (by (with_reducible repeat (first | refine blk_drewN ?_ _ | refine blk_drew ?_ | refine blk_alloc ?_ _)); exact BK363.out) hb); have n2_ := Aside0.mk (below_step (by repeat (first | (with_reducible first | exact HB.out | apply below_alloc | apply pw_below_drewN | apply below_drew1 | refine below_set ?_ GE363.out) | exact HB.out)) hb); clear BK363; clear HB; have HO366 := n0_; have BK363 := n1_; have HB := n2_; clear n0_ n1_ n2_; clear hb ho171; obtain ⟨Ao172, co172, eo172⟩ := Kd.R_slice HO366.out; subst eo172) | ((with_reducible refine gate_callee (f := 16) rfl ?_); refine goesL_ (some 15) rfl rfl Try.func16 (by kernel_rfl) rfl #[.slice Ao172 y364.length co172] rfl (by (try simp only [List.map_toArray, List.map_cons, List.map_nil]); first | done | rfl | (simp only [List.length_drop, List.length_take]; rfl)) ?_; (with_reducible refine (flywheelref27_Good.calls k _ _ y364 false _ ?side1 ?side2 A4.out).mono ?_); (case side1 => repeat (first | exact (Kd.R_reads' HO366.out).2.2 | (with_reducible refine Kd.C_alloc ?_ _) | (with_reducible refine Kd.C_drewN ?_ _) | (with_reducible refine Kd.C_drew ?_))); (case side2 => exact (Kd.R_reads' HO366.out).2.1); rintro e w' ⟨rfl, ⟨nd, rfl⟩⟩; refine ⟨_, rfl, ?_⟩; have hcz173_0 : w170.cell? ⟨gb363, 0, none⟩ = some (.int .i64 a1_0) := (blk_cell BK363.out 0).trans rfl; have hcz173_1 : w170.cell? ⟨gb363, 1, none⟩ = some (.int .i64 a1_1) := (blk_cell BK363.out 1).trans rfl; have hcz173_2 : w170.cell? ⟨gb363, 2, none⟩ = some (.int .i64 a1_2) := (blk_cell BK363.out 2).trans rfl; have hfz173_0 := blk_frozen BK363.out 0; have hfz173_1 := blk_frozen BK363.out 1; have hfz173_2 := blk_frozen BK363.out 2) | ((with_reducible refine gate_dst (N := 19) rfl ?_); (try (refine gate_guard (by rfl) ?_; dsimp only)); refine Kd.R_lit k31 _ 31 ?hg (N := 19) ?hd (xs := ([(⟨a1_0, a1_1, a1_2⟩ : S31)] : List (S31))) (inner := [.int .i64 a1_0, .int .i64 a1_1, .int .i64 a1_2]) (ok := fun _ => True) (okp := fun _ => True) ?hr ?hp (fun _ hk => hk) trivial (Below.refl _ _) (Nat.le_refl _) (by simp) ?_; (case hd => rfl); (case hg => rfl); (case hr => first | (go_simp; done) | (go_simp; rfl)); (case hp => exact (Reps.c3 (show Kd.M k31 _ _ _ (⟨a1_0, a1_1, a1_2⟩ : S31) [.int .i64 a1_0, .int .i64 a1_1, .int .i64 a1_2] from (k31_mkM _ _ _ (⟨a1_0, a1_1, a1_2⟩ : S31) )) (Reps.none _ _))); intro v387 w174 ho175 hb hg_ hnew_; clear hg_ hnew_; (first | rw [← Ny386.out] at ho175 | (simp only [Int.reduceToNat] at ho175; rw [← Ny386.out] at ho175)); have n0_ := Aside0.mk (Kd.R_elder' (by (with_reducible repeat (first | apply Kd.R_alloc | apply Kd.R_drewN | apply Kd.R_drew)); exact HO366.out) (Kd.R_base ho175) hb); have n1_ := Aside0.mk (Kd.R_lower (Kd.R_newB (Kd.R_new' ho175 (Kd.R_lt (by (with_reducible repeat (first | apply Kd.R_alloc | apply Kd.R_drewN | apply Kd.R_drew)); exact HO366.out))) (g := gb363) (o := .cells #[.int .i64 a1_0, .int .i64 a1_1, .int .i64 a1_2] 31 (0, 0)) (by (with_reducible repeat (first | refine blk_drewN ?_ _ | refine blk_drew ?_ | refine blk_alloc ?_ _)); exact BK363.out)) (below_size (by repeat (first | (with_reducible first | exact HB.out | apply below_alloc | apply pw_below_drewN | apply below_drew1 | refine below_set ?_ GE363.out) | exact HB.out)))); have n2_ := Aside0.mk (blk_below (g := gb363) (o := .cells #[.int .i64 a1_0, .int .i64 a1_1, .int .i64 a1_2] 31 (0, 0)) (by (with_reducible repeat (first | refine blk_drewN ?_ _ | refine blk_drew ?_ | refine blk_alloc ?_ _)); exact BK363.out) hb); have n3_ := Aside0.mk (below_step (by repeat (first | (with_reducible first | exact HB.out | apply below_alloc | apply pw_below_drewN | apply below_drew1 | refine below_set ?_ GE363.out) | exact HB.out)) hb); clear HO366; clear BK363; clear HB; have HO366 := n0_; have HO388 := n1_; have BK363 := n2_; have HB := n3_; clear n0_ n1_ n2_ n3_; clear hb ho175; obtain ⟨Ao176, co176, eo176⟩ := Kd.R_slice HO388.out; subst eo176) | ((with_reducible refine gate_callee (f := 18) rfl ?_); refine goesL_ (some 20) rfl rfl Try.func18 (by kernel_rfl) rfl #[.int .i64 a0, .slice Ao176 y386.length co176] rfl (by (try simp only [List.map_toArray, List.map_cons, List.map_nil]); first | done | rfl | (simp only [List.length_drop, List.length_take]; rfl)) ?_; (with_reducible refine (alloc_Split.calls k a0 _ _ y386 t389 _ ?side1 ?side2 A153.out).mono ?_); (case side1 => repeat (first | exact (Kd.R_reads' HO388.out).2.2 | (with_reducible refine Kd.C_alloc ?_ _) | (with_reducible refine Kd.C_drewN ?_ _) | (with_reducible refine Kd.C_drew ?_))); (case side2 => exact (Kd.R_reads' HO388.out).2.1); rintro e w177 ⟨v390, rfl, ho0, hb⟩; refine ⟨_, rfl, ?_⟩; have n0_ := Aside0.mk (Kd.R_below (by (with_reducible repeat (first | apply Kd.R_alloc | apply Kd.R_drewN | apply Kd.R_drew)); exact HO366.out) hb); have n1_ := Aside0.mk (Kd.R_below (by (with_reducible repeat (first | apply Kd.R_alloc | apply Kd.R_drewN | apply Kd.R_drew)); exact HO388.out) hb); have n2_ := Aside0.mk (Kd.R_lower ho0 (below_size (by repeat (first | (with_reducible first | exact HB.out | apply below_alloc | apply pw_below_drewN | apply below_drew1 | refine below_set ?_ GE363.out) | exact HB.out)))); have n3_ := Aside0.mk (blk_below (g := gb363) (o := .cells #[.int .i64 a1_0, .int .i64 a1_1, .int .i64 a1_2] 31 (0, 0)) (by (with_reducible repeat (first | refine blk_drewN ?_ _ | refine blk_drew ?_ | refine blk_alloc ?_ _)); exact BK363.out) hb); have n4_ := Aside0.mk (below_step (by repeat (first | (with_reducible first | exact HB.out | apply below_alloc | apply pw_below_drewN | apply below_drew1 | refine below_set ?_ GE363.out) | exact HB.out)) hb); clear HO366; clear HO388; clear BK363; clear HB; have HO366 := n0_; have HO388 := n1_; have HO391 := n2_; have BK363 := n3_; have HB := n4_; clear n0_ n1_ n2_ n3_ n4_; (try clear hb); (try clear hb2); (try clear hk); (try clear hi); (try clear ho0); obtain ⟨Ao178, co178, eo178⟩ := Kd.R_slice HO391.out; subst eo178))
   go_ret
   exact ⟨by first | rfl | (simp [errW_none, errW_some] <;> rfl) | (simp [*, errW_none, errW_some] <;> rfl), by repeat (first | (with_reducible first | exact HB.out | apply below_alloc | apply pw_below_drewN | apply below_drew1 | refine below_set ?_ GE363.out) | exact HB.out)⟩
def flywheellaw27_AllocOne.Pure : Prop := ∀ (a0 : Int) (a1_0 : Int) (a1_1 : Int) (a1_2 : Int) (a2 : Int), (Lit.int .i64 a0).wf = true → (Lit.int .i64 a1_0).wf = true → (Lit.int .i64 a1_1).wf = true → (Lit.int .i64 a1_2).wf = true → (Lit.int .u8 a2).wf = true → ∃ k, flywheellaw27_AllocOne.f k a0 a1_0 a1_1 a1_2 a2 = some true
theorem flywheellaw27_AllocOne.walk (P : flywheellaw27_AllocOne.Pure) (a0 : Int) (a1_0 : Int) (a1_1 : Int) (a1_2 : Int) (a2 : Int) (w : World) (w0 : (Lit.int .i64 a0).wf = true) (w1_0 : (Lit.int .i64 a1_0).wf = true) (w1_1 : (Lit.int .i64 a1_1).wf = true) (w1_2 : (Lit.int .i64 a1_2).wf = true) (w2 : (Lit.int .u8 a2).wf = true) :
  Calls Try.prog 12 #[.int .i64 a0, .agg #[.int .i64 a1_0, .int .i64 a1_1, .int .i64 a1_2], .int .u8 a2] w fun e w' => e = .returned (.bool true) ∧ Below w.heap.size w w' := by
 obtain ⟨k, h⟩ := P a0 a1_0 a1_1 a1_2 a2 w0 w1_0 w1_1 w1_2 w2
 refine (flywheellaw27_AllocOne.calls k a0 a1_0 a1_1 a1_2 a2 true w h).mono ?_
 rintro e w' ⟨rfl, hd⟩
 exact ⟨rfl, hd⟩
end Go.Proofs.Ytlgfnclgkhfhpaa.P
end

section
namespace Go.Proofs.Ytlgfnclgkhfhpaa.P
open Go.RowKit Go.Proofs.YtlgfnclgkhfhpaaW.PrintWords Go.Proofs.YtlgfnclgkhfhpaaW.PrintLast Go.Proofs.YtlgfnclgkhfhpaaW.PrintMore
attribute [local go_sem] max2_int min2_int max_two min_two max_three min_three max_four min_four   -- for this text's walks alone
set_option linter.unusedVariables false
set_option linter.unusedSimpArgs false
end Go.Proofs.Ytlgfnclgkhfhpaa.P
end

section
namespace Go.Proofs.Ytlgfnclgkhfhpaa.P
open Go.RowKit Go.Proofs.YtlgfnclgkhfhpaaW.PrintWords Go.Proofs.YtlgfnclgkhfhpaaW.PrintLast Go.Proofs.YtlgfnclgkhfhpaaW.PrintMore
attribute [local go_sem] max2_int min2_int max_two min_two max_three min_three max_four min_four   -- for this text's walks alone
set_option linter.unusedVariables false
set_option linter.unusedSimpArgs false
end Go.Proofs.Ytlgfnclgkhfhpaa.P
end

section
namespace Go.Proofs.Ytlgfnclgkhfhpaa.P
open Go.RowKit
set_option linter.unusedVariables false
set_option linter.unusedSimpArgs false
theorem rclamp_eq (a lo hi : Int) : flywheelref01_Clamp.f a lo hi = some (if a < lo then lo else if a > hi then hi else a) := by
  unfold flywheelref01_Clamp.f
  split
  · rfl
  · split <;> rfl
end Go.Proofs.Ytlgfnclgkhfhpaa.P
end

section
namespace Go.Proofs.Ytlgfnclgkhfhpaa.P
open Go.RowKit
set_option linter.unusedVariables false
set_option linter.unusedSimpArgs false
theorem clamp_eq (a lo hi : Int) : sat_Clamp.f a lo hi = some (if a < lo then lo else if a > hi then hi else a) := by
  unfold sat_Clamp.f
  split
  · rfl
  · split <;> rfl
end Go.Proofs.Ytlgfnclgkhfhpaa.P
end

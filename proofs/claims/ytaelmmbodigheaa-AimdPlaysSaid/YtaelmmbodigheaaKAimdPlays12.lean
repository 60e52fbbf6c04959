-- PUT TOGETHER by a program of this session: of the claim's texts, what is used
import Derived.Test.YtaelmmbodigheaaKAimdPlays2
import Derived.Test.YtaelmmbodigheaaKAimdPlays8
import Derived.Test.YtaelmmbodigheaaKAimdPlays10
import Derived.Test.YtaelmmbodigheaaKAimdPlays11
section
namespace Go.Proofs.Ytaelmmbodigheaa.P
open Go.RowKit Go.Proofs.YtaelmmbodigheaaW.PrintWords Go.Proofs.YtaelmmbodigheaaW.PrintLast Go.Proofs.YtaelmmbodigheaaW.PrintMore
attribute [local go_sem] max2_int min2_int max_two min_two max_three min_three max_four min_four   -- for this text's walks alone
set_option linter.unusedVariables false
set_option linter.unusedSimpArgs false
mutual
def flywheelref19_Aimd_Update.j0 : Nat → Int → Int → Int → Int → Int → Int → Int → Int → Int → Bool → Int → Int → Bool → Int → Option (Int × Int × Int × Int × Int × Bool × Int × Int × Bool × Int)
 | 0, _, _, _, _, _, _, _, _, _, _, _, _, _, _ => none
 | k + 1, x1, x2, x3, x4, x11, x1000, x1001, x1002, x1003, x1004, x1005, x1006, x1007, x1008 => if x1 = 1 then (flywheelref19_Aimd_Update.j2 k x2 x3 x11 x1000 x1001 x1002 2 x1004 x1005 x1006 true x4) else (if x1 = 2 then (flywheelref19_Aimd_Update.j1 k x2 x3 x11 true x1000 x1001 x1002 x1003 x1004 x1005 x1006 true x4) else (flywheelref19_Aimd_Update.j1 k x2 x3 x11 (x1003 == 2) x1000 x1001 x1002 x1003 x1004 x1005 x1006 true x4))
def flywheelref19_Aimd_Update.j2 : Nat → Int → Int → Int → Int → Int → Int → Int → Bool → Int → Int → Bool → Int → Option (Int × Int × Int × Int × Int × Bool × Int × Int × Bool × Int)
 | 0, _, _, _, _, _, _, _, _, _, _, _, _ => none
 | k + 1, x2, x3, x11, x1000, x1001, x1002, x1003, x1004, x1005, x1006, x1007, x1008 => if x1003 = 1 then ((flywheelref19_Aimd_lift.f k x1000 x1001 x1002 x1003 x1004 x1005 x1006 x1007 x1008 x2 x3 x11).bind fun bt354 => ((flywheelref01_Clamp.f bt354.1 bt354.2.1 bt354.2.2.1).bind fun t363 => (some (t363, t363, bt354.2.1, bt354.2.2.1, bt354.2.2.2.1, bt354.2.2.2.2.1, bt354.2.2.2.2.2.1, bt354.2.2.2.2.2.2.1, bt354.2.2.2.2.2.2.2.1, bt354.2.2.2.2.2.2.2.2)))) else (if x1003 = 2 then ((flywheelref19_Aimd_cut.f k x1000 x1001 x1002 x1003 x1004 x1005 x1006 x1007 x1008 x2).bind fun bt364 => ((flywheelref01_Clamp.f bt364.1 bt364.2.1 bt364.2.2.1).bind fun t373 => (some (t373, t373, bt364.2.1, bt364.2.2.1, 0, bt364.2.2.2.2.1, bt364.2.2.2.2.2.1, bt364.2.2.2.2.2.2.1, bt364.2.2.2.2.2.2.2.1, bt364.2.2.2.2.2.2.2.2)))) else ((flywheelref01_Clamp.f x1000 x1001 x1002).bind fun t374 => (some (t374, t374, x1001, x1002, x1003, x1004, x1005, x1006, x1007, x1008))))
def flywheelref19_Aimd_Update.j1 : Nat → Int → Int → Int → Bool → Int → Int → Int → Int → Bool → Int → Int → Bool → Int → Option (Int × Int × Int × Int × Int × Bool × Int × Int × Bool × Int)
 | 0, _, _, _, _, _, _, _, _, _, _, _, _, _ => none
 | k + 1, x2, x3, x11, x42, x1000, x1001, x1002, x1003, x1004, x1005, x1006, x1007, x1008 => if x42 = true then (flywheelref19_Aimd_Update.j2 k x2 x3 x11 x1000 x1001 x1002 0 x1004 x1005 x1006 x1007 x1008) else (if x1003 = 0 then (flywheelref19_Aimd_Update.j2 k x2 x3 x11 x1000 x1001 x1002 1 x1004 x1005 x1006 x1007 x1008) else (flywheelref19_Aimd_Update.j2 k x2 x3 x11 x1000 x1001 x1002 x1003 x1004 x1005 x1006 x1007 x1008))
end
def flywheelref19_Aimd_Update.f (k : Nat) (s0_0 : Int) (s0_1 : Int) (s0_2 : Int) (s0_3 : Int) (s0_4 : Bool) (s0_5 : Int) (s0_6 : Int) (s0_7 : Bool) (s0_8 : Int) (a1 : Int) (a2 : Int) (a3 : Int) (a4 : Int) : Option (Int × Int × Int × Int × Int × Bool × Int × Int × Bool × Int) := (flywheelref01_Clamp.f a2 0 17179869184).bind fun t350 => ((flywheelref01_Clamp.f a3 1000 1000000).bind fun t351 => ((flywheelref01_Clamp.f a4 0 1125899906842624).bind fun t352 => (if s0_7 = true then ((flywheelref01_Clamp.f (wrap64 (t352 - s0_8)) 0 1000000).bind fun t353 => (flywheelref19_Aimd_Update.j0 k a1 t350 t351 t352 t353 s0_0 s0_1 s0_2 s0_3 s0_4 s0_5 s0_6 s0_7 s0_8)) else (flywheelref19_Aimd_Update.j0 k a1 t350 t351 t352 0 s0_0 s0_1 s0_2 s0_3 s0_4 s0_5 s0_6 s0_7 s0_8))))
def flywheelref19_Aimd_Update.T20 : Bool × List (List Nat × List Nat) := (true, [([], []), ([], []), ([1], [1]), ([2], [2]), ([3], [3]), ([], []), ([5], [5]), ([6], [6]), ([7], [7]), ([], []), ([9], [9]), ([10], [10]), ([11], [11]), ([4, 8, 12], [4, 8, 12]), ([0, 0, 1, 2, 3, 4, 5, 6, 7, 8, 9, 10, 11, 12, 13], [0]), ([14, 0, 1, 2, 3, 4, 5, 6, 7, 8, 9, 10, 11, 12, 13], [14]), ([15, 13, 13, 0, 1, 2, 3, 4, 5, 6, 7, 8, 9, 10, 11, 12, 13], [13, 15])])
def flywheelref19_Aimd_Update.B20 : List Nat := [0, 0, 2, 6, 14, 0, 32, 96, 224, 0, 512, 1536, 3584, 8190, 16383, 32767, 65535]
theorem flywheelref19_Aimd_Update.tab20 : rtab .any (opsOf Try.f21 20) = flywheelref19_Aimd_Update.T20 := by kernel_rfl
theorem flywheelref19_Aimd_Update.bits20 : waitsOk flywheelref19_Aimd_Update.T20.2 flywheelref19_Aimd_Update.B20 = true := by kernel_rfl
set_option maxHeartbeats 8000000 in
set_option maxRecDepth 100000 in
theorem flywheelref19_Aimd_Update.calls (k : Nat) (g : Nat) (s0_0 : Int) (s0_1 : Int) (s0_2 : Int) (s0_3 : Int) (s0_4 : Bool) (s0_5 : Int) (s0_6 : Int) (s0_7 : Bool) (s0_8 : Int) (a1 : Int) (a2 : Int) (a3 : Int) (a4 : Int) (r1 : Int) (r2 : Int) (r3 : Int) (r4 : Int) (r5 : Int) (r6 : Bool) (r7 : Int) (r8 : Int) (r9 : Bool) (r10 : Int) (w0 w : World) (hI : IsS71 w0 w g s0_0 s0_1 s0_2 s0_3 s0_4 s0_5 s0_6 s0_7 s0_8) (hB : Below w0.heap.size w0 w) (h : flywheelref19_Aimd_Update.f k s0_0 s0_1 s0_2 s0_3 s0_4 s0_5 s0_6 s0_7 s0_8 a1 a2 a3 a4 = some (r1, r2, r3, r4, r5, r6, r7, r8, r9, r10)) :
  Calls Try.prog 21 #[.pointer (some ⟨g, 0, none⟩), .int .i64 a1, .int .i64 a2, .int .i64 a3, .int .i64 a4] w fun e w' => e = .returned (.int .i64 r1) ∧ IsS71 w0 w' g r2 r3 r4 r5 r6 r7 r8 r9 r10 ∧ Below w0.heap.size w0 w' ∧ KeepBut w w' g none := by
 have HI0 := Aside0.mk hI
 have HK := Aside0.mk (KeepBut.refl w g none)
 have HL := Aside0.mk hB.size
 clear hI
 have HW0 := Aside0.mk hB.size
 have HB := Aside0.mk hB
 clear hB
 have H : ((flywheelref01_Clamp.f a2 0 17179869184).bind fun t350 => ((flywheelref01_Clamp.f a3 1000 1000000).bind fun t351 => ((flywheelref01_Clamp.f a4 0 1125899906842624).bind fun t352 => (if s0_7 = true then ((flywheelref01_Clamp.f (wrap64 (t352 - s0_8)) 0 1000000).bind fun t353 => (flywheelref19_Aimd_Update.j0 k a1 t350 t351 t352 t353 s0_0 s0_1 s0_2 s0_3 s0_4 s0_5 s0_6 s0_7 s0_8)) else (flywheelref19_Aimd_Update.j0 k a1 t350 t351 t352 0 s0_0 s0_1 s0_2 s0_3 s0_4 s0_5 s0_6 s0_7 s0_8))))) = some (r1, r2, r3, r4, r5, r6, r7, r8, r9, r10) := h
 clear h
 replace H := Option.bind_eq_some_iff.mp H
 obtain ⟨t350, A60, H⟩ := H
 replace H : ((flywheelref01_Clamp.f a3 1000 1000000).bind fun t351 => ((flywheelref01_Clamp.f a4 0 1125899906842624).bind fun t352 => (if s0_7 = true then ((flywheelref01_Clamp.f (wrap64 (t352 - s0_8)) 0 1000000).bind fun t353 => (flywheelref19_Aimd_Update.j0 k a1 t350 t351 t352 t353 s0_0 s0_1 s0_2 s0_3 s0_4 s0_5 s0_6 s0_7 s0_8)) else (flywheelref19_Aimd_Update.j0 k a1 t350 t351 t352 0 s0_0 s0_1 s0_2 s0_3 s0_4 s0_5 s0_6 s0_7 s0_8)))) = some (r1, r2, r3, r4, r5, r6, r7, r8, r9, r10) := H
 have A6 := Aside0.mk A60
 clear A60
 replace H := Option.bind_eq_some_iff.mp H
 obtain ⟨t351, A70, H⟩ := H
 replace H : ((flywheelref01_Clamp.f a4 0 1125899906842624).bind fun t352 => (if s0_7 = true then ((flywheelref01_Clamp.f (wrap64 (t352 - s0_8)) 0 1000000).bind fun t353 => (flywheelref19_Aimd_Update.j0 k a1 t350 t351 t352 t353 s0_0 s0_1 s0_2 s0_3 s0_4 s0_5 s0_6 s0_7 s0_8)) else (flywheelref19_Aimd_Update.j0 k a1 t350 t351 t352 0 s0_0 s0_1 s0_2 s0_3 s0_4 s0_5 s0_6 s0_7 s0_8))) = some (r1, r2, r3, r4, r5, r6, r7, r8, r9, r10) := H
 have A7 := Aside0.mk A70
 clear A70
 replace H := Option.bind_eq_some_iff.mp H
 obtain ⟨t352, A80, H⟩ := H
 replace H : (if s0_7 = true then ((flywheelref01_Clamp.f (wrap64 (t352 - s0_8)) 0 1000000).bind fun t353 => (flywheelref19_Aimd_Update.j0 k a1 t350 t351 t352 t353 s0_0 s0_1 s0_2 s0_3 s0_4 s0_5 s0_6 s0_7 s0_8)) else (flywheelref19_Aimd_Update.j0 k a1 t350 t351 t352 0 s0_0 s0_1 s0_2 s0_3 s0_4 s0_5 s0_6 s0_7 s0_8)) = some (r1, r2, r3, r4, r5, r6, r7, r8, r9, r10) := H
 have A8 := Aside0.mk A80
 clear A80
 have HC9 := Aside0.mk H
 clear H
 go_enter Try.func21, Try.ntmps21
 go_upto_if 21 with (first | ((with_reducible refine gate_callee (f := 40) rfl ?_); refine goesL_ (some 13) rfl rfl Try.func40 (by kernel_rfl) rfl #[.int .i64 a2, .int .i64 0, .int .i64 17179869184] rfl (by (try simp only [List.map_toArray, List.map_cons, List.map_nil]); first | done | rfl | (simp only [List.length_drop, List.length_take]; rfl)) ?_; (with_reducible refine (flywheelref01_Clamp.calls a2 0 17179869184 t350 _ A6.out).mono ?_); rintro e w' ⟨rfl, ⟨nd, rfl⟩⟩; refine ⟨_, rfl, ?_⟩) | ((with_reducible refine gate_callee (f := 40) rfl ?_); refine goesL_ (some 15) rfl rfl Try.func40 (by kernel_rfl) rfl #[.int .i64 a3, .int .i64 1000, .int .i64 1000000] rfl (by (try simp only [List.map_toArray, List.map_cons, List.map_nil]); first | done | rfl | (simp only [List.length_drop, List.length_take]; rfl)) ?_; (with_reducible refine (flywheelref01_Clamp.calls a3 1000 1000000 t351 _ A7.out).mono ?_); rintro e w' ⟨rfl, ⟨nd, rfl⟩⟩; refine ⟨_, rfl, ?_⟩) | ((with_reducible refine gate_callee (f := 40) rfl ?_); refine goesL_ (some 17) rfl rfl Try.func40 (by kernel_rfl) rfl #[.int .i64 a4, .int .i64 0, .int .i64 1125899906842624] rfl (by (try simp only [List.map_toArray, List.map_cons, List.map_nil]); first | done | rfl | (simp only [List.length_drop, List.length_take]; rfl)) ?_; (with_reducible refine (flywheelref01_Clamp.calls a4 0 1125899906842624 t352 _ A8.out).mono ?_); rintro e w' ⟨rfl, ⟨nd, rfl⟩⟩; refine ⟨_, rfl, ?_⟩; obtain ⟨HGz10, hgz10⟩ := HI0.out; have hcz10_0 := cellS71_0 HGz10; have hcz10_1 := cellS71_1 HGz10; have hcz10_2 := cellS71_2 HGz10; have hcz10_3 := cellS71_3 HGz10; have hcz10_4 := cellS71_4 HGz10; have hcz10_5 := cellS71_5 HGz10; have hcz10_6 := cellS71_6 HGz10; have hcz10_7 := cellS71_7 HGz10; have hcz10_8 := cellS71_8 HGz10; have hfz10_0 := blk_frozen HGz10 0; have hfz10_1 := blk_frozen HGz10 1; have hfz10_2 := blk_frozen HGz10 2; have hfz10_3 := blk_frozen HGz10 3; have hfz10_4 := blk_frozen HGz10 4; have hfz10_5 := blk_frozen HGz10 5; have hfz10_6 := blk_frozen HGz10 6; have hfz10_7 := blk_frozen HGz10 7; have hfz10_8 := blk_frozen HGz10 8; clear HGz10 hgz10))
 (try simp only [Act.put, List.setIfInBounds_toArray, List.set_cons_zero, List.set_cons_succ])
 go_cut [11] (fun v11 wc => ∃ (kq : Nat) (x11_8 : Int), v11 = .int .i64 x11_8 ∧ Aside0 (flywheelref19_Aimd_Update.j0 kq a1 t350 t351 t352 x11_8 s0_0 s0_1 s0_2 s0_3 s0_4 s0_5 s0_6 s0_7 s0_8 = some (r1, r2, r3, r4, r5, r6, r7, r8, r9, r10)) ∧ Aside0 (kq ≤ k) ∧ Aside0 (IsS71 w0 wc g s0_0 s0_1 s0_2 s0_3 s0_4 s0_5 s0_6 s0_7 s0_8) ∧ Aside0 (KeepBut w wc g none) ∧ Aside0 (Below w0.heap.size w0 wc))
 case first =>
  have H := HC9.out
  clear HC9
  by_cases c11 : s0_7 = true
  ·subst c11
   have H1 : ((flywheelref01_Clamp.f (wrap64 (t352 - s0_8)) 0 1000000).bind fun t353 => (flywheelref19_Aimd_Update.j0 k a1 t350 t351 t352 t353 s0_0 s0_1 s0_2 s0_3 s0_4 s0_5 s0_6 true s0_8)) = some (r1, r2, r3, r4, r5, r6, r7, r8, r9, r10) := by rw [if_pos rfl] at H; exact H
   clear H
   have H := H1
   clear H1
   replace H := Option.bind_eq_some_iff.mp H
   obtain ⟨t353, A120, H⟩ := H
   replace H : (flywheelref19_Aimd_Update.j0 k a1 t350 t351 t352 t353 s0_0 s0_1 s0_2 s0_3 s0_4 s0_5 s0_6 true s0_8) = some (r1, r2, r3, r4, r5, r6, r7, r8, r9, r10) := H
   have A12 := Aside0.mk A120
   clear A120
   have H' := Aside0.mk H
   clear H
   obtain ⟨HGz13, hgz13⟩ := HI0.out
   have hcz13_0 := cellS71_0 HGz13
   have hcz13_1 := cellS71_1 HGz13
   have hcz13_2 := cellS71_2 HGz13
   have hcz13_3 := cellS71_3 HGz13
   have hcz13_4 := cellS71_4 HGz13
   have hcz13_5 := cellS71_5 HGz13
   have hcz13_6 := cellS71_6 HGz13
   have hcz13_7 := cellS71_7 HGz13
   have hcz13_8 := cellS71_8 HGz13
   have hfz13_0 := blk_frozen HGz13 0
   have hfz13_1 := blk_frozen HGz13 1
   have hfz13_2 := blk_frozen HGz13 2
   have hfz13_3 := blk_frozen HGz13 3
   have hfz13_4 := blk_frozen HGz13 4
   have hfz13_5 := blk_frozen HGz13 5
   have hfz13_6 := blk_frozen HGz13 6
   have hfz13_7 := blk_frozen HGz13 7
   have hfz13_8 := blk_frozen HGz13 8
   clear HGz13 hgz13
   go_wp2_with (first | ((with_reducible refine gate_callee (f := 40) rfl ?_); refine goesL_ (some 28) rfl rfl Try.func40 (by kernel_rfl) rfl #[.int .i64 (wrap64 (t352 - s0_8)), .int .i64 0, .int .i64 1000000] rfl (by (try simp only [List.map_toArray, List.map_cons, List.map_nil]); first | done | rfl | (simp only [List.length_drop, List.length_take]; rfl)) ?_; (with_reducible refine (flywheelref01_Clamp.calls (wrap64 (t352 - s0_8)) 0 1000000 t353 _ A12.out).mono ?_); rintro e w' ⟨rfl, ⟨nd, rfl⟩⟩; refine ⟨_, rfl, ?_⟩))
   go_meet
   case rel => exact ⟨_, (t353), (by first | rfl | (simp; done) | (simp [*]; done)), H', ⟨by first | omega | exact Nat.le_refl _⟩, ⟨by repeat (first | (with_reducible first | exact HI0.out | apply IsS71.alloc | apply IsS71.drewN | apply IsS71.drew | apply IsS71.set_0 | apply IsS71.set_1 | apply IsS71.set_2 | apply IsS71.set_3 | apply IsS71.set_4 | apply IsS71.set_5 | apply IsS71.set_6 | apply IsS71.set_7 | apply IsS71.set_8) | exact HI0.out)⟩, ⟨by repeat (first | (with_reducible first | exact HK.out | apply KeepBut.set_ | apply keep_drewN | apply keep_drew | apply keep_alloc) | exact HK.out)⟩, ⟨by repeat (first | (with_reducible first | exact HB.out | apply below_alloc | apply pw_below_drewN | apply below_drew1 | refine below_set ?_ (IsS71.ge HI0.out)) | exact HB.out)⟩⟩
  ·replace c11 := Bool.eq_false_iff.mpr c11
   subst c11
   have H1 : (flywheelref19_Aimd_Update.j0 k a1 t350 t351 t352 0 s0_0 s0_1 s0_2 s0_3 s0_4 s0_5 s0_6 false s0_8) = some (r1, r2, r3, r4, r5, r6, r7, r8, r9, r10) := by rw [if_neg (show ¬ (false = true) by decide)] at H; exact H
   clear H
   have H := H1
   clear H1
   have H' := Aside0.mk H
   clear H
   go_wp2
   go_meet
   case rel => exact ⟨_, (0), (by first | rfl | (simp; done) | (simp [*]; done)), H', ⟨by first | omega | exact Nat.le_refl _⟩, ⟨by repeat (first | (with_reducible first | exact HI0.out | apply IsS71.alloc | apply IsS71.drewN | apply IsS71.drew | apply IsS71.set_0 | apply IsS71.set_1 | apply IsS71.set_2 | apply IsS71.set_3 | apply IsS71.set_4 | apply IsS71.set_5 | apply IsS71.set_6 | apply IsS71.set_7 | apply IsS71.set_8) | exact HI0.out)⟩, ⟨by repeat (first | (with_reducible first | exact HK.out | apply KeepBut.set_ | apply keep_drewN | apply keep_drew | apply keep_alloc) | exact HK.out)⟩, ⟨by repeat (first | (with_reducible first | exact HB.out | apply below_alloc | apply pw_below_drewN | apply below_drew1 | refine below_set ?_ (IsS71.ge HI0.out)) | exact HB.out)⟩⟩
 case rest =>
  clear HC9
  try clear c1
  try clear c2
  try clear p2
  try clear c4
  try clear p6
  try clear c11
  try clear hcz10_0
  try clear hcz10_1
  try clear hcz10_2
  try clear hcz10_3
  try clear hcz10_4
  try clear hcz10_5
  try clear hcz10_6
  try clear hcz10_7
  try clear hcz10_8
  try clear hcz13_0
  try clear hcz13_1
  try clear hcz13_2
  try clear hcz13_3
  try clear hcz13_4
  try clear hcz13_5
  try clear hcz13_6
  try clear hcz13_7
  try clear hcz13_8
  try clear hfz10_0
  try clear hfz10_1
  try clear hfz10_2
  try clear hfz10_3
  try clear hfz10_4
  try clear hfz10_5
  try clear hfz10_6
  try clear hfz10_7
  try clear hfz10_8
  try clear hfz13_0
  try clear hfz13_1
  try clear hfz13_2
  try clear hfz13_3
  try clear hfz13_4
  try clear hfz13_5
  try clear hfz13_6
  try clear hfz13_7
  try clear hfz13_8
  obtain ⟨kq, x11_8, rfl, HA, HJ8, HI0, HK, HB⟩ := hcut
  cases kq with
  | zero => exact absurd HA.out (by simp [flywheelref19_Aimd_Update.j0])
  | succ kj8 =>
   have H := HA.out
   clear HA
   simp only [flywheelref19_Aimd_Update.j0] at H
   have HC14 := Aside0.mk H
   clear H
   obtain ⟨HGz15, hgz15⟩ := HI0.out
   have hcz15_0 := cellS71_0 HGz15
   have hcz15_1 := cellS71_1 HGz15
   have hcz15_2 := cellS71_2 HGz15
   have hcz15_3 := cellS71_3 HGz15
   have hcz15_4 := cellS71_4 HGz15
   have hcz15_5 := cellS71_5 HGz15
   have hcz15_6 := cellS71_6 HGz15
   have hcz15_7 := cellS71_7 HGz15
   have hcz15_8 := cellS71_8 HGz15
   have hfz15_0 := blk_frozen HGz15 0
   have hfz15_1 := blk_frozen HGz15 1
   have hfz15_2 := blk_frozen HGz15 2
   have hfz15_3 := blk_frozen HGz15 3
   have hfz15_4 := blk_frozen HGz15 4
   have hfz15_5 := blk_frozen HGz15 5
   have hfz15_6 := blk_frozen HGz15 6
   have hfz15_7 := blk_frozen HGz15 7
   have hfz15_8 := blk_frozen HGz15 8
   clear HGz15 hgz15
   go_upto_block 0 with (fail)
   go_cut [] (fun wc => ∃ (kq : Nat) (x1003_13 : Int), Aside0 (flywheelref19_Aimd_Update.j2 kq t350 t351 x11_8 s0_0 s0_1 s0_2 x1003_13 s0_4 s0_5 s0_6 true t352 = some (r1, r2, r3, r4, r5, r6, r7, r8, r9, r10)) ∧ Aside0 (kq ≤ kj8) ∧ Aside0 (IsS71 w0 wc g s0_0 s0_1 s0_2 x1003_13 s0_4 s0_5 s0_6 true t352) ∧ Aside0 (KeepBut w wc g none) ∧ Aside0 (Below w0.heap.size w0 wc))
   case first =>
    have H := HC14.out
    clear HC14
    by_cases c16 : a1 = 1
    ·rw [if_pos c16] at H
     have c16b0 : (a1 == 1) = true := beq_iff_eq.mpr c16
     have c16b1 : (a1 != 1) = false := bne_eq_false_iff_eq.mpr c16
     clear c16
     (first | rw [c16b0] | (simp only [i64_w, i32_w]; rw [c16b0]) | skip)
     have H' := Aside0.mk H
     clear H
     obtain ⟨HGz17, hgz17⟩ := HI0.out
     have hcz17_0 := cellS71_0 HGz17
     have hcz17_1 := cellS71_1 HGz17
     have hcz17_2 := cellS71_2 HGz17
     have hcz17_3 := cellS71_3 HGz17
     have hcz17_4 := cellS71_4 HGz17
     have hcz17_5 := cellS71_5 HGz17
     have hcz17_6 := cellS71_6 HGz17
     have hcz17_7 := cellS71_7 HGz17
     have hcz17_8 := cellS71_8 HGz17
     have hfz17_0 := blk_frozen HGz17 0
     have hfz17_1 := blk_frozen HGz17 1
     have hfz17_2 := blk_frozen HGz17 2
     have hfz17_3 := blk_frozen HGz17 3
     have hfz17_4 := blk_frozen HGz17 4
     have hfz17_5 := blk_frozen HGz17 5
     have hfz17_6 := blk_frozen HGz17 6
     have hfz17_7 := blk_frozen HGz17 7
     have hfz17_8 := blk_frozen HGz17 8
     clear HGz17 hgz17
     go_wp2
     go_meet
     case rel => exact ⟨_, (2), H', ⟨by have := HJ8.out; first | omega | exact Nat.le_refl _⟩, ⟨by repeat (first | (with_reducible first | exact HI0.out | apply IsS71.alloc | apply IsS71.drewN | apply IsS71.drew | apply IsS71.set_0 | apply IsS71.set_1 | apply IsS71.set_2 | apply IsS71.set_3 | apply IsS71.set_4 | apply IsS71.set_5 | apply IsS71.set_6 | apply IsS71.set_7 | apply IsS71.set_8) | exact HI0.out)⟩, ⟨by repeat (first | (with_reducible first | exact HK.out | apply KeepBut.set_ | apply keep_drewN | apply keep_drew | apply keep_alloc) | exact HK.out)⟩, ⟨by repeat (first | (with_reducible first | exact HB.out | apply below_alloc | apply pw_below_drewN | apply below_drew1 | refine below_set ?_ (IsS71.ge HI0.out)) | exact HB.out)⟩⟩
    ·rw [if_neg c16] at H
     have c16b0 : (a1 == 1) = false := beq_eq_false_iff_ne.mpr c16
     have c16b1 : (a1 != 1) = true := bne_iff_ne.mpr c16
     (first | rw [c16b0] | (simp only [i64_w, i32_w]; rw [c16b0]) | skip)
     have HC18 := Aside0.mk H
     clear H
     go_upto_region 10 with (fail)
     go_cut [42] (fun v42 wc => ∃ (kq : Nat) (x42_17 : Bool), v42 = .bool x42_17 ∧ Aside0 (flywheelref19_Aimd_Update.j1 kq t350 t351 x11_8 x42_17 s0_0 s0_1 s0_2 s0_3 s0_4 s0_5 s0_6 true t352 = some (r1, r2, r3, r4, r5, r6, r7, r8, r9, r10)) ∧ Aside0 (kq ≤ kj8) ∧ Aside0 (IsS71 w0 wc g s0_0 s0_1 s0_2 s0_3 s0_4 s0_5 s0_6 true t352) ∧ Aside0 (KeepBut w wc g none) ∧ Aside0 (Below w0.heap.size w0 wc))
     case first =>
      have H := HC18.out
      clear HC18
      by_cases c19 : a1 = 2
      ·rw [if_pos c19] at H
       have c19b0 : (a1 == 2) = true := beq_iff_eq.mpr c19
       have c19b1 : (a1 != 2) = false := bne_eq_false_iff_eq.mpr c19
       clear c19
       (first | rw [c19b0] | (simp only [i64_w, i32_w]; rw [c19b0]) | skip)
       have H' := Aside0.mk H
       clear H
       go_wp2
       go_meet
       case rel => exact ⟨_, (true), (by first | rfl | (simp; done) | (simp [*]; done)), H', ⟨by have := HJ8.out; first | omega | exact Nat.le_refl _⟩, ⟨by repeat (first | (with_reducible first | exact HI0.out | apply IsS71.alloc | apply IsS71.drewN | apply IsS71.drew | apply IsS71.set_0 | apply IsS71.set_1 | apply IsS71.set_2 | apply IsS71.set_3 | apply IsS71.set_4 | apply IsS71.set_5 | apply IsS71.set_6 | apply IsS71.set_7 | apply IsS71.set_8) | exact HI0.out)⟩, ⟨by repeat (first | (with_reducible first | exact HK.out | apply KeepBut.set_ | apply keep_drewN | apply keep_drew | apply keep_alloc) | exact HK.out)⟩, ⟨by repeat (first | (with_reducible first | exact HB.out | apply below_alloc | apply pw_below_drewN | apply below_drew1 | refine below_set ?_ (IsS71.ge HI0.out)) | exact HB.out)⟩⟩
      ·rw [if_neg c19] at H
       have c19b0 : (a1 == 2) = false := beq_eq_false_iff_ne.mpr c19
       have c19b1 : (a1 != 2) = true := bne_iff_ne.mpr c19
       (first | rw [c19b0] | (simp only [i64_w, i32_w]; rw [c19b0]) | skip)
       have H' := Aside0.mk H
       clear H
       obtain ⟨HGz20, hgz20⟩ := HI0.out
       have hcz20_0 := cellS71_0 HGz20
       have hcz20_1 := cellS71_1 HGz20
       have hcz20_2 := cellS71_2 HGz20
       have hcz20_3 := cellS71_3 HGz20
       have hcz20_4 := cellS71_4 HGz20
       have hcz20_5 := cellS71_5 HGz20
       have hcz20_6 := cellS71_6 HGz20
       have hcz20_7 := cellS71_7 HGz20
       have hcz20_8 := cellS71_8 HGz20
       have hfz20_0 := blk_frozen HGz20 0
       have hfz20_1 := blk_frozen HGz20 1
       have hfz20_2 := blk_frozen HGz20 2
       have hfz20_3 := blk_frozen HGz20 3
       have hfz20_4 := blk_frozen HGz20 4
       have hfz20_5 := blk_frozen HGz20 5
       have hfz20_6 := blk_frozen HGz20 6
       have hfz20_7 := blk_frozen HGz20 7
       have hfz20_8 := blk_frozen HGz20 8
       clear HGz20 hgz20
       go_wp2
       go_meet
       case rel => exact ⟨_, ((s0_3 == 2)), (by first | rfl | (simp; done) | (simp [*]; done)), H', ⟨by have := HJ8.out; first | omega | exact Nat.le_refl _⟩, ⟨by repeat (first | (with_reducible first | exact HI0.out | apply IsS71.alloc | apply IsS71.drewN | apply IsS71.drew | apply IsS71.set_0 | apply IsS71.set_1 | apply IsS71.set_2 | apply IsS71.set_3 | apply IsS71.set_4 | apply IsS71.set_5 | apply IsS71.set_6 | apply IsS71.set_7 | apply IsS71.set_8) | exact HI0.out)⟩, ⟨by repeat (first | (with_reducible first | exact HK.out | apply KeepBut.set_ | apply keep_drewN | apply keep_drew | apply keep_alloc) | exact HK.out)⟩, ⟨by repeat (first | (with_reducible first | exact HB.out | apply below_alloc | apply pw_below_drewN | apply below_drew1 | refine below_set ?_ (IsS71.ge HI0.out)) | exact HB.out)⟩⟩
     case rest =>
      clear HC18
      try clear c1
      try clear c2
      try clear p2
      try clear c4
      try clear p6
      try clear c11
      try clear c16
      try clear c16b0
      try clear c16b1
      try clear c19
      try clear c19b0
      try clear c19b1
      try clear hcz10_0
      try clear hcz10_1
      try clear hcz10_2
      try clear hcz10_3
      try clear hcz10_4
      try clear hcz10_5
      try clear hcz10_6
      try clear hcz10_7
      try clear hcz10_8
      try clear hcz13_0
      try clear hcz13_1
      try clear hcz13_2
      try clear hcz13_3
      try clear hcz13_4
      try clear hcz13_5
      try clear hcz13_6
      try clear hcz13_7
      try clear hcz13_8
      try clear hcz15_0
      try clear hcz15_1
      try clear hcz15_2
      try clear hcz15_3
      try clear hcz15_4
      try clear hcz15_5
      try clear hcz15_6
      try clear hcz15_7
      try clear hcz15_8
      try clear hcz17_0
      try clear hcz17_1
      try clear hcz17_2
      try clear hcz17_3
      try clear hcz17_4
      try clear hcz17_5
      try clear hcz17_6
      try clear hcz17_7
      try clear hcz17_8
      try clear hcz20_0
      try clear hcz20_1
      try clear hcz20_2
      try clear hcz20_3
      try clear hcz20_4
      try clear hcz20_5
      try clear hcz20_6
      try clear hcz20_7
      try clear hcz20_8
      try clear hfz10_0
      try clear hfz10_1
      try clear hfz10_2
      try clear hfz10_3
      try clear hfz10_4
      try clear hfz10_5
      try clear hfz10_6
      try clear hfz10_7
      try clear hfz10_8
      try clear hfz13_0
      try clear hfz13_1
      try clear hfz13_2
      try clear hfz13_3
      try clear hfz13_4
      try clear hfz13_5
      try clear hfz13_6
      try clear hfz13_7
      try clear hfz13_8
      try clear hfz15_0
      try clear hfz15_1
      try clear hfz15_2
      try clear hfz15_3
      try clear hfz15_4
      try clear hfz15_5
      try clear hfz15_6
      try clear hfz15_7
      try clear hfz15_8
      try clear hfz17_0
      try clear hfz17_1
      try clear hfz17_2
      try clear hfz17_3
      try clear hfz17_4
      try clear hfz17_5
      try clear hfz17_6
      try clear hfz17_7
      try clear hfz17_8
      try clear hfz20_0
      try clear hfz20_1
      try clear hfz20_2
      try clear hfz20_3
      try clear hfz20_4
      try clear hfz20_5
      try clear hfz20_6
      try clear hfz20_7
      try clear hfz20_8
      try clear p2
      try clear p6
      obtain ⟨kq, x42_17, rfl, HA, HJ17, HI0, HK, HB⟩ := hcut
      cases kq with
      | zero => exact absurd HA.out (by simp [flywheelref19_Aimd_Update.j1])
      | succ kj17 =>
       have H := HA.out
       clear HA
       simp only [flywheelref19_Aimd_Update.j1] at H
       by_cases c21 : x42_17 = true
       ·subst c21
        have H1 : (flywheelref19_Aimd_Update.j2 kj17 t350 t351 x11_8 s0_0 s0_1 s0_2 0 s0_4 s0_5 s0_6 true t352) = some (r1, r2, r3, r4, r5, r6, r7, r8, r9, r10) := by rw [if_pos rfl] at H; exact H
        clear H
        have H := H1
        clear H1
        have H' := Aside0.mk H
        clear H
        obtain ⟨HGz22, hgz22⟩ := HI0.out
        have hcz22_0 := cellS71_0 HGz22
        have hcz22_1 := cellS71_1 HGz22
        have hcz22_2 := cellS71_2 HGz22
        have hcz22_3 := cellS71_3 HGz22
        have hcz22_4 := cellS71_4 HGz22
        have hcz22_5 := cellS71_5 HGz22
        have hcz22_6 := cellS71_6 HGz22
        have hcz22_7 := cellS71_7 HGz22
        have hcz22_8 := cellS71_8 HGz22
        have hfz22_0 := blk_frozen HGz22 0
        have hfz22_1 := blk_frozen HGz22 1
        have hfz22_2 := blk_frozen HGz22 2
        have hfz22_3 := blk_frozen HGz22 3
        have hfz22_4 := blk_frozen HGz22 4
        have hfz22_5 := blk_frozen HGz22 5
        have hfz22_6 := blk_frozen HGz22 6
        have hfz22_7 := blk_frozen HGz22 7
        have hfz22_8 := blk_frozen HGz22 8
        clear HGz22 hgz22
        go_wp2
        go_meet
        case rel => exact ⟨_, (0), H', ⟨by have := HJ8.out; have := HJ17.out; first | omega | exact Nat.le_refl _⟩, ⟨by repeat (first | (with_reducible first | exact HI0.out | apply IsS71.alloc | apply IsS71.drewN | apply IsS71.drew | apply IsS71.set_0 | apply IsS71.set_1 | apply IsS71.set_2 | apply IsS71.set_3 | apply IsS71.set_4 | apply IsS71.set_5 | apply IsS71.set_6 | apply IsS71.set_7 | apply IsS71.set_8) | exact HI0.out)⟩, ⟨by repeat (first | (with_reducible first | exact HK.out | apply KeepBut.set_ | apply keep_drewN | apply keep_drew | apply keep_alloc) | exact HK.out)⟩, ⟨by repeat (first | (with_reducible first | exact HB.out | apply below_alloc | apply pw_below_drewN | apply below_drew1 | refine below_set ?_ (IsS71.ge HI0.out)) | exact HB.out)⟩⟩
       ·replace c21 := Bool.eq_false_iff.mpr c21
        subst c21
        have H1 : (if s0_3 = 0 then (flywheelref19_Aimd_Update.j2 kj17 t350 t351 x11_8 s0_0 s0_1 s0_2 1 s0_4 s0_5 s0_6 true t352) else (flywheelref19_Aimd_Update.j2 kj17 t350 t351 x11_8 s0_0 s0_1 s0_2 s0_3 s0_4 s0_5 s0_6 true t352)) = some (r1, r2, r3, r4, r5, r6, r7, r8, r9, r10) := by rw [if_neg (show ¬ (false = true) by decide)] at H; exact H
        clear H
        have H := H1
        clear H1
        by_cases c23 : s0_3 = 0
        ·rw [if_pos c23] at H
         have c23b0 : (s0_3 == 0) = true := beq_iff_eq.mpr c23
         have c23b1 : (s0_3 != 0) = false := bne_eq_false_iff_eq.mpr c23
         clear c23
         have H' := Aside0.mk H
         clear H
         obtain ⟨HGz24, hgz24⟩ := HI0.out
         have hcz24_0 := cellS71_0 HGz24
         have hcz24_1 := cellS71_1 HGz24
         have hcz24_2 := cellS71_2 HGz24
         have hcz24_3 := cellS71_3 HGz24
         have hcz24_4 := cellS71_4 HGz24
         have hcz24_5 := cellS71_5 HGz24
         have hcz24_6 := cellS71_6 HGz24
         have hcz24_7 := cellS71_7 HGz24
         have hcz24_8 := cellS71_8 HGz24
         have hfz24_0 := blk_frozen HGz24 0
         have hfz24_1 := blk_frozen HGz24 1
         have hfz24_2 := blk_frozen HGz24 2
         have hfz24_3 := blk_frozen HGz24 3
         have hfz24_4 := blk_frozen HGz24 4
         have hfz24_5 := blk_frozen HGz24 5
         have hfz24_6 := blk_frozen HGz24 6
         have hfz24_7 := blk_frozen HGz24 7
         have hfz24_8 := blk_frozen HGz24 8
         clear HGz24 hgz24
         go_wp2
         go_meet
         case rel => exact ⟨_, (1), H', ⟨by have := HJ8.out; have := HJ17.out; first | omega | exact Nat.le_refl _⟩, ⟨by repeat (first | (with_reducible first | exact HI0.out | apply IsS71.alloc | apply IsS71.drewN | apply IsS71.drew | apply IsS71.set_0 | apply IsS71.set_1 | apply IsS71.set_2 | apply IsS71.set_3 | apply IsS71.set_4 | apply IsS71.set_5 | apply IsS71.set_6 | apply IsS71.set_7 | apply IsS71.set_8) | exact HI0.out)⟩, ⟨by repeat (first | (with_reducible first | exact HK.out | apply KeepBut.set_ | apply keep_drewN | apply keep_drew | apply keep_alloc) | exact HK.out)⟩, ⟨by repeat (first | (with_reducible first | exact HB.out | apply below_alloc | apply pw_below_drewN | apply below_drew1 | refine below_set ?_ (IsS71.ge HI0.out)) | exact HB.out)⟩⟩
        ·rw [if_neg c23] at H
         have c23b0 : (s0_3 == 0) = false := beq_eq_false_iff_ne.mpr c23
         have c23b1 : (s0_3 != 0) = true := bne_iff_ne.mpr c23
         have H' := Aside0.mk H
         clear H
         obtain ⟨HGz25, hgz25⟩ := HI0.out
         have hcz25_0 := cellS71_0 HGz25
         have hcz25_1 := cellS71_1 HGz25
         have hcz25_2 := cellS71_2 HGz25
         have hcz25_3 := cellS71_3 HGz25
         have hcz25_4 := cellS71_4 HGz25
         have hcz25_5 := cellS71_5 HGz25
         have hcz25_6 := cellS71_6 HGz25
         have hcz25_7 := cellS71_7 HGz25
         have hcz25_8 := cellS71_8 HGz25
         have hfz25_0 := blk_frozen HGz25 0
         have hfz25_1 := blk_frozen HGz25 1
         have hfz25_2 := blk_frozen HGz25 2
         have hfz25_3 := blk_frozen HGz25 3
         have hfz25_4 := blk_frozen HGz25 4
         have hfz25_5 := blk_frozen HGz25 5
         have hfz25_6 := blk_frozen HGz25 6
         have hfz25_7 := blk_frozen HGz25 7
         have hfz25_8 := blk_frozen HGz25 8
         clear HGz25 hgz25
         go_wp2
         go_meet
         case rel => exact ⟨_, (s0_3), H', ⟨by have := HJ8.out; have := HJ17.out; first | omega | exact Nat.le_refl _⟩, ⟨by repeat (first | (with_reducible first | exact HI0.out | apply IsS71.alloc | apply IsS71.drewN | apply IsS71.drew | apply IsS71.set_0 | apply IsS71.set_1 | apply IsS71.set_2 | apply IsS71.set_3 | apply IsS71.set_4 | apply IsS71.set_5 | apply IsS71.set_6 | apply IsS71.set_7 | apply IsS71.set_8) | exact HI0.out)⟩, ⟨by repeat (first | (with_reducible first | exact HK.out | apply KeepBut.set_ | apply keep_drewN | apply keep_drew | apply keep_alloc) | exact HK.out)⟩, ⟨by repeat (first | (with_reducible first | exact HB.out | apply below_alloc | apply pw_below_drewN | apply below_drew1 | refine below_set ?_ (IsS71.ge HI0.out)) | exact HB.out)⟩⟩
   case rest =>
    clear HC14
    try clear c1
    try clear c2
    try clear p2
    try clear c4
    try clear p6
    try clear c11
    try clear c16
    try clear c16b0
    try clear c16b1
    try clear c19
    try clear c19b0
    try clear c19b1
    try clear c21
    try clear c23
    try clear c23b0
    try clear c23b1
    try clear hcz10_0
    try clear hcz10_1
    try clear hcz10_2
    try clear hcz10_3
    try clear hcz10_4
    try clear hcz10_5
    try clear hcz10_6
    try clear hcz10_7
    try clear hcz10_8
    try clear hcz13_0
    try clear hcz13_1
    try clear hcz13_2
    try clear hcz13_3
    try clear hcz13_4
    try clear hcz13_5
    try clear hcz13_6
    try clear hcz13_7
    try clear hcz13_8
    try clear hcz15_0
    try clear hcz15_1
    try clear hcz15_2
    try clear hcz15_3
    try clear hcz15_4
    try clear hcz15_5
    try clear hcz15_6
    try clear hcz15_7
    try clear hcz15_8
    try clear hcz17_0
    try clear hcz17_1
    try clear hcz17_2
    try clear hcz17_3
    try clear hcz17_4
    try clear hcz17_5
    try clear hcz17_6
    try clear hcz17_7
    try clear hcz17_8
    try clear hcz20_0
    try clear hcz20_1
    try clear hcz20_2
    try clear hcz20_3
    try clear hcz20_4
    try clear hcz20_5
    try clear hcz20_6
    try clear hcz20_7
    try clear hcz20_8
    try clear hcz22_0
    try clear hcz22_1
    try clear hcz22_2
    try clear hcz22_3
    try clear hcz22_4
    try clear hcz22_5
    try clear hcz22_6
    try clear hcz22_7
    try clear hcz22_8
    try clear hcz24_0
    try clear hcz24_1
    try clear hcz24_2
    try clear hcz24_3
    try clear hcz24_4
    try clear hcz24_5
    try clear hcz24_6
    try clear hcz24_7
    try clear hcz24_8
    try clear hcz25_0
    try clear hcz25_1
    try clear hcz25_2
    try clear hcz25_3
    try clear hcz25_4
    try clear hcz25_5
    try clear hcz25_6
    try clear hcz25_7
    try clear hcz25_8
    try clear hfz10_0
    try clear hfz10_1
    try clear hfz10_2
    try clear hfz10_3
    try clear hfz10_4
    try clear hfz10_5
    try clear hfz10_6
    try clear hfz10_7
    try clear hfz10_8
    try clear hfz13_0
    try clear hfz13_1
    try clear hfz13_2
    try clear hfz13_3
    try clear hfz13_4
    try clear hfz13_5
    try clear hfz13_6
    try clear hfz13_7
    try clear hfz13_8
    try clear hfz15_0
    try clear hfz15_1
    try clear hfz15_2
    try clear hfz15_3
    try clear hfz15_4
    try clear hfz15_5
    try clear hfz15_6
    try clear hfz15_7
    try clear hfz15_8
    try clear hfz17_0
    try clear hfz17_1
    try clear hfz17_2
    try clear hfz17_3
    try clear hfz17_4
    try clear hfz17_5
    try clear hfz17_6
    try clear hfz17_7
    try clear hfz17_8
    try clear hfz20_0
    try clear hfz20_1
    try clear hfz20_2
    try clear hfz20_3
    try clear hfz20_4
    try clear hfz20_5
    try clear hfz20_6
    try clear hfz20_7
    try clear hfz20_8
    try clear hfz22_0
    try clear hfz22_1
    try clear hfz22_2
    try clear hfz22_3
    try clear hfz22_4
    try clear hfz22_5
    try clear hfz22_6
    try clear hfz22_7
    try clear hfz22_8
    try clear hfz24_0
    try clear hfz24_1
    try clear hfz24_2
    try clear hfz24_3
    try clear hfz24_4
    try clear hfz24_5
    try clear hfz24_6
    try clear hfz24_7
    try clear hfz24_8
    try clear hfz25_0
    try clear hfz25_1
    try clear hfz25_2
    try clear hfz25_3
    try clear hfz25_4
    try clear hfz25_5
    try clear hfz25_6
    try clear hfz25_7
    try clear hfz25_8
    try clear p2
    try clear p6
    obtain ⟨kq, x1003_13, HA, HJ13, HI0, HK, HB⟩ := hcut
    cases kq with
    | zero => exact absurd HA.out (by simp [flywheelref19_Aimd_Update.j2])
    | succ kj13 =>
     have H := HA.out
     clear HA
     simp only [flywheelref19_Aimd_Update.j2] at H
     by_cases c26 : x1003_13 = 1
     ·rw [if_pos c26] at H
      have c26b0 : (x1003_13 == 1) = true := beq_iff_eq.mpr c26
      have c26b1 : (x1003_13 != 1) = false := bne_eq_false_iff_eq.mpr c26
      clear c26
      replace H := Option.bind_eq_some_iff.mp H
      obtain ⟨⟨t354, t355, t356, t357, t358, t359, t360, t361, t362⟩, A270, H⟩ := H
      replace H : ((flywheelref01_Clamp.f t354 t355 t356).bind fun t363 => (some (t363, t363, t355, t356, t357, t358, t359, t360, t361, t362))) = some (r1, r2, r3, r4, r5, r6, r7, r8, r9, r10) := H
      have A27 := Aside0.mk A270
      clear A270
      replace H := Option.bind_eq_some_iff.mp H
      obtain ⟨t363, A280, H⟩ := H
      replace H : (some (t363, t363, t355, t356, t357, t358, t359, t360, t361, t362)) = some (r1, r2, r3, r4, r5, r6, r7, r8, r9, r10) := H
      have A28 := Aside0.mk A280
      clear A280
      simp only [Option.some.injEq, Prod.mk.injEq] at H
      obtain ⟨rfl, rfl, rfl, rfl, rfl, rfl, rfl, rfl, rfl, rfl⟩ := H
      obtain ⟨HGz29, hgz29⟩ := HI0.out
      have hcz29_0 := cellS71_0 HGz29
      have hcz29_1 := cellS71_1 HGz29
      have hcz29_2 := cellS71_2 HGz29
      have hcz29_3 := cellS71_3 HGz29
      have hcz29_4 := cellS71_4 HGz29
      have hcz29_5 := cellS71_5 HGz29
      have hcz29_6 := cellS71_6 HGz29
      have hcz29_7 := cellS71_7 HGz29
      have hcz29_8 := cellS71_8 HGz29
      have hfz29_0 := blk_frozen HGz29 0
      have hfz29_1 := blk_frozen HGz29 1
      have hfz29_2 := blk_frozen HGz29 2
      have hfz29_3 := blk_frozen HGz29 3
      have hfz29_4 := blk_frozen HGz29 4
      have hfz29_5 := blk_frozen HGz29 5
      have hfz29_6 := blk_frozen HGz29 6
      have hfz29_7 := blk_frozen HGz29 7
      have hfz29_8 := blk_frozen HGz29 8
      clear HGz29 hgz29
      try go_wp2_with (first | ((with_reducible refine gate_callee (f := 41) rfl ?_); refine goesL_ (some 74) rfl rfl Try.func41 (by kernel_rfl) rfl #[.pointer (some ⟨g, 0, none⟩), .int .i64 t350, .int .i64 t351, .int .i64 x11_8] rfl (by (try simp only [List.map_toArray, List.map_cons, List.map_nil]); first | done | rfl | (simp only [List.length_drop, List.length_take]; rfl)) ?_; (with_reducible refine (flywheelref19_Aimd_lift.calls kj13 g s0_0 s0_1 s0_2 x1003_13 s0_4 s0_5 s0_6 true t352 t350 t351 x11_8 t354 t355 t356 t357 t358 t359 t360 t361 t362 w0 _ ?side1 ?side2 A27.out).mono ?_); (case side1 => repeat (first | (with_reducible first | exact HI0.out | apply IsS71.alloc | apply IsS71.drewN | apply IsS71.drew | apply IsS71.set_0 | apply IsS71.set_1 | apply IsS71.set_2 | apply IsS71.set_3 | apply IsS71.set_4 | apply IsS71.set_5 | apply IsS71.set_6 | apply IsS71.set_7 | apply IsS71.set_8) | exact HI0.out)); (case side2 => repeat (first | (with_reducible first | exact HB.out | apply below_alloc | apply pw_below_drewN | apply below_drew1 | refine below_set ?_ (IsS71.ge HI0.out)) | exact HB.out)); rintro e w30 ⟨rfl, hi, hb, hk⟩; refine ⟨_, rfl, ?_⟩; have n0_ := Aside0.mk (KeepBut.trans (by repeat (first | (with_reducible first | exact HK.out | apply KeepBut.set_ | apply keep_drewN | apply keep_drew | apply keep_alloc) | exact HK.out)) hk (.inl rfl)); have n1_ := Aside0.mk (hb); have n2_ := Aside0.mk (hi); clear HK; clear HB; clear HI0; have HK := n0_; have HB := n1_; have HI0 := n2_; clear n0_ n1_ n2_; (try clear hb); (try clear hb2); (try clear hk); (try clear hi)))
      have n0_ := Aside0.mk (IsS71.drew HI0.out)
      have n1_ := Aside0.mk (keep_drew HK.out)
      have n2_ := Aside0.mk (below_drew1 HB.out)
      clear HI0
      clear HK
      clear HB
      have HI0 := n0_
      have HK := n1_
      have HB := n2_
      clear n0_ n1_ n2_
      refine start_ (n := 17) (S := fun w' => w'.cell? ⟨g, 0, none⟩ = some (.int .i64 t354) ∧ w'.cell? ⟨g, 1, none⟩ = some (.int .i64 t355) ∧ w'.cell? ⟨g, 2, none⟩ = some (.int .i64 t356) ∧ w'.cell? ⟨g, 3, none⟩ = some (.int .i64 t357) ∧ w'.cell? ⟨g, 4, none⟩ = some (.bool t358) ∧ w'.cell? ⟨g, 5, none⟩ = some (.int .i64 t359) ∧ w'.cell? ⟨g, 6, none⟩ = some (.int .i64 t360) ∧ w'.cell? ⟨g, 7, none⟩ = some (.bool t361) ∧ w'.cell? ⟨g, 8, none⟩ = some (.int .i64 t362)) (ds := [16]) #[false, false, false, false, false, false, false, false, false, false, false, false, false, false, false, false, false] (by kernel_rfl) rfl rfl ⟨(IsS71.cell_0 HI0.out), (IsS71.cell_1 HI0.out), (IsS71.cell_2 HI0.out), (IsS71.cell_3 HI0.out), (IsS71.cell_4 HI0.out), (IsS71.cell_5 HI0.out), (IsS71.cell_6 HI0.out), (IsS71.cell_7 HI0.out), (IsS71.cell_8 HI0.out)⟩ (fun hHeld => ?_); refine with_tabW flywheelref19_Aimd_Update.tab20 flywheelref19_Aimd_Update.bits20 (fun HT_ HW_ => ?_)
      generalize w30.drew = w31 at HI0 HK HB hHeld ⊢
      refine pure_ (i := 0) (N := some 83) (v := ?_) (a' := ?_) (bl 17 1) rfl rfl (any_of HT_.out (by kernel_rfl)) (fun _ _ _ h => h) (Or.inl ⟨by rfl, ?_⟩) ?_ ?_
      rotate_left
      ·intro w'
       go_simp
       with_reducible rfl
      rotate_left
      ·simp only [puts_]
       rfl
      refine pure_ (i := 1) (N := some 84) (v := ?_) (a' := ?_) (bl 17 3) rfl rfl (any_of HT_.out (by kernel_rfl)) (fun _ _ _ h => h) (Or.inl ⟨by rfl, ?_⟩) ?_ ?_
      rotate_left
      ·intro w'
       go_simp
       with_reducible rfl
      rotate_left
      ·simp only [puts_]
       rfl
      refine pure_ (i := 2) (N := some 85) (v := ?_) (a' := ?_) (bl 17 7) rfl rfl (any_of HT_.out (by kernel_rfl)) (fun _ _ _ h => h) (Or.inl ⟨by rfl, ?_⟩) ?_ ?_
      rotate_left
      ·intro w'
       go_simp
       with_reducible rfl
      rotate_left
      ·simp only [puts_]
       rfl
      refine pure_ (i := 3) (N := some 86) (v := ?_) (a' := ?_) (bl 17 15) rfl rfl (any_of HT_.out (by kernel_rfl)) (fun _ _ _ h => h) (Or.inl ⟨by rfl, ?_⟩) ?_ ?_
      rotate_left
      ·intro w'
       go_simp
       with_reducible rfl
      rotate_left
      ·simp only [puts_]
       rfl
      refine pure_ (i := 5) (N := some 88) (v := ?_) (a' := ?_) (bl 17 47) rfl rfl (any_of HT_.out (by kernel_rfl)) (fun _ _ _ h => h) (Or.inl ⟨by rfl, ?_⟩) ?_ ?_
      rotate_left
      ·intro w'
       go_simp
       with_reducible rfl
      rotate_left
      ·simp only [puts_]
       rfl
      refine pure_ (i := 6) (N := some 89) (v := ?_) (a' := ?_) (bl 17 111) rfl rfl (any_of HT_.out (by kernel_rfl)) (fun _ _ _ h => h) (Or.inl ⟨by rfl, ?_⟩) ?_ ?_
      rotate_left
      ·intro w'
       go_simp
       with_reducible rfl
      rotate_left
      ·simp only [puts_]
       rfl
      refine pure_ (i := 7) (N := some 90) (v := ?_) (a' := ?_) (bl 17 239) rfl rfl (any_of HT_.out (by kernel_rfl)) (fun _ _ _ h => h) (Or.inl ⟨by rfl, ?_⟩) ?_ ?_
      rotate_left
      ·intro w'
       go_simp
       with_reducible rfl
      rotate_left
      ·simp only [puts_]
       rfl
      refine pure_ (i := 9) (N := some 92) (v := ?_) (a' := ?_) (bl 17 751) rfl rfl (any_of HT_.out (by kernel_rfl)) (fun _ _ _ h => h) (Or.inl ⟨by rfl, ?_⟩) ?_ ?_
      rotate_left
      ·intro w'
       go_simp
       with_reducible rfl
      rotate_left
      ·simp only [puts_]
       rfl
      refine pure_ (i := 10) (N := some 93) (v := ?_) (a' := ?_) (bl 17 1775) rfl rfl (any_of HT_.out (by kernel_rfl)) (fun _ _ _ h => h) (Or.inl ⟨by rfl, ?_⟩) ?_ ?_
      rotate_left
      ·intro w'
       go_simp
       with_reducible rfl
      rotate_left
      ·simp only [puts_]
       rfl
      refine pure_ (i := 11) (N := some 94) (v := ?_) (a' := ?_) (bl 17 3823) rfl rfl (any_of HT_.out (by kernel_rfl)) (fun _ _ _ h => h) (Or.inl ⟨by rfl, ?_⟩) ?_ ?_
      rotate_left
      ·intro w'
       go_simp
       with_reducible rfl
      rotate_left
      ·simp only [puts_]
       rfl
      refine take_ (i := 4) (N := some 87) (v := ?_) (a' := ?_) (bl 17 3839) rfl rfl (take_ofW HT_.out HW_.out (by kernel_rfl)) (fun _ _ _ h => h) (Or.inl ⟨by rfl, ?_⟩) hHeld ?_ ?_
      rotate_left
      ·rintro w' ⟨s0, s1, s2, s3, s4, s5, s6, s7, s8⟩
       go_simp
       with_reducible rfl
      rotate_left
      ·simp only [puts_]
       rfl
      refine take_ (i := 8) (N := some 91) (v := ?_) (a' := ?_) (bl 17 4095) rfl rfl (take_ofW HT_.out HW_.out (by kernel_rfl)) (fun _ _ _ h => h) (Or.inl ⟨by rfl, ?_⟩) hHeld ?_ ?_
      rotate_left
      ·rintro w' ⟨s0, s1, s2, s3, s4, s5, s6, s7, s8⟩
       go_simp
       with_reducible rfl
      rotate_left
      ·simp only [puts_]
       rfl
      refine take_ (i := 12) (N := some 95) (v := ?_) (a' := ?_) (bl 17 8191) rfl rfl (take_ofW HT_.out HW_.out (by kernel_rfl)) (fun _ _ _ h => h) (Or.inl ⟨by rfl, ?_⟩) hHeld ?_ ?_
      rotate_left
      ·rintro w' ⟨s0, s1, s2, s3, s4, s5, s6, s7, s8⟩
       go_simp
       with_reducible rfl
      rotate_left
      ·simp only [puts_]
       rfl
      refine one_ (i := 13) (N := some 96) (bl 17 16383) rfl rfl (one_of HT_.out (by kernel_rfl)) (by decide) (fun K hK => ?_)
      refine goes_ Try.func40 (by kernel_rfl) rfl #[.int .i64 t354, .int .i64 t355, .int .i64 t356] (by rfl) rfl rfl (by (try simp only [List.map_toArray, List.map_cons, List.map_nil]); first | done | rfl | (simp only [List.length_drop, List.length_take]; rfl)) ?_
      with_reducible refine (flywheelref01_Clamp.calls t354 t355 t356 t363 _ A28.out).mono ?_
      rintro e w' ⟨rfl, ⟨nd, rfl⟩⟩
      refine ⟨_, rfl, ?_⟩
      refine hK.out _ _ ⟨(IsS71.cell_0 HI0.out), (IsS71.cell_1 HI0.out), (IsS71.cell_2 HI0.out), (IsS71.cell_3 HI0.out), (IsS71.cell_4 HI0.out), (IsS71.cell_5 HI0.out), (IsS71.cell_6 HI0.out), (IsS71.cell_7 HI0.out), (IsS71.cell_8 HI0.out)⟩ (fun hHeld => ?_)
      clear hK K
      refine norm_ (a' := ?_) ?_ ?_
      rotate_left
      ·show Act.put _ (some 96) _ = _
       simp only [puts_]
       rfl
      refine pure_ (i := 14) (N := some 97) (v := ?_) (a' := ?_) (bl 17 32767) rfl rfl (any_of HT_.out (by kernel_rfl)) (fun _ _ _ h => h) (Or.inl ⟨by rfl, ?_⟩) ?_ ?_
      rotate_left
      ·intro w'
       go_simp
       with_reducible rfl
      rotate_left
      ·simp only [puts_]
       rfl
      refine pure_ (i := 15) (N := some 98) (v := ?_) (a' := ?_) (bl 17 65535) rfl rfl (any_of HT_.out (by kernel_rfl)) (fun _ _ _ h => h) (Or.inl ⟨by rfl, ?_⟩) ?_ ?_
      rotate_left
      ·intro w'
       go_simp
       with_reducible rfl
      rotate_left
      ·simp only [puts_]
       rfl
      refine last_ (i := 16) (N := none) (bl 17 131071) rfl rfl (one_of HT_.out (by kernel_rfl)) (by decide) (fun K hK => ?_)
      have hs32 : w31.cell? ⟨g, 0, none⟩ = some (.int .i64 t354) := IsS71.cell_0 HI0.out
      have hfs32 := IsS71.froz_0 HI0.out
      refine skip_ (w1 := ?_) (by rfl) rfl ?_ ?_
      rotate_left
      ·go_simp
       rfl
      refine hK.out _ _ ?_
      clear hK K
      refine done_ (done_of HT_.out (by kernel_rfl)) ?_
      obtain ⟨HGz33, hgz33⟩ := HI0.out
      have hcz33_0 := cellS71_0 HGz33
      have hcz33_1 := cellS71_1 HGz33
      have hcz33_2 := cellS71_2 HGz33
      have hcz33_3 := cellS71_3 HGz33
      have hcz33_4 := cellS71_4 HGz33
      have hcz33_5 := cellS71_5 HGz33
      have hcz33_6 := cellS71_6 HGz33
      have hcz33_7 := cellS71_7 HGz33
      have hcz33_8 := cellS71_8 HGz33
      have hfz33_0 := blk_frozen HGz33 0
      have hfz33_1 := blk_frozen HGz33 1
      have hfz33_2 := blk_frozen HGz33 2
      have hfz33_3 := blk_frozen HGz33 3
      have hfz33_4 := blk_frozen HGz33 4
      have hfz33_5 := blk_frozen HGz33 5
      have hfz33_6 := blk_frozen HGz33 6
      have hfz33_7 := blk_frozen HGz33 7
      have hfz33_8 := blk_frozen HGz33 8
      clear HGz33 hgz33
      try go_wp2
      go_ret
      exact ⟨by first | rfl | (simp [errW_none, errW_some] <;> rfl) | (simp [*, errW_none, errW_some] <;> rfl), by repeat (first | (with_reducible first | exact HI0.out | apply IsS71.alloc | apply IsS71.drewN | apply IsS71.drew | apply IsS71.set_0 | apply IsS71.set_1 | apply IsS71.set_2 | apply IsS71.set_3 | apply IsS71.set_4 | apply IsS71.set_5 | apply IsS71.set_6 | apply IsS71.set_7 | apply IsS71.set_8) | exact HI0.out), by repeat (first | (with_reducible first | exact HB.out | apply below_alloc | apply pw_below_drewN | apply below_drew1 | refine below_set ?_ (IsS71.ge HI0.out)) | exact HB.out), by repeat (first | (with_reducible first | exact HK.out | apply KeepBut.set_ | apply keep_drewN | apply keep_drew | apply keep_alloc) | exact HK.out)⟩
     ·rw [if_neg c26] at H
      have c26b0 : (x1003_13 == 1) = false := beq_eq_false_iff_ne.mpr c26
      have c26b1 : (x1003_13 != 1) = true := bne_iff_ne.mpr c26
      by_cases c34 : x1003_13 = 2
      ·rw [if_pos c34] at H
       have c34b0 : (x1003_13 == 2) = true := beq_iff_eq.mpr c34
       have c34b1 : (x1003_13 != 2) = false := bne_eq_false_iff_eq.mpr c34
       clear c34
       replace H := Option.bind_eq_some_iff.mp H
       obtain ⟨⟨t364, t365, t366, t367, t368, t369, t370, t371, t372⟩, A350, H⟩ := H
       replace H : ((flywheelref01_Clamp.f t364 t365 t366).bind fun t373 => (some (t373, t373, t365, t366, 0, t368, t369, t370, t371, t372))) = some (r1, r2, r3, r4, r5, r6, r7, r8, r9, r10) := H
       have A35 := Aside0.mk A350
       clear A350
       replace H := Option.bind_eq_some_iff.mp H
       obtain ⟨t373, A360, H⟩ := H
       replace H : (some (t373, t373, t365, t366, 0, t368, t369, t370, t371, t372)) = some (r1, r2, r3, r4, r5, r6, r7, r8, r9, r10) := H
       have A36 := Aside0.mk A360
       clear A360
       simp only [Option.some.injEq, Prod.mk.injEq] at H
       obtain ⟨rfl, rfl, rfl, rfl, rfl, rfl, rfl, rfl, rfl, rfl⟩ := H
       obtain ⟨HGz37, hgz37⟩ := HI0.out
       have hcz37_0 := cellS71_0 HGz37
       have hcz37_1 := cellS71_1 HGz37
       have hcz37_2 := cellS71_2 HGz37
       have hcz37_3 := cellS71_3 HGz37
       have hcz37_4 := cellS71_4 HGz37
       have hcz37_5 := cellS71_5 HGz37
       have hcz37_6 := cellS71_6 HGz37
       have hcz37_7 := cellS71_7 HGz37
       have hcz37_8 := cellS71_8 HGz37
       have hfz37_0 := blk_frozen HGz37 0
       have hfz37_1 := blk_frozen HGz37 1
       have hfz37_2 := blk_frozen HGz37 2
       have hfz37_3 := blk_frozen HGz37 3
       have hfz37_4 := blk_frozen HGz37 4
       have hfz37_5 := blk_frozen HGz37 5
       have hfz37_6 := blk_frozen HGz37 6
       have hfz37_7 := blk_frozen HGz37 7
       have hfz37_8 := blk_frozen HGz37 8
       clear HGz37 hgz37
       try go_wp2_with (first | ((with_reducible refine gate_callee (f := 42) rfl ?_); refine goesL_ (some 79) rfl rfl Try.func42 (by kernel_rfl) rfl #[.pointer (some ⟨g, 0, none⟩), .int .i64 t350] rfl (by (try simp only [List.map_toArray, List.map_cons, List.map_nil]); first | done | rfl | (simp only [List.length_drop, List.length_take]; rfl)) ?_; (with_reducible refine (flywheelref19_Aimd_cut.calls kj13 g s0_0 s0_1 s0_2 x1003_13 s0_4 s0_5 s0_6 true t352 t350 t364 t365 t366 t367 t368 t369 t370 t371 t372 w0 _ ?side1 ?side2 A35.out).mono ?_); (case side1 => repeat (first | (with_reducible first | exact HI0.out | apply IsS71.alloc | apply IsS71.drewN | apply IsS71.drew | apply IsS71.set_0 | apply IsS71.set_1 | apply IsS71.set_2 | apply IsS71.set_3 | apply IsS71.set_4 | apply IsS71.set_5 | apply IsS71.set_6 | apply IsS71.set_7 | apply IsS71.set_8) | exact HI0.out)); (case side2 => repeat (first | (with_reducible first | exact HB.out | apply below_alloc | apply pw_below_drewN | apply below_drew1 | refine below_set ?_ (IsS71.ge HI0.out)) | exact HB.out)); rintro e w38 ⟨rfl, hi, hb, hk⟩; refine ⟨_, rfl, ?_⟩; have n0_ := Aside0.mk (KeepBut.trans (by repeat (first | (with_reducible first | exact HK.out | apply KeepBut.set_ | apply keep_drewN | apply keep_drew | apply keep_alloc) | exact HK.out)) hk (.inl rfl)); have n1_ := Aside0.mk (hb); have n2_ := Aside0.mk (hi); clear HK; clear HB; clear HI0; have HK := n0_; have HB := n1_; have HI0 := n2_; clear n0_ n1_ n2_; (try clear hb); (try clear hb2); (try clear hk); (try clear hi); obtain ⟨HGz39, hgz39⟩ := HI0.out; have hcz39_0 := cellS71_0 HGz39; have hcz39_1 := cellS71_1 HGz39; have hcz39_2 := cellS71_2 HGz39; have hcz39_3 := cellS71_3 HGz39; have hcz39_4 := cellS71_4 HGz39; have hcz39_5 := cellS71_5 HGz39; have hcz39_6 := cellS71_6 HGz39; have hcz39_7 := cellS71_7 HGz39; have hcz39_8 := cellS71_8 HGz39; have hfz39_0 := blk_frozen HGz39 0; have hfz39_1 := blk_frozen HGz39 1; have hfz39_2 := blk_frozen HGz39 2; have hfz39_3 := blk_frozen HGz39 3; have hfz39_4 := blk_frozen HGz39 4; have hfz39_5 := blk_frozen HGz39 5; have hfz39_6 := blk_frozen HGz39 6; have hfz39_7 := blk_frozen HGz39 7; have hfz39_8 := blk_frozen HGz39 8; clear HGz39 hgz39))
       have n0_ : Aside0 (IsS71 w0 (w38.setCell ⟨g, 3, none⟩ (.int .i64 0)) g t364 t365 t366 0 t368 t369 t370 t371 t372) := ⟨by repeat (first | (with_reducible first | exact HI0.out | apply IsS71.alloc | apply IsS71.drewN | apply IsS71.drew | apply IsS71.set_0 | apply IsS71.set_1 | apply IsS71.set_2 | apply IsS71.set_3 | apply IsS71.set_4 | apply IsS71.set_5 | apply IsS71.set_6 | apply IsS71.set_7 | apply IsS71.set_8) | exact HI0.out)⟩
       have n1_ : Aside0 (KeepBut w (w38.setCell ⟨g, 3, none⟩ (.int .i64 0)) g none) := ⟨by repeat (first | (with_reducible first | exact HK.out | apply KeepBut.set_ | apply keep_drewN | apply keep_drew | apply keep_alloc) | exact HK.out)⟩
       have n2_ : Aside0 (Below w0.heap.size w0 (w38.setCell ⟨g, 3, none⟩ (.int .i64 0))) := ⟨by repeat (first | (with_reducible first | exact HB.out | apply below_alloc | apply pw_below_drewN | apply below_drew1 | refine below_set ?_ (IsS71.ge HI0.out)) | exact HB.out)⟩
       (try clear HI0)
       (try clear HK)
       (try clear HB)
       generalize (w38.setCell ⟨g, 3, none⟩ (.int .i64 0)) = w40 at n0_ n1_ n2_ ⊢
       have HI0 := n0_
       have HK := n1_
       have HB := n2_
       clear n0_ n1_ n2_
       have n0_ := Aside0.mk (IsS71.drew HI0.out)
       have n1_ := Aside0.mk (keep_drew HK.out)
       have n2_ := Aside0.mk (below_drew1 HB.out)
       clear HI0
       clear HK
       clear HB
       have HI0 := n0_
       have HK := n1_
       have HB := n2_
       clear n0_ n1_ n2_
       refine start_ (n := 17) (S := fun w' => w'.cell? ⟨g, 0, none⟩ = some (.int .i64 t364) ∧ w'.cell? ⟨g, 1, none⟩ = some (.int .i64 t365) ∧ w'.cell? ⟨g, 2, none⟩ = some (.int .i64 t366) ∧ w'.cell? ⟨g, 3, none⟩ = some (.int .i64 0) ∧ w'.cell? ⟨g, 4, none⟩ = some (.bool t368) ∧ w'.cell? ⟨g, 5, none⟩ = some (.int .i64 t369) ∧ w'.cell? ⟨g, 6, none⟩ = some (.int .i64 t370) ∧ w'.cell? ⟨g, 7, none⟩ = some (.bool t371) ∧ w'.cell? ⟨g, 8, none⟩ = some (.int .i64 t372)) (ds := [16]) #[false, false, false, false, false, false, false, false, false, false, false, false, false, false, false, false, false] (by kernel_rfl) rfl rfl ⟨(IsS71.cell_0 HI0.out), (IsS71.cell_1 HI0.out), (IsS71.cell_2 HI0.out), (IsS71.cell_3 HI0.out), (IsS71.cell_4 HI0.out), (IsS71.cell_5 HI0.out), (IsS71.cell_6 HI0.out), (IsS71.cell_7 HI0.out), (IsS71.cell_8 HI0.out)⟩ (fun hHeld => ?_); refine with_tabW flywheelref19_Aimd_Update.tab20 flywheelref19_Aimd_Update.bits20 (fun HT_ HW_ => ?_)
       generalize w40.drew = w41 at HI0 HK HB hHeld ⊢
       refine pure_ (i := 0) (N := some 83) (v := ?_) (a' := ?_) (bl 17 1) rfl rfl (any_of HT_.out (by kernel_rfl)) (fun _ _ _ h => h) (Or.inl ⟨by rfl, ?_⟩) ?_ ?_
       rotate_left
       ·intro w'
        go_simp
        with_reducible rfl
       rotate_left
       ·simp only [puts_]
        rfl
       refine pure_ (i := 1) (N := some 84) (v := ?_) (a' := ?_) (bl 17 3) rfl rfl (any_of HT_.out (by kernel_rfl)) (fun _ _ _ h => h) (Or.inl ⟨by rfl, ?_⟩) ?_ ?_
       rotate_left
       ·intro w'
        go_simp
        with_reducible rfl
       rotate_left
       ·simp only [puts_]
        rfl
       refine pure_ (i := 2) (N := some 85) (v := ?_) (a' := ?_) (bl 17 7) rfl rfl (any_of HT_.out (by kernel_rfl)) (fun _ _ _ h => h) (Or.inl ⟨by rfl, ?_⟩) ?_ ?_
       rotate_left
       ·intro w'
        go_simp
        with_reducible rfl
       rotate_left
       ·simp only [puts_]
        rfl
       refine pure_ (i := 3) (N := some 86) (v := ?_) (a' := ?_) (bl 17 15) rfl rfl (any_of HT_.out (by kernel_rfl)) (fun _ _ _ h => h) (Or.inl ⟨by rfl, ?_⟩) ?_ ?_
       rotate_left
       ·intro w'
        go_simp
        with_reducible rfl
       rotate_left
       ·simp only [puts_]
        rfl
       refine pure_ (i := 5) (N := some 88) (v := ?_) (a' := ?_) (bl 17 47) rfl rfl (any_of HT_.out (by kernel_rfl)) (fun _ _ _ h => h) (Or.inl ⟨by rfl, ?_⟩) ?_ ?_
       rotate_left
       ·intro w'
        go_simp
        with_reducible rfl
       rotate_left
       ·simp only [puts_]
        rfl
       refine pure_ (i := 6) (N := some 89) (v := ?_) (a' := ?_) (bl 17 111) rfl rfl (any_of HT_.out (by kernel_rfl)) (fun _ _ _ h => h) (Or.inl ⟨by rfl, ?_⟩) ?_ ?_
       rotate_left
       ·intro w'
        go_simp
        with_reducible rfl
       rotate_left
       ·simp only [puts_]
        rfl
       refine pure_ (i := 7) (N := some 90) (v := ?_) (a' := ?_) (bl 17 239) rfl rfl (any_of HT_.out (by kernel_rfl)) (fun _ _ _ h => h) (Or.inl ⟨by rfl, ?_⟩) ?_ ?_
       rotate_left
       ·intro w'
        go_simp
        with_reducible rfl
       rotate_left
       ·simp only [puts_]
        rfl
       refine pure_ (i := 9) (N := some 92) (v := ?_) (a' := ?_) (bl 17 751) rfl rfl (any_of HT_.out (by kernel_rfl)) (fun _ _ _ h => h) (Or.inl ⟨by rfl, ?_⟩) ?_ ?_
       rotate_left
       ·intro w'
        go_simp
        with_reducible rfl
       rotate_left
       ·simp only [puts_]
        rfl
       refine pure_ (i := 10) (N := some 93) (v := ?_) (a' := ?_) (bl 17 1775) rfl rfl (any_of HT_.out (by kernel_rfl)) (fun _ _ _ h => h) (Or.inl ⟨by rfl, ?_⟩) ?_ ?_
       rotate_left
       ·intro w'
        go_simp
        with_reducible rfl
       rotate_left
       ·simp only [puts_]
        rfl
       refine pure_ (i := 11) (N := some 94) (v := ?_) (a' := ?_) (bl 17 3823) rfl rfl (any_of HT_.out (by kernel_rfl)) (fun _ _ _ h => h) (Or.inl ⟨by rfl, ?_⟩) ?_ ?_
       rotate_left
       ·intro w'
        go_simp
        with_reducible rfl
       rotate_left
       ·simp only [puts_]
        rfl
       refine take_ (i := 4) (N := some 87) (v := ?_) (a' := ?_) (bl 17 3839) rfl rfl (take_ofW HT_.out HW_.out (by kernel_rfl)) (fun _ _ _ h => h) (Or.inl ⟨by rfl, ?_⟩) hHeld ?_ ?_
       rotate_left
       ·rintro w' ⟨s0, s1, s2, s3, s4, s5, s6, s7, s8⟩
        go_simp
        with_reducible rfl
       rotate_left
       ·simp only [puts_]
        rfl
       refine take_ (i := 8) (N := some 91) (v := ?_) (a' := ?_) (bl 17 4095) rfl rfl (take_ofW HT_.out HW_.out (by kernel_rfl)) (fun _ _ _ h => h) (Or.inl ⟨by rfl, ?_⟩) hHeld ?_ ?_
       rotate_left
       ·rintro w' ⟨s0, s1, s2, s3, s4, s5, s6, s7, s8⟩
        go_simp
        with_reducible rfl
       rotate_left
       ·simp only [puts_]
        rfl
       refine take_ (i := 12) (N := some 95) (v := ?_) (a' := ?_) (bl 17 8191) rfl rfl (take_ofW HT_.out HW_.out (by kernel_rfl)) (fun _ _ _ h => h) (Or.inl ⟨by rfl, ?_⟩) hHeld ?_ ?_
       rotate_left
       ·rintro w' ⟨s0, s1, s2, s3, s4, s5, s6, s7, s8⟩
        go_simp
        with_reducible rfl
       rotate_left
       ·simp only [puts_]
        rfl
       refine one_ (i := 13) (N := some 96) (bl 17 16383) rfl rfl (one_of HT_.out (by kernel_rfl)) (by decide) (fun K hK => ?_)
       refine goes_ Try.func40 (by kernel_rfl) rfl #[.int .i64 t364, .int .i64 t365, .int .i64 t366] (by rfl) rfl rfl (by (try simp only [List.map_toArray, List.map_cons, List.map_nil]); first | done | rfl | (simp only [List.length_drop, List.length_take]; rfl)) ?_
       with_reducible refine (flywheelref01_Clamp.calls t364 t365 t366 t373 _ A36.out).mono ?_
       rintro e w' ⟨rfl, ⟨nd, rfl⟩⟩
       refine ⟨_, rfl, ?_⟩
       refine hK.out _ _ ⟨(IsS71.cell_0 HI0.out), (IsS71.cell_1 HI0.out), (IsS71.cell_2 HI0.out), (IsS71.cell_3 HI0.out), (IsS71.cell_4 HI0.out), (IsS71.cell_5 HI0.out), (IsS71.cell_6 HI0.out), (IsS71.cell_7 HI0.out), (IsS71.cell_8 HI0.out)⟩ (fun hHeld => ?_)
       clear hK K
       refine norm_ (a' := ?_) ?_ ?_
       rotate_left
       ·show Act.put _ (some 96) _ = _
        simp only [puts_]
        rfl
       refine pure_ (i := 14) (N := some 97) (v := ?_) (a' := ?_) (bl 17 32767) rfl rfl (any_of HT_.out (by kernel_rfl)) (fun _ _ _ h => h) (Or.inl ⟨by rfl, ?_⟩) ?_ ?_
       rotate_left
       ·intro w'
        go_simp
        with_reducible rfl
       rotate_left
       ·simp only [puts_]
        rfl
       refine pure_ (i := 15) (N := some 98) (v := ?_) (a' := ?_) (bl 17 65535) rfl rfl (any_of HT_.out (by kernel_rfl)) (fun _ _ _ h => h) (Or.inl ⟨by rfl, ?_⟩) ?_ ?_
       rotate_left
       ·intro w'
        go_simp
        with_reducible rfl
       rotate_left
       ·simp only [puts_]
        rfl
       refine last_ (i := 16) (N := none) (bl 17 131071) rfl rfl (one_of HT_.out (by kernel_rfl)) (by decide) (fun K hK => ?_)
       have hs42 : w41.cell? ⟨g, 0, none⟩ = some (.int .i64 t364) := IsS71.cell_0 HI0.out
       have hfs42 := IsS71.froz_0 HI0.out
       refine skip_ (w1 := ?_) (by rfl) rfl ?_ ?_
       rotate_left
       ·go_simp
        rfl
       refine hK.out _ _ ?_
       clear hK K
       refine done_ (done_of HT_.out (by kernel_rfl)) ?_
       obtain ⟨HGz43, hgz43⟩ := HI0.out
       have hcz43_0 := cellS71_0 HGz43
       have hcz43_1 := cellS71_1 HGz43
       have hcz43_2 := cellS71_2 HGz43
       have hcz43_3 := cellS71_3 HGz43
       have hcz43_4 := cellS71_4 HGz43
       have hcz43_5 := cellS71_5 HGz43
       have hcz43_6 := cellS71_6 HGz43
       have hcz43_7 := cellS71_7 HGz43
       have hcz43_8 := cellS71_8 HGz43
       have hfz43_0 := blk_frozen HGz43 0
       have hfz43_1 := blk_frozen HGz43 1
       have hfz43_2 := blk_frozen HGz43 2
       have hfz43_3 := blk_frozen HGz43 3
       have hfz43_4 := blk_frozen HGz43 4
       have hfz43_5 := blk_frozen HGz43 5
       have hfz43_6 := blk_frozen HGz43 6
       have hfz43_7 := blk_frozen HGz43 7
       have hfz43_8 := blk_frozen HGz43 8
       clear HGz43 hgz43
       try go_wp2
       go_ret
       exact ⟨by first | rfl | (simp [errW_none, errW_some] <;> rfl) | (simp [*, errW_none, errW_some] <;> rfl), by repeat (first | (with_reducible first | exact HI0.out | apply IsS71.alloc | apply IsS71.drewN | apply IsS71.drew | apply IsS71.set_0 | apply IsS71.set_1 | apply IsS71.set_2 | apply IsS71.set_3 | apply IsS71.set_4 | apply IsS71.set_5 | apply IsS71.set_6 | apply IsS71.set_7 | apply IsS71.set_8) | exact HI0.out), by repeat (first | (with_reducible first | exact HB.out | apply below_alloc | apply pw_below_drewN | apply below_drew1 | refine below_set ?_ (IsS71.ge HI0.out)) | exact HB.out), by repeat (first | (with_reducible first | exact HK.out | apply KeepBut.set_ | apply keep_drewN | apply keep_drew | apply keep_alloc) | exact HK.out)⟩
      ·rw [if_neg c34] at H
       have c34b0 : (x1003_13 == 2) = false := beq_eq_false_iff_ne.mpr c34
       have c34b1 : (x1003_13 != 2) = true := bne_iff_ne.mpr c34
       replace H := Option.bind_eq_some_iff.mp H
       obtain ⟨t374, A440, H⟩ := H
       replace H : (some (t374, t374, s0_1, s0_2, x1003_13, s0_4, s0_5, s0_6, true, t352)) = some (r1, r2, r3, r4, r5, r6, r7, r8, r9, r10) := H
       have A44 := Aside0.mk A440
       clear A440
       simp only [Option.some.injEq, Prod.mk.injEq] at H
       obtain ⟨rfl, rfl, rfl, rfl, rfl, rfl, rfl, rfl, rfl, rfl⟩ := H
       obtain ⟨HGz45, hgz45⟩ := HI0.out
       have hcz45_0 := cellS71_0 HGz45
       have hcz45_1 := cellS71_1 HGz45
       have hcz45_2 := cellS71_2 HGz45
       have hcz45_3 := cellS71_3 HGz45
       have hcz45_4 := cellS71_4 HGz45
       have hcz45_5 := cellS71_5 HGz45
       have hcz45_6 := cellS71_6 HGz45
       have hcz45_7 := cellS71_7 HGz45
       have hcz45_8 := cellS71_8 HGz45
       have hfz45_0 := blk_frozen HGz45 0
       have hfz45_1 := blk_frozen HGz45 1
       have hfz45_2 := blk_frozen HGz45 2
       have hfz45_3 := blk_frozen HGz45 3
       have hfz45_4 := blk_frozen HGz45 4
       have hfz45_5 := blk_frozen HGz45 5
       have hfz45_6 := blk_frozen HGz45 6
       have hfz45_7 := blk_frozen HGz45 7
       have hfz45_8 := blk_frozen HGz45 8
       clear HGz45 hgz45
       try go_wp2
       have n0_ := Aside0.mk (IsS71.drew HI0.out)
       have n1_ := Aside0.mk (keep_drew HK.out)
       have n2_ := Aside0.mk (below_drew1 HB.out)
       clear HI0
       clear HK
       clear HB
       have HI0 := n0_
       have HK := n1_
       have HB := n2_
       clear n0_ n1_ n2_
       refine start_ (n := 17) (S := fun w' => w'.cell? ⟨g, 0, none⟩ = some (.int .i64 s0_0) ∧ w'.cell? ⟨g, 1, none⟩ = some (.int .i64 s0_1) ∧ w'.cell? ⟨g, 2, none⟩ = some (.int .i64 s0_2) ∧ w'.cell? ⟨g, 3, none⟩ = some (.int .i64 x1003_13) ∧ w'.cell? ⟨g, 4, none⟩ = some (.bool s0_4) ∧ w'.cell? ⟨g, 5, none⟩ = some (.int .i64 s0_5) ∧ w'.cell? ⟨g, 6, none⟩ = some (.int .i64 s0_6) ∧ w'.cell? ⟨g, 7, none⟩ = some (.bool true) ∧ w'.cell? ⟨g, 8, none⟩ = some (.int .i64 t352)) (ds := [16]) #[false, false, false, false, false, false, false, false, false, false, false, false, false, false, false, false, false] (by kernel_rfl) rfl rfl ⟨(IsS71.cell_0 HI0.out), (IsS71.cell_1 HI0.out), (IsS71.cell_2 HI0.out), (IsS71.cell_3 HI0.out), (IsS71.cell_4 HI0.out), (IsS71.cell_5 HI0.out), (IsS71.cell_6 HI0.out), (IsS71.cell_7 HI0.out), (IsS71.cell_8 HI0.out)⟩ (fun hHeld => ?_); refine with_tabW flywheelref19_Aimd_Update.tab20 flywheelref19_Aimd_Update.bits20 (fun HT_ HW_ => ?_)
       generalize wc.drew = w46 at HI0 HK HB hHeld ⊢
       refine pure_ (i := 0) (N := some 83) (v := ?_) (a' := ?_) (bl 17 1) rfl rfl (any_of HT_.out (by kernel_rfl)) (fun _ _ _ h => h) (Or.inl ⟨by rfl, ?_⟩) ?_ ?_
       rotate_left
       ·intro w'
        go_simp
        with_reducible rfl
       rotate_left
       ·simp only [puts_]
        rfl
       refine pure_ (i := 1) (N := some 84) (v := ?_) (a' := ?_) (bl 17 3) rfl rfl (any_of HT_.out (by kernel_rfl)) (fun _ _ _ h => h) (Or.inl ⟨by rfl, ?_⟩) ?_ ?_
       rotate_left
       ·intro w'
        go_simp
        with_reducible rfl
       rotate_left
       ·simp only [puts_]
        rfl
       refine pure_ (i := 2) (N := some 85) (v := ?_) (a' := ?_) (bl 17 7) rfl rfl (any_of HT_.out (by kernel_rfl)) (fun _ _ _ h => h) (Or.inl ⟨by rfl, ?_⟩) ?_ ?_
       rotate_left
       ·intro w'
        go_simp
        with_reducible rfl
       rotate_left
       ·simp only [puts_]
        rfl
       refine pure_ (i := 3) (N := some 86) (v := ?_) (a' := ?_) (bl 17 15) rfl rfl (any_of HT_.out (by kernel_rfl)) (fun _ _ _ h => h) (Or.inl ⟨by rfl, ?_⟩) ?_ ?_
       rotate_left
       ·intro w'
        go_simp
        with_reducible rfl
       rotate_left
       ·simp only [puts_]
        rfl
       refine pure_ (i := 5) (N := some 88) (v := ?_) (a' := ?_) (bl 17 47) rfl rfl (any_of HT_.out (by kernel_rfl)) (fun _ _ _ h => h) (Or.inl ⟨by rfl, ?_⟩) ?_ ?_
       rotate_left
       ·intro w'
        go_simp
        with_reducible rfl
       rotate_left
       ·simp only [puts_]
        rfl
       refine pure_ (i := 6) (N := some 89) (v := ?_) (a' := ?_) (bl 17 111) rfl rfl (any_of HT_.out (by kernel_rfl)) (fun _ _ _ h => h) (Or.inl ⟨by rfl, ?_⟩) ?_ ?_
       rotate_left
       ·intro w'
        go_simp
        with_reducible rfl
       rotate_left
       ·simp only [puts_]
        rfl
       refine pure_ (i := 7) (N := some 90) (v := ?_) (a' := ?_) (bl 17 239) rfl rfl (any_of HT_.out (by kernel_rfl)) (fun _ _ _ h => h) (Or.inl ⟨by rfl, ?_⟩) ?_ ?_
       rotate_left
       ·intro w'
        go_simp
        with_reducible rfl
       rotate_left
       ·simp only [puts_]
        rfl
       refine pure_ (i := 9) (N := some 92) (v := ?_) (a' := ?_) (bl 17 751) rfl rfl (any_of HT_.out (by kernel_rfl)) (fun _ _ _ h => h) (Or.inl ⟨by rfl, ?_⟩) ?_ ?_
       rotate_left
       ·intro w'
        go_simp
        with_reducible rfl
       rotate_left
       ·simp only [puts_]
        rfl
       refine pure_ (i := 10) (N := some 93) (v := ?_) (a' := ?_) (bl 17 1775) rfl rfl (any_of HT_.out (by kernel_rfl)) (fun _ _ _ h => h) (Or.inl ⟨by rfl, ?_⟩) ?_ ?_
       rotate_left
       ·intro w'
        go_simp
        with_reducible rfl
       rotate_left
       ·simp only [puts_]
        rfl
       refine pure_ (i := 11) (N := some 94) (v := ?_) (a' := ?_) (bl 17 3823) rfl rfl (any_of HT_.out (by kernel_rfl)) (fun _ _ _ h => h) (Or.inl ⟨by rfl, ?_⟩) ?_ ?_
       rotate_left
       ·intro w'
        go_simp
        with_reducible rfl
       rotate_left
       ·simp only [puts_]
        rfl
       refine take_ (i := 4) (N := some 87) (v := ?_) (a' := ?_) (bl 17 3839) rfl rfl (take_ofW HT_.out HW_.out (by kernel_rfl)) (fun _ _ _ h => h) (Or.inl ⟨by rfl, ?_⟩) hHeld ?_ ?_
       rotate_left
       ·rintro w' ⟨s0, s1, s2, s3, s4, s5, s6, s7, s8⟩
        go_simp
        with_reducible rfl
       rotate_left
       ·simp only [puts_]
        rfl
       refine take_ (i := 8) (N := some 91) (v := ?_) (a' := ?_) (bl 17 4095) rfl rfl (take_ofW HT_.out HW_.out (by kernel_rfl)) (fun _ _ _ h => h) (Or.inl ⟨by rfl, ?_⟩) hHeld ?_ ?_
       rotate_left
       ·rintro w' ⟨s0, s1, s2, s3, s4, s5, s6, s7, s8⟩
        go_simp
        with_reducible rfl
       rotate_left
       ·simp only [puts_]
        rfl
       refine take_ (i := 12) (N := some 95) (v := ?_) (a' := ?_) (bl 17 8191) rfl rfl (take_ofW HT_.out HW_.out (by kernel_rfl)) (fun _ _ _ h => h) (Or.inl ⟨by rfl, ?_⟩) hHeld ?_ ?_
       rotate_left
       ·rintro w' ⟨s0, s1, s2, s3, s4, s5, s6, s7, s8⟩
        go_simp
        with_reducible rfl
       rotate_left
       ·simp only [puts_]
        rfl
       refine one_ (i := 13) (N := some 96) (bl 17 16383) rfl rfl (one_of HT_.out (by kernel_rfl)) (by decide) (fun K hK => ?_)
       refine goes_ Try.func40 (by kernel_rfl) rfl #[.int .i64 s0_0, .int .i64 s0_1, .int .i64 s0_2] (by rfl) rfl rfl (by (try simp only [List.map_toArray, List.map_cons, List.map_nil]); first | done | rfl | (simp only [List.length_drop, List.length_take]; rfl)) ?_
       with_reducible refine (flywheelref01_Clamp.calls s0_0 s0_1 s0_2 t374 _ A44.out).mono ?_
       rintro e w' ⟨rfl, ⟨nd, rfl⟩⟩
       refine ⟨_, rfl, ?_⟩
       refine hK.out _ _ ⟨(IsS71.cell_0 HI0.out), (IsS71.cell_1 HI0.out), (IsS71.cell_2 HI0.out), (IsS71.cell_3 HI0.out), (IsS71.cell_4 HI0.out), (IsS71.cell_5 HI0.out), (IsS71.cell_6 HI0.out), (IsS71.cell_7 HI0.out), (IsS71.cell_8 HI0.out)⟩ (fun hHeld => ?_)
       clear hK K
       refine norm_ (a' := ?_) ?_ ?_
       rotate_left
       ·show Act.put _ (some 96) _ = _
        simp only [puts_]
        rfl
       refine pure_ (i := 14) (N := some 97) (v := ?_) (a' := ?_) (bl 17 32767) rfl rfl (any_of HT_.out (by kernel_rfl)) (fun _ _ _ h => h) (Or.inl ⟨by rfl, ?_⟩) ?_ ?_
       rotate_left
       ·intro w'
        go_simp
        with_reducible rfl
       rotate_left
       ·simp only [puts_]
        rfl
       refine pure_ (i := 15) (N := some 98) (v := ?_) (a' := ?_) (bl 17 65535) rfl rfl (any_of HT_.out (by kernel_rfl)) (fun _ _ _ h => h) (Or.inl ⟨by rfl, ?_⟩) ?_ ?_
       rotate_left
       ·intro w'
        go_simp
        with_reducible rfl
       rotate_left
       ·simp only [puts_]
        rfl
       refine last_ (i := 16) (N := none) (bl 17 131071) rfl rfl (one_of HT_.out (by kernel_rfl)) (by decide) (fun K hK => ?_)
       have hs47 : w46.cell? ⟨g, 0, none⟩ = some (.int .i64 s0_0) := IsS71.cell_0 HI0.out
       have hfs47 := IsS71.froz_0 HI0.out
       refine skip_ (w1 := ?_) (by rfl) rfl ?_ ?_
       rotate_left
       ·go_simp
        rfl
       refine hK.out _ _ ?_
       clear hK K
       refine done_ (done_of HT_.out (by kernel_rfl)) ?_
       obtain ⟨HGz48, hgz48⟩ := HI0.out
       have hcz48_0 := cellS71_0 HGz48
       have hcz48_1 := cellS71_1 HGz48
       have hcz48_2 := cellS71_2 HGz48
       have hcz48_3 := cellS71_3 HGz48
       have hcz48_4 := cellS71_4 HGz48
       have hcz48_5 := cellS71_5 HGz48
       have hcz48_6 := cellS71_6 HGz48
       have hcz48_7 := cellS71_7 HGz48
       have hcz48_8 := cellS71_8 HGz48
       have hfz48_0 := blk_frozen HGz48 0
       have hfz48_1 := blk_frozen HGz48 1
       have hfz48_2 := blk_frozen HGz48 2
       have hfz48_3 := blk_frozen HGz48 3
       have hfz48_4 := blk_frozen HGz48 4
       have hfz48_5 := blk_frozen HGz48 5
       have hfz48_6 := blk_frozen HGz48 6
       have hfz48_7 := blk_frozen HGz48 7
       have hfz48_8 := blk_frozen HGz48 8
       clear HGz48 hgz48
       try go_wp2
       go_ret
       exact ⟨by first | rfl | (simp [errW_none, errW_some] <;> rfl) | (simp [*, errW_none, errW_some] <;> rfl), by repeat (first | (with_reducible first | exact HI0.out | apply IsS71.alloc | apply IsS71.drewN | apply IsS71.drew | apply IsS71.set_0 | apply IsS71.set_1 | apply IsS71.set_2 | apply IsS71.set_3 | apply IsS71.set_4 | apply IsS71.set_5 | apply IsS71.set_6 | apply IsS71.set_7 | apply IsS71.set_8) | exact HI0.out), by repeat (first | (with_reducible first | exact HB.out | apply below_alloc | apply pw_below_drewN | apply below_drew1 | refine below_set ?_ (IsS71.ge HI0.out)) | exact HB.out), by repeat (first | (with_reducible first | exact HK.out | apply KeepBut.set_ | apply keep_drewN | apply keep_drew | apply keep_alloc) | exact HK.out)⟩
end Go.Proofs.Ytaelmmbodigheaa.P
end

section
namespace Go.Proofs.Ytaelmmbodigheaa.P
open Go.RowKit Go.Proofs.YtaelmmbodigheaaW.PrintWords Go.Proofs.YtaelmmbodigheaaW.PrintLast Go.Proofs.YtaelmmbodigheaaW.PrintMore
attribute [local go_sem] max2_int min2_int max_two min_two max_three min_three max_four min_four   -- for this text's walks alone
set_option linter.unusedVariables false
set_option linter.unusedSimpArgs false
def flywheelref19_Aimd_Rate.f (s0_0 : Int) (s0_1 : Int) (s0_2 : Int) (s0_3 : Int) (s0_4 : Bool) (s0_5 : Int) (s0_6 : Int) (s0_7 : Bool) (s0_8 : Int) : Option (Int × Int × Int × Int × Int × Bool × Int × Int × Bool × Int) := some (s0_0, s0_0, s0_1, s0_2, s0_3, s0_4, s0_5, s0_6, s0_7, s0_8)
set_option maxHeartbeats 8000000 in
set_option maxRecDepth 100000 in
theorem flywheelref19_Aimd_Rate.calls (g : Nat) (s0_0 : Int) (s0_1 : Int) (s0_2 : Int) (s0_3 : Int) (s0_4 : Bool) (s0_5 : Int) (s0_6 : Int) (s0_7 : Bool) (s0_8 : Int) (r1 : Int) (r2 : Int) (r3 : Int) (r4 : Int) (r5 : Int) (r6 : Bool) (r7 : Int) (r8 : Int) (r9 : Bool) (r10 : Int) (w0 w : World) (hI : IsS71 w0 w g s0_0 s0_1 s0_2 s0_3 s0_4 s0_5 s0_6 s0_7 s0_8) (hB : Below w0.heap.size w0 w) (h : flywheelref19_Aimd_Rate.f s0_0 s0_1 s0_2 s0_3 s0_4 s0_5 s0_6 s0_7 s0_8 = some (r1, r2, r3, r4, r5, r6, r7, r8, r9, r10)) :
  Calls Try.prog 22 #[.pointer (some ⟨g, 0, none⟩)] w fun e w' => e = .returned (.int .i64 r1) ∧ IsS71 w0 w' g r2 r3 r4 r5 r6 r7 r8 r9 r10 ∧ Below w0.heap.size w0 w' ∧ KeepBut w w' g none := by
 have HI0 := Aside0.mk hI
 have HK := Aside0.mk (KeepBut.refl w g none)
 have HL := Aside0.mk hB.size
 clear hI
 have HW0 := Aside0.mk hB.size
 have HB := Aside0.mk hB
 clear hB
 have H : (some (s0_0, s0_0, s0_1, s0_2, s0_3, s0_4, s0_5, s0_6, s0_7, s0_8)) = some (r1, r2, r3, r4, r5, r6, r7, r8, r9, r10) := h
 clear h
 simp only [Option.some.injEq, Prod.mk.injEq] at H
 obtain ⟨rfl, rfl, rfl, rfl, rfl, rfl, rfl, rfl, rfl, rfl⟩ := H
 obtain ⟨HGz2, hgz2⟩ := HI0.out
 have hcz2_0 := cellS71_0 HGz2
 have hcz2_1 := cellS71_1 HGz2
 have hcz2_2 := cellS71_2 HGz2
 have hcz2_3 := cellS71_3 HGz2
 have hcz2_4 := cellS71_4 HGz2
 have hcz2_5 := cellS71_5 HGz2
 have hcz2_6 := cellS71_6 HGz2
 have hcz2_7 := cellS71_7 HGz2
 have hcz2_8 := cellS71_8 HGz2
 have hfz2_0 := blk_frozen HGz2 0
 have hfz2_1 := blk_frozen HGz2 1
 have hfz2_2 := blk_frozen HGz2 2
 have hfz2_3 := blk_frozen HGz2 3
 have hfz2_4 := blk_frozen HGz2 4
 have hfz2_5 := blk_frozen HGz2 5
 have hfz2_6 := blk_frozen HGz2 6
 have hfz2_7 := blk_frozen HGz2 7
 have hfz2_8 := blk_frozen HGz2 8
 clear HGz2 hgz2
 go_enter Try.func22, Try.ntmps22
 go_wp2
 go_ret
 exact ⟨by first | rfl | (simp [errW_none, errW_some] <;> rfl) | (simp [*, errW_none, errW_some] <;> rfl), by repeat (first | (with_reducible first | exact HI0.out | apply IsS71.alloc | apply IsS71.drewN | apply IsS71.drew | apply IsS71.set_0 | apply IsS71.set_1 | apply IsS71.set_2 | apply IsS71.set_3 | apply IsS71.set_4 | apply IsS71.set_5 | apply IsS71.set_6 | apply IsS71.set_7 | apply IsS71.set_8) | exact HI0.out), by repeat (first | (with_reducible first | exact HB.out | apply below_alloc | apply pw_below_drewN | apply below_drew1 | refine below_set ?_ (IsS71.ge HI0.out)) | exact HB.out), by repeat (first | (with_reducible first | exact HK.out | apply KeepBut.set_ | apply keep_drewN | apply keep_drew | apply keep_alloc) | exact HK.out)⟩
def aimd_Aimd_State.f (s0_0 : Int) (s0_1 : Int) (s0_2 : Int) (s0_3 : Int) (s0_4 : Bool) (s0_5 : Int) (s0_6 : Int) (s0_7 : Bool) (s0_8 : Int) : Option (Int × Int × Int × Int × Int × Bool × Int × Int × Bool × Int) := some (s0_3, s0_0, s0_1, s0_2, s0_3, s0_4, s0_5, s0_6, s0_7, s0_8)
set_option maxHeartbeats 8000000 in
set_option maxRecDepth 100000 in
theorem aimd_Aimd_State.calls (g : Nat) (s0_0 : Int) (s0_1 : Int) (s0_2 : Int) (s0_3 : Int) (s0_4 : Bool) (s0_5 : Int) (s0_6 : Int) (s0_7 : Bool) (s0_8 : Int) (r1 : Int) (r2 : Int) (r3 : Int) (r4 : Int) (r5 : Int) (r6 : Bool) (r7 : Int) (r8 : Int) (r9 : Bool) (r10 : Int) (w0 w : World) (hI : IsS63 w0 w g s0_0 s0_1 s0_2 s0_3 s0_4 s0_5 s0_6 s0_7 s0_8) (hB : Below w0.heap.size w0 w) (h : aimd_Aimd_State.f s0_0 s0_1 s0_2 s0_3 s0_4 s0_5 s0_6 s0_7 s0_8 = some (r1, r2, r3, r4, r5, r6, r7, r8, r9, r10)) :
  Calls Try.prog 23 #[.pointer (some ⟨g, 0, none⟩)] w fun e w' => e = .returned (.int .i64 r1) ∧ IsS63 w0 w' g r2 r3 r4 r5 r6 r7 r8 r9 r10 ∧ Below w0.heap.size w0 w' ∧ KeepBut w w' g none := by
 have hpn25_eql : ∀ (a_ : Addr) (W_ : World), (Go.binOp .eql 25 (.pointer (some a_)) (.pointer none)).run Try.prog W_ = .ok (.bool false) W_ := fun _ _ => by kernel_rfl
 have hnn25_eql : ∀ (W_ : World), (Go.binOp .eql 25 (.pointer none) (.pointer none)).run Try.prog W_ = .ok (.bool true) W_ := fun _ => by kernel_rfl
 have HI0 := Aside0.mk hI
 have HK := Aside0.mk (KeepBut.refl w g none)
 have HL := Aside0.mk hB.size
 clear hI
 have HW0 := Aside0.mk hB.size
 have HB := Aside0.mk hB
 clear hB
 have H : (some (s0_3, s0_0, s0_1, s0_2, s0_3, s0_4, s0_5, s0_6, s0_7, s0_8)) = some (r1, r2, r3, r4, r5, r6, r7, r8, r9, r10) := h
 clear h
 simp only [Option.some.injEq, Prod.mk.injEq] at H
 obtain ⟨rfl, rfl, rfl, rfl, rfl, rfl, rfl, rfl, rfl, rfl⟩ := H
 obtain ⟨HGz2, hgz2⟩ := HI0.out
 have hcz2_0 := cellS63_0 HGz2
 have hcz2_1 := cellS63_1 HGz2
 have hcz2_2 := cellS63_2 HGz2
 have hcz2_3 := cellS63_3 HGz2
 have hcz2_4 := cellS63_4 HGz2
 have hcz2_5 := cellS63_5 HGz2
 have hcz2_6 := cellS63_6 HGz2
 have hcz2_7 := cellS63_7 HGz2
 have hcz2_8 := cellS63_8 HGz2
 have hfz2_0 := blk_frozen HGz2 0
 have hfz2_1 := blk_frozen HGz2 1
 have hfz2_2 := blk_frozen HGz2 2
 have hfz2_3 := blk_frozen HGz2 3
 have hfz2_4 := blk_frozen HGz2 4
 have hfz2_5 := blk_frozen HGz2 5
 have hfz2_6 := blk_frozen HGz2 6
 have hfz2_7 := blk_frozen HGz2 7
 have hfz2_8 := blk_frozen HGz2 8
 clear HGz2 hgz2
 go_enter Try.func23, Try.ntmps23
 go_wp2
 go_ret
 exact ⟨by first | rfl | (simp [errW_none, errW_some] <;> rfl) | (simp [*, errW_none, errW_some] <;> rfl), by repeat (first | (with_reducible first | exact HI0.out | apply IsS63.alloc | apply IsS63.drewN | apply IsS63.drew | apply IsS63.set_0 | apply IsS63.set_1 | apply IsS63.set_2 | apply IsS63.set_3 | apply IsS63.set_4 | apply IsS63.set_5 | apply IsS63.set_6 | apply IsS63.set_7 | apply IsS63.set_8) | exact HI0.out), by repeat (first | (with_reducible first | exact HB.out | apply below_alloc | apply pw_below_drewN | apply below_drew1 | refine below_set ?_ (IsS63.ge HI0.out)) | exact HB.out), by repeat (first | (with_reducible first | exact HK.out | apply KeepBut.set_ | apply keep_drewN | apply keep_drew | apply keep_alloc) | exact HK.out)⟩
def flywheelref19_Aimd_State.f (s0_0 : Int) (s0_1 : Int) (s0_2 : Int) (s0_3 : Int) (s0_4 : Bool) (s0_5 : Int) (s0_6 : Int) (s0_7 : Bool) (s0_8 : Int) : Option (Int × Int × Int × Int × Int × Bool × Int × Int × Bool × Int) := some (s0_3, s0_0, s0_1, s0_2, s0_3, s0_4, s0_5, s0_6, s0_7, s0_8)
set_option maxHeartbeats 8000000 in
set_option maxRecDepth 100000 in
theorem flywheelref19_Aimd_State.calls (g : Nat) (s0_0 : Int) (s0_1 : Int) (s0_2 : Int) (s0_3 : Int) (s0_4 : Bool) (s0_5 : Int) (s0_6 : Int) (s0_7 : Bool) (s0_8 : Int) (r1 : Int) (r2 : Int) (r3 : Int) (r4 : Int) (r5 : Int) (r6 : Bool) (r7 : Int) (r8 : Int) (r9 : Bool) (r10 : Int) (w0 w : World) (hI : IsS71 w0 w g s0_0 s0_1 s0_2 s0_3 s0_4 s0_5 s0_6 s0_7 s0_8) (hB : Below w0.heap.size w0 w) (h : flywheelref19_Aimd_State.f s0_0 s0_1 s0_2 s0_3 s0_4 s0_5 s0_6 s0_7 s0_8 = some (r1, r2, r3, r4, r5, r6, r7, r8, r9, r10)) :
  Calls Try.prog 24 #[.pointer (some ⟨g, 0, none⟩)] w fun e w' => e = .returned (.int .i64 r1) ∧ IsS71 w0 w' g r2 r3 r4 r5 r6 r7 r8 r9 r10 ∧ Below w0.heap.size w0 w' ∧ KeepBut w w' g none := by
 have HI0 := Aside0.mk hI
 have HK := Aside0.mk (KeepBut.refl w g none)
 have HL := Aside0.mk hB.size
 clear hI
 have HW0 := Aside0.mk hB.size
 have HB := Aside0.mk hB
 clear hB
 have H : (some (s0_3, s0_0, s0_1, s0_2, s0_3, s0_4, s0_5, s0_6, s0_7, s0_8)) = some (r1, r2, r3, r4, r5, r6, r7, r8, r9, r10) := h
 clear h
 simp only [Option.some.injEq, Prod.mk.injEq] at H
 obtain ⟨rfl, rfl, rfl, rfl, rfl, rfl, rfl, rfl, rfl, rfl⟩ := H
 obtain ⟨HGz2, hgz2⟩ := HI0.out
 have hcz2_0 := cellS71_0 HGz2
 have hcz2_1 := cellS71_1 HGz2
 have hcz2_2 := cellS71_2 HGz2
 have hcz2_3 := cellS71_3 HGz2
 have hcz2_4 := cellS71_4 HGz2
 have hcz2_5 := cellS71_5 HGz2
 have hcz2_6 := cellS71_6 HGz2
 have hcz2_7 := cellS71_7 HGz2
 have hcz2_8 := cellS71_8 HGz2
 have hfz2_0 := blk_frozen HGz2 0
 have hfz2_1 := blk_frozen HGz2 1
 have hfz2_2 := blk_frozen HGz2 2
 have hfz2_3 := blk_frozen HGz2 3
 have hfz2_4 := blk_frozen HGz2 4
 have hfz2_5 := blk_frozen HGz2 5
 have hfz2_6 := blk_frozen HGz2 6
 have hfz2_7 := blk_frozen HGz2 7
 have hfz2_8 := blk_frozen HGz2 8
 clear HGz2 hgz2
 go_enter Try.func24, Try.ntmps24
 go_wp2
 go_ret
 exact ⟨by first | rfl | (simp [errW_none, errW_some] <;> rfl) | (simp [*, errW_none, errW_some] <;> rfl), by repeat (first | (with_reducible first | exact HI0.out | apply IsS71.alloc | apply IsS71.drewN | apply IsS71.drew | apply IsS71.set_0 | apply IsS71.set_1 | apply IsS71.set_2 | apply IsS71.set_3 | apply IsS71.set_4 | apply IsS71.set_5 | apply IsS71.set_6 | apply IsS71.set_7 | apply IsS71.set_8) | exact HI0.out), by repeat (first | (with_reducible first | exact HB.out | apply below_alloc | apply pw_below_drewN | apply below_drew1 | refine below_set ?_ (IsS71.ge HI0.out)) | exact HB.out), by repeat (first | (with_reducible first | exact HK.out | apply KeepBut.set_ | apply keep_drewN | apply keep_drew | apply keep_alloc) | exact HK.out)⟩
end Go.Proofs.Ytaelmmbodigheaa.P
end

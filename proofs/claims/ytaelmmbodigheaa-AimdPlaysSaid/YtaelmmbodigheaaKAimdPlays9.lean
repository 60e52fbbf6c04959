-- PUT TOGETHER by a program of this session: of the claim's texts, what is used
import Derived.Test.YtaelmmbodigheaaKAimdPlays2
import Derived.Test.YtaelmmbodigheaaKAimdPlays8
section
namespace Go.Proofs.Ytaelmmbodigheaa.P
open Go.RowKit Go.Proofs.YtaelmmbodigheaaW.PrintWords Go.Proofs.YtaelmmbodigheaaW.PrintLast Go.Proofs.YtaelmmbodigheaaW.PrintMore
attribute [local go_sem] max2_int min2_int max_two min_two max_three min_three max_four min_four   -- for this text's walks alone
set_option linter.unusedVariables false
set_option linter.unusedSimpArgs false
mutual
def aimd_Aimd_lift.j0 : Nat → Bool → Int → Int → Int → Int → Bool → Int → Int → Bool → Int → Int → Int → Int → Option (Int × Int × Int × Int × Bool × Int × Int × Bool × Int)
 | 0, _, _, _, _, _, _, _, _, _, _, _, _, _ => none
 | k + 1, x25, x1000, x1001, x1002, x1003, x1004, x1005, x1006, x1007, x1008, x121000, x121001, x121002 => if x25 = true then (aimd_Aimd_lift.j1 k x1000 x1001 x1002 x1003 false x1005 x1006 x1007 x1008 x121000 x121001 x121002) else (aimd_Aimd_lift.j1 k x1000 x1001 x1002 x1003 x1004 x1005 x1006 x1007 x1008 x121000 x121001 x121002)
def aimd_Aimd_lift.j1 : Nat → Int → Int → Int → Int → Bool → Int → Int → Bool → Int → Int → Int → Int → Option (Int × Int × Int × Int × Bool × Int × Int × Bool × Int)
 | 0, _, _, _, _, _, _, _, _, _, _, _, _ => none
 | k + 1, x1000, x1001, x1002, x1003, x1004, x1005, x1006, x1007, x1008, x121000, x121001, x121002 => (muldiv_Do.f x1000 (wrap64 (8 * x121002)) 100000000 3).bind fun t121 => (if x1004 = true then ((muldiv_Do.f 9600 x121002 (wrap64 (x121001 + 100000)) 3).bind fun t122 => (if x121000 > 0 then (if (wrap64 ((wrap64 (Int.tdiv (wrap64 (3 * x121000)) 2)) + 10000)) < (wrap64 (x1000 + (mx t122 1000))) then (some (mx (wrap64 ((wrap64 (Int.tdiv (wrap64 (3 * x121000)) 2)) + 10000)) x1000, x1001, x1002, x1003, x1004, x1005, x1006, x1007, x1008)) else (some (wrap64 (x1000 + (mx t122 1000)), x1001, x1002, x1003, x1004, x1005, x1006, x1007, x1008))) else (some (wrap64 (x1000 + (mx t122 1000)), x1001, x1002, x1003, x1004, x1005, x1006, x1007, x1008)))) else (if x121000 > 0 then (if (wrap64 ((wrap64 (Int.tdiv (wrap64 (3 * x121000)) 2)) + 10000)) < (wrap64 (x1000 + (mx t121 1000))) then (some (mx (wrap64 ((wrap64 (Int.tdiv (wrap64 (3 * x121000)) 2)) + 10000)) x1000, x1001, x1002, x1003, x1004, x1005, x1006, x1007, x1008)) else (some (wrap64 (x1000 + (mx t121 1000)), x1001, x1002, x1003, x1004, x1005, x1006, x1007, x1008))) else (some (wrap64 (x1000 + (mx t121 1000)), x1001, x1002, x1003, x1004, x1005, x1006, x1007, x1008))))
end
def aimd_Aimd_lift.f (k : Nat) (s0_0 : Int) (s0_1 : Int) (s0_2 : Int) (s0_3 : Int) (s0_4 : Bool) (s0_5 : Int) (s0_6 : Int) (s0_7 : Bool) (s0_8 : Int) (a1_0 : Int) (a1_1 : Int) (a1_2 : Int) : Option (Int × Int × Int × Int × Bool × Int × Int × Bool × Int) := if s0_4 = true then (aimd_Aimd_lift.j0 k (decide (a1_0 > (wrap64 (s0_5 + (wrap64 (3 * s0_6)))))) s0_0 s0_1 s0_2 s0_3 s0_4 s0_5 s0_6 s0_7 s0_8 a1_0 a1_1 a1_2) else (aimd_Aimd_lift.j0 k false s0_0 s0_1 s0_2 s0_3 s0_4 s0_5 s0_6 s0_7 s0_8 a1_0 a1_1 a1_2)
theorem aimd_Aimd_lift.mono_l : ∀ k, (∀ y0 y1 y2 y3 y4 y5 y6 y7 y8 y9 y10 y11 y12, LeO (aimd_Aimd_lift.j0 k y0 y1 y2 y3 y4 y5 y6 y7 y8 y9 y10 y11 y12) (aimd_Aimd_lift.j0 (k + 1) y0 y1 y2 y3 y4 y5 y6 y7 y8 y9 y10 y11 y12)) ∧ (∀ y0 y1 y2 y3 y4 y5 y6 y7 y8 y9 y10 y11, LeO (aimd_Aimd_lift.j1 k y0 y1 y2 y3 y4 y5 y6 y7 y8 y9 y10 y11) (aimd_Aimd_lift.j1 (k + 1) y0 y1 y2 y3 y4 y5 y6 y7 y8 y9 y10 y11))
 | 0 => ⟨fun _ _ _ _ _ _ _ _ _ _ _ _ _ r h => by simp [aimd_Aimd_lift.j0] at h, fun _ _ _ _ _ _ _ _ _ _ _ _ r h => by simp [aimd_Aimd_lift.j1] at h⟩
 | k + 1 => by
  obtain ⟨ih0, ih1⟩ := aimd_Aimd_lift.mono_l k
  refine ⟨?_, ?_⟩
  ·intro y0 y1 y2 y3 y4 y5 y6 y7 y8 y9 y10 y11 y12
   unfold aimd_Aimd_lift.j0
   repeat' first
   | (with_reducible exact ih0 _ _ _ _ _ _ _ _ _ _ _ _ _)
   | (with_reducible exact ih1 _ _ _ _ _ _ _ _ _ _ _ _)
   | (with_reducible exact LeO.refl _)
   | (with_reducible exact LeO.none _)
   | (with_reducible refine LeO.ite ?_ ?_)
   | (with_reducible refine LeO.bind ?_ (fun _ => ?_))
   | exact ih0 _ _ _ _ _ _ _ _ _ _ _ _ _
   | exact ih1 _ _ _ _ _ _ _ _ _ _ _ _
   | exact LeO.none _
   | refine LeO.ite ?_ ?_
   | refine LeO.bind ?_ (fun _ => ?_)
  ·intro y0 y1 y2 y3 y4 y5 y6 y7 y8 y9 y10 y11
   unfold aimd_Aimd_lift.j1
   repeat' first
   | (with_reducible exact ih0 _ _ _ _ _ _ _ _ _ _ _ _ _)
   | (with_reducible exact ih1 _ _ _ _ _ _ _ _ _ _ _ _)
   | (with_reducible exact LeO.refl _)
   | (with_reducible exact LeO.none _)
   | (with_reducible refine LeO.ite ?_ ?_)
   | (with_reducible refine LeO.bind ?_ (fun _ => ?_))
   | exact ih0 _ _ _ _ _ _ _ _ _ _ _ _ _
   | exact ih1 _ _ _ _ _ _ _ _ _ _ _ _
   | exact LeO.none _
   | refine LeO.ite ?_ ?_
   | refine LeO.bind ?_ (fun _ => ?_)
theorem aimd_Aimd_lift.mono : ∀ a0 a1 a2 a3 a4 a5 a6 a7 a8 a9 a10 a11 k, LeO (aimd_Aimd_lift.f k a0 a1 a2 a3 a4 a5 a6 a7 a8 a9 a10 a11) (aimd_Aimd_lift.f (k + 1) a0 a1 a2 a3 a4 a5 a6 a7 a8 a9 a10 a11) := by
 intro a0 a1 a2 a3 a4 a5 a6 a7 a8 a9 a10 a11 k
 obtain ⟨ih0, ih1⟩ := aimd_Aimd_lift.mono_l k
 unfold aimd_Aimd_lift.f
 repeat' first
   | (with_reducible exact ih0 _ _ _ _ _ _ _ _ _ _ _ _ _)
   | (with_reducible exact ih1 _ _ _ _ _ _ _ _ _ _ _ _)
   | (with_reducible exact LeO.refl _)
   | (with_reducible exact LeO.none _)
   | (with_reducible refine LeO.ite ?_ ?_)
   | (with_reducible refine LeO.bind ?_ (fun _ => ?_))
   | exact ih0 _ _ _ _ _ _ _ _ _ _ _ _ _
   | exact ih1 _ _ _ _ _ _ _ _ _ _ _ _
   | exact LeO.none _
   | refine LeO.ite ?_ ?_
   | refine LeO.bind ?_ (fun _ => ?_)
def aimd_Aimd_lift.T1 : Bool × List (List Nat × List Nat) := (true, [([], []), ([0], [0]), ([1], [1]), ([2], [2]), ([3], [3]), ([4], [4]), ([5, 4], [4, 5]), ([4], [4]), ([7, 4], [4, 7]), ([8, 4], [4, 8]), ([9, 4], [4, 9]), ([4], [4]), ([11, 4], [4, 11]), ([12, 4], [4, 12]), ([13, 4], [4, 13]), ([14, 4], [4, 14]), ([10, 15, 4], [4, 10, 15]), ([6, 16, 4], [4, 6, 16]), ([4, 17], [4, 17])])
def aimd_Aimd_lift.B1 : List Nat := [0, 1, 3, 7, 15, 31, 63, 31, 159, 415, 927, 31, 2079, 6175, 14367, 30751, 65439, 131071, 262143]
theorem aimd_Aimd_lift.tab1 : rtab .any (opsOf Try.f38 1) = aimd_Aimd_lift.T1 := by kernel_rfl
theorem aimd_Aimd_lift.bits1 : waitsOk aimd_Aimd_lift.T1.2 aimd_Aimd_lift.B1 = true := by kernel_rfl
def aimd_Aimd_lift.T3 : Bool × List (List Nat × List Nat) := (true, [([], []), ([0], [0]), ([1], [1]), ([2], [2]), ([], []), ([4], [4]), ([5], [5]), ([3, 6], [3, 6]), ([7, 7, 0, 1, 2, 3, 4, 5, 6, 7], [7])])
def aimd_Aimd_lift.B3 : List Nat := [0, 1, 3, 7, 0, 16, 48, 127, 255]
theorem aimd_Aimd_lift.tab3 : rtab .any (opsOf Try.f38 3) = aimd_Aimd_lift.T3 := by kernel_rfl
theorem aimd_Aimd_lift.bits3 : waitsOk aimd_Aimd_lift.T3.2 aimd_Aimd_lift.B3 = true := by kernel_rfl
set_option maxHeartbeats 8000000 in
set_option maxRecDepth 100000 in
theorem aimd_Aimd_lift.calls (k : Nat) (g : Nat) (s0_0 : Int) (s0_1 : Int) (s0_2 : Int) (s0_3 : Int) (s0_4 : Bool) (s0_5 : Int) (s0_6 : Int) (s0_7 : Bool) (s0_8 : Int) (a1_0 : Int) (a1_1 : Int) (a1_2 : Int) (r1 : Int) (r2 : Int) (r3 : Int) (r4 : Int) (r5 : Bool) (r6 : Int) (r7 : Int) (r8 : Bool) (r9 : Int) (w0 w : World) (hI : IsS63 w0 w g s0_0 s0_1 s0_2 s0_3 s0_4 s0_5 s0_6 s0_7 s0_8) (hB : Below w0.heap.size w0 w) (h : aimd_Aimd_lift.f k s0_0 s0_1 s0_2 s0_3 s0_4 s0_5 s0_6 s0_7 s0_8 a1_0 a1_1 a1_2 = some (r1, r2, r3, r4, r5, r6, r7, r8, r9)) :
  Calls Try.prog 38 #[.pointer (some ⟨g, 0, none⟩), .agg #[.int .i64 a1_0, .int .i64 a1_1, .int .i64 a1_2]] w fun e w' => e = .returned (.tuple #[]) ∧ IsS63 w0 w' g r1 r2 r3 r4 r5 r6 r7 r8 r9 ∧ Below w0.heap.size w0 w' ∧ KeepBut w w' g none := by
 have hu66 := Try.underlying66
 have HI0 := Aside0.mk hI
 have HK := Aside0.mk (KeepBut.refl w g none)
 have HL := Aside0.mk hB.size
 clear hI
 have HW0 := Aside0.mk hB.size
 have HB := Aside0.mk hB
 clear hB
 have H : (if s0_4 = true then (aimd_Aimd_lift.j0 k (decide (a1_0 > (wrap64 (s0_5 + (wrap64 (3 * s0_6)))))) s0_0 s0_1 s0_2 s0_3 s0_4 s0_5 s0_6 s0_7 s0_8 a1_0 a1_1 a1_2) else (aimd_Aimd_lift.j0 k false s0_0 s0_1 s0_2 s0_3 s0_4 s0_5 s0_6 s0_7 s0_8 a1_0 a1_1 a1_2)) = some (r1, r2, r3, r4, r5, r6, r7, r8, r9) := h
 clear h
 have HC3 := Aside0.mk H
 clear H
 go_enter Try.func38, Try.ntmps38
 go_upto_region 1 with (first | ((with_reducible refine gate_dst (N := 3) rfl ?_); refine box_event ?hg (N := 3) ?hd (cs := #[.int .i64 a1_0, .int .i64 a1_1, .int .i64 a1_2]) (t := 66) ?hr ?_; (case hd => rfl); (case hg => rfl); (case hr => first | (go_simp; done) | (go_simp; rfl)); intro gb120 hg w4 hbox hb; have n0_ := Aside0.mk (IsS63.below (by repeat (first | (with_reducible first | exact HI0.out | apply IsS63.alloc | apply IsS63.drewN | apply IsS63.drew | apply IsS63.set_0 | apply IsS63.set_1 | apply IsS63.set_2 | apply IsS63.set_3 | apply IsS63.set_4 | apply IsS63.set_5 | apply IsS63.set_6 | apply IsS63.set_7 | apply IsS63.set_8) | exact HI0.out)) hb); have n1_ := Aside0.mk (KeepBut.trans (by repeat (first | (with_reducible first | exact HK.out | apply KeepBut.set_ | apply keep_drewN | apply keep_drew | apply keep_alloc) | exact HK.out)) (KeepBut.of_below hb g none) (.inl rfl)); have n2_ := Aside0.mk (below_step (by repeat (first | (with_reducible first | exact HB.out | apply below_alloc | apply pw_below_drewN | apply below_drew1 | refine below_set ?_ (IsS63.ge HI0.out)) | exact HB.out)) hb); have n3_ := Aside0.mk (hbox); have n4_ := Aside0.mk ((by rw [hg]; exact (keep_size (w := w) (g := g) (row := none) (by repeat (first | (with_reducible first | exact HK.out | apply KeepBut.set_ | apply keep_drewN | apply keep_drew | apply keep_alloc) | exact HK.out))) : w.heap.size ≤ gb120)); have n5_ := Aside0.mk ((Nat.le_trans HW0.out (by rw [hg]; exact (keep_size (w := w) (g := g) (row := none) (by repeat (first | (with_reducible first | exact HK.out | apply KeepBut.set_ | apply keep_drewN | apply keep_drew | apply keep_alloc) | exact HK.out))) : w.heap.size ≤ gb120) : w0.heap.size ≤ gb120)); have n6_ := Aside0.mk ((by rw [hg]; exact Nat.ne_of_lt (IsS63.lt (show IsS63 w0 _ g s0_0 s0_1 s0_2 s0_3 s0_4 s0_5 s0_6 s0_7 s0_8 from by repeat (first | (with_reducible first | exact HI0.out | apply IsS63.alloc | apply IsS63.drewN | apply IsS63.drew | apply IsS63.set_0 | apply IsS63.set_1 | apply IsS63.set_2 | apply IsS63.set_3 | apply IsS63.set_4 | apply IsS63.set_5 | apply IsS63.set_6 | apply IsS63.set_7 | apply IsS63.set_8) | exact HI0.out))) : g ≠ gb120)); have n7_ := Aside0.mk ((by rw [hg]; exact Nat.ne_of_gt (IsS63.lt (show IsS63 w0 _ g s0_0 s0_1 s0_2 s0_3 s0_4 s0_5 s0_6 s0_7 s0_8 from by repeat (first | (with_reducible first | exact HI0.out | apply IsS63.alloc | apply IsS63.drewN | apply IsS63.drew | apply IsS63.set_0 | apply IsS63.set_1 | apply IsS63.set_2 | apply IsS63.set_3 | apply IsS63.set_4 | apply IsS63.set_5 | apply IsS63.set_6 | apply IsS63.set_7 | apply IsS63.set_8) | exact HI0.out))) : gb120 ≠ g)); clear HI0; clear HK; clear HB; have HI0 := n0_; have HK := n1_; have HB := n2_; have BK120 := n3_; have GW120 := n4_; have GE120 := n5_; have NB0_120 := n6_; have NB120_0 := n7_; clear n0_ n1_ n2_ n3_ n4_ n5_ n6_ n7_; clear hb hbox hg))
 (try simp only [Act.put, List.setIfInBounds_toArray, List.set_cons_zero, List.set_cons_succ])
 go_cut [25] (fun v25 wc => ∃ (kq : Nat) (x25_2 : Bool), v25 = .bool x25_2 ∧ Aside0 (aimd_Aimd_lift.j0 kq x25_2 s0_0 s0_1 s0_2 s0_3 s0_4 s0_5 s0_6 s0_7 s0_8 a1_0 a1_1 a1_2 = some (r1, r2, r3, r4, r5, r6, r7, r8, r9)) ∧ Aside0 (kq ≤ k) ∧ Aside0 (wc.heap[gb120]? = some (.cells #[.int .i64 a1_0, .int .i64 a1_1, .int .i64 a1_2] 66 (0, 0))) ∧ Aside0 (IsS63 w0 wc g s0_0 s0_1 s0_2 s0_3 s0_4 s0_5 s0_6 s0_7 s0_8) ∧ Aside0 (KeepBut w wc g none) ∧ Aside0 (Below w0.heap.size w0 wc))
 case first =>
  have H := HC3.out
  clear HC3
  by_cases c5 : s0_4 = true
  ·subst c5
   have H1 : (aimd_Aimd_lift.j0 k (decide (a1_0 > (wrap64 (s0_5 + (wrap64 (3 * s0_6)))))) s0_0 s0_1 s0_2 s0_3 true s0_5 s0_6 s0_7 s0_8 a1_0 a1_1 a1_2) = some (r1, r2, r3, r4, r5, r6, r7, r8, r9) := by rw [if_pos rfl] at H; exact H
   clear H
   have H := H1
   clear H1
   have H' := Aside0.mk H
   clear H
   try go_wp2
   have n0_ := Aside0.mk (blk_drew BK120.out)
   have n1_ := Aside0.mk (IsS63.drew HI0.out)
   have n2_ := Aside0.mk (keep_drew HK.out)
   have n3_ := Aside0.mk (below_drew1 HB.out)
   clear BK120
   clear HI0
   clear HK
   clear HB
   have BK120 := n0_
   have HI0 := n1_
   have HK := n2_
   have HB := n3_
   clear n0_ n1_ n2_ n3_
   refine start_ (n := 19) (S := fun w' => w'.cell? ⟨g, 0, none⟩ = some (.int .i64 s0_0) ∧ w'.cell? ⟨g, 1, none⟩ = some (.int .i64 s0_1) ∧ w'.cell? ⟨g, 2, none⟩ = some (.int .i64 s0_2) ∧ w'.cell? ⟨g, 3, none⟩ = some (.int .i64 s0_3) ∧ w'.cell? ⟨g, 4, none⟩ = some (.bool true) ∧ w'.cell? ⟨g, 5, none⟩ = some (.int .i64 s0_5) ∧ w'.cell? ⟨g, 6, none⟩ = some (.int .i64 s0_6) ∧ w'.cell? ⟨g, 7, none⟩ = some (.bool s0_7) ∧ w'.cell? ⟨g, 8, none⟩ = some (.int .i64 s0_8) ∧ w'.cell? ⟨gb120, 0, none⟩ = some (.int .i64 a1_0) ∧ w'.cell? ⟨gb120, 1, none⟩ = some (.int .i64 a1_1) ∧ w'.cell? ⟨gb120, 2, none⟩ = some (.int .i64 a1_2)) (ds := []) #[false, false, false, false, false, false, false, false, false, false, false, false, false, false, false, false, false, false, false] (by kernel_rfl) rfl rfl ⟨(IsS63.cell_0 HI0.out), (IsS63.cell_1 HI0.out), (IsS63.cell_2 HI0.out), (IsS63.cell_3 HI0.out), (IsS63.cell_4 HI0.out), (IsS63.cell_5 HI0.out), (IsS63.cell_6 HI0.out), (IsS63.cell_7 HI0.out), (IsS63.cell_8 HI0.out), (blk_cell BK120.out 0).trans rfl, (blk_cell BK120.out 1).trans rfl, (blk_cell BK120.out 2).trans rfl⟩ (fun hHeld => ?_); refine with_tabW aimd_Aimd_lift.tab1 aimd_Aimd_lift.bits1 (fun HT_ HW_ => ?_)
   generalize w4.drew = w6 at BK120 HI0 HK HB hHeld ⊢
   refine pure_ (i := 0) (N := some 7) (v := ?_) (a' := ?_) (bl 19 1) rfl rfl (any_of HT_.out (by kernel_rfl)) (fun _ _ _ h => h) (Or.inl ⟨by rfl, ?_⟩) ?_ ?_
   rotate_left
   ·intro w'
    go_simp
    with_reducible rfl
   rotate_left
   ·simp only [puts_]
    rfl
   refine pure_ (i := 1) (N := some 8) (v := ?_) (a' := ?_) (bl 19 3) rfl rfl (any_of HT_.out (by kernel_rfl)) (fun _ _ _ h => h) (Or.inl ⟨by rfl, ?_⟩) ?_ ?_
   rotate_left
   ·intro w'
    go_simp
    with_reducible rfl
   rotate_left
   ·simp only [puts_]
    rfl
   refine pure_ (i := 2) (N := some 9) (v := ?_) (a' := ?_) (bl 19 7) rfl rfl (any_of HT_.out (by kernel_rfl)) (fun _ _ _ h => h) (Or.inl ⟨by rfl, ?_⟩) ?_ ?_
   rotate_left
   ·intro w'
    go_simp
    with_reducible rfl
   rotate_left
   ·simp only [puts_]
    rfl
   refine take_ (i := 3) (N := some 10) (v := ?_) (a' := ?_) (bl 19 15) rfl rfl (take_ofW HT_.out HW_.out (by kernel_rfl)) (fun _ _ _ h => h) (Or.inl ⟨by rfl, ?_⟩) hHeld ?_ ?_
   rotate_left
   ·rintro w' ⟨s0, s1, s2, s3, s4, s5, s6, s7, s8, s9, s10, s11⟩
    go_simp
    with_reducible rfl
   rotate_left
   ·simp only [puts_]
    rfl
   refine pure_ (i := 4) (N := some 11) (v := ?_) (a' := ?_) (bl 19 31) rfl rfl (any_of HT_.out (by kernel_rfl)) (fun _ _ _ h => h) (Or.inl ⟨by rfl, ?_⟩) ?_ ?_
   rotate_left
   ·intro w'
    go_simp
    with_reducible rfl
   rotate_left
   ·simp only [puts_]
    rfl
   refine pure_ (i := 5) (N := some 12) (v := ?_) (a' := ?_) (bl 19 63) rfl rfl (any_of HT_.out (by kernel_rfl)) (fun _ _ _ h => h) (Or.inl ⟨by rfl, ?_⟩) ?_ ?_
   rotate_left
   ·intro w'
    go_simp
    with_reducible rfl
   rotate_left
   ·simp only [puts_]
    rfl
   refine pure_ (i := 7) (N := some 14) (v := ?_) (a' := ?_) (bl 19 191) rfl rfl (any_of HT_.out (by kernel_rfl)) (fun _ _ _ h => h) (Or.inl ⟨by rfl, ?_⟩) ?_ ?_
   rotate_left
   ·intro w'
    go_simp
    with_reducible rfl
   rotate_left
   ·simp only [puts_]
    rfl
   refine pure_ (i := 8) (N := some 15) (v := ?_) (a' := ?_) (bl 19 447) rfl rfl (any_of HT_.out (by kernel_rfl)) (fun _ _ _ h => h) (Or.inl ⟨by rfl, ?_⟩) ?_ ?_
   rotate_left
   ·intro w'
    go_simp
    with_reducible rfl
   rotate_left
   ·simp only [puts_]
    rfl
   refine pure_ (i := 9) (N := some 16) (v := ?_) (a' := ?_) (bl 19 959) rfl rfl (any_of HT_.out (by kernel_rfl)) (fun _ _ _ h => h) (Or.inl ⟨by rfl, ?_⟩) ?_ ?_
   rotate_left
   ·intro w'
    go_simp
    with_reducible rfl
   rotate_left
   ·simp only [puts_]
    rfl
   refine pure_ (i := 11) (N := some 18) (v := ?_) (a' := ?_) (bl 19 3007) rfl rfl (any_of HT_.out (by kernel_rfl)) (fun _ _ _ h => h) (Or.inl ⟨by rfl, ?_⟩) ?_ ?_
   rotate_left
   ·intro w'
    go_simp
    with_reducible rfl
   rotate_left
   ·simp only [puts_]
    rfl
   refine pure_ (i := 12) (N := some 19) (v := ?_) (a' := ?_) (bl 19 7103) rfl rfl (any_of HT_.out (by kernel_rfl)) (fun _ _ _ h => h) (Or.inl ⟨by rfl, ?_⟩) ?_ ?_
   rotate_left
   ·intro w'
    go_simp
    with_reducible rfl
   rotate_left
   ·simp only [puts_]
    rfl
   refine pure_ (i := 13) (N := some 20) (v := ?_) (a' := ?_) (bl 19 15295) rfl rfl (any_of HT_.out (by kernel_rfl)) (fun _ _ _ h => h) (Or.inl ⟨by rfl, ?_⟩) ?_ ?_
   rotate_left
   ·intro w'
    go_simp
    with_reducible rfl
   rotate_left
   ·simp only [puts_]
    rfl
   refine take_ (i := 6) (N := some 13) (v := ?_) (a' := ?_) (bl 19 15359) rfl rfl (take_ofW HT_.out HW_.out (by kernel_rfl)) (fun _ _ _ h => h) (Or.inl ⟨by rfl, ?_⟩) hHeld ?_ ?_
   rotate_left
   ·rintro w' ⟨s0, s1, s2, s3, s4, s5, s6, s7, s8, s9, s10, s11⟩
    go_simp
    with_reducible rfl
   rotate_left
   ·simp only [puts_]
    rfl
   refine take_ (i := 10) (N := some 17) (v := ?_) (a' := ?_) (bl 19 16383) rfl rfl (take_ofW HT_.out HW_.out (by kernel_rfl)) (fun _ _ _ h => h) (Or.inl ⟨by rfl, ?_⟩) hHeld ?_ ?_
   rotate_left
   ·rintro w' ⟨s0, s1, s2, s3, s4, s5, s6, s7, s8, s9, s10, s11⟩
    go_simp
    with_reducible rfl
   rotate_left
   ·simp only [puts_]
    rfl
   refine take_ (i := 14) (N := some 21) (v := ?_) (a' := ?_) (bl 19 32767) rfl rfl (take_ofW HT_.out HW_.out (by kernel_rfl)) (fun _ _ _ h => h) (Or.inl ⟨by rfl, ?_⟩) hHeld ?_ ?_
   rotate_left
   ·rintro w' ⟨s0, s1, s2, s3, s4, s5, s6, s7, s8, s9, s10, s11⟩
    go_simp
    with_reducible rfl
   rotate_left
   ·simp only [puts_]
    rfl
   refine pure_ (i := 15) (N := some 22) (v := ?_) (a' := ?_) (bl 19 65535) rfl rfl (any_of HT_.out (by kernel_rfl)) (fun _ _ _ h => h) (Or.inl ⟨by rfl, ?_⟩) ?_ ?_
   rotate_left
   ·intro w'
    go_simp
    with_reducible rfl
   rotate_left
   ·simp only [puts_]
    rfl
   refine pure_ (i := 16) (N := some 23) (v := ?_) (a' := ?_) (bl 19 131071) rfl rfl (any_of HT_.out (by kernel_rfl)) (fun _ _ _ h => h) (Or.inl ⟨by rfl, ?_⟩) ?_ ?_
   rotate_left
   ·intro w'
    go_simp
    with_reducible rfl
   rotate_left
   ·simp only [puts_]
    rfl
   refine pure_ (i := 17) (N := some 24) (v := ?_) (a' := ?_) (bl 19 262143) rfl rfl (any_of HT_.out (by kernel_rfl)) (fun _ _ _ h => h) (Or.inl ⟨by rfl, ?_⟩) ?_ ?_
   rotate_left
   ·intro w'
    go_simp
    with_reducible rfl
   rotate_left
   ·simp only [puts_]
    rfl
   refine pure_ (i := 18) (N := some 25) (v := ?_) (a' := ?_) (bl 19 524287) rfl rfl (any_of HT_.out (by kernel_rfl)) (fun _ _ _ h => h) (Or.inl ⟨by rfl, ?_⟩) ?_ ?_
   rotate_left
   ·intro w'
    go_simp
    with_reducible rfl
   rotate_left
   ·simp only [puts_]
    rfl
   refine done_ (done_of HT_.out (by kernel_rfl)) ?_
   try go_wp2
   go_meet
   case rel => exact ⟨_, (decide (a1_0 > (wrap64 (s0_5 + (wrap64 (3 * s0_6)))))), (by first | rfl | (simp; done) | (simp [*]; done)), H', ⟨by first | omega | exact Nat.le_refl _⟩, ⟨by (with_reducible repeat (first | refine blk_drewN ?_ _ | refine blk_drew ?_ | refine blk_alloc ?_ _)); exact BK120.out⟩, ⟨by repeat (first | (with_reducible first | exact HI0.out | apply IsS63.alloc | apply IsS63.drewN | apply IsS63.drew | apply IsS63.set_0 | apply IsS63.set_1 | apply IsS63.set_2 | apply IsS63.set_3 | apply IsS63.set_4 | apply IsS63.set_5 | apply IsS63.set_6 | apply IsS63.set_7 | apply IsS63.set_8 | refine IsS63.far ?_ NB0_120.out _) | exact HI0.out)⟩, ⟨by repeat (first | (with_reducible first | exact HK.out | apply KeepBut.set_ | apply keep_drewN | apply keep_drew | apply keep_alloc | refine keep_far ?_ GW120.out _) | exact HK.out)⟩, ⟨by repeat (first | (with_reducible first | exact HB.out | apply below_alloc | apply pw_below_drewN | apply below_drew1 | refine below_set ?_ (IsS63.ge HI0.out) | refine below_set ?_ GE120.out) | exact HB.out)⟩⟩
  ·replace c5 := Bool.eq_false_iff.mpr c5
   subst c5
   have H1 : (aimd_Aimd_lift.j0 k false s0_0 s0_1 s0_2 s0_3 false s0_5 s0_6 s0_7 s0_8 a1_0 a1_1 a1_2) = some (r1, r2, r3, r4, r5, r6, r7, r8, r9) := by rw [if_neg (show ¬ (false = true) by decide)] at H; exact H
   clear H
   have H := H1
   clear H1
   have H' := Aside0.mk H
   clear H
   try go_wp2
   have n0_ := Aside0.mk (blk_drew BK120.out)
   have n1_ := Aside0.mk (IsS63.drew HI0.out)
   have n2_ := Aside0.mk (keep_drew HK.out)
   have n3_ := Aside0.mk (below_drew1 HB.out)
   clear BK120
   clear HI0
   clear HK
   clear HB
   have BK120 := n0_
   have HI0 := n1_
   have HK := n2_
   have HB := n3_
   clear n0_ n1_ n2_ n3_
   refine start_ (n := 19) (S := fun w' => w'.cell? ⟨g, 0, none⟩ = some (.int .i64 s0_0) ∧ w'.cell? ⟨g, 1, none⟩ = some (.int .i64 s0_1) ∧ w'.cell? ⟨g, 2, none⟩ = some (.int .i64 s0_2) ∧ w'.cell? ⟨g, 3, none⟩ = some (.int .i64 s0_3) ∧ w'.cell? ⟨g, 4, none⟩ = some (.bool false) ∧ w'.cell? ⟨g, 5, none⟩ = some (.int .i64 s0_5) ∧ w'.cell? ⟨g, 6, none⟩ = some (.int .i64 s0_6) ∧ w'.cell? ⟨g, 7, none⟩ = some (.bool s0_7) ∧ w'.cell? ⟨g, 8, none⟩ = some (.int .i64 s0_8)) (ds := []) #[false, false, false, false, false, false, false, false, false, false, false, false, false, false, false, false, false, false, false] (by kernel_rfl) rfl rfl ⟨(IsS63.cell_0 HI0.out), (IsS63.cell_1 HI0.out), (IsS63.cell_2 HI0.out), (IsS63.cell_3 HI0.out), (IsS63.cell_4 HI0.out), (IsS63.cell_5 HI0.out), (IsS63.cell_6 HI0.out), (IsS63.cell_7 HI0.out), (IsS63.cell_8 HI0.out)⟩ (fun hHeld => ?_); refine with_tabW aimd_Aimd_lift.tab1 aimd_Aimd_lift.bits1 (fun HT_ HW_ => ?_)
   generalize w4.drew = w7 at BK120 HI0 HK HB hHeld ⊢
   refine pure_ (i := 0) (N := some 7) (v := ?_) (a' := ?_) (bl 19 1) rfl rfl (any_of HT_.out (by kernel_rfl)) (fun _ _ _ h => h) (Or.inl ⟨by rfl, ?_⟩) ?_ ?_
   rotate_left
   ·intro w'
    go_simp
    with_reducible rfl
   rotate_left
   ·simp only [puts_]
    rfl
   refine pure_ (i := 1) (N := some 8) (v := ?_) (a' := ?_) (bl 19 3) rfl rfl (any_of HT_.out (by kernel_rfl)) (fun _ _ _ h => h) (Or.inl ⟨by rfl, ?_⟩) ?_ ?_
   rotate_left
   ·intro w'
    go_simp
    with_reducible rfl
   rotate_left
   ·simp only [puts_]
    rfl
   refine pure_ (i := 2) (N := some 9) (v := ?_) (a' := ?_) (bl 19 7) rfl rfl (any_of HT_.out (by kernel_rfl)) (fun _ _ _ h => h) (Or.inl ⟨by rfl, ?_⟩) ?_ ?_
   rotate_left
   ·intro w'
    go_simp
    with_reducible rfl
   rotate_left
   ·simp only [puts_]
    rfl
   refine take_ (i := 3) (N := some 10) (v := ?_) (a' := ?_) (bl 19 15) rfl rfl (take_ofW HT_.out HW_.out (by kernel_rfl)) (fun _ _ _ h => h) (Or.inl ⟨by rfl, ?_⟩) hHeld ?_ ?_
   rotate_left
   ·rintro w' ⟨s0, s1, s2, s3, s4, s5, s6, s7, s8⟩
    go_simp
    with_reducible rfl
   rotate_left
   ·simp only [puts_]
    rfl
   refine pure_ (i := 4) (N := some 11) (v := ?_) (a' := ?_) (bl 19 31) rfl rfl (any_of HT_.out (by kernel_rfl)) (fun _ _ _ h => h) (Or.inl ⟨by rfl, ?_⟩) ?_ ?_
   rotate_left
   ·intro w'
    go_simp
    with_reducible rfl
   rotate_left
   ·simp only [puts_]
    rfl
   refine pure_ (i := 5) (N := some 12) (v := undef) (a' := ?_) (bl 19 63) rfl rfl (any_of HT_.out (by kernel_rfl)) (fun _ _ _ h => h) (Or.inr ⟨by rfl, rfl⟩) ?_ ?_
   rotate_left
   ·simp only [puts_]
    rfl
   refine pure_ (i := 6) (N := some 13) (v := undef) (a' := ?_) (bl 19 127) rfl rfl (any_of HT_.out (by kernel_rfl)) (fun _ _ _ h => h) (Or.inr ⟨by rfl, rfl⟩) ?_ ?_
   rotate_left
   ·simp only [puts_]
    rfl
   refine pure_ (i := 7) (N := some 14) (v := undef) (a' := ?_) (bl 19 255) rfl rfl (any_of HT_.out (by kernel_rfl)) (fun _ _ _ h => h) (Or.inr ⟨by rfl, rfl⟩) ?_ ?_
   rotate_left
   ·simp only [puts_]
    rfl
   refine pure_ (i := 8) (N := some 15) (v := undef) (a' := ?_) (bl 19 511) rfl rfl (any_of HT_.out (by kernel_rfl)) (fun _ _ _ h => h) (Or.inr ⟨by rfl, rfl⟩) ?_ ?_
   rotate_left
   ·simp only [puts_]
    rfl
   refine pure_ (i := 9) (N := some 16) (v := undef) (a' := ?_) (bl 19 1023) rfl rfl (any_of HT_.out (by kernel_rfl)) (fun _ _ _ h => h) (Or.inr ⟨by rfl, rfl⟩) ?_ ?_
   rotate_left
   ·simp only [puts_]
    rfl
   refine pure_ (i := 10) (N := some 17) (v := undef) (a' := ?_) (bl 19 2047) rfl rfl (any_of HT_.out (by kernel_rfl)) (fun _ _ _ h => h) (Or.inr ⟨by rfl, rfl⟩) ?_ ?_
   rotate_left
   ·simp only [puts_]
    rfl
   refine pure_ (i := 11) (N := some 18) (v := undef) (a' := ?_) (bl 19 4095) rfl rfl (any_of HT_.out (by kernel_rfl)) (fun _ _ _ h => h) (Or.inr ⟨by rfl, rfl⟩) ?_ ?_
   rotate_left
   ·simp only [puts_]
    rfl
   refine pure_ (i := 12) (N := some 19) (v := undef) (a' := ?_) (bl 19 8191) rfl rfl (any_of HT_.out (by kernel_rfl)) (fun _ _ _ h => h) (Or.inr ⟨by rfl, rfl⟩) ?_ ?_
   rotate_left
   ·simp only [puts_]
    rfl
   refine pure_ (i := 13) (N := some 20) (v := undef) (a' := ?_) (bl 19 16383) rfl rfl (any_of HT_.out (by kernel_rfl)) (fun _ _ _ h => h) (Or.inr ⟨by rfl, rfl⟩) ?_ ?_
   rotate_left
   ·simp only [puts_]
    rfl
   refine pure_ (i := 14) (N := some 21) (v := undef) (a' := ?_) (bl 19 32767) rfl rfl (any_of HT_.out (by kernel_rfl)) (fun _ _ _ h => h) (Or.inr ⟨by rfl, rfl⟩) ?_ ?_
   rotate_left
   ·simp only [puts_]
    rfl
   refine pure_ (i := 15) (N := some 22) (v := undef) (a' := ?_) (bl 19 65535) rfl rfl (any_of HT_.out (by kernel_rfl)) (fun _ _ _ h => h) (Or.inr ⟨by rfl, rfl⟩) ?_ ?_
   rotate_left
   ·simp only [puts_]
    rfl
   refine pure_ (i := 16) (N := some 23) (v := undef) (a' := ?_) (bl 19 131071) rfl rfl (any_of HT_.out (by kernel_rfl)) (fun _ _ _ h => h) (Or.inr ⟨by rfl, rfl⟩) ?_ ?_
   rotate_left
   ·simp only [puts_]
    rfl
   refine pure_ (i := 17) (N := some 24) (v := undef) (a' := ?_) (bl 19 262143) rfl rfl (any_of HT_.out (by kernel_rfl)) (fun _ _ _ h => h) (Or.inr ⟨by rfl, rfl⟩) ?_ ?_
   rotate_left
   ·simp only [puts_]
    rfl
   refine pure_ (i := 18) (N := some 25) (v := ?_) (a' := ?_) (bl 19 524287) rfl rfl (any_of HT_.out (by kernel_rfl)) (fun _ _ _ h => h) (Or.inl ⟨by rfl, ?_⟩) ?_ ?_
   rotate_left
   ·intro w'
    go_simp
    with_reducible rfl
   rotate_left
   ·simp only [puts_]
    rfl
   refine done_ (done_of HT_.out (by kernel_rfl)) ?_
   try go_wp2
   go_meet
   case rel => exact ⟨_, (false), (by first | rfl | (simp; done) | (simp [*]; done)), H', ⟨by first | omega | exact Nat.le_refl _⟩, ⟨by (with_reducible repeat (first | refine blk_drewN ?_ _ | refine blk_drew ?_ | refine blk_alloc ?_ _)); exact BK120.out⟩, ⟨by repeat (first | (with_reducible first | exact HI0.out | apply IsS63.alloc | apply IsS63.drewN | apply IsS63.drew | apply IsS63.set_0 | apply IsS63.set_1 | apply IsS63.set_2 | apply IsS63.set_3 | apply IsS63.set_4 | apply IsS63.set_5 | apply IsS63.set_6 | apply IsS63.set_7 | apply IsS63.set_8 | refine IsS63.far ?_ NB0_120.out _) | exact HI0.out)⟩, ⟨by repeat (first | (with_reducible first | exact HK.out | apply KeepBut.set_ | apply keep_drewN | apply keep_drew | apply keep_alloc | refine keep_far ?_ GW120.out _) | exact HK.out)⟩, ⟨by repeat (first | (with_reducible first | exact HB.out | apply below_alloc | apply pw_below_drewN | apply below_drew1 | refine below_set ?_ (IsS63.ge HI0.out) | refine below_set ?_ GE120.out) | exact HB.out)⟩⟩
 case rest =>
  clear HC3
  try clear p2
  try clear c3
  try clear c5
  try clear p6
  obtain ⟨kq, x25_2, rfl, HA, HJ2, BK120, HI0, HK, HB⟩ := hcut
  cases kq with
  | zero => exact absurd HA.out (by simp [aimd_Aimd_lift.j0])
  | succ kj2 =>
   have H := HA.out
   clear HA
   simp only [aimd_Aimd_lift.j0] at H
   have HC8 := Aside0.mk H
   clear H
   go_upto_if 25 with (fail)
   go_cut [] (fun wc => ∃ (kq : Nat) (x1004_7 : Bool), Aside0 (aimd_Aimd_lift.j1 kq s0_0 s0_1 s0_2 s0_3 x1004_7 s0_5 s0_6 s0_7 s0_8 a1_0 a1_1 a1_2 = some (r1, r2, r3, r4, r5, r6, r7, r8, r9)) ∧ Aside0 (kq ≤ kj2) ∧ Aside0 (wc.heap[gb120]? = some (.cells #[.int .i64 a1_0, .int .i64 a1_1, .int .i64 a1_2] 66 (0, 0))) ∧ Aside0 (IsS63 w0 wc g s0_0 s0_1 s0_2 s0_3 x1004_7 s0_5 s0_6 s0_7 s0_8) ∧ Aside0 (KeepBut w wc g none) ∧ Aside0 (Below w0.heap.size w0 wc))
   case first =>
    have H := HC8.out
    clear HC8
    by_cases c9 : x25_2 = true
    ·subst c9
     have H1 : (aimd_Aimd_lift.j1 kj2 s0_0 s0_1 s0_2 s0_3 false s0_5 s0_6 s0_7 s0_8 a1_0 a1_1 a1_2) = some (r1, r2, r3, r4, r5, r6, r7, r8, r9) := by rw [if_pos rfl] at H; exact H
     clear H
     have H := H1
     clear H1
     have H' := Aside0.mk H
     clear H
     obtain ⟨HGz10, hgz10⟩ := HI0.out
     have hcz10_0 := cellS63_0 HGz10
     have hcz10_1 := cellS63_1 HGz10
     have hcz10_2 := cellS63_2 HGz10
     have hcz10_3 := cellS63_3 HGz10
     have hcz10_4 := cellS63_4 HGz10
     have hcz10_5 := cellS63_5 HGz10
     have hcz10_6 := cellS63_6 HGz10
     have hcz10_7 := cellS63_7 HGz10
     have hcz10_8 := cellS63_8 HGz10
     have hfz10_0 := blk_frozen HGz10 0
     have hfz10_1 := blk_frozen HGz10 1
     have hfz10_2 := blk_frozen HGz10 2
     have hfz10_3 := blk_frozen HGz10 3
     have hfz10_4 := blk_frozen HGz10 4
     have hfz10_5 := blk_frozen HGz10 5
     have hfz10_6 := blk_frozen HGz10 6
     have hfz10_7 := blk_frozen HGz10 7
     have hfz10_8 := blk_frozen HGz10 8
     clear HGz10 hgz10
     go_wp2
     go_meet
     case rel => exact ⟨_, (false), H', ⟨by have := HJ2.out; first | omega | exact Nat.le_refl _⟩, ⟨by (with_reducible repeat (first | refine blk_drewN ?_ _ | refine blk_drew ?_ | refine blk_alloc ?_ _)); refine blk_far ?_ NB120_0.out _; (with_reducible repeat (first | refine blk_drewN ?_ _ | refine blk_drew ?_ | refine blk_alloc ?_ _)); exact BK120.out⟩, ⟨by repeat (first | (with_reducible first | exact HI0.out | apply IsS63.alloc | apply IsS63.drewN | apply IsS63.drew | apply IsS63.set_0 | apply IsS63.set_1 | apply IsS63.set_2 | apply IsS63.set_3 | apply IsS63.set_4 | apply IsS63.set_5 | apply IsS63.set_6 | apply IsS63.set_7 | apply IsS63.set_8 | refine IsS63.far ?_ NB0_120.out _) | exact HI0.out)⟩, ⟨by repeat (first | (with_reducible first | exact HK.out | apply KeepBut.set_ | apply keep_drewN | apply keep_drew | apply keep_alloc | refine keep_far ?_ GW120.out _) | exact HK.out)⟩, ⟨by repeat (first | (with_reducible first | exact HB.out | apply below_alloc | apply pw_below_drewN | apply below_drew1 | refine below_set ?_ (IsS63.ge HI0.out) | refine below_set ?_ GE120.out) | exact HB.out)⟩⟩
    ·replace c9 := Bool.eq_false_iff.mpr c9
     subst c9
     have H1 : (aimd_Aimd_lift.j1 kj2 s0_0 s0_1 s0_2 s0_3 s0_4 s0_5 s0_6 s0_7 s0_8 a1_0 a1_1 a1_2) = some (r1, r2, r3, r4, r5, r6, r7, r8, r9) := by rw [if_neg (show ¬ (false = true) by decide)] at H; exact H
     clear H
     have H := H1
     clear H1
     have H' := Aside0.mk H
     clear H
     go_wp2
     go_meet
     case rel => exact ⟨_, (s0_4), H', ⟨by have := HJ2.out; first | omega | exact Nat.le_refl _⟩, ⟨by (with_reducible repeat (first | refine blk_drewN ?_ _ | refine blk_drew ?_ | refine blk_alloc ?_ _)); exact BK120.out⟩, ⟨by repeat (first | (with_reducible first | exact HI0.out | apply IsS63.alloc | apply IsS63.drewN | apply IsS63.drew | apply IsS63.set_0 | apply IsS63.set_1 | apply IsS63.set_2 | apply IsS63.set_3 | apply IsS63.set_4 | apply IsS63.set_5 | apply IsS63.set_6 | apply IsS63.set_7 | apply IsS63.set_8 | refine IsS63.far ?_ NB0_120.out _) | exact HI0.out)⟩, ⟨by repeat (first | (with_reducible first | exact HK.out | apply KeepBut.set_ | apply keep_drewN | apply keep_drew | apply keep_alloc | refine keep_far ?_ GW120.out _) | exact HK.out)⟩, ⟨by repeat (first | (with_reducible first | exact HB.out | apply below_alloc | apply pw_below_drewN | apply below_drew1 | refine below_set ?_ (IsS63.ge HI0.out) | refine below_set ?_ GE120.out) | exact HB.out)⟩⟩
   case rest =>
    clear HC8
    try clear p2
    try clear c3
    try clear c5
    try clear p6
    try clear c9
    try clear hcz10_0
    try clear hcz10_1
    try clear hcz10_2
    try clear hcz10_3
    try clear hcz10_4
    try clear hcz10_5
    try clear hcz10_6
    try clear hcz10_7
    try clear hcz10_8
    try clear hfz10_0
    try clear hfz10_1
    try clear hfz10_2
    try clear hfz10_3
    try clear hfz10_4
    try clear hfz10_5
    try clear hfz10_6
    try clear hfz10_7
    try clear hfz10_8
    try clear p2
    try clear p6
    obtain ⟨kq, x1004_7, HA, HJ7, BK120, HI0, HK, HB⟩ := hcut
    cases kq with
    | zero => exact absurd HA.out (by simp [aimd_Aimd_lift.j1])
    | succ kj7 =>
     have H := HA.out
     clear HA
     simp only [aimd_Aimd_lift.j1] at H
     replace H := Option.bind_eq_some_iff.mp H
     obtain ⟨t121, A110, H⟩ := H
     replace H : (if x1004_7 = true then ((muldiv_Do.f 9600 a1_2 (wrap64 (a1_1 + 100000)) 3).bind fun t122 => (if a1_0 > 0 then (if (wrap64 ((wrap64 (Int.tdiv (wrap64 (3 * a1_0)) 2)) + 10000)) < (wrap64 (s0_0 + (mx t122 1000))) then (some (mx (wrap64 ((wrap64 (Int.tdiv (wrap64 (3 * a1_0)) 2)) + 10000)) s0_0, s0_1, s0_2, s0_3, x1004_7, s0_5, s0_6, s0_7, s0_8)) else (some (wrap64 (s0_0 + (mx t122 1000)), s0_1, s0_2, s0_3, x1004_7, s0_5, s0_6, s0_7, s0_8))) else (some (wrap64 (s0_0 + (mx t122 1000)), s0_1, s0_2, s0_3, x1004_7, s0_5, s0_6, s0_7, s0_8)))) else (if a1_0 > 0 then (if (wrap64 ((wrap64 (Int.tdiv (wrap64 (3 * a1_0)) 2)) + 10000)) < (wrap64 (s0_0 + (mx t121 1000))) then (some (mx (wrap64 ((wrap64 (Int.tdiv (wrap64 (3 * a1_0)) 2)) + 10000)) s0_0, s0_1, s0_2, s0_3, x1004_7, s0_5, s0_6, s0_7, s0_8)) else (some (wrap64 (s0_0 + (mx t121 1000)), s0_1, s0_2, s0_3, x1004_7, s0_5, s0_6, s0_7, s0_8))) else (some (wrap64 (s0_0 + (mx t121 1000)), s0_1, s0_2, s0_3, x1004_7, s0_5, s0_6, s0_7, s0_8)))) = some (r1, r2, r3, r4, r5, r6, r7, r8, r9) := H
     have A11 := Aside0.mk A110
     clear A110
     by_cases c12 : x1004_7 = true
     ·subst c12
      have H1 : ((muldiv_Do.f 9600 a1_2 (wrap64 (a1_1 + 100000)) 3).bind fun t122 => (if a1_0 > 0 then (if (wrap64 ((wrap64 (Int.tdiv (wrap64 (3 * a1_0)) 2)) + 10000)) < (wrap64 (s0_0 + (mx t122 1000))) then (some (mx (wrap64 ((wrap64 (Int.tdiv (wrap64 (3 * a1_0)) 2)) + 10000)) s0_0, s0_1, s0_2, s0_3, true, s0_5, s0_6, s0_7, s0_8)) else (some (wrap64 (s0_0 + (mx t122 1000)), s0_1, s0_2, s0_3, true, s0_5, s0_6, s0_7, s0_8))) else (some (wrap64 (s0_0 + (mx t122 1000)), s0_1, s0_2, s0_3, true, s0_5, s0_6, s0_7, s0_8)))) = some (r1, r2, r3, r4, r5, r6, r7, r8, r9) := by rw [if_pos rfl] at H; exact H
      clear H
      have H := H1
      clear H1
      replace H := Option.bind_eq_some_iff.mp H
      obtain ⟨t122, A130, H⟩ := H
      replace H : (if a1_0 > 0 then (if (wrap64 ((wrap64 (Int.tdiv (wrap64 (3 * a1_0)) 2)) + 10000)) < (wrap64 (s0_0 + (mx t122 1000))) then (some (mx (wrap64 ((wrap64 (Int.tdiv (wrap64 (3 * a1_0)) 2)) + 10000)) s0_0, s0_1, s0_2, s0_3, true, s0_5, s0_6, s0_7, s0_8)) else (some (wrap64 (s0_0 + (mx t122 1000)), s0_1, s0_2, s0_3, true, s0_5, s0_6, s0_7, s0_8))) else (some (wrap64 (s0_0 + (mx t122 1000)), s0_1, s0_2, s0_3, true, s0_5, s0_6, s0_7, s0_8))) = some (r1, r2, r3, r4, r5, r6, r7, r8, r9) := H
      have A13 := Aside0.mk A130
      clear A130
      obtain ⟨ji14, hji14⟩ : ∃ j_ : Int, (mx t122 1000) = j_ := ⟨_, rfl⟩
      replace H : (if a1_0 > 0 then (if (wrap64 ((wrap64 (Int.tdiv (wrap64 (3 * a1_0)) 2)) + 10000)) < (wrap64 (s0_0 + (ji14))) then (some (mx (wrap64 ((wrap64 (Int.tdiv (wrap64 (3 * a1_0)) 2)) + 10000)) s0_0, s0_1, s0_2, s0_3, true, s0_5, s0_6, s0_7, s0_8)) else (some (wrap64 (s0_0 + (ji14)), s0_1, s0_2, s0_3, true, s0_5, s0_6, s0_7, s0_8))) else (some (wrap64 (s0_0 + (ji14)), s0_1, s0_2, s0_3, true, s0_5, s0_6, s0_7, s0_8))) = some (r1, r2, r3, r4, r5, r6, r7, r8, r9) := by first | (rw [hji14] at H; exact H) | (simp only [hji14] at H ⊢; exact H)
      (try rw [hji14] at A11)
      (try rw [hji14] at A13)
      (try (have hji14l : 1000 ≤ ji14 := by (rw [← hji14]; unfold mx; (repeat' split) <;> omega)))
      (try (have hji14m : 0 ≤ ji14 := by omega))
      have hji14_ : (if t122 < 1000 then 1000 else t122) = ji14 := hji14
      by_cases c15 : a1_0 > 0
      ·rw [if_pos c15] at H
       have c15b0 : decide (0 < a1_0) = true := decide_eq_true c15
       clear c15
       by_cases c16 : (wrap64 ((wrap64 (Int.tdiv (wrap64 (3 * a1_0)) 2)) + 10000)) < (wrap64 (s0_0 + (ji14)))
       ·rw [if_pos c16] at H
        have c16b0 : decide ((wrap64 ((wrap64 (Int.tdiv (wrap64 (3 * a1_0)) 2)) + 10000)) < (wrap64 (s0_0 + (ji14)))) = true := decide_eq_true c16
        clear c16
        obtain ⟨ji17, hji17⟩ : ∃ j_ : Int, (mx (wrap64 ((wrap64 (Int.tdiv (wrap64 (3 * a1_0)) 2)) + 10000)) s0_0) = j_ := ⟨_, rfl⟩
        replace H : (some (ji17, s0_1, s0_2, s0_3, true, s0_5, s0_6, s0_7, s0_8)) = some (r1, r2, r3, r4, r5, r6, r7, r8, r9) := by first | (rw [hji17] at H; exact H) | (simp only [hji17] at H ⊢; exact H)
        (try rw [hji17] at A11)
        (try rw [hji17] at A13)
        have hji17_ : (if (wrap64 ((wrap64 (Int.tdiv (wrap64 (3 * a1_0)) 2)) + 10000)) < s0_0 then s0_0 else (wrap64 ((wrap64 (Int.tdiv (wrap64 (3 * a1_0)) 2)) + 10000))) = ji17 := hji17
        simp only [Option.some.injEq, Prod.mk.injEq] at H
        obtain ⟨rfl, rfl, rfl, rfl, rfl, rfl, rfl, rfl, rfl⟩ := H
        try go_wp2
        have n0_ := Aside0.mk (blk_drew BK120.out)
        have n1_ := Aside0.mk (IsS63.drew HI0.out)
        have n2_ := Aside0.mk (keep_drew HK.out)
        have n3_ := Aside0.mk (below_drew1 HB.out)
        clear BK120
        clear HI0
        clear HK
        clear HB
        have BK120 := n0_
        have HI0 := n1_
        have HK := n2_
        have HB := n3_
        clear n0_ n1_ n2_ n3_
        refine start_ (n := 9) (S := fun w' => w'.cell? ⟨g, 0, none⟩ = some (.int .i64 s0_0) ∧ w'.cell? ⟨g, 1, none⟩ = some (.int .i64 s0_1) ∧ w'.cell? ⟨g, 2, none⟩ = some (.int .i64 s0_2) ∧ w'.cell? ⟨g, 3, none⟩ = some (.int .i64 s0_3) ∧ w'.cell? ⟨g, 4, none⟩ = some (.bool true) ∧ w'.cell? ⟨g, 5, none⟩ = some (.int .i64 s0_5) ∧ w'.cell? ⟨g, 6, none⟩ = some (.int .i64 s0_6) ∧ w'.cell? ⟨g, 7, none⟩ = some (.bool s0_7) ∧ w'.cell? ⟨g, 8, none⟩ = some (.int .i64 s0_8) ∧ w'.cell? ⟨gb120, 0, none⟩ = some (.int .i64 a1_0) ∧ w'.cell? ⟨gb120, 1, none⟩ = some (.int .i64 a1_1) ∧ w'.cell? ⟨gb120, 2, none⟩ = some (.int .i64 a1_2)) (ds := []) #[false, false, false, false, false, false, false, false, false] (by kernel_rfl) rfl rfl ⟨(IsS63.cell_0 HI0.out), (IsS63.cell_1 HI0.out), (IsS63.cell_2 HI0.out), (IsS63.cell_3 HI0.out), (IsS63.cell_4 HI0.out), (IsS63.cell_5 HI0.out), (IsS63.cell_6 HI0.out), (IsS63.cell_7 HI0.out), (IsS63.cell_8 HI0.out), (blk_cell BK120.out 0).trans rfl, (blk_cell BK120.out 1).trans rfl, (blk_cell BK120.out 2).trans rfl⟩ (fun hHeld => ?_); refine with_tabW aimd_Aimd_lift.tab3 aimd_Aimd_lift.bits3 (fun HT_ HW_ => ?_)
        generalize wc.drew = w18 at BK120 HI0 HK HB hHeld ⊢
        refine pure_ (i := 0) (N := some 29) (v := ?_) (a' := ?_) (bl 9 1) rfl rfl (any_of HT_.out (by kernel_rfl)) (fun _ _ _ h => h) (Or.inl ⟨by rfl, ?_⟩) ?_ ?_
        rotate_left
        ·intro w'
         go_simp
         with_reducible rfl
        rotate_left
        ·simp only [puts_]
         rfl
        refine pure_ (i := 1) (N := some 30) (v := ?_) (a' := ?_) (bl 9 3) rfl rfl (any_of HT_.out (by kernel_rfl)) (fun _ _ _ h => h) (Or.inl ⟨by rfl, ?_⟩) ?_ ?_
        rotate_left
        ·intro w'
         go_simp
         with_reducible rfl
        rotate_left
        ·simp only [puts_]
         rfl
        refine pure_ (i := 2) (N := some 31) (v := ?_) (a' := ?_) (bl 9 7) rfl rfl (any_of HT_.out (by kernel_rfl)) (fun _ _ _ h => h) (Or.inl ⟨by rfl, ?_⟩) ?_ ?_
        rotate_left
        ·intro w'
         go_simp
         with_reducible rfl
        rotate_left
        ·simp only [puts_]
         rfl
        refine pure_ (i := 4) (N := some 33) (v := ?_) (a' := ?_) (bl 9 23) rfl rfl (any_of HT_.out (by kernel_rfl)) (fun _ _ _ h => h) (Or.inl ⟨by rfl, ?_⟩) ?_ ?_
        rotate_left
        ·intro w'
         go_simp
         with_reducible rfl
        rotate_left
        ·simp only [puts_]
         rfl
        refine take_ (i := 3) (N := some 32) (v := ?_) (a' := ?_) (bl 9 31) rfl rfl (take_ofW HT_.out HW_.out (by kernel_rfl)) (fun _ _ _ h => h) (Or.inl ⟨by rfl, ?_⟩) hHeld ?_ ?_
        rotate_left
        ·rintro w' ⟨s0, s1, s2, s3, s4, s5, s6, s7, s8, s9, s10, s11⟩
         go_simp
         with_reducible rfl
        rotate_left
        ·simp only [puts_]
         rfl
        refine take_ (i := 5) (N := some 34) (v := ?_) (a' := ?_) (bl 9 63) rfl rfl (take_ofW HT_.out HW_.out (by kernel_rfl)) (fun _ _ _ h => h) (Or.inl ⟨by rfl, ?_⟩) hHeld ?_ ?_
        rotate_left
        ·rintro w' ⟨s0, s1, s2, s3, s4, s5, s6, s7, s8, s9, s10, s11⟩
         go_simp
         with_reducible rfl
        rotate_left
        ·simp only [puts_]
         rfl
        refine pure_ (i := 6) (N := some 35) (v := ?_) (a' := ?_) (bl 9 127) rfl rfl (any_of HT_.out (by kernel_rfl)) (fun _ _ _ h => h) (Or.inl ⟨by rfl, ?_⟩) ?_ ?_
        rotate_left
        ·intro w'
         go_simp
         with_reducible rfl
        rotate_left
        ·simp only [puts_]
         rfl
        refine one_ (i := 7) (N := some 36) (bl 9 255) rfl rfl (one_of HT_.out (by kernel_rfl)) (by decide) (fun K hK => ?_)
        refine goes_ Try.func50 (by kernel_rfl) rfl #[.int .i64 s0_0, .int .i64 (wrap64 (8 * a1_2)), .int .i64 100000000, .int .i64 3] (by rfl) rfl rfl (by (try simp only [List.map_toArray, List.map_cons, List.map_nil]); first | done | rfl | (simp only [List.length_drop, List.length_take]; rfl)) ?_
        with_reducible refine (muldiv_Do.calls s0_0 (wrap64 (8 * a1_2)) 100000000 3 t121 _ A11.out).mono ?_
        rintro e w19 ⟨rfl, hb⟩
        refine ⟨_, rfl, ?_⟩
        have n0_ := Aside0.mk (blk_below (g := gb120) (o := .cells #[.int .i64 a1_0, .int .i64 a1_1, .int .i64 a1_2] 66 (0, 0)) (by (with_reducible repeat (first | refine blk_drewN ?_ _ | refine blk_drew ?_ | refine blk_alloc ?_ _)); exact BK120.out) hb)
        have n1_ := Aside0.mk (IsS63.below (by repeat (first | (with_reducible first | exact HI0.out | apply IsS63.alloc | apply IsS63.drewN | apply IsS63.drew | apply IsS63.set_0 | apply IsS63.set_1 | apply IsS63.set_2 | apply IsS63.set_3 | apply IsS63.set_4 | apply IsS63.set_5 | apply IsS63.set_6 | apply IsS63.set_7 | apply IsS63.set_8 | refine IsS63.far ?_ NB0_120.out _) | exact HI0.out)) hb)
        have n2_ := Aside0.mk (KeepBut.trans (by repeat (first | (with_reducible first | exact HK.out | apply KeepBut.set_ | apply keep_drewN | apply keep_drew | apply keep_alloc | refine keep_far ?_ GW120.out _) | exact HK.out)) (KeepBut.of_below hb g none) (.inl rfl))
        have n3_ := Aside0.mk (below_step (by repeat (first | (with_reducible first | exact HB.out | apply below_alloc | apply pw_below_drewN | apply below_drew1 | refine below_set ?_ (IsS63.ge HI0.out) | refine below_set ?_ GE120.out) | exact HB.out)) hb)
        clear BK120
        clear HI0
        clear HK
        clear HB
        have BK120 := n0_
        have HI0 := n1_
        have HK := n2_
        have HB := n3_
        clear n0_ n1_ n2_ n3_
        (try clear hb)
        (try clear hb2)
        (try clear hk)
        (try clear hi)
        refine hK.out _ _ ⟨(IsS63.cell_0 HI0.out), (IsS63.cell_1 HI0.out), (IsS63.cell_2 HI0.out), (IsS63.cell_3 HI0.out), (IsS63.cell_4 HI0.out), (IsS63.cell_5 HI0.out), (IsS63.cell_6 HI0.out), (IsS63.cell_7 HI0.out), (IsS63.cell_8 HI0.out), (blk_cell BK120.out 0).trans rfl, (blk_cell BK120.out 1).trans rfl, (blk_cell BK120.out 2).trans rfl⟩ (fun hHeld => ?_)
        clear hK K
        refine norm_ (a' := ?_) ?_ ?_
        rotate_left
        ·show Act.put _ (some 36) _ = _
         simp only [puts_]
         rfl
        refine pure_ (i := 8) (N := some 4) (v := ?_) (a' := ?_) (bl 9 511) rfl rfl (any_of HT_.out (by kernel_rfl)) (fun _ _ _ h => h) (Or.inl ⟨by rfl, ?_⟩) ?_ ?_
        rotate_left
        ·intro w'
         go_simp
         with_reducible rfl
        rotate_left
        ·simp only [puts_]
         rfl
        refine done_ (done_of HT_.out (by kernel_rfl)) ?_
        obtain ⟨HGz20, hgz20⟩ := HI0.out
        have hcz20_0 := cellS63_0 HGz20
        have hcz20_1 := cellS63_1 HGz20
        have hcz20_2 := cellS63_2 HGz20
        have hcz20_3 := cellS63_3 HGz20
        have hcz20_4 := cellS63_4 HGz20
        have hcz20_5 := cellS63_5 HGz20
        have hcz20_6 := cellS63_6 HGz20
        have hcz20_7 := cellS63_7 HGz20
        have hcz20_8 := cellS63_8 HGz20
        have hfz20_0 := blk_frozen HGz20 0
        have hfz20_1 := blk_frozen HGz20 1
        have hfz20_2 := blk_frozen HGz20 2
        have hfz20_3 := blk_frozen HGz20 3
        have hfz20_4 := blk_frozen HGz20 4
        have hfz20_5 := blk_frozen HGz20 5
        have hfz20_6 := blk_frozen HGz20 6
        have hfz20_7 := blk_frozen HGz20 7
        have hfz20_8 := blk_frozen HGz20 8
        clear HGz20 hgz20
        have hnb21 := NB120_0.out
        have hnc21 := NB0_120.out
        have hcz22_0 : w19.cell? ⟨gb120, 0, none⟩ = some (.int .i64 a1_0) := (blk_cell BK120.out 0).trans rfl
        have hcz22_1 : w19.cell? ⟨gb120, 1, none⟩ = some (.int .i64 a1_1) := (blk_cell BK120.out 1).trans rfl
        have hcz22_2 : w19.cell? ⟨gb120, 2, none⟩ = some (.int .i64 a1_2) := (blk_cell BK120.out 2).trans rfl
        have hfz22_0 := blk_frozen BK120.out 0
        have hfz22_1 := blk_frozen BK120.out 1
        have hfz22_2 := blk_frozen BK120.out 2
        try go_wp2_with (first | ((with_reducible refine gate_callee (f := 50) rfl ?_); refine goesL_ (some 46) rfl rfl Try.func50 (by kernel_rfl) rfl #[.int .i64 9600, .int .i64 a1_2, .int .i64 (wrap64 (a1_1 + 100000)), .int .i64 3] rfl (by (try simp only [List.map_toArray, List.map_cons, List.map_nil]); first | done | rfl | (simp only [List.length_drop, List.length_take]; rfl)) ?_; (with_reducible refine (muldiv_Do.calls 9600 a1_2 (wrap64 (a1_1 + 100000)) 3 t122 _ A13.out).mono ?_); rintro e w23 ⟨rfl, hb⟩; refine ⟨_, rfl, ?_⟩; have n0_ := Aside0.mk (blk_below (g := gb120) (o := .cells #[.int .i64 a1_0, .int .i64 a1_1, .int .i64 a1_2] 66 (0, 0)) (by (with_reducible repeat (first | refine blk_drewN ?_ _ | refine blk_drew ?_ | refine blk_alloc ?_ _)); exact BK120.out) hb); have n1_ := Aside0.mk (IsS63.below (by repeat (first | (with_reducible first | exact HI0.out | apply IsS63.alloc | apply IsS63.drewN | apply IsS63.drew | apply IsS63.set_0 | apply IsS63.set_1 | apply IsS63.set_2 | apply IsS63.set_3 | apply IsS63.set_4 | apply IsS63.set_5 | apply IsS63.set_6 | apply IsS63.set_7 | apply IsS63.set_8 | refine IsS63.far ?_ NB0_120.out _) | exact HI0.out)) hb); have n2_ := Aside0.mk (KeepBut.trans (by repeat (first | (with_reducible first | exact HK.out | apply KeepBut.set_ | apply keep_drewN | apply keep_drew | apply keep_alloc | refine keep_far ?_ GW120.out _) | exact HK.out)) (KeepBut.of_below hb g none) (.inl rfl)); have n3_ := Aside0.mk (below_step (by repeat (first | (with_reducible first | exact HB.out | apply below_alloc | apply pw_below_drewN | apply below_drew1 | refine below_set ?_ (IsS63.ge HI0.out) | refine below_set ?_ GE120.out) | exact HB.out)) hb); clear BK120; clear HI0; clear HK; clear HB; have BK120 := n0_; have HI0 := n1_; have HK := n2_; have HB := n3_; clear n0_ n1_ n2_ n3_; (try clear hb); (try clear hb2); (try clear hk); (try clear hi); obtain ⟨HGz24, hgz24⟩ := HI0.out; have hcz24_0 := cellS63_0 HGz24; have hcz24_1 := cellS63_1 HGz24; have hcz24_2 := cellS63_2 HGz24; have hcz24_3 := cellS63_3 HGz24; have hcz24_4 := cellS63_4 HGz24; have hcz24_5 := cellS63_5 HGz24; have hcz24_6 := cellS63_6 HGz24; have hcz24_7 := cellS63_7 HGz24; have hcz24_8 := cellS63_8 HGz24; have hfz24_0 := blk_frozen HGz24 0; have hfz24_1 := blk_frozen HGz24 1; have hfz24_2 := blk_frozen HGz24 2; have hfz24_3 := blk_frozen HGz24 3; have hfz24_4 := blk_frozen HGz24 4; have hfz24_5 := blk_frozen HGz24 5; have hfz24_6 := blk_frozen HGz24 6; have hfz24_7 := blk_frozen HGz24 7; have hfz24_8 := blk_frozen HGz24 8; clear HGz24 hgz24; have hcz25_0 : w23.cell? ⟨gb120, 0, none⟩ = some (.int .i64 a1_0) := (blk_cell BK120.out 0).trans rfl; have hcz25_1 : w23.cell? ⟨gb120, 1, none⟩ = some (.int .i64 a1_1) := (blk_cell BK120.out 1).trans rfl; have hcz25_2 : w23.cell? ⟨gb120, 2, none⟩ = some (.int .i64 a1_2) := (blk_cell BK120.out 2).trans rfl; have hfz25_0 := blk_frozen BK120.out 0; have hfz25_1 := blk_frozen BK120.out 1; have hfz25_2 := blk_frozen BK120.out 2))
        first | go_end0 | ((try simp only [Exit.inBlock, Exit.then]); refine bodyPost_ret (results_none rfl _ _ _) rfl ?_)
        exact ⟨by first | rfl | (simp [errW_none, errW_some] <;> rfl) | (simp only [← hji14, ← hji17]; first | rfl | (simp [errW_none, errW_some] <;> rfl)) | (simp [*, errW_none, errW_some] <;> rfl), by repeat (first | (with_reducible first | exact HI0.out | apply IsS63.alloc | apply IsS63.drewN | apply IsS63.drew | apply IsS63.set_0 | apply IsS63.set_1 | apply IsS63.set_2 | apply IsS63.set_3 | apply IsS63.set_4 | apply IsS63.set_5 | apply IsS63.set_6 | apply IsS63.set_7 | apply IsS63.set_8 | refine IsS63.far ?_ NB0_120.out _) | exact HI0.out), by repeat (first | (with_reducible first | exact HB.out | apply below_alloc | apply pw_below_drewN | apply below_drew1 | refine below_set ?_ (IsS63.ge HI0.out) | refine below_set ?_ GE120.out) | exact HB.out), by repeat (first | (with_reducible first | exact HK.out | apply KeepBut.set_ | apply keep_drewN | apply keep_drew | apply keep_alloc | refine keep_far ?_ GW120.out _) | exact HK.out)⟩
       ·rw [if_neg c16] at H
        have c16b0 : decide ((wrap64 ((wrap64 (Int.tdiv (wrap64 (3 * a1_0)) 2)) + 10000)) < (wrap64 (s0_0 + (ji14)))) = false := decide_eq_false c16
        clear c16
        simp only [Option.some.injEq, Prod.mk.injEq] at H
        obtain ⟨rfl, rfl, rfl, rfl, rfl, rfl, rfl, rfl, rfl⟩ := H
        try go_wp2
        have n0_ := Aside0.mk (blk_drew BK120.out)
        have n1_ := Aside0.mk (IsS63.drew HI0.out)
        have n2_ := Aside0.mk (keep_drew HK.out)
        have n3_ := Aside0.mk (below_drew1 HB.out)
        clear BK120
        clear HI0
        clear HK
        clear HB
        have BK120 := n0_
        have HI0 := n1_
        have HK := n2_
        have HB := n3_
        clear n0_ n1_ n2_ n3_
        refine start_ (n := 9) (S := fun w' => w'.cell? ⟨g, 0, none⟩ = some (.int .i64 s0_0) ∧ w'.cell? ⟨g, 1, none⟩ = some (.int .i64 s0_1) ∧ w'.cell? ⟨g, 2, none⟩ = some (.int .i64 s0_2) ∧ w'.cell? ⟨g, 3, none⟩ = some (.int .i64 s0_3) ∧ w'.cell? ⟨g, 4, none⟩ = some (.bool true) ∧ w'.cell? ⟨g, 5, none⟩ = some (.int .i64 s0_5) ∧ w'.cell? ⟨g, 6, none⟩ = some (.int .i64 s0_6) ∧ w'.cell? ⟨g, 7, none⟩ = some (.bool s0_7) ∧ w'.cell? ⟨g, 8, none⟩ = some (.int .i64 s0_8) ∧ w'.cell? ⟨gb120, 0, none⟩ = some (.int .i64 a1_0) ∧ w'.cell? ⟨gb120, 1, none⟩ = some (.int .i64 a1_1) ∧ w'.cell? ⟨gb120, 2, none⟩ = some (.int .i64 a1_2)) (ds := []) #[false, false, false, false, false, false, false, false, false] (by kernel_rfl) rfl rfl ⟨(IsS63.cell_0 HI0.out), (IsS63.cell_1 HI0.out), (IsS63.cell_2 HI0.out), (IsS63.cell_3 HI0.out), (IsS63.cell_4 HI0.out), (IsS63.cell_5 HI0.out), (IsS63.cell_6 HI0.out), (IsS63.cell_7 HI0.out), (IsS63.cell_8 HI0.out), (blk_cell BK120.out 0).trans rfl, (blk_cell BK120.out 1).trans rfl, (blk_cell BK120.out 2).trans rfl⟩ (fun hHeld => ?_); refine with_tabW aimd_Aimd_lift.tab3 aimd_Aimd_lift.bits3 (fun HT_ HW_ => ?_)
        generalize wc.drew = w26 at BK120 HI0 HK HB hHeld ⊢
        refine pure_ (i := 0) (N := some 29) (v := ?_) (a' := ?_) (bl 9 1) rfl rfl (any_of HT_.out (by kernel_rfl)) (fun _ _ _ h => h) (Or.inl ⟨by rfl, ?_⟩) ?_ ?_
        rotate_left
        ·intro w'
         go_simp
         with_reducible rfl
        rotate_left
        ·simp only [puts_]
         rfl
        refine pure_ (i := 1) (N := some 30) (v := ?_) (a' := ?_) (bl 9 3) rfl rfl (any_of HT_.out (by kernel_rfl)) (fun _ _ _ h => h) (Or.inl ⟨by rfl, ?_⟩) ?_ ?_
        rotate_left
        ·intro w'
         go_simp
         with_reducible rfl
        rotate_left
        ·simp only [puts_]
         rfl
        refine pure_ (i := 2) (N := some 31) (v := ?_) (a' := ?_) (bl 9 7) rfl rfl (any_of HT_.out (by kernel_rfl)) (fun _ _ _ h => h) (Or.inl ⟨by rfl, ?_⟩) ?_ ?_
        rotate_left
        ·intro w'
         go_simp
         with_reducible rfl
        rotate_left
        ·simp only [puts_]
         rfl
        refine pure_ (i := 4) (N := some 33) (v := ?_) (a' := ?_) (bl 9 23) rfl rfl (any_of HT_.out (by kernel_rfl)) (fun _ _ _ h => h) (Or.inl ⟨by rfl, ?_⟩) ?_ ?_
        rotate_left
        ·intro w'
         go_simp
         with_reducible rfl
        rotate_left
        ·simp only [puts_]
         rfl
        refine take_ (i := 3) (N := some 32) (v := ?_) (a' := ?_) (bl 9 31) rfl rfl (take_ofW HT_.out HW_.out (by kernel_rfl)) (fun _ _ _ h => h) (Or.inl ⟨by rfl, ?_⟩) hHeld ?_ ?_
        rotate_left
        ·rintro w' ⟨s0, s1, s2, s3, s4, s5, s6, s7, s8, s9, s10, s11⟩
         go_simp
         with_reducible rfl
        rotate_left
        ·simp only [puts_]
         rfl
        refine take_ (i := 5) (N := some 34) (v := ?_) (a' := ?_) (bl 9 63) rfl rfl (take_ofW HT_.out HW_.out (by kernel_rfl)) (fun _ _ _ h => h) (Or.inl ⟨by rfl, ?_⟩) hHeld ?_ ?_
        rotate_left
        ·rintro w' ⟨s0, s1, s2, s3, s4, s5, s6, s7, s8, s9, s10, s11⟩
         go_simp
         with_reducible rfl
        rotate_left
        ·simp only [puts_]
         rfl
        refine pure_ (i := 6) (N := some 35) (v := ?_) (a' := ?_) (bl 9 127) rfl rfl (any_of HT_.out (by kernel_rfl)) (fun _ _ _ h => h) (Or.inl ⟨by rfl, ?_⟩) ?_ ?_
        rotate_left
        ·intro w'
         go_simp
         with_reducible rfl
        rotate_left
        ·simp only [puts_]
         rfl
        refine one_ (i := 7) (N := some 36) (bl 9 255) rfl rfl (one_of HT_.out (by kernel_rfl)) (by decide) (fun K hK => ?_)
        refine goes_ Try.func50 (by kernel_rfl) rfl #[.int .i64 s0_0, .int .i64 (wrap64 (8 * a1_2)), .int .i64 100000000, .int .i64 3] (by rfl) rfl rfl (by (try simp only [List.map_toArray, List.map_cons, List.map_nil]); first | done | rfl | (simp only [List.length_drop, List.length_take]; rfl)) ?_
        with_reducible refine (muldiv_Do.calls s0_0 (wrap64 (8 * a1_2)) 100000000 3 t121 _ A11.out).mono ?_
        rintro e w27 ⟨rfl, hb⟩
        refine ⟨_, rfl, ?_⟩
        have n0_ := Aside0.mk (blk_below (g := gb120) (o := .cells #[.int .i64 a1_0, .int .i64 a1_1, .int .i64 a1_2] 66 (0, 0)) (by (with_reducible repeat (first | refine blk_drewN ?_ _ | refine blk_drew ?_ | refine blk_alloc ?_ _)); exact BK120.out) hb)
        have n1_ := Aside0.mk (IsS63.below (by repeat (first | (with_reducible first | exact HI0.out | apply IsS63.alloc | apply IsS63.drewN | apply IsS63.drew | apply IsS63.set_0 | apply IsS63.set_1 | apply IsS63.set_2 | apply IsS63.set_3 | apply IsS63.set_4 | apply IsS63.set_5 | apply IsS63.set_6 | apply IsS63.set_7 | apply IsS63.set_8 | refine IsS63.far ?_ NB0_120.out _) | exact HI0.out)) hb)
        have n2_ := Aside0.mk (KeepBut.trans (by repeat (first | (with_reducible first | exact HK.out | apply KeepBut.set_ | apply keep_drewN | apply keep_drew | apply keep_alloc | refine keep_far ?_ GW120.out _) | exact HK.out)) (KeepBut.of_below hb g none) (.inl rfl))
        have n3_ := Aside0.mk (below_step (by repeat (first | (with_reducible first | exact HB.out | apply below_alloc | apply pw_below_drewN | apply below_drew1 | refine below_set ?_ (IsS63.ge HI0.out) | refine below_set ?_ GE120.out) | exact HB.out)) hb)
        clear BK120
        clear HI0
        clear HK
        clear HB
        have BK120 := n0_
        have HI0 := n1_
        have HK := n2_
        have HB := n3_
        clear n0_ n1_ n2_ n3_
        (try clear hb)
        (try clear hb2)
        (try clear hk)
        (try clear hi)
        refine hK.out _ _ ⟨(IsS63.cell_0 HI0.out), (IsS63.cell_1 HI0.out), (IsS63.cell_2 HI0.out), (IsS63.cell_3 HI0.out), (IsS63.cell_4 HI0.out), (IsS63.cell_5 HI0.out), (IsS63.cell_6 HI0.out), (IsS63.cell_7 HI0.out), (IsS63.cell_8 HI0.out), (blk_cell BK120.out 0).trans rfl, (blk_cell BK120.out 1).trans rfl, (blk_cell BK120.out 2).trans rfl⟩ (fun hHeld => ?_)
        clear hK K
        refine norm_ (a' := ?_) ?_ ?_
        rotate_left
        ·show Act.put _ (some 36) _ = _
         simp only [puts_]
         rfl
        refine pure_ (i := 8) (N := some 4) (v := ?_) (a' := ?_) (bl 9 511) rfl rfl (any_of HT_.out (by kernel_rfl)) (fun _ _ _ h => h) (Or.inl ⟨by rfl, ?_⟩) ?_ ?_
        rotate_left
        ·intro w'
         go_simp
         with_reducible rfl
        rotate_left
        ·simp only [puts_]
         rfl
        refine done_ (done_of HT_.out (by kernel_rfl)) ?_
        obtain ⟨HGz28, hgz28⟩ := HI0.out
        have hcz28_0 := cellS63_0 HGz28
        have hcz28_1 := cellS63_1 HGz28
        have hcz28_2 := cellS63_2 HGz28
        have hcz28_3 := cellS63_3 HGz28
        have hcz28_4 := cellS63_4 HGz28
        have hcz28_5 := cellS63_5 HGz28
        have hcz28_6 := cellS63_6 HGz28
        have hcz28_7 := cellS63_7 HGz28
        have hcz28_8 := cellS63_8 HGz28
        have hfz28_0 := blk_frozen HGz28 0
        have hfz28_1 := blk_frozen HGz28 1
        have hfz28_2 := blk_frozen HGz28 2
        have hfz28_3 := blk_frozen HGz28 3
        have hfz28_4 := blk_frozen HGz28 4
        have hfz28_5 := blk_frozen HGz28 5
        have hfz28_6 := blk_frozen HGz28 6
        have hfz28_7 := blk_frozen HGz28 7
        have hfz28_8 := blk_frozen HGz28 8
        clear HGz28 hgz28
        have hnb29 := NB120_0.out
        have hnc29 := NB0_120.out
        have hcz30_0 : w27.cell? ⟨gb120, 0, none⟩ = some (.int .i64 a1_0) := (blk_cell BK120.out 0).trans rfl
        have hcz30_1 : w27.cell? ⟨gb120, 1, none⟩ = some (.int .i64 a1_1) := (blk_cell BK120.out 1).trans rfl
        have hcz30_2 : w27.cell? ⟨gb120, 2, none⟩ = some (.int .i64 a1_2) := (blk_cell BK120.out 2).trans rfl
        have hfz30_0 := blk_frozen BK120.out 0
        have hfz30_1 := blk_frozen BK120.out 1
        have hfz30_2 := blk_frozen BK120.out 2
        try go_wp2_with (first | ((with_reducible refine gate_callee (f := 50) rfl ?_); refine goesL_ (some 46) rfl rfl Try.func50 (by kernel_rfl) rfl #[.int .i64 9600, .int .i64 a1_2, .int .i64 (wrap64 (a1_1 + 100000)), .int .i64 3] rfl (by (try simp only [List.map_toArray, List.map_cons, List.map_nil]); first | done | rfl | (simp only [List.length_drop, List.length_take]; rfl)) ?_; (with_reducible refine (muldiv_Do.calls 9600 a1_2 (wrap64 (a1_1 + 100000)) 3 t122 _ A13.out).mono ?_); rintro e w31 ⟨rfl, hb⟩; refine ⟨_, rfl, ?_⟩; have n0_ := Aside0.mk (blk_below (g := gb120) (o := .cells #[.int .i64 a1_0, .int .i64 a1_1, .int .i64 a1_2] 66 (0, 0)) (by (with_reducible repeat (first | refine blk_drewN ?_ _ | refine blk_drew ?_ | refine blk_alloc ?_ _)); exact BK120.out) hb); have n1_ := Aside0.mk (IsS63.below (by repeat (first | (with_reducible first | exact HI0.out | apply IsS63.alloc | apply IsS63.drewN | apply IsS63.drew | apply IsS63.set_0 | apply IsS63.set_1 | apply IsS63.set_2 | apply IsS63.set_3 | apply IsS63.set_4 | apply IsS63.set_5 | apply IsS63.set_6 | apply IsS63.set_7 | apply IsS63.set_8 | refine IsS63.far ?_ NB0_120.out _) | exact HI0.out)) hb); have n2_ := Aside0.mk (KeepBut.trans (by repeat (first | (with_reducible first | exact HK.out | apply KeepBut.set_ | apply keep_drewN | apply keep_drew | apply keep_alloc | refine keep_far ?_ GW120.out _) | exact HK.out)) (KeepBut.of_below hb g none) (.inl rfl)); have n3_ := Aside0.mk (below_step (by repeat (first | (with_reducible first | exact HB.out | apply below_alloc | apply pw_below_drewN | apply below_drew1 | refine below_set ?_ (IsS63.ge HI0.out) | refine below_set ?_ GE120.out) | exact HB.out)) hb); clear BK120; clear HI0; clear HK; clear HB; have BK120 := n0_; have HI0 := n1_; have HK := n2_; have HB := n3_; clear n0_ n1_ n2_ n3_; (try clear hb); (try clear hb2); (try clear hk); (try clear hi); obtain ⟨HGz32, hgz32⟩ := HI0.out; have hcz32_0 := cellS63_0 HGz32; have hcz32_1 := cellS63_1 HGz32; have hcz32_2 := cellS63_2 HGz32; have hcz32_3 := cellS63_3 HGz32; have hcz32_4 := cellS63_4 HGz32; have hcz32_5 := cellS63_5 HGz32; have hcz32_6 := cellS63_6 HGz32; have hcz32_7 := cellS63_7 HGz32; have hcz32_8 := cellS63_8 HGz32; have hfz32_0 := blk_frozen HGz32 0; have hfz32_1 := blk_frozen HGz32 1; have hfz32_2 := blk_frozen HGz32 2; have hfz32_3 := blk_frozen HGz32 3; have hfz32_4 := blk_frozen HGz32 4; have hfz32_5 := blk_frozen HGz32 5; have hfz32_6 := blk_frozen HGz32 6; have hfz32_7 := blk_frozen HGz32 7; have hfz32_8 := blk_frozen HGz32 8; clear HGz32 hgz32; have hcz33_0 : w31.cell? ⟨gb120, 0, none⟩ = some (.int .i64 a1_0) := (blk_cell BK120.out 0).trans rfl; have hcz33_1 : w31.cell? ⟨gb120, 1, none⟩ = some (.int .i64 a1_1) := (blk_cell BK120.out 1).trans rfl; have hcz33_2 : w31.cell? ⟨gb120, 2, none⟩ = some (.int .i64 a1_2) := (blk_cell BK120.out 2).trans rfl; have hfz33_0 := blk_frozen BK120.out 0; have hfz33_1 := blk_frozen BK120.out 1; have hfz33_2 := blk_frozen BK120.out 2))
        first | go_end0 | ((try simp only [Exit.inBlock, Exit.then]); refine bodyPost_ret (results_none rfl _ _ _) rfl ?_)
        exact ⟨by first | rfl | (simp [errW_none, errW_some] <;> rfl) | (simp only [← hji14]; first | rfl | (simp [errW_none, errW_some] <;> rfl)) | (simp [*, errW_none, errW_some] <;> rfl), by repeat (first | (with_reducible first | exact HI0.out | apply IsS63.alloc | apply IsS63.drewN | apply IsS63.drew | apply IsS63.set_0 | apply IsS63.set_1 | apply IsS63.set_2 | apply IsS63.set_3 | apply IsS63.set_4 | apply IsS63.set_5 | apply IsS63.set_6 | apply IsS63.set_7 | apply IsS63.set_8 | refine IsS63.far ?_ NB0_120.out _) | exact HI0.out), by repeat (first | (with_reducible first | exact HB.out | apply below_alloc | apply pw_below_drewN | apply below_drew1 | refine below_set ?_ (IsS63.ge HI0.out) | refine below_set ?_ GE120.out) | exact HB.out), by repeat (first | (with_reducible first | exact HK.out | apply KeepBut.set_ | apply keep_drewN | apply keep_drew | apply keep_alloc | refine keep_far ?_ GW120.out _) | exact HK.out)⟩
      ·rw [if_neg c15] at H
       have c15b0 : decide (0 < a1_0) = false := decide_eq_false c15
       clear c15
       simp only [Option.some.injEq, Prod.mk.injEq] at H
       obtain ⟨rfl, rfl, rfl, rfl, rfl, rfl, rfl, rfl, rfl⟩ := H
       try go_wp2
       have n0_ := Aside0.mk (blk_drew BK120.out)
       have n1_ := Aside0.mk (IsS63.drew HI0.out)
       have n2_ := Aside0.mk (keep_drew HK.out)
       have n3_ := Aside0.mk (below_drew1 HB.out)
       clear BK120
       clear HI0
       clear HK
       clear HB
       have BK120 := n0_
       have HI0 := n1_
       have HK := n2_
       have HB := n3_
       clear n0_ n1_ n2_ n3_
       refine start_ (n := 9) (S := fun w' => w'.cell? ⟨g, 0, none⟩ = some (.int .i64 s0_0) ∧ w'.cell? ⟨g, 1, none⟩ = some (.int .i64 s0_1) ∧ w'.cell? ⟨g, 2, none⟩ = some (.int .i64 s0_2) ∧ w'.cell? ⟨g, 3, none⟩ = some (.int .i64 s0_3) ∧ w'.cell? ⟨g, 4, none⟩ = some (.bool true) ∧ w'.cell? ⟨g, 5, none⟩ = some (.int .i64 s0_5) ∧ w'.cell? ⟨g, 6, none⟩ = some (.int .i64 s0_6) ∧ w'.cell? ⟨g, 7, none⟩ = some (.bool s0_7) ∧ w'.cell? ⟨g, 8, none⟩ = some (.int .i64 s0_8) ∧ w'.cell? ⟨gb120, 0, none⟩ = some (.int .i64 a1_0) ∧ w'.cell? ⟨gb120, 1, none⟩ = some (.int .i64 a1_1) ∧ w'.cell? ⟨gb120, 2, none⟩ = some (.int .i64 a1_2)) (ds := []) #[false, false, false, false, false, false, false, false, false] (by kernel_rfl) rfl rfl ⟨(IsS63.cell_0 HI0.out), (IsS63.cell_1 HI0.out), (IsS63.cell_2 HI0.out), (IsS63.cell_3 HI0.out), (IsS63.cell_4 HI0.out), (IsS63.cell_5 HI0.out), (IsS63.cell_6 HI0.out), (IsS63.cell_7 HI0.out), (IsS63.cell_8 HI0.out), (blk_cell BK120.out 0).trans rfl, (blk_cell BK120.out 1).trans rfl, (blk_cell BK120.out 2).trans rfl⟩ (fun hHeld => ?_); refine with_tabW aimd_Aimd_lift.tab3 aimd_Aimd_lift.bits3 (fun HT_ HW_ => ?_)
       generalize wc.drew = w34 at BK120 HI0 HK HB hHeld ⊢
       refine pure_ (i := 0) (N := some 29) (v := ?_) (a' := ?_) (bl 9 1) rfl rfl (any_of HT_.out (by kernel_rfl)) (fun _ _ _ h => h) (Or.inl ⟨by rfl, ?_⟩) ?_ ?_
       rotate_left
       ·intro w'
        go_simp
        with_reducible rfl
       rotate_left
       ·simp only [puts_]
        rfl
       refine pure_ (i := 1) (N := some 30) (v := ?_) (a' := ?_) (bl 9 3) rfl rfl (any_of HT_.out (by kernel_rfl)) (fun _ _ _ h => h) (Or.inl ⟨by rfl, ?_⟩) ?_ ?_
       rotate_left
       ·intro w'
        go_simp
        with_reducible rfl
       rotate_left
       ·simp only [puts_]
        rfl
       refine pure_ (i := 2) (N := some 31) (v := ?_) (a' := ?_) (bl 9 7) rfl rfl (any_of HT_.out (by kernel_rfl)) (fun _ _ _ h => h) (Or.inl ⟨by rfl, ?_⟩) ?_ ?_
       rotate_left
       ·intro w'
        go_simp
        with_reducible rfl
       rotate_left
       ·simp only [puts_]
        rfl
       refine pure_ (i := 4) (N := some 33) (v := ?_) (a' := ?_) (bl 9 23) rfl rfl (any_of HT_.out (by kernel_rfl)) (fun _ _ _ h => h) (Or.inl ⟨by rfl, ?_⟩) ?_ ?_
       rotate_left
       ·intro w'
        go_simp
        with_reducible rfl
       rotate_left
       ·simp only [puts_]
        rfl
       refine take_ (i := 3) (N := some 32) (v := ?_) (a' := ?_) (bl 9 31) rfl rfl (take_ofW HT_.out HW_.out (by kernel_rfl)) (fun _ _ _ h => h) (Or.inl ⟨by rfl, ?_⟩) hHeld ?_ ?_
       rotate_left
       ·rintro w' ⟨s0, s1, s2, s3, s4, s5, s6, s7, s8, s9, s10, s11⟩
        go_simp
        with_reducible rfl
       rotate_left
       ·simp only [puts_]
        rfl
       refine take_ (i := 5) (N := some 34) (v := ?_) (a' := ?_) (bl 9 63) rfl rfl (take_ofW HT_.out HW_.out (by kernel_rfl)) (fun _ _ _ h => h) (Or.inl ⟨by rfl, ?_⟩) hHeld ?_ ?_
       rotate_left
       ·rintro w' ⟨s0, s1, s2, s3, s4, s5, s6, s7, s8, s9, s10, s11⟩
        go_simp
        with_reducible rfl
       rotate_left
       ·simp only [puts_]
        rfl
       refine pure_ (i := 6) (N := some 35) (v := ?_) (a' := ?_) (bl 9 127) rfl rfl (any_of HT_.out (by kernel_rfl)) (fun _ _ _ h => h) (Or.inl ⟨by rfl, ?_⟩) ?_ ?_
       rotate_left
       ·intro w'
        go_simp
        with_reducible rfl
       rotate_left
       ·simp only [puts_]
        rfl
       refine one_ (i := 7) (N := some 36) (bl 9 255) rfl rfl (one_of HT_.out (by kernel_rfl)) (by decide) (fun K hK => ?_)
       refine goes_ Try.func50 (by kernel_rfl) rfl #[.int .i64 s0_0, .int .i64 (wrap64 (8 * a1_2)), .int .i64 100000000, .int .i64 3] (by rfl) rfl rfl (by (try simp only [List.map_toArray, List.map_cons, List.map_nil]); first | done | rfl | (simp only [List.length_drop, List.length_take]; rfl)) ?_
       with_reducible refine (muldiv_Do.calls s0_0 (wrap64 (8 * a1_2)) 100000000 3 t121 _ A11.out).mono ?_
       rintro e w35 ⟨rfl, hb⟩
       refine ⟨_, rfl, ?_⟩
       have n0_ := Aside0.mk (blk_below (g := gb120) (o := .cells #[.int .i64 a1_0, .int .i64 a1_1, .int .i64 a1_2] 66 (0, 0)) (by (with_reducible repeat (first | refine blk_drewN ?_ _ | refine blk_drew ?_ | refine blk_alloc ?_ _)); exact BK120.out) hb)
       have n1_ := Aside0.mk (IsS63.below (by repeat (first | (with_reducible first | exact HI0.out | apply IsS63.alloc | apply IsS63.drewN | apply IsS63.drew | apply IsS63.set_0 | apply IsS63.set_1 | apply IsS63.set_2 | apply IsS63.set_3 | apply IsS63.set_4 | apply IsS63.set_5 | apply IsS63.set_6 | apply IsS63.set_7 | apply IsS63.set_8 | refine IsS63.far ?_ NB0_120.out _) | exact HI0.out)) hb)
       have n2_ := Aside0.mk (KeepBut.trans (by repeat (first | (with_reducible first | exact HK.out | apply KeepBut.set_ | apply keep_drewN | apply keep_drew | apply keep_alloc | refine keep_far ?_ GW120.out _) | exact HK.out)) (KeepBut.of_below hb g none) (.inl rfl))
       have n3_ := Aside0.mk (below_step (by repeat (first | (with_reducible first | exact HB.out | apply below_alloc | apply pw_below_drewN | apply below_drew1 | refine below_set ?_ (IsS63.ge HI0.out) | refine below_set ?_ GE120.out) | exact HB.out)) hb)
       clear BK120
       clear HI0
       clear HK
       clear HB
       have BK120 := n0_
       have HI0 := n1_
       have HK := n2_
       have HB := n3_
       clear n0_ n1_ n2_ n3_
       (try clear hb)
       (try clear hb2)
       (try clear hk)
       (try clear hi)
       refine hK.out _ _ ⟨(IsS63.cell_0 HI0.out), (IsS63.cell_1 HI0.out), (IsS63.cell_2 HI0.out), (IsS63.cell_3 HI0.out), (IsS63.cell_4 HI0.out), (IsS63.cell_5 HI0.out), (IsS63.cell_6 HI0.out), (IsS63.cell_7 HI0.out), (IsS63.cell_8 HI0.out), (blk_cell BK120.out 0).trans rfl, (blk_cell BK120.out 1).trans rfl, (blk_cell BK120.out 2).trans rfl⟩ (fun hHeld => ?_)
       clear hK K
       refine norm_ (a' := ?_) ?_ ?_
       rotate_left
       ·show Act.put _ (some 36) _ = _
        simp only [puts_]
        rfl
       refine pure_ (i := 8) (N := some 4) (v := ?_) (a' := ?_) (bl 9 511) rfl rfl (any_of HT_.out (by kernel_rfl)) (fun _ _ _ h => h) (Or.inl ⟨by rfl, ?_⟩) ?_ ?_
       rotate_left
       ·intro w'
        go_simp
        with_reducible rfl
       rotate_left
       ·simp only [puts_]
        rfl
       refine done_ (done_of HT_.out (by kernel_rfl)) ?_
       obtain ⟨HGz36, hgz36⟩ := HI0.out
       have hcz36_0 := cellS63_0 HGz36
       have hcz36_1 := cellS63_1 HGz36
       have hcz36_2 := cellS63_2 HGz36
       have hcz36_3 := cellS63_3 HGz36
       have hcz36_4 := cellS63_4 HGz36
       have hcz36_5 := cellS63_5 HGz36
       have hcz36_6 := cellS63_6 HGz36
       have hcz36_7 := cellS63_7 HGz36
       have hcz36_8 := cellS63_8 HGz36
       have hfz36_0 := blk_frozen HGz36 0
       have hfz36_1 := blk_frozen HGz36 1
       have hfz36_2 := blk_frozen HGz36 2
       have hfz36_3 := blk_frozen HGz36 3
       have hfz36_4 := blk_frozen HGz36 4
       have hfz36_5 := blk_frozen HGz36 5
       have hfz36_6 := blk_frozen HGz36 6
       have hfz36_7 := blk_frozen HGz36 7
       have hfz36_8 := blk_frozen HGz36 8
       clear HGz36 hgz36
       have hnb37 := NB120_0.out
       have hnc37 := NB0_120.out
       have hcz38_0 : w35.cell? ⟨gb120, 0, none⟩ = some (.int .i64 a1_0) := (blk_cell BK120.out 0).trans rfl
       have hcz38_1 : w35.cell? ⟨gb120, 1, none⟩ = some (.int .i64 a1_1) := (blk_cell BK120.out 1).trans rfl
       have hcz38_2 : w35.cell? ⟨gb120, 2, none⟩ = some (.int .i64 a1_2) := (blk_cell BK120.out 2).trans rfl
       have hfz38_0 := blk_frozen BK120.out 0
       have hfz38_1 := blk_frozen BK120.out 1
       have hfz38_2 := blk_frozen BK120.out 2
       try go_wp2_with (first | ((with_reducible refine gate_callee (f := 50) rfl ?_); refine goesL_ (some 46) rfl rfl Try.func50 (by kernel_rfl) rfl #[.int .i64 9600, .int .i64 a1_2, .int .i64 (wrap64 (a1_1 + 100000)), .int .i64 3] rfl (by (try simp only [List.map_toArray, List.map_cons, List.map_nil]); first | done | rfl | (simp only [List.length_drop, List.length_take]; rfl)) ?_; (with_reducible refine (muldiv_Do.calls 9600 a1_2 (wrap64 (a1_1 + 100000)) 3 t122 _ A13.out).mono ?_); rintro e w39 ⟨rfl, hb⟩; refine ⟨_, rfl, ?_⟩; have n0_ := Aside0.mk (blk_below (g := gb120) (o := .cells #[.int .i64 a1_0, .int .i64 a1_1, .int .i64 a1_2] 66 (0, 0)) (by (with_reducible repeat (first | refine blk_drewN ?_ _ | refine blk_drew ?_ | refine blk_alloc ?_ _)); exact BK120.out) hb); have n1_ := Aside0.mk (IsS63.below (by repeat (first | (with_reducible first | exact HI0.out | apply IsS63.alloc | apply IsS63.drewN | apply IsS63.drew | apply IsS63.set_0 | apply IsS63.set_1 | apply IsS63.set_2 | apply IsS63.set_3 | apply IsS63.set_4 | apply IsS63.set_5 | apply IsS63.set_6 | apply IsS63.set_7 | apply IsS63.set_8 | refine IsS63.far ?_ NB0_120.out _) | exact HI0.out)) hb); have n2_ := Aside0.mk (KeepBut.trans (by repeat (first | (with_reducible first | exact HK.out | apply KeepBut.set_ | apply keep_drewN | apply keep_drew | apply keep_alloc | refine keep_far ?_ GW120.out _) | exact HK.out)) (KeepBut.of_below hb g none) (.inl rfl)); have n3_ := Aside0.mk (below_step (by repeat (first | (with_reducible first | exact HB.out | apply below_alloc | apply pw_below_drewN | apply below_drew1 | refine below_set ?_ (IsS63.ge HI0.out) | refine below_set ?_ GE120.out) | exact HB.out)) hb); clear BK120; clear HI0; clear HK; clear HB; have BK120 := n0_; have HI0 := n1_; have HK := n2_; have HB := n3_; clear n0_ n1_ n2_ n3_; (try clear hb); (try clear hb2); (try clear hk); (try clear hi); obtain ⟨HGz40, hgz40⟩ := HI0.out; have hcz40_0 := cellS63_0 HGz40; have hcz40_1 := cellS63_1 HGz40; have hcz40_2 := cellS63_2 HGz40; have hcz40_3 := cellS63_3 HGz40; have hcz40_4 := cellS63_4 HGz40; have hcz40_5 := cellS63_5 HGz40; have hcz40_6 := cellS63_6 HGz40; have hcz40_7 := cellS63_7 HGz40; have hcz40_8 := cellS63_8 HGz40; have hfz40_0 := blk_frozen HGz40 0; have hfz40_1 := blk_frozen HGz40 1; have hfz40_2 := blk_frozen HGz40 2; have hfz40_3 := blk_frozen HGz40 3; have hfz40_4 := blk_frozen HGz40 4; have hfz40_5 := blk_frozen HGz40 5; have hfz40_6 := blk_frozen HGz40 6; have hfz40_7 := blk_frozen HGz40 7; have hfz40_8 := blk_frozen HGz40 8; clear HGz40 hgz40; have hcz41_0 : w39.cell? ⟨gb120, 0, none⟩ = some (.int .i64 a1_0) := (blk_cell BK120.out 0).trans rfl; have hcz41_1 : w39.cell? ⟨gb120, 1, none⟩ = some (.int .i64 a1_1) := (blk_cell BK120.out 1).trans rfl; have hcz41_2 : w39.cell? ⟨gb120, 2, none⟩ = some (.int .i64 a1_2) := (blk_cell BK120.out 2).trans rfl; have hfz41_0 := blk_frozen BK120.out 0; have hfz41_1 := blk_frozen BK120.out 1; have hfz41_2 := blk_frozen BK120.out 2))
       first | go_end0 | ((try simp only [Exit.inBlock, Exit.then]); refine bodyPost_ret (results_none rfl _ _ _) rfl ?_)
       exact ⟨by first | rfl | (simp [errW_none, errW_some] <;> rfl) | (simp only [← hji14]; first | rfl | (simp [errW_none, errW_some] <;> rfl)) | (simp [*, errW_none, errW_some] <;> rfl), by repeat (first | (with_reducible first | exact HI0.out | apply IsS63.alloc | apply IsS63.drewN | apply IsS63.drew | apply IsS63.set_0 | apply IsS63.set_1 | apply IsS63.set_2 | apply IsS63.set_3 | apply IsS63.set_4 | apply IsS63.set_5 | apply IsS63.set_6 | apply IsS63.set_7 | apply IsS63.set_8 | refine IsS63.far ?_ NB0_120.out _) | exact HI0.out), by repeat (first | (with_reducible first | exact HB.out | apply below_alloc | apply pw_below_drewN | apply below_drew1 | refine below_set ?_ (IsS63.ge HI0.out) | refine below_set ?_ GE120.out) | exact HB.out), by repeat (first | (with_reducible first | exact HK.out | apply KeepBut.set_ | apply keep_drewN | apply keep_drew | apply keep_alloc | refine keep_far ?_ GW120.out _) | exact HK.out)⟩
     ·replace c12 := Bool.eq_false_iff.mpr c12
      subst c12
      have H1 : (if a1_0 > 0 then (if (wrap64 ((wrap64 (Int.tdiv (wrap64 (3 * a1_0)) 2)) + 10000)) < (wrap64 (s0_0 + (mx t121 1000))) then (some (mx (wrap64 ((wrap64 (Int.tdiv (wrap64 (3 * a1_0)) 2)) + 10000)) s0_0, s0_1, s0_2, s0_3, false, s0_5, s0_6, s0_7, s0_8)) else (some (wrap64 (s0_0 + (mx t121 1000)), s0_1, s0_2, s0_3, false, s0_5, s0_6, s0_7, s0_8))) else (some (wrap64 (s0_0 + (mx t121 1000)), s0_1, s0_2, s0_3, false, s0_5, s0_6, s0_7, s0_8))) = some (r1, r2, r3, r4, r5, r6, r7, r8, r9) := by rw [if_neg (show ¬ (false = true) by decide)] at H; exact H
      clear H
      have H := H1
      clear H1
      obtain ⟨ji42, hji42⟩ : ∃ j_ : Int, (mx t121 1000) = j_ := ⟨_, rfl⟩
      replace H : (if a1_0 > 0 then (if (wrap64 ((wrap64 (Int.tdiv (wrap64 (3 * a1_0)) 2)) + 10000)) < (wrap64 (s0_0 + (ji42))) then (some (mx (wrap64 ((wrap64 (Int.tdiv (wrap64 (3 * a1_0)) 2)) + 10000)) s0_0, s0_1, s0_2, s0_3, false, s0_5, s0_6, s0_7, s0_8)) else (some (wrap64 (s0_0 + (ji42)), s0_1, s0_2, s0_3, false, s0_5, s0_6, s0_7, s0_8))) else (some (wrap64 (s0_0 + (ji42)), s0_1, s0_2, s0_3, false, s0_5, s0_6, s0_7, s0_8))) = some (r1, r2, r3, r4, r5, r6, r7, r8, r9) := by first | (rw [hji42] at H; exact H) | (simp only [hji42] at H ⊢; exact H)
      (try rw [hji42] at A11)
      (try (have hji42l : 1000 ≤ ji42 := by (rw [← hji42]; unfold mx; (repeat' split) <;> omega)))
      (try (have hji42m : 0 ≤ ji42 := by omega))
      have hji42_ : (if t121 < 1000 then 1000 else t121) = ji42 := hji42
      by_cases c43 : a1_0 > 0
      ·rw [if_pos c43] at H
       have c43b0 : decide (0 < a1_0) = true := decide_eq_true c43
       clear c43
       by_cases c44 : (wrap64 ((wrap64 (Int.tdiv (wrap64 (3 * a1_0)) 2)) + 10000)) < (wrap64 (s0_0 + (ji42)))
       ·rw [if_pos c44] at H
        have c44b0 : decide ((wrap64 ((wrap64 (Int.tdiv (wrap64 (3 * a1_0)) 2)) + 10000)) < (wrap64 (s0_0 + (ji42)))) = true := decide_eq_true c44
        clear c44
        obtain ⟨ji45, hji45⟩ : ∃ j_ : Int, (mx (wrap64 ((wrap64 (Int.tdiv (wrap64 (3 * a1_0)) 2)) + 10000)) s0_0) = j_ := ⟨_, rfl⟩
        replace H : (some (ji45, s0_1, s0_2, s0_3, false, s0_5, s0_6, s0_7, s0_8)) = some (r1, r2, r3, r4, r5, r6, r7, r8, r9) := by first | (rw [hji45] at H; exact H) | (simp only [hji45] at H ⊢; exact H)
        (try rw [hji45] at A11)
        have hji45_ : (if (wrap64 ((wrap64 (Int.tdiv (wrap64 (3 * a1_0)) 2)) + 10000)) < s0_0 then s0_0 else (wrap64 ((wrap64 (Int.tdiv (wrap64 (3 * a1_0)) 2)) + 10000))) = ji45 := hji45
        simp only [Option.some.injEq, Prod.mk.injEq] at H
        obtain ⟨rfl, rfl, rfl, rfl, rfl, rfl, rfl, rfl, rfl⟩ := H
        try go_wp2
        have n0_ := Aside0.mk (blk_drew BK120.out)
        have n1_ := Aside0.mk (IsS63.drew HI0.out)
        have n2_ := Aside0.mk (keep_drew HK.out)
        have n3_ := Aside0.mk (below_drew1 HB.out)
        clear BK120
        clear HI0
        clear HK
        clear HB
        have BK120 := n0_
        have HI0 := n1_
        have HK := n2_
        have HB := n3_
        clear n0_ n1_ n2_ n3_
        refine start_ (n := 9) (S := fun w' => w'.cell? ⟨g, 0, none⟩ = some (.int .i64 s0_0) ∧ w'.cell? ⟨g, 1, none⟩ = some (.int .i64 s0_1) ∧ w'.cell? ⟨g, 2, none⟩ = some (.int .i64 s0_2) ∧ w'.cell? ⟨g, 3, none⟩ = some (.int .i64 s0_3) ∧ w'.cell? ⟨g, 4, none⟩ = some (.bool false) ∧ w'.cell? ⟨g, 5, none⟩ = some (.int .i64 s0_5) ∧ w'.cell? ⟨g, 6, none⟩ = some (.int .i64 s0_6) ∧ w'.cell? ⟨g, 7, none⟩ = some (.bool s0_7) ∧ w'.cell? ⟨g, 8, none⟩ = some (.int .i64 s0_8) ∧ w'.cell? ⟨gb120, 0, none⟩ = some (.int .i64 a1_0) ∧ w'.cell? ⟨gb120, 1, none⟩ = some (.int .i64 a1_1) ∧ w'.cell? ⟨gb120, 2, none⟩ = some (.int .i64 a1_2)) (ds := []) #[false, false, false, false, false, false, false, false, false] (by kernel_rfl) rfl rfl ⟨(IsS63.cell_0 HI0.out), (IsS63.cell_1 HI0.out), (IsS63.cell_2 HI0.out), (IsS63.cell_3 HI0.out), (IsS63.cell_4 HI0.out), (IsS63.cell_5 HI0.out), (IsS63.cell_6 HI0.out), (IsS63.cell_7 HI0.out), (IsS63.cell_8 HI0.out), (blk_cell BK120.out 0).trans rfl, (blk_cell BK120.out 1).trans rfl, (blk_cell BK120.out 2).trans rfl⟩ (fun hHeld => ?_); refine with_tabW aimd_Aimd_lift.tab3 aimd_Aimd_lift.bits3 (fun HT_ HW_ => ?_)
        generalize wc.drew = w46 at BK120 HI0 HK HB hHeld ⊢
        refine pure_ (i := 0) (N := some 29) (v := ?_) (a' := ?_) (bl 9 1) rfl rfl (any_of HT_.out (by kernel_rfl)) (fun _ _ _ h => h) (Or.inl ⟨by rfl, ?_⟩) ?_ ?_
        rotate_left
        ·intro w'
         go_simp
         with_reducible rfl
        rotate_left
        ·simp only [puts_]
         rfl
        refine pure_ (i := 1) (N := some 30) (v := ?_) (a' := ?_) (bl 9 3) rfl rfl (any_of HT_.out (by kernel_rfl)) (fun _ _ _ h => h) (Or.inl ⟨by rfl, ?_⟩) ?_ ?_
        rotate_left
        ·intro w'
         go_simp
         with_reducible rfl
        rotate_left
        ·simp only [puts_]
         rfl
        refine pure_ (i := 2) (N := some 31) (v := ?_) (a' := ?_) (bl 9 7) rfl rfl (any_of HT_.out (by kernel_rfl)) (fun _ _ _ h => h) (Or.inl ⟨by rfl, ?_⟩) ?_ ?_
        rotate_left
        ·intro w'
         go_simp
         with_reducible rfl
        rotate_left
        ·simp only [puts_]
         rfl
        refine pure_ (i := 4) (N := some 33) (v := ?_) (a' := ?_) (bl 9 23) rfl rfl (any_of HT_.out (by kernel_rfl)) (fun _ _ _ h => h) (Or.inl ⟨by rfl, ?_⟩) ?_ ?_
        rotate_left
        ·intro w'
         go_simp
         with_reducible rfl
        rotate_left
        ·simp only [puts_]
         rfl
        refine take_ (i := 3) (N := some 32) (v := ?_) (a' := ?_) (bl 9 31) rfl rfl (take_ofW HT_.out HW_.out (by kernel_rfl)) (fun _ _ _ h => h) (Or.inl ⟨by rfl, ?_⟩) hHeld ?_ ?_
        rotate_left
        ·rintro w' ⟨s0, s1, s2, s3, s4, s5, s6, s7, s8, s9, s10, s11⟩
         go_simp
         with_reducible rfl
        rotate_left
        ·simp only [puts_]
         rfl
        refine take_ (i := 5) (N := some 34) (v := ?_) (a' := ?_) (bl 9 63) rfl rfl (take_ofW HT_.out HW_.out (by kernel_rfl)) (fun _ _ _ h => h) (Or.inl ⟨by rfl, ?_⟩) hHeld ?_ ?_
        rotate_left
        ·rintro w' ⟨s0, s1, s2, s3, s4, s5, s6, s7, s8, s9, s10, s11⟩
         go_simp
         with_reducible rfl
        rotate_left
        ·simp only [puts_]
         rfl
        refine pure_ (i := 6) (N := some 35) (v := ?_) (a' := ?_) (bl 9 127) rfl rfl (any_of HT_.out (by kernel_rfl)) (fun _ _ _ h => h) (Or.inl ⟨by rfl, ?_⟩) ?_ ?_
        rotate_left
        ·intro w'
         go_simp
         with_reducible rfl
        rotate_left
        ·simp only [puts_]
         rfl
        refine one_ (i := 7) (N := some 36) (bl 9 255) rfl rfl (one_of HT_.out (by kernel_rfl)) (by decide) (fun K hK => ?_)
        refine goes_ Try.func50 (by kernel_rfl) rfl #[.int .i64 s0_0, .int .i64 (wrap64 (8 * a1_2)), .int .i64 100000000, .int .i64 3] (by rfl) rfl rfl (by (try simp only [List.map_toArray, List.map_cons, List.map_nil]); first | done | rfl | (simp only [List.length_drop, List.length_take]; rfl)) ?_
        with_reducible refine (muldiv_Do.calls s0_0 (wrap64 (8 * a1_2)) 100000000 3 t121 _ A11.out).mono ?_
        rintro e w47 ⟨rfl, hb⟩
        refine ⟨_, rfl, ?_⟩
        have n0_ := Aside0.mk (blk_below (g := gb120) (o := .cells #[.int .i64 a1_0, .int .i64 a1_1, .int .i64 a1_2] 66 (0, 0)) (by (with_reducible repeat (first | refine blk_drewN ?_ _ | refine blk_drew ?_ | refine blk_alloc ?_ _)); exact BK120.out) hb)
        have n1_ := Aside0.mk (IsS63.below (by repeat (first | (with_reducible first | exact HI0.out | apply IsS63.alloc | apply IsS63.drewN | apply IsS63.drew | apply IsS63.set_0 | apply IsS63.set_1 | apply IsS63.set_2 | apply IsS63.set_3 | apply IsS63.set_4 | apply IsS63.set_5 | apply IsS63.set_6 | apply IsS63.set_7 | apply IsS63.set_8 | refine IsS63.far ?_ NB0_120.out _) | exact HI0.out)) hb)
        have n2_ := Aside0.mk (KeepBut.trans (by repeat (first | (with_reducible first | exact HK.out | apply KeepBut.set_ | apply keep_drewN | apply keep_drew | apply keep_alloc | refine keep_far ?_ GW120.out _) | exact HK.out)) (KeepBut.of_below hb g none) (.inl rfl))
        have n3_ := Aside0.mk (below_step (by repeat (first | (with_reducible first | exact HB.out | apply below_alloc | apply pw_below_drewN | apply below_drew1 | refine below_set ?_ (IsS63.ge HI0.out) | refine below_set ?_ GE120.out) | exact HB.out)) hb)
        clear BK120
        clear HI0
        clear HK
        clear HB
        have BK120 := n0_
        have HI0 := n1_
        have HK := n2_
        have HB := n3_
        clear n0_ n1_ n2_ n3_
        (try clear hb)
        (try clear hb2)
        (try clear hk)
        (try clear hi)
        refine hK.out _ _ ⟨(IsS63.cell_0 HI0.out), (IsS63.cell_1 HI0.out), (IsS63.cell_2 HI0.out), (IsS63.cell_3 HI0.out), (IsS63.cell_4 HI0.out), (IsS63.cell_5 HI0.out), (IsS63.cell_6 HI0.out), (IsS63.cell_7 HI0.out), (IsS63.cell_8 HI0.out), (blk_cell BK120.out 0).trans rfl, (blk_cell BK120.out 1).trans rfl, (blk_cell BK120.out 2).trans rfl⟩ (fun hHeld => ?_)
        clear hK K
        refine norm_ (a' := ?_) ?_ ?_
        rotate_left
        ·show Act.put _ (some 36) _ = _
         simp only [puts_]
         rfl
        refine pure_ (i := 8) (N := some 4) (v := ?_) (a' := ?_) (bl 9 511) rfl rfl (any_of HT_.out (by kernel_rfl)) (fun _ _ _ h => h) (Or.inl ⟨by rfl, ?_⟩) ?_ ?_
        rotate_left
        ·intro w'
         go_simp
         with_reducible rfl
        rotate_left
        ·simp only [puts_]
         rfl
        refine done_ (done_of HT_.out (by kernel_rfl)) ?_
        obtain ⟨HGz48, hgz48⟩ := HI0.out
        have hcz48_0 := cellS63_0 HGz48
        have hcz48_1 := cellS63_1 HGz48
        have hcz48_2 := cellS63_2 HGz48
        have hcz48_3 := cellS63_3 HGz48
        have hcz48_4 := cellS63_4 HGz48
        have hcz48_5 := cellS63_5 HGz48
        have hcz48_6 := cellS63_6 HGz48
        have hcz48_7 := cellS63_7 HGz48
        have hcz48_8 := cellS63_8 HGz48
        have hfz48_0 := blk_frozen HGz48 0
        have hfz48_1 := blk_frozen HGz48 1
        have hfz48_2 := blk_frozen HGz48 2
        have hfz48_3 := blk_frozen HGz48 3
        have hfz48_4 := blk_frozen HGz48 4
        have hfz48_5 := blk_frozen HGz48 5
        have hfz48_6 := blk_frozen HGz48 6
        have hfz48_7 := blk_frozen HGz48 7
        have hfz48_8 := blk_frozen HGz48 8
        clear HGz48 hgz48
        have hnb49 := NB120_0.out
        have hnc49 := NB0_120.out
        have hcz50_0 : w47.cell? ⟨gb120, 0, none⟩ = some (.int .i64 a1_0) := (blk_cell BK120.out 0).trans rfl
        have hcz50_1 : w47.cell? ⟨gb120, 1, none⟩ = some (.int .i64 a1_1) := (blk_cell BK120.out 1).trans rfl
        have hcz50_2 : w47.cell? ⟨gb120, 2, none⟩ = some (.int .i64 a1_2) := (blk_cell BK120.out 2).trans rfl
        have hfz50_0 := blk_frozen BK120.out 0
        have hfz50_1 := blk_frozen BK120.out 1
        have hfz50_2 := blk_frozen BK120.out 2
        try go_wp2
        first | go_end0 | ((try simp only [Exit.inBlock, Exit.then]); refine bodyPost_ret (results_none rfl _ _ _) rfl ?_)
        exact ⟨by first | rfl | (simp [errW_none, errW_some] <;> rfl) | (simp only [← hji42, ← hji45]; first | rfl | (simp [errW_none, errW_some] <;> rfl)) | (simp [*, errW_none, errW_some] <;> rfl), by repeat (first | (with_reducible first | exact HI0.out | apply IsS63.alloc | apply IsS63.drewN | apply IsS63.drew | apply IsS63.set_0 | apply IsS63.set_1 | apply IsS63.set_2 | apply IsS63.set_3 | apply IsS63.set_4 | apply IsS63.set_5 | apply IsS63.set_6 | apply IsS63.set_7 | apply IsS63.set_8 | refine IsS63.far ?_ NB0_120.out _) | exact HI0.out), by repeat (first | (with_reducible first | exact HB.out | apply below_alloc | apply pw_below_drewN | apply below_drew1 | refine below_set ?_ (IsS63.ge HI0.out) | refine below_set ?_ GE120.out) | exact HB.out), by repeat (first | (with_reducible first | exact HK.out | apply KeepBut.set_ | apply keep_drewN | apply keep_drew | apply keep_alloc | refine keep_far ?_ GW120.out _) | exact HK.out)⟩
       ·rw [if_neg c44] at H
        have c44b0 : decide ((wrap64 ((wrap64 (Int.tdiv (wrap64 (3 * a1_0)) 2)) + 10000)) < (wrap64 (s0_0 + (ji42)))) = false := decide_eq_false c44
        clear c44
        simp only [Option.some.injEq, Prod.mk.injEq] at H
        obtain ⟨rfl, rfl, rfl, rfl, rfl, rfl, rfl, rfl, rfl⟩ := H
        try go_wp2
        have n0_ := Aside0.mk (blk_drew BK120.out)
        have n1_ := Aside0.mk (IsS63.drew HI0.out)
        have n2_ := Aside0.mk (keep_drew HK.out)
        have n3_ := Aside0.mk (below_drew1 HB.out)
        clear BK120
        clear HI0
        clear HK
        clear HB
        have BK120 := n0_
        have HI0 := n1_
        have HK := n2_
        have HB := n3_
        clear n0_ n1_ n2_ n3_
        refine start_ (n := 9) (S := fun w' => w'.cell? ⟨g, 0, none⟩ = some (.int .i64 s0_0) ∧ w'.cell? ⟨g, 1, none⟩ = some (.int .i64 s0_1) ∧ w'.cell? ⟨g, 2, none⟩ = some (.int .i64 s0_2) ∧ w'.cell? ⟨g, 3, none⟩ = some (.int .i64 s0_3) ∧ w'.cell? ⟨g, 4, none⟩ = some (.bool false) ∧ w'.cell? ⟨g, 5, none⟩ = some (.int .i64 s0_5) ∧ w'.cell? ⟨g, 6, none⟩ = some (.int .i64 s0_6) ∧ w'.cell? ⟨g, 7, none⟩ = some (.bool s0_7) ∧ w'.cell? ⟨g, 8, none⟩ = some (.int .i64 s0_8) ∧ w'.cell? ⟨gb120, 0, none⟩ = some (.int .i64 a1_0) ∧ w'.cell? ⟨gb120, 1, none⟩ = some (.int .i64 a1_1) ∧ w'.cell? ⟨gb120, 2, none⟩ = some (.int .i64 a1_2)) (ds := []) #[false, false, false, false, false, false, false, false, false] (by kernel_rfl) rfl rfl ⟨(IsS63.cell_0 HI0.out), (IsS63.cell_1 HI0.out), (IsS63.cell_2 HI0.out), (IsS63.cell_3 HI0.out), (IsS63.cell_4 HI0.out), (IsS63.cell_5 HI0.out), (IsS63.cell_6 HI0.out), (IsS63.cell_7 HI0.out), (IsS63.cell_8 HI0.out), (blk_cell BK120.out 0).trans rfl, (blk_cell BK120.out 1).trans rfl, (blk_cell BK120.out 2).trans rfl⟩ (fun hHeld => ?_); refine with_tabW aimd_Aimd_lift.tab3 aimd_Aimd_lift.bits3 (fun HT_ HW_ => ?_)
        generalize wc.drew = w51 at BK120 HI0 HK HB hHeld ⊢
        refine pure_ (i := 0) (N := some 29) (v := ?_) (a' := ?_) (bl 9 1) rfl rfl (any_of HT_.out (by kernel_rfl)) (fun _ _ _ h => h) (Or.inl ⟨by rfl, ?_⟩) ?_ ?_
        rotate_left
        ·intro w'
         go_simp
         with_reducible rfl
        rotate_left
        ·simp only [puts_]
         rfl
        refine pure_ (i := 1) (N := some 30) (v := ?_) (a' := ?_) (bl 9 3) rfl rfl (any_of HT_.out (by kernel_rfl)) (fun _ _ _ h => h) (Or.inl ⟨by rfl, ?_⟩) ?_ ?_
        rotate_left
        ·intro w'
         go_simp
         with_reducible rfl
        rotate_left
        ·simp only [puts_]
         rfl
        refine pure_ (i := 2) (N := some 31) (v := ?_) (a' := ?_) (bl 9 7) rfl rfl (any_of HT_.out (by kernel_rfl)) (fun _ _ _ h => h) (Or.inl ⟨by rfl, ?_⟩) ?_ ?_
        rotate_left
        ·intro w'
         go_simp
         with_reducible rfl
        rotate_left
        ·simp only [puts_]
         rfl
        refine pure_ (i := 4) (N := some 33) (v := ?_) (a' := ?_) (bl 9 23) rfl rfl (any_of HT_.out (by kernel_rfl)) (fun _ _ _ h => h) (Or.inl ⟨by rfl, ?_⟩) ?_ ?_
        rotate_left
        ·intro w'
         go_simp
         with_reducible rfl
        rotate_left
        ·simp only [puts_]
         rfl
        refine take_ (i := 3) (N := some 32) (v := ?_) (a' := ?_) (bl 9 31) rfl rfl (take_ofW HT_.out HW_.out (by kernel_rfl)) (fun _ _ _ h => h) (Or.inl ⟨by rfl, ?_⟩) hHeld ?_ ?_
        rotate_left
        ·rintro w' ⟨s0, s1, s2, s3, s4, s5, s6, s7, s8, s9, s10, s11⟩
         go_simp
         with_reducible rfl
        rotate_left
        ·simp only [puts_]
         rfl
        refine take_ (i := 5) (N := some 34) (v := ?_) (a' := ?_) (bl 9 63) rfl rfl (take_ofW HT_.out HW_.out (by kernel_rfl)) (fun _ _ _ h => h) (Or.inl ⟨by rfl, ?_⟩) hHeld ?_ ?_
        rotate_left
        ·rintro w' ⟨s0, s1, s2, s3, s4, s5, s6, s7, s8, s9, s10, s11⟩
         go_simp
         with_reducible rfl
        rotate_left
        ·simp only [puts_]
         rfl
        refine pure_ (i := 6) (N := some 35) (v := ?_) (a' := ?_) (bl 9 127) rfl rfl (any_of HT_.out (by kernel_rfl)) (fun _ _ _ h => h) (Or.inl ⟨by rfl, ?_⟩) ?_ ?_
        rotate_left
        ·intro w'
         go_simp
         with_reducible rfl
        rotate_left
        ·simp only [puts_]
         rfl
        refine one_ (i := 7) (N := some 36) (bl 9 255) rfl rfl (one_of HT_.out (by kernel_rfl)) (by decide) (fun K hK => ?_)
        refine goes_ Try.func50 (by kernel_rfl) rfl #[.int .i64 s0_0, .int .i64 (wrap64 (8 * a1_2)), .int .i64 100000000, .int .i64 3] (by rfl) rfl rfl (by (try simp only [List.map_toArray, List.map_cons, List.map_nil]); first | done | rfl | (simp only [List.length_drop, List.length_take]; rfl)) ?_
        with_reducible refine (muldiv_Do.calls s0_0 (wrap64 (8 * a1_2)) 100000000 3 t121 _ A11.out).mono ?_
        rintro e w52 ⟨rfl, hb⟩
        refine ⟨_, rfl, ?_⟩
        have n0_ := Aside0.mk (blk_below (g := gb120) (o := .cells #[.int .i64 a1_0, .int .i64 a1_1, .int .i64 a1_2] 66 (0, 0)) (by (with_reducible repeat (first | refine blk_drewN ?_ _ | refine blk_drew ?_ | refine blk_alloc ?_ _)); exact BK120.out) hb)
        have n1_ := Aside0.mk (IsS63.below (by repeat (first | (with_reducible first | exact HI0.out | apply IsS63.alloc | apply IsS63.drewN | apply IsS63.drew | apply IsS63.set_0 | apply IsS63.set_1 | apply IsS63.set_2 | apply IsS63.set_3 | apply IsS63.set_4 | apply IsS63.set_5 | apply IsS63.set_6 | apply IsS63.set_7 | apply IsS63.set_8 | refine IsS63.far ?_ NB0_120.out _) | exact HI0.out)) hb)
        have n2_ := Aside0.mk (KeepBut.trans (by repeat (first | (with_reducible first | exact HK.out | apply KeepBut.set_ | apply keep_drewN | apply keep_drew | apply keep_alloc | refine keep_far ?_ GW120.out _) | exact HK.out)) (KeepBut.of_below hb g none) (.inl rfl))
        have n3_ := Aside0.mk (below_step (by repeat (first | (with_reducible first | exact HB.out | apply below_alloc | apply pw_below_drewN | apply below_drew1 | refine below_set ?_ (IsS63.ge HI0.out) | refine below_set ?_ GE120.out) | exact HB.out)) hb)
        clear BK120
        clear HI0
        clear HK
        clear HB
        have BK120 := n0_
        have HI0 := n1_
        have HK := n2_
        have HB := n3_
        clear n0_ n1_ n2_ n3_
        (try clear hb)
        (try clear hb2)
        (try clear hk)
        (try clear hi)
        refine hK.out _ _ ⟨(IsS63.cell_0 HI0.out), (IsS63.cell_1 HI0.out), (IsS63.cell_2 HI0.out), (IsS63.cell_3 HI0.out), (IsS63.cell_4 HI0.out), (IsS63.cell_5 HI0.out), (IsS63.cell_6 HI0.out), (IsS63.cell_7 HI0.out), (IsS63.cell_8 HI0.out), (blk_cell BK120.out 0).trans rfl, (blk_cell BK120.out 1).trans rfl, (blk_cell BK120.out 2).trans rfl⟩ (fun hHeld => ?_)
        clear hK K
        refine norm_ (a' := ?_) ?_ ?_
        rotate_left
        ·show Act.put _ (some 36) _ = _
         simp only [puts_]
         rfl
        refine pure_ (i := 8) (N := some 4) (v := ?_) (a' := ?_) (bl 9 511) rfl rfl (any_of HT_.out (by kernel_rfl)) (fun _ _ _ h => h) (Or.inl ⟨by rfl, ?_⟩) ?_ ?_
        rotate_left
        ·intro w'
         go_simp
         with_reducible rfl
        rotate_left
        ·simp only [puts_]
         rfl
        refine done_ (done_of HT_.out (by kernel_rfl)) ?_
        obtain ⟨HGz53, hgz53⟩ := HI0.out
        have hcz53_0 := cellS63_0 HGz53
        have hcz53_1 := cellS63_1 HGz53
        have hcz53_2 := cellS63_2 HGz53
        have hcz53_3 := cellS63_3 HGz53
        have hcz53_4 := cellS63_4 HGz53
        have hcz53_5 := cellS63_5 HGz53
        have hcz53_6 := cellS63_6 HGz53
        have hcz53_7 := cellS63_7 HGz53
        have hcz53_8 := cellS63_8 HGz53
        have hfz53_0 := blk_frozen HGz53 0
        have hfz53_1 := blk_frozen HGz53 1
        have hfz53_2 := blk_frozen HGz53 2
        have hfz53_3 := blk_frozen HGz53 3
        have hfz53_4 := blk_frozen HGz53 4
        have hfz53_5 := blk_frozen HGz53 5
        have hfz53_6 := blk_frozen HGz53 6
        have hfz53_7 := blk_frozen HGz53 7
        have hfz53_8 := blk_frozen HGz53 8
        clear HGz53 hgz53
        have hnb54 := NB120_0.out
        have hnc54 := NB0_120.out
        have hcz55_0 : w52.cell? ⟨gb120, 0, none⟩ = some (.int .i64 a1_0) := (blk_cell BK120.out 0).trans rfl
        have hcz55_1 : w52.cell? ⟨gb120, 1, none⟩ = some (.int .i64 a1_1) := (blk_cell BK120.out 1).trans rfl
        have hcz55_2 : w52.cell? ⟨gb120, 2, none⟩ = some (.int .i64 a1_2) := (blk_cell BK120.out 2).trans rfl
        have hfz55_0 := blk_frozen BK120.out 0
        have hfz55_1 := blk_frozen BK120.out 1
        have hfz55_2 := blk_frozen BK120.out 2
        try go_wp2
        first | go_end0 | ((try simp only [Exit.inBlock, Exit.then]); refine bodyPost_ret (results_none rfl _ _ _) rfl ?_)
        exact ⟨by first | rfl | (simp [errW_none, errW_some] <;> rfl) | (simp only [← hji42]; first | rfl | (simp [errW_none, errW_some] <;> rfl)) | (simp [*, errW_none, errW_some] <;> rfl), by repeat (first | (with_reducible first | exact HI0.out | apply IsS63.alloc | apply IsS63.drewN | apply IsS63.drew | apply IsS63.set_0 | apply IsS63.set_1 | apply IsS63.set_2 | apply IsS63.set_3 | apply IsS63.set_4 | apply IsS63.set_5 | apply IsS63.set_6 | apply IsS63.set_7 | apply IsS63.set_8 | refine IsS63.far ?_ NB0_120.out _) | exact HI0.out), by repeat (first | (with_reducible first | exact HB.out | apply below_alloc | apply pw_below_drewN | apply below_drew1 | refine below_set ?_ (IsS63.ge HI0.out) | refine below_set ?_ GE120.out) | exact HB.out), by repeat (first | (with_reducible first | exact HK.out | apply KeepBut.set_ | apply keep_drewN | apply keep_drew | apply keep_alloc | refine keep_far ?_ GW120.out _) | exact HK.out)⟩
      ·rw [if_neg c43] at H
       have c43b0 : decide (0 < a1_0) = false := decide_eq_false c43
       clear c43
       simp only [Option.some.injEq, Prod.mk.injEq] at H
       obtain ⟨rfl, rfl, rfl, rfl, rfl, rfl, rfl, rfl, rfl⟩ := H
       try go_wp2
       have n0_ := Aside0.mk (blk_drew BK120.out)
       have n1_ := Aside0.mk (IsS63.drew HI0.out)
       have n2_ := Aside0.mk (keep_drew HK.out)
       have n3_ := Aside0.mk (below_drew1 HB.out)
       clear BK120
       clear HI0
       clear HK
       clear HB
       have BK120 := n0_
       have HI0 := n1_
       have HK := n2_
       have HB := n3_
       clear n0_ n1_ n2_ n3_
       refine start_ (n := 9) (S := fun w' => w'.cell? ⟨g, 0, none⟩ = some (.int .i64 s0_0) ∧ w'.cell? ⟨g, 1, none⟩ = some (.int .i64 s0_1) ∧ w'.cell? ⟨g, 2, none⟩ = some (.int .i64 s0_2) ∧ w'.cell? ⟨g, 3, none⟩ = some (.int .i64 s0_3) ∧ w'.cell? ⟨g, 4, none⟩ = some (.bool false) ∧ w'.cell? ⟨g, 5, none⟩ = some (.int .i64 s0_5) ∧ w'.cell? ⟨g, 6, none⟩ = some (.int .i64 s0_6) ∧ w'.cell? ⟨g, 7, none⟩ = some (.bool s0_7) ∧ w'.cell? ⟨g, 8, none⟩ = some (.int .i64 s0_8) ∧ w'.cell? ⟨gb120, 0, none⟩ = some (.int .i64 a1_0) ∧ w'.cell? ⟨gb120, 1, none⟩ = some (.int .i64 a1_1) ∧ w'.cell? ⟨gb120, 2, none⟩ = some (.int .i64 a1_2)) (ds := []) #[false, false, false, false, false, false, false, false, false] (by kernel_rfl) rfl rfl ⟨(IsS63.cell_0 HI0.out), (IsS63.cell_1 HI0.out), (IsS63.cell_2 HI0.out), (IsS63.cell_3 HI0.out), (IsS63.cell_4 HI0.out), (IsS63.cell_5 HI0.out), (IsS63.cell_6 HI0.out), (IsS63.cell_7 HI0.out), (IsS63.cell_8 HI0.out), (blk_cell BK120.out 0).trans rfl, (blk_cell BK120.out 1).trans rfl, (blk_cell BK120.out 2).trans rfl⟩ (fun hHeld => ?_); refine with_tabW aimd_Aimd_lift.tab3 aimd_Aimd_lift.bits3 (fun HT_ HW_ => ?_)
       generalize wc.drew = w56 at BK120 HI0 HK HB hHeld ⊢
       refine pure_ (i := 0) (N := some 29) (v := ?_) (a' := ?_) (bl 9 1) rfl rfl (any_of HT_.out (by kernel_rfl)) (fun _ _ _ h => h) (Or.inl ⟨by rfl, ?_⟩) ?_ ?_
       rotate_left
       ·intro w'
        go_simp
        with_reducible rfl
       rotate_left
       ·simp only [puts_]
        rfl
       refine pure_ (i := 1) (N := some 30) (v := ?_) (a' := ?_) (bl 9 3) rfl rfl (any_of HT_.out (by kernel_rfl)) (fun _ _ _ h => h) (Or.inl ⟨by rfl, ?_⟩) ?_ ?_
       rotate_left
       ·intro w'
        go_simp
        with_reducible rfl
       rotate_left
       ·simp only [puts_]
        rfl
       refine pure_ (i := 2) (N := some 31) (v := ?_) (a' := ?_) (bl 9 7) rfl rfl (any_of HT_.out (by kernel_rfl)) (fun _ _ _ h => h) (Or.inl ⟨by rfl, ?_⟩) ?_ ?_
       rotate_left
       ·intro w'
        go_simp
        with_reducible rfl
       rotate_left
       ·simp only [puts_]
        rfl
       refine pure_ (i := 4) (N := some 33) (v := ?_) (a' := ?_) (bl 9 23) rfl rfl (any_of HT_.out (by kernel_rfl)) (fun _ _ _ h => h) (Or.inl ⟨by rfl, ?_⟩) ?_ ?_
       rotate_left
       ·intro w'
        go_simp
        with_reducible rfl
       rotate_left
       ·simp only [puts_]
        rfl
       refine take_ (i := 3) (N := some 32) (v := ?_) (a' := ?_) (bl 9 31) rfl rfl (take_ofW HT_.out HW_.out (by kernel_rfl)) (fun _ _ _ h => h) (Or.inl ⟨by rfl, ?_⟩) hHeld ?_ ?_
       rotate_left
       ·rintro w' ⟨s0, s1, s2, s3, s4, s5, s6, s7, s8, s9, s10, s11⟩
        go_simp
        with_reducible rfl
       rotate_left
       ·simp only [puts_]
        rfl
       refine take_ (i := 5) (N := some 34) (v := ?_) (a' := ?_) (bl 9 63) rfl rfl (take_ofW HT_.out HW_.out (by kernel_rfl)) (fun _ _ _ h => h) (Or.inl ⟨by rfl, ?_⟩) hHeld ?_ ?_
       rotate_left
       ·rintro w' ⟨s0, s1, s2, s3, s4, s5, s6, s7, s8, s9, s10, s11⟩
        go_simp
        with_reducible rfl
       rotate_left
       ·simp only [puts_]
        rfl
       refine pure_ (i := 6) (N := some 35) (v := ?_) (a' := ?_) (bl 9 127) rfl rfl (any_of HT_.out (by kernel_rfl)) (fun _ _ _ h => h) (Or.inl ⟨by rfl, ?_⟩) ?_ ?_
       rotate_left
       ·intro w'
        go_simp
        with_reducible rfl
       rotate_left
       ·simp only [puts_]
        rfl
       refine one_ (i := 7) (N := some 36) (bl 9 255) rfl rfl (one_of HT_.out (by kernel_rfl)) (by decide) (fun K hK => ?_)
       refine goes_ Try.func50 (by kernel_rfl) rfl #[.int .i64 s0_0, .int .i64 (wrap64 (8 * a1_2)), .int .i64 100000000, .int .i64 3] (by rfl) rfl rfl (by (try simp only [List.map_toArray, List.map_cons, List.map_nil]); first | done | rfl | (simp only [List.length_drop, List.length_take]; rfl)) ?_
       with_reducible refine (muldiv_Do.calls s0_0 (wrap64 (8 * a1_2)) 100000000 3 t121 _ A11.out).mono ?_
       rintro e w57 ⟨rfl, hb⟩
       refine ⟨_, rfl, ?_⟩
       have n0_ := Aside0.mk (blk_below (g := gb120) (o := .cells #[.int .i64 a1_0, .int .i64 a1_1, .int .i64 a1_2] 66 (0, 0)) (by (with_reducible repeat (first | refine blk_drewN ?_ _ | refine blk_drew ?_ | refine blk_alloc ?_ _)); exact BK120.out) hb)
       have n1_ := Aside0.mk (IsS63.below (by repeat (first | (with_reducible first | exact HI0.out | apply IsS63.alloc | apply IsS63.drewN | apply IsS63.drew | apply IsS63.set_0 | apply IsS63.set_1 | apply IsS63.set_2 | apply IsS63.set_3 | apply IsS63.set_4 | apply IsS63.set_5 | apply IsS63.set_6 | apply IsS63.set_7 | apply IsS63.set_8 | refine IsS63.far ?_ NB0_120.out _) | exact HI0.out)) hb)
       have n2_ := Aside0.mk (KeepBut.trans (by repeat (first | (with_reducible first | exact HK.out | apply KeepBut.set_ | apply keep_drewN | apply keep_drew | apply keep_alloc | refine keep_far ?_ GW120.out _) | exact HK.out)) (KeepBut.of_below hb g none) (.inl rfl))
       have n3_ := Aside0.mk (below_step (by repeat (first | (with_reducible first | exact HB.out | apply below_alloc | apply pw_below_drewN | apply below_drew1 | refine below_set ?_ (IsS63.ge HI0.out) | refine below_set ?_ GE120.out) | exact HB.out)) hb)
       clear BK120
       clear HI0
       clear HK
       clear HB
       have BK120 := n0_
       have HI0 := n1_
       have HK := n2_
       have HB := n3_
       clear n0_ n1_ n2_ n3_
       (try clear hb)
       (try clear hb2)
       (try clear hk)
       (try clear hi)
       refine hK.out _ _ ⟨(IsS63.cell_0 HI0.out), (IsS63.cell_1 HI0.out), (IsS63.cell_2 HI0.out), (IsS63.cell_3 HI0.out), (IsS63.cell_4 HI0.out), (IsS63.cell_5 HI0.out), (IsS63.cell_6 HI0.out), (IsS63.cell_7 HI0.out), (IsS63.cell_8 HI0.out), (blk_cell BK120.out 0).trans rfl, (blk_cell BK120.out 1).trans rfl, (blk_cell BK120.out 2).trans rfl⟩ (fun hHeld => ?_)
       clear hK K
       refine norm_ (a' := ?_) ?_ ?_
       rotate_left
       ·show Act.put _ (some 36) _ = _
        simp only [puts_]
        rfl
       refine pure_ (i := 8) (N := some 4) (v := ?_) (a' := ?_) (bl 9 511) rfl rfl (any_of HT_.out (by kernel_rfl)) (fun _ _ _ h => h) (Or.inl ⟨by rfl, ?_⟩) ?_ ?_
       rotate_left
       ·intro w'
        go_simp
        with_reducible rfl
       rotate_left
       ·simp only [puts_]
        rfl
       refine done_ (done_of HT_.out (by kernel_rfl)) ?_
       obtain ⟨HGz58, hgz58⟩ := HI0.out
       have hcz58_0 := cellS63_0 HGz58
       have hcz58_1 := cellS63_1 HGz58
       have hcz58_2 := cellS63_2 HGz58
       have hcz58_3 := cellS63_3 HGz58
       have hcz58_4 := cellS63_4 HGz58
       have hcz58_5 := cellS63_5 HGz58
       have hcz58_6 := cellS63_6 HGz58
       have hcz58_7 := cellS63_7 HGz58
       have hcz58_8 := cellS63_8 HGz58
       have hfz58_0 := blk_frozen HGz58 0
       have hfz58_1 := blk_frozen HGz58 1
       have hfz58_2 := blk_frozen HGz58 2
       have hfz58_3 := blk_frozen HGz58 3
       have hfz58_4 := blk_frozen HGz58 4
       have hfz58_5 := blk_frozen HGz58 5
       have hfz58_6 := blk_frozen HGz58 6
       have hfz58_7 := blk_frozen HGz58 7
       have hfz58_8 := blk_frozen HGz58 8
       clear HGz58 hgz58
       have hnb59 := NB120_0.out
       have hnc59 := NB0_120.out
       have hcz60_0 : w57.cell? ⟨gb120, 0, none⟩ = some (.int .i64 a1_0) := (blk_cell BK120.out 0).trans rfl
       have hcz60_1 : w57.cell? ⟨gb120, 1, none⟩ = some (.int .i64 a1_1) := (blk_cell BK120.out 1).trans rfl
       have hcz60_2 : w57.cell? ⟨gb120, 2, none⟩ = some (.int .i64 a1_2) := (blk_cell BK120.out 2).trans rfl
       have hfz60_0 := blk_frozen BK120.out 0
       have hfz60_1 := blk_frozen BK120.out 1
       have hfz60_2 := blk_frozen BK120.out 2
       try go_wp2
       first | go_end0 | ((try simp only [Exit.inBlock, Exit.then]); refine bodyPost_ret (results_none rfl _ _ _) rfl ?_)
       exact ⟨by first | rfl | (simp [errW_none, errW_some] <;> rfl) | (simp only [← hji42]; first | rfl | (simp [errW_none, errW_some] <;> rfl)) | (simp [*, errW_none, errW_some] <;> rfl), by repeat (first | (with_reducible first | exact HI0.out | apply IsS63.alloc | apply IsS63.drewN | apply IsS63.drew | apply IsS63.set_0 | apply IsS63.set_1 | apply IsS63.set_2 | apply IsS63.set_3 | apply IsS63.set_4 | apply IsS63.set_5 | apply IsS63.set_6 | apply IsS63.set_7 | apply IsS63.set_8 | refine IsS63.far ?_ NB0_120.out _) | exact HI0.out), by repeat (first | (with_reducible first | exact HB.out | apply below_alloc | apply pw_below_drewN | apply below_drew1 | refine below_set ?_ (IsS63.ge HI0.out) | refine below_set ?_ GE120.out) | exact HB.out), by repeat (first | (with_reducible first | exact HK.out | apply KeepBut.set_ | apply keep_drewN | apply keep_drew | apply keep_alloc | refine keep_far ?_ GW120.out _) | exact HK.out)⟩
end Go.Proofs.Ytaelmmbodigheaa.P
end

section
namespace Go.Proofs.Ytaelmmbodigheaa.P
open Go.RowKit Go.Proofs.YtaelmmbodigheaaW.PrintWords Go.Proofs.YtaelmmbodigheaaW.PrintLast Go.Proofs.YtaelmmbodigheaaW.PrintMore
attribute [local go_sem] max2_int min2_int max_two min_two max_three min_three max_four min_four   -- for this text's walks alone
set_option linter.unusedVariables false
set_option linter.unusedSimpArgs false
def sat_held.f (a0_0 : Int) (a0_1 : Int) : Option (Int) := if (IntKind.u64.wrap ((wrap64 (a0_1)) / 9223372036854775808)) = a0_0 then (some (wrap64 (a0_1))) else (if (wrap64 (a0_0)) < 0 then (some (-9223372036854775808)) else (some 9223372036854775807))
set_option maxHeartbeats 8000000 in
set_option maxRecDepth 100000 in
theorem sat_held.calls (a0_0 : Int) (a0_1 : Int) (r : Int) (w : World) (h : sat_held.f a0_0 a0_1 = some r) :
  Calls Try.prog 52 #[.agg #[.int .u64 a0_0, .int .u64 a0_1]] w fun e w' => e = .returned (.int .i64 r) ∧ Below w.heap.size w w' := by
 have hu85 := Try.underlying85
 have HB := Aside0.mk (Below.refl w.heap.size w)
 have H : (if (IntKind.u64.wrap ((wrap64 (a0_1)) / 9223372036854775808)) = a0_0 then (some (wrap64 (a0_1))) else (if (wrap64 (a0_0)) < 0 then (some (-9223372036854775808)) else (some 9223372036854775807))) = some r := h
 clear h
 by_cases c2 : (IntKind.u64.wrap ((wrap64 (a0_1)) / 9223372036854775808)) = a0_0
 ·rw [if_pos c2] at H
  have c2b0 : ((IntKind.u64.wrap ((wrap64 (a0_1)) / 9223372036854775808)) == a0_0) = true := beq_iff_eq.mpr c2
  have c2b1 : ((IntKind.u64.wrap ((wrap64 (a0_1)) / 9223372036854775808)) != a0_0) = false := bne_eq_false_iff_eq.mpr c2
  clear c2
  obtain rfl := Option.some.inj H
  go_enter Try.func52, Try.ntmps52
  go_wp2_with (first | ((with_reducible refine gate_dst (N := 1) rfl ?_); refine box_event ?hg (N := 1) ?hd (cs := #[.int .u64 a0_0, .int .u64 a0_1]) (t := 85) ?hr ?_; (case hd => rfl); (case hg => rfl); (case hr => first | (go_simp; done) | (go_simp; rfl)); intro gb123 hg w3 hbox hb; have n0_ := Aside0.mk (below_step (by repeat (first | (with_reducible first | exact HB.out | apply below_alloc | apply pw_below_drewN | apply below_drew1) | exact HB.out)) hb); have n1_ := Aside0.mk (hbox); have n2_ := Aside0.mk ((by rw [hg]; exact (below_size (by repeat (first | (with_reducible first | exact HB.out | apply below_alloc | apply pw_below_drewN | apply below_drew1) | exact HB.out))) : w.heap.size ≤ gb123)); have n3_ := Aside0.mk ((by rw [hg]; exact (below_size (by repeat (first | (with_reducible first | exact HB.out | apply below_alloc | apply pw_below_drewN | apply below_drew1) | exact HB.out))) : w.heap.size ≤ gb123)); clear HB; have HB := n0_; have BK123 := n1_; have GW123 := n2_; have GE123 := n3_; clear n0_ n1_ n2_ n3_; clear hb hbox hg; have hcz4_0 : w3.cell? ⟨gb123, 0, none⟩ = some (.int .u64 a0_0) := (blk_cell BK123.out 0).trans rfl; have hcz4_1 : w3.cell? ⟨gb123, 1, none⟩ = some (.int .u64 a0_1) := (blk_cell BK123.out 1).trans rfl; have hfz4_0 := blk_frozen BK123.out 0; have hfz4_1 := blk_frozen BK123.out 1))
  go_ret
  exact ⟨by first | rfl | (simp [errW_none, errW_some] <;> rfl) | (simp [*, errW_none, errW_some] <;> rfl), by repeat (first | (with_reducible first | exact HB.out | apply below_alloc | apply pw_below_drewN | apply below_drew1 | refine below_set ?_ GE123.out) | exact HB.out)⟩
 ·rw [if_neg c2] at H
  have c2b0 : ((IntKind.u64.wrap ((wrap64 (a0_1)) / 9223372036854775808)) == a0_0) = false := beq_eq_false_iff_ne.mpr c2
  have c2b1 : ((IntKind.u64.wrap ((wrap64 (a0_1)) / 9223372036854775808)) != a0_0) = true := bne_iff_ne.mpr c2
  by_cases c5 : (wrap64 (a0_0)) < 0
  ·rw [if_pos c5] at H
   have c5b0 : decide ((wrap64 (a0_0)) < 0) = true := decide_eq_true c5
   clear c5
   obtain rfl := Option.some.inj H
   go_enter Try.func52, Try.ntmps52
   go_wp2_with (first | ((with_reducible refine gate_dst (N := 1) rfl ?_); refine box_event ?hg (N := 1) ?hd (cs := #[.int .u64 a0_0, .int .u64 a0_1]) (t := 85) ?hr ?_; (case hd => rfl); (case hg => rfl); (case hr => first | (go_simp; done) | (go_simp; rfl)); intro gb123 hg w6 hbox hb; have n0_ := Aside0.mk (below_step (by repeat (first | (with_reducible first | exact HB.out | apply below_alloc | apply pw_below_drewN | apply below_drew1) | exact HB.out)) hb); have n1_ := Aside0.mk (hbox); have n2_ := Aside0.mk ((by rw [hg]; exact (below_size (by repeat (first | (with_reducible first | exact HB.out | apply below_alloc | apply pw_below_drewN | apply below_drew1) | exact HB.out))) : w.heap.size ≤ gb123)); have n3_ := Aside0.mk ((by rw [hg]; exact (below_size (by repeat (first | (with_reducible first | exact HB.out | apply below_alloc | apply pw_below_drewN | apply below_drew1) | exact HB.out))) : w.heap.size ≤ gb123)); clear HB; have HB := n0_; have BK123 := n1_; have GW123 := n2_; have GE123 := n3_; clear n0_ n1_ n2_ n3_; clear hb hbox hg; have hcz7_0 : w6.cell? ⟨gb123, 0, none⟩ = some (.int .u64 a0_0) := (blk_cell BK123.out 0).trans rfl; have hcz7_1 : w6.cell? ⟨gb123, 1, none⟩ = some (.int .u64 a0_1) := (blk_cell BK123.out 1).trans rfl; have hfz7_0 := blk_frozen BK123.out 0; have hfz7_1 := blk_frozen BK123.out 1))
   go_ret
   exact ⟨by first | rfl | (simp [errW_none, errW_some] <;> rfl) | (simp [*, errW_none, errW_some] <;> rfl), by repeat (first | (with_reducible first | exact HB.out | apply below_alloc | apply pw_below_drewN | apply below_drew1 | refine below_set ?_ GE123.out) | exact HB.out)⟩
  ·rw [if_neg c5] at H
   have c5b0 : decide ((wrap64 (a0_0)) < 0) = false := decide_eq_false c5
   clear c5
   obtain rfl := Option.some.inj H
   go_enter Try.func52, Try.ntmps52
   go_wp2_with (first | ((with_reducible refine gate_dst (N := 1) rfl ?_); refine box_event ?hg (N := 1) ?hd (cs := #[.int .u64 a0_0, .int .u64 a0_1]) (t := 85) ?hr ?_; (case hd => rfl); (case hg => rfl); (case hr => first | (go_simp; done) | (go_simp; rfl)); intro gb123 hg w8 hbox hb; have n0_ := Aside0.mk (below_step (by repeat (first | (with_reducible first | exact HB.out | apply below_alloc | apply pw_below_drewN | apply below_drew1) | exact HB.out)) hb); have n1_ := Aside0.mk (hbox); have n2_ := Aside0.mk ((by rw [hg]; exact (below_size (by repeat (first | (with_reducible first | exact HB.out | apply below_alloc | apply pw_below_drewN | apply below_drew1) | exact HB.out))) : w.heap.size ≤ gb123)); have n3_ := Aside0.mk ((by rw [hg]; exact (below_size (by repeat (first | (with_reducible first | exact HB.out | apply below_alloc | apply pw_below_drewN | apply below_drew1) | exact HB.out))) : w.heap.size ≤ gb123)); clear HB; have HB := n0_; have BK123 := n1_; have GW123 := n2_; have GE123 := n3_; clear n0_ n1_ n2_ n3_; clear hb hbox hg; have hcz9_0 : w8.cell? ⟨gb123, 0, none⟩ = some (.int .u64 a0_0) := (blk_cell BK123.out 0).trans rfl; have hcz9_1 : w8.cell? ⟨gb123, 1, none⟩ = some (.int .u64 a0_1) := (blk_cell BK123.out 1).trans rfl; have hfz9_0 := blk_frozen BK123.out 0; have hfz9_1 := blk_frozen BK123.out 1))
   go_ret
   exact ⟨by first | rfl | (simp [errW_none, errW_some] <;> rfl) | (simp [*, errW_none, errW_some] <;> rfl), by repeat (first | (with_reducible first | exact HB.out | apply below_alloc | apply pw_below_drewN | apply below_drew1 | refine below_set ?_ GE123.out) | exact HB.out)⟩
def sub64s (x y b : Int) : Int := (((x.toNat + 18446744073709551616 - y.toNat - b.toNat) % 18446744073709551616 : Nat) : Int)
def sub64c (x y b : Int) : Int := ((if x.toNat < y.toNat + b.toNat then 1 else 0 : Nat) : Int)
def sub64Entry : Array Value → Sem Value := fun args => do
 let (x, y, b) ← Extern.MathBitsCarry.three "Sub64" args
 pure (Extern.MathBitsCarry.pair ((x + Extern.MathBitsCarry.m64 - y - b) % Extern.MathBitsCarry.m64) (if x < y + b then 1 else 0))
theorem run_sub64_any (x y c : Int) (hc : c ≤ 1) (w : World) :
  (callFunc 68 #[.int .u64 x, .int .u64 y, .int .u64 c]).run Try.prog w = .ok (.value (.tuple #[.int .u64 (sub64s x y c), .int .u64 (sub64c x y c)])) w := by
 rw [run_callFunc_extern Try.func68 (by kernel_rfl) (by kernel_rfl) (by kernel_rfl) (e := sub64Entry) (by kernel_rfl)]
 have key : (sub64Entry #[.int .u64 x, .int .u64 y, .int .u64 c]).run Try.prog w = .ok (.tuple #[.int .u64 (sub64s x y c), .int .u64 (sub64c x y c)]) w := by
  cases c with
  | ofNat k =>
   have hk : k = 0 ∨ k = 1 := by have : ((k : Nat) : Int) ≤ 1 := hc; omega
   rcases hk with rfl | rfl <;> rfl
  | negSucc n => rfl
 rw [key]
 rfl
theorem run_sub64_0 (x y : Int) (w : World) :
  (callFunc 68 #[.int .u64 x, .int .u64 y, .int .u64 0]).run Try.prog w = .ok (.value (.tuple #[.int .u64 (sub64s x y 0), .int .u64 (sub64c x y 0)])) w := run_sub64_any x y 0 (by decide) w
theorem run_sub64_c (x y c : Int) (hc : decide (c ≤ 1) = true) (w : World) :
  (callFunc 68 #[.int .u64 x, .int .u64 y, .int .u64 c]).run Try.prog w = .ok (.value (.tuple #[.int .u64 (sub64s x y c), .int .u64 (sub64c x y c)])) w := run_sub64_any x y c (of_decide_eq_true hc) w
def sat_negative.f (a0 : Int) : Option (Int × Int) := if (sub64c 0 (IntKind.u64.wrap (a0)) 0) ≤ 1 then (some (sub64s 0 (IntKind.u64.wrap (a0 / 9223372036854775808)) (sub64c 0 (IntKind.u64.wrap (a0)) 0), sub64s 0 (IntKind.u64.wrap (a0)) 0)) else (none)
set_option maxHeartbeats 8000000 in
set_option maxRecDepth 100000 in
theorem sat_negative.calls (a0 : Int) (r1 : Int) (r2 : Int) (w : World) (h : sat_negative.f a0 = some (r1, r2)) :
  Calls Try.prog 59 #[.int .i64 a0] w fun e w' => e = .returned (.agg #[.int .u64 r1, .int .u64 r2]) ∧ Below w.heap.size w w' := by
 have hu85 := Try.underlying85
 have hext_sub64_0 := @run_sub64_0
 have hext_sub64_c := @run_sub64_c
 have HB := Aside0.mk (Below.refl w.heap.size w)
 have H : (if (sub64c 0 (IntKind.u64.wrap (a0)) 0) ≤ 1 then (some (sub64s 0 (IntKind.u64.wrap (a0 / 9223372036854775808)) (sub64c 0 (IntKind.u64.wrap (a0)) 0), sub64s 0 (IntKind.u64.wrap (a0)) 0)) else (none)) = some (r1, r2) := h
 clear h
 by_cases c2 : (sub64c 0 (IntKind.u64.wrap (a0)) 0) ≤ 1
 ·rw [if_pos c2] at H
  have c2b0 := eq_true c2
  have c2b1 : decide ((sub64c 0 (IntKind.u64.wrap (a0)) 0) ≤ 1) = true := decide_eq_true c2
  clear c2
  simp only [Option.some.injEq, Prod.mk.injEq] at H
  obtain ⟨rfl, rfl⟩ := H
  go_enter Try.func59, Try.ntmps59
  go_wp2_with (first | ((with_reducible refine gate_dst (N := 2) rfl ?_); refine box_event ?hg (N := 2) ?hd (cs := #[.int .u64 0, .int .u64 0]) (t := 85) ?hr ?_; (case hd => rfl); (case hg => rfl); (case hr => first | (go_simp; done) | (go_simp; rfl)); intro gb124 hg w3 hbox hb; have n0_ := Aside0.mk (below_step (by repeat (first | (with_reducible first | exact HB.out | apply below_alloc | apply pw_below_drewN | apply below_drew1) | exact HB.out)) hb); have n1_ := Aside0.mk (hbox); have n2_ := Aside0.mk ((by rw [hg]; exact (below_size (by repeat (first | (with_reducible first | exact HB.out | apply below_alloc | apply pw_below_drewN | apply below_drew1) | exact HB.out))) : w.heap.size ≤ gb124)); have n3_ := Aside0.mk ((by rw [hg]; exact (below_size (by repeat (first | (with_reducible first | exact HB.out | apply below_alloc | apply pw_below_drewN | apply below_drew1) | exact HB.out))) : w.heap.size ≤ gb124)); clear HB; have HB := n0_; have BK124 := n1_; have GW124 := n2_; have GE124 := n3_; clear n0_ n1_ n2_ n3_; clear hb hbox hg; have hcz4_0 : w3.cell? ⟨gb124, 0, none⟩ = some (.int .u64 0) := (blk_cell BK124.out 0).trans rfl; have hcz4_1 : w3.cell? ⟨gb124, 1, none⟩ = some (.int .u64 0) := (blk_cell BK124.out 1).trans rfl; have hfz4_0 := blk_frozen BK124.out 0; have hfz4_1 := blk_frozen BK124.out 1))
  refine bodyPost_ret (results_cell_row rfl _ _ gb124 85 #[.int .u64 (sub64s 0 (IntKind.u64.wrap (a0 / 9223372036854775808)) (sub64c 0 (IntKind.u64.wrap (a0)) 0)), .int .u64 (sub64s 0 (IntKind.u64.wrap (a0)) 0)] (0, 0) _ rfl (by (with_reducible repeat (first | refine blk_drewN ?_ _ | refine blk_drew ?_ | refine blk_alloc ?_ _)); refine blk_put (cs := #[.int .u64 (sub64s 0 (IntKind.u64.wrap (a0 / 9223372036854775808)) (sub64c 0 (IntKind.u64.wrap (a0)) 0)), .int .u64 0]) ?_ 1 _ rfl; (with_reducible repeat (first | refine blk_drewN ?_ _ | refine blk_drew ?_ | refine blk_alloc ?_ _)); refine blk_put (cs := #[.int .u64 0, .int .u64 0]) ?_ 0 _ rfl; (with_reducible repeat (first | refine blk_drewN ?_ _ | refine blk_drew ?_ | refine blk_alloc ?_ _)); exact BK124.out) Try.underlying85 rfl (by kernel_rfl)) rfl ?_
  exact ⟨by first | rfl | (simp [errW_none, errW_some] <;> rfl) | (simp [*, errW_none, errW_some] <;> rfl), by repeat (first | (with_reducible first | exact HB.out | apply below_alloc | apply pw_below_drewN | apply below_drew1 | refine below_set ?_ GE124.out) | exact HB.out)⟩
 ·rw [if_neg c2] at H
  exact absurd H (by simp)
def sat_Neg.f (a0 : Int) : Option (Int) := (sat_negative.f a0).bind fun bt125 => ((sat_held.f bt125.1 bt125.2).bind fun t127 => (some t127))
set_option maxHeartbeats 8000000 in
set_option maxRecDepth 100000 in
theorem sat_Neg.calls (a0 : Int) (r : Int) (w : World) (h : sat_Neg.f a0 = some r) :
  Calls Try.prog 54 #[.int .i64 a0] w fun e w' => e = .returned (.int .i64 r) ∧ Below w.heap.size w w' := by
 have HB := Aside0.mk (Below.refl w.heap.size w)
 have H : ((sat_negative.f a0).bind fun bt125 => ((sat_held.f bt125.1 bt125.2).bind fun t127 => (some t127))) = some r := h
 clear h
 replace H := Option.bind_eq_some_iff.mp H
 obtain ⟨⟨t125, t126⟩, A20, H⟩ := H
 replace H : ((sat_held.f t125 t126).bind fun t127 => (some t127)) = some r := H
 have A2 := Aside0.mk A20
 clear A20
 replace H := Option.bind_eq_some_iff.mp H
 obtain ⟨t127, A30, H⟩ := H
 replace H : (some t127) = some r := H
 have A3 := Aside0.mk A30
 clear A30
 obtain rfl := Option.some.inj H
 go_enter Try.func54, Try.ntmps54
 go_wp2_with (first | ((with_reducible refine gate_callee (f := 59) rfl ?_); refine goesL_ (some 4) rfl rfl Try.func59 (by kernel_rfl) rfl #[.int .i64 a0] rfl (by (try simp only [List.map_toArray, List.map_cons, List.map_nil]); first | done | rfl | (simp only [List.length_drop, List.length_take]; rfl)) ?_; (with_reducible refine (sat_negative.calls a0 t125 t126 _ A2.out).mono ?_); rintro e w4 ⟨rfl, hb⟩; refine ⟨_, rfl, ?_⟩; have n0_ := Aside0.mk (below_step (by repeat (first | (with_reducible first | exact HB.out | apply below_alloc | apply pw_below_drewN | apply below_drew1) | exact HB.out)) hb); clear HB; have HB := n0_; clear n0_; (try clear hb); (try clear hb2); (try clear hk); (try clear hi)) | ((with_reducible refine gate_callee (f := 52) rfl ?_); refine goesL_ (some 5) rfl rfl Try.func52 (by kernel_rfl) rfl #[.agg #[.int .u64 t125, .int .u64 t126]] rfl (by (try simp only [List.map_toArray, List.map_cons, List.map_nil]); first | done | rfl | (simp only [List.length_drop, List.length_take]; rfl)) ?_; (with_reducible refine (sat_held.calls t125 t126 t127 _ A3.out).mono ?_); rintro e w5 ⟨rfl, hb⟩; refine ⟨_, rfl, ?_⟩; have n0_ := Aside0.mk (below_step (by repeat (first | (with_reducible first | exact HB.out | apply below_alloc | apply pw_below_drewN | apply below_drew1) | exact HB.out)) hb); clear HB; have HB := n0_; clear n0_; (try clear hb); (try clear hb2); (try clear hk); (try clear hi)))
 go_ret
 exact ⟨by first | rfl | (simp [errW_none, errW_some] <;> rfl) | (simp [*, errW_none, errW_some] <;> rfl), by repeat (first | (with_reducible first | exact HB.out | apply below_alloc | apply pw_below_drewN | apply below_drew1) | exact HB.out)⟩
def sat_Abs.f (a0 : Int) : Option (Int) := (sat_Neg.f a0).bind fun t128 => (some (mx a0 t128))
set_option maxHeartbeats 8000000 in
set_option maxRecDepth 100000 in
theorem sat_Abs.calls (a0 : Int) (r : Int) (w : World) (h : sat_Abs.f a0 = some r) :
  Calls Try.prog 46 #[.int .i64 a0] w fun e w' => e = .returned (.int .i64 r) ∧ Below w.heap.size w w' := by
 have HB := Aside0.mk (Below.refl w.heap.size w)
 have H : ((sat_Neg.f a0).bind fun t128 => (some (mx a0 t128))) = some r := h
 clear h
 replace H := Option.bind_eq_some_iff.mp H
 obtain ⟨t128, A20, H⟩ := H
 replace H : (some (mx a0 t128)) = some r := H
 have A2 := Aside0.mk A20
 clear A20
 obtain ⟨ji3, hji3⟩ : ∃ j_ : Int, (mx a0 t128) = j_ := ⟨_, rfl⟩
 replace H : (some ji3) = some r := by first | (rw [hji3] at H; exact H) | (simp only [hji3] at H ⊢; exact H)
 (try rw [hji3] at A2)
 have hji3_ : (if a0 < t128 then t128 else a0) = ji3 := hji3
 obtain rfl := Option.some.inj H
 go_enter Try.func46, Try.ntmps46
 go_wp2_with (first | ((with_reducible refine gate_callee (f := 54) rfl ?_); refine goesL_ (some 5) rfl rfl Try.func54 (by kernel_rfl) rfl #[.int .i64 a0] rfl (by (try simp only [List.map_toArray, List.map_cons, List.map_nil]); first | done | rfl | (simp only [List.length_drop, List.length_take]; rfl)) ?_; (with_reducible refine (sat_Neg.calls a0 t128 _ A2.out).mono ?_); rintro e w4 ⟨rfl, hb⟩; refine ⟨_, rfl, ?_⟩; have n0_ := Aside0.mk (below_step (by repeat (first | (with_reducible first | exact HB.out | apply below_alloc | apply pw_below_drewN | apply below_drew1) | exact HB.out)) hb); clear HB; have HB := n0_; clear n0_; (try clear hb); (try clear hb2); (try clear hk); (try clear hi)))
 go_ret
 exact ⟨by first | rfl | (simp [errW_none, errW_some] <;> rfl) | (simp only [← hji3]; first | rfl | (simp [errW_none, errW_some] <;> rfl)) | (simp [*, errW_none, errW_some] <;> rfl), by repeat (first | (with_reducible first | exact HB.out | apply below_alloc | apply pw_below_drewN | apply below_drew1) | exact HB.out)⟩
end Go.Proofs.Ytaelmmbodigheaa.P
end

section
namespace Go.Proofs.Ytaelmmbodigheaa.P
open Go.RowKit Go.Proofs.YtaelmmbodigheaaW.PrintWords Go.Proofs.YtaelmmbodigheaaW.PrintLast Go.Proofs.YtaelmmbodigheaaW.PrintMore
attribute [local go_sem] max2_int min2_int max_two min_two max_three min_three max_four min_four   -- for this text's walks alone
set_option linter.unusedVariables false
set_option linter.unusedSimpArgs false
def aimd_Aimd_cut.f (s0_0 : Int) (s0_1 : Int) (s0_2 : Int) (s0_3 : Int) (s0_4 : Bool) (s0_5 : Int) (s0_6 : Int) (s0_7 : Bool) (s0_8 : Int) (a1_0 : Int) (a1_1 : Int) (a1_2 : Int) : Option (Int × Int × Int × Int × Bool × Int × Int × Bool × Int) := (muldiv_Do.f a1_0 85 100 1).bind fun t130 => (if s0_4 = true then (if a1_0 < (wrap64 (s0_5 - (wrap64 (3 * s0_6)))) then (some (mn s0_0 t130, s0_1, s0_2, 0, s0_4, a1_0, s0_6, s0_7, s0_8)) else ((muldiv_Do.f (wrap64 (a1_0 - s0_5)) 5 100 2).bind fun t131 => ((sat_Abs.f (wrap64 (a1_0 - s0_5))).bind fun t132 => ((muldiv_Do.f (wrap64 (t132 - s0_6)) 5 100 2).bind fun t133 => (some (mn s0_0 t130, s0_1, s0_2, 0, s0_4, wrap64 (s0_5 + t131), wrap64 (s0_6 + t133), s0_7, s0_8)))))) else (some (mn s0_0 t130, s0_1, s0_2, 0, true, a1_0, wrap64 (Int.tdiv a1_0 10), s0_7, s0_8)))
def aimd_Aimd_cut.T1 : Bool × List (List Nat × List Nat) := (true, [([], []), ([], []), ([1], [1]), ([2], [2]), ([3], [3]), ([], []), ([5], [5]), ([6], [6]), ([4, 7], [4, 7]), ([0, 0, 1, 2, 3, 4, 5, 6, 7, 8], [0]), ([9, 0, 1, 2, 3, 4, 5, 6, 7, 8], [9]), ([10, 8, 7, 0, 1, 2, 3, 4, 5, 6, 7, 8], [8, 10])])
def aimd_Aimd_cut.B1 : List Nat := [0, 0, 2, 6, 14, 0, 32, 96, 254, 511, 1023, 2047]
theorem aimd_Aimd_cut.tab1 : rtab .any (opsOf Try.f39 1) = aimd_Aimd_cut.T1 := by kernel_rfl
theorem aimd_Aimd_cut.bits1 : waitsOk aimd_Aimd_cut.T1.2 aimd_Aimd_cut.B1 = true := by kernel_rfl
def aimd_Aimd_cut.T2 : Bool × List (List Nat × List Nat) := (true, [([], []), ([0], [0]), ([], []), ([2], [2]), ([3], [3]), ([4], [4]), ([1, 5], [1, 5]), ([6, 0, 1, 2, 3, 4, 5, 6], [6])])
def aimd_Aimd_cut.B2 : List Nat := [0, 1, 0, 4, 12, 28, 63, 127]
theorem aimd_Aimd_cut.tab2 : rtab .any (opsOf Try.f39 2) = aimd_Aimd_cut.T2 := by kernel_rfl
theorem aimd_Aimd_cut.bits2 : waitsOk aimd_Aimd_cut.T2.2 aimd_Aimd_cut.B2 = true := by kernel_rfl
def aimd_Aimd_cut.T3 : Bool × List (List Nat × List Nat) := (true, [([], []), ([0], [0]), ([1], [1]), ([2], [2]), ([], []), ([4], [4]), ([3, 5], [3, 5]), ([0, 0, 1, 2, 3, 4, 5, 6], [0]), ([7, 0, 1, 2, 3, 4, 5, 6], [7]), ([8, 6, 5, 0, 1, 2, 3, 4, 5, 6], [6, 8])])
def aimd_Aimd_cut.B3 : List Nat := [0, 1, 3, 7, 0, 16, 63, 127, 255, 511]
theorem aimd_Aimd_cut.tab3 : rtab .any (opsOf Try.f39 3) = aimd_Aimd_cut.T3 := by kernel_rfl
theorem aimd_Aimd_cut.bits3 : waitsOk aimd_Aimd_cut.T3.2 aimd_Aimd_cut.B3 = true := by kernel_rfl
def aimd_Aimd_cut.T4 : Bool × List (List Nat × List Nat) := (true, [([], []), ([0], [0]), ([1], [1]), ([2], [2]), ([], []), ([4], [4]), ([], []), ([6], [6]), ([7], [7]), ([8], [8]), ([5, 9], [5, 9]), ([10, 5], [10]), ([3, 11], [3, 11]), ([0, 0, 1, 2, 3, 4, 5, 6, 7, 8, 9, 10, 11, 12], [0]), ([13, 0, 1, 2, 3, 4, 5, 6, 7, 8, 9, 10, 11, 12], [13]), ([14, 12, 11, 0, 1, 2, 3, 4, 5, 6, 7, 8, 9, 10, 11, 12], [12, 14])])
def aimd_Aimd_cut.B4 : List Nat := [0, 1, 3, 7, 0, 16, 0, 64, 192, 448, 1008, 2032, 4095, 8191, 16383, 32767]
theorem aimd_Aimd_cut.tab4 : rtab .any (opsOf Try.f39 4) = aimd_Aimd_cut.T4 := by kernel_rfl
theorem aimd_Aimd_cut.bits4 : waitsOk aimd_Aimd_cut.T4.2 aimd_Aimd_cut.B4 = true := by kernel_rfl
def aimd_Aimd_cut.T6 : Bool × List (List Nat × List Nat) := (true, [([], []), ([], []), ([], []), ([], []), ([3], [3]), ([], []), ([5], [5]), ([6], [6]), ([0, 0], [0]), ([8, 0], [8]), ([9, 0], [9]), ([1, 0, 1, 3, 4, 8, 9, 10], [1]), ([11, 0, 1, 3, 4, 8, 9, 10], [11]), ([12, 4, 10, 0, 1, 3, 4, 8, 9, 10], [4, 12]), ([2, 0, 1, 2, 3, 4, 5, 6, 7, 8, 9, 10, 11, 12, 13], [2]), ([14, 0, 1, 2, 3, 4, 5, 6, 7, 8, 9, 10, 11, 12, 13], [14]), ([15, 7, 13, 0, 1, 2, 3, 4, 5, 6, 7, 8, 9, 10, 11, 12, 13], [7, 15])])
def aimd_Aimd_cut.B6 : List Nat := [0, 0, 0, 0, 8, 0, 32, 96, 1, 257, 769, 1819, 3867, 7963, 16383, 32767, 65535]
theorem aimd_Aimd_cut.tab6 : rtab .any (opsOf Try.f39 6) = aimd_Aimd_cut.T6 := by kernel_rfl
theorem aimd_Aimd_cut.bits6 : waitsOk aimd_Aimd_cut.T6.2 aimd_Aimd_cut.B6 = true := by kernel_rfl
def aimd_Aimd_cut.T7 : Bool × List (List Nat × List Nat) := (true, [([], []), ([0], [0]), ([], []), ([2], [2]), ([3], [3]), ([4], [4]), ([], []), ([6], [6]), ([7], [7]), ([8], [8]), ([9], [9]), ([5, 10], [5, 10]), ([1, 11], [1, 11]), ([12], [12])])
def aimd_Aimd_cut.B7 : List Nat := [0, 1, 0, 4, 12, 28, 0, 64, 192, 448, 960, 2044, 4095, 8191]
theorem aimd_Aimd_cut.tab7 : rtab .any (opsOf Try.f39 7) = aimd_Aimd_cut.T7 := by kernel_rfl
theorem aimd_Aimd_cut.bits7 : waitsOk aimd_Aimd_cut.T7.2 aimd_Aimd_cut.B7 = true := by kernel_rfl
set_option maxHeartbeats 8000000 in
set_option maxRecDepth 100000 in
theorem aimd_Aimd_cut.calls (g : Nat) (s0_0 : Int) (s0_1 : Int) (s0_2 : Int) (s0_3 : Int) (s0_4 : Bool) (s0_5 : Int) (s0_6 : Int) (s0_7 : Bool) (s0_8 : Int) (a1_0 : Int) (a1_1 : Int) (a1_2 : Int) (r1 : Int) (r2 : Int) (r3 : Int) (r4 : Int) (r5 : Bool) (r6 : Int) (r7 : Int) (r8 : Bool) (r9 : Int) (w0 w : World) (hI : IsS63 w0 w g s0_0 s0_1 s0_2 s0_3 s0_4 s0_5 s0_6 s0_7 s0_8) (hB : Below w0.heap.size w0 w) (h : aimd_Aimd_cut.f s0_0 s0_1 s0_2 s0_3 s0_4 s0_5 s0_6 s0_7 s0_8 a1_0 a1_1 a1_2 = some (r1, r2, r3, r4, r5, r6, r7, r8, r9)) :
  Calls Try.prog 39 #[.pointer (some ⟨g, 0, none⟩), .agg #[.int .i64 a1_0, .int .i64 a1_1, .int .i64 a1_2]] w fun e w' => e = .returned (.tuple #[]) ∧ IsS63 w0 w' g r1 r2 r3 r4 r5 r6 r7 r8 r9 ∧ Below w0.heap.size w0 w' ∧ KeepBut w w' g none := by
 have hu66 := Try.underlying66
 have HI0 := Aside0.mk hI
 have HK := Aside0.mk (KeepBut.refl w g none)
 have HL := Aside0.mk hB.size
 clear hI
 have HW0 := Aside0.mk hB.size
 have HB := Aside0.mk hB
 clear hB
 have H : ((muldiv_Do.f a1_0 85 100 1).bind fun t130 => (if s0_4 = true then (if a1_0 < (wrap64 (s0_5 - (wrap64 (3 * s0_6)))) then (some (mn s0_0 t130, s0_1, s0_2, 0, s0_4, a1_0, s0_6, s0_7, s0_8)) else ((muldiv_Do.f (wrap64 (a1_0 - s0_5)) 5 100 2).bind fun t131 => ((sat_Abs.f (wrap64 (a1_0 - s0_5))).bind fun t132 => ((muldiv_Do.f (wrap64 (t132 - s0_6)) 5 100 2).bind fun t133 => (some (mn s0_0 t130, s0_1, s0_2, 0, s0_4, wrap64 (s0_5 + t131), wrap64 (s0_6 + t133), s0_7, s0_8)))))) else (some (mn s0_0 t130, s0_1, s0_2, 0, true, a1_0, wrap64 (Int.tdiv a1_0 10), s0_7, s0_8)))) = some (r1, r2, r3, r4, r5, r6, r7, r8, r9) := h
 clear h
 replace H := Option.bind_eq_some_iff.mp H
 obtain ⟨t130, A30, H⟩ := H
 replace H : (if s0_4 = true then (if a1_0 < (wrap64 (s0_5 - (wrap64 (3 * s0_6)))) then (some (mn s0_0 t130, s0_1, s0_2, 0, s0_4, a1_0, s0_6, s0_7, s0_8)) else ((muldiv_Do.f (wrap64 (a1_0 - s0_5)) 5 100 2).bind fun t131 => ((sat_Abs.f (wrap64 (a1_0 - s0_5))).bind fun t132 => ((muldiv_Do.f (wrap64 (t132 - s0_6)) 5 100 2).bind fun t133 => (some (mn s0_0 t130, s0_1, s0_2, 0, s0_4, wrap64 (s0_5 + t131), wrap64 (s0_6 + t133), s0_7, s0_8)))))) else (some (mn s0_0 t130, s0_1, s0_2, 0, true, a1_0, wrap64 (Int.tdiv a1_0 10), s0_7, s0_8))) = some (r1, r2, r3, r4, r5, r6, r7, r8, r9) := H
 have A3 := Aside0.mk A30
 clear A30
 obtain ⟨ji4, hji4⟩ : ∃ j_ : Int, (mn s0_0 t130) = j_ := ⟨_, rfl⟩
 replace H : (if s0_4 = true then (if a1_0 < (wrap64 (s0_5 - (wrap64 (3 * s0_6)))) then (some (ji4, s0_1, s0_2, 0, s0_4, a1_0, s0_6, s0_7, s0_8)) else ((muldiv_Do.f (wrap64 (a1_0 - s0_5)) 5 100 2).bind fun t131 => ((sat_Abs.f (wrap64 (a1_0 - s0_5))).bind fun t132 => ((muldiv_Do.f (wrap64 (t132 - s0_6)) 5 100 2).bind fun t133 => (some (ji4, s0_1, s0_2, 0, s0_4, wrap64 (s0_5 + t131), wrap64 (s0_6 + t133), s0_7, s0_8)))))) else (some (ji4, s0_1, s0_2, 0, true, a1_0, wrap64 (Int.tdiv a1_0 10), s0_7, s0_8))) = some (r1, r2, r3, r4, r5, r6, r7, r8, r9) := by first | (rw [hji4] at H; exact H) | (simp only [hji4] at H ⊢; exact H)
 (try rw [hji4] at A3)
 have hji4_ : (if t130 < s0_0 then t130 else s0_0) = ji4 := hji4
 by_cases c5 : s0_4 = true
 ·subst c5
  have H1 : (if a1_0 < (wrap64 (s0_5 - (wrap64 (3 * s0_6)))) then (some (ji4, s0_1, s0_2, 0, true, a1_0, s0_6, s0_7, s0_8)) else ((muldiv_Do.f (wrap64 (a1_0 - s0_5)) 5 100 2).bind fun t131 => ((sat_Abs.f (wrap64 (a1_0 - s0_5))).bind fun t132 => ((muldiv_Do.f (wrap64 (t132 - s0_6)) 5 100 2).bind fun t133 => (some (ji4, s0_1, s0_2, 0, true, wrap64 (s0_5 + t131), wrap64 (s0_6 + t133), s0_7, s0_8)))))) = some (r1, r2, r3, r4, r5, r6, r7, r8, r9) := by rw [if_pos rfl] at H; exact H
  clear H
  have H := H1
  clear H1
  by_cases c6 : a1_0 < (wrap64 (s0_5 - (wrap64 (3 * s0_6))))
  ·rw [if_pos c6] at H
   have c6b0 : decide (a1_0 < (wrap64 (s0_5 - (wrap64 (3 * s0_6))))) = true := decide_eq_true c6
   clear c6
   simp only [Option.some.injEq, Prod.mk.injEq] at H
   obtain ⟨rfl, rfl, rfl, rfl, rfl, rfl, rfl, rfl, rfl⟩ := H
   go_enter Try.func39, Try.ntmps39
   try go_wp2_with (first | ((with_reducible refine gate_dst (N := 3) rfl ?_); refine box_event ?hg (N := 3) ?hd (cs := #[.int .i64 a1_0, .int .i64 a1_1, .int .i64 a1_2]) (t := 66) ?hr ?_; (case hd => rfl); (case hg => rfl); (case hr => first | (go_simp; done) | (go_simp; rfl)); intro gb129 hg w7 hbox hb; have n0_ := Aside0.mk (IsS63.below (by repeat (first | (with_reducible first | exact HI0.out | apply IsS63.alloc | apply IsS63.drewN | apply IsS63.drew | apply IsS63.set_0 | apply IsS63.set_1 | apply IsS63.set_2 | apply IsS63.set_3 | apply IsS63.set_4 | apply IsS63.set_5 | apply IsS63.set_6 | apply IsS63.set_7 | apply IsS63.set_8) | exact HI0.out)) hb); have n1_ := Aside0.mk (KeepBut.trans (by repeat (first | (with_reducible first | exact HK.out | apply KeepBut.set_ | apply keep_drewN | apply keep_drew | apply keep_alloc) | exact HK.out)) (KeepBut.of_below hb g none) (.inl rfl)); have n2_ := Aside0.mk (below_step (by repeat (first | (with_reducible first | exact HB.out | apply below_alloc | apply pw_below_drewN | apply below_drew1 | refine below_set ?_ (IsS63.ge HI0.out)) | exact HB.out)) hb); have n3_ := Aside0.mk (hbox); have n4_ := Aside0.mk ((by rw [hg]; exact (keep_size (w := w) (g := g) (row := none) (by repeat (first | (with_reducible first | exact HK.out | apply KeepBut.set_ | apply keep_drewN | apply keep_drew | apply keep_alloc) | exact HK.out))) : w.heap.size ≤ gb129)); have n5_ := Aside0.mk ((Nat.le_trans HW0.out (by rw [hg]; exact (keep_size (w := w) (g := g) (row := none) (by repeat (first | (with_reducible first | exact HK.out | apply KeepBut.set_ | apply keep_drewN | apply keep_drew | apply keep_alloc) | exact HK.out))) : w.heap.size ≤ gb129) : w0.heap.size ≤ gb129)); have n6_ := Aside0.mk ((by rw [hg]; exact Nat.ne_of_lt (IsS63.lt (show IsS63 w0 _ g s0_0 s0_1 s0_2 s0_3 true s0_5 s0_6 s0_7 s0_8 from by repeat (first | (with_reducible first | exact HI0.out | apply IsS63.alloc | apply IsS63.drewN | apply IsS63.drew | apply IsS63.set_0 | apply IsS63.set_1 | apply IsS63.set_2 | apply IsS63.set_3 | apply IsS63.set_4 | apply IsS63.set_5 | apply IsS63.set_6 | apply IsS63.set_7 | apply IsS63.set_8) | exact HI0.out))) : g ≠ gb129)); have n7_ := Aside0.mk ((by rw [hg]; exact Nat.ne_of_gt (IsS63.lt (show IsS63 w0 _ g s0_0 s0_1 s0_2 s0_3 true s0_5 s0_6 s0_7 s0_8 from by repeat (first | (with_reducible first | exact HI0.out | apply IsS63.alloc | apply IsS63.drewN | apply IsS63.drew | apply IsS63.set_0 | apply IsS63.set_1 | apply IsS63.set_2 | apply IsS63.set_3 | apply IsS63.set_4 | apply IsS63.set_5 | apply IsS63.set_6 | apply IsS63.set_7 | apply IsS63.set_8) | exact HI0.out))) : gb129 ≠ g)); clear HI0; clear HK; clear HB; have HI0 := n0_; have HK := n1_; have HB := n2_; have BK129 := n3_; have GW129 := n4_; have GE129 := n5_; have NB0_129 := n6_; have NB129_0 := n7_; clear n0_ n1_ n2_ n3_ n4_ n5_ n6_ n7_; clear hb hbox hg))
   have n0_ := Aside0.mk (blk_drew BK129.out)
   have n1_ := Aside0.mk (IsS63.drew HI0.out)
   have n2_ := Aside0.mk (keep_drew HK.out)
   have n3_ := Aside0.mk (below_drew1 HB.out)
   clear BK129
   clear HI0
   clear HK
   clear HB
   have BK129 := n0_
   have HI0 := n1_
   have HK := n2_
   have HB := n3_
   clear n0_ n1_ n2_ n3_
   refine start_ (n := 12) (S := fun w' => w'.cell? ⟨g, 0, none⟩ = some (.int .i64 s0_0) ∧ w'.cell? ⟨g, 1, none⟩ = some (.int .i64 s0_1) ∧ w'.cell? ⟨g, 2, none⟩ = some (.int .i64 s0_2) ∧ w'.cell? ⟨g, 3, none⟩ = some (.int .i64 s0_3) ∧ w'.cell? ⟨g, 4, none⟩ = some (.bool true) ∧ w'.cell? ⟨g, 5, none⟩ = some (.int .i64 s0_5) ∧ w'.cell? ⟨g, 6, none⟩ = some (.int .i64 s0_6) ∧ w'.cell? ⟨g, 7, none⟩ = some (.bool s0_7) ∧ w'.cell? ⟨g, 8, none⟩ = some (.int .i64 s0_8) ∧ w'.cell? ⟨gb129, 0, none⟩ = some (.int .i64 a1_0) ∧ w'.cell? ⟨gb129, 1, none⟩ = some (.int .i64 a1_1) ∧ w'.cell? ⟨gb129, 2, none⟩ = some (.int .i64 a1_2)) (ds := [11]) #[false, false, false, false, false, false, false, false, false, false, false, false] (by kernel_rfl) rfl rfl ⟨(IsS63.cell_0 HI0.out), (IsS63.cell_1 HI0.out), (IsS63.cell_2 HI0.out), (IsS63.cell_3 HI0.out), (IsS63.cell_4 HI0.out), (IsS63.cell_5 HI0.out), (IsS63.cell_6 HI0.out), (IsS63.cell_7 HI0.out), (IsS63.cell_8 HI0.out), (blk_cell BK129.out 0).trans rfl, (blk_cell BK129.out 1).trans rfl, (blk_cell BK129.out 2).trans rfl⟩ (fun hHeld => ?_); refine with_tabW aimd_Aimd_cut.tab1 aimd_Aimd_cut.bits1 (fun HT_ HW_ => ?_)
   generalize w7.drew = w8 at BK129 HI0 HK HB hHeld ⊢
   refine pure_ (i := 0) (N := some 5) (v := ?_) (a' := ?_) (bl 12 1) rfl rfl (any_of HT_.out (by kernel_rfl)) (fun _ _ _ h => h) (Or.inl ⟨by rfl, ?_⟩) ?_ ?_
   rotate_left
   ·intro w'
    go_simp
    with_reducible rfl
   rotate_left
   ·simp only [puts_]
    rfl
   refine pure_ (i := 1) (N := some 6) (v := ?_) (a' := ?_) (bl 12 3) rfl rfl (any_of HT_.out (by kernel_rfl)) (fun _ _ _ h => h) (Or.inl ⟨by rfl, ?_⟩) ?_ ?_
   rotate_left
   ·intro w'
    go_simp
    with_reducible rfl
   rotate_left
   ·simp only [puts_]
    rfl
   refine pure_ (i := 2) (N := some 7) (v := ?_) (a' := ?_) (bl 12 7) rfl rfl (any_of HT_.out (by kernel_rfl)) (fun _ _ _ h => h) (Or.inl ⟨by rfl, ?_⟩) ?_ ?_
   rotate_left
   ·intro w'
    go_simp
    with_reducible rfl
   rotate_left
   ·simp only [puts_]
    rfl
   refine pure_ (i := 3) (N := some 8) (v := ?_) (a' := ?_) (bl 12 15) rfl rfl (any_of HT_.out (by kernel_rfl)) (fun _ _ _ h => h) (Or.inl ⟨by rfl, ?_⟩) ?_ ?_
   rotate_left
   ·intro w'
    go_simp
    with_reducible rfl
   rotate_left
   ·simp only [puts_]
    rfl
   refine pure_ (i := 5) (N := some 10) (v := ?_) (a' := ?_) (bl 12 47) rfl rfl (any_of HT_.out (by kernel_rfl)) (fun _ _ _ h => h) (Or.inl ⟨by rfl, ?_⟩) ?_ ?_
   rotate_left
   ·intro w'
    go_simp
    with_reducible rfl
   rotate_left
   ·simp only [puts_]
    rfl
   refine take_ (i := 4) (N := some 9) (v := ?_) (a' := ?_) (bl 12 63) rfl rfl (take_ofW HT_.out HW_.out (by kernel_rfl)) (fun _ _ _ h => h) (Or.inl ⟨by rfl, ?_⟩) hHeld ?_ ?_
   rotate_left
   ·rintro w' ⟨s0, s1, s2, s3, s4, s5, s6, s7, s8, s9, s10, s11⟩
    go_simp
    with_reducible rfl
   rotate_left
   ·simp only [puts_]
    rfl
   refine take_ (i := 6) (N := some 11) (v := ?_) (a' := ?_) (bl 12 127) rfl rfl (take_ofW HT_.out HW_.out (by kernel_rfl)) (fun _ _ _ h => h) (Or.inl ⟨by rfl, ?_⟩) hHeld ?_ ?_
   rotate_left
   ·rintro w' ⟨s0, s1, s2, s3, s4, s5, s6, s7, s8, s9, s10, s11⟩
    go_simp
    with_reducible rfl
   rotate_left
   ·simp only [puts_]
    rfl
   refine one_ (i := 7) (N := some 12) (bl 12 255) rfl rfl (one_of HT_.out (by kernel_rfl)) (by decide) (fun K hK => ?_)
   refine goes_ Try.func50 (by kernel_rfl) rfl #[.int .i64 a1_0, .int .i64 85, .int .i64 100, .int .i64 1] (by rfl) rfl rfl (by (try simp only [List.map_toArray, List.map_cons, List.map_nil]); first | done | rfl | (simp only [List.length_drop, List.length_take]; rfl)) ?_
   with_reducible refine (muldiv_Do.calls a1_0 85 100 1 t130 _ A3.out).mono ?_
   rintro e w9 ⟨rfl, hb⟩
   refine ⟨_, rfl, ?_⟩
   have n0_ := Aside0.mk (IsS63.below (by repeat (first | (with_reducible first | exact HI0.out | apply IsS63.alloc | apply IsS63.drewN | apply IsS63.drew | apply IsS63.set_0 | apply IsS63.set_1 | apply IsS63.set_2 | apply IsS63.set_3 | apply IsS63.set_4 | apply IsS63.set_5 | apply IsS63.set_6 | apply IsS63.set_7 | apply IsS63.set_8 | refine IsS63.far ?_ NB0_129.out _) | exact HI0.out)) hb)
   have n1_ := Aside0.mk (blk_below (g := gb129) (o := .cells #[.int .i64 a1_0, .int .i64 a1_1, .int .i64 a1_2] 66 (0, 0)) (by (with_reducible repeat (first | refine blk_drewN ?_ _ | refine blk_drew ?_ | refine blk_alloc ?_ _)); exact BK129.out) hb)
   have n2_ := Aside0.mk (KeepBut.trans (by repeat (first | (with_reducible first | exact HK.out | apply KeepBut.set_ | apply keep_drewN | apply keep_drew | apply keep_alloc | refine keep_far ?_ GW129.out _) | exact HK.out)) (KeepBut.of_below hb g none) (.inl rfl))
   have n3_ := Aside0.mk (below_step (by repeat (first | (with_reducible first | exact HB.out | apply below_alloc | apply pw_below_drewN | apply below_drew1 | refine below_set ?_ (IsS63.ge HI0.out) | refine below_set ?_ GE129.out) | exact HB.out)) hb)
   clear HI0
   clear BK129
   clear HK
   clear HB
   have HI0 := n0_
   have BK129 := n1_
   have HK := n2_
   have HB := n3_
   clear n0_ n1_ n2_ n3_
   (try clear hb)
   (try clear hb2)
   (try clear hk)
   (try clear hi)
   refine hK.out _ _ ⟨(IsS63.cell_0 HI0.out), (IsS63.cell_1 HI0.out), (IsS63.cell_2 HI0.out), (IsS63.cell_3 HI0.out), (IsS63.cell_4 HI0.out), (IsS63.cell_5 HI0.out), (IsS63.cell_6 HI0.out), (IsS63.cell_7 HI0.out), (IsS63.cell_8 HI0.out), (blk_cell BK129.out 0).trans rfl, (blk_cell BK129.out 1).trans rfl, (blk_cell BK129.out 2).trans rfl⟩ (fun hHeld => ?_)
   clear hK K
   refine norm_ (a' := ?_) ?_ ?_
   rotate_left
   ·show Act.put _ (some 12) _ = _
    simp only [puts_]
    rfl
   refine pure_ (i := 8) (N := some 13) (v := ?_) (a' := ?_) (bl 12 511) rfl rfl (any_of HT_.out (by kernel_rfl)) (fun _ _ _ h => h) (Or.inl ⟨by rfl, ?_⟩) ?_ ?_
   rotate_left
   ·intro w'
    go_simp
    with_reducible rfl
   rotate_left
   ·simp only [puts_]
    rfl
   refine pure_ (i := 9) (N := some 14) (v := ?_) (a' := ?_) (bl 12 1023) rfl rfl (any_of HT_.out (by kernel_rfl)) (fun _ _ _ h => h) (Or.inl ⟨by rfl, ?_⟩) ?_ ?_
   rotate_left
   ·intro w'
    go_simp
    with_reducible rfl
   rotate_left
   ·simp only [puts_]
    rfl
   refine pure_ (i := 10) (N := some 15) (v := ?_) (a' := ?_) (bl 12 2047) rfl rfl (any_of HT_.out (by kernel_rfl)) (fun _ _ _ h => h) (Or.inl ⟨by rfl, ?_⟩) ?_ ?_
   rotate_left
   ·intro w'
    go_simp
    with_reducible rfl
   rotate_left
   ·simp only [puts_]
    rfl
   refine last_ (i := 11) (N := none) (bl 12 4095) rfl rfl (one_of HT_.out (by kernel_rfl)) (by decide) (fun K hK => ?_)
   have hs10 : w9.cell? ⟨g, 0, none⟩ = some (.int .i64 s0_0) := IsS63.cell_0 HI0.out
   have hfs10 := IsS63.froz_0 HI0.out
   have hns10_0 := NB129_0.out
   have hms10_0 := NB0_129.out
   refine skip_ (w1 := ?_) (by rfl) rfl ?_ ?_
   rotate_left
   ·go_simp
    rfl
   refine hK.out _ _ ?_
   clear hK K
   refine done_ (done_of HT_.out (by kernel_rfl)) ?_
   try go_wp2
   have n0_ : Aside0 ((w9.setCell ⟨g, 0, none⟩ (.int .i64 ji4)).heap[gb129]? = some (.cells #[.int .i64 a1_0, .int .i64 a1_1, .int .i64 a1_2] 66 (0, 0))) := ⟨by (with_reducible repeat (first | refine blk_drewN ?_ _ | refine blk_drew ?_ | refine blk_alloc ?_ _)); refine blk_far ?_ NB129_0.out _; (with_reducible repeat (first | refine blk_drewN ?_ _ | refine blk_drew ?_ | refine blk_alloc ?_ _)); exact BK129.out⟩
   have n1_ : Aside0 (IsS63 w0 (w9.setCell ⟨g, 0, none⟩ (.int .i64 ji4)) g ji4 s0_1 s0_2 s0_3 true s0_5 s0_6 s0_7 s0_8) := ⟨by repeat (first | (with_reducible first | exact HI0.out | apply IsS63.alloc | apply IsS63.drewN | apply IsS63.drew | apply IsS63.set_0 | apply IsS63.set_1 | apply IsS63.set_2 | apply IsS63.set_3 | apply IsS63.set_4 | apply IsS63.set_5 | apply IsS63.set_6 | apply IsS63.set_7 | apply IsS63.set_8 | refine IsS63.far ?_ NB0_129.out _) | exact HI0.out)⟩
   have n2_ : Aside0 (KeepBut w (w9.setCell ⟨g, 0, none⟩ (.int .i64 ji4)) g none) := ⟨by repeat (first | (with_reducible first | exact HK.out | apply KeepBut.set_ | apply keep_drewN | apply keep_drew | apply keep_alloc | refine keep_far ?_ GW129.out _) | exact HK.out)⟩
   have n3_ : Aside0 (Below w0.heap.size w0 (w9.setCell ⟨g, 0, none⟩ (.int .i64 ji4))) := ⟨by repeat (first | (with_reducible first | exact HB.out | apply below_alloc | apply pw_below_drewN | apply below_drew1 | refine below_set ?_ (IsS63.ge HI0.out) | refine below_set ?_ GE129.out) | exact HB.out)⟩
   (try clear BK129)
   (try clear HI0)
   (try clear HK)
   (try clear HB)
   generalize (w9.setCell ⟨g, 0, none⟩ (.int .i64 ji4)) = w11 at n0_ n1_ n2_ n3_ ⊢
   have BK129 := n0_
   have HI0 := n1_
   have HK := n2_
   have HB := n3_
   clear n0_ n1_ n2_ n3_
   have n0_ := Aside0.mk (blk_drew BK129.out)
   have n1_ := Aside0.mk (IsS63.drew HI0.out)
   have n2_ := Aside0.mk (keep_drew HK.out)
   have n3_ := Aside0.mk (below_drew1 HB.out)
   clear BK129
   clear HI0
   clear HK
   clear HB
   have BK129 := n0_
   have HI0 := n1_
   have HK := n2_
   have HB := n3_
   clear n0_ n1_ n2_ n3_
   refine start_ (n := 8) (S := fun w' => w'.cell? ⟨gb129, 0, none⟩ = some (.int .i64 a1_0) ∧ w'.cell? ⟨gb129, 1, none⟩ = some (.int .i64 a1_1) ∧ w'.cell? ⟨gb129, 2, none⟩ = some (.int .i64 a1_2) ∧ w'.cell? ⟨g, 0, none⟩ = some (.int .i64 ji4) ∧ w'.cell? ⟨g, 1, none⟩ = some (.int .i64 s0_1) ∧ w'.cell? ⟨g, 2, none⟩ = some (.int .i64 s0_2) ∧ w'.cell? ⟨g, 3, none⟩ = some (.int .i64 s0_3) ∧ w'.cell? ⟨g, 4, none⟩ = some (.bool true) ∧ w'.cell? ⟨g, 5, none⟩ = some (.int .i64 s0_5) ∧ w'.cell? ⟨g, 6, none⟩ = some (.int .i64 s0_6) ∧ w'.cell? ⟨g, 7, none⟩ = some (.bool s0_7) ∧ w'.cell? ⟨g, 8, none⟩ = some (.int .i64 s0_8)) (ds := []) #[false, false, false, false, false, false, false, false] (by kernel_rfl) rfl rfl ⟨(blk_cell BK129.out 0).trans rfl, (blk_cell BK129.out 1).trans rfl, (blk_cell BK129.out 2).trans rfl, (IsS63.cell_0 HI0.out), (IsS63.cell_1 HI0.out), (IsS63.cell_2 HI0.out), (IsS63.cell_3 HI0.out), (IsS63.cell_4 HI0.out), (IsS63.cell_5 HI0.out), (IsS63.cell_6 HI0.out), (IsS63.cell_7 HI0.out), (IsS63.cell_8 HI0.out)⟩ (fun hHeld => ?_); refine with_tabW aimd_Aimd_cut.tab2 aimd_Aimd_cut.bits2 (fun HT_ HW_ => ?_)
   generalize w11.drew = w12 at BK129 HI0 HK HB hHeld ⊢
   refine pure_ (i := 0) (N := some 16) (v := ?_) (a' := ?_) (bl 8 1) rfl rfl (any_of HT_.out (by kernel_rfl)) (fun _ _ _ h => h) (Or.inl ⟨by rfl, ?_⟩) ?_ ?_
   rotate_left
   ·intro w'
    go_simp
    with_reducible rfl
   rotate_left
   ·simp only [puts_]
    rfl
   refine pure_ (i := 2) (N := some 18) (v := ?_) (a' := ?_) (bl 8 5) rfl rfl (any_of HT_.out (by kernel_rfl)) (fun _ _ _ h => h) (Or.inl ⟨by rfl, ?_⟩) ?_ ?_
   rotate_left
   ·intro w'
    go_simp
    with_reducible rfl
   rotate_left
   ·simp only [puts_]
    rfl
   refine pure_ (i := 3) (N := some 19) (v := ?_) (a' := ?_) (bl 8 13) rfl rfl (any_of HT_.out (by kernel_rfl)) (fun _ _ _ h => h) (Or.inl ⟨by rfl, ?_⟩) ?_ ?_
   rotate_left
   ·intro w'
    go_simp
    with_reducible rfl
   rotate_left
   ·simp only [puts_]
    rfl
   refine pure_ (i := 4) (N := some 20) (v := ?_) (a' := ?_) (bl 8 29) rfl rfl (any_of HT_.out (by kernel_rfl)) (fun _ _ _ h => h) (Or.inl ⟨by rfl, ?_⟩) ?_ ?_
   rotate_left
   ·intro w'
    go_simp
    with_reducible rfl
   rotate_left
   ·simp only [puts_]
    rfl
   refine take_ (i := 1) (N := some 17) (v := ?_) (a' := ?_) (bl 8 31) rfl rfl (take_ofW HT_.out HW_.out (by kernel_rfl)) (fun _ _ _ h => h) (Or.inl ⟨by rfl, ?_⟩) hHeld ?_ ?_
   rotate_left
   ·rintro w' ⟨s0, s1, s2, s3, s4, s5, s6, s7, s8, s9, s10, s11⟩
    go_simp
    with_reducible rfl
   rotate_left
   ·simp only [puts_]
    rfl
   refine take_ (i := 5) (N := some 21) (v := ?_) (a' := ?_) (bl 8 63) rfl rfl (take_ofW HT_.out HW_.out (by kernel_rfl)) (fun _ _ _ h => h) (Or.inl ⟨by rfl, ?_⟩) hHeld ?_ ?_
   rotate_left
   ·rintro w' ⟨s0, s1, s2, s3, s4, s5, s6, s7, s8, s9, s10, s11⟩
    go_simp
    with_reducible rfl
   rotate_left
   ·simp only [puts_]
    rfl
   refine pure_ (i := 6) (N := some 22) (v := ?_) (a' := ?_) (bl 8 127) rfl rfl (any_of HT_.out (by kernel_rfl)) (fun _ _ _ h => h) (Or.inl ⟨by rfl, ?_⟩) ?_ ?_
   rotate_left
   ·intro w'
    go_simp
    with_reducible rfl
   rotate_left
   ·simp only [puts_]
    rfl
   refine pure_ (i := 7) (N := some 4) (v := ?_) (a' := ?_) (bl 8 255) rfl rfl (any_of HT_.out (by kernel_rfl)) (fun _ _ _ h => h) (Or.inl ⟨by rfl, ?_⟩) ?_ ?_
   rotate_left
   ·intro w'
    go_simp
    with_reducible rfl
   rotate_left
   ·simp only [puts_]
    rfl
   refine done_ (done_of HT_.out (by kernel_rfl)) ?_
   obtain ⟨HGz13, hgz13⟩ := HI0.out
   have hcz13_0 := cellS63_0 HGz13
   have hcz13_1 := cellS63_1 HGz13
   have hcz13_2 := cellS63_2 HGz13
   have hcz13_3 := cellS63_3 HGz13
   have hcz13_4 := cellS63_4 HGz13
   have hcz13_5 := cellS63_5 HGz13
   have hcz13_6 := cellS63_6 HGz13
   have hcz13_7 := cellS63_7 HGz13
   have hcz13_8 := cellS63_8 HGz13
   have hfz13_0 := blk_frozen HGz13 0
   have hfz13_1 := blk_frozen HGz13 1
   have hfz13_2 := blk_frozen HGz13 2
   have hfz13_3 := blk_frozen HGz13 3
   have hfz13_4 := blk_frozen HGz13 4
   have hfz13_5 := blk_frozen HGz13 5
   have hfz13_6 := blk_frozen HGz13 6
   have hfz13_7 := blk_frozen HGz13 7
   have hfz13_8 := blk_frozen HGz13 8
   clear HGz13 hgz13
   try go_wp2
   have n0_ := Aside0.mk (blk_drew BK129.out)
   have n1_ := Aside0.mk (IsS63.drew HI0.out)
   have n2_ := Aside0.mk (keep_drew HK.out)
   have n3_ := Aside0.mk (below_drew1 HB.out)
   clear BK129
   clear HI0
   clear HK
   clear HB
   have BK129 := n0_
   have HI0 := n1_
   have HK := n2_
   have HB := n3_
   clear n0_ n1_ n2_ n3_
   refine start_ (n := 14) (S := fun w' => w'.cell? ⟨gb129, 0, none⟩ = some (.int .i64 a1_0) ∧ w'.cell? ⟨gb129, 1, none⟩ = some (.int .i64 a1_1) ∧ w'.cell? ⟨gb129, 2, none⟩ = some (.int .i64 a1_2) ∧ w'.cell? ⟨g, 0, none⟩ = some (.int .i64 ji4) ∧ w'.cell? ⟨g, 1, none⟩ = some (.int .i64 s0_1) ∧ w'.cell? ⟨g, 2, none⟩ = some (.int .i64 s0_2) ∧ w'.cell? ⟨g, 3, none⟩ = some (.int .i64 s0_3) ∧ w'.cell? ⟨g, 4, none⟩ = some (.bool true) ∧ w'.cell? ⟨g, 5, none⟩ = some (.int .i64 s0_5) ∧ w'.cell? ⟨g, 6, none⟩ = some (.int .i64 s0_6) ∧ w'.cell? ⟨g, 7, none⟩ = some (.bool s0_7) ∧ w'.cell? ⟨g, 8, none⟩ = some (.int .i64 s0_8)) (ds := []) #[false, false, false, false, false, false, false, false, false, false, false, false, false, false] (by kernel_rfl) rfl rfl ⟨(blk_cell BK129.out 0).trans rfl, (blk_cell BK129.out 1).trans rfl, (blk_cell BK129.out 2).trans rfl, (IsS63.cell_0 HI0.out), (IsS63.cell_1 HI0.out), (IsS63.cell_2 HI0.out), (IsS63.cell_3 HI0.out), (IsS63.cell_4 HI0.out), (IsS63.cell_5 HI0.out), (IsS63.cell_6 HI0.out), (IsS63.cell_7 HI0.out), (IsS63.cell_8 HI0.out)⟩ (fun hHeld => ?_); refine with_tabW aimd_Aimd_cut.tab7 aimd_Aimd_cut.bits7 (fun HT_ HW_ => ?_)
   generalize w12.drew = w14 at BK129 HI0 HK HB hHeld ⊢
   refine pure_ (i := 0) (N := some 68) (v := ?_) (a' := ?_) (bl 14 1) rfl rfl (any_of HT_.out (by kernel_rfl)) (fun _ _ _ h => h) (Or.inl ⟨by rfl, ?_⟩) ?_ ?_
   rotate_left
   ·intro w'
    go_simp
    with_reducible rfl
   rotate_left
   ·simp only [puts_]
    rfl
   refine pure_ (i := 2) (N := some 70) (v := ?_) (a' := ?_) (bl 14 5) rfl rfl (any_of HT_.out (by kernel_rfl)) (fun _ _ _ h => h) (Or.inl ⟨by rfl, ?_⟩) ?_ ?_
   rotate_left
   ·intro w'
    go_simp
    with_reducible rfl
   rotate_left
   ·simp only [puts_]
    rfl
   refine pure_ (i := 3) (N := some 71) (v := ?_) (a' := ?_) (bl 14 13) rfl rfl (any_of HT_.out (by kernel_rfl)) (fun _ _ _ h => h) (Or.inl ⟨by rfl, ?_⟩) ?_ ?_
   rotate_left
   ·intro w'
    go_simp
    with_reducible rfl
   rotate_left
   ·simp only [puts_]
    rfl
   refine pure_ (i := 4) (N := some 72) (v := ?_) (a' := ?_) (bl 14 29) rfl rfl (any_of HT_.out (by kernel_rfl)) (fun _ _ _ h => h) (Or.inl ⟨by rfl, ?_⟩) ?_ ?_
   rotate_left
   ·intro w'
    go_simp
    with_reducible rfl
   rotate_left
   ·simp only [puts_]
    rfl
   refine pure_ (i := 6) (N := some 74) (v := ?_) (a' := ?_) (bl 14 93) rfl rfl (any_of HT_.out (by kernel_rfl)) (fun _ _ _ h => h) (Or.inl ⟨by rfl, ?_⟩) ?_ ?_
   rotate_left
   ·intro w'
    go_simp
    with_reducible rfl
   rotate_left
   ·simp only [puts_]
    rfl
   refine pure_ (i := 7) (N := some 75) (v := ?_) (a' := ?_) (bl 14 221) rfl rfl (any_of HT_.out (by kernel_rfl)) (fun _ _ _ h => h) (Or.inl ⟨by rfl, ?_⟩) ?_ ?_
   rotate_left
   ·intro w'
    go_simp
    with_reducible rfl
   rotate_left
   ·simp only [puts_]
    rfl
   refine pure_ (i := 8) (N := some 76) (v := ?_) (a' := ?_) (bl 14 477) rfl rfl (any_of HT_.out (by kernel_rfl)) (fun _ _ _ h => h) (Or.inl ⟨by rfl, ?_⟩) ?_ ?_
   rotate_left
   ·intro w'
    go_simp
    with_reducible rfl
   rotate_left
   ·simp only [puts_]
    rfl
   refine take_ (i := 1) (N := some 69) (v := ?_) (a' := ?_) (bl 14 479) rfl rfl (take_ofW HT_.out HW_.out (by kernel_rfl)) (fun _ _ _ h => h) (Or.inl ⟨by rfl, ?_⟩) hHeld ?_ ?_
   rotate_left
   ·rintro w' ⟨s0, s1, s2, s3, s4, s5, s6, s7, s8, s9, s10, s11⟩
    go_simp
    with_reducible rfl
   rotate_left
   ·simp only [puts_]
    rfl
   refine take_ (i := 5) (N := some 73) (v := ?_) (a' := ?_) (bl 14 511) rfl rfl (take_ofW HT_.out HW_.out (by kernel_rfl)) (fun _ _ _ h => h) (Or.inl ⟨by rfl, ?_⟩) hHeld ?_ ?_
   rotate_left
   ·rintro w' ⟨s0, s1, s2, s3, s4, s5, s6, s7, s8, s9, s10, s11⟩
    go_simp
    with_reducible rfl
   rotate_left
   ·simp only [puts_]
    rfl
   refine take_ (i := 9) (N := some 77) (v := ?_) (a' := ?_) (bl 14 1023) rfl rfl (take_ofW HT_.out HW_.out (by kernel_rfl)) (fun _ _ _ h => h) (Or.inl ⟨by rfl, ?_⟩) hHeld ?_ ?_
   rotate_left
   ·rintro w' ⟨s0, s1, s2, s3, s4, s5, s6, s7, s8, s9, s10, s11⟩
    go_simp
    with_reducible rfl
   rotate_left
   ·simp only [puts_]
    rfl
   refine pure_ (i := 10) (N := some 78) (v := ?_) (a' := ?_) (bl 14 2047) rfl rfl (any_of HT_.out (by kernel_rfl)) (fun _ _ _ h => h) (Or.inl ⟨by rfl, ?_⟩) ?_ ?_
   rotate_left
   ·intro w'
    go_simp
    with_reducible rfl
   rotate_left
   ·simp only [puts_]
    rfl
   refine pure_ (i := 11) (N := some 79) (v := ?_) (a' := ?_) (bl 14 4095) rfl rfl (any_of HT_.out (by kernel_rfl)) (fun _ _ _ h => h) (Or.inl ⟨by rfl, ?_⟩) ?_ ?_
   rotate_left
   ·intro w'
    go_simp
    with_reducible rfl
   rotate_left
   ·simp only [puts_]
    rfl
   refine pure_ (i := 12) (N := some 80) (v := ?_) (a' := ?_) (bl 14 8191) rfl rfl (any_of HT_.out (by kernel_rfl)) (fun _ _ _ h => h) (Or.inl ⟨by rfl, ?_⟩) ?_ ?_
   rotate_left
   ·intro w'
    go_simp
    with_reducible rfl
   rotate_left
   ·simp only [puts_]
    rfl
   refine pure_ (i := 13) (N := some 67) (v := ?_) (a' := ?_) (bl 14 16383) rfl rfl (any_of HT_.out (by kernel_rfl)) (fun _ _ _ h => h) (Or.inl ⟨by rfl, ?_⟩) ?_ ?_
   rotate_left
   ·intro w'
    go_simp
    with_reducible rfl
   rotate_left
   ·simp only [puts_]
    rfl
   refine done_ (done_of HT_.out (by kernel_rfl)) ?_
   have hnb15 := NB129_0.out
   have hnc15 := NB0_129.out
   have hcz16_0 : w14.cell? ⟨gb129, 0, none⟩ = some (.int .i64 a1_0) := (blk_cell BK129.out 0).trans rfl
   have hcz16_1 : w14.cell? ⟨gb129, 1, none⟩ = some (.int .i64 a1_1) := (blk_cell BK129.out 1).trans rfl
   have hcz16_2 : w14.cell? ⟨gb129, 2, none⟩ = some (.int .i64 a1_2) := (blk_cell BK129.out 2).trans rfl
   have hfz16_0 := blk_frozen BK129.out 0
   have hfz16_1 := blk_frozen BK129.out 1
   have hfz16_2 := blk_frozen BK129.out 2
   obtain ⟨HGz17, hgz17⟩ := HI0.out
   have hcz17_0 := cellS63_0 HGz17
   have hcz17_1 := cellS63_1 HGz17
   have hcz17_2 := cellS63_2 HGz17
   have hcz17_3 := cellS63_3 HGz17
   have hcz17_4 := cellS63_4 HGz17
   have hcz17_5 := cellS63_5 HGz17
   have hcz17_6 := cellS63_6 HGz17
   have hcz17_7 := cellS63_7 HGz17
   have hcz17_8 := cellS63_8 HGz17
   have hfz17_0 := blk_frozen HGz17 0
   have hfz17_1 := blk_frozen HGz17 1
   have hfz17_2 := blk_frozen HGz17 2
   have hfz17_3 := blk_frozen HGz17 3
   have hfz17_4 := blk_frozen HGz17 4
   have hfz17_5 := blk_frozen HGz17 5
   have hfz17_6 := blk_frozen HGz17 6
   have hfz17_7 := blk_frozen HGz17 7
   have hfz17_8 := blk_frozen HGz17 8
   clear HGz17 hgz17
   try go_wp2
   first | go_end0 | ((try simp only [Exit.inBlock, Exit.then]); refine bodyPost_ret (results_none rfl _ _ _) rfl ?_)
   exact ⟨by first | rfl | (simp [errW_none, errW_some] <;> rfl) | (simp only [← hji4]; first | rfl | (simp [errW_none, errW_some] <;> rfl)) | (simp [*, errW_none, errW_some] <;> rfl), by repeat (first | (with_reducible first | exact HI0.out | apply IsS63.alloc | apply IsS63.drewN | apply IsS63.drew | apply IsS63.set_0 | apply IsS63.set_1 | apply IsS63.set_2 | apply IsS63.set_3 | apply IsS63.set_4 | apply IsS63.set_5 | apply IsS63.set_6 | apply IsS63.set_7 | apply IsS63.set_8 | refine IsS63.far ?_ NB0_129.out _) | exact HI0.out), by repeat (first | (with_reducible first | exact HB.out | apply below_alloc | apply pw_below_drewN | apply below_drew1 | refine below_set ?_ (IsS63.ge HI0.out) | refine below_set ?_ GE129.out) | exact HB.out), by repeat (first | (with_reducible first | exact HK.out | apply KeepBut.set_ | apply keep_drewN | apply keep_drew | apply keep_alloc | refine keep_far ?_ GW129.out _) | exact HK.out)⟩
  ·rw [if_neg c6] at H
   have c6b0 : decide (a1_0 < (wrap64 (s0_5 - (wrap64 (3 * s0_6))))) = false := decide_eq_false c6
   clear c6
   replace H := Option.bind_eq_some_iff.mp H
   obtain ⟨t131, A180, H⟩ := H
   replace H : ((sat_Abs.f (wrap64 (a1_0 - s0_5))).bind fun t132 => ((muldiv_Do.f (wrap64 (t132 - s0_6)) 5 100 2).bind fun t133 => (some (ji4, s0_1, s0_2, 0, true, wrap64 (s0_5 + t131), wrap64 (s0_6 + t133), s0_7, s0_8)))) = some (r1, r2, r3, r4, r5, r6, r7, r8, r9) := H
   have A18 := Aside0.mk A180
   clear A180
   replace H := Option.bind_eq_some_iff.mp H
   obtain ⟨t132, A190, H⟩ := H
   replace H : ((muldiv_Do.f (wrap64 (t132 - s0_6)) 5 100 2).bind fun t133 => (some (ji4, s0_1, s0_2, 0, true, wrap64 (s0_5 + t131), wrap64 (s0_6 + t133), s0_7, s0_8))) = some (r1, r2, r3, r4, r5, r6, r7, r8, r9) := H
   have A19 := Aside0.mk A190
   clear A190
   replace H := Option.bind_eq_some_iff.mp H
   obtain ⟨t133, A200, H⟩ := H
   replace H : (some (ji4, s0_1, s0_2, 0, true, wrap64 (s0_5 + t131), wrap64 (s0_6 + t133), s0_7, s0_8)) = some (r1, r2, r3, r4, r5, r6, r7, r8, r9) := H
   have A20 := Aside0.mk A200
   clear A200
   simp only [Option.some.injEq, Prod.mk.injEq] at H
   obtain ⟨rfl, rfl, rfl, rfl, rfl, rfl, rfl, rfl, rfl⟩ := H
   go_enter Try.func39, Try.ntmps39
   try go_wp2_with (first | ((with_reducible refine gate_dst (N := 3) rfl ?_); refine box_event ?hg (N := 3) ?hd (cs := #[.int .i64 a1_0, .int .i64 a1_1, .int .i64 a1_2]) (t := 66) ?hr ?_; (case hd => rfl); (case hg => rfl); (case hr => first | (go_simp; done) | (go_simp; rfl)); intro gb129 hg w21 hbox hb; have n0_ := Aside0.mk (IsS63.below (by repeat (first | (with_reducible first | exact HI0.out | apply IsS63.alloc | apply IsS63.drewN | apply IsS63.drew | apply IsS63.set_0 | apply IsS63.set_1 | apply IsS63.set_2 | apply IsS63.set_3 | apply IsS63.set_4 | apply IsS63.set_5 | apply IsS63.set_6 | apply IsS63.set_7 | apply IsS63.set_8) | exact HI0.out)) hb); have n1_ := Aside0.mk (KeepBut.trans (by repeat (first | (with_reducible first | exact HK.out | apply KeepBut.set_ | apply keep_drewN | apply keep_drew | apply keep_alloc) | exact HK.out)) (KeepBut.of_below hb g none) (.inl rfl)); have n2_ := Aside0.mk (below_step (by repeat (first | (with_reducible first | exact HB.out | apply below_alloc | apply pw_below_drewN | apply below_drew1 | refine below_set ?_ (IsS63.ge HI0.out)) | exact HB.out)) hb); have n3_ := Aside0.mk (hbox); have n4_ := Aside0.mk ((by rw [hg]; exact (keep_size (w := w) (g := g) (row := none) (by repeat (first | (with_reducible first | exact HK.out | apply KeepBut.set_ | apply keep_drewN | apply keep_drew | apply keep_alloc) | exact HK.out))) : w.heap.size ≤ gb129)); have n5_ := Aside0.mk ((Nat.le_trans HW0.out (by rw [hg]; exact (keep_size (w := w) (g := g) (row := none) (by repeat (first | (with_reducible first | exact HK.out | apply KeepBut.set_ | apply keep_drewN | apply keep_drew | apply keep_alloc) | exact HK.out))) : w.heap.size ≤ gb129) : w0.heap.size ≤ gb129)); have n6_ := Aside0.mk ((by rw [hg]; exact Nat.ne_of_lt (IsS63.lt (show IsS63 w0 _ g s0_0 s0_1 s0_2 s0_3 true s0_5 s0_6 s0_7 s0_8 from by repeat (first | (with_reducible first | exact HI0.out | apply IsS63.alloc | apply IsS63.drewN | apply IsS63.drew | apply IsS63.set_0 | apply IsS63.set_1 | apply IsS63.set_2 | apply IsS63.set_3 | apply IsS63.set_4 | apply IsS63.set_5 | apply IsS63.set_6 | apply IsS63.set_7 | apply IsS63.set_8) | exact HI0.out))) : g ≠ gb129)); have n7_ := Aside0.mk ((by rw [hg]; exact Nat.ne_of_gt (IsS63.lt (show IsS63 w0 _ g s0_0 s0_1 s0_2 s0_3 true s0_5 s0_6 s0_7 s0_8 from by repeat (first | (with_reducible first | exact HI0.out | apply IsS63.alloc | apply IsS63.drewN | apply IsS63.drew | apply IsS63.set_0 | apply IsS63.set_1 | apply IsS63.set_2 | apply IsS63.set_3 | apply IsS63.set_4 | apply IsS63.set_5 | apply IsS63.set_6 | apply IsS63.set_7 | apply IsS63.set_8) | exact HI0.out))) : gb129 ≠ g)); clear HI0; clear HK; clear HB; have HI0 := n0_; have HK := n1_; have HB := n2_; have BK129 := n3_; have GW129 := n4_; have GE129 := n5_; have NB0_129 := n6_; have NB129_0 := n7_; clear n0_ n1_ n2_ n3_ n4_ n5_ n6_ n7_; clear hb hbox hg))
   have n0_ := Aside0.mk (blk_drew BK129.out)
   have n1_ := Aside0.mk (IsS63.drew HI0.out)
   have n2_ := Aside0.mk (keep_drew HK.out)
   have n3_ := Aside0.mk (below_drew1 HB.out)
   clear BK129
   clear HI0
   clear HK
   clear HB
   have BK129 := n0_
   have HI0 := n1_
   have HK := n2_
   have HB := n3_
   clear n0_ n1_ n2_ n3_
   refine start_ (n := 12) (S := fun w' => w'.cell? ⟨g, 0, none⟩ = some (.int .i64 s0_0) ∧ w'.cell? ⟨g, 1, none⟩ = some (.int .i64 s0_1) ∧ w'.cell? ⟨g, 2, none⟩ = some (.int .i64 s0_2) ∧ w'.cell? ⟨g, 3, none⟩ = some (.int .i64 s0_3) ∧ w'.cell? ⟨g, 4, none⟩ = some (.bool true) ∧ w'.cell? ⟨g, 5, none⟩ = some (.int .i64 s0_5) ∧ w'.cell? ⟨g, 6, none⟩ = some (.int .i64 s0_6) ∧ w'.cell? ⟨g, 7, none⟩ = some (.bool s0_7) ∧ w'.cell? ⟨g, 8, none⟩ = some (.int .i64 s0_8) ∧ w'.cell? ⟨gb129, 0, none⟩ = some (.int .i64 a1_0) ∧ w'.cell? ⟨gb129, 1, none⟩ = some (.int .i64 a1_1) ∧ w'.cell? ⟨gb129, 2, none⟩ = some (.int .i64 a1_2)) (ds := [11]) #[false, false, false, false, false, false, false, false, false, false, false, false] (by kernel_rfl) rfl rfl ⟨(IsS63.cell_0 HI0.out), (IsS63.cell_1 HI0.out), (IsS63.cell_2 HI0.out), (IsS63.cell_3 HI0.out), (IsS63.cell_4 HI0.out), (IsS63.cell_5 HI0.out), (IsS63.cell_6 HI0.out), (IsS63.cell_7 HI0.out), (IsS63.cell_8 HI0.out), (blk_cell BK129.out 0).trans rfl, (blk_cell BK129.out 1).trans rfl, (blk_cell BK129.out 2).trans rfl⟩ (fun hHeld => ?_); refine with_tabW aimd_Aimd_cut.tab1 aimd_Aimd_cut.bits1 (fun HT_ HW_ => ?_)
   generalize w21.drew = w22 at BK129 HI0 HK HB hHeld ⊢
   refine pure_ (i := 0) (N := some 5) (v := ?_) (a' := ?_) (bl 12 1) rfl rfl (any_of HT_.out (by kernel_rfl)) (fun _ _ _ h => h) (Or.inl ⟨by rfl, ?_⟩) ?_ ?_
   rotate_left
   ·intro w'
    go_simp
    with_reducible rfl
   rotate_left
   ·simp only [puts_]
    rfl
   refine pure_ (i := 1) (N := some 6) (v := ?_) (a' := ?_) (bl 12 3) rfl rfl (any_of HT_.out (by kernel_rfl)) (fun _ _ _ h => h) (Or.inl ⟨by rfl, ?_⟩) ?_ ?_
   rotate_left
   ·intro w'
    go_simp
    with_reducible rfl
   rotate_left
   ·simp only [puts_]
    rfl
   refine pure_ (i := 2) (N := some 7) (v := ?_) (a' := ?_) (bl 12 7) rfl rfl (any_of HT_.out (by kernel_rfl)) (fun _ _ _ h => h) (Or.inl ⟨by rfl, ?_⟩) ?_ ?_
   rotate_left
   ·intro w'
    go_simp
    with_reducible rfl
   rotate_left
   ·simp only [puts_]
    rfl
   refine pure_ (i := 3) (N := some 8) (v := ?_) (a' := ?_) (bl 12 15) rfl rfl (any_of HT_.out (by kernel_rfl)) (fun _ _ _ h => h) (Or.inl ⟨by rfl, ?_⟩) ?_ ?_
   rotate_left
   ·intro w'
    go_simp
    with_reducible rfl
   rotate_left
   ·simp only [puts_]
    rfl
   refine pure_ (i := 5) (N := some 10) (v := ?_) (a' := ?_) (bl 12 47) rfl rfl (any_of HT_.out (by kernel_rfl)) (fun _ _ _ h => h) (Or.inl ⟨by rfl, ?_⟩) ?_ ?_
   rotate_left
   ·intro w'
    go_simp
    with_reducible rfl
   rotate_left
   ·simp only [puts_]
    rfl
   refine take_ (i := 4) (N := some 9) (v := ?_) (a' := ?_) (bl 12 63) rfl rfl (take_ofW HT_.out HW_.out (by kernel_rfl)) (fun _ _ _ h => h) (Or.inl ⟨by rfl, ?_⟩) hHeld ?_ ?_
   rotate_left
   ·rintro w' ⟨s0, s1, s2, s3, s4, s5, s6, s7, s8, s9, s10, s11⟩
    go_simp
    with_reducible rfl
   rotate_left
   ·simp only [puts_]
    rfl
   refine take_ (i := 6) (N := some 11) (v := ?_) (a' := ?_) (bl 12 127) rfl rfl (take_ofW HT_.out HW_.out (by kernel_rfl)) (fun _ _ _ h => h) (Or.inl ⟨by rfl, ?_⟩) hHeld ?_ ?_
   rotate_left
   ·rintro w' ⟨s0, s1, s2, s3, s4, s5, s6, s7, s8, s9, s10, s11⟩
    go_simp
    with_reducible rfl
   rotate_left
   ·simp only [puts_]
    rfl
   refine one_ (i := 7) (N := some 12) (bl 12 255) rfl rfl (one_of HT_.out (by kernel_rfl)) (by decide) (fun K hK => ?_)
   refine goes_ Try.func50 (by kernel_rfl) rfl #[.int .i64 a1_0, .int .i64 85, .int .i64 100, .int .i64 1] (by rfl) rfl rfl (by (try simp only [List.map_toArray, List.map_cons, List.map_nil]); first | done | rfl | (simp only [List.length_drop, List.length_take]; rfl)) ?_
   with_reducible refine (muldiv_Do.calls a1_0 85 100 1 t130 _ A3.out).mono ?_
   rintro e w23 ⟨rfl, hb⟩
   refine ⟨_, rfl, ?_⟩
   have n0_ := Aside0.mk (IsS63.below (by repeat (first | (with_reducible first | exact HI0.out | apply IsS63.alloc | apply IsS63.drewN | apply IsS63.drew | apply IsS63.set_0 | apply IsS63.set_1 | apply IsS63.set_2 | apply IsS63.set_3 | apply IsS63.set_4 | apply IsS63.set_5 | apply IsS63.set_6 | apply IsS63.set_7 | apply IsS63.set_8 | refine IsS63.far ?_ NB0_129.out _) | exact HI0.out)) hb)
   have n1_ := Aside0.mk (blk_below (g := gb129) (o := .cells #[.int .i64 a1_0, .int .i64 a1_1, .int .i64 a1_2] 66 (0, 0)) (by (with_reducible repeat (first | refine blk_drewN ?_ _ | refine blk_drew ?_ | refine blk_alloc ?_ _)); exact BK129.out) hb)
   have n2_ := Aside0.mk (KeepBut.trans (by repeat (first | (with_reducible first | exact HK.out | apply KeepBut.set_ | apply keep_drewN | apply keep_drew | apply keep_alloc | refine keep_far ?_ GW129.out _) | exact HK.out)) (KeepBut.of_below hb g none) (.inl rfl))
   have n3_ := Aside0.mk (below_step (by repeat (first | (with_reducible first | exact HB.out | apply below_alloc | apply pw_below_drewN | apply below_drew1 | refine below_set ?_ (IsS63.ge HI0.out) | refine below_set ?_ GE129.out) | exact HB.out)) hb)
   clear HI0
   clear BK129
   clear HK
   clear HB
   have HI0 := n0_
   have BK129 := n1_
   have HK := n2_
   have HB := n3_
   clear n0_ n1_ n2_ n3_
   (try clear hb)
   (try clear hb2)
   (try clear hk)
   (try clear hi)
   refine hK.out _ _ ⟨(IsS63.cell_0 HI0.out), (IsS63.cell_1 HI0.out), (IsS63.cell_2 HI0.out), (IsS63.cell_3 HI0.out), (IsS63.cell_4 HI0.out), (IsS63.cell_5 HI0.out), (IsS63.cell_6 HI0.out), (IsS63.cell_7 HI0.out), (IsS63.cell_8 HI0.out), (blk_cell BK129.out 0).trans rfl, (blk_cell BK129.out 1).trans rfl, (blk_cell BK129.out 2).trans rfl⟩ (fun hHeld => ?_)
   clear hK K
   refine norm_ (a' := ?_) ?_ ?_
   rotate_left
   ·show Act.put _ (some 12) _ = _
    simp only [puts_]
    rfl
   refine pure_ (i := 8) (N := some 13) (v := ?_) (a' := ?_) (bl 12 511) rfl rfl (any_of HT_.out (by kernel_rfl)) (fun _ _ _ h => h) (Or.inl ⟨by rfl, ?_⟩) ?_ ?_
   rotate_left
   ·intro w'
    go_simp
    with_reducible rfl
   rotate_left
   ·simp only [puts_]
    rfl
   refine pure_ (i := 9) (N := some 14) (v := ?_) (a' := ?_) (bl 12 1023) rfl rfl (any_of HT_.out (by kernel_rfl)) (fun _ _ _ h => h) (Or.inl ⟨by rfl, ?_⟩) ?_ ?_
   rotate_left
   ·intro w'
    go_simp
    with_reducible rfl
   rotate_left
   ·simp only [puts_]
    rfl
   refine pure_ (i := 10) (N := some 15) (v := ?_) (a' := ?_) (bl 12 2047) rfl rfl (any_of HT_.out (by kernel_rfl)) (fun _ _ _ h => h) (Or.inl ⟨by rfl, ?_⟩) ?_ ?_
   rotate_left
   ·intro w'
    go_simp
    with_reducible rfl
   rotate_left
   ·simp only [puts_]
    rfl
   refine last_ (i := 11) (N := none) (bl 12 4095) rfl rfl (one_of HT_.out (by kernel_rfl)) (by decide) (fun K hK => ?_)
   have hs24 : w23.cell? ⟨g, 0, none⟩ = some (.int .i64 s0_0) := IsS63.cell_0 HI0.out
   have hfs24 := IsS63.froz_0 HI0.out
   have hns24_0 := NB129_0.out
   have hms24_0 := NB0_129.out
   refine skip_ (w1 := ?_) (by rfl) rfl ?_ ?_
   rotate_left
   ·go_simp
    rfl
   refine hK.out _ _ ?_
   clear hK K
   refine done_ (done_of HT_.out (by kernel_rfl)) ?_
   try go_wp2
   have n0_ : Aside0 ((w23.setCell ⟨g, 0, none⟩ (.int .i64 ji4)).heap[gb129]? = some (.cells #[.int .i64 a1_0, .int .i64 a1_1, .int .i64 a1_2] 66 (0, 0))) := ⟨by (with_reducible repeat (first | refine blk_drewN ?_ _ | refine blk_drew ?_ | refine blk_alloc ?_ _)); refine blk_far ?_ NB129_0.out _; (with_reducible repeat (first | refine blk_drewN ?_ _ | refine blk_drew ?_ | refine blk_alloc ?_ _)); exact BK129.out⟩
   have n1_ : Aside0 (IsS63 w0 (w23.setCell ⟨g, 0, none⟩ (.int .i64 ji4)) g ji4 s0_1 s0_2 s0_3 true s0_5 s0_6 s0_7 s0_8) := ⟨by repeat (first | (with_reducible first | exact HI0.out | apply IsS63.alloc | apply IsS63.drewN | apply IsS63.drew | apply IsS63.set_0 | apply IsS63.set_1 | apply IsS63.set_2 | apply IsS63.set_3 | apply IsS63.set_4 | apply IsS63.set_5 | apply IsS63.set_6 | apply IsS63.set_7 | apply IsS63.set_8 | refine IsS63.far ?_ NB0_129.out _) | exact HI0.out)⟩
   have n2_ : Aside0 (KeepBut w (w23.setCell ⟨g, 0, none⟩ (.int .i64 ji4)) g none) := ⟨by repeat (first | (with_reducible first | exact HK.out | apply KeepBut.set_ | apply keep_drewN | apply keep_drew | apply keep_alloc | refine keep_far ?_ GW129.out _) | exact HK.out)⟩
   have n3_ : Aside0 (Below w0.heap.size w0 (w23.setCell ⟨g, 0, none⟩ (.int .i64 ji4))) := ⟨by repeat (first | (with_reducible first | exact HB.out | apply below_alloc | apply pw_below_drewN | apply below_drew1 | refine below_set ?_ (IsS63.ge HI0.out) | refine below_set ?_ GE129.out) | exact HB.out)⟩
   (try clear BK129)
   (try clear HI0)
   (try clear HK)
   (try clear HB)
   generalize (w23.setCell ⟨g, 0, none⟩ (.int .i64 ji4)) = w25 at n0_ n1_ n2_ n3_ ⊢
   have BK129 := n0_
   have HI0 := n1_
   have HK := n2_
   have HB := n3_
   clear n0_ n1_ n2_ n3_
   have n0_ := Aside0.mk (blk_drew BK129.out)
   have n1_ := Aside0.mk (IsS63.drew HI0.out)
   have n2_ := Aside0.mk (keep_drew HK.out)
   have n3_ := Aside0.mk (below_drew1 HB.out)
   clear BK129
   clear HI0
   clear HK
   clear HB
   have BK129 := n0_
   have HI0 := n1_
   have HK := n2_
   have HB := n3_
   clear n0_ n1_ n2_ n3_
   refine start_ (n := 8) (S := fun w' => w'.cell? ⟨gb129, 0, none⟩ = some (.int .i64 a1_0) ∧ w'.cell? ⟨gb129, 1, none⟩ = some (.int .i64 a1_1) ∧ w'.cell? ⟨gb129, 2, none⟩ = some (.int .i64 a1_2) ∧ w'.cell? ⟨g, 0, none⟩ = some (.int .i64 ji4) ∧ w'.cell? ⟨g, 1, none⟩ = some (.int .i64 s0_1) ∧ w'.cell? ⟨g, 2, none⟩ = some (.int .i64 s0_2) ∧ w'.cell? ⟨g, 3, none⟩ = some (.int .i64 s0_3) ∧ w'.cell? ⟨g, 4, none⟩ = some (.bool true) ∧ w'.cell? ⟨g, 5, none⟩ = some (.int .i64 s0_5) ∧ w'.cell? ⟨g, 6, none⟩ = some (.int .i64 s0_6) ∧ w'.cell? ⟨g, 7, none⟩ = some (.bool s0_7) ∧ w'.cell? ⟨g, 8, none⟩ = some (.int .i64 s0_8)) (ds := []) #[false, false, false, false, false, false, false, false] (by kernel_rfl) rfl rfl ⟨(blk_cell BK129.out 0).trans rfl, (blk_cell BK129.out 1).trans rfl, (blk_cell BK129.out 2).trans rfl, (IsS63.cell_0 HI0.out), (IsS63.cell_1 HI0.out), (IsS63.cell_2 HI0.out), (IsS63.cell_3 HI0.out), (IsS63.cell_4 HI0.out), (IsS63.cell_5 HI0.out), (IsS63.cell_6 HI0.out), (IsS63.cell_7 HI0.out), (IsS63.cell_8 HI0.out)⟩ (fun hHeld => ?_); refine with_tabW aimd_Aimd_cut.tab2 aimd_Aimd_cut.bits2 (fun HT_ HW_ => ?_)
   generalize w25.drew = w26 at BK129 HI0 HK HB hHeld ⊢
   refine pure_ (i := 0) (N := some 16) (v := ?_) (a' := ?_) (bl 8 1) rfl rfl (any_of HT_.out (by kernel_rfl)) (fun _ _ _ h => h) (Or.inl ⟨by rfl, ?_⟩) ?_ ?_
   rotate_left
   ·intro w'
    go_simp
    with_reducible rfl
   rotate_left
   ·simp only [puts_]
    rfl
   refine pure_ (i := 2) (N := some 18) (v := ?_) (a' := ?_) (bl 8 5) rfl rfl (any_of HT_.out (by kernel_rfl)) (fun _ _ _ h => h) (Or.inl ⟨by rfl, ?_⟩) ?_ ?_
   rotate_left
   ·intro w'
    go_simp
    with_reducible rfl
   rotate_left
   ·simp only [puts_]
    rfl
   refine pure_ (i := 3) (N := some 19) (v := ?_) (a' := ?_) (bl 8 13) rfl rfl (any_of HT_.out (by kernel_rfl)) (fun _ _ _ h => h) (Or.inl ⟨by rfl, ?_⟩) ?_ ?_
   rotate_left
   ·intro w'
    go_simp
    with_reducible rfl
   rotate_left
   ·simp only [puts_]
    rfl
   refine pure_ (i := 4) (N := some 20) (v := ?_) (a' := ?_) (bl 8 29) rfl rfl (any_of HT_.out (by kernel_rfl)) (fun _ _ _ h => h) (Or.inl ⟨by rfl, ?_⟩) ?_ ?_
   rotate_left
   ·intro w'
    go_simp
    with_reducible rfl
   rotate_left
   ·simp only [puts_]
    rfl
   refine take_ (i := 1) (N := some 17) (v := ?_) (a' := ?_) (bl 8 31) rfl rfl (take_ofW HT_.out HW_.out (by kernel_rfl)) (fun _ _ _ h => h) (Or.inl ⟨by rfl, ?_⟩) hHeld ?_ ?_
   rotate_left
   ·rintro w' ⟨s0, s1, s2, s3, s4, s5, s6, s7, s8, s9, s10, s11⟩
    go_simp
    with_reducible rfl
   rotate_left
   ·simp only [puts_]
    rfl
   refine take_ (i := 5) (N := some 21) (v := ?_) (a' := ?_) (bl 8 63) rfl rfl (take_ofW HT_.out HW_.out (by kernel_rfl)) (fun _ _ _ h => h) (Or.inl ⟨by rfl, ?_⟩) hHeld ?_ ?_
   rotate_left
   ·rintro w' ⟨s0, s1, s2, s3, s4, s5, s6, s7, s8, s9, s10, s11⟩
    go_simp
    with_reducible rfl
   rotate_left
   ·simp only [puts_]
    rfl
   refine pure_ (i := 6) (N := some 22) (v := ?_) (a' := ?_) (bl 8 127) rfl rfl (any_of HT_.out (by kernel_rfl)) (fun _ _ _ h => h) (Or.inl ⟨by rfl, ?_⟩) ?_ ?_
   rotate_left
   ·intro w'
    go_simp
    with_reducible rfl
   rotate_left
   ·simp only [puts_]
    rfl
   refine pure_ (i := 7) (N := some 4) (v := ?_) (a' := ?_) (bl 8 255) rfl rfl (any_of HT_.out (by kernel_rfl)) (fun _ _ _ h => h) (Or.inl ⟨by rfl, ?_⟩) ?_ ?_
   rotate_left
   ·intro w'
    go_simp
    with_reducible rfl
   rotate_left
   ·simp only [puts_]
    rfl
   refine done_ (done_of HT_.out (by kernel_rfl)) ?_
   obtain ⟨HGz27, hgz27⟩ := HI0.out
   have hcz27_0 := cellS63_0 HGz27
   have hcz27_1 := cellS63_1 HGz27
   have hcz27_2 := cellS63_2 HGz27
   have hcz27_3 := cellS63_3 HGz27
   have hcz27_4 := cellS63_4 HGz27
   have hcz27_5 := cellS63_5 HGz27
   have hcz27_6 := cellS63_6 HGz27
   have hcz27_7 := cellS63_7 HGz27
   have hcz27_8 := cellS63_8 HGz27
   have hfz27_0 := blk_frozen HGz27 0
   have hfz27_1 := blk_frozen HGz27 1
   have hfz27_2 := blk_frozen HGz27 2
   have hfz27_3 := blk_frozen HGz27 3
   have hfz27_4 := blk_frozen HGz27 4
   have hfz27_5 := blk_frozen HGz27 5
   have hfz27_6 := blk_frozen HGz27 6
   have hfz27_7 := blk_frozen HGz27 7
   have hfz27_8 := blk_frozen HGz27 8
   clear HGz27 hgz27
   try go_wp2
   have n0_ := Aside0.mk (blk_drew BK129.out)
   have n1_ := Aside0.mk (IsS63.drew HI0.out)
   have n2_ := Aside0.mk (keep_drew HK.out)
   have n3_ := Aside0.mk (below_drew1 HB.out)
   clear BK129
   clear HI0
   clear HK
   clear HB
   have BK129 := n0_
   have HI0 := n1_
   have HK := n2_
   have HB := n3_
   clear n0_ n1_ n2_ n3_
   refine start_ (n := 14) (S := fun w' => w'.cell? ⟨gb129, 0, none⟩ = some (.int .i64 a1_0) ∧ w'.cell? ⟨gb129, 1, none⟩ = some (.int .i64 a1_1) ∧ w'.cell? ⟨gb129, 2, none⟩ = some (.int .i64 a1_2) ∧ w'.cell? ⟨g, 0, none⟩ = some (.int .i64 ji4) ∧ w'.cell? ⟨g, 1, none⟩ = some (.int .i64 s0_1) ∧ w'.cell? ⟨g, 2, none⟩ = some (.int .i64 s0_2) ∧ w'.cell? ⟨g, 3, none⟩ = some (.int .i64 s0_3) ∧ w'.cell? ⟨g, 4, none⟩ = some (.bool true) ∧ w'.cell? ⟨g, 5, none⟩ = some (.int .i64 s0_5) ∧ w'.cell? ⟨g, 6, none⟩ = some (.int .i64 s0_6) ∧ w'.cell? ⟨g, 7, none⟩ = some (.bool s0_7) ∧ w'.cell? ⟨g, 8, none⟩ = some (.int .i64 s0_8)) (ds := []) #[false, false, false, false, false, false, false, false, false, false, false, false, false, false] (by kernel_rfl) rfl rfl ⟨(blk_cell BK129.out 0).trans rfl, (blk_cell BK129.out 1).trans rfl, (blk_cell BK129.out 2).trans rfl, (IsS63.cell_0 HI0.out), (IsS63.cell_1 HI0.out), (IsS63.cell_2 HI0.out), (IsS63.cell_3 HI0.out), (IsS63.cell_4 HI0.out), (IsS63.cell_5 HI0.out), (IsS63.cell_6 HI0.out), (IsS63.cell_7 HI0.out), (IsS63.cell_8 HI0.out)⟩ (fun hHeld => ?_); refine with_tabW aimd_Aimd_cut.tab7 aimd_Aimd_cut.bits7 (fun HT_ HW_ => ?_)
   generalize w26.drew = w28 at BK129 HI0 HK HB hHeld ⊢
   refine pure_ (i := 0) (N := some 68) (v := ?_) (a' := ?_) (bl 14 1) rfl rfl (any_of HT_.out (by kernel_rfl)) (fun _ _ _ h => h) (Or.inl ⟨by rfl, ?_⟩) ?_ ?_
   rotate_left
   ·intro w'
    go_simp
    with_reducible rfl
   rotate_left
   ·simp only [puts_]
    rfl
   refine pure_ (i := 2) (N := some 70) (v := ?_) (a' := ?_) (bl 14 5) rfl rfl (any_of HT_.out (by kernel_rfl)) (fun _ _ _ h => h) (Or.inl ⟨by rfl, ?_⟩) ?_ ?_
   rotate_left
   ·intro w'
    go_simp
    with_reducible rfl
   rotate_left
   ·simp only [puts_]
    rfl
   refine pure_ (i := 3) (N := some 71) (v := ?_) (a' := ?_) (bl 14 13) rfl rfl (any_of HT_.out (by kernel_rfl)) (fun _ _ _ h => h) (Or.inl ⟨by rfl, ?_⟩) ?_ ?_
   rotate_left
   ·intro w'
    go_simp
    with_reducible rfl
   rotate_left
   ·simp only [puts_]
    rfl
   refine pure_ (i := 4) (N := some 72) (v := ?_) (a' := ?_) (bl 14 29) rfl rfl (any_of HT_.out (by kernel_rfl)) (fun _ _ _ h => h) (Or.inl ⟨by rfl, ?_⟩) ?_ ?_
   rotate_left
   ·intro w'
    go_simp
    with_reducible rfl
   rotate_left
   ·simp only [puts_]
    rfl
   refine pure_ (i := 6) (N := some 74) (v := ?_) (a' := ?_) (bl 14 93) rfl rfl (any_of HT_.out (by kernel_rfl)) (fun _ _ _ h => h) (Or.inl ⟨by rfl, ?_⟩) ?_ ?_
   rotate_left
   ·intro w'
    go_simp
    with_reducible rfl
   rotate_left
   ·simp only [puts_]
    rfl
   refine pure_ (i := 7) (N := some 75) (v := ?_) (a' := ?_) (bl 14 221) rfl rfl (any_of HT_.out (by kernel_rfl)) (fun _ _ _ h => h) (Or.inl ⟨by rfl, ?_⟩) ?_ ?_
   rotate_left
   ·intro w'
    go_simp
    with_reducible rfl
   rotate_left
   ·simp only [puts_]
    rfl
   refine pure_ (i := 8) (N := some 76) (v := ?_) (a' := ?_) (bl 14 477) rfl rfl (any_of HT_.out (by kernel_rfl)) (fun _ _ _ h => h) (Or.inl ⟨by rfl, ?_⟩) ?_ ?_
   rotate_left
   ·intro w'
    go_simp
    with_reducible rfl
   rotate_left
   ·simp only [puts_]
    rfl
   refine take_ (i := 1) (N := some 69) (v := ?_) (a' := ?_) (bl 14 479) rfl rfl (take_ofW HT_.out HW_.out (by kernel_rfl)) (fun _ _ _ h => h) (Or.inl ⟨by rfl, ?_⟩) hHeld ?_ ?_
   rotate_left
   ·rintro w' ⟨s0, s1, s2, s3, s4, s5, s6, s7, s8, s9, s10, s11⟩
    go_simp
    with_reducible rfl
   rotate_left
   ·simp only [puts_]
    rfl
   refine take_ (i := 5) (N := some 73) (v := ?_) (a' := ?_) (bl 14 511) rfl rfl (take_ofW HT_.out HW_.out (by kernel_rfl)) (fun _ _ _ h => h) (Or.inl ⟨by rfl, ?_⟩) hHeld ?_ ?_
   rotate_left
   ·rintro w' ⟨s0, s1, s2, s3, s4, s5, s6, s7, s8, s9, s10, s11⟩
    go_simp
    with_reducible rfl
   rotate_left
   ·simp only [puts_]
    rfl
   refine take_ (i := 9) (N := some 77) (v := ?_) (a' := ?_) (bl 14 1023) rfl rfl (take_ofW HT_.out HW_.out (by kernel_rfl)) (fun _ _ _ h => h) (Or.inl ⟨by rfl, ?_⟩) hHeld ?_ ?_
   rotate_left
   ·rintro w' ⟨s0, s1, s2, s3, s4, s5, s6, s7, s8, s9, s10, s11⟩
    go_simp
    with_reducible rfl
   rotate_left
   ·simp only [puts_]
    rfl
   refine pure_ (i := 10) (N := some 78) (v := ?_) (a' := ?_) (bl 14 2047) rfl rfl (any_of HT_.out (by kernel_rfl)) (fun _ _ _ h => h) (Or.inl ⟨by rfl, ?_⟩) ?_ ?_
   rotate_left
   ·intro w'
    go_simp
    with_reducible rfl
   rotate_left
   ·simp only [puts_]
    rfl
   refine pure_ (i := 11) (N := some 79) (v := ?_) (a' := ?_) (bl 14 4095) rfl rfl (any_of HT_.out (by kernel_rfl)) (fun _ _ _ h => h) (Or.inl ⟨by rfl, ?_⟩) ?_ ?_
   rotate_left
   ·intro w'
    go_simp
    with_reducible rfl
   rotate_left
   ·simp only [puts_]
    rfl
   refine pure_ (i := 12) (N := some 80) (v := ?_) (a' := ?_) (bl 14 8191) rfl rfl (any_of HT_.out (by kernel_rfl)) (fun _ _ _ h => h) (Or.inl ⟨by rfl, ?_⟩) ?_ ?_
   rotate_left
   ·intro w'
    go_simp
    with_reducible rfl
   rotate_left
   ·simp only [puts_]
    rfl
   refine pure_ (i := 13) (N := some 67) (v := ?_) (a' := ?_) (bl 14 16383) rfl rfl (any_of HT_.out (by kernel_rfl)) (fun _ _ _ h => h) (Or.inl ⟨by rfl, ?_⟩) ?_ ?_
   rotate_left
   ·intro w'
    go_simp
    with_reducible rfl
   rotate_left
   ·simp only [puts_]
    rfl
   refine done_ (done_of HT_.out (by kernel_rfl)) ?_
   try go_wp2
   have n0_ := Aside0.mk (blk_drew BK129.out)
   have n1_ := Aside0.mk (IsS63.drew HI0.out)
   have n2_ := Aside0.mk (keep_drew HK.out)
   have n3_ := Aside0.mk (below_drew1 HB.out)
   clear BK129
   clear HI0
   clear HK
   clear HB
   have BK129 := n0_
   have HI0 := n1_
   have HK := n2_
   have HB := n3_
   clear n0_ n1_ n2_ n3_
   refine start_ (n := 10) (S := fun w' => w'.cell? ⟨g, 0, none⟩ = some (.int .i64 ji4) ∧ w'.cell? ⟨g, 1, none⟩ = some (.int .i64 s0_1) ∧ w'.cell? ⟨g, 2, none⟩ = some (.int .i64 s0_2) ∧ w'.cell? ⟨g, 3, none⟩ = some (.int .i64 s0_3) ∧ w'.cell? ⟨g, 4, none⟩ = some (.bool true) ∧ w'.cell? ⟨g, 5, none⟩ = some (.int .i64 s0_5) ∧ w'.cell? ⟨g, 6, none⟩ = some (.int .i64 s0_6) ∧ w'.cell? ⟨g, 7, none⟩ = some (.bool s0_7) ∧ w'.cell? ⟨g, 8, none⟩ = some (.int .i64 s0_8)) (ds := [9]) #[false, false, false, false, false, false, false, false, false, false] (by kernel_rfl) rfl rfl ⟨(IsS63.cell_0 HI0.out), (IsS63.cell_1 HI0.out), (IsS63.cell_2 HI0.out), (IsS63.cell_3 HI0.out), (IsS63.cell_4 HI0.out), (IsS63.cell_5 HI0.out), (IsS63.cell_6 HI0.out), (IsS63.cell_7 HI0.out), (IsS63.cell_8 HI0.out)⟩ (fun hHeld => ?_); refine with_tabW aimd_Aimd_cut.tab3 aimd_Aimd_cut.bits3 (fun HT_ HW_ => ?_)
   generalize w28.drew = w29 at BK129 HI0 HK HB hHeld ⊢
   refine pure_ (i := 0) (N := some 23) (v := ?_) (a' := ?_) (bl 10 1) rfl rfl (any_of HT_.out (by kernel_rfl)) (fun _ _ _ h => h) (Or.inl ⟨by rfl, ?_⟩) ?_ ?_
   rotate_left
   ·intro w'
    go_simp
    with_reducible rfl
   rotate_left
   ·simp only [puts_]
    rfl
   refine pure_ (i := 1) (N := some 24) (v := ?_) (a' := ?_) (bl 10 3) rfl rfl (any_of HT_.out (by kernel_rfl)) (fun _ _ _ h => h) (Or.inl ⟨by rfl, ?_⟩) ?_ ?_
   rotate_left
   ·intro w'
    go_simp
    with_reducible rfl
   rotate_left
   ·simp only [puts_]
    rfl
   refine pure_ (i := 2) (N := some 25) (v := ?_) (a' := ?_) (bl 10 7) rfl rfl (any_of HT_.out (by kernel_rfl)) (fun _ _ _ h => h) (Or.inl ⟨by rfl, ?_⟩) ?_ ?_
   rotate_left
   ·intro w'
    go_simp
    with_reducible rfl
   rotate_left
   ·simp only [puts_]
    rfl
   refine pure_ (i := 4) (N := some 27) (v := ?_) (a' := ?_) (bl 10 23) rfl rfl (any_of HT_.out (by kernel_rfl)) (fun _ _ _ h => h) (Or.inl ⟨by rfl, ?_⟩) ?_ ?_
   rotate_left
   ·intro w'
    go_simp
    with_reducible rfl
   rotate_left
   ·simp only [puts_]
    rfl
   refine take_ (i := 3) (N := some 26) (v := ?_) (a' := ?_) (bl 10 31) rfl rfl (take_ofW HT_.out HW_.out (by kernel_rfl)) (fun _ _ _ h => h) (Or.inl ⟨by rfl, ?_⟩) hHeld ?_ ?_
   rotate_left
   ·rintro w' ⟨s0, s1, s2, s3, s4, s5, s6, s7, s8⟩
    go_simp
    with_reducible rfl
   rotate_left
   ·simp only [puts_]
    rfl
   refine one_ (i := 5) (N := some 28) (bl 10 63) rfl rfl (one_of HT_.out (by kernel_rfl)) (by decide) (fun K hK => ?_)
   refine goes_ Try.func50 (by kernel_rfl) rfl #[.int .i64 (wrap64 (a1_0 - s0_5)), .int .i64 5, .int .i64 100, .int .i64 2] (by rfl) rfl rfl (by (try simp only [List.map_toArray, List.map_cons, List.map_nil]); first | done | rfl | (simp only [List.length_drop, List.length_take]; rfl)) ?_
   with_reducible refine (muldiv_Do.calls (wrap64 (a1_0 - s0_5)) 5 100 2 t131 _ A18.out).mono ?_
   rintro e w30 ⟨rfl, hb⟩
   refine ⟨_, rfl, ?_⟩
   have n0_ := Aside0.mk (IsS63.below (by repeat (first | (with_reducible first | exact HI0.out | apply IsS63.alloc | apply IsS63.drewN | apply IsS63.drew | apply IsS63.set_0 | apply IsS63.set_1 | apply IsS63.set_2 | apply IsS63.set_3 | apply IsS63.set_4 | apply IsS63.set_5 | apply IsS63.set_6 | apply IsS63.set_7 | apply IsS63.set_8 | refine IsS63.far ?_ NB0_129.out _) | exact HI0.out)) hb)
   have n1_ := Aside0.mk (blk_below (g := gb129) (o := .cells #[.int .i64 a1_0, .int .i64 a1_1, .int .i64 a1_2] 66 (0, 0)) (by (with_reducible repeat (first | refine blk_drewN ?_ _ | refine blk_drew ?_ | refine blk_alloc ?_ _)); exact BK129.out) hb)
   have n2_ := Aside0.mk (KeepBut.trans (by repeat (first | (with_reducible first | exact HK.out | apply KeepBut.set_ | apply keep_drewN | apply keep_drew | apply keep_alloc | refine keep_far ?_ GW129.out _) | exact HK.out)) (KeepBut.of_below hb g none) (.inl rfl))
   have n3_ := Aside0.mk (below_step (by repeat (first | (with_reducible first | exact HB.out | apply below_alloc | apply pw_below_drewN | apply below_drew1 | refine below_set ?_ (IsS63.ge HI0.out) | refine below_set ?_ GE129.out) | exact HB.out)) hb)
   clear HI0
   clear BK129
   clear HK
   clear HB
   have HI0 := n0_
   have BK129 := n1_
   have HK := n2_
   have HB := n3_
   clear n0_ n1_ n2_ n3_
   (try clear hb)
   (try clear hb2)
   (try clear hk)
   (try clear hi)
   refine hK.out _ _ ⟨(IsS63.cell_0 HI0.out), (IsS63.cell_1 HI0.out), (IsS63.cell_2 HI0.out), (IsS63.cell_3 HI0.out), (IsS63.cell_4 HI0.out), (IsS63.cell_5 HI0.out), (IsS63.cell_6 HI0.out), (IsS63.cell_7 HI0.out), (IsS63.cell_8 HI0.out)⟩ (fun hHeld => ?_)
   clear hK K
   refine norm_ (a' := ?_) ?_ ?_
   rotate_left
   ·show Act.put _ (some 28) _ = _
    simp only [puts_]
    rfl
   refine pure_ (i := 6) (N := some 29) (v := ?_) (a' := ?_) (bl 10 127) rfl rfl (any_of HT_.out (by kernel_rfl)) (fun _ _ _ h => h) (Or.inl ⟨by rfl, ?_⟩) ?_ ?_
   rotate_left
   ·intro w'
    go_simp
    with_reducible rfl
   rotate_left
   ·simp only [puts_]
    rfl
   refine pure_ (i := 7) (N := some 30) (v := ?_) (a' := ?_) (bl 10 255) rfl rfl (any_of HT_.out (by kernel_rfl)) (fun _ _ _ h => h) (Or.inl ⟨by rfl, ?_⟩) ?_ ?_
   rotate_left
   ·intro w'
    go_simp
    with_reducible rfl
   rotate_left
   ·simp only [puts_]
    rfl
   refine pure_ (i := 8) (N := some 31) (v := ?_) (a' := ?_) (bl 10 511) rfl rfl (any_of HT_.out (by kernel_rfl)) (fun _ _ _ h => h) (Or.inl ⟨by rfl, ?_⟩) ?_ ?_
   rotate_left
   ·intro w'
    go_simp
    with_reducible rfl
   rotate_left
   ·simp only [puts_]
    rfl
   refine last_ (i := 9) (N := none) (bl 10 1023) rfl rfl (one_of HT_.out (by kernel_rfl)) (by decide) (fun K hK => ?_)
   have hs31 : w30.cell? ⟨g, 5, none⟩ = some (.int .i64 s0_5) := IsS63.cell_5 HI0.out
   have hfs31 := IsS63.froz_5 HI0.out
   have hns31_0 := NB129_0.out
   have hms31_0 := NB0_129.out
   refine skip_ (w1 := ?_) (by rfl) rfl ?_ ?_
   rotate_left
   ·go_simp
    rfl
   refine hK.out _ _ ?_
   clear hK K
   refine done_ (done_of HT_.out (by kernel_rfl)) ?_
   try go_wp2
   have n0_ : Aside0 ((w30.setCell ⟨g, 5, none⟩ (.int .i64 (wrap64 (s0_5 + t131)))).heap[gb129]? = some (.cells #[.int .i64 a1_0, .int .i64 a1_1, .int .i64 a1_2] 66 (0, 0))) := ⟨by (with_reducible repeat (first | refine blk_drewN ?_ _ | refine blk_drew ?_ | refine blk_alloc ?_ _)); refine blk_far ?_ NB129_0.out _; (with_reducible repeat (first | refine blk_drewN ?_ _ | refine blk_drew ?_ | refine blk_alloc ?_ _)); exact BK129.out⟩
   have n1_ : Aside0 (IsS63 w0 (w30.setCell ⟨g, 5, none⟩ (.int .i64 (wrap64 (s0_5 + t131)))) g ji4 s0_1 s0_2 s0_3 true (wrap64 (s0_5 + t131)) s0_6 s0_7 s0_8) := ⟨by repeat (first | (with_reducible first | exact HI0.out | apply IsS63.alloc | apply IsS63.drewN | apply IsS63.drew | apply IsS63.set_0 | apply IsS63.set_1 | apply IsS63.set_2 | apply IsS63.set_3 | apply IsS63.set_4 | apply IsS63.set_5 | apply IsS63.set_6 | apply IsS63.set_7 | apply IsS63.set_8 | refine IsS63.far ?_ NB0_129.out _) | exact HI0.out)⟩
   have n2_ : Aside0 (KeepBut w (w30.setCell ⟨g, 5, none⟩ (.int .i64 (wrap64 (s0_5 + t131)))) g none) := ⟨by repeat (first | (with_reducible first | exact HK.out | apply KeepBut.set_ | apply keep_drewN | apply keep_drew | apply keep_alloc | refine keep_far ?_ GW129.out _) | exact HK.out)⟩
   have n3_ : Aside0 (Below w0.heap.size w0 (w30.setCell ⟨g, 5, none⟩ (.int .i64 (wrap64 (s0_5 + t131))))) := ⟨by repeat (first | (with_reducible first | exact HB.out | apply below_alloc | apply pw_below_drewN | apply below_drew1 | refine below_set ?_ (IsS63.ge HI0.out) | refine below_set ?_ GE129.out) | exact HB.out)⟩
   (try clear BK129)
   (try clear HI0)
   (try clear HK)
   (try clear HB)
   generalize (w30.setCell ⟨g, 5, none⟩ (.int .i64 (wrap64 (s0_5 + t131)))) = w32 at n0_ n1_ n2_ n3_ ⊢
   have BK129 := n0_
   have HI0 := n1_
   have HK := n2_
   have HB := n3_
   clear n0_ n1_ n2_ n3_
   have n0_ := Aside0.mk (blk_drew BK129.out)
   have n1_ := Aside0.mk (IsS63.drew HI0.out)
   have n2_ := Aside0.mk (keep_drew HK.out)
   have n3_ := Aside0.mk (below_drew1 HB.out)
   clear BK129
   clear HI0
   clear HK
   clear HB
   have BK129 := n0_
   have HI0 := n1_
   have HK := n2_
   have HB := n3_
   clear n0_ n1_ n2_ n3_
   refine start_ (n := 16) (S := fun w' => w'.cell? ⟨g, 0, none⟩ = some (.int .i64 ji4) ∧ w'.cell? ⟨g, 1, none⟩ = some (.int .i64 s0_1) ∧ w'.cell? ⟨g, 2, none⟩ = some (.int .i64 s0_2) ∧ w'.cell? ⟨g, 3, none⟩ = some (.int .i64 s0_3) ∧ w'.cell? ⟨g, 4, none⟩ = some (.bool true) ∧ w'.cell? ⟨g, 5, none⟩ = some (.int .i64 (wrap64 (s0_5 + t131))) ∧ w'.cell? ⟨g, 6, none⟩ = some (.int .i64 s0_6) ∧ w'.cell? ⟨g, 7, none⟩ = some (.bool s0_7) ∧ w'.cell? ⟨g, 8, none⟩ = some (.int .i64 s0_8)) (ds := [15]) #[false, false, false, false, false, false, false, false, false, false, false, false, false, false, false, false] (by kernel_rfl) rfl rfl ⟨(IsS63.cell_0 HI0.out), (IsS63.cell_1 HI0.out), (IsS63.cell_2 HI0.out), (IsS63.cell_3 HI0.out), (IsS63.cell_4 HI0.out), (IsS63.cell_5 HI0.out), (IsS63.cell_6 HI0.out), (IsS63.cell_7 HI0.out), (IsS63.cell_8 HI0.out)⟩ (fun hHeld => ?_); refine with_tabW aimd_Aimd_cut.tab4 aimd_Aimd_cut.bits4 (fun HT_ HW_ => ?_)
   generalize w32.drew = w33 at BK129 HI0 HK HB hHeld ⊢
   refine pure_ (i := 0) (N := some 32) (v := ?_) (a' := ?_) (bl 16 1) rfl rfl (any_of HT_.out (by kernel_rfl)) (fun _ _ _ h => h) (Or.inl ⟨by rfl, ?_⟩) ?_ ?_
   rotate_left
   ·intro w'
    go_simp
    with_reducible rfl
   rotate_left
   ·simp only [puts_]
    rfl
   refine pure_ (i := 1) (N := some 33) (v := ?_) (a' := ?_) (bl 16 3) rfl rfl (any_of HT_.out (by kernel_rfl)) (fun _ _ _ h => h) (Or.inl ⟨by rfl, ?_⟩) ?_ ?_
   rotate_left
   ·intro w'
    go_simp
    with_reducible rfl
   rotate_left
   ·simp only [puts_]
    rfl
   refine pure_ (i := 2) (N := some 34) (v := ?_) (a' := ?_) (bl 16 7) rfl rfl (any_of HT_.out (by kernel_rfl)) (fun _ _ _ h => h) (Or.inl ⟨by rfl, ?_⟩) ?_ ?_
   rotate_left
   ·intro w'
    go_simp
    with_reducible rfl
   rotate_left
   ·simp only [puts_]
    rfl
   refine pure_ (i := 4) (N := some 36) (v := ?_) (a' := ?_) (bl 16 23) rfl rfl (any_of HT_.out (by kernel_rfl)) (fun _ _ _ h => h) (Or.inl ⟨by rfl, ?_⟩) ?_ ?_
   rotate_left
   ·intro w'
    go_simp
    with_reducible rfl
   rotate_left
   ·simp only [puts_]
    rfl
   refine pure_ (i := 6) (N := some 38) (v := ?_) (a' := ?_) (bl 16 87) rfl rfl (any_of HT_.out (by kernel_rfl)) (fun _ _ _ h => h) (Or.inl ⟨by rfl, ?_⟩) ?_ ?_
   rotate_left
   ·intro w'
    go_simp
    with_reducible rfl
   rotate_left
   ·simp only [puts_]
    rfl
   refine pure_ (i := 7) (N := some 39) (v := ?_) (a' := ?_) (bl 16 215) rfl rfl (any_of HT_.out (by kernel_rfl)) (fun _ _ _ h => h) (Or.inl ⟨by rfl, ?_⟩) ?_ ?_
   rotate_left
   ·intro w'
    go_simp
    with_reducible rfl
   rotate_left
   ·simp only [puts_]
    rfl
   refine pure_ (i := 8) (N := some 40) (v := ?_) (a' := ?_) (bl 16 471) rfl rfl (any_of HT_.out (by kernel_rfl)) (fun _ _ _ h => h) (Or.inl ⟨by rfl, ?_⟩) ?_ ?_
   rotate_left
   ·intro w'
    go_simp
    with_reducible rfl
   rotate_left
   ·simp only [puts_]
    rfl
   refine take_ (i := 3) (N := some 35) (v := ?_) (a' := ?_) (bl 16 479) rfl rfl (take_ofW HT_.out HW_.out (by kernel_rfl)) (fun _ _ _ h => h) (Or.inl ⟨by rfl, ?_⟩) hHeld ?_ ?_
   rotate_left
   ·rintro w' ⟨s0, s1, s2, s3, s4, s5, s6, s7, s8⟩
    go_simp
    with_reducible rfl
   rotate_left
   ·simp only [puts_]
    rfl
   refine take_ (i := 9) (N := some 41) (v := ?_) (a' := ?_) (bl 16 991) rfl rfl (take_ofW HT_.out HW_.out (by kernel_rfl)) (fun _ _ _ h => h) (Or.inl ⟨by rfl, ?_⟩) hHeld ?_ ?_
   rotate_left
   ·rintro w' ⟨s0, s1, s2, s3, s4, s5, s6, s7, s8⟩
    go_simp
    with_reducible rfl
   rotate_left
   ·simp only [puts_]
    rfl
   refine one_ (i := 5) (N := some 37) (bl 16 1023) rfl rfl (one_of HT_.out (by kernel_rfl)) (by decide) (fun K hK => ?_)
   refine goes_ Try.func46 (by kernel_rfl) rfl #[.int .i64 (wrap64 (a1_0 - s0_5))] (by rfl) rfl rfl (by (try simp only [List.map_toArray, List.map_cons, List.map_nil]); first | done | rfl | (simp only [List.length_drop, List.length_take]; rfl)) ?_
   with_reducible refine (sat_Abs.calls (wrap64 (a1_0 - s0_5)) t132 _ A19.out).mono ?_
   rintro e w34 ⟨rfl, hb⟩
   refine ⟨_, rfl, ?_⟩
   have n0_ := Aside0.mk (IsS63.below (by repeat (first | (with_reducible first | exact HI0.out | apply IsS63.alloc | apply IsS63.drewN | apply IsS63.drew | apply IsS63.set_0 | apply IsS63.set_1 | apply IsS63.set_2 | apply IsS63.set_3 | apply IsS63.set_4 | apply IsS63.set_5 | apply IsS63.set_6 | apply IsS63.set_7 | apply IsS63.set_8 | refine IsS63.far ?_ NB0_129.out _) | exact HI0.out)) hb)
   have n1_ := Aside0.mk (blk_below (g := gb129) (o := .cells #[.int .i64 a1_0, .int .i64 a1_1, .int .i64 a1_2] 66 (0, 0)) (by (with_reducible repeat (first | refine blk_drewN ?_ _ | refine blk_drew ?_ | refine blk_alloc ?_ _)); exact BK129.out) hb)
   have n2_ := Aside0.mk (KeepBut.trans (by repeat (first | (with_reducible first | exact HK.out | apply KeepBut.set_ | apply keep_drewN | apply keep_drew | apply keep_alloc | refine keep_far ?_ GW129.out _) | exact HK.out)) (KeepBut.of_below hb g none) (.inl rfl))
   have n3_ := Aside0.mk (below_step (by repeat (first | (with_reducible first | exact HB.out | apply below_alloc | apply pw_below_drewN | apply below_drew1 | refine below_set ?_ (IsS63.ge HI0.out) | refine below_set ?_ GE129.out) | exact HB.out)) hb)
   clear HI0
   clear BK129
   clear HK
   clear HB
   have HI0 := n0_
   have BK129 := n1_
   have HK := n2_
   have HB := n3_
   clear n0_ n1_ n2_ n3_
   (try clear hb)
   (try clear hb2)
   (try clear hk)
   (try clear hi)
   refine hK.out _ _ ⟨(IsS63.cell_0 HI0.out), (IsS63.cell_1 HI0.out), (IsS63.cell_2 HI0.out), (IsS63.cell_3 HI0.out), (IsS63.cell_4 HI0.out), (IsS63.cell_5 HI0.out), (IsS63.cell_6 HI0.out), (IsS63.cell_7 HI0.out), (IsS63.cell_8 HI0.out)⟩ (fun hHeld => ?_)
   clear hK K
   refine norm_ (a' := ?_) ?_ ?_
   rotate_left
   ·show Act.put _ (some 37) _ = _
    simp only [puts_]
    rfl
   refine pure_ (i := 10) (N := some 42) (v := ?_) (a' := ?_) (bl 16 2047) rfl rfl (any_of HT_.out (by kernel_rfl)) (fun _ _ _ h => h) (Or.inl ⟨by rfl, ?_⟩) ?_ ?_
   rotate_left
   ·intro w'
    go_simp
    with_reducible rfl
   rotate_left
   ·simp only [puts_]
    rfl
   refine one_ (i := 11) (N := some 43) (bl 16 4095) rfl rfl (one_of HT_.out (by kernel_rfl)) (by decide) (fun K hK => ?_)
   refine goes_ Try.func50 (by kernel_rfl) rfl #[.int .i64 (wrap64 (t132 - s0_6)), .int .i64 5, .int .i64 100, .int .i64 2] (by rfl) rfl rfl (by (try simp only [List.map_toArray, List.map_cons, List.map_nil]); first | done | rfl | (simp only [List.length_drop, List.length_take]; rfl)) ?_
   with_reducible refine (muldiv_Do.calls (wrap64 (t132 - s0_6)) 5 100 2 t133 _ A20.out).mono ?_
   rintro e w35 ⟨rfl, hb⟩
   refine ⟨_, rfl, ?_⟩
   have n0_ := Aside0.mk (IsS63.below (by repeat (first | (with_reducible first | exact HI0.out | apply IsS63.alloc | apply IsS63.drewN | apply IsS63.drew | apply IsS63.set_0 | apply IsS63.set_1 | apply IsS63.set_2 | apply IsS63.set_3 | apply IsS63.set_4 | apply IsS63.set_5 | apply IsS63.set_6 | apply IsS63.set_7 | apply IsS63.set_8 | refine IsS63.far ?_ NB0_129.out _) | exact HI0.out)) hb)
   have n1_ := Aside0.mk (blk_below (g := gb129) (o := .cells #[.int .i64 a1_0, .int .i64 a1_1, .int .i64 a1_2] 66 (0, 0)) (by (with_reducible repeat (first | refine blk_drewN ?_ _ | refine blk_drew ?_ | refine blk_alloc ?_ _)); exact BK129.out) hb)
   have n2_ := Aside0.mk (KeepBut.trans (by repeat (first | (with_reducible first | exact HK.out | apply KeepBut.set_ | apply keep_drewN | apply keep_drew | apply keep_alloc | refine keep_far ?_ GW129.out _) | exact HK.out)) (KeepBut.of_below hb g none) (.inl rfl))
   have n3_ := Aside0.mk (below_step (by repeat (first | (with_reducible first | exact HB.out | apply below_alloc | apply pw_below_drewN | apply below_drew1 | refine below_set ?_ (IsS63.ge HI0.out) | refine below_set ?_ GE129.out) | exact HB.out)) hb)
   clear HI0
   clear BK129
   clear HK
   clear HB
   have HI0 := n0_
   have BK129 := n1_
   have HK := n2_
   have HB := n3_
   clear n0_ n1_ n2_ n3_
   (try clear hb)
   (try clear hb2)
   (try clear hk)
   (try clear hi)
   refine hK.out _ _ ⟨(IsS63.cell_0 HI0.out), (IsS63.cell_1 HI0.out), (IsS63.cell_2 HI0.out), (IsS63.cell_3 HI0.out), (IsS63.cell_4 HI0.out), (IsS63.cell_5 HI0.out), (IsS63.cell_6 HI0.out), (IsS63.cell_7 HI0.out), (IsS63.cell_8 HI0.out)⟩ (fun hHeld => ?_)
   clear hK K
   refine norm_ (a' := ?_) ?_ ?_
   rotate_left
   ·show Act.put _ (some 43) _ = _
    simp only [puts_]
    rfl
   refine pure_ (i := 12) (N := some 44) (v := ?_) (a' := ?_) (bl 16 8191) rfl rfl (any_of HT_.out (by kernel_rfl)) (fun _ _ _ h => h) (Or.inl ⟨by rfl, ?_⟩) ?_ ?_
   rotate_left
   ·intro w'
    go_simp
    with_reducible rfl
   rotate_left
   ·simp only [puts_]
    rfl
   refine pure_ (i := 13) (N := some 45) (v := ?_) (a' := ?_) (bl 16 16383) rfl rfl (any_of HT_.out (by kernel_rfl)) (fun _ _ _ h => h) (Or.inl ⟨by rfl, ?_⟩) ?_ ?_
   rotate_left
   ·intro w'
    go_simp
    with_reducible rfl
   rotate_left
   ·simp only [puts_]
    rfl
   refine pure_ (i := 14) (N := some 46) (v := ?_) (a' := ?_) (bl 16 32767) rfl rfl (any_of HT_.out (by kernel_rfl)) (fun _ _ _ h => h) (Or.inl ⟨by rfl, ?_⟩) ?_ ?_
   rotate_left
   ·intro w'
    go_simp
    with_reducible rfl
   rotate_left
   ·simp only [puts_]
    rfl
   refine last_ (i := 15) (N := none) (bl 16 65535) rfl rfl (one_of HT_.out (by kernel_rfl)) (by decide) (fun K hK => ?_)
   have hs36 : w35.cell? ⟨g, 6, none⟩ = some (.int .i64 s0_6) := IsS63.cell_6 HI0.out
   have hfs36 := IsS63.froz_6 HI0.out
   have hns36_0 := NB129_0.out
   have hms36_0 := NB0_129.out
   refine skip_ (w1 := ?_) (by rfl) rfl ?_ ?_
   rotate_left
   ·go_simp
    rfl
   refine hK.out _ _ ?_
   clear hK K
   refine done_ (done_of HT_.out (by kernel_rfl)) ?_
   obtain ⟨HGz37, hgz37⟩ := HI0.out
   have hcz37_0 := cellS63_0 HGz37
   have hcz37_1 := cellS63_1 HGz37
   have hcz37_2 := cellS63_2 HGz37
   have hcz37_3 := cellS63_3 HGz37
   have hcz37_4 := cellS63_4 HGz37
   have hcz37_5 := cellS63_5 HGz37
   have hcz37_6 := cellS63_6 HGz37
   have hcz37_7 := cellS63_7 HGz37
   have hcz37_8 := cellS63_8 HGz37
   have hfz37_0 := blk_frozen HGz37 0
   have hfz37_1 := blk_frozen HGz37 1
   have hfz37_2 := blk_frozen HGz37 2
   have hfz37_3 := blk_frozen HGz37 3
   have hfz37_4 := blk_frozen HGz37 4
   have hfz37_5 := blk_frozen HGz37 5
   have hfz37_6 := blk_frozen HGz37 6
   have hfz37_7 := blk_frozen HGz37 7
   have hfz37_8 := blk_frozen HGz37 8
   clear HGz37 hgz37
   try go_wp2
   first | go_end0 | ((try simp only [Exit.inBlock, Exit.then]); refine bodyPost_ret (results_none rfl _ _ _) rfl ?_)
   exact ⟨by first | rfl | (simp [errW_none, errW_some] <;> rfl) | (simp only [← hji4]; first | rfl | (simp [errW_none, errW_some] <;> rfl)) | (simp [*, errW_none, errW_some] <;> rfl), by repeat (first | (with_reducible first | exact HI0.out | apply IsS63.alloc | apply IsS63.drewN | apply IsS63.drew | apply IsS63.set_0 | apply IsS63.set_1 | apply IsS63.set_2 | apply IsS63.set_3 | apply IsS63.set_4 | apply IsS63.set_5 | apply IsS63.set_6 | apply IsS63.set_7 | apply IsS63.set_8 | refine IsS63.far ?_ NB0_129.out _) | exact HI0.out), by repeat (first | (with_reducible first | exact HB.out | apply below_alloc | apply pw_below_drewN | apply below_drew1 | refine below_set ?_ (IsS63.ge HI0.out) | refine below_set ?_ GE129.out) | exact HB.out), by repeat (first | (with_reducible first | exact HK.out | apply KeepBut.set_ | apply keep_drewN | apply keep_drew | apply keep_alloc | refine keep_far ?_ GW129.out _) | exact HK.out)⟩
 ·replace c5 := Bool.eq_false_iff.mpr c5
  subst c5
  have H1 : (some (ji4, s0_1, s0_2, 0, true, a1_0, wrap64 (Int.tdiv a1_0 10), s0_7, s0_8)) = some (r1, r2, r3, r4, r5, r6, r7, r8, r9) := by rw [if_neg (show ¬ (false = true) by decide)] at H; exact H
  clear H
  have H := H1
  clear H1
  simp only [Option.some.injEq, Prod.mk.injEq] at H
  obtain ⟨rfl, rfl, rfl, rfl, rfl, rfl, rfl, rfl, rfl⟩ := H
  go_enter Try.func39, Try.ntmps39
  try go_wp2_with (first | ((with_reducible refine gate_dst (N := 3) rfl ?_); refine box_event ?hg (N := 3) ?hd (cs := #[.int .i64 a1_0, .int .i64 a1_1, .int .i64 a1_2]) (t := 66) ?hr ?_; (case hd => rfl); (case hg => rfl); (case hr => first | (go_simp; done) | (go_simp; rfl)); intro gb129 hg w38 hbox hb; have n0_ := Aside0.mk (IsS63.below (by repeat (first | (with_reducible first | exact HI0.out | apply IsS63.alloc | apply IsS63.drewN | apply IsS63.drew | apply IsS63.set_0 | apply IsS63.set_1 | apply IsS63.set_2 | apply IsS63.set_3 | apply IsS63.set_4 | apply IsS63.set_5 | apply IsS63.set_6 | apply IsS63.set_7 | apply IsS63.set_8) | exact HI0.out)) hb); have n1_ := Aside0.mk (KeepBut.trans (by repeat (first | (with_reducible first | exact HK.out | apply KeepBut.set_ | apply keep_drewN | apply keep_drew | apply keep_alloc) | exact HK.out)) (KeepBut.of_below hb g none) (.inl rfl)); have n2_ := Aside0.mk (below_step (by repeat (first | (with_reducible first | exact HB.out | apply below_alloc | apply pw_below_drewN | apply below_drew1 | refine below_set ?_ (IsS63.ge HI0.out)) | exact HB.out)) hb); have n3_ := Aside0.mk (hbox); have n4_ := Aside0.mk ((by rw [hg]; exact (keep_size (w := w) (g := g) (row := none) (by repeat (first | (with_reducible first | exact HK.out | apply KeepBut.set_ | apply keep_drewN | apply keep_drew | apply keep_alloc) | exact HK.out))) : w.heap.size ≤ gb129)); have n5_ := Aside0.mk ((Nat.le_trans HW0.out (by rw [hg]; exact (keep_size (w := w) (g := g) (row := none) (by repeat (first | (with_reducible first | exact HK.out | apply KeepBut.set_ | apply keep_drewN | apply keep_drew | apply keep_alloc) | exact HK.out))) : w.heap.size ≤ gb129) : w0.heap.size ≤ gb129)); have n6_ := Aside0.mk ((by rw [hg]; exact Nat.ne_of_lt (IsS63.lt (show IsS63 w0 _ g s0_0 s0_1 s0_2 s0_3 false s0_5 s0_6 s0_7 s0_8 from by repeat (first | (with_reducible first | exact HI0.out | apply IsS63.alloc | apply IsS63.drewN | apply IsS63.drew | apply IsS63.set_0 | apply IsS63.set_1 | apply IsS63.set_2 | apply IsS63.set_3 | apply IsS63.set_4 | apply IsS63.set_5 | apply IsS63.set_6 | apply IsS63.set_7 | apply IsS63.set_8) | exact HI0.out))) : g ≠ gb129)); have n7_ := Aside0.mk ((by rw [hg]; exact Nat.ne_of_gt (IsS63.lt (show IsS63 w0 _ g s0_0 s0_1 s0_2 s0_3 false s0_5 s0_6 s0_7 s0_8 from by repeat (first | (with_reducible first | exact HI0.out | apply IsS63.alloc | apply IsS63.drewN | apply IsS63.drew | apply IsS63.set_0 | apply IsS63.set_1 | apply IsS63.set_2 | apply IsS63.set_3 | apply IsS63.set_4 | apply IsS63.set_5 | apply IsS63.set_6 | apply IsS63.set_7 | apply IsS63.set_8) | exact HI0.out))) : gb129 ≠ g)); clear HI0; clear HK; clear HB; have HI0 := n0_; have HK := n1_; have HB := n2_; have BK129 := n3_; have GW129 := n4_; have GE129 := n5_; have NB0_129 := n6_; have NB129_0 := n7_; clear n0_ n1_ n2_ n3_ n4_ n5_ n6_ n7_; clear hb hbox hg))
  have n0_ := Aside0.mk (blk_drew BK129.out)
  have n1_ := Aside0.mk (IsS63.drew HI0.out)
  have n2_ := Aside0.mk (keep_drew HK.out)
  have n3_ := Aside0.mk (below_drew1 HB.out)
  clear BK129
  clear HI0
  clear HK
  clear HB
  have BK129 := n0_
  have HI0 := n1_
  have HK := n2_
  have HB := n3_
  clear n0_ n1_ n2_ n3_
  refine start_ (n := 12) (S := fun w' => w'.cell? ⟨g, 0, none⟩ = some (.int .i64 s0_0) ∧ w'.cell? ⟨g, 1, none⟩ = some (.int .i64 s0_1) ∧ w'.cell? ⟨g, 2, none⟩ = some (.int .i64 s0_2) ∧ w'.cell? ⟨g, 3, none⟩ = some (.int .i64 s0_3) ∧ w'.cell? ⟨g, 4, none⟩ = some (.bool false) ∧ w'.cell? ⟨g, 5, none⟩ = some (.int .i64 s0_5) ∧ w'.cell? ⟨g, 6, none⟩ = some (.int .i64 s0_6) ∧ w'.cell? ⟨g, 7, none⟩ = some (.bool s0_7) ∧ w'.cell? ⟨g, 8, none⟩ = some (.int .i64 s0_8) ∧ w'.cell? ⟨gb129, 0, none⟩ = some (.int .i64 a1_0) ∧ w'.cell? ⟨gb129, 1, none⟩ = some (.int .i64 a1_1) ∧ w'.cell? ⟨gb129, 2, none⟩ = some (.int .i64 a1_2)) (ds := [11]) #[false, false, false, false, false, false, false, false, false, false, false, false] (by kernel_rfl) rfl rfl ⟨(IsS63.cell_0 HI0.out), (IsS63.cell_1 HI0.out), (IsS63.cell_2 HI0.out), (IsS63.cell_3 HI0.out), (IsS63.cell_4 HI0.out), (IsS63.cell_5 HI0.out), (IsS63.cell_6 HI0.out), (IsS63.cell_7 HI0.out), (IsS63.cell_8 HI0.out), (blk_cell BK129.out 0).trans rfl, (blk_cell BK129.out 1).trans rfl, (blk_cell BK129.out 2).trans rfl⟩ (fun hHeld => ?_); refine with_tabW aimd_Aimd_cut.tab1 aimd_Aimd_cut.bits1 (fun HT_ HW_ => ?_)
  generalize w38.drew = w39 at BK129 HI0 HK HB hHeld ⊢
  refine pure_ (i := 0) (N := some 5) (v := ?_) (a' := ?_) (bl 12 1) rfl rfl (any_of HT_.out (by kernel_rfl)) (fun _ _ _ h => h) (Or.inl ⟨by rfl, ?_⟩) ?_ ?_
  rotate_left
  ·intro w'
   go_simp
   with_reducible rfl
  rotate_left
  ·simp only [puts_]
   rfl
  refine pure_ (i := 1) (N := some 6) (v := ?_) (a' := ?_) (bl 12 3) rfl rfl (any_of HT_.out (by kernel_rfl)) (fun _ _ _ h => h) (Or.inl ⟨by rfl, ?_⟩) ?_ ?_
  rotate_left
  ·intro w'
   go_simp
   with_reducible rfl
  rotate_left
  ·simp only [puts_]
   rfl
  refine pure_ (i := 2) (N := some 7) (v := ?_) (a' := ?_) (bl 12 7) rfl rfl (any_of HT_.out (by kernel_rfl)) (fun _ _ _ h => h) (Or.inl ⟨by rfl, ?_⟩) ?_ ?_
  rotate_left
  ·intro w'
   go_simp
   with_reducible rfl
  rotate_left
  ·simp only [puts_]
   rfl
  refine pure_ (i := 3) (N := some 8) (v := ?_) (a' := ?_) (bl 12 15) rfl rfl (any_of HT_.out (by kernel_rfl)) (fun _ _ _ h => h) (Or.inl ⟨by rfl, ?_⟩) ?_ ?_
  rotate_left
  ·intro w'
   go_simp
   with_reducible rfl
  rotate_left
  ·simp only [puts_]
   rfl
  refine pure_ (i := 5) (N := some 10) (v := ?_) (a' := ?_) (bl 12 47) rfl rfl (any_of HT_.out (by kernel_rfl)) (fun _ _ _ h => h) (Or.inl ⟨by rfl, ?_⟩) ?_ ?_
  rotate_left
  ·intro w'
   go_simp
   with_reducible rfl
  rotate_left
  ·simp only [puts_]
   rfl
  refine take_ (i := 4) (N := some 9) (v := ?_) (a' := ?_) (bl 12 63) rfl rfl (take_ofW HT_.out HW_.out (by kernel_rfl)) (fun _ _ _ h => h) (Or.inl ⟨by rfl, ?_⟩) hHeld ?_ ?_
  rotate_left
  ·rintro w' ⟨s0, s1, s2, s3, s4, s5, s6, s7, s8, s9, s10, s11⟩
   go_simp
   with_reducible rfl
  rotate_left
  ·simp only [puts_]
   rfl
  refine take_ (i := 6) (N := some 11) (v := ?_) (a' := ?_) (bl 12 127) rfl rfl (take_ofW HT_.out HW_.out (by kernel_rfl)) (fun _ _ _ h => h) (Or.inl ⟨by rfl, ?_⟩) hHeld ?_ ?_
  rotate_left
  ·rintro w' ⟨s0, s1, s2, s3, s4, s5, s6, s7, s8, s9, s10, s11⟩
   go_simp
   with_reducible rfl
  rotate_left
  ·simp only [puts_]
   rfl
  refine one_ (i := 7) (N := some 12) (bl 12 255) rfl rfl (one_of HT_.out (by kernel_rfl)) (by decide) (fun K hK => ?_)
  refine goes_ Try.func50 (by kernel_rfl) rfl #[.int .i64 a1_0, .int .i64 85, .int .i64 100, .int .i64 1] (by rfl) rfl rfl (by (try simp only [List.map_toArray, List.map_cons, List.map_nil]); first | done | rfl | (simp only [List.length_drop, List.length_take]; rfl)) ?_
  with_reducible refine (muldiv_Do.calls a1_0 85 100 1 t130 _ A3.out).mono ?_
  rintro e w40 ⟨rfl, hb⟩
  refine ⟨_, rfl, ?_⟩
  have n0_ := Aside0.mk (IsS63.below (by repeat (first | (with_reducible first | exact HI0.out | apply IsS63.alloc | apply IsS63.drewN | apply IsS63.drew | apply IsS63.set_0 | apply IsS63.set_1 | apply IsS63.set_2 | apply IsS63.set_3 | apply IsS63.set_4 | apply IsS63.set_5 | apply IsS63.set_6 | apply IsS63.set_7 | apply IsS63.set_8 | refine IsS63.far ?_ NB0_129.out _) | exact HI0.out)) hb)
  have n1_ := Aside0.mk (blk_below (g := gb129) (o := .cells #[.int .i64 a1_0, .int .i64 a1_1, .int .i64 a1_2] 66 (0, 0)) (by (with_reducible repeat (first | refine blk_drewN ?_ _ | refine blk_drew ?_ | refine blk_alloc ?_ _)); exact BK129.out) hb)
  have n2_ := Aside0.mk (KeepBut.trans (by repeat (first | (with_reducible first | exact HK.out | apply KeepBut.set_ | apply keep_drewN | apply keep_drew | apply keep_alloc | refine keep_far ?_ GW129.out _) | exact HK.out)) (KeepBut.of_below hb g none) (.inl rfl))
  have n3_ := Aside0.mk (below_step (by repeat (first | (with_reducible first | exact HB.out | apply below_alloc | apply pw_below_drewN | apply below_drew1 | refine below_set ?_ (IsS63.ge HI0.out) | refine below_set ?_ GE129.out) | exact HB.out)) hb)
  clear HI0
  clear BK129
  clear HK
  clear HB
  have HI0 := n0_
  have BK129 := n1_
  have HK := n2_
  have HB := n3_
  clear n0_ n1_ n2_ n3_
  (try clear hb)
  (try clear hb2)
  (try clear hk)
  (try clear hi)
  refine hK.out _ _ ⟨(IsS63.cell_0 HI0.out), (IsS63.cell_1 HI0.out), (IsS63.cell_2 HI0.out), (IsS63.cell_3 HI0.out), (IsS63.cell_4 HI0.out), (IsS63.cell_5 HI0.out), (IsS63.cell_6 HI0.out), (IsS63.cell_7 HI0.out), (IsS63.cell_8 HI0.out), (blk_cell BK129.out 0).trans rfl, (blk_cell BK129.out 1).trans rfl, (blk_cell BK129.out 2).trans rfl⟩ (fun hHeld => ?_)
  clear hK K
  refine norm_ (a' := ?_) ?_ ?_
  rotate_left
  ·show Act.put _ (some 12) _ = _
   simp only [puts_]
   rfl
  refine pure_ (i := 8) (N := some 13) (v := ?_) (a' := ?_) (bl 12 511) rfl rfl (any_of HT_.out (by kernel_rfl)) (fun _ _ _ h => h) (Or.inl ⟨by rfl, ?_⟩) ?_ ?_
  rotate_left
  ·intro w'
   go_simp
   with_reducible rfl
  rotate_left
  ·simp only [puts_]
   rfl
  refine pure_ (i := 9) (N := some 14) (v := ?_) (a' := ?_) (bl 12 1023) rfl rfl (any_of HT_.out (by kernel_rfl)) (fun _ _ _ h => h) (Or.inl ⟨by rfl, ?_⟩) ?_ ?_
  rotate_left
  ·intro w'
   go_simp
   with_reducible rfl
  rotate_left
  ·simp only [puts_]
   rfl
  refine pure_ (i := 10) (N := some 15) (v := ?_) (a' := ?_) (bl 12 2047) rfl rfl (any_of HT_.out (by kernel_rfl)) (fun _ _ _ h => h) (Or.inl ⟨by rfl, ?_⟩) ?_ ?_
  rotate_left
  ·intro w'
   go_simp
   with_reducible rfl
  rotate_left
  ·simp only [puts_]
   rfl
  refine last_ (i := 11) (N := none) (bl 12 4095) rfl rfl (one_of HT_.out (by kernel_rfl)) (by decide) (fun K hK => ?_)
  have hs41 : w40.cell? ⟨g, 0, none⟩ = some (.int .i64 s0_0) := IsS63.cell_0 HI0.out
  have hfs41 := IsS63.froz_0 HI0.out
  have hns41_0 := NB129_0.out
  have hms41_0 := NB0_129.out
  refine skip_ (w1 := ?_) (by rfl) rfl ?_ ?_
  rotate_left
  ·go_simp
   rfl
  refine hK.out _ _ ?_
  clear hK K
  refine done_ (done_of HT_.out (by kernel_rfl)) ?_
  try go_wp2
  have n0_ : Aside0 ((w40.setCell ⟨g, 0, none⟩ (.int .i64 ji4)).heap[gb129]? = some (.cells #[.int .i64 a1_0, .int .i64 a1_1, .int .i64 a1_2] 66 (0, 0))) := ⟨by (with_reducible repeat (first | refine blk_drewN ?_ _ | refine blk_drew ?_ | refine blk_alloc ?_ _)); refine blk_far ?_ NB129_0.out _; (with_reducible repeat (first | refine blk_drewN ?_ _ | refine blk_drew ?_ | refine blk_alloc ?_ _)); exact BK129.out⟩
  have n1_ : Aside0 (IsS63 w0 (w40.setCell ⟨g, 0, none⟩ (.int .i64 ji4)) g ji4 s0_1 s0_2 s0_3 false s0_5 s0_6 s0_7 s0_8) := ⟨by repeat (first | (with_reducible first | exact HI0.out | apply IsS63.alloc | apply IsS63.drewN | apply IsS63.drew | apply IsS63.set_0 | apply IsS63.set_1 | apply IsS63.set_2 | apply IsS63.set_3 | apply IsS63.set_4 | apply IsS63.set_5 | apply IsS63.set_6 | apply IsS63.set_7 | apply IsS63.set_8 | refine IsS63.far ?_ NB0_129.out _) | exact HI0.out)⟩
  have n2_ : Aside0 (KeepBut w (w40.setCell ⟨g, 0, none⟩ (.int .i64 ji4)) g none) := ⟨by repeat (first | (with_reducible first | exact HK.out | apply KeepBut.set_ | apply keep_drewN | apply keep_drew | apply keep_alloc | refine keep_far ?_ GW129.out _) | exact HK.out)⟩
  have n3_ : Aside0 (Below w0.heap.size w0 (w40.setCell ⟨g, 0, none⟩ (.int .i64 ji4))) := ⟨by repeat (first | (with_reducible first | exact HB.out | apply below_alloc | apply pw_below_drewN | apply below_drew1 | refine below_set ?_ (IsS63.ge HI0.out) | refine below_set ?_ GE129.out) | exact HB.out)⟩
  (try clear BK129)
  (try clear HI0)
  (try clear HK)
  (try clear HB)
  generalize (w40.setCell ⟨g, 0, none⟩ (.int .i64 ji4)) = w42 at n0_ n1_ n2_ n3_ ⊢
  have BK129 := n0_
  have HI0 := n1_
  have HK := n2_
  have HB := n3_
  clear n0_ n1_ n2_ n3_
  have n0_ := Aside0.mk (blk_drew BK129.out)
  have n1_ := Aside0.mk (IsS63.drew HI0.out)
  have n2_ := Aside0.mk (keep_drew HK.out)
  have n3_ := Aside0.mk (below_drew1 HB.out)
  clear BK129
  clear HI0
  clear HK
  clear HB
  have BK129 := n0_
  have HI0 := n1_
  have HK := n2_
  have HB := n3_
  clear n0_ n1_ n2_ n3_
  refine start_ (n := 8) (S := fun w' => w'.cell? ⟨gb129, 0, none⟩ = some (.int .i64 a1_0) ∧ w'.cell? ⟨gb129, 1, none⟩ = some (.int .i64 a1_1) ∧ w'.cell? ⟨gb129, 2, none⟩ = some (.int .i64 a1_2) ∧ w'.cell? ⟨g, 0, none⟩ = some (.int .i64 ji4) ∧ w'.cell? ⟨g, 1, none⟩ = some (.int .i64 s0_1) ∧ w'.cell? ⟨g, 2, none⟩ = some (.int .i64 s0_2) ∧ w'.cell? ⟨g, 3, none⟩ = some (.int .i64 s0_3) ∧ w'.cell? ⟨g, 4, none⟩ = some (.bool false) ∧ w'.cell? ⟨g, 5, none⟩ = some (.int .i64 s0_5) ∧ w'.cell? ⟨g, 6, none⟩ = some (.int .i64 s0_6) ∧ w'.cell? ⟨g, 7, none⟩ = some (.bool s0_7) ∧ w'.cell? ⟨g, 8, none⟩ = some (.int .i64 s0_8)) (ds := []) #[false, false, false, false, false, false, false, false] (by kernel_rfl) rfl rfl ⟨(blk_cell BK129.out 0).trans rfl, (blk_cell BK129.out 1).trans rfl, (blk_cell BK129.out 2).trans rfl, (IsS63.cell_0 HI0.out), (IsS63.cell_1 HI0.out), (IsS63.cell_2 HI0.out), (IsS63.cell_3 HI0.out), (IsS63.cell_4 HI0.out), (IsS63.cell_5 HI0.out), (IsS63.cell_6 HI0.out), (IsS63.cell_7 HI0.out), (IsS63.cell_8 HI0.out)⟩ (fun hHeld => ?_); refine with_tabW aimd_Aimd_cut.tab2 aimd_Aimd_cut.bits2 (fun HT_ HW_ => ?_)
  generalize w42.drew = w43 at BK129 HI0 HK HB hHeld ⊢
  refine pure_ (i := 0) (N := some 16) (v := ?_) (a' := ?_) (bl 8 1) rfl rfl (any_of HT_.out (by kernel_rfl)) (fun _ _ _ h => h) (Or.inl ⟨by rfl, ?_⟩) ?_ ?_
  rotate_left
  ·intro w'
   go_simp
   with_reducible rfl
  rotate_left
  ·simp only [puts_]
   rfl
  refine pure_ (i := 2) (N := some 18) (v := ?_) (a' := ?_) (bl 8 5) rfl rfl (any_of HT_.out (by kernel_rfl)) (fun _ _ _ h => h) (Or.inl ⟨by rfl, ?_⟩) ?_ ?_
  rotate_left
  ·intro w'
   go_simp
   with_reducible rfl
  rotate_left
  ·simp only [puts_]
   rfl
  refine pure_ (i := 3) (N := some 19) (v := ?_) (a' := ?_) (bl 8 13) rfl rfl (any_of HT_.out (by kernel_rfl)) (fun _ _ _ h => h) (Or.inl ⟨by rfl, ?_⟩) ?_ ?_
  rotate_left
  ·intro w'
   go_simp
   with_reducible rfl
  rotate_left
  ·simp only [puts_]
   rfl
  refine pure_ (i := 4) (N := some 20) (v := ?_) (a' := ?_) (bl 8 29) rfl rfl (any_of HT_.out (by kernel_rfl)) (fun _ _ _ h => h) (Or.inl ⟨by rfl, ?_⟩) ?_ ?_
  rotate_left
  ·intro w'
   go_simp
   with_reducible rfl
  rotate_left
  ·simp only [puts_]
   rfl
  refine take_ (i := 1) (N := some 17) (v := ?_) (a' := ?_) (bl 8 31) rfl rfl (take_ofW HT_.out HW_.out (by kernel_rfl)) (fun _ _ _ h => h) (Or.inl ⟨by rfl, ?_⟩) hHeld ?_ ?_
  rotate_left
  ·rintro w' ⟨s0, s1, s2, s3, s4, s5, s6, s7, s8, s9, s10, s11⟩
   go_simp
   with_reducible rfl
  rotate_left
  ·simp only [puts_]
   rfl
  refine take_ (i := 5) (N := some 21) (v := ?_) (a' := ?_) (bl 8 63) rfl rfl (take_ofW HT_.out HW_.out (by kernel_rfl)) (fun _ _ _ h => h) (Or.inl ⟨by rfl, ?_⟩) hHeld ?_ ?_
  rotate_left
  ·rintro w' ⟨s0, s1, s2, s3, s4, s5, s6, s7, s8, s9, s10, s11⟩
   go_simp
   with_reducible rfl
  rotate_left
  ·simp only [puts_]
   rfl
  refine pure_ (i := 6) (N := some 22) (v := ?_) (a' := ?_) (bl 8 127) rfl rfl (any_of HT_.out (by kernel_rfl)) (fun _ _ _ h => h) (Or.inl ⟨by rfl, ?_⟩) ?_ ?_
  rotate_left
  ·intro w'
   go_simp
   with_reducible rfl
  rotate_left
  ·simp only [puts_]
   rfl
  refine pure_ (i := 7) (N := some 4) (v := ?_) (a' := ?_) (bl 8 255) rfl rfl (any_of HT_.out (by kernel_rfl)) (fun _ _ _ h => h) (Or.inl ⟨by rfl, ?_⟩) ?_ ?_
  rotate_left
  ·intro w'
   go_simp
   with_reducible rfl
  rotate_left
  ·simp only [puts_]
   rfl
  refine done_ (done_of HT_.out (by kernel_rfl)) ?_
  obtain ⟨HGz44, hgz44⟩ := HI0.out
  have hcz44_0 := cellS63_0 HGz44
  have hcz44_1 := cellS63_1 HGz44
  have hcz44_2 := cellS63_2 HGz44
  have hcz44_3 := cellS63_3 HGz44
  have hcz44_4 := cellS63_4 HGz44
  have hcz44_5 := cellS63_5 HGz44
  have hcz44_6 := cellS63_6 HGz44
  have hcz44_7 := cellS63_7 HGz44
  have hcz44_8 := cellS63_8 HGz44
  have hfz44_0 := blk_frozen HGz44 0
  have hfz44_1 := blk_frozen HGz44 1
  have hfz44_2 := blk_frozen HGz44 2
  have hfz44_3 := blk_frozen HGz44 3
  have hfz44_4 := blk_frozen HGz44 4
  have hfz44_5 := blk_frozen HGz44 5
  have hfz44_6 := blk_frozen HGz44 6
  have hfz44_7 := blk_frozen HGz44 7
  have hfz44_8 := blk_frozen HGz44 8
  clear HGz44 hgz44
  try go_wp2
  have n0_ := Aside0.mk (blk_drew BK129.out)
  have n1_ := Aside0.mk (IsS63.drew HI0.out)
  have n2_ := Aside0.mk (keep_drew HK.out)
  have n3_ := Aside0.mk (below_drew1 HB.out)
  clear BK129
  clear HI0
  clear HK
  clear HB
  have BK129 := n0_
  have HI0 := n1_
  have HK := n2_
  have HB := n3_
  clear n0_ n1_ n2_ n3_
  refine start_ (n := 17) (S := fun w' => w'.cell? ⟨gb129, 0, none⟩ = some (.int .i64 a1_0) ∧ w'.cell? ⟨gb129, 1, none⟩ = some (.int .i64 a1_1) ∧ w'.cell? ⟨gb129, 2, none⟩ = some (.int .i64 a1_2)) (ds := []) #[false, false, false, false, false, false, false, false, false, false, false, false, false, false, false, false, false] (by kernel_rfl) rfl rfl ⟨(blk_cell BK129.out 0).trans rfl, (blk_cell BK129.out 1).trans rfl, (blk_cell BK129.out 2).trans rfl⟩ (fun hHeld => ?_); refine with_tabW aimd_Aimd_cut.tab6 aimd_Aimd_cut.bits6 (fun HT_ HW_ => ?_)
  generalize w43.drew = w45 at BK129 HI0 HK HB hHeld ⊢
  refine pure_ (i := 0) (N := some 53) (v := ?_) (a' := ?_) (bl 17 1) rfl rfl (any_of HT_.out (by kernel_rfl)) (fun _ _ _ h => h) (Or.inl ⟨by rfl, ?_⟩) ?_ ?_
  rotate_left
  ·intro w'
   go_simp
   with_reducible rfl
  rotate_left
  ·simp only [puts_]
   rfl
  refine pure_ (i := 1) (N := some 54) (v := ?_) (a' := ?_) (bl 17 3) rfl rfl (any_of HT_.out (by kernel_rfl)) (fun _ _ _ h => h) (Or.inl ⟨by rfl, ?_⟩) ?_ ?_
  rotate_left
  ·intro w'
   go_simp
   with_reducible rfl
  rotate_left
  ·simp only [puts_]
   rfl
  refine pure_ (i := 2) (N := some 55) (v := ?_) (a' := ?_) (bl 17 7) rfl rfl (any_of HT_.out (by kernel_rfl)) (fun _ _ _ h => h) (Or.inl ⟨by rfl, ?_⟩) ?_ ?_
  rotate_left
  ·intro w'
   go_simp
   with_reducible rfl
  rotate_left
  ·simp only [puts_]
   rfl
  refine pure_ (i := 3) (N := some 56) (v := ?_) (a' := ?_) (bl 17 15) rfl rfl (any_of HT_.out (by kernel_rfl)) (fun _ _ _ h => h) (Or.inl ⟨by rfl, ?_⟩) ?_ ?_
  rotate_left
  ·intro w'
   go_simp
   with_reducible rfl
  rotate_left
  ·simp only [puts_]
   rfl
  refine pure_ (i := 5) (N := some 58) (v := ?_) (a' := ?_) (bl 17 47) rfl rfl (any_of HT_.out (by kernel_rfl)) (fun _ _ _ h => h) (Or.inl ⟨by rfl, ?_⟩) ?_ ?_
  rotate_left
  ·intro w'
   go_simp
   with_reducible rfl
  rotate_left
  ·simp only [puts_]
   rfl
  refine pure_ (i := 8) (N := some 61) (v := ?_) (a' := ?_) (bl 17 303) rfl rfl (any_of HT_.out (by kernel_rfl)) (fun _ _ _ h => h) (Or.inl ⟨by rfl, ?_⟩) ?_ ?_
  rotate_left
  ·intro w'
   go_simp
   with_reducible rfl
  rotate_left
  ·simp only [puts_]
   rfl
  refine pure_ (i := 9) (N := some 62) (v := ?_) (a' := ?_) (bl 17 815) rfl rfl (any_of HT_.out (by kernel_rfl)) (fun _ _ _ h => h) (Or.inl ⟨by rfl, ?_⟩) ?_ ?_
  rotate_left
  ·intro w'
   go_simp
   with_reducible rfl
  rotate_left
  ·simp only [puts_]
   rfl
  refine take_ (i := 4) (N := some 57) (v := ?_) (a' := ?_) (bl 17 831) rfl rfl (take_ofW HT_.out HW_.out (by kernel_rfl)) (fun _ _ _ h => h) (Or.inl ⟨by rfl, ?_⟩) hHeld ?_ ?_
  rotate_left
  ·rintro w' ⟨s0, s1, s2⟩
   go_simp
   with_reducible rfl
  rotate_left
  ·simp only [puts_]
   rfl
  refine take_ (i := 6) (N := some 59) (v := ?_) (a' := ?_) (bl 17 895) rfl rfl (take_ofW HT_.out HW_.out (by kernel_rfl)) (fun _ _ _ h => h) (Or.inl ⟨by rfl, ?_⟩) hHeld ?_ ?_
  rotate_left
  ·rintro w' ⟨s0, s1, s2⟩
   go_simp
   with_reducible rfl
  rotate_left
  ·simp only [puts_]
   rfl
  refine pure_ (i := 7) (N := some 60) (v := ?_) (a' := ?_) (bl 17 1023) rfl rfl (any_of HT_.out (by kernel_rfl)) (fun _ _ _ h => h) (Or.inl ⟨by rfl, ?_⟩) ?_ ?_
  rotate_left
  ·intro w'
   go_simp
   with_reducible rfl
  rotate_left
  ·simp only [puts_]
   rfl
  refine one_ (i := 10) (N := none) (bl 17 2047) rfl rfl (one_of HT_.out (by kernel_rfl)) (by decide) (fun K hK => ?_)
  have hs46 : w45.cell? ⟨g, 4, none⟩ = some (.bool false) := IsS63.cell_4 HI0.out
  have hfs46 := IsS63.froz_4 HI0.out
  have hns46_0 := NB129_0.out
  have hms46_0 := NB0_129.out
  refine skip_ (w1 := ?_) (by rfl) rfl ?_ ?_
  rotate_left
  ·go_simp
   rfl
  refine hK.out _ _ ⟨((cell_far (p := ⟨g, _, none⟩) NB129_0.out _).trans (hHeld.1)), ((cell_far (p := ⟨g, _, none⟩) NB129_0.out _).trans (hHeld.2.1)), ((cell_far (p := ⟨g, _, none⟩) NB129_0.out _).trans (hHeld.2.2))⟩ (fun hHeld => ?_)
  clear hK K
  refine pure_ (i := 11) (N := some 63) (v := ?_) (a' := ?_) (bl 17 4095) rfl rfl (any_of HT_.out (by kernel_rfl)) (fun _ _ _ h => h) (Or.inl ⟨by rfl, ?_⟩) ?_ ?_
  rotate_left
  ·intro w'
   go_simp
   with_reducible rfl
  rotate_left
  ·simp only [puts_]
   rfl
  refine pure_ (i := 12) (N := some 64) (v := ?_) (a' := ?_) (bl 17 8191) rfl rfl (any_of HT_.out (by kernel_rfl)) (fun _ _ _ h => h) (Or.inl ⟨by rfl, ?_⟩) ?_ ?_
  rotate_left
  ·intro w'
   go_simp
   with_reducible rfl
  rotate_left
  ·simp only [puts_]
   rfl
  refine one_ (i := 13) (N := none) (bl 17 16383) rfl rfl (one_of HT_.out (by kernel_rfl)) (by decide) (fun K hK => ?_)
  have hs47 : w45.cell? ⟨g, 5, none⟩ = some (.int .i64 s0_5) := IsS63.cell_5 HI0.out
  have hfs47 := IsS63.froz_5 HI0.out
  have hns47_0 := NB129_0.out
  have hms47_0 := NB0_129.out
  refine skip_ (w1 := ?_) (by rfl) rfl ?_ ?_
  rotate_left
  ·go_simp
   rfl
  refine hK.out _ _ ⟨((cell_far (p := ⟨g, _, none⟩) NB129_0.out _).trans (hHeld.1)), ((cell_far (p := ⟨g, _, none⟩) NB129_0.out _).trans (hHeld.2.1)), ((cell_far (p := ⟨g, _, none⟩) NB129_0.out _).trans (hHeld.2.2))⟩ (fun hHeld => ?_)
  clear hK K
  refine pure_ (i := 14) (N := some 65) (v := ?_) (a' := ?_) (bl 17 32767) rfl rfl (any_of HT_.out (by kernel_rfl)) (fun _ _ _ h => h) (Or.inl ⟨by rfl, ?_⟩) ?_ ?_
  rotate_left
  ·intro w'
   go_simp
   with_reducible rfl
  rotate_left
  ·simp only [puts_]
   rfl
  refine pure_ (i := 15) (N := some 66) (v := ?_) (a' := ?_) (bl 17 65535) rfl rfl (any_of HT_.out (by kernel_rfl)) (fun _ _ _ h => h) (Or.inl ⟨by rfl, ?_⟩) ?_ ?_
  rotate_left
  ·intro w'
   go_simp
   with_reducible rfl
  rotate_left
  ·simp only [puts_]
   rfl
  refine one_ (i := 16) (N := none) (bl 17 131071) rfl rfl (one_of HT_.out (by kernel_rfl)) (by decide) (fun K hK => ?_)
  have hs48 : w45.cell? ⟨g, 6, none⟩ = some (.int .i64 s0_6) := IsS63.cell_6 HI0.out
  have hfs48 := IsS63.froz_6 HI0.out
  have hns48_0 := NB129_0.out
  have hms48_0 := NB0_129.out
  refine skip_ (w1 := ?_) (by rfl) rfl ?_ ?_
  rotate_left
  ·go_simp
   rfl
  refine hK.out _ _ ⟨((cell_far (p := ⟨g, _, none⟩) NB129_0.out _).trans (hHeld.1)), ((cell_far (p := ⟨g, _, none⟩) NB129_0.out _).trans (hHeld.2.1)), ((cell_far (p := ⟨g, _, none⟩) NB129_0.out _).trans (hHeld.2.2))⟩ (fun hHeld => ?_)
  clear hK K
  refine done_ (done_of HT_.out (by kernel_rfl)) ?_
  obtain ⟨HGz49, hgz49⟩ := HI0.out
  have hcz49_0 := cellS63_0 HGz49
  have hcz49_1 := cellS63_1 HGz49
  have hcz49_2 := cellS63_2 HGz49
  have hcz49_3 := cellS63_3 HGz49
  have hcz49_4 := cellS63_4 HGz49
  have hcz49_5 := cellS63_5 HGz49
  have hcz49_6 := cellS63_6 HGz49
  have hcz49_7 := cellS63_7 HGz49
  have hcz49_8 := cellS63_8 HGz49
  have hfz49_0 := blk_frozen HGz49 0
  have hfz49_1 := blk_frozen HGz49 1
  have hfz49_2 := blk_frozen HGz49 2
  have hfz49_3 := blk_frozen HGz49 3
  have hfz49_4 := blk_frozen HGz49 4
  have hfz49_5 := blk_frozen HGz49 5
  have hfz49_6 := blk_frozen HGz49 6
  have hfz49_7 := blk_frozen HGz49 7
  have hfz49_8 := blk_frozen HGz49 8
  clear HGz49 hgz49
  try go_wp2
  first | go_end0 | ((try simp only [Exit.inBlock, Exit.then]); refine bodyPost_ret (results_none rfl _ _ _) rfl ?_)
  exact ⟨by first | rfl | (simp [errW_none, errW_some] <;> rfl) | (simp only [← hji4]; first | rfl | (simp [errW_none, errW_some] <;> rfl)) | (simp [*, errW_none, errW_some] <;> rfl), by repeat (first | (with_reducible first | exact HI0.out | apply IsS63.alloc | apply IsS63.drewN | apply IsS63.drew | apply IsS63.set_0 | apply IsS63.set_1 | apply IsS63.set_2 | apply IsS63.set_3 | apply IsS63.set_4 | apply IsS63.set_5 | apply IsS63.set_6 | apply IsS63.set_7 | apply IsS63.set_8 | refine IsS63.far ?_ NB0_129.out _) | exact HI0.out), by repeat (first | (with_reducible first | exact HB.out | apply below_alloc | apply pw_below_drewN | apply below_drew1 | refine below_set ?_ (IsS63.ge HI0.out) | refine below_set ?_ GE129.out) | exact HB.out), by repeat (first | (with_reducible first | exact HK.out | apply KeepBut.set_ | apply keep_drewN | apply keep_drew | apply keep_alloc | refine keep_far ?_ GW129.out _) | exact HK.out)⟩
end Go.Proofs.Ytaelmmbodigheaa.P
end

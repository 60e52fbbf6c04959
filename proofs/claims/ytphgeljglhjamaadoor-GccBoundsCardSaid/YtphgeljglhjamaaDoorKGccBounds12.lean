-- PUT TOGETHER by a program of this session: of the claim's texts, what is used
import Derived.Test.YtphgeljglhjamaaDoorKGccBounds6
import Derived.Test.YtphgeljglhjamaaDoorKGccBounds8
import Derived.Test.YtphgeljglhjamaaDoorKGccBounds9
import Derived.Test.YtphgeljglhjamaaDoorKGccBounds11
section
namespace Go.Proofs.YtphgeljglhjamaaDoor.P
open Go.RowKit Go.Proofs.YtphgeljglhjamaaDoorW.PrintWords Go.Proofs.YtphgeljglhjamaaDoorW.PrintLast Go.Proofs.YtphgeljglhjamaaDoorW.PrintMore
attribute [local go_sem] max2_int min2_int max_two min_two max_three min_three max_four min_four
set_option linter.unusedVariables false
set_option linter.unusedSimpArgs false
mutual
def aimd_Aimd_lift.j0 : Nat → Bool → Int → Int → Int → Int → Bool → Int → Int → Bool → Int → Int → Int → Int → Option (Int × Int × Int × Int × Bool × Int × Int × Bool × Int)
 | 0, _, _, _, _, _, _, _, _, _, _, _, _, _ => none
 | k + 1, x25, x1000, x1001, x1002, x1003, x1004, x1005, x1006, x1007, x1008, x293000, x293001, x293002 => if x25 = true then (aimd_Aimd_lift.j1 k x1000 x1001 x1002 x1003 false x1005 x1006 x1007 x1008 x293000 x293001 x293002) else (aimd_Aimd_lift.j1 k x1000 x1001 x1002 x1003 x1004 x1005 x1006 x1007 x1008 x293000 x293001 x293002)
def aimd_Aimd_lift.j1 : Nat → Int → Int → Int → Int → Bool → Int → Int → Bool → Int → Int → Int → Int → Option (Int × Int × Int × Int × Bool × Int × Int × Bool × Int)
 | 0, _, _, _, _, _, _, _, _, _, _, _, _ => none
 | k + 1, x1000, x1001, x1002, x1003, x1004, x1005, x1006, x1007, x1008, x293000, x293001, x293002 => (muldiv_Do.f x1000 (wrap64 (8 * x293002)) 100000000 3).bind fun t293 => (if x1004 = true then ((muldiv_Do.f 9600 x293002 (wrap64 (x293001 + 100000)) 3).bind fun t294 => (if x293000 > 0 then (if (wrap64 ((wrap64 (Int.tdiv (wrap64 (3 * x293000)) 2)) + 10000)) < (wrap64 (x1000 + (mx t294 1000))) then (some (mx (wrap64 ((wrap64 (Int.tdiv (wrap64 (3 * x293000)) 2)) + 10000)) x1000, x1001, x1002, x1003, x1004, x1005, x1006, x1007, x1008)) else (some (wrap64 (x1000 + (mx t294 1000)), x1001, x1002, x1003, x1004, x1005, x1006, x1007, x1008))) else (some (wrap64 (x1000 + (mx t294 1000)), x1001, x1002, x1003, x1004, x1005, x1006, x1007, x1008)))) else (if x293000 > 0 then (if (wrap64 ((wrap64 (Int.tdiv (wrap64 (3 * x293000)) 2)) + 10000)) < (wrap64 (x1000 + (mx t293 1000))) then (some (mx (wrap64 ((wrap64 (Int.tdiv (wrap64 (3 * x293000)) 2)) + 10000)) x1000, x1001, x1002, x1003, x1004, x1005, x1006, x1007, x1008)) else (some (wrap64 (x1000 + (mx t293 1000)), x1001, x1002, x1003, x1004, x1005, x1006, x1007, x1008))) else (some (wrap64 (x1000 + (mx t293 1000)), x1001, x1002, x1003, x1004, x1005, x1006, x1007, x1008))))
end
def aimd_Aimd_lift.f (k : Nat) (s0_0 : Int) (s0_1 : Int) (s0_2 : Int) (s0_3 : Int) (s0_4 : Bool) (s0_5 : Int) (s0_6 : Int) (s0_7 : Bool) (s0_8 : Int) (a1_0 : Int) (a1_1 : Int) (a1_2 : Int) : Option (Int × Int × Int × Int × Bool × Int × Int × Bool × Int) := if s0_4 = true then (aimd_Aimd_lift.j0 k (decide (a1_0 > (wrap64 (s0_5 + (wrap64 (3 * s0_6)))))) s0_0 s0_1 s0_2 s0_3 s0_4 s0_5 s0_6 s0_7 s0_8 a1_0 a1_1 a1_2) else (aimd_Aimd_lift.j0 k false s0_0 s0_1 s0_2 s0_3 s0_4 s0_5 s0_6 s0_7 s0_8 a1_0 a1_1 a1_2)
theorem aimd_Aimd_lift.mono_l : ∀ k, (∀ y0 y1 y2 y3 y4 y5 y6 y7 y8 y9 y10 y11 y12, LeO (aimd_Aimd_lift.j0 k y0 y1 y2 y3 y4 y5 y6 y7 y8 y9 y10 y11 y12) (aimd_Aimd_lift.j0 (k + 1) y0 y1 y2 y3 y4 y5 y6 y7 y8 y9 y10 y11 y12)) ∧ (∀ y0 y1 y2 y3 y4 y5 y6 y7 y8 y9 y10 y11, LeO (aimd_Aimd_lift.j1 k y0 y1 y2 y3 y4 y5 y6 y7 y8 y9 y10 y11) (aimd_Aimd_lift.j1 (k + 1) y0 y1 y2 y3 y4 y5 y6 y7 y8 y9 y10 y11))
 | 0 => ⟨fun _ _ _ _ _ _ _ _ _ _ _ _ _ r h => by simp [aimd_Aimd_lift.j0] at h, fun _ _ _ _ _ _ _ _ _ _ _ _ r h => by simp [aimd_Aimd_lift.j1] at h⟩
 | k + 1 => by
  obtain ⟨ih0, ih1⟩ := aimd_Aimd_lift.mono_l k
  refine ⟨?_, ?_⟩
  ·intro y0 y1 y2 y3 y4 y5 y6 y7 y8 y9 y10 y11 y12
   unfold aimd_Aimd_lift.j0
   repeat' first
   | (with_reducible exact ih0 _ _ _ _ _ _ _ _ _ _ _ _ _)
   | (with_reducible exact ih1 _ _ _ _ _ _ _ _ _ _ _ _)
   | (with_reducible exact LeO.refl _)
   | (with_reducible exact LeO.none _)
   | (with_reducible refine LeO.ite ?_ ?_)
   | (with_reducible refine LeO.bind ?_ (fun _ => ?_))
   | exact ih0 _ _ _ _ _ _ _ _ _ _ _ _ _
   | exact ih1 _ _ _ _ _ _ _ _ _ _ _ _
   | exact LeO.none _
   | refine LeO.ite ?_ ?_
   | refine LeO.bind ?_ (fun _ => ?_)
  ·intro y0 y1 y2 y3 y4 y5 y6 y7 y8 y9 y10 y11
   unfold aimd_Aimd_lift.j1
   repeat' first
   | (with_reducible exact ih0 _ _ _ _ _ _ _ _ _ _ _ _ _)
   | (with_reducible exact ih1 _ _ _ _ _ _ _ _ _ _ _ _)
   | (with_reducible exact LeO.refl _)
   | (with_reducible exact LeO.none _)
   | (with_reducible refine LeO.ite ?_ ?_)
   | (with_reducible refine LeO.bind ?_ (fun _ => ?_))
   | exact ih0 _ _ _ _ _ _ _ _ _ _ _ _ _
   | exact ih1 _ _ _ _ _ _ _ _ _ _ _ _
   | exact LeO.none _
   | refine LeO.ite ?_ ?_
   | refine LeO.bind ?_ (fun _ => ?_)
theorem aimd_Aimd_lift.mono : ∀ a0 a1 a2 a3 a4 a5 a6 a7 a8 a9 a10 a11 k, LeO (aimd_Aimd_lift.f k a0 a1 a2 a3 a4 a5 a6 a7 a8 a9 a10 a11) (aimd_Aimd_lift.f (k + 1) a0 a1 a2 a3 a4 a5 a6 a7 a8 a9 a10 a11) := by
 intro a0 a1 a2 a3 a4 a5 a6 a7 a8 a9 a10 a11 k
 obtain ⟨ih0, ih1⟩ := aimd_Aimd_lift.mono_l k
 unfold aimd_Aimd_lift.f
 repeat' first
   | (with_reducible exact ih0 _ _ _ _ _ _ _ _ _ _ _ _ _)
   | (with_reducible exact ih1 _ _ _ _ _ _ _ _ _ _ _ _)
   | (with_reducible exact LeO.refl _)
   | (with_reducible exact LeO.none _)
   | (with_reducible refine LeO.ite ?_ ?_)
   | (with_reducible refine LeO.bind ?_ (fun _ => ?_))
   | exact ih0 _ _ _ _ _ _ _ _ _ _ _ _ _
   | exact ih1 _ _ _ _ _ _ _ _ _ _ _ _
   | exact LeO.none _
   | refine LeO.ite ?_ ?_
   | refine LeO.bind ?_ (fun _ => ?_)
def aimd_Aimd_lift.T1 : Bool × List (List Nat × List Nat) := (true, [([], []), ([0], [0]), ([1], [1]), ([2], [2]), ([3], [3]), ([4], [4]), ([5, 4], [4, 5]), ([4], [4]), ([7, 4], [4, 7]), ([8, 4], [4, 8]), ([9, 4], [4, 9]), ([4], [4]), ([11, 4], [4, 11]), ([12, 4], [4, 12]), ([13, 4], [4, 13]), ([14, 4], [4, 14]), ([10, 15, 4], [4, 10, 15]), ([6, 16, 4], [4, 6, 16]), ([4, 17], [4, 17])])
def aimd_Aimd_lift.B1 : List Nat := [0, 1, 3, 7, 15, 31, 63, 31, 159, 415, 927, 31, 2079, 6175, 14367, 30751, 65439, 131071, 262143]
theorem aimd_Aimd_lift.tab1 : rtab .any (opsOf Tryd.f42 1) = aimd_Aimd_lift.T1 := by kernel_rfl
theorem aimd_Aimd_lift.bits1 : waitsOk aimd_Aimd_lift.T1.2 aimd_Aimd_lift.B1 = true := by kernel_rfl
def aimd_Aimd_lift.T3 : Bool × List (List Nat × List Nat) := (true, [([], []), ([0], [0]), ([1], [1]), ([2], [2]), ([], []), ([4], [4]), ([5], [5]), ([3, 6], [3, 6]), ([7, 7, 0, 1, 2, 3, 4, 5, 6, 7], [7])])
def aimd_Aimd_lift.B3 : List Nat := [0, 1, 3, 7, 0, 16, 48, 127, 255]
theorem aimd_Aimd_lift.tab3 : rtab .any (opsOf Tryd.f42 3) = aimd_Aimd_lift.T3 := by kernel_rfl
theorem aimd_Aimd_lift.bits3 : waitsOk aimd_Aimd_lift.T3.2 aimd_Aimd_lift.B3 = true := by kernel_rfl
set_option maxHeartbeats 8000000 in
set_option maxRecDepth 100000 in
theorem aimd_Aimd_lift.calls (k : Nat) (g : Nat) (s0_0 : Int) (s0_1 : Int) (s0_2 : Int) (s0_3 : Int) (s0_4 : Bool) (s0_5 : Int) (s0_6 : Int) (s0_7 : Bool) (s0_8 : Int) (a1_0 : Int) (a1_1 : Int) (a1_2 : Int) (r1 : Int) (r2 : Int) (r3 : Int) (r4 : Int) (r5 : Bool) (r6 : Int) (r7 : Int) (r8 : Bool) (r9 : Int) (w0 w : World) (hI : IsS76 w0 w g s0_0 s0_1 s0_2 s0_3 s0_4 s0_5 s0_6 s0_7 s0_8) (hB : Below w0.heap.size w0 w) (h : aimd_Aimd_lift.f k s0_0 s0_1 s0_2 s0_3 s0_4 s0_5 s0_6 s0_7 s0_8 a1_0 a1_1 a1_2 = some (r1, r2, r3, r4, r5, r6, r7, r8, r9)) :
  Calls Tryd.prog 42 #[.pointer (some ⟨g, 0, none⟩), .agg #[.int .i64 a1_0, .int .i64 a1_1, .int .i64 a1_2]] w fun e w' => e = .returned (.tuple #[]) ∧ IsS76 w0 w' g r1 r2 r3 r4 r5 r6 r7 r8 r9 ∧ Below w0.heap.size w0 w' ∧ KeepBut w w' g none := by
 have hu101 := Tryd.underlying101
 have HI0 := aW hI
 have HK := aW (KeepBut.refl w g none)
 have HL := aW hB.size
 clear hI
 have HW0 := aW hB.size
 have HB := aW hB
 clear hB
 have H : (if s0_4 = true then (aimd_Aimd_lift.j0 k (decide (a1_0 > (wrap64 (s0_5 + (wrap64 (3 * s0_6)))))) s0_0 s0_1 s0_2 s0_3 s0_4 s0_5 s0_6 s0_7 s0_8 a1_0 a1_1 a1_2) else (aimd_Aimd_lift.j0 k false s0_0 s0_1 s0_2 s0_3 s0_4 s0_5 s0_6 s0_7 s0_8 a1_0 a1_1 a1_2)) = some (r1, r2, r3, r4, r5, r6, r7, r8, r9) := h
 clear h
 have HC3 := aW H
 clear H
 go_enter Tryd.func42, Tryd.ntmps42
 go_upto_region 1 with (first | ((with_reducible refine gate_dst (N := 3) rfl ?_); refine box_event ?hg (N := 3) ?hd (cs := #[.int .i64 a1_0, .int .i64 a1_1, .int .i64 a1_2]) (t := 101) ?hr ?_; (case hd => rfl); (case hg => rfl); (case hr => first | (go_simp; done) | (go_simp; rfl)); intro gb292 hg w4 hbox hb; have NB292_0 := aW ((by rw [hg]; exact Nat.ne_of_gt (IsS76.lt (show IsS76 w0 _ g s0_0 s0_1 s0_2 s0_3 s0_4 s0_5 s0_6 s0_7 s0_8 from o13)) : gb292 ≠ g)); have NB0_292 := aW ((by rw [hg]; exact Nat.ne_of_lt (IsS76.lt (show IsS76 w0 _ g s0_0 s0_1 s0_2 s0_3 s0_4 s0_5 s0_6 s0_7 s0_8 from o13)) : g ≠ gb292)); have GE292 := aW ((Nat.le_trans HW0.out (by rw [hg]; exact (keep_size (w := w) (g := g) (row := none) o69) : w.heap.size ≤ gb292) : w0.heap.size ≤ gb292)); have GW292 := aW ((by rw [hg]; exact (keep_size (w := w) (g := g) (row := none) o69) : w.heap.size ≤ gb292)); have BK292 := aW (hbox); replace HB := aW (below_step o50 hb); replace HK := aW (KeepBut.trans o69 (KeepBut.of_below hb g none) (.inl rfl)); replace HI0 := aW (IsS76.below o14 hb); clear hb hbox hg))
 (try simp only [Act.put, List.setIfInBounds_toArray, List.set_cons_zero, List.set_cons_succ])
 go_cut [25] (fun v25 wc => ∃ (kq : Nat) (x25_2 : Bool), v25 = .bool x25_2 ∧ Aside0 (aimd_Aimd_lift.j0 kq x25_2 s0_0 s0_1 s0_2 s0_3 s0_4 s0_5 s0_6 s0_7 s0_8 a1_0 a1_1 a1_2 = some (r1, r2, r3, r4, r5, r6, r7, r8, r9)) ∧ Aside0 (kq ≤ k) ∧ Aside0 (wc.heap[gb292]? = some (.cells #[.int .i64 a1_0, .int .i64 a1_1, .int .i64 a1_2] 101 (0, 0))) ∧ Aside0 (IsS76 w0 wc g s0_0 s0_1 s0_2 s0_3 s0_4 s0_5 s0_6 s0_7 s0_8) ∧ Aside0 (KeepBut w wc g none) ∧ Aside0 (Below w0.heap.size w0 wc))
 case first =>
  have H := HC3.out
  clear HC3
  by_cases c5 : s0_4 = true
  ·subst c5
   have H1 : (aimd_Aimd_lift.j0 k (decide (a1_0 > (wrap64 (s0_5 + (wrap64 (3 * s0_6)))))) s0_0 s0_1 s0_2 s0_3 true s0_5 s0_6 s0_7 s0_8 a1_0 a1_1 a1_2) = some (r1, r2, r3, r4, r5, r6, r7, r8, r9) := by rw [if_pos rfl] at H; exact H
   clear H
   have H := H1
   clear H1
   have H' := aW H
   clear H
   try go_wp2
   replace HB := aW (below_drew1 HB.out)
   replace HK := aW (keep_drew HK.out)
   replace HI0 := aW (IsS76.drew HI0.out)
   replace BK292 := aW (blk_drew BK292.out)
   refine start_ (n := 19) (S := fun w' => w'.cell? ⟨g, 0, none⟩ = some (.int .i64 s0_0) ∧ w'.cell? ⟨g, 1, none⟩ = some (.int .i64 s0_1) ∧ w'.cell? ⟨g, 2, none⟩ = some (.int .i64 s0_2) ∧ w'.cell? ⟨g, 3, none⟩ = some (.int .i64 s0_3) ∧ w'.cell? ⟨g, 4, none⟩ = some (.bool true) ∧ w'.cell? ⟨g, 5, none⟩ = some (.int .i64 s0_5) ∧ w'.cell? ⟨g, 6, none⟩ = some (.int .i64 s0_6) ∧ w'.cell? ⟨g, 7, none⟩ = some (.bool s0_7) ∧ w'.cell? ⟨g, 8, none⟩ = some (.int .i64 s0_8) ∧ w'.cell? ⟨gb292, 0, none⟩ = some (.int .i64 a1_0) ∧ w'.cell? ⟨gb292, 1, none⟩ = some (.int .i64 a1_1) ∧ w'.cell? ⟨gb292, 2, none⟩ = some (.int .i64 a1_2)) (ds := []) (bl 19 0) (by kernel_rfl) rfl rfl ⟨(IsS76.cell_0 HI0.out), (IsS76.cell_1 HI0.out), (IsS76.cell_2 HI0.out), (IsS76.cell_3 HI0.out), (IsS76.cell_4 HI0.out), (IsS76.cell_5 HI0.out), (IsS76.cell_6 HI0.out), (IsS76.cell_7 HI0.out), (IsS76.cell_8 HI0.out), (blk_cell BK292.out 0).trans rfl, (blk_cell BK292.out 1).trans rfl, (blk_cell BK292.out 2).trans rfl⟩ (fun hHeld => ?_); refine with_tabW aimd_Aimd_lift.tab1 aimd_Aimd_lift.bits1 (fun HT_ HW_ => ?_)
   generalize w4.drew = w6 at BK292 HI0 HK HB hHeld ⊢
   refine pq_ 0 7 (bl 19 1) HT_ ?_
   refine pq_ 1 8 (bl 19 3) HT_ ?_
   refine pq_ 2 9 (bl 19 7) HT_ ?_
   refine tq_ 3 10 (bl 19 15) HT_ HW_ hHeld ?_ (hr := by rintro w' ⟨s0, s1, s2, s3, s4, s5, s6, s7, s8, s9, s10, s11⟩; go_simp; with_reducible rfl)
   refine pq_ 4 11 (bl 19 31) HT_ ?_
   refine pq_ 5 12 (bl 19 63) HT_ ?_
   refine pq_ 7 14 (bl 19 191) HT_ ?_
   refine pq_ 8 15 (bl 19 447) HT_ ?_
   refine pq_ 9 16 (bl 19 959) HT_ ?_
   refine pq_ 11 18 (bl 19 3007) HT_ ?_
   refine pq_ 12 19 (bl 19 7103) HT_ ?_
   refine pq_ 13 20 (bl 19 15295) HT_ ?_
   refine tq_ 6 13 (bl 19 15359) HT_ HW_ hHeld ?_ (hr := by rintro w' ⟨s0, s1, s2, s3, s4, s5, s6, s7, s8, s9, s10, s11⟩; go_simp; with_reducible rfl)
   refine tq_ 10 17 (bl 19 16383) HT_ HW_ hHeld ?_ (hr := by rintro w' ⟨s0, s1, s2, s3, s4, s5, s6, s7, s8, s9, s10, s11⟩; go_simp; with_reducible rfl)
   refine tq_ 14 21 (bl 19 32767) HT_ HW_ hHeld ?_ (hr := by rintro w' ⟨s0, s1, s2, s3, s4, s5, s6, s7, s8, s9, s10, s11⟩; go_simp; with_reducible rfl)
   refine pq_ 15 22 (bl 19 65535) HT_ ?_
   refine pq_ 16 23 (bl 19 131071) HT_ ?_
   refine pq_ 17 24 (bl 19 262143) HT_ ?_
   refine pq_ 18 25 (bl 19 524287) HT_ ?_
   refine done_ (done_of HT_.out (by kernel_rfl)) ?_
   try go_wp2
   go_meet
   case rel => exact ⟨_, (decide (a1_0 > (wrap64 (s0_5 + (wrap64 (3 * s0_6)))))), o105, H', ⟨o107⟩, ⟨by (with_reducible repeat (first | refine blk_drewN ?_ _ | refine blk_drew ?_ | refine blk_alloc ?_ _)); exact BK292.out⟩, ⟨o9⟩, ⟨o45⟩, ⟨o31⟩⟩
  ·replace c5 := Bool.eq_false_iff.mpr c5
   subst c5
   have H1 : (aimd_Aimd_lift.j0 k false s0_0 s0_1 s0_2 s0_3 false s0_5 s0_6 s0_7 s0_8 a1_0 a1_1 a1_2) = some (r1, r2, r3, r4, r5, r6, r7, r8, r9) := by rw [if_neg (show ¬ (false = true) by decide)] at H; exact H
   clear H
   have H := H1
   clear H1
   have H' := aW H
   clear H
   try go_wp2
   replace HB := aW (below_drew1 HB.out)
   replace HK := aW (keep_drew HK.out)
   replace HI0 := aW (IsS76.drew HI0.out)
   replace BK292 := aW (blk_drew BK292.out)
   refine start_ (n := 19) (S := fun w' => w'.cell? ⟨g, 0, none⟩ = some (.int .i64 s0_0) ∧ w'.cell? ⟨g, 1, none⟩ = some (.int .i64 s0_1) ∧ w'.cell? ⟨g, 2, none⟩ = some (.int .i64 s0_2) ∧ w'.cell? ⟨g, 3, none⟩ = some (.int .i64 s0_3) ∧ w'.cell? ⟨g, 4, none⟩ = some (.bool false) ∧ w'.cell? ⟨g, 5, none⟩ = some (.int .i64 s0_5) ∧ w'.cell? ⟨g, 6, none⟩ = some (.int .i64 s0_6) ∧ w'.cell? ⟨g, 7, none⟩ = some (.bool s0_7) ∧ w'.cell? ⟨g, 8, none⟩ = some (.int .i64 s0_8)) (ds := []) (bl 19 0) (by kernel_rfl) rfl rfl ⟨(IsS76.cell_0 HI0.out), (IsS76.cell_1 HI0.out), (IsS76.cell_2 HI0.out), (IsS76.cell_3 HI0.out), (IsS76.cell_4 HI0.out), (IsS76.cell_5 HI0.out), (IsS76.cell_6 HI0.out), (IsS76.cell_7 HI0.out), (IsS76.cell_8 HI0.out)⟩ (fun hHeld => ?_); refine with_tabW aimd_Aimd_lift.tab1 aimd_Aimd_lift.bits1 (fun HT_ HW_ => ?_)
   generalize w4.drew = w7 at BK292 HI0 HK HB hHeld ⊢
   refine pq_ 0 7 (bl 19 1) HT_ ?_
   refine pq_ 1 8 (bl 19 3) HT_ ?_
   refine pq_ 2 9 (bl 19 7) HT_ ?_
   refine tq_ 3 10 (bl 19 15) HT_ HW_ hHeld ?_ (hr := by rintro w' ⟨s0, s1, s2, s3, s4, s5, s6, s7, s8⟩; go_simp; with_reducible rfl)
   refine pq_ 4 11 (bl 19 31) HT_ ?_
   refine pure_ (i := 5) (N := some 12) (v := undef) (a' := ?_) (bl 19 63) rfl rfl (any_of HT_.out (by kernel_rfl)) (fun _ _ _ h => h) (Or.inr ⟨by rfl, rfl⟩) ?_ ?_
   rotate_left
   ·simp only [puts_]
    rfl
   refine pure_ (i := 6) (N := some 13) (v := undef) (a' := ?_) (bl 19 127) rfl rfl (any_of HT_.out (by kernel_rfl)) (fun _ _ _ h => h) (Or.inr ⟨by rfl, rfl⟩) ?_ ?_
   rotate_left
   ·simp only [puts_]
    rfl
   refine pure_ (i := 7) (N := some 14) (v := undef) (a' := ?_) (bl 19 255) rfl rfl (any_of HT_.out (by kernel_rfl)) (fun _ _ _ h => h) (Or.inr ⟨by rfl, rfl⟩) ?_ ?_
   rotate_left
   ·simp only [puts_]
    rfl
   refine pure_ (i := 8) (N := some 15) (v := undef) (a' := ?_) (bl 19 511) rfl rfl (any_of HT_.out (by kernel_rfl)) (fun _ _ _ h => h) (Or.inr ⟨by rfl, rfl⟩) ?_ ?_
   rotate_left
   ·simp only [puts_]
    rfl
   refine pure_ (i := 9) (N := some 16) (v := undef) (a' := ?_) (bl 19 1023) rfl rfl (any_of HT_.out (by kernel_rfl)) (fun _ _ _ h => h) (Or.inr ⟨by rfl, rfl⟩) ?_ ?_
   rotate_left
   ·simp only [puts_]
    rfl
   refine pure_ (i := 10) (N := some 17) (v := undef) (a' := ?_) (bl 19 2047) rfl rfl (any_of HT_.out (by kernel_rfl)) (fun _ _ _ h => h) (Or.inr ⟨by rfl, rfl⟩) ?_ ?_
   rotate_left
   ·simp only [puts_]
    rfl
   refine pure_ (i := 11) (N := some 18) (v := undef) (a' := ?_) (bl 19 4095) rfl rfl (any_of HT_.out (by kernel_rfl)) (fun _ _ _ h => h) (Or.inr ⟨by rfl, rfl⟩) ?_ ?_
   rotate_left
   ·simp only [puts_]
    rfl
   refine pure_ (i := 12) (N := some 19) (v := undef) (a' := ?_) (bl 19 8191) rfl rfl (any_of HT_.out (by kernel_rfl)) (fun _ _ _ h => h) (Or.inr ⟨by rfl, rfl⟩) ?_ ?_
   rotate_left
   ·simp only [puts_]
    rfl
   refine pure_ (i := 13) (N := some 20) (v := undef) (a' := ?_) (bl 19 16383) rfl rfl (any_of HT_.out (by kernel_rfl)) (fun _ _ _ h => h) (Or.inr ⟨by rfl, rfl⟩) ?_ ?_
   rotate_left
   ·simp only [puts_]
    rfl
   refine pure_ (i := 14) (N := some 21) (v := undef) (a' := ?_) (bl 19 32767) rfl rfl (any_of HT_.out (by kernel_rfl)) (fun _ _ _ h => h) (Or.inr ⟨by rfl, rfl⟩) ?_ ?_
   rotate_left
   ·simp only [puts_]
    rfl
   refine pure_ (i := 15) (N := some 22) (v := undef) (a' := ?_) (bl 19 65535) rfl rfl (any_of HT_.out (by kernel_rfl)) (fun _ _ _ h => h) (Or.inr ⟨by rfl, rfl⟩) ?_ ?_
   rotate_left
   ·simp only [puts_]
    rfl
   refine pure_ (i := 16) (N := some 23) (v := undef) (a' := ?_) (bl 19 131071) rfl rfl (any_of HT_.out (by kernel_rfl)) (fun _ _ _ h => h) (Or.inr ⟨by rfl, rfl⟩) ?_ ?_
   rotate_left
   ·simp only [puts_]
    rfl
   refine pure_ (i := 17) (N := some 24) (v := undef) (a' := ?_) (bl 19 262143) rfl rfl (any_of HT_.out (by kernel_rfl)) (fun _ _ _ h => h) (Or.inr ⟨by rfl, rfl⟩) ?_ ?_
   rotate_left
   ·simp only [puts_]
    rfl
   refine pq_ 18 25 (bl 19 524287) HT_ ?_
   refine done_ (done_of HT_.out (by kernel_rfl)) ?_
   try go_wp2
   go_meet
   case rel => exact ⟨_, (false), o105, H', ⟨o107⟩, ⟨by (with_reducible repeat (first | refine blk_drewN ?_ _ | refine blk_drew ?_ | refine blk_alloc ?_ _)); exact BK292.out⟩, ⟨o9⟩, ⟨o45⟩, ⟨o31⟩⟩
 case rest =>
  clear HC3
  try clear p2
  try clear c4
  try clear c5
  try clear p6
  obtain ⟨kq, x25_2, rfl, HA, HJ2, BK292, HI0, HK, HB⟩ := hcut
  cases kq with
  | zero => exact absurd HA.out (by simp [aimd_Aimd_lift.j0])
  | succ kj2 =>
   have H := HA.out
   clear HA
   simp only [aimd_Aimd_lift.j0] at H
   have HC8 := aW H
   clear H
   go_upto_if 25 with (fail)
   go_cut [] (fun wc => ∃ (kq : Nat) (x1004_7 : Bool), Aside0 (aimd_Aimd_lift.j1 kq s0_0 s0_1 s0_2 s0_3 x1004_7 s0_5 s0_6 s0_7 s0_8 a1_0 a1_1 a1_2 = some (r1, r2, r3, r4, r5, r6, r7, r8, r9)) ∧ Aside0 (kq ≤ kj2) ∧ Aside0 (wc.heap[gb292]? = some (.cells #[.int .i64 a1_0, .int .i64 a1_1, .int .i64 a1_2] 101 (0, 0))) ∧ Aside0 (IsS76 w0 wc g s0_0 s0_1 s0_2 s0_3 x1004_7 s0_5 s0_6 s0_7 s0_8) ∧ Aside0 (KeepBut w wc g none) ∧ Aside0 (Below w0.heap.size w0 wc))
   case first =>
    have H := HC8.out
    clear HC8
    by_cases c9 : x25_2 = true
    ·subst c9
     have H1 : (aimd_Aimd_lift.j1 kj2 s0_0 s0_1 s0_2 s0_3 false s0_5 s0_6 s0_7 s0_8 a1_0 a1_1 a1_2) = some (r1, r2, r3, r4, r5, r6, r7, r8, r9) := by rw [if_pos rfl] at H; exact H
     clear H
     have H := H1
     clear H1
     have H' := aW H
     clear H
     obtain ⟨HGz10, hgz10⟩ := HI0.out
     obtain ⟨hcz10_0, hfz10_0, hcz10_1, hfz10_1, hcz10_2, hfz10_2, hcz10_3, hfz10_3, hcz10_4, hfz10_4, hcz10_5, hfz10_5, hcz10_6, hfz10_6, hcz10_7, hfz10_7, hcz10_8, hfz10_8⟩ := bp9 HGz10
     clear HGz10 hgz10
     go_wp2
     go_meet
     case rel => exact ⟨_, (false), H', ⟨by have := HJ2.out; first | omega | exact Nat.le_refl _⟩, ⟨by (with_reducible repeat (first | refine blk_drewN ?_ _ | refine blk_drew ?_ | refine blk_alloc ?_ _)); refine blk_far ?_ NB292_0.out _; (with_reducible repeat (first | refine blk_drewN ?_ _ | refine blk_drew ?_ | refine blk_alloc ?_ _)); exact BK292.out⟩, ⟨o9⟩, ⟨o45⟩, ⟨o31⟩⟩
    ·replace c9 := Bool.eq_false_iff.mpr c9
     subst c9
     have H1 : (aimd_Aimd_lift.j1 kj2 s0_0 s0_1 s0_2 s0_3 s0_4 s0_5 s0_6 s0_7 s0_8 a1_0 a1_1 a1_2) = some (r1, r2, r3, r4, r5, r6, r7, r8, r9) := by rw [if_neg (show ¬ (false = true) by decide)] at H; exact H
     clear H
     have H := H1
     clear H1
     have H' := aW H
     clear H
     go_wp2
     go_meet
     case rel => exact ⟨_, (s0_4), H', ⟨by have := HJ2.out; first | omega | exact Nat.le_refl _⟩, ⟨by (with_reducible repeat (first | refine blk_drewN ?_ _ | refine blk_drew ?_ | refine blk_alloc ?_ _)); exact BK292.out⟩, ⟨o9⟩, ⟨o45⟩, ⟨o31⟩⟩
   case rest =>
    clear HC8
    try clear p2
    try clear c4
    try clear c5
    try clear p6
    try clear c9
    try clear hcz10_0
    try clear hcz10_1
    try clear hcz10_2
    try clear hcz10_3
    try clear hcz10_4
    try clear hcz10_5
    try clear hcz10_6
    try clear hcz10_7
    try clear hcz10_8
    try clear hfz10_0
    try clear hfz10_1
    try clear hfz10_2
    try clear hfz10_3
    try clear hfz10_4
    try clear hfz10_5
    try clear hfz10_6
    try clear hfz10_7
    try clear hfz10_8
    try clear p2
    try clear p6
    obtain ⟨kq, x1004_7, HA, HJ7, BK292, HI0, HK, HB⟩ := hcut
    cases kq with
    | zero => exact absurd HA.out (by simp [aimd_Aimd_lift.j1])
    | succ kj7 =>
     have H := HA.out
     clear HA
     simp only [aimd_Aimd_lift.j1] at H
     obtain ⟨t293, A11, H⟩ := bw H
     replace H : (if x1004_7 = true then ((muldiv_Do.f 9600 a1_2 (wrap64 (a1_1 + 100000)) 3).bind fun t294 => (if a1_0 > 0 then (if (wrap64 ((wrap64 (Int.tdiv (wrap64 (3 * a1_0)) 2)) + 10000)) < (wrap64 (s0_0 + (mx t294 1000))) then (some (mx (wrap64 ((wrap64 (Int.tdiv (wrap64 (3 * a1_0)) 2)) + 10000)) s0_0, s0_1, s0_2, s0_3, x1004_7, s0_5, s0_6, s0_7, s0_8)) else (some (wrap64 (s0_0 + (mx t294 1000)), s0_1, s0_2, s0_3, x1004_7, s0_5, s0_6, s0_7, s0_8))) else (some (wrap64 (s0_0 + (mx t294 1000)), s0_1, s0_2, s0_3, x1004_7, s0_5, s0_6, s0_7, s0_8)))) else (if a1_0 > 0 then (if (wrap64 ((wrap64 (Int.tdiv (wrap64 (3 * a1_0)) 2)) + 10000)) < (wrap64 (s0_0 + (mx t293 1000))) then (some (mx (wrap64 ((wrap64 (Int.tdiv (wrap64 (3 * a1_0)) 2)) + 10000)) s0_0, s0_1, s0_2, s0_3, x1004_7, s0_5, s0_6, s0_7, s0_8)) else (some (wrap64 (s0_0 + (mx t293 1000)), s0_1, s0_2, s0_3, x1004_7, s0_5, s0_6, s0_7, s0_8))) else (some (wrap64 (s0_0 + (mx t293 1000)), s0_1, s0_2, s0_3, x1004_7, s0_5, s0_6, s0_7, s0_8)))) = some (r1, r2, r3, r4, r5, r6, r7, r8, r9) := H
     by_cases c12 : x1004_7 = true
     ·subst c12
      have H1 : ((muldiv_Do.f 9600 a1_2 (wrap64 (a1_1 + 100000)) 3).bind fun t294 => (if a1_0 > 0 then (if (wrap64 ((wrap64 (Int.tdiv (wrap64 (3 * a1_0)) 2)) + 10000)) < (wrap64 (s0_0 + (mx t294 1000))) then (some (mx (wrap64 ((wrap64 (Int.tdiv (wrap64 (3 * a1_0)) 2)) + 10000)) s0_0, s0_1, s0_2, s0_3, true, s0_5, s0_6, s0_7, s0_8)) else (some (wrap64 (s0_0 + (mx t294 1000)), s0_1, s0_2, s0_3, true, s0_5, s0_6, s0_7, s0_8))) else (some (wrap64 (s0_0 + (mx t294 1000)), s0_1, s0_2, s0_3, true, s0_5, s0_6, s0_7, s0_8)))) = some (r1, r2, r3, r4, r5, r6, r7, r8, r9) := by rw [if_pos rfl] at H; exact H
      clear H
      have H := H1
      clear H1
      obtain ⟨t294, A13, H⟩ := bw H
      replace H : (if a1_0 > 0 then (if (wrap64 ((wrap64 (Int.tdiv (wrap64 (3 * a1_0)) 2)) + 10000)) < (wrap64 (s0_0 + (mx t294 1000))) then (some (mx (wrap64 ((wrap64 (Int.tdiv (wrap64 (3 * a1_0)) 2)) + 10000)) s0_0, s0_1, s0_2, s0_3, true, s0_5, s0_6, s0_7, s0_8)) else (some (wrap64 (s0_0 + (mx t294 1000)), s0_1, s0_2, s0_3, true, s0_5, s0_6, s0_7, s0_8))) else (some (wrap64 (s0_0 + (mx t294 1000)), s0_1, s0_2, s0_3, true, s0_5, s0_6, s0_7, s0_8))) = some (r1, r2, r3, r4, r5, r6, r7, r8, r9) := H
      obtain ⟨ji14, hji14⟩ : ∃ j_ : Int, (mx t294 1000) = j_ := ⟨_, rfl⟩
      replace H : (if a1_0 > 0 then (if (wrap64 ((wrap64 (Int.tdiv (wrap64 (3 * a1_0)) 2)) + 10000)) < (wrap64 (s0_0 + (ji14))) then (some (mx (wrap64 ((wrap64 (Int.tdiv (wrap64 (3 * a1_0)) 2)) + 10000)) s0_0, s0_1, s0_2, s0_3, true, s0_5, s0_6, s0_7, s0_8)) else (some (wrap64 (s0_0 + (ji14)), s0_1, s0_2, s0_3, true, s0_5, s0_6, s0_7, s0_8))) else (some (wrap64 (s0_0 + (ji14)), s0_1, s0_2, s0_3, true, s0_5, s0_6, s0_7, s0_8))) = some (r1, r2, r3, r4, r5, r6, r7, r8, r9) := by first | (rw [hji14] at H; exact H) | (simp only [hji14] at H ⊢; exact H)
      (try rw [hji14] at A11)
      (try rw [hji14] at A13)
      (try (have hji14l : 1000 ≤ ji14 := by (rw [← hji14]; unfold mx; (repeat' split) <;> omega)))
      (try (have hji14m : 0 ≤ ji14 := by omega))
      have hji14_ : (if t294 < 1000 then 1000 else t294) = ji14 := hji14
      by_cases c15 : a1_0 > 0
      ·rw [if_pos c15] at H
       have c15b0 : decide (0 < a1_0) = true := decide_eq_true c15
       clear c15
       by_cases c16 : (wrap64 ((wrap64 (Int.tdiv (wrap64 (3 * a1_0)) 2)) + 10000)) < (wrap64 (s0_0 + (ji14)))
       ·rw [if_pos c16] at H
        have c16b0 : decide ((wrap64 ((wrap64 (Int.tdiv (wrap64 (3 * a1_0)) 2)) + 10000)) < (wrap64 (s0_0 + (ji14)))) = true := decide_eq_true c16
        clear c16
        obtain ⟨ji17, hji17⟩ : ∃ j_ : Int, (mx (wrap64 ((wrap64 (Int.tdiv (wrap64 (3 * a1_0)) 2)) + 10000)) s0_0) = j_ := ⟨_, rfl⟩
        replace H : (some (ji17, s0_1, s0_2, s0_3, true, s0_5, s0_6, s0_7, s0_8)) = some (r1, r2, r3, r4, r5, r6, r7, r8, r9) := by first | (rw [hji17] at H; exact H) | (simp only [hji17] at H ⊢; exact H)
        (try rw [hji17] at A11)
        (try rw [hji17] at A13)
        have hji17_ : (if (wrap64 ((wrap64 (Int.tdiv (wrap64 (3 * a1_0)) 2)) + 10000)) < s0_0 then s0_0 else (wrap64 ((wrap64 (Int.tdiv (wrap64 (3 * a1_0)) 2)) + 10000))) = ji17 := hji17
        simp only [Option.some.injEq, Prod.mk.injEq] at H
        obtain ⟨rfl, rfl, rfl, rfl, rfl, rfl, rfl, rfl, rfl⟩ := H
        try go_wp2
        replace HB := aW (below_drew1 HB.out)
        replace HK := aW (keep_drew HK.out)
        replace HI0 := aW (IsS76.drew HI0.out)
        replace BK292 := aW (blk_drew BK292.out)
        refine start_ (n := 9) (S := fun w' => w'.cell? ⟨g, 0, none⟩ = some (.int .i64 s0_0) ∧ w'.cell? ⟨g, 1, none⟩ = some (.int .i64 s0_1) ∧ w'.cell? ⟨g, 2, none⟩ = some (.int .i64 s0_2) ∧ w'.cell? ⟨g, 3, none⟩ = some (.int .i64 s0_3) ∧ w'.cell? ⟨g, 4, none⟩ = some (.bool true) ∧ w'.cell? ⟨g, 5, none⟩ = some (.int .i64 s0_5) ∧ w'.cell? ⟨g, 6, none⟩ = some (.int .i64 s0_6) ∧ w'.cell? ⟨g, 7, none⟩ = some (.bool s0_7) ∧ w'.cell? ⟨g, 8, none⟩ = some (.int .i64 s0_8) ∧ w'.cell? ⟨gb292, 0, none⟩ = some (.int .i64 a1_0) ∧ w'.cell? ⟨gb292, 1, none⟩ = some (.int .i64 a1_1) ∧ w'.cell? ⟨gb292, 2, none⟩ = some (.int .i64 a1_2)) (ds := []) (bl 9 0) (by kernel_rfl) rfl rfl ⟨(IsS76.cell_0 HI0.out), (IsS76.cell_1 HI0.out), (IsS76.cell_2 HI0.out), (IsS76.cell_3 HI0.out), (IsS76.cell_4 HI0.out), (IsS76.cell_5 HI0.out), (IsS76.cell_6 HI0.out), (IsS76.cell_7 HI0.out), (IsS76.cell_8 HI0.out), (blk_cell BK292.out 0).trans rfl, (blk_cell BK292.out 1).trans rfl, (blk_cell BK292.out 2).trans rfl⟩ (fun hHeld => ?_); refine with_tabW aimd_Aimd_lift.tab3 aimd_Aimd_lift.bits3 (fun HT_ HW_ => ?_)
        generalize wc.drew = w18 at BK292 HI0 HK HB hHeld ⊢
        refine pq_ 0 29 (bl 9 1) HT_ ?_
        refine pq_ 1 30 (bl 9 3) HT_ ?_
        refine pq_ 2 31 (bl 9 7) HT_ ?_
        refine pq_ 4 33 (bl 9 23) HT_ ?_
        refine tq_ 3 32 (bl 9 31) HT_ HW_ hHeld ?_ (hr := by rintro w' ⟨s0, s1, s2, s3, s4, s5, s6, s7, s8, s9, s10, s11⟩; go_simp; with_reducible rfl)
        refine tq_ 5 34 (bl 9 63) HT_ HW_ hHeld ?_ (hr := by rintro w' ⟨s0, s1, s2, s3, s4, s5, s6, s7, s8, s9, s10, s11⟩; go_simp; with_reducible rfl)
        refine pq_ 6 35 (bl 9 127) HT_ ?_
        refine one_ (i := 7) (N := some 36) (bl 9 255) rfl rfl (one_of HT_.out (by kernel_rfl)) (by decide) (fun K hK => ?_)
        refine goes_ Tryd.func44 (by kernel_rfl) rfl #[.int .i64 s0_0, .int .i64 (wrap64 (8 * a1_2)), .int .i64 100000000, .int .i64 3] (by rfl) rfl rfl o72 ?_
        with_reducible refine (muldiv_Do.calls s0_0 (wrap64 (8 * a1_2)) 100000000 3 t293 _ A11.out).mono ?_
        rintro e w19 ⟨rfl, hb⟩
        refine ⟨_, rfl, ?_⟩
        replace HB := aW (below_step o28 hb)
        replace HK := aW (KeepBut.trans o42 (KeepBut.of_below hb g none) (.inl rfl))
        replace HI0 := aW (IsS76.below o6 hb)
        replace BK292 := aW (blk_below (g := gb292) (o := .cells #[.int .i64 a1_0, .int .i64 a1_1, .int .i64 a1_2] 101 (0, 0)) o81 hb)
        (try clear hb)
        (try clear hb2)
        (try clear hk)
        (try clear hi)
        refine hK.out _ _ ⟨(IsS76.cell_0 HI0.out), (IsS76.cell_1 HI0.out), (IsS76.cell_2 HI0.out), (IsS76.cell_3 HI0.out), (IsS76.cell_4 HI0.out), (IsS76.cell_5 HI0.out), (IsS76.cell_6 HI0.out), (IsS76.cell_7 HI0.out), (IsS76.cell_8 HI0.out), (blk_cell BK292.out 0).trans rfl, (blk_cell BK292.out 1).trans rfl, (blk_cell BK292.out 2).trans rfl⟩ (fun hHeld => ?_)
        clear hK K
        refine no_ 36 ?_
        refine pq_ 8 4 (bl 9 511) HT_ ?_
        refine done_ (done_of HT_.out (by kernel_rfl)) ?_
        obtain ⟨HGz20, hgz20⟩ := HI0.out
        obtain ⟨hcz20_0, hfz20_0, hcz20_1, hfz20_1, hcz20_2, hfz20_2, hcz20_3, hfz20_3, hcz20_4, hfz20_4, hcz20_5, hfz20_5, hcz20_6, hfz20_6, hcz20_7, hfz20_7, hcz20_8, hfz20_8⟩ := bp9 HGz20
        clear HGz20 hgz20
        have hnb21 := NB292_0.out
        have hnc21 := NB0_292.out
        obtain ⟨hcz22_0, hfz22_0, hcz22_1, hfz22_1, hcz22_2, hfz22_2⟩ := bp3 BK292.out
        try go_wp2_with (first | ((with_reducible refine gate_callee (f := 44) rfl ?_); refine gL_ 46 Tryd.func44 #[.int .i64 9600, .int .i64 a1_2, .int .i64 (wrap64 (a1_1 + 100000)), .int .i64 3] ?_; (with_reducible refine (muldiv_Do.calls 9600 a1_2 (wrap64 (a1_1 + 100000)) 3 t294 _ A13.out).mono ?_); rintro e w23 ⟨rfl, hb⟩; refine ⟨_, rfl, ?_⟩; replace HB := aW (below_step o28 hb); replace HK := aW (KeepBut.trans o42 (KeepBut.of_below hb g none) (.inl rfl)); replace HI0 := aW (IsS76.below o6 hb); replace BK292 := aW (blk_below (g := gb292) (o := .cells #[.int .i64 a1_0, .int .i64 a1_1, .int .i64 a1_2] 101 (0, 0)) o81 hb); (try clear hb); (try clear hb2); (try clear hk); (try clear hi); obtain ⟨HGz24, hgz24⟩ := HI0.out; have hcz24_0 := cellS76_0 HGz24; have hcz24_1 := cellS76_1 HGz24; have hcz24_2 := cellS76_2 HGz24; have hcz24_3 := cellS76_3 HGz24; have hcz24_4 := cellS76_4 HGz24; have hcz24_5 := cellS76_5 HGz24; have hcz24_6 := cellS76_6 HGz24; have hcz24_7 := cellS76_7 HGz24; have hcz24_8 := cellS76_8 HGz24; have hfz24_0 := blk_frozen HGz24 0; have hfz24_1 := blk_frozen HGz24 1; have hfz24_2 := blk_frozen HGz24 2; have hfz24_3 := blk_frozen HGz24 3; have hfz24_4 := blk_frozen HGz24 4; have hfz24_5 := blk_frozen HGz24 5; have hfz24_6 := blk_frozen HGz24 6; have hfz24_7 := blk_frozen HGz24 7; have hfz24_8 := blk_frozen HGz24 8; clear HGz24 hgz24; have hcz25_0 : w23.cell? ⟨gb292, 0, none⟩ = some (.int .i64 a1_0) := (blk_cell BK292.out 0).trans rfl; have hcz25_1 : w23.cell? ⟨gb292, 1, none⟩ = some (.int .i64 a1_1) := (blk_cell BK292.out 1).trans rfl; have hcz25_2 : w23.cell? ⟨gb292, 2, none⟩ = some (.int .i64 a1_2) := (blk_cell BK292.out 2).trans rfl; have hfz25_0 := blk_frozen BK292.out 0; have hfz25_1 := blk_frozen BK292.out 1; have hfz25_2 := blk_frozen BK292.out 2))
        first | go_end0 | ((try simp only [Exit.inBlock, Exit.then]); refine bodyPost_ret (results_none rfl _ _ _) rfl ?_)
        exact ⟨by first | rfl | (simp [errW_none, errW_some] <;> rfl) | (simp only [← hji14, ← hji17]; first | rfl | (simp [errW_none, errW_some] <;> rfl)) | (simp [*, errW_none, errW_some] <;> rfl), o9, o31, o45⟩
       ·rw [if_neg c16] at H
        have c16b0 : decide ((wrap64 ((wrap64 (Int.tdiv (wrap64 (3 * a1_0)) 2)) + 10000)) < (wrap64 (s0_0 + (ji14)))) = false := decide_eq_false c16
        clear c16
        simp only [Option.some.injEq, Prod.mk.injEq] at H
        obtain ⟨rfl, rfl, rfl, rfl, rfl, rfl, rfl, rfl, rfl⟩ := H
        try go_wp2
        replace HB := aW (below_drew1 HB.out)
        replace HK := aW (keep_drew HK.out)
        replace HI0 := aW (IsS76.drew HI0.out)
        replace BK292 := aW (blk_drew BK292.out)
        refine start_ (n := 9) (S := fun w' => w'.cell? ⟨g, 0, none⟩ = some (.int .i64 s0_0) ∧ w'.cell? ⟨g, 1, none⟩ = some (.int .i64 s0_1) ∧ w'.cell? ⟨g, 2, none⟩ = some (.int .i64 s0_2) ∧ w'.cell? ⟨g, 3, none⟩ = some (.int .i64 s0_3) ∧ w'.cell? ⟨g, 4, none⟩ = some (.bool true) ∧ w'.cell? ⟨g, 5, none⟩ = some (.int .i64 s0_5) ∧ w'.cell? ⟨g, 6, none⟩ = some (.int .i64 s0_6) ∧ w'.cell? ⟨g, 7, none⟩ = some (.bool s0_7) ∧ w'.cell? ⟨g, 8, none⟩ = some (.int .i64 s0_8) ∧ w'.cell? ⟨gb292, 0, none⟩ = some (.int .i64 a1_0) ∧ w'.cell? ⟨gb292, 1, none⟩ = some (.int .i64 a1_1) ∧ w'.cell? ⟨gb292, 2, none⟩ = some (.int .i64 a1_2)) (ds := []) (bl 9 0) (by kernel_rfl) rfl rfl ⟨(IsS76.cell_0 HI0.out), (IsS76.cell_1 HI0.out), (IsS76.cell_2 HI0.out), (IsS76.cell_3 HI0.out), (IsS76.cell_4 HI0.out), (IsS76.cell_5 HI0.out), (IsS76.cell_6 HI0.out), (IsS76.cell_7 HI0.out), (IsS76.cell_8 HI0.out), (blk_cell BK292.out 0).trans rfl, (blk_cell BK292.out 1).trans rfl, (blk_cell BK292.out 2).trans rfl⟩ (fun hHeld => ?_); refine with_tabW aimd_Aimd_lift.tab3 aimd_Aimd_lift.bits3 (fun HT_ HW_ => ?_)
        generalize wc.drew = w26 at BK292 HI0 HK HB hHeld ⊢
        refine pq_ 0 29 (bl 9 1) HT_ ?_
        refine pq_ 1 30 (bl 9 3) HT_ ?_
        refine pq_ 2 31 (bl 9 7) HT_ ?_
        refine pq_ 4 33 (bl 9 23) HT_ ?_
        refine tq_ 3 32 (bl 9 31) HT_ HW_ hHeld ?_ (hr := by rintro w' ⟨s0, s1, s2, s3, s4, s5, s6, s7, s8, s9, s10, s11⟩; go_simp; with_reducible rfl)
        refine tq_ 5 34 (bl 9 63) HT_ HW_ hHeld ?_ (hr := by rintro w' ⟨s0, s1, s2, s3, s4, s5, s6, s7, s8, s9, s10, s11⟩; go_simp; with_reducible rfl)
        refine pq_ 6 35 (bl 9 127) HT_ ?_
        refine one_ (i := 7) (N := some 36) (bl 9 255) rfl rfl (one_of HT_.out (by kernel_rfl)) (by decide) (fun K hK => ?_)
        refine goes_ Tryd.func44 (by kernel_rfl) rfl #[.int .i64 s0_0, .int .i64 (wrap64 (8 * a1_2)), .int .i64 100000000, .int .i64 3] (by rfl) rfl rfl o72 ?_
        with_reducible refine (muldiv_Do.calls s0_0 (wrap64 (8 * a1_2)) 100000000 3 t293 _ A11.out).mono ?_
        rintro e w27 ⟨rfl, hb⟩
        refine ⟨_, rfl, ?_⟩
        replace HB := aW (below_step o28 hb)
        replace HK := aW (KeepBut.trans o42 (KeepBut.of_below hb g none) (.inl rfl))
        replace HI0 := aW (IsS76.below o6 hb)
        replace BK292 := aW (blk_below (g := gb292) (o := .cells #[.int .i64 a1_0, .int .i64 a1_1, .int .i64 a1_2] 101 (0, 0)) o81 hb)
        (try clear hb)
        (try clear hb2)
        (try clear hk)
        (try clear hi)
        refine hK.out _ _ ⟨(IsS76.cell_0 HI0.out), (IsS76.cell_1 HI0.out), (IsS76.cell_2 HI0.out), (IsS76.cell_3 HI0.out), (IsS76.cell_4 HI0.out), (IsS76.cell_5 HI0.out), (IsS76.cell_6 HI0.out), (IsS76.cell_7 HI0.out), (IsS76.cell_8 HI0.out), (blk_cell BK292.out 0).trans rfl, (blk_cell BK292.out 1).trans rfl, (blk_cell BK292.out 2).trans rfl⟩ (fun hHeld => ?_)
        clear hK K
        refine no_ 36 ?_
        refine pq_ 8 4 (bl 9 511) HT_ ?_
        refine done_ (done_of HT_.out (by kernel_rfl)) ?_
        obtain ⟨HGz28, hgz28⟩ := HI0.out
        obtain ⟨hcz28_0, hfz28_0, hcz28_1, hfz28_1, hcz28_2, hfz28_2, hcz28_3, hfz28_3, hcz28_4, hfz28_4, hcz28_5, hfz28_5, hcz28_6, hfz28_6, hcz28_7, hfz28_7, hcz28_8, hfz28_8⟩ := bp9 HGz28
        clear HGz28 hgz28
        have hnb29 := NB292_0.out
        have hnc29 := NB0_292.out
        obtain ⟨hcz30_0, hfz30_0, hcz30_1, hfz30_1, hcz30_2, hfz30_2⟩ := bp3 BK292.out
        try go_wp2_with (first | ((with_reducible refine gate_callee (f := 44) rfl ?_); refine gL_ 46 Tryd.func44 #[.int .i64 9600, .int .i64 a1_2, .int .i64 (wrap64 (a1_1 + 100000)), .int .i64 3] ?_; (with_reducible refine (muldiv_Do.calls 9600 a1_2 (wrap64 (a1_1 + 100000)) 3 t294 _ A13.out).mono ?_); rintro e w31 ⟨rfl, hb⟩; refine ⟨_, rfl, ?_⟩; replace HB := aW (below_step o28 hb); replace HK := aW (KeepBut.trans o42 (KeepBut.of_below hb g none) (.inl rfl)); replace HI0 := aW (IsS76.below o6 hb); replace BK292 := aW (blk_below (g := gb292) (o := .cells #[.int .i64 a1_0, .int .i64 a1_1, .int .i64 a1_2] 101 (0, 0)) o81 hb); (try clear hb); (try clear hb2); (try clear hk); (try clear hi); obtain ⟨HGz32, hgz32⟩ := HI0.out; have hcz32_0 := cellS76_0 HGz32; have hcz32_1 := cellS76_1 HGz32; have hcz32_2 := cellS76_2 HGz32; have hcz32_3 := cellS76_3 HGz32; have hcz32_4 := cellS76_4 HGz32; have hcz32_5 := cellS76_5 HGz32; have hcz32_6 := cellS76_6 HGz32; have hcz32_7 := cellS76_7 HGz32; have hcz32_8 := cellS76_8 HGz32; have hfz32_0 := blk_frozen HGz32 0; have hfz32_1 := blk_frozen HGz32 1; have hfz32_2 := blk_frozen HGz32 2; have hfz32_3 := blk_frozen HGz32 3; have hfz32_4 := blk_frozen HGz32 4; have hfz32_5 := blk_frozen HGz32 5; have hfz32_6 := blk_frozen HGz32 6; have hfz32_7 := blk_frozen HGz32 7; have hfz32_8 := blk_frozen HGz32 8; clear HGz32 hgz32; have hcz33_0 : w31.cell? ⟨gb292, 0, none⟩ = some (.int .i64 a1_0) := (blk_cell BK292.out 0).trans rfl; have hcz33_1 : w31.cell? ⟨gb292, 1, none⟩ = some (.int .i64 a1_1) := (blk_cell BK292.out 1).trans rfl; have hcz33_2 : w31.cell? ⟨gb292, 2, none⟩ = some (.int .i64 a1_2) := (blk_cell BK292.out 2).trans rfl; have hfz33_0 := blk_frozen BK292.out 0; have hfz33_1 := blk_frozen BK292.out 1; have hfz33_2 := blk_frozen BK292.out 2))
        first | go_end0 | ((try simp only [Exit.inBlock, Exit.then]); refine bodyPost_ret (results_none rfl _ _ _) rfl ?_)
        exact ⟨by first | rfl | (simp [errW_none, errW_some] <;> rfl) | (simp only [← hji14]; first | rfl | (simp [errW_none, errW_some] <;> rfl)) | (simp [*, errW_none, errW_some] <;> rfl), o9, o31, o45⟩
      ·rw [if_neg c15] at H
       have c15b0 : decide (0 < a1_0) = false := decide_eq_false c15
       clear c15
       simp only [Option.some.injEq, Prod.mk.injEq] at H
       obtain ⟨rfl, rfl, rfl, rfl, rfl, rfl, rfl, rfl, rfl⟩ := H
       try go_wp2
       replace HB := aW (below_drew1 HB.out)
       replace HK := aW (keep_drew HK.out)
       replace HI0 := aW (IsS76.drew HI0.out)
       replace BK292 := aW (blk_drew BK292.out)
       refine start_ (n := 9) (S := fun w' => w'.cell? ⟨g, 0, none⟩ = some (.int .i64 s0_0) ∧ w'.cell? ⟨g, 1, none⟩ = some (.int .i64 s0_1) ∧ w'.cell? ⟨g, 2, none⟩ = some (.int .i64 s0_2) ∧ w'.cell? ⟨g, 3, none⟩ = some (.int .i64 s0_3) ∧ w'.cell? ⟨g, 4, none⟩ = some (.bool true) ∧ w'.cell? ⟨g, 5, none⟩ = some (.int .i64 s0_5) ∧ w'.cell? ⟨g, 6, none⟩ = some (.int .i64 s0_6) ∧ w'.cell? ⟨g, 7, none⟩ = some (.bool s0_7) ∧ w'.cell? ⟨g, 8, none⟩ = some (.int .i64 s0_8) ∧ w'.cell? ⟨gb292, 0, none⟩ = some (.int .i64 a1_0) ∧ w'.cell? ⟨gb292, 1, none⟩ = some (.int .i64 a1_1) ∧ w'.cell? ⟨gb292, 2, none⟩ = some (.int .i64 a1_2)) (ds := []) (bl 9 0) (by kernel_rfl) rfl rfl ⟨(IsS76.cell_0 HI0.out), (IsS76.cell_1 HI0.out), (IsS76.cell_2 HI0.out), (IsS76.cell_3 HI0.out), (IsS76.cell_4 HI0.out), (IsS76.cell_5 HI0.out), (IsS76.cell_6 HI0.out), (IsS76.cell_7 HI0.out), (IsS76.cell_8 HI0.out), (blk_cell BK292.out 0).trans rfl, (blk_cell BK292.out 1).trans rfl, (blk_cell BK292.out 2).trans rfl⟩ (fun hHeld => ?_); refine with_tabW aimd_Aimd_lift.tab3 aimd_Aimd_lift.bits3 (fun HT_ HW_ => ?_)
       generalize wc.drew = w34 at BK292 HI0 HK HB hHeld ⊢
       refine pq_ 0 29 (bl 9 1) HT_ ?_
       refine pq_ 1 30 (bl 9 3) HT_ ?_
       refine pq_ 2 31 (bl 9 7) HT_ ?_
       refine pq_ 4 33 (bl 9 23) HT_ ?_
       refine tq_ 3 32 (bl 9 31) HT_ HW_ hHeld ?_ (hr := by rintro w' ⟨s0, s1, s2, s3, s4, s5, s6, s7, s8, s9, s10, s11⟩; go_simp; with_reducible rfl)
       refine tq_ 5 34 (bl 9 63) HT_ HW_ hHeld ?_ (hr := by rintro w' ⟨s0, s1, s2, s3, s4, s5, s6, s7, s8, s9, s10, s11⟩; go_simp; with_reducible rfl)
       refine pq_ 6 35 (bl 9 127) HT_ ?_
       refine one_ (i := 7) (N := some 36) (bl 9 255) rfl rfl (one_of HT_.out (by kernel_rfl)) (by decide) (fun K hK => ?_)
       refine goes_ Tryd.func44 (by kernel_rfl) rfl #[.int .i64 s0_0, .int .i64 (wrap64 (8 * a1_2)), .int .i64 100000000, .int .i64 3] (by rfl) rfl rfl o72 ?_
       with_reducible refine (muldiv_Do.calls s0_0 (wrap64 (8 * a1_2)) 100000000 3 t293 _ A11.out).mono ?_
       rintro e w35 ⟨rfl, hb⟩
       refine ⟨_, rfl, ?_⟩
       replace HB := aW (below_step o28 hb)
       replace HK := aW (KeepBut.trans o42 (KeepBut.of_below hb g none) (.inl rfl))
       replace HI0 := aW (IsS76.below o6 hb)
       replace BK292 := aW (blk_below (g := gb292) (o := .cells #[.int .i64 a1_0, .int .i64 a1_1, .int .i64 a1_2] 101 (0, 0)) o81 hb)
       (try clear hb)
       (try clear hb2)
       (try clear hk)
       (try clear hi)
       refine hK.out _ _ ⟨(IsS76.cell_0 HI0.out), (IsS76.cell_1 HI0.out), (IsS76.cell_2 HI0.out), (IsS76.cell_3 HI0.out), (IsS76.cell_4 HI0.out), (IsS76.cell_5 HI0.out), (IsS76.cell_6 HI0.out), (IsS76.cell_7 HI0.out), (IsS76.cell_8 HI0.out), (blk_cell BK292.out 0).trans rfl, (blk_cell BK292.out 1).trans rfl, (blk_cell BK292.out 2).trans rfl⟩ (fun hHeld => ?_)
       clear hK K
       refine no_ 36 ?_
       refine pq_ 8 4 (bl 9 511) HT_ ?_
       refine done_ (done_of HT_.out (by kernel_rfl)) ?_
       obtain ⟨HGz36, hgz36⟩ := HI0.out
       obtain ⟨hcz36_0, hfz36_0, hcz36_1, hfz36_1, hcz36_2, hfz36_2, hcz36_3, hfz36_3, hcz36_4, hfz36_4, hcz36_5, hfz36_5, hcz36_6, hfz36_6, hcz36_7, hfz36_7, hcz36_8, hfz36_8⟩ := bp9 HGz36
       clear HGz36 hgz36
       have hnb37 := NB292_0.out
       have hnc37 := NB0_292.out
       obtain ⟨hcz38_0, hfz38_0, hcz38_1, hfz38_1, hcz38_2, hfz38_2⟩ := bp3 BK292.out
       try go_wp2_with (first | ((with_reducible refine gate_callee (f := 44) rfl ?_); refine gL_ 46 Tryd.func44 #[.int .i64 9600, .int .i64 a1_2, .int .i64 (wrap64 (a1_1 + 100000)), .int .i64 3] ?_; (with_reducible refine (muldiv_Do.calls 9600 a1_2 (wrap64 (a1_1 + 100000)) 3 t294 _ A13.out).mono ?_); rintro e w39 ⟨rfl, hb⟩; refine ⟨_, rfl, ?_⟩; replace HB := aW (below_step o28 hb); replace HK := aW (KeepBut.trans o42 (KeepBut.of_below hb g none) (.inl rfl)); replace HI0 := aW (IsS76.below o6 hb); replace BK292 := aW (blk_below (g := gb292) (o := .cells #[.int .i64 a1_0, .int .i64 a1_1, .int .i64 a1_2] 101 (0, 0)) o81 hb); (try clear hb); (try clear hb2); (try clear hk); (try clear hi); obtain ⟨HGz40, hgz40⟩ := HI0.out; have hcz40_0 := cellS76_0 HGz40; have hcz40_1 := cellS76_1 HGz40; have hcz40_2 := cellS76_2 HGz40; have hcz40_3 := cellS76_3 HGz40; have hcz40_4 := cellS76_4 HGz40; have hcz40_5 := cellS76_5 HGz40; have hcz40_6 := cellS76_6 HGz40; have hcz40_7 := cellS76_7 HGz40; have hcz40_8 := cellS76_8 HGz40; have hfz40_0 := blk_frozen HGz40 0; have hfz40_1 := blk_frozen HGz40 1; have hfz40_2 := blk_frozen HGz40 2; have hfz40_3 := blk_frozen HGz40 3; have hfz40_4 := blk_frozen HGz40 4; have hfz40_5 := blk_frozen HGz40 5; have hfz40_6 := blk_frozen HGz40 6; have hfz40_7 := blk_frozen HGz40 7; have hfz40_8 := blk_frozen HGz40 8; clear HGz40 hgz40; have hcz41_0 : w39.cell? ⟨gb292, 0, none⟩ = some (.int .i64 a1_0) := (blk_cell BK292.out 0).trans rfl; have hcz41_1 : w39.cell? ⟨gb292, 1, none⟩ = some (.int .i64 a1_1) := (blk_cell BK292.out 1).trans rfl; have hcz41_2 : w39.cell? ⟨gb292, 2, none⟩ = some (.int .i64 a1_2) := (blk_cell BK292.out 2).trans rfl; have hfz41_0 := blk_frozen BK292.out 0; have hfz41_1 := blk_frozen BK292.out 1; have hfz41_2 := blk_frozen BK292.out 2))
       first | go_end0 | ((try simp only [Exit.inBlock, Exit.then]); refine bodyPost_ret (results_none rfl _ _ _) rfl ?_)
       exact ⟨by first | rfl | (simp [errW_none, errW_some] <;> rfl) | (simp only [← hji14]; first | rfl | (simp [errW_none, errW_some] <;> rfl)) | (simp [*, errW_none, errW_some] <;> rfl), o9, o31, o45⟩
     ·replace c12 := Bool.eq_false_iff.mpr c12
      subst c12
      have H1 : (if a1_0 > 0 then (if (wrap64 ((wrap64 (Int.tdiv (wrap64 (3 * a1_0)) 2)) + 10000)) < (wrap64 (s0_0 + (mx t293 1000))) then (some (mx (wrap64 ((wrap64 (Int.tdiv (wrap64 (3 * a1_0)) 2)) + 10000)) s0_0, s0_1, s0_2, s0_3, false, s0_5, s0_6, s0_7, s0_8)) else (some (wrap64 (s0_0 + (mx t293 1000)), s0_1, s0_2, s0_3, false, s0_5, s0_6, s0_7, s0_8))) else (some (wrap64 (s0_0 + (mx t293 1000)), s0_1, s0_2, s0_3, false, s0_5, s0_6, s0_7, s0_8))) = some (r1, r2, r3, r4, r5, r6, r7, r8, r9) := by rw [if_neg (show ¬ (false = true) by decide)] at H; exact H
      clear H
      have H := H1
      clear H1
      obtain ⟨ji42, hji42⟩ : ∃ j_ : Int, (mx t293 1000) = j_ := ⟨_, rfl⟩
      replace H : (if a1_0 > 0 then (if (wrap64 ((wrap64 (Int.tdiv (wrap64 (3 * a1_0)) 2)) + 10000)) < (wrap64 (s0_0 + (ji42))) then (some (mx (wrap64 ((wrap64 (Int.tdiv (wrap64 (3 * a1_0)) 2)) + 10000)) s0_0, s0_1, s0_2, s0_3, false, s0_5, s0_6, s0_7, s0_8)) else (some (wrap64 (s0_0 + (ji42)), s0_1, s0_2, s0_3, false, s0_5, s0_6, s0_7, s0_8))) else (some (wrap64 (s0_0 + (ji42)), s0_1, s0_2, s0_3, false, s0_5, s0_6, s0_7, s0_8))) = some (r1, r2, r3, r4, r5, r6, r7, r8, r9) := by first | (rw [hji42] at H; exact H) | (simp only [hji42] at H ⊢; exact H)
      (try rw [hji42] at A11)
      (try (have hji42l : 1000 ≤ ji42 := by (rw [← hji42]; unfold mx; (repeat' split) <;> omega)))
      (try (have hji42m : 0 ≤ ji42 := by omega))
      have hji42_ : (if t293 < 1000 then 1000 else t293) = ji42 := hji42
      by_cases c43 : a1_0 > 0
      ·rw [if_pos c43] at H
       have c43b0 : decide (0 < a1_0) = true := decide_eq_true c43
       clear c43
       by_cases c44 : (wrap64 ((wrap64 (Int.tdiv (wrap64 (3 * a1_0)) 2)) + 10000)) < (wrap64 (s0_0 + (ji42)))
       ·rw [if_pos c44] at H
        have c44b0 : decide ((wrap64 ((wrap64 (Int.tdiv (wrap64 (3 * a1_0)) 2)) + 10000)) < (wrap64 (s0_0 + (ji42)))) = true := decide_eq_true c44
        clear c44
        obtain ⟨ji45, hji45⟩ : ∃ j_ : Int, (mx (wrap64 ((wrap64 (Int.tdiv (wrap64 (3 * a1_0)) 2)) + 10000)) s0_0) = j_ := ⟨_, rfl⟩
        replace H : (some (ji45, s0_1, s0_2, s0_3, false, s0_5, s0_6, s0_7, s0_8)) = some (r1, r2, r3, r4, r5, r6, r7, r8, r9) := by first | (rw [hji45] at H; exact H) | (simp only [hji45] at H ⊢; exact H)
        (try rw [hji45] at A11)
        have hji45_ : (if (wrap64 ((wrap64 (Int.tdiv (wrap64 (3 * a1_0)) 2)) + 10000)) < s0_0 then s0_0 else (wrap64 ((wrap64 (Int.tdiv (wrap64 (3 * a1_0)) 2)) + 10000))) = ji45 := hji45
        simp only [Option.some.injEq, Prod.mk.injEq] at H
        obtain ⟨rfl, rfl, rfl, rfl, rfl, rfl, rfl, rfl, rfl⟩ := H
        try go_wp2
        replace HB := aW (below_drew1 HB.out)
        replace HK := aW (keep_drew HK.out)
        replace HI0 := aW (IsS76.drew HI0.out)
        replace BK292 := aW (blk_drew BK292.out)
        refine start_ (n := 9) (S := fun w' => w'.cell? ⟨g, 0, none⟩ = some (.int .i64 s0_0) ∧ w'.cell? ⟨g, 1, none⟩ = some (.int .i64 s0_1) ∧ w'.cell? ⟨g, 2, none⟩ = some (.int .i64 s0_2) ∧ w'.cell? ⟨g, 3, none⟩ = some (.int .i64 s0_3) ∧ w'.cell? ⟨g, 4, none⟩ = some (.bool false) ∧ w'.cell? ⟨g, 5, none⟩ = some (.int .i64 s0_5) ∧ w'.cell? ⟨g, 6, none⟩ = some (.int .i64 s0_6) ∧ w'.cell? ⟨g, 7, none⟩ = some (.bool s0_7) ∧ w'.cell? ⟨g, 8, none⟩ = some (.int .i64 s0_8) ∧ w'.cell? ⟨gb292, 0, none⟩ = some (.int .i64 a1_0) ∧ w'.cell? ⟨gb292, 1, none⟩ = some (.int .i64 a1_1) ∧ w'.cell? ⟨gb292, 2, none⟩ = some (.int .i64 a1_2)) (ds := []) (bl 9 0) (by kernel_rfl) rfl rfl ⟨(IsS76.cell_0 HI0.out), (IsS76.cell_1 HI0.out), (IsS76.cell_2 HI0.out), (IsS76.cell_3 HI0.out), (IsS76.cell_4 HI0.out), (IsS76.cell_5 HI0.out), (IsS76.cell_6 HI0.out), (IsS76.cell_7 HI0.out), (IsS76.cell_8 HI0.out), (blk_cell BK292.out 0).trans rfl, (blk_cell BK292.out 1).trans rfl, (blk_cell BK292.out 2).trans rfl⟩ (fun hHeld => ?_); refine with_tabW aimd_Aimd_lift.tab3 aimd_Aimd_lift.bits3 (fun HT_ HW_ => ?_)
        generalize wc.drew = w46 at BK292 HI0 HK HB hHeld ⊢
        refine pq_ 0 29 (bl 9 1) HT_ ?_
        refine pq_ 1 30 (bl 9 3) HT_ ?_
        refine pq_ 2 31 (bl 9 7) HT_ ?_
        refine pq_ 4 33 (bl 9 23) HT_ ?_
        refine tq_ 3 32 (bl 9 31) HT_ HW_ hHeld ?_ (hr := by rintro w' ⟨s0, s1, s2, s3, s4, s5, s6, s7, s8, s9, s10, s11⟩; go_simp; with_reducible rfl)
        refine tq_ 5 34 (bl 9 63) HT_ HW_ hHeld ?_ (hr := by rintro w' ⟨s0, s1, s2, s3, s4, s5, s6, s7, s8, s9, s10, s11⟩; go_simp; with_reducible rfl)
        refine pq_ 6 35 (bl 9 127) HT_ ?_
        refine one_ (i := 7) (N := some 36) (bl 9 255) rfl rfl (one_of HT_.out (by kernel_rfl)) (by decide) (fun K hK => ?_)
        refine goes_ Tryd.func44 (by kernel_rfl) rfl #[.int .i64 s0_0, .int .i64 (wrap64 (8 * a1_2)), .int .i64 100000000, .int .i64 3] (by rfl) rfl rfl o72 ?_
        with_reducible refine (muldiv_Do.calls s0_0 (wrap64 (8 * a1_2)) 100000000 3 t293 _ A11.out).mono ?_
        rintro e w47 ⟨rfl, hb⟩
        refine ⟨_, rfl, ?_⟩
        replace HB := aW (below_step o28 hb)
        replace HK := aW (KeepBut.trans o42 (KeepBut.of_below hb g none) (.inl rfl))
        replace HI0 := aW (IsS76.below o6 hb)
        replace BK292 := aW (blk_below (g := gb292) (o := .cells #[.int .i64 a1_0, .int .i64 a1_1, .int .i64 a1_2] 101 (0, 0)) o81 hb)
        (try clear hb)
        (try clear hb2)
        (try clear hk)
        (try clear hi)
        refine hK.out _ _ ⟨(IsS76.cell_0 HI0.out), (IsS76.cell_1 HI0.out), (IsS76.cell_2 HI0.out), (IsS76.cell_3 HI0.out), (IsS76.cell_4 HI0.out), (IsS76.cell_5 HI0.out), (IsS76.cell_6 HI0.out), (IsS76.cell_7 HI0.out), (IsS76.cell_8 HI0.out), (blk_cell BK292.out 0).trans rfl, (blk_cell BK292.out 1).trans rfl, (blk_cell BK292.out 2).trans rfl⟩ (fun hHeld => ?_)
        clear hK K
        refine no_ 36 ?_
        refine pq_ 8 4 (bl 9 511) HT_ ?_
        refine done_ (done_of HT_.out (by kernel_rfl)) ?_
        obtain ⟨HGz48, hgz48⟩ := HI0.out
        obtain ⟨hcz48_0, hfz48_0, hcz48_1, hfz48_1, hcz48_2, hfz48_2, hcz48_3, hfz48_3, hcz48_4, hfz48_4, hcz48_5, hfz48_5, hcz48_6, hfz48_6, hcz48_7, hfz48_7, hcz48_8, hfz48_8⟩ := bp9 HGz48
        clear HGz48 hgz48
        have hnb49 := NB292_0.out
        have hnc49 := NB0_292.out
        obtain ⟨hcz50_0, hfz50_0, hcz50_1, hfz50_1, hcz50_2, hfz50_2⟩ := bp3 BK292.out
        try go_wp2
        first | go_end0 | ((try simp only [Exit.inBlock, Exit.then]); refine bodyPost_ret (results_none rfl _ _ _) rfl ?_)
        exact ⟨by first | rfl | (simp [errW_none, errW_some] <;> rfl) | (simp only [← hji42, ← hji45]; first | rfl | (simp [errW_none, errW_some] <;> rfl)) | (simp [*, errW_none, errW_some] <;> rfl), o9, o31, o45⟩
       ·rw [if_neg c44] at H
        have c44b0 : decide ((wrap64 ((wrap64 (Int.tdiv (wrap64 (3 * a1_0)) 2)) + 10000)) < (wrap64 (s0_0 + (ji42)))) = false := decide_eq_false c44
        clear c44
        simp only [Option.some.injEq, Prod.mk.injEq] at H
        obtain ⟨rfl, rfl, rfl, rfl, rfl, rfl, rfl, rfl, rfl⟩ := H
        try go_wp2
        replace HB := aW (below_drew1 HB.out)
        replace HK := aW (keep_drew HK.out)
        replace HI0 := aW (IsS76.drew HI0.out)
        replace BK292 := aW (blk_drew BK292.out)
        refine start_ (n := 9) (S := fun w' => w'.cell? ⟨g, 0, none⟩ = some (.int .i64 s0_0) ∧ w'.cell? ⟨g, 1, none⟩ = some (.int .i64 s0_1) ∧ w'.cell? ⟨g, 2, none⟩ = some (.int .i64 s0_2) ∧ w'.cell? ⟨g, 3, none⟩ = some (.int .i64 s0_3) ∧ w'.cell? ⟨g, 4, none⟩ = some (.bool false) ∧ w'.cell? ⟨g, 5, none⟩ = some (.int .i64 s0_5) ∧ w'.cell? ⟨g, 6, none⟩ = some (.int .i64 s0_6) ∧ w'.cell? ⟨g, 7, none⟩ = some (.bool s0_7) ∧ w'.cell? ⟨g, 8, none⟩ = some (.int .i64 s0_8) ∧ w'.cell? ⟨gb292, 0, none⟩ = some (.int .i64 a1_0) ∧ w'.cell? ⟨gb292, 1, none⟩ = some (.int .i64 a1_1) ∧ w'.cell? ⟨gb292, 2, none⟩ = some (.int .i64 a1_2)) (ds := []) (bl 9 0) (by kernel_rfl) rfl rfl ⟨(IsS76.cell_0 HI0.out), (IsS76.cell_1 HI0.out), (IsS76.cell_2 HI0.out), (IsS76.cell_3 HI0.out), (IsS76.cell_4 HI0.out), (IsS76.cell_5 HI0.out), (IsS76.cell_6 HI0.out), (IsS76.cell_7 HI0.out), (IsS76.cell_8 HI0.out), (blk_cell BK292.out 0).trans rfl, (blk_cell BK292.out 1).trans rfl, (blk_cell BK292.out 2).trans rfl⟩ (fun hHeld => ?_); refine with_tabW aimd_Aimd_lift.tab3 aimd_Aimd_lift.bits3 (fun HT_ HW_ => ?_)
        generalize wc.drew = w51 at BK292 HI0 HK HB hHeld ⊢
        refine pq_ 0 29 (bl 9 1) HT_ ?_
        refine pq_ 1 30 (bl 9 3) HT_ ?_
        refine pq_ 2 31 (bl 9 7) HT_ ?_
        refine pq_ 4 33 (bl 9 23) HT_ ?_
        refine tq_ 3 32 (bl 9 31) HT_ HW_ hHeld ?_ (hr := by rintro w' ⟨s0, s1, s2, s3, s4, s5, s6, s7, s8, s9, s10, s11⟩; go_simp; with_reducible rfl)
        refine tq_ 5 34 (bl 9 63) HT_ HW_ hHeld ?_ (hr := by rintro w' ⟨s0, s1, s2, s3, s4, s5, s6, s7, s8, s9, s10, s11⟩; go_simp; with_reducible rfl)
        refine pq_ 6 35 (bl 9 127) HT_ ?_
        refine one_ (i := 7) (N := some 36) (bl 9 255) rfl rfl (one_of HT_.out (by kernel_rfl)) (by decide) (fun K hK => ?_)
        refine goes_ Tryd.func44 (by kernel_rfl) rfl #[.int .i64 s0_0, .int .i64 (wrap64 (8 * a1_2)), .int .i64 100000000, .int .i64 3] (by rfl) rfl rfl o72 ?_
        with_reducible refine (muldiv_Do.calls s0_0 (wrap64 (8 * a1_2)) 100000000 3 t293 _ A11.out).mono ?_
        rintro e w52 ⟨rfl, hb⟩
        refine ⟨_, rfl, ?_⟩
        replace HB := aW (below_step o28 hb)
        replace HK := aW (KeepBut.trans o42 (KeepBut.of_below hb g none) (.inl rfl))
        replace HI0 := aW (IsS76.below o6 hb)
        replace BK292 := aW (blk_below (g := gb292) (o := .cells #[.int .i64 a1_0, .int .i64 a1_1, .int .i64 a1_2] 101 (0, 0)) o81 hb)
        (try clear hb)
        (try clear hb2)
        (try clear hk)
        (try clear hi)
        refine hK.out _ _ ⟨(IsS76.cell_0 HI0.out), (IsS76.cell_1 HI0.out), (IsS76.cell_2 HI0.out), (IsS76.cell_3 HI0.out), (IsS76.cell_4 HI0.out), (IsS76.cell_5 HI0.out), (IsS76.cell_6 HI0.out), (IsS76.cell_7 HI0.out), (IsS76.cell_8 HI0.out), (blk_cell BK292.out 0).trans rfl, (blk_cell BK292.out 1).trans rfl, (blk_cell BK292.out 2).trans rfl⟩ (fun hHeld => ?_)
        clear hK K
        refine no_ 36 ?_
        refine pq_ 8 4 (bl 9 511) HT_ ?_
        refine done_ (done_of HT_.out (by kernel_rfl)) ?_
        obtain ⟨HGz53, hgz53⟩ := HI0.out
        obtain ⟨hcz53_0, hfz53_0, hcz53_1, hfz53_1, hcz53_2, hfz53_2, hcz53_3, hfz53_3, hcz53_4, hfz53_4, hcz53_5, hfz53_5, hcz53_6, hfz53_6, hcz53_7, hfz53_7, hcz53_8, hfz53_8⟩ := bp9 HGz53
        clear HGz53 hgz53
        have hnb54 := NB292_0.out
        have hnc54 := NB0_292.out
        obtain ⟨hcz55_0, hfz55_0, hcz55_1, hfz55_1, hcz55_2, hfz55_2⟩ := bp3 BK292.out
        try go_wp2
        first | go_end0 | ((try simp only [Exit.inBlock, Exit.then]); refine bodyPost_ret (results_none rfl _ _ _) rfl ?_)
        exact ⟨by first | rfl | (simp [errW_none, errW_some] <;> rfl) | (simp only [← hji42]; first | rfl | (simp [errW_none, errW_some] <;> rfl)) | (simp [*, errW_none, errW_some] <;> rfl), o9, o31, o45⟩
      ·rw [if_neg c43] at H
       have c43b0 : decide (0 < a1_0) = false := decide_eq_false c43
       clear c43
       simp only [Option.some.injEq, Prod.mk.injEq] at H
       obtain ⟨rfl, rfl, rfl, rfl, rfl, rfl, rfl, rfl, rfl⟩ := H
       try go_wp2
       replace HB := aW (below_drew1 HB.out)
       replace HK := aW (keep_drew HK.out)
       replace HI0 := aW (IsS76.drew HI0.out)
       replace BK292 := aW (blk_drew BK292.out)
       refine start_ (n := 9) (S := fun w' => w'.cell? ⟨g, 0, none⟩ = some (.int .i64 s0_0) ∧ w'.cell? ⟨g, 1, none⟩ = some (.int .i64 s0_1) ∧ w'.cell? ⟨g, 2, none⟩ = some (.int .i64 s0_2) ∧ w'.cell? ⟨g, 3, none⟩ = some (.int .i64 s0_3) ∧ w'.cell? ⟨g, 4, none⟩ = some (.bool false) ∧ w'.cell? ⟨g, 5, none⟩ = some (.int .i64 s0_5) ∧ w'.cell? ⟨g, 6, none⟩ = some (.int .i64 s0_6) ∧ w'.cell? ⟨g, 7, none⟩ = some (.bool s0_7) ∧ w'.cell? ⟨g, 8, none⟩ = some (.int .i64 s0_8) ∧ w'.cell? ⟨gb292, 0, none⟩ = some (.int .i64 a1_0) ∧ w'.cell? ⟨gb292, 1, none⟩ = some (.int .i64 a1_1) ∧ w'.cell? ⟨gb292, 2, none⟩ = some (.int .i64 a1_2)) (ds := []) (bl 9 0) (by kernel_rfl) rfl rfl ⟨(IsS76.cell_0 HI0.out), (IsS76.cell_1 HI0.out), (IsS76.cell_2 HI0.out), (IsS76.cell_3 HI0.out), (IsS76.cell_4 HI0.out), (IsS76.cell_5 HI0.out), (IsS76.cell_6 HI0.out), (IsS76.cell_7 HI0.out), (IsS76.cell_8 HI0.out), (blk_cell BK292.out 0).trans rfl, (blk_cell BK292.out 1).trans rfl, (blk_cell BK292.out 2).trans rfl⟩ (fun hHeld => ?_); refine with_tabW aimd_Aimd_lift.tab3 aimd_Aimd_lift.bits3 (fun HT_ HW_ => ?_)
       generalize wc.drew = w56 at BK292 HI0 HK HB hHeld ⊢
       refine pq_ 0 29 (bl 9 1) HT_ ?_
       refine pq_ 1 30 (bl 9 3) HT_ ?_
       refine pq_ 2 31 (bl 9 7) HT_ ?_
       refine pq_ 4 33 (bl 9 23) HT_ ?_
       refine tq_ 3 32 (bl 9 31) HT_ HW_ hHeld ?_ (hr := by rintro w' ⟨s0, s1, s2, s3, s4, s5, s6, s7, s8, s9, s10, s11⟩; go_simp; with_reducible rfl)
       refine tq_ 5 34 (bl 9 63) HT_ HW_ hHeld ?_ (hr := by rintro w' ⟨s0, s1, s2, s3, s4, s5, s6, s7, s8, s9, s10, s11⟩; go_simp; with_reducible rfl)
       refine pq_ 6 35 (bl 9 127) HT_ ?_
       refine one_ (i := 7) (N := some 36) (bl 9 255) rfl rfl (one_of HT_.out (by kernel_rfl)) (by decide) (fun K hK => ?_)
       refine goes_ Tryd.func44 (by kernel_rfl) rfl #[.int .i64 s0_0, .int .i64 (wrap64 (8 * a1_2)), .int .i64 100000000, .int .i64 3] (by rfl) rfl rfl o72 ?_
       with_reducible refine (muldiv_Do.calls s0_0 (wrap64 (8 * a1_2)) 100000000 3 t293 _ A11.out).mono ?_
       rintro e w57 ⟨rfl, hb⟩
       refine ⟨_, rfl, ?_⟩
       replace HB := aW (below_step o28 hb)
       replace HK := aW (KeepBut.trans o42 (KeepBut.of_below hb g none) (.inl rfl))
       replace HI0 := aW (IsS76.below o6 hb)
       replace BK292 := aW (blk_below (g := gb292) (o := .cells #[.int .i64 a1_0, .int .i64 a1_1, .int .i64 a1_2] 101 (0, 0)) o81 hb)
       (try clear hb)
       (try clear hb2)
       (try clear hk)
       (try clear hi)
       refine hK.out _ _ ⟨(IsS76.cell_0 HI0.out), (IsS76.cell_1 HI0.out), (IsS76.cell_2 HI0.out), (IsS76.cell_3 HI0.out), (IsS76.cell_4 HI0.out), (IsS76.cell_5 HI0.out), (IsS76.cell_6 HI0.out), (IsS76.cell_7 HI0.out), (IsS76.cell_8 HI0.out), (blk_cell BK292.out 0).trans rfl, (blk_cell BK292.out 1).trans rfl, (blk_cell BK292.out 2).trans rfl⟩ (fun hHeld => ?_)
       clear hK K
       refine no_ 36 ?_
       refine pq_ 8 4 (bl 9 511) HT_ ?_
       refine done_ (done_of HT_.out (by kernel_rfl)) ?_
       obtain ⟨HGz58, hgz58⟩ := HI0.out
       obtain ⟨hcz58_0, hfz58_0, hcz58_1, hfz58_1, hcz58_2, hfz58_2, hcz58_3, hfz58_3, hcz58_4, hfz58_4, hcz58_5, hfz58_5, hcz58_6, hfz58_6, hcz58_7, hfz58_7, hcz58_8, hfz58_8⟩ := bp9 HGz58
       clear HGz58 hgz58
       have hnb59 := NB292_0.out
       have hnc59 := NB0_292.out
       obtain ⟨hcz60_0, hfz60_0, hcz60_1, hfz60_1, hcz60_2, hfz60_2⟩ := bp3 BK292.out
       try go_wp2
       first | go_end0 | ((try simp only [Exit.inBlock, Exit.then]); refine bodyPost_ret (results_none rfl _ _ _) rfl ?_)
       exact ⟨by first | rfl | (simp [errW_none, errW_some] <;> rfl) | (simp only [← hji42]; first | rfl | (simp [errW_none, errW_some] <;> rfl)) | (simp [*, errW_none, errW_some] <;> rfl), o9, o31, o45⟩
end Go.Proofs.YtphgeljglhjamaaDoor.P
end

section
namespace Go.Proofs.YtphgeljglhjamaaDoor.P
open Go.RowKit Go.Proofs.YtphgeljglhjamaaDoorW.PrintWords Go.Proofs.YtphgeljglhjamaaDoorW.PrintLast Go.Proofs.YtphgeljglhjamaaDoorW.PrintMore
attribute [local go_sem] max2_int min2_int max_two min_two max_three min_three max_four min_four
set_option linter.unusedVariables false
set_option linter.unusedSimpArgs false
def aimd_Aimd_cut.f (s0_0 : Int) (s0_1 : Int) (s0_2 : Int) (s0_3 : Int) (s0_4 : Bool) (s0_5 : Int) (s0_6 : Int) (s0_7 : Bool) (s0_8 : Int) (a1_0 : Int) (a1_1 : Int) (a1_2 : Int) : Option (Int × Int × Int × Int × Bool × Int × Int × Bool × Int) := (muldiv_Do.f a1_0 85 100 1).bind fun t296 => (if s0_4 = true then (if a1_0 < (wrap64 (s0_5 - (wrap64 (3 * s0_6)))) then (some (mn s0_0 t296, s0_1, s0_2, 0, s0_4, a1_0, s0_6, s0_7, s0_8)) else ((muldiv_Do.f (wrap64 (a1_0 - s0_5)) 5 100 2).bind fun t297 => ((sat_Abs.f (wrap64 (a1_0 - s0_5))).bind fun t298 => ((muldiv_Do.f (wrap64 (t298 - s0_6)) 5 100 2).bind fun t299 => (some (mn s0_0 t296, s0_1, s0_2, 0, s0_4, wrap64 (s0_5 + t297), wrap64 (s0_6 + t299), s0_7, s0_8)))))) else (some (mn s0_0 t296, s0_1, s0_2, 0, true, a1_0, wrap64 (Int.tdiv a1_0 10), s0_7, s0_8)))
def aimd_Aimd_cut.T1 : Bool × List (List Nat × List Nat) := (true, [([], []), ([], []), ([1], [1]), ([2], [2]), ([3], [3]), ([], []), ([5], [5]), ([6], [6]), ([4, 7], [4, 7]), ([0, 0, 1, 2, 3, 4, 5, 6, 7, 8], [0]), ([9, 0, 1, 2, 3, 4, 5, 6, 7, 8], [9]), ([10, 8, 7, 0, 1, 2, 3, 4, 5, 6, 7, 8], [8, 10])])
def aimd_Aimd_cut.B1 : List Nat := [0, 0, 2, 6, 14, 0, 32, 96, 254, 511, 1023, 2047]
theorem aimd_Aimd_cut.tab1 : rtab .any (opsOf Tryd.f43 1) = aimd_Aimd_cut.T1 := by kernel_rfl
theorem aimd_Aimd_cut.bits1 : waitsOk aimd_Aimd_cut.T1.2 aimd_Aimd_cut.B1 = true := by kernel_rfl
def aimd_Aimd_cut.T2 : Bool × List (List Nat × List Nat) := (true, [([], []), ([0], [0]), ([], []), ([2], [2]), ([3], [3]), ([4], [4]), ([1, 5], [1, 5]), ([6, 0, 1, 2, 3, 4, 5, 6], [6])])
def aimd_Aimd_cut.B2 : List Nat := [0, 1, 0, 4, 12, 28, 63, 127]
theorem aimd_Aimd_cut.tab2 : rtab .any (opsOf Tryd.f43 2) = aimd_Aimd_cut.T2 := by kernel_rfl
theorem aimd_Aimd_cut.bits2 : waitsOk aimd_Aimd_cut.T2.2 aimd_Aimd_cut.B2 = true := by kernel_rfl
def aimd_Aimd_cut.T3 : Bool × List (List Nat × List Nat) := (true, [([], []), ([0], [0]), ([1], [1]), ([2], [2]), ([], []), ([4], [4]), ([3, 5], [3, 5]), ([0, 0, 1, 2, 3, 4, 5, 6], [0]), ([7, 0, 1, 2, 3, 4, 5, 6], [7]), ([8, 6, 5, 0, 1, 2, 3, 4, 5, 6], [6, 8])])
def aimd_Aimd_cut.B3 : List Nat := [0, 1, 3, 7, 0, 16, 63, 127, 255, 511]
theorem aimd_Aimd_cut.tab3 : rtab .any (opsOf Tryd.f43 3) = aimd_Aimd_cut.T3 := by kernel_rfl
theorem aimd_Aimd_cut.bits3 : waitsOk aimd_Aimd_cut.T3.2 aimd_Aimd_cut.B3 = true := by kernel_rfl
def aimd_Aimd_cut.T4 : Bool × List (List Nat × List Nat) := (true, [([], []), ([0], [0]), ([1], [1]), ([2], [2]), ([], []), ([4], [4]), ([], []), ([6], [6]), ([7], [7]), ([8], [8]), ([5, 9], [5, 9]), ([10, 5], [10]), ([3, 11], [3, 11]), ([0, 0, 1, 2, 3, 4, 5, 6, 7, 8, 9, 10, 11, 12], [0]), ([13, 0, 1, 2, 3, 4, 5, 6, 7, 8, 9, 10, 11, 12], [13]), ([14, 12, 11, 0, 1, 2, 3, 4, 5, 6, 7, 8, 9, 10, 11, 12], [12, 14])])
def aimd_Aimd_cut.B4 : List Nat := [0, 1, 3, 7, 0, 16, 0, 64, 192, 448, 1008, 2032, 4095, 8191, 16383, 32767]
theorem aimd_Aimd_cut.tab4 : rtab .any (opsOf Tryd.f43 4) = aimd_Aimd_cut.T4 := by kernel_rfl
theorem aimd_Aimd_cut.bits4 : waitsOk aimd_Aimd_cut.T4.2 aimd_Aimd_cut.B4 = true := by kernel_rfl
def aimd_Aimd_cut.T6 : Bool × List (List Nat × List Nat) := (true, [([], []), ([], []), ([], []), ([], []), ([3], [3]), ([], []), ([5], [5]), ([6], [6]), ([0, 0], [0]), ([8, 0], [8]), ([9, 0], [9]), ([1, 0, 1, 3, 4, 8, 9, 10], [1]), ([11, 0, 1, 3, 4, 8, 9, 10], [11]), ([12, 4, 10, 0, 1, 3, 4, 8, 9, 10], [4, 12]), ([2, 0, 1, 2, 3, 4, 5, 6, 7, 8, 9, 10, 11, 12, 13], [2]), ([14, 0, 1, 2, 3, 4, 5, 6, 7, 8, 9, 10, 11, 12, 13], [14]), ([15, 7, 13, 0, 1, 2, 3, 4, 5, 6, 7, 8, 9, 10, 11, 12, 13], [7, 15])])
def aimd_Aimd_cut.B6 : List Nat := [0, 0, 0, 0, 8, 0, 32, 96, 1, 257, 769, 1819, 3867, 7963, 16383, 32767, 65535]
theorem aimd_Aimd_cut.tab6 : rtab .any (opsOf Tryd.f43 6) = aimd_Aimd_cut.T6 := by kernel_rfl
theorem aimd_Aimd_cut.bits6 : waitsOk aimd_Aimd_cut.T6.2 aimd_Aimd_cut.B6 = true := by kernel_rfl
def aimd_Aimd_cut.T7 : Bool × List (List Nat × List Nat) := (true, [([], []), ([0], [0]), ([], []), ([2], [2]), ([3], [3]), ([4], [4]), ([], []), ([6], [6]), ([7], [7]), ([8], [8]), ([9], [9]), ([5, 10], [5, 10]), ([1, 11], [1, 11]), ([12], [12])])
def aimd_Aimd_cut.B7 : List Nat := [0, 1, 0, 4, 12, 28, 0, 64, 192, 448, 960, 2044, 4095, 8191]
theorem aimd_Aimd_cut.tab7 : rtab .any (opsOf Tryd.f43 7) = aimd_Aimd_cut.T7 := by kernel_rfl
theorem aimd_Aimd_cut.bits7 : waitsOk aimd_Aimd_cut.T7.2 aimd_Aimd_cut.B7 = true := by kernel_rfl
set_option maxHeartbeats 8000000 in
set_option maxRecDepth 100000 in
theorem aimd_Aimd_cut.calls (g : Nat) (s0_0 : Int) (s0_1 : Int) (s0_2 : Int) (s0_3 : Int) (s0_4 : Bool) (s0_5 : Int) (s0_6 : Int) (s0_7 : Bool) (s0_8 : Int) (a1_0 : Int) (a1_1 : Int) (a1_2 : Int) (r1 : Int) (r2 : Int) (r3 : Int) (r4 : Int) (r5 : Bool) (r6 : Int) (r7 : Int) (r8 : Bool) (r9 : Int) (w0 w : World) (hI : IsS76 w0 w g s0_0 s0_1 s0_2 s0_3 s0_4 s0_5 s0_6 s0_7 s0_8) (hB : Below w0.heap.size w0 w) (h : aimd_Aimd_cut.f s0_0 s0_1 s0_2 s0_3 s0_4 s0_5 s0_6 s0_7 s0_8 a1_0 a1_1 a1_2 = some (r1, r2, r3, r4, r5, r6, r7, r8, r9)) :
  Calls Tryd.prog 43 #[.pointer (some ⟨g, 0, none⟩), .agg #[.int .i64 a1_0, .int .i64 a1_1, .int .i64 a1_2]] w fun e w' => e = .returned (.tuple #[]) ∧ IsS76 w0 w' g r1 r2 r3 r4 r5 r6 r7 r8 r9 ∧ Below w0.heap.size w0 w' ∧ KeepBut w w' g none := by
 have hu101 := Tryd.underlying101
 have HI0 := aW hI
 have HK := aW (KeepBut.refl w g none)
 have HL := aW hB.size
 clear hI
 have HW0 := aW hB.size
 have HB := aW hB
 clear hB
 have H : ((muldiv_Do.f a1_0 85 100 1).bind fun t296 => (if s0_4 = true then (if a1_0 < (wrap64 (s0_5 - (wrap64 (3 * s0_6)))) then (some (mn s0_0 t296, s0_1, s0_2, 0, s0_4, a1_0, s0_6, s0_7, s0_8)) else ((muldiv_Do.f (wrap64 (a1_0 - s0_5)) 5 100 2).bind fun t297 => ((sat_Abs.f (wrap64 (a1_0 - s0_5))).bind fun t298 => ((muldiv_Do.f (wrap64 (t298 - s0_6)) 5 100 2).bind fun t299 => (some (mn s0_0 t296, s0_1, s0_2, 0, s0_4, wrap64 (s0_5 + t297), wrap64 (s0_6 + t299), s0_7, s0_8)))))) else (some (mn s0_0 t296, s0_1, s0_2, 0, true, a1_0, wrap64 (Int.tdiv a1_0 10), s0_7, s0_8)))) = some (r1, r2, r3, r4, r5, r6, r7, r8, r9) := h
 clear h
 obtain ⟨t296, A3, H⟩ := bw H
 obtain ⟨ji4, hji4⟩ : ∃ j_ : Int, (mn s0_0 t296) = j_ := ⟨_, rfl⟩
 replace H : (if s0_4 = true then (if a1_0 < (wrap64 (s0_5 - (wrap64 (3 * s0_6)))) then (some (ji4, s0_1, s0_2, 0, s0_4, a1_0, s0_6, s0_7, s0_8)) else ((muldiv_Do.f (wrap64 (a1_0 - s0_5)) 5 100 2).bind fun t297 => ((sat_Abs.f (wrap64 (a1_0 - s0_5))).bind fun t298 => ((muldiv_Do.f (wrap64 (t298 - s0_6)) 5 100 2).bind fun t299 => (some (ji4, s0_1, s0_2, 0, s0_4, wrap64 (s0_5 + t297), wrap64 (s0_6 + t299), s0_7, s0_8)))))) else (some (ji4, s0_1, s0_2, 0, true, a1_0, wrap64 (Int.tdiv a1_0 10), s0_7, s0_8))) = some (r1, r2, r3, r4, r5, r6, r7, r8, r9) := by first | (rw [hji4] at H; exact H) | (simp only [hji4] at H ⊢; exact H)
 (try rw [hji4] at A3)
 have hji4_ : (if t296 < s0_0 then t296 else s0_0) = ji4 := hji4
 by_cases c5 : s0_4 = true
 ·subst c5
  have H1 : (if a1_0 < (wrap64 (s0_5 - (wrap64 (3 * s0_6)))) then (some (ji4, s0_1, s0_2, 0, true, a1_0, s0_6, s0_7, s0_8)) else ((muldiv_Do.f (wrap64 (a1_0 - s0_5)) 5 100 2).bind fun t297 => ((sat_Abs.f (wrap64 (a1_0 - s0_5))).bind fun t298 => ((muldiv_Do.f (wrap64 (t298 - s0_6)) 5 100 2).bind fun t299 => (some (ji4, s0_1, s0_2, 0, true, wrap64 (s0_5 + t297), wrap64 (s0_6 + t299), s0_7, s0_8)))))) = some (r1, r2, r3, r4, r5, r6, r7, r8, r9) := by rw [if_pos rfl] at H; exact H
  clear H
  have H := H1
  clear H1
  by_cases c6 : a1_0 < (wrap64 (s0_5 - (wrap64 (3 * s0_6))))
  ·rw [if_pos c6] at H
   have c6b0 : decide (a1_0 < (wrap64 (s0_5 - (wrap64 (3 * s0_6))))) = true := decide_eq_true c6
   clear c6
   simp only [Option.some.injEq, Prod.mk.injEq] at H
   obtain ⟨rfl, rfl, rfl, rfl, rfl, rfl, rfl, rfl, rfl⟩ := H
   go_enter Tryd.func43, Tryd.ntmps43
   try go_wp2_with (first | ((with_reducible refine gate_dst (N := 3) rfl ?_); refine box_event ?hg (N := 3) ?hd (cs := #[.int .i64 a1_0, .int .i64 a1_1, .int .i64 a1_2]) (t := 101) ?hr ?_; (case hd => rfl); (case hg => rfl); (case hr => first | (go_simp; done) | (go_simp; rfl)); intro gb295 hg w7 hbox hb; have NB295_0 := aW ((by rw [hg]; exact Nat.ne_of_gt (IsS76.lt (show IsS76 w0 _ g s0_0 s0_1 s0_2 s0_3 true s0_5 s0_6 s0_7 s0_8 from o13)) : gb295 ≠ g)); have NB0_295 := aW ((by rw [hg]; exact Nat.ne_of_lt (IsS76.lt (show IsS76 w0 _ g s0_0 s0_1 s0_2 s0_3 true s0_5 s0_6 s0_7 s0_8 from o13)) : g ≠ gb295)); have GE295 := aW ((Nat.le_trans HW0.out (by rw [hg]; exact (keep_size (w := w) (g := g) (row := none) o69) : w.heap.size ≤ gb295) : w0.heap.size ≤ gb295)); have GW295 := aW ((by rw [hg]; exact (keep_size (w := w) (g := g) (row := none) o69) : w.heap.size ≤ gb295)); have BK295 := aW (hbox); replace HB := aW (below_step o50 hb); replace HK := aW (KeepBut.trans o69 (KeepBut.of_below hb g none) (.inl rfl)); replace HI0 := aW (IsS76.below o14 hb); clear hb hbox hg))
   replace HB := aW (below_drew1 HB.out)
   replace HK := aW (keep_drew HK.out)
   replace HI0 := aW (IsS76.drew HI0.out)
   replace BK295 := aW (blk_drew BK295.out)
   refine start_ (n := 12) (S := fun w' => w'.cell? ⟨g, 0, none⟩ = some (.int .i64 s0_0) ∧ w'.cell? ⟨g, 1, none⟩ = some (.int .i64 s0_1) ∧ w'.cell? ⟨g, 2, none⟩ = some (.int .i64 s0_2) ∧ w'.cell? ⟨g, 3, none⟩ = some (.int .i64 s0_3) ∧ w'.cell? ⟨g, 4, none⟩ = some (.bool true) ∧ w'.cell? ⟨g, 5, none⟩ = some (.int .i64 s0_5) ∧ w'.cell? ⟨g, 6, none⟩ = some (.int .i64 s0_6) ∧ w'.cell? ⟨g, 7, none⟩ = some (.bool s0_7) ∧ w'.cell? ⟨g, 8, none⟩ = some (.int .i64 s0_8) ∧ w'.cell? ⟨gb295, 0, none⟩ = some (.int .i64 a1_0) ∧ w'.cell? ⟨gb295, 1, none⟩ = some (.int .i64 a1_1) ∧ w'.cell? ⟨gb295, 2, none⟩ = some (.int .i64 a1_2)) (ds := [11]) (bl 12 0) (by kernel_rfl) rfl rfl ⟨(IsS76.cell_0 HI0.out), (IsS76.cell_1 HI0.out), (IsS76.cell_2 HI0.out), (IsS76.cell_3 HI0.out), (IsS76.cell_4 HI0.out), (IsS76.cell_5 HI0.out), (IsS76.cell_6 HI0.out), (IsS76.cell_7 HI0.out), (IsS76.cell_8 HI0.out), (blk_cell BK295.out 0).trans rfl, (blk_cell BK295.out 1).trans rfl, (blk_cell BK295.out 2).trans rfl⟩ (fun hHeld => ?_); refine with_tabW aimd_Aimd_cut.tab1 aimd_Aimd_cut.bits1 (fun HT_ HW_ => ?_)
   generalize w7.drew = w8 at BK295 HI0 HK HB hHeld ⊢
   refine pq_ 0 5 (bl 12 1) HT_ ?_
   refine pq_ 1 6 (bl 12 3) HT_ ?_
   refine pq_ 2 7 (bl 12 7) HT_ ?_
   refine pq_ 3 8 (bl 12 15) HT_ ?_
   refine pq_ 5 10 (bl 12 47) HT_ ?_
   refine tq_ 4 9 (bl 12 63) HT_ HW_ hHeld ?_ (hr := by rintro w' ⟨s0, s1, s2, s3, s4, s5, s6, s7, s8, s9, s10, s11⟩; go_simp; with_reducible rfl)
   refine tq_ 6 11 (bl 12 127) HT_ HW_ hHeld ?_ (hr := by rintro w' ⟨s0, s1, s2, s3, s4, s5, s6, s7, s8, s9, s10, s11⟩; go_simp; with_reducible rfl)
   refine one_ (i := 7) (N := some 12) (bl 12 255) rfl rfl (one_of HT_.out (by kernel_rfl)) (by decide) (fun K hK => ?_)
   refine goes_ Tryd.func44 (by kernel_rfl) rfl #[.int .i64 a1_0, .int .i64 85, .int .i64 100, .int .i64 1] (by rfl) rfl rfl o72 ?_
   with_reducible refine (muldiv_Do.calls a1_0 85 100 1 t296 _ A3.out).mono ?_
   rintro e w9 ⟨rfl, hb⟩
   refine ⟨_, rfl, ?_⟩
   replace HB := aW (below_step o27 hb)
   replace HK := aW (KeepBut.trans o41 (KeepBut.of_below hb g none) (.inl rfl))
   replace BK295 := aW (blk_below (g := gb295) (o := .cells #[.int .i64 a1_0, .int .i64 a1_1, .int .i64 a1_2] 101 (0, 0)) o80 hb)
   replace HI0 := aW (IsS76.below o5 hb)
   (try clear hb)
   (try clear hb2)
   (try clear hk)
   (try clear hi)
   refine hK.out _ _ ⟨(IsS76.cell_0 HI0.out), (IsS76.cell_1 HI0.out), (IsS76.cell_2 HI0.out), (IsS76.cell_3 HI0.out), (IsS76.cell_4 HI0.out), (IsS76.cell_5 HI0.out), (IsS76.cell_6 HI0.out), (IsS76.cell_7 HI0.out), (IsS76.cell_8 HI0.out), (blk_cell BK295.out 0).trans rfl, (blk_cell BK295.out 1).trans rfl, (blk_cell BK295.out 2).trans rfl⟩ (fun hHeld => ?_)
   clear hK K
   refine no_ 12 ?_
   refine pq_ 8 13 (bl 12 511) HT_ ?_
   refine pq_ 9 14 (bl 12 1023) HT_ ?_
   refine pq_ 10 15 (bl 12 2047) HT_ ?_
   refine last_ (i := 11) (N := none) (bl 12 4095) rfl rfl (one_of HT_.out (by kernel_rfl)) (by decide) (fun K hK => ?_)
   have hs10 : w9.cell? ⟨g, 0, none⟩ = some (.int .i64 s0_0) := IsS76.cell_0 HI0.out
   have hfs10 := IsS76.froz_0 HI0.out
   have hns10_0 := NB295_0.out
   have hms10_0 := NB0_295.out
   refine skip_ (w1 := ?_) (by rfl) rfl ?_ ?_
   rotate_left
   ·go_simp
    rfl
   refine hK.out _ _ ?_
   clear hK K
   refine done_ (done_of HT_.out (by kernel_rfl)) ?_
   try go_wp2
   have n0_ : Aside0 ((w9.setCell ⟨g, 0, none⟩ (.int .i64 ji4)).heap[gb295]? = some (.cells #[.int .i64 a1_0, .int .i64 a1_1, .int .i64 a1_2] 101 (0, 0))) := ⟨by (with_reducible repeat (first | refine blk_drewN ?_ _ | refine blk_drew ?_ | refine blk_alloc ?_ _)); refine blk_far ?_ NB295_0.out _; (with_reducible repeat (first | refine blk_drewN ?_ _ | refine blk_drew ?_ | refine blk_alloc ?_ _)); exact BK295.out⟩
   have n1_ : Aside0 (IsS76 w0 (w9.setCell ⟨g, 0, none⟩ (.int .i64 ji4)) g ji4 s0_1 s0_2 s0_3 true s0_5 s0_6 s0_7 s0_8) := ⟨o8⟩
   have n2_ : Aside0 (KeepBut w (w9.setCell ⟨g, 0, none⟩ (.int .i64 ji4)) g none) := ⟨o44⟩
   have n3_ : Aside0 (Below w0.heap.size w0 (w9.setCell ⟨g, 0, none⟩ (.int .i64 ji4))) := ⟨o30⟩
   (try clear BK295)
   (try clear HI0)
   (try clear HK)
   (try clear HB)
   generalize (w9.setCell ⟨g, 0, none⟩ (.int .i64 ji4)) = w11 at n0_ n1_ n2_ n3_ ⊢
   have BK295 := n0_
   have HI0 := n1_
   have HK := n2_
   have HB := n3_
   clear n0_ n1_ n2_ n3_
   replace HB := aW (below_drew1 HB.out)
   replace HK := aW (keep_drew HK.out)
   replace HI0 := aW (IsS76.drew HI0.out)
   replace BK295 := aW (blk_drew BK295.out)
   refine start_ (n := 8) (S := fun w' => w'.cell? ⟨gb295, 0, none⟩ = some (.int .i64 a1_0) ∧ w'.cell? ⟨gb295, 1, none⟩ = some (.int .i64 a1_1) ∧ w'.cell? ⟨gb295, 2, none⟩ = some (.int .i64 a1_2) ∧ w'.cell? ⟨g, 0, none⟩ = some (.int .i64 ji4) ∧ w'.cell? ⟨g, 1, none⟩ = some (.int .i64 s0_1) ∧ w'.cell? ⟨g, 2, none⟩ = some (.int .i64 s0_2) ∧ w'.cell? ⟨g, 3, none⟩ = some (.int .i64 s0_3) ∧ w'.cell? ⟨g, 4, none⟩ = some (.bool true) ∧ w'.cell? ⟨g, 5, none⟩ = some (.int .i64 s0_5) ∧ w'.cell? ⟨g, 6, none⟩ = some (.int .i64 s0_6) ∧ w'.cell? ⟨g, 7, none⟩ = some (.bool s0_7) ∧ w'.cell? ⟨g, 8, none⟩ = some (.int .i64 s0_8)) (ds := []) (bl 8 0) (by kernel_rfl) rfl rfl ⟨(blk_cell BK295.out 0).trans rfl, (blk_cell BK295.out 1).trans rfl, (blk_cell BK295.out 2).trans rfl, (IsS76.cell_0 HI0.out), (IsS76.cell_1 HI0.out), (IsS76.cell_2 HI0.out), (IsS76.cell_3 HI0.out), (IsS76.cell_4 HI0.out), (IsS76.cell_5 HI0.out), (IsS76.cell_6 HI0.out), (IsS76.cell_7 HI0.out), (IsS76.cell_8 HI0.out)⟩ (fun hHeld => ?_); refine with_tabW aimd_Aimd_cut.tab2 aimd_Aimd_cut.bits2 (fun HT_ HW_ => ?_)
   generalize w11.drew = w12 at BK295 HI0 HK HB hHeld ⊢
   refine pq_ 0 16 (bl 8 1) HT_ ?_
   refine pq_ 2 18 (bl 8 5) HT_ ?_
   refine pq_ 3 19 (bl 8 13) HT_ ?_
   refine pq_ 4 20 (bl 8 29) HT_ ?_
   refine tq_ 1 17 (bl 8 31) HT_ HW_ hHeld ?_ (hr := by rintro w' ⟨s0, s1, s2, s3, s4, s5, s6, s7, s8, s9, s10, s11⟩; go_simp; with_reducible rfl)
   refine tq_ 5 21 (bl 8 63) HT_ HW_ hHeld ?_ (hr := by rintro w' ⟨s0, s1, s2, s3, s4, s5, s6, s7, s8, s9, s10, s11⟩; go_simp; with_reducible rfl)
   refine pq_ 6 22 (bl 8 127) HT_ ?_
   refine pq_ 7 4 (bl 8 255) HT_ ?_
   refine done_ (done_of HT_.out (by kernel_rfl)) ?_
   obtain ⟨HGz13, hgz13⟩ := HI0.out
   obtain ⟨hcz13_0, hfz13_0, hcz13_1, hfz13_1, hcz13_2, hfz13_2, hcz13_3, hfz13_3, hcz13_4, hfz13_4, hcz13_5, hfz13_5, hcz13_6, hfz13_6, hcz13_7, hfz13_7, hcz13_8, hfz13_8⟩ := bp9 HGz13
   clear HGz13 hgz13
   try go_wp2
   replace HB := aW (below_drew1 HB.out)
   replace HK := aW (keep_drew HK.out)
   replace HI0 := aW (IsS76.drew HI0.out)
   replace BK295 := aW (blk_drew BK295.out)
   refine start_ (n := 14) (S := fun w' => w'.cell? ⟨gb295, 0, none⟩ = some (.int .i64 a1_0) ∧ w'.cell? ⟨gb295, 1, none⟩ = some (.int .i64 a1_1) ∧ w'.cell? ⟨gb295, 2, none⟩ = some (.int .i64 a1_2) ∧ w'.cell? ⟨g, 0, none⟩ = some (.int .i64 ji4) ∧ w'.cell? ⟨g, 1, none⟩ = some (.int .i64 s0_1) ∧ w'.cell? ⟨g, 2, none⟩ = some (.int .i64 s0_2) ∧ w'.cell? ⟨g, 3, none⟩ = some (.int .i64 s0_3) ∧ w'.cell? ⟨g, 4, none⟩ = some (.bool true) ∧ w'.cell? ⟨g, 5, none⟩ = some (.int .i64 s0_5) ∧ w'.cell? ⟨g, 6, none⟩ = some (.int .i64 s0_6) ∧ w'.cell? ⟨g, 7, none⟩ = some (.bool s0_7) ∧ w'.cell? ⟨g, 8, none⟩ = some (.int .i64 s0_8)) (ds := []) (bl 14 0) (by kernel_rfl) rfl rfl ⟨(blk_cell BK295.out 0).trans rfl, (blk_cell BK295.out 1).trans rfl, (blk_cell BK295.out 2).trans rfl, (IsS76.cell_0 HI0.out), (IsS76.cell_1 HI0.out), (IsS76.cell_2 HI0.out), (IsS76.cell_3 HI0.out), (IsS76.cell_4 HI0.out), (IsS76.cell_5 HI0.out), (IsS76.cell_6 HI0.out), (IsS76.cell_7 HI0.out), (IsS76.cell_8 HI0.out)⟩ (fun hHeld => ?_); refine with_tabW aimd_Aimd_cut.tab7 aimd_Aimd_cut.bits7 (fun HT_ HW_ => ?_)
   generalize w12.drew = w14 at BK295 HI0 HK HB hHeld ⊢
   refine pq_ 0 68 (bl 14 1) HT_ ?_
   refine pq_ 2 70 (bl 14 5) HT_ ?_
   refine pq_ 3 71 (bl 14 13) HT_ ?_
   refine pq_ 4 72 (bl 14 29) HT_ ?_
   refine pq_ 6 74 (bl 14 93) HT_ ?_
   refine pq_ 7 75 (bl 14 221) HT_ ?_
   refine pq_ 8 76 (bl 14 477) HT_ ?_
   refine tq_ 1 69 (bl 14 479) HT_ HW_ hHeld ?_ (hr := by rintro w' ⟨s0, s1, s2, s3, s4, s5, s6, s7, s8, s9, s10, s11⟩; go_simp; with_reducible rfl)
   refine tq_ 5 73 (bl 14 511) HT_ HW_ hHeld ?_ (hr := by rintro w' ⟨s0, s1, s2, s3, s4, s5, s6, s7, s8, s9, s10, s11⟩; go_simp; with_reducible rfl)
   refine tq_ 9 77 (bl 14 1023) HT_ HW_ hHeld ?_ (hr := by rintro w' ⟨s0, s1, s2, s3, s4, s5, s6, s7, s8, s9, s10, s11⟩; go_simp; with_reducible rfl)
   refine pq_ 10 78 (bl 14 2047) HT_ ?_
   refine pq_ 11 79 (bl 14 4095) HT_ ?_
   refine pq_ 12 80 (bl 14 8191) HT_ ?_
   refine pq_ 13 67 (bl 14 16383) HT_ ?_
   refine done_ (done_of HT_.out (by kernel_rfl)) ?_
   have hnb15 := NB295_0.out
   have hnc15 := NB0_295.out
   obtain ⟨hcz16_0, hfz16_0, hcz16_1, hfz16_1, hcz16_2, hfz16_2⟩ := bp3 BK295.out
   obtain ⟨HGz17, hgz17⟩ := HI0.out
   obtain ⟨hcz17_0, hfz17_0, hcz17_1, hfz17_1, hcz17_2, hfz17_2, hcz17_3, hfz17_3, hcz17_4, hfz17_4, hcz17_5, hfz17_5, hcz17_6, hfz17_6, hcz17_7, hfz17_7, hcz17_8, hfz17_8⟩ := bp9 HGz17
   clear HGz17 hgz17
   try go_wp2
   first | go_end0 | ((try simp only [Exit.inBlock, Exit.then]); refine bodyPost_ret (results_none rfl _ _ _) rfl ?_)
   exact ⟨o55, o8, o30, o44⟩
  ·rw [if_neg c6] at H
   have c6b0 : decide (a1_0 < (wrap64 (s0_5 - (wrap64 (3 * s0_6))))) = false := decide_eq_false c6
   clear c6
   obtain ⟨t297, A18, H⟩ := bw H
   replace H : ((sat_Abs.f (wrap64 (a1_0 - s0_5))).bind fun t298 => ((muldiv_Do.f (wrap64 (t298 - s0_6)) 5 100 2).bind fun t299 => (some (ji4, s0_1, s0_2, 0, true, wrap64 (s0_5 + t297), wrap64 (s0_6 + t299), s0_7, s0_8)))) = some (r1, r2, r3, r4, r5, r6, r7, r8, r9) := H
   obtain ⟨t298, A19, H⟩ := bw H
   obtain ⟨t299, A20, H⟩ := bw H
   simp only [Option.some.injEq, Prod.mk.injEq] at H
   obtain ⟨rfl, rfl, rfl, rfl, rfl, rfl, rfl, rfl, rfl⟩ := H
   go_enter Tryd.func43, Tryd.ntmps43
   try go_wp2_with (first | ((with_reducible refine gate_dst (N := 3) rfl ?_); refine box_event ?hg (N := 3) ?hd (cs := #[.int .i64 a1_0, .int .i64 a1_1, .int .i64 a1_2]) (t := 101) ?hr ?_; (case hd => rfl); (case hg => rfl); (case hr => first | (go_simp; done) | (go_simp; rfl)); intro gb295 hg w21 hbox hb; have NB295_0 := aW ((by rw [hg]; exact Nat.ne_of_gt (IsS76.lt (show IsS76 w0 _ g s0_0 s0_1 s0_2 s0_3 true s0_5 s0_6 s0_7 s0_8 from o13)) : gb295 ≠ g)); have NB0_295 := aW ((by rw [hg]; exact Nat.ne_of_lt (IsS76.lt (show IsS76 w0 _ g s0_0 s0_1 s0_2 s0_3 true s0_5 s0_6 s0_7 s0_8 from o13)) : g ≠ gb295)); have GE295 := aW ((Nat.le_trans HW0.out (by rw [hg]; exact (keep_size (w := w) (g := g) (row := none) o69) : w.heap.size ≤ gb295) : w0.heap.size ≤ gb295)); have GW295 := aW ((by rw [hg]; exact (keep_size (w := w) (g := g) (row := none) o69) : w.heap.size ≤ gb295)); have BK295 := aW (hbox); replace HB := aW (below_step o50 hb); replace HK := aW (KeepBut.trans o69 (KeepBut.of_below hb g none) (.inl rfl)); replace HI0 := aW (IsS76.below o14 hb); clear hb hbox hg))
   replace HB := aW (below_drew1 HB.out)
   replace HK := aW (keep_drew HK.out)
   replace HI0 := aW (IsS76.drew HI0.out)
   replace BK295 := aW (blk_drew BK295.out)
   refine start_ (n := 12) (S := fun w' => w'.cell? ⟨g, 0, none⟩ = some (.int .i64 s0_0) ∧ w'.cell? ⟨g, 1, none⟩ = some (.int .i64 s0_1) ∧ w'.cell? ⟨g, 2, none⟩ = some (.int .i64 s0_2) ∧ w'.cell? ⟨g, 3, none⟩ = some (.int .i64 s0_3) ∧ w'.cell? ⟨g, 4, none⟩ = some (.bool true) ∧ w'.cell? ⟨g, 5, none⟩ = some (.int .i64 s0_5) ∧ w'.cell? ⟨g, 6, none⟩ = some (.int .i64 s0_6) ∧ w'.cell? ⟨g, 7, none⟩ = some (.bool s0_7) ∧ w'.cell? ⟨g, 8, none⟩ = some (.int .i64 s0_8) ∧ w'.cell? ⟨gb295, 0, none⟩ = some (.int .i64 a1_0) ∧ w'.cell? ⟨gb295, 1, none⟩ = some (.int .i64 a1_1) ∧ w'.cell? ⟨gb295, 2, none⟩ = some (.int .i64 a1_2)) (ds := [11]) (bl 12 0) (by kernel_rfl) rfl rfl ⟨(IsS76.cell_0 HI0.out), (IsS76.cell_1 HI0.out), (IsS76.cell_2 HI0.out), (IsS76.cell_3 HI0.out), (IsS76.cell_4 HI0.out), (IsS76.cell_5 HI0.out), (IsS76.cell_6 HI0.out), (IsS76.cell_7 HI0.out), (IsS76.cell_8 HI0.out), (blk_cell BK295.out 0).trans rfl, (blk_cell BK295.out 1).trans rfl, (blk_cell BK295.out 2).trans rfl⟩ (fun hHeld => ?_); refine with_tabW aimd_Aimd_cut.tab1 aimd_Aimd_cut.bits1 (fun HT_ HW_ => ?_)
   generalize w21.drew = w22 at BK295 HI0 HK HB hHeld ⊢
   refine pq_ 0 5 (bl 12 1) HT_ ?_
   refine pq_ 1 6 (bl 12 3) HT_ ?_
   refine pq_ 2 7 (bl 12 7) HT_ ?_
   refine pq_ 3 8 (bl 12 15) HT_ ?_
   refine pq_ 5 10 (bl 12 47) HT_ ?_
   refine tq_ 4 9 (bl 12 63) HT_ HW_ hHeld ?_ (hr := by rintro w' ⟨s0, s1, s2, s3, s4, s5, s6, s7, s8, s9, s10, s11⟩; go_simp; with_reducible rfl)
   refine tq_ 6 11 (bl 12 127) HT_ HW_ hHeld ?_ (hr := by rintro w' ⟨s0, s1, s2, s3, s4, s5, s6, s7, s8, s9, s10, s11⟩; go_simp; with_reducible rfl)
   refine one_ (i := 7) (N := some 12) (bl 12 255) rfl rfl (one_of HT_.out (by kernel_rfl)) (by decide) (fun K hK => ?_)
   refine goes_ Tryd.func44 (by kernel_rfl) rfl #[.int .i64 a1_0, .int .i64 85, .int .i64 100, .int .i64 1] (by rfl) rfl rfl o72 ?_
   with_reducible refine (muldiv_Do.calls a1_0 85 100 1 t296 _ A3.out).mono ?_
   rintro e w23 ⟨rfl, hb⟩
   refine ⟨_, rfl, ?_⟩
   replace HB := aW (below_step o27 hb)
   replace HK := aW (KeepBut.trans o41 (KeepBut.of_below hb g none) (.inl rfl))
   replace BK295 := aW (blk_below (g := gb295) (o := .cells #[.int .i64 a1_0, .int .i64 a1_1, .int .i64 a1_2] 101 (0, 0)) o80 hb)
   replace HI0 := aW (IsS76.below o5 hb)
   (try clear hb)
   (try clear hb2)
   (try clear hk)
   (try clear hi)
   refine hK.out _ _ ⟨(IsS76.cell_0 HI0.out), (IsS76.cell_1 HI0.out), (IsS76.cell_2 HI0.out), (IsS76.cell_3 HI0.out), (IsS76.cell_4 HI0.out), (IsS76.cell_5 HI0.out), (IsS76.cell_6 HI0.out), (IsS76.cell_7 HI0.out), (IsS76.cell_8 HI0.out), (blk_cell BK295.out 0).trans rfl, (blk_cell BK295.out 1).trans rfl, (blk_cell BK295.out 2).trans rfl⟩ (fun hHeld => ?_)
   clear hK K
   refine no_ 12 ?_
   refine pq_ 8 13 (bl 12 511) HT_ ?_
   refine pq_ 9 14 (bl 12 1023) HT_ ?_
   refine pq_ 10 15 (bl 12 2047) HT_ ?_
   refine last_ (i := 11) (N := none) (bl 12 4095) rfl rfl (one_of HT_.out (by kernel_rfl)) (by decide) (fun K hK => ?_)
   have hs24 : w23.cell? ⟨g, 0, none⟩ = some (.int .i64 s0_0) := IsS76.cell_0 HI0.out
   have hfs24 := IsS76.froz_0 HI0.out
   have hns24_0 := NB295_0.out
   have hms24_0 := NB0_295.out
   refine skip_ (w1 := ?_) (by rfl) rfl ?_ ?_
   rotate_left
   ·go_simp
    rfl
   refine hK.out _ _ ?_
   clear hK K
   refine done_ (done_of HT_.out (by kernel_rfl)) ?_
   try go_wp2
   have n0_ : Aside0 ((w23.setCell ⟨g, 0, none⟩ (.int .i64 ji4)).heap[gb295]? = some (.cells #[.int .i64 a1_0, .int .i64 a1_1, .int .i64 a1_2] 101 (0, 0))) := ⟨by (with_reducible repeat (first | refine blk_drewN ?_ _ | refine blk_drew ?_ | refine blk_alloc ?_ _)); refine blk_far ?_ NB295_0.out _; (with_reducible repeat (first | refine blk_drewN ?_ _ | refine blk_drew ?_ | refine blk_alloc ?_ _)); exact BK295.out⟩
   have n1_ : Aside0 (IsS76 w0 (w23.setCell ⟨g, 0, none⟩ (.int .i64 ji4)) g ji4 s0_1 s0_2 s0_3 true s0_5 s0_6 s0_7 s0_8) := ⟨o8⟩
   have n2_ : Aside0 (KeepBut w (w23.setCell ⟨g, 0, none⟩ (.int .i64 ji4)) g none) := ⟨o44⟩
   have n3_ : Aside0 (Below w0.heap.size w0 (w23.setCell ⟨g, 0, none⟩ (.int .i64 ji4))) := ⟨o30⟩
   (try clear BK295)
   (try clear HI0)
   (try clear HK)
   (try clear HB)
   generalize (w23.setCell ⟨g, 0, none⟩ (.int .i64 ji4)) = w25 at n0_ n1_ n2_ n3_ ⊢
   have BK295 := n0_
   have HI0 := n1_
   have HK := n2_
   have HB := n3_
   clear n0_ n1_ n2_ n3_
   replace HB := aW (below_drew1 HB.out)
   replace HK := aW (keep_drew HK.out)
   replace HI0 := aW (IsS76.drew HI0.out)
   replace BK295 := aW (blk_drew BK295.out)
   refine start_ (n := 8) (S := fun w' => w'.cell? ⟨gb295, 0, none⟩ = some (.int .i64 a1_0) ∧ w'.cell? ⟨gb295, 1, none⟩ = some (.int .i64 a1_1) ∧ w'.cell? ⟨gb295, 2, none⟩ = some (.int .i64 a1_2) ∧ w'.cell? ⟨g, 0, none⟩ = some (.int .i64 ji4) ∧ w'.cell? ⟨g, 1, none⟩ = some (.int .i64 s0_1) ∧ w'.cell? ⟨g, 2, none⟩ = some (.int .i64 s0_2) ∧ w'.cell? ⟨g, 3, none⟩ = some (.int .i64 s0_3) ∧ w'.cell? ⟨g, 4, none⟩ = some (.bool true) ∧ w'.cell? ⟨g, 5, none⟩ = some (.int .i64 s0_5) ∧ w'.cell? ⟨g, 6, none⟩ = some (.int .i64 s0_6) ∧ w'.cell? ⟨g, 7, none⟩ = some (.bool s0_7) ∧ w'.cell? ⟨g, 8, none⟩ = some (.int .i64 s0_8)) (ds := []) (bl 8 0) (by kernel_rfl) rfl rfl ⟨(blk_cell BK295.out 0).trans rfl, (blk_cell BK295.out 1).trans rfl, (blk_cell BK295.out 2).trans rfl, (IsS76.cell_0 HI0.out), (IsS76.cell_1 HI0.out), (IsS76.cell_2 HI0.out), (IsS76.cell_3 HI0.out), (IsS76.cell_4 HI0.out), (IsS76.cell_5 HI0.out), (IsS76.cell_6 HI0.out), (IsS76.cell_7 HI0.out), (IsS76.cell_8 HI0.out)⟩ (fun hHeld => ?_); refine with_tabW aimd_Aimd_cut.tab2 aimd_Aimd_cut.bits2 (fun HT_ HW_ => ?_)
   generalize w25.drew = w26 at BK295 HI0 HK HB hHeld ⊢
   refine pq_ 0 16 (bl 8 1) HT_ ?_
   refine pq_ 2 18 (bl 8 5) HT_ ?_
   refine pq_ 3 19 (bl 8 13) HT_ ?_
   refine pq_ 4 20 (bl 8 29) HT_ ?_
   refine tq_ 1 17 (bl 8 31) HT_ HW_ hHeld ?_ (hr := by rintro w' ⟨s0, s1, s2, s3, s4, s5, s6, s7, s8, s9, s10, s11⟩; go_simp; with_reducible rfl)
   refine tq_ 5 21 (bl 8 63) HT_ HW_ hHeld ?_ (hr := by rintro w' ⟨s0, s1, s2, s3, s4, s5, s6, s7, s8, s9, s10, s11⟩; go_simp; with_reducible rfl)
   refine pq_ 6 22 (bl 8 127) HT_ ?_
   refine pq_ 7 4 (bl 8 255) HT_ ?_
   refine done_ (done_of HT_.out (by kernel_rfl)) ?_
   obtain ⟨HGz27, hgz27⟩ := HI0.out
   obtain ⟨hcz27_0, hfz27_0, hcz27_1, hfz27_1, hcz27_2, hfz27_2, hcz27_3, hfz27_3, hcz27_4, hfz27_4, hcz27_5, hfz27_5, hcz27_6, hfz27_6, hcz27_7, hfz27_7, hcz27_8, hfz27_8⟩ := bp9 HGz27
   clear HGz27 hgz27
   try go_wp2
   replace HB := aW (below_drew1 HB.out)
   replace HK := aW (keep_drew HK.out)
   replace HI0 := aW (IsS76.drew HI0.out)
   replace BK295 := aW (blk_drew BK295.out)
   refine start_ (n := 14) (S := fun w' => w'.cell? ⟨gb295, 0, none⟩ = some (.int .i64 a1_0) ∧ w'.cell? ⟨gb295, 1, none⟩ = some (.int .i64 a1_1) ∧ w'.cell? ⟨gb295, 2, none⟩ = some (.int .i64 a1_2) ∧ w'.cell? ⟨g, 0, none⟩ = some (.int .i64 ji4) ∧ w'.cell? ⟨g, 1, none⟩ = some (.int .i64 s0_1) ∧ w'.cell? ⟨g, 2, none⟩ = some (.int .i64 s0_2) ∧ w'.cell? ⟨g, 3, none⟩ = some (.int .i64 s0_3) ∧ w'.cell? ⟨g, 4, none⟩ = some (.bool true) ∧ w'.cell? ⟨g, 5, none⟩ = some (.int .i64 s0_5) ∧ w'.cell? ⟨g, 6, none⟩ = some (.int .i64 s0_6) ∧ w'.cell? ⟨g, 7, none⟩ = some (.bool s0_7) ∧ w'.cell? ⟨g, 8, none⟩ = some (.int .i64 s0_8)) (ds := []) (bl 14 0) (by kernel_rfl) rfl rfl ⟨(blk_cell BK295.out 0).trans rfl, (blk_cell BK295.out 1).trans rfl, (blk_cell BK295.out 2).trans rfl, (IsS76.cell_0 HI0.out), (IsS76.cell_1 HI0.out), (IsS76.cell_2 HI0.out), (IsS76.cell_3 HI0.out), (IsS76.cell_4 HI0.out), (IsS76.cell_5 HI0.out), (IsS76.cell_6 HI0.out), (IsS76.cell_7 HI0.out), (IsS76.cell_8 HI0.out)⟩ (fun hHeld => ?_); refine with_tabW aimd_Aimd_cut.tab7 aimd_Aimd_cut.bits7 (fun HT_ HW_ => ?_)
   generalize w26.drew = w28 at BK295 HI0 HK HB hHeld ⊢
   refine pq_ 0 68 (bl 14 1) HT_ ?_
   refine pq_ 2 70 (bl 14 5) HT_ ?_
   refine pq_ 3 71 (bl 14 13) HT_ ?_
   refine pq_ 4 72 (bl 14 29) HT_ ?_
   refine pq_ 6 74 (bl 14 93) HT_ ?_
   refine pq_ 7 75 (bl 14 221) HT_ ?_
   refine pq_ 8 76 (bl 14 477) HT_ ?_
   refine tq_ 1 69 (bl 14 479) HT_ HW_ hHeld ?_ (hr := by rintro w' ⟨s0, s1, s2, s3, s4, s5, s6, s7, s8, s9, s10, s11⟩; go_simp; with_reducible rfl)
   refine tq_ 5 73 (bl 14 511) HT_ HW_ hHeld ?_ (hr := by rintro w' ⟨s0, s1, s2, s3, s4, s5, s6, s7, s8, s9, s10, s11⟩; go_simp; with_reducible rfl)
   refine tq_ 9 77 (bl 14 1023) HT_ HW_ hHeld ?_ (hr := by rintro w' ⟨s0, s1, s2, s3, s4, s5, s6, s7, s8, s9, s10, s11⟩; go_simp; with_reducible rfl)
   refine pq_ 10 78 (bl 14 2047) HT_ ?_
   refine pq_ 11 79 (bl 14 4095) HT_ ?_
   refine pq_ 12 80 (bl 14 8191) HT_ ?_
   refine pq_ 13 67 (bl 14 16383) HT_ ?_
   refine done_ (done_of HT_.out (by kernel_rfl)) ?_
   try go_wp2
   replace HB := aW (below_drew1 HB.out)
   replace HK := aW (keep_drew HK.out)
   replace HI0 := aW (IsS76.drew HI0.out)
   replace BK295 := aW (blk_drew BK295.out)
   refine start_ (n := 10) (S := fun w' => w'.cell? ⟨g, 0, none⟩ = some (.int .i64 ji4) ∧ w'.cell? ⟨g, 1, none⟩ = some (.int .i64 s0_1) ∧ w'.cell? ⟨g, 2, none⟩ = some (.int .i64 s0_2) ∧ w'.cell? ⟨g, 3, none⟩ = some (.int .i64 s0_3) ∧ w'.cell? ⟨g, 4, none⟩ = some (.bool true) ∧ w'.cell? ⟨g, 5, none⟩ = some (.int .i64 s0_5) ∧ w'.cell? ⟨g, 6, none⟩ = some (.int .i64 s0_6) ∧ w'.cell? ⟨g, 7, none⟩ = some (.bool s0_7) ∧ w'.cell? ⟨g, 8, none⟩ = some (.int .i64 s0_8)) (ds := [9]) (bl 10 0) (by kernel_rfl) rfl rfl ⟨(IsS76.cell_0 HI0.out), (IsS76.cell_1 HI0.out), (IsS76.cell_2 HI0.out), (IsS76.cell_3 HI0.out), (IsS76.cell_4 HI0.out), (IsS76.cell_5 HI0.out), (IsS76.cell_6 HI0.out), (IsS76.cell_7 HI0.out), (IsS76.cell_8 HI0.out)⟩ (fun hHeld => ?_); refine with_tabW aimd_Aimd_cut.tab3 aimd_Aimd_cut.bits3 (fun HT_ HW_ => ?_)
   generalize w28.drew = w29 at BK295 HI0 HK HB hHeld ⊢
   refine pq_ 0 23 (bl 10 1) HT_ ?_
   refine pq_ 1 24 (bl 10 3) HT_ ?_
   refine pq_ 2 25 (bl 10 7) HT_ ?_
   refine pq_ 4 27 (bl 10 23) HT_ ?_
   refine tq_ 3 26 (bl 10 31) HT_ HW_ hHeld ?_ (hr := by rintro w' ⟨s0, s1, s2, s3, s4, s5, s6, s7, s8⟩; go_simp; with_reducible rfl)
   refine one_ (i := 5) (N := some 28) (bl 10 63) rfl rfl (one_of HT_.out (by kernel_rfl)) (by decide) (fun K hK => ?_)
   refine goes_ Tryd.func44 (by kernel_rfl) rfl #[.int .i64 (wrap64 (a1_0 - s0_5)), .int .i64 5, .int .i64 100, .int .i64 2] (by rfl) rfl rfl o72 ?_
   with_reducible refine (muldiv_Do.calls (wrap64 (a1_0 - s0_5)) 5 100 2 t297 _ A18.out).mono ?_
   rintro e w30 ⟨rfl, hb⟩
   refine ⟨_, rfl, ?_⟩
   replace HB := aW (below_step o27 hb)
   replace HK := aW (KeepBut.trans o41 (KeepBut.of_below hb g none) (.inl rfl))
   replace BK295 := aW (blk_below (g := gb295) (o := .cells #[.int .i64 a1_0, .int .i64 a1_1, .int .i64 a1_2] 101 (0, 0)) o80 hb)
   replace HI0 := aW (IsS76.below o5 hb)
   (try clear hb)
   (try clear hb2)
   (try clear hk)
   (try clear hi)
   refine hK.out _ _ ⟨(IsS76.cell_0 HI0.out), (IsS76.cell_1 HI0.out), (IsS76.cell_2 HI0.out), (IsS76.cell_3 HI0.out), (IsS76.cell_4 HI0.out), (IsS76.cell_5 HI0.out), (IsS76.cell_6 HI0.out), (IsS76.cell_7 HI0.out), (IsS76.cell_8 HI0.out)⟩ (fun hHeld => ?_)
   clear hK K
   refine no_ 28 ?_
   refine pq_ 6 29 (bl 10 127) HT_ ?_
   refine pq_ 7 30 (bl 10 255) HT_ ?_
   refine pq_ 8 31 (bl 10 511) HT_ ?_
   refine last_ (i := 9) (N := none) (bl 10 1023) rfl rfl (one_of HT_.out (by kernel_rfl)) (by decide) (fun K hK => ?_)
   have hs31 : w30.cell? ⟨g, 5, none⟩ = some (.int .i64 s0_5) := IsS76.cell_5 HI0.out
   have hfs31 := IsS76.froz_5 HI0.out
   have hns31_0 := NB295_0.out
   have hms31_0 := NB0_295.out
   refine skip_ (w1 := ?_) (by rfl) rfl ?_ ?_
   rotate_left
   ·go_simp
    rfl
   refine hK.out _ _ ?_
   clear hK K
   refine done_ (done_of HT_.out (by kernel_rfl)) ?_
   try go_wp2
   have n0_ : Aside0 ((w30.setCell ⟨g, 5, none⟩ (.int .i64 (wrap64 (s0_5 + t297)))).heap[gb295]? = some (.cells #[.int .i64 a1_0, .int .i64 a1_1, .int .i64 a1_2] 101 (0, 0))) := ⟨by (with_reducible repeat (first | refine blk_drewN ?_ _ | refine blk_drew ?_ | refine blk_alloc ?_ _)); refine blk_far ?_ NB295_0.out _; (with_reducible repeat (first | refine blk_drewN ?_ _ | refine blk_drew ?_ | refine blk_alloc ?_ _)); exact BK295.out⟩
   have n1_ : Aside0 (IsS76 w0 (w30.setCell ⟨g, 5, none⟩ (.int .i64 (wrap64 (s0_5 + t297)))) g ji4 s0_1 s0_2 s0_3 true (wrap64 (s0_5 + t297)) s0_6 s0_7 s0_8) := ⟨o8⟩
   have n2_ : Aside0 (KeepBut w (w30.setCell ⟨g, 5, none⟩ (.int .i64 (wrap64 (s0_5 + t297)))) g none) := ⟨o44⟩
   have n3_ : Aside0 (Below w0.heap.size w0 (w30.setCell ⟨g, 5, none⟩ (.int .i64 (wrap64 (s0_5 + t297))))) := ⟨o30⟩
   (try clear BK295)
   (try clear HI0)
   (try clear HK)
   (try clear HB)
   generalize (w30.setCell ⟨g, 5, none⟩ (.int .i64 (wrap64 (s0_5 + t297)))) = w32 at n0_ n1_ n2_ n3_ ⊢
   have BK295 := n0_
   have HI0 := n1_
   have HK := n2_
   have HB := n3_
   clear n0_ n1_ n2_ n3_
   replace HB := aW (below_drew1 HB.out)
   replace HK := aW (keep_drew HK.out)
   replace HI0 := aW (IsS76.drew HI0.out)
   replace BK295 := aW (blk_drew BK295.out)
   refine start_ (n := 16) (S := fun w' => w'.cell? ⟨g, 0, none⟩ = some (.int .i64 ji4) ∧ w'.cell? ⟨g, 1, none⟩ = some (.int .i64 s0_1) ∧ w'.cell? ⟨g, 2, none⟩ = some (.int .i64 s0_2) ∧ w'.cell? ⟨g, 3, none⟩ = some (.int .i64 s0_3) ∧ w'.cell? ⟨g, 4, none⟩ = some (.bool true) ∧ w'.cell? ⟨g, 5, none⟩ = some (.int .i64 (wrap64 (s0_5 + t297))) ∧ w'.cell? ⟨g, 6, none⟩ = some (.int .i64 s0_6) ∧ w'.cell? ⟨g, 7, none⟩ = some (.bool s0_7) ∧ w'.cell? ⟨g, 8, none⟩ = some (.int .i64 s0_8)) (ds := [15]) (bl 16 0) (by kernel_rfl) rfl rfl ⟨(IsS76.cell_0 HI0.out), (IsS76.cell_1 HI0.out), (IsS76.cell_2 HI0.out), (IsS76.cell_3 HI0.out), (IsS76.cell_4 HI0.out), (IsS76.cell_5 HI0.out), (IsS76.cell_6 HI0.out), (IsS76.cell_7 HI0.out), (IsS76.cell_8 HI0.out)⟩ (fun hHeld => ?_); refine with_tabW aimd_Aimd_cut.tab4 aimd_Aimd_cut.bits4 (fun HT_ HW_ => ?_)
   generalize w32.drew = w33 at BK295 HI0 HK HB hHeld ⊢
   refine pq_ 0 32 (bl 16 1) HT_ ?_
   refine pq_ 1 33 (bl 16 3) HT_ ?_
   refine pq_ 2 34 (bl 16 7) HT_ ?_
   refine pq_ 4 36 (bl 16 23) HT_ ?_
   refine pq_ 6 38 (bl 16 87) HT_ ?_
   refine pq_ 7 39 (bl 16 215) HT_ ?_
   refine pq_ 8 40 (bl 16 471) HT_ ?_
   refine tq_ 3 35 (bl 16 479) HT_ HW_ hHeld ?_ (hr := by rintro w' ⟨s0, s1, s2, s3, s4, s5, s6, s7, s8⟩; go_simp; with_reducible rfl)
   refine tq_ 9 41 (bl 16 991) HT_ HW_ hHeld ?_ (hr := by rintro w' ⟨s0, s1, s2, s3, s4, s5, s6, s7, s8⟩; go_simp; with_reducible rfl)
   refine one_ (i := 5) (N := some 37) (bl 16 1023) rfl rfl (one_of HT_.out (by kernel_rfl)) (by decide) (fun K hK => ?_)
   refine goes_ Tryd.func37 (by kernel_rfl) rfl #[.int .i64 (wrap64 (a1_0 - s0_5))] (by rfl) rfl rfl o72 ?_
   with_reducible refine (sat_Abs.calls (wrap64 (a1_0 - s0_5)) t298 _ A19.out).mono ?_
   rintro e w34 ⟨rfl, hb⟩
   refine ⟨_, rfl, ?_⟩
   replace HB := aW (below_step o27 hb)
   replace HK := aW (KeepBut.trans o41 (KeepBut.of_below hb g none) (.inl rfl))
   replace BK295 := aW (blk_below (g := gb295) (o := .cells #[.int .i64 a1_0, .int .i64 a1_1, .int .i64 a1_2] 101 (0, 0)) o80 hb)
   replace HI0 := aW (IsS76.below o5 hb)
   (try clear hb)
   (try clear hb2)
   (try clear hk)
   (try clear hi)
   refine hK.out _ _ ⟨(IsS76.cell_0 HI0.out), (IsS76.cell_1 HI0.out), (IsS76.cell_2 HI0.out), (IsS76.cell_3 HI0.out), (IsS76.cell_4 HI0.out), (IsS76.cell_5 HI0.out), (IsS76.cell_6 HI0.out), (IsS76.cell_7 HI0.out), (IsS76.cell_8 HI0.out)⟩ (fun hHeld => ?_)
   clear hK K
   refine no_ 37 ?_
   refine pq_ 10 42 (bl 16 2047) HT_ ?_
   refine one_ (i := 11) (N := some 43) (bl 16 4095) rfl rfl (one_of HT_.out (by kernel_rfl)) (by decide) (fun K hK => ?_)
   refine goes_ Tryd.func44 (by kernel_rfl) rfl #[.int .i64 (wrap64 (t298 - s0_6)), .int .i64 5, .int .i64 100, .int .i64 2] (by rfl) rfl rfl o72 ?_
   with_reducible refine (muldiv_Do.calls (wrap64 (t298 - s0_6)) 5 100 2 t299 _ A20.out).mono ?_
   rintro e w35 ⟨rfl, hb⟩
   refine ⟨_, rfl, ?_⟩
   replace HB := aW (below_step o27 hb)
   replace HK := aW (KeepBut.trans o41 (KeepBut.of_below hb g none) (.inl rfl))
   replace BK295 := aW (blk_below (g := gb295) (o := .cells #[.int .i64 a1_0, .int .i64 a1_1, .int .i64 a1_2] 101 (0, 0)) o80 hb)
   replace HI0 := aW (IsS76.below o5 hb)
   (try clear hb)
   (try clear hb2)
   (try clear hk)
   (try clear hi)
   refine hK.out _ _ ⟨(IsS76.cell_0 HI0.out), (IsS76.cell_1 HI0.out), (IsS76.cell_2 HI0.out), (IsS76.cell_3 HI0.out), (IsS76.cell_4 HI0.out), (IsS76.cell_5 HI0.out), (IsS76.cell_6 HI0.out), (IsS76.cell_7 HI0.out), (IsS76.cell_8 HI0.out)⟩ (fun hHeld => ?_)
   clear hK K
   refine no_ 43 ?_
   refine pq_ 12 44 (bl 16 8191) HT_ ?_
   refine pq_ 13 45 (bl 16 16383) HT_ ?_
   refine pq_ 14 46 (bl 16 32767) HT_ ?_
   refine last_ (i := 15) (N := none) (bl 16 65535) rfl rfl (one_of HT_.out (by kernel_rfl)) (by decide) (fun K hK => ?_)
   have hs36 : w35.cell? ⟨g, 6, none⟩ = some (.int .i64 s0_6) := IsS76.cell_6 HI0.out
   have hfs36 := IsS76.froz_6 HI0.out
   have hns36_0 := NB295_0.out
   have hms36_0 := NB0_295.out
   refine skip_ (w1 := ?_) (by rfl) rfl ?_ ?_
   rotate_left
   ·go_simp
    rfl
   refine hK.out _ _ ?_
   clear hK K
   refine done_ (done_of HT_.out (by kernel_rfl)) ?_
   obtain ⟨HGz37, hgz37⟩ := HI0.out
   obtain ⟨hcz37_0, hfz37_0, hcz37_1, hfz37_1, hcz37_2, hfz37_2, hcz37_3, hfz37_3, hcz37_4, hfz37_4, hcz37_5, hfz37_5, hcz37_6, hfz37_6, hcz37_7, hfz37_7, hcz37_8, hfz37_8⟩ := bp9 HGz37
   clear HGz37 hgz37
   try go_wp2
   first | go_end0 | ((try simp only [Exit.inBlock, Exit.then]); refine bodyPost_ret (results_none rfl _ _ _) rfl ?_)
   exact ⟨o55, o8, o30, o44⟩
 ·replace c5 := Bool.eq_false_iff.mpr c5
  subst c5
  have H1 : (some (ji4, s0_1, s0_2, 0, true, a1_0, wrap64 (Int.tdiv a1_0 10), s0_7, s0_8)) = some (r1, r2, r3, r4, r5, r6, r7, r8, r9) := by rw [if_neg (show ¬ (false = true) by decide)] at H; exact H
  clear H
  have H := H1
  clear H1
  simp only [Option.some.injEq, Prod.mk.injEq] at H
  obtain ⟨rfl, rfl, rfl, rfl, rfl, rfl, rfl, rfl, rfl⟩ := H
  go_enter Tryd.func43, Tryd.ntmps43
  try go_wp2_with (first | ((with_reducible refine gate_dst (N := 3) rfl ?_); refine box_event ?hg (N := 3) ?hd (cs := #[.int .i64 a1_0, .int .i64 a1_1, .int .i64 a1_2]) (t := 101) ?hr ?_; (case hd => rfl); (case hg => rfl); (case hr => first | (go_simp; done) | (go_simp; rfl)); intro gb295 hg w38 hbox hb; have NB295_0 := aW ((by rw [hg]; exact Nat.ne_of_gt (IsS76.lt (show IsS76 w0 _ g s0_0 s0_1 s0_2 s0_3 false s0_5 s0_6 s0_7 s0_8 from o13)) : gb295 ≠ g)); have NB0_295 := aW ((by rw [hg]; exact Nat.ne_of_lt (IsS76.lt (show IsS76 w0 _ g s0_0 s0_1 s0_2 s0_3 false s0_5 s0_6 s0_7 s0_8 from o13)) : g ≠ gb295)); have GE295 := aW ((Nat.le_trans HW0.out (by rw [hg]; exact (keep_size (w := w) (g := g) (row := none) o69) : w.heap.size ≤ gb295) : w0.heap.size ≤ gb295)); have GW295 := aW ((by rw [hg]; exact (keep_size (w := w) (g := g) (row := none) o69) : w.heap.size ≤ gb295)); have BK295 := aW (hbox); replace HB := aW (below_step o50 hb); replace HK := aW (KeepBut.trans o69 (KeepBut.of_below hb g none) (.inl rfl)); replace HI0 := aW (IsS76.below o14 hb); clear hb hbox hg))
  replace HB := aW (below_drew1 HB.out)
  replace HK := aW (keep_drew HK.out)
  replace HI0 := aW (IsS76.drew HI0.out)
  replace BK295 := aW (blk_drew BK295.out)
  refine start_ (n := 12) (S := fun w' => w'.cell? ⟨g, 0, none⟩ = some (.int .i64 s0_0) ∧ w'.cell? ⟨g, 1, none⟩ = some (.int .i64 s0_1) ∧ w'.cell? ⟨g, 2, none⟩ = some (.int .i64 s0_2) ∧ w'.cell? ⟨g, 3, none⟩ = some (.int .i64 s0_3) ∧ w'.cell? ⟨g, 4, none⟩ = some (.bool false) ∧ w'.cell? ⟨g, 5, none⟩ = some (.int .i64 s0_5) ∧ w'.cell? ⟨g, 6, none⟩ = some (.int .i64 s0_6) ∧ w'.cell? ⟨g, 7, none⟩ = some (.bool s0_7) ∧ w'.cell? ⟨g, 8, none⟩ = some (.int .i64 s0_8) ∧ w'.cell? ⟨gb295, 0, none⟩ = some (.int .i64 a1_0) ∧ w'.cell? ⟨gb295, 1, none⟩ = some (.int .i64 a1_1) ∧ w'.cell? ⟨gb295, 2, none⟩ = some (.int .i64 a1_2)) (ds := [11]) (bl 12 0) (by kernel_rfl) rfl rfl ⟨(IsS76.cell_0 HI0.out), (IsS76.cell_1 HI0.out), (IsS76.cell_2 HI0.out), (IsS76.cell_3 HI0.out), (IsS76.cell_4 HI0.out), (IsS76.cell_5 HI0.out), (IsS76.cell_6 HI0.out), (IsS76.cell_7 HI0.out), (IsS76.cell_8 HI0.out), (blk_cell BK295.out 0).trans rfl, (blk_cell BK295.out 1).trans rfl, (blk_cell BK295.out 2).trans rfl⟩ (fun hHeld => ?_); refine with_tabW aimd_Aimd_cut.tab1 aimd_Aimd_cut.bits1 (fun HT_ HW_ => ?_)
  generalize w38.drew = w39 at BK295 HI0 HK HB hHeld ⊢
  refine pq_ 0 5 (bl 12 1) HT_ ?_
  refine pq_ 1 6 (bl 12 3) HT_ ?_
  refine pq_ 2 7 (bl 12 7) HT_ ?_
  refine pq_ 3 8 (bl 12 15) HT_ ?_
  refine pq_ 5 10 (bl 12 47) HT_ ?_
  refine tq_ 4 9 (bl 12 63) HT_ HW_ hHeld ?_ (hr := by rintro w' ⟨s0, s1, s2, s3, s4, s5, s6, s7, s8, s9, s10, s11⟩; go_simp; with_reducible rfl)
  refine tq_ 6 11 (bl 12 127) HT_ HW_ hHeld ?_ (hr := by rintro w' ⟨s0, s1, s2, s3, s4, s5, s6, s7, s8, s9, s10, s11⟩; go_simp; with_reducible rfl)
  refine one_ (i := 7) (N := some 12) (bl 12 255) rfl rfl (one_of HT_.out (by kernel_rfl)) (by decide) (fun K hK => ?_)
  refine goes_ Tryd.func44 (by kernel_rfl) rfl #[.int .i64 a1_0, .int .i64 85, .int .i64 100, .int .i64 1] (by rfl) rfl rfl o72 ?_
  with_reducible refine (muldiv_Do.calls a1_0 85 100 1 t296 _ A3.out).mono ?_
  rintro e w40 ⟨rfl, hb⟩
  refine ⟨_, rfl, ?_⟩
  replace HB := aW (below_step o27 hb)
  replace HK := aW (KeepBut.trans o41 (KeepBut.of_below hb g none) (.inl rfl))
  replace BK295 := aW (blk_below (g := gb295) (o := .cells #[.int .i64 a1_0, .int .i64 a1_1, .int .i64 a1_2] 101 (0, 0)) o80 hb)
  replace HI0 := aW (IsS76.below o5 hb)
  (try clear hb)
  (try clear hb2)
  (try clear hk)
  (try clear hi)
  refine hK.out _ _ ⟨(IsS76.cell_0 HI0.out), (IsS76.cell_1 HI0.out), (IsS76.cell_2 HI0.out), (IsS76.cell_3 HI0.out), (IsS76.cell_4 HI0.out), (IsS76.cell_5 HI0.out), (IsS76.cell_6 HI0.out), (IsS76.cell_7 HI0.out), (IsS76.cell_8 HI0.out), (blk_cell BK295.out 0).trans rfl, (blk_cell BK295.out 1).trans rfl, (blk_cell BK295.out 2).trans rfl⟩ (fun hHeld => ?_)
  clear hK K
  refine no_ 12 ?_
  refine pq_ 8 13 (bl 12 511) HT_ ?_
  refine pq_ 9 14 (bl 12 1023) HT_ ?_
  refine pq_ 10 15 (bl 12 2047) HT_ ?_
  refine last_ (i := 11) (N := none) (bl 12 4095) rfl rfl (one_of HT_.out (by kernel_rfl)) (by decide) (fun K hK => ?_)
  have hs41 : w40.cell? ⟨g, 0, none⟩ = some (.int .i64 s0_0) := IsS76.cell_0 HI0.out
  have hfs41 := IsS76.froz_0 HI0.out
  have hns41_0 := NB295_0.out
  have hms41_0 := NB0_295.out
  refine skip_ (w1 := ?_) (by rfl) rfl ?_ ?_
  rotate_left
  ·go_simp
   rfl
  refine hK.out _ _ ?_
  clear hK K
  refine done_ (done_of HT_.out (by kernel_rfl)) ?_
  try go_wp2
  have n0_ : Aside0 ((w40.setCell ⟨g, 0, none⟩ (.int .i64 ji4)).heap[gb295]? = some (.cells #[.int .i64 a1_0, .int .i64 a1_1, .int .i64 a1_2] 101 (0, 0))) := ⟨by (with_reducible repeat (first | refine blk_drewN ?_ _ | refine blk_drew ?_ | refine blk_alloc ?_ _)); refine blk_far ?_ NB295_0.out _; (with_reducible repeat (first | refine blk_drewN ?_ _ | refine blk_drew ?_ | refine blk_alloc ?_ _)); exact BK295.out⟩
  have n1_ : Aside0 (IsS76 w0 (w40.setCell ⟨g, 0, none⟩ (.int .i64 ji4)) g ji4 s0_1 s0_2 s0_3 false s0_5 s0_6 s0_7 s0_8) := ⟨o8⟩
  have n2_ : Aside0 (KeepBut w (w40.setCell ⟨g, 0, none⟩ (.int .i64 ji4)) g none) := ⟨o44⟩
  have n3_ : Aside0 (Below w0.heap.size w0 (w40.setCell ⟨g, 0, none⟩ (.int .i64 ji4))) := ⟨o30⟩
  (try clear BK295)
  (try clear HI0)
  (try clear HK)
  (try clear HB)
  generalize (w40.setCell ⟨g, 0, none⟩ (.int .i64 ji4)) = w42 at n0_ n1_ n2_ n3_ ⊢
  have BK295 := n0_
  have HI0 := n1_
  have HK := n2_
  have HB := n3_
  clear n0_ n1_ n2_ n3_
  replace HB := aW (below_drew1 HB.out)
  replace HK := aW (keep_drew HK.out)
  replace HI0 := aW (IsS76.drew HI0.out)
  replace BK295 := aW (blk_drew BK295.out)
  refine start_ (n := 8) (S := fun w' => w'.cell? ⟨gb295, 0, none⟩ = some (.int .i64 a1_0) ∧ w'.cell? ⟨gb295, 1, none⟩ = some (.int .i64 a1_1) ∧ w'.cell? ⟨gb295, 2, none⟩ = some (.int .i64 a1_2) ∧ w'.cell? ⟨g, 0, none⟩ = some (.int .i64 ji4) ∧ w'.cell? ⟨g, 1, none⟩ = some (.int .i64 s0_1) ∧ w'.cell? ⟨g, 2, none⟩ = some (.int .i64 s0_2) ∧ w'.cell? ⟨g, 3, none⟩ = some (.int .i64 s0_3) ∧ w'.cell? ⟨g, 4, none⟩ = some (.bool false) ∧ w'.cell? ⟨g, 5, none⟩ = some (.int .i64 s0_5) ∧ w'.cell? ⟨g, 6, none⟩ = some (.int .i64 s0_6) ∧ w'.cell? ⟨g, 7, none⟩ = some (.bool s0_7) ∧ w'.cell? ⟨g, 8, none⟩ = some (.int .i64 s0_8)) (ds := []) (bl 8 0) (by kernel_rfl) rfl rfl ⟨(blk_cell BK295.out 0).trans rfl, (blk_cell BK295.out 1).trans rfl, (blk_cell BK295.out 2).trans rfl, (IsS76.cell_0 HI0.out), (IsS76.cell_1 HI0.out), (IsS76.cell_2 HI0.out), (IsS76.cell_3 HI0.out), (IsS76.cell_4 HI0.out), (IsS76.cell_5 HI0.out), (IsS76.cell_6 HI0.out), (IsS76.cell_7 HI0.out), (IsS76.cell_8 HI0.out)⟩ (fun hHeld => ?_); refine with_tabW aimd_Aimd_cut.tab2 aimd_Aimd_cut.bits2 (fun HT_ HW_ => ?_)
  generalize w42.drew = w43 at BK295 HI0 HK HB hHeld ⊢
  refine pq_ 0 16 (bl 8 1) HT_ ?_
  refine pq_ 2 18 (bl 8 5) HT_ ?_
  refine pq_ 3 19 (bl 8 13) HT_ ?_
  refine pq_ 4 20 (bl 8 29) HT_ ?_
  refine tq_ 1 17 (bl 8 31) HT_ HW_ hHeld ?_ (hr := by rintro w' ⟨s0, s1, s2, s3, s4, s5, s6, s7, s8, s9, s10, s11⟩; go_simp; with_reducible rfl)
  refine tq_ 5 21 (bl 8 63) HT_ HW_ hHeld ?_ (hr := by rintro w' ⟨s0, s1, s2, s3, s4, s5, s6, s7, s8, s9, s10, s11⟩; go_simp; with_reducible rfl)
  refine pq_ 6 22 (bl 8 127) HT_ ?_
  refine pq_ 7 4 (bl 8 255) HT_ ?_
  refine done_ (done_of HT_.out (by kernel_rfl)) ?_
  obtain ⟨HGz44, hgz44⟩ := HI0.out
  obtain ⟨hcz44_0, hfz44_0, hcz44_1, hfz44_1, hcz44_2, hfz44_2, hcz44_3, hfz44_3, hcz44_4, hfz44_4, hcz44_5, hfz44_5, hcz44_6, hfz44_6, hcz44_7, hfz44_7, hcz44_8, hfz44_8⟩ := bp9 HGz44
  clear HGz44 hgz44
  try go_wp2
  replace HB := aW (below_drew1 HB.out)
  replace HK := aW (keep_drew HK.out)
  replace HI0 := aW (IsS76.drew HI0.out)
  replace BK295 := aW (blk_drew BK295.out)
  refine start_ (n := 17) (S := fun w' => w'.cell? ⟨gb295, 0, none⟩ = some (.int .i64 a1_0) ∧ w'.cell? ⟨gb295, 1, none⟩ = some (.int .i64 a1_1) ∧ w'.cell? ⟨gb295, 2, none⟩ = some (.int .i64 a1_2)) (ds := []) (bl 17 0) (by kernel_rfl) rfl rfl ⟨(blk_cell BK295.out 0).trans rfl, (blk_cell BK295.out 1).trans rfl, (blk_cell BK295.out 2).trans rfl⟩ (fun hHeld => ?_); refine with_tabW aimd_Aimd_cut.tab6 aimd_Aimd_cut.bits6 (fun HT_ HW_ => ?_)
  generalize w43.drew = w45 at BK295 HI0 HK HB hHeld ⊢
  refine pq_ 0 53 (bl 17 1) HT_ ?_
  refine pq_ 1 54 (bl 17 3) HT_ ?_
  refine pq_ 2 55 (bl 17 7) HT_ ?_
  refine pq_ 3 56 (bl 17 15) HT_ ?_
  refine pq_ 5 58 (bl 17 47) HT_ ?_
  refine pq_ 8 61 (bl 17 303) HT_ ?_
  refine pq_ 9 62 (bl 17 815) HT_ ?_
  refine tq_ 4 57 (bl 17 831) HT_ HW_ hHeld ?_ (hr := by rintro w' ⟨s0, s1, s2⟩; go_simp; with_reducible rfl)
  refine tq_ 6 59 (bl 17 895) HT_ HW_ hHeld ?_ (hr := by rintro w' ⟨s0, s1, s2⟩; go_simp; with_reducible rfl)
  refine pq_ 7 60 (bl 17 1023) HT_ ?_
  refine one_ (i := 10) (N := none) (bl 17 2047) rfl rfl (one_of HT_.out (by kernel_rfl)) (by decide) (fun K hK => ?_)
  have hs46 : w45.cell? ⟨g, 4, none⟩ = some (.bool false) := IsS76.cell_4 HI0.out
  have hfs46 := IsS76.froz_4 HI0.out
  have hns46_0 := NB295_0.out
  have hms46_0 := NB0_295.out
  refine skip_ (w1 := ?_) (by rfl) rfl ?_ ?_
  rotate_left
  ·go_simp
   rfl
  refine hK.out _ _ ⟨((cell_far (p := ⟨g, _, none⟩) NB295_0.out _).trans (hHeld.1)), ((cell_far (p := ⟨g, _, none⟩) NB295_0.out _).trans (hHeld.2.1)), ((cell_far (p := ⟨g, _, none⟩) NB295_0.out _).trans (hHeld.2.2))⟩ (fun hHeld => ?_)
  clear hK K
  refine pq_ 11 63 (bl 17 4095) HT_ ?_
  refine pq_ 12 64 (bl 17 8191) HT_ ?_
  refine one_ (i := 13) (N := none) (bl 17 16383) rfl rfl (one_of HT_.out (by kernel_rfl)) (by decide) (fun K hK => ?_)
  have hs47 : w45.cell? ⟨g, 5, none⟩ = some (.int .i64 s0_5) := IsS76.cell_5 HI0.out
  have hfs47 := IsS76.froz_5 HI0.out
  have hns47_0 := NB295_0.out
  have hms47_0 := NB0_295.out
  refine skip_ (w1 := ?_) (by rfl) rfl ?_ ?_
  rotate_left
  ·go_simp
   rfl
  refine hK.out _ _ ⟨((cell_far (p := ⟨g, _, none⟩) NB295_0.out _).trans (hHeld.1)), ((cell_far (p := ⟨g, _, none⟩) NB295_0.out _).trans (hHeld.2.1)), ((cell_far (p := ⟨g, _, none⟩) NB295_0.out _).trans (hHeld.2.2))⟩ (fun hHeld => ?_)
  clear hK K
  refine pq_ 14 65 (bl 17 32767) HT_ ?_
  refine pq_ 15 66 (bl 17 65535) HT_ ?_
  refine one_ (i := 16) (N := none) (bl 17 131071) rfl rfl (one_of HT_.out (by kernel_rfl)) (by decide) (fun K hK => ?_)
  have hs48 : w45.cell? ⟨g, 6, none⟩ = some (.int .i64 s0_6) := IsS76.cell_6 HI0.out
  have hfs48 := IsS76.froz_6 HI0.out
  have hns48_0 := NB295_0.out
  have hms48_0 := NB0_295.out
  refine skip_ (w1 := ?_) (by rfl) rfl ?_ ?_
  rotate_left
  ·go_simp
   rfl
  refine hK.out _ _ ⟨((cell_far (p := ⟨g, _, none⟩) NB295_0.out _).trans (hHeld.1)), ((cell_far (p := ⟨g, _, none⟩) NB295_0.out _).trans (hHeld.2.1)), ((cell_far (p := ⟨g, _, none⟩) NB295_0.out _).trans (hHeld.2.2))⟩ (fun hHeld => ?_)
  clear hK K
  refine done_ (done_of HT_.out (by kernel_rfl)) ?_
  obtain ⟨HGz49, hgz49⟩ := HI0.out
  obtain ⟨hcz49_0, hfz49_0, hcz49_1, hfz49_1, hcz49_2, hfz49_2, hcz49_3, hfz49_3, hcz49_4, hfz49_4, hcz49_5, hfz49_5, hcz49_6, hfz49_6, hcz49_7, hfz49_7, hcz49_8, hfz49_8⟩ := bp9 HGz49
  clear HGz49 hgz49
  try go_wp2
  first | go_end0 | ((try simp only [Exit.inBlock, Exit.then]); refine bodyPost_ret (results_none rfl _ _ _) rfl ?_)
  exact ⟨o55, o8, o30, o44⟩
end Go.Proofs.YtphgeljglhjamaaDoor.P
end

section
namespace Go.Proofs.YtphgeljglhjamaaDoor.P
open Go.RowKit Go.Proofs.YtphgeljglhjamaaDoorW.PrintWords Go.Proofs.YtphgeljglhjamaaDoorW.PrintLast Go.Proofs.YtphgeljglhjamaaDoorW.PrintMore
attribute [local go_sem] max2_int min2_int max_two min_two max_three min_three max_four min_four
set_option linter.unusedVariables false
set_option linter.unusedSimpArgs false
def aimd_Aimd_Update.j0 : Nat → Int → Int → Int → Int → Int → Int → Bool → Int → Int → Bool → Int → Int → Int → Int → Option (Int × Int × Int × Int × Int × Bool × Int × Int × Bool × Int)
 | 0, _, _, _, _, _, _, _, _, _, _, _, _, _, _ => none
 | k + 1, x1, x4, x1000, x1001, x1002, x1003, x1004, x1005, x1006, x1007, x1008, x304000, x304001, x304002 => if x1 = 1 then ((mkmap.f).bind fun t305 => ((aimd_Aimd_cut.f x1000 x1001 x1002 2 x1004 x1005 x1006 true x4 x304000 x304001 x304002).bind fun bt306 => ((sat_Clamp.f bt306.1 bt306.2.1 bt306.2.2.1).bind fun t315 => (some (t315, t315, bt306.2.1, bt306.2.2.1, bt306.2.2.2.1, bt306.2.2.2.2.1, bt306.2.2.2.2.2.1, bt306.2.2.2.2.2.2.1, bt306.2.2.2.2.2.2.2.1, bt306.2.2.2.2.2.2.2.2))))) else (if x1 = 2 then ((mkmap.f).bind fun t316 => ((aimd_Aimd_hold.f x1000 x1001 x1002 0 x1004 x1005 x1006 true x4 x304000 x304001 x304002).bind fun bt317 => ((sat_Clamp.f bt317.1 bt317.2.1 bt317.2.2.1).bind fun t326 => (some (t326, t326, bt317.2.1, bt317.2.2.1, bt317.2.2.2.1, bt317.2.2.2.2.1, bt317.2.2.2.2.2.1, bt317.2.2.2.2.2.2.1, bt317.2.2.2.2.2.2.2.1, bt317.2.2.2.2.2.2.2.2))))) else (if x1003 = 2 then ((mkmap.f).bind fun t327 => ((aimd_Aimd_hold.f x1000 x1001 x1002 0 x1004 x1005 x1006 true x4 x304000 x304001 x304002).bind fun bt328 => ((sat_Clamp.f bt328.1 bt328.2.1 bt328.2.2.1).bind fun t337 => (some (t337, t337, bt328.2.1, bt328.2.2.1, bt328.2.2.2.1, bt328.2.2.2.2.1, bt328.2.2.2.2.2.1, bt328.2.2.2.2.2.2.1, bt328.2.2.2.2.2.2.2.1, bt328.2.2.2.2.2.2.2.2))))) else ((mkmap.f).bind fun t338 => ((aimd_Aimd_lift.f k x1000 x1001 x1002 1 x1004 x1005 x1006 true x4 x304000 x304001 x304002).bind fun bt339 => ((sat_Clamp.f bt339.1 bt339.2.1 bt339.2.2.1).bind fun t348 => (some (t348, t348, bt339.2.1, bt339.2.2.1, bt339.2.2.2.1, bt339.2.2.2.2.1, bt339.2.2.2.2.2.1, bt339.2.2.2.2.2.2.1, bt339.2.2.2.2.2.2.2.1, bt339.2.2.2.2.2.2.2.2)))))))
def aimd_Aimd_Update.f (k : Nat) (s0_0 : Int) (s0_1 : Int) (s0_2 : Int) (s0_3 : Int) (s0_4 : Bool) (s0_5 : Int) (s0_6 : Int) (s0_7 : Bool) (s0_8 : Int) (a1 : Int) (a2 : Int) (a3 : Int) (a4 : Int) : Option (Int × Int × Int × Int × Int × Bool × Int × Int × Bool × Int) := (sat_Clamp.f a4 0 1125899906842624).bind fun t300 => ((sat_Clamp.f a2 0 17179869184).bind fun t301 => ((sat_Clamp.f a3 1000 1000000).bind fun t302 => (if s0_7 = true then ((sat_Clamp.f (wrap64 (t300 - s0_8)) 0 1000000).bind fun t304 => (aimd_Aimd_Update.j0 k a1 t300 s0_0 s0_1 s0_2 s0_3 s0_4 s0_5 s0_6 s0_7 s0_8 t301 t302 t304)) else (aimd_Aimd_Update.j0 k a1 t300 s0_0 s0_1 s0_2 s0_3 s0_4 s0_5 s0_6 s0_7 s0_8 t301 t302 0))))
theorem aimd_Aimd_Update.mono_l : ∀ k, (∀ y0 y1 y2 y3 y4 y5 y6 y7 y8 y9 y10 y11 y12 y13, LeO (aimd_Aimd_Update.j0 k y0 y1 y2 y3 y4 y5 y6 y7 y8 y9 y10 y11 y12 y13) (aimd_Aimd_Update.j0 (k + 1) y0 y1 y2 y3 y4 y5 y6 y7 y8 y9 y10 y11 y12 y13))
 | 0 => fun _ _ _ _ _ _ _ _ _ _ _ _ _ _ r h => by simp [aimd_Aimd_Update.j0] at h
 | k + 1 => by
  have ih0 := aimd_Aimd_Update.mono_l k
  ·intro y0 y1 y2 y3 y4 y5 y6 y7 y8 y9 y10 y11 y12 y13
   unfold aimd_Aimd_Update.j0
   repeat' first
   | (with_reducible exact ih0 _ _ _ _ _ _ _ _ _ _ _ _ _ _)
   | (with_reducible exact aimd_Aimd_lift.mono _ _ _ _ _ _ _ _ _ _ _ _ _)
   | (with_reducible exact LeO.refl _)
   | (with_reducible exact LeO.none _)
   | (with_reducible refine LeO.ite ?_ ?_)
   | (with_reducible refine LeO.bind ?_ (fun _ => ?_))
   | exact ih0 _ _ _ _ _ _ _ _ _ _ _ _ _ _
   | exact aimd_Aimd_lift.mono _ _ _ _ _ _ _ _ _ _ _ _ _
   | exact LeO.none _
   | refine LeO.ite ?_ ?_
   | refine LeO.bind ?_ (fun _ => ?_)
theorem aimd_Aimd_Update.mono : ∀ a0 a1 a2 a3 a4 a5 a6 a7 a8 a9 a10 a11 a12 k, LeO (aimd_Aimd_Update.f k a0 a1 a2 a3 a4 a5 a6 a7 a8 a9 a10 a11 a12) (aimd_Aimd_Update.f (k + 1) a0 a1 a2 a3 a4 a5 a6 a7 a8 a9 a10 a11 a12) := by
 intro a0 a1 a2 a3 a4 a5 a6 a7 a8 a9 a10 a11 a12 k
 have ih0 := aimd_Aimd_Update.mono_l k
 unfold aimd_Aimd_Update.f
 repeat' first
   | (with_reducible exact ih0 _ _ _ _ _ _ _ _ _ _ _ _ _ _)
   | (with_reducible exact aimd_Aimd_lift.mono _ _ _ _ _ _ _ _ _ _ _ _ _)
   | (with_reducible exact LeO.refl _)
   | (with_reducible exact LeO.none _)
   | (with_reducible refine LeO.ite ?_ ?_)
   | (with_reducible refine LeO.bind ?_ (fun _ => ?_))
   | exact ih0 _ _ _ _ _ _ _ _ _ _ _ _ _ _
   | exact aimd_Aimd_lift.mono _ _ _ _ _ _ _ _ _ _ _ _ _
   | exact LeO.none _
   | refine LeO.ite ?_ ?_
   | refine LeO.bind ?_ (fun _ => ?_)
def aimd_Aimd_Update.T14 : Bool × List (List Nat × List Nat) := (true, [([], []), ([], []), ([1], [1]), ([2], [2]), ([3], [3]), ([], []), ([5], [5]), ([6], [6]), ([7], [7]), ([], []), ([9], [9]), ([10], [10]), ([11], [11]), ([4, 8, 12], [4, 8, 12]), ([0, 0, 1, 2, 3, 4, 5, 6, 7, 8, 9, 10, 11, 12, 13], [0]), ([14, 0, 1, 2, 3, 4, 5, 6, 7, 8, 9, 10, 11, 12, 13], [14]), ([15, 13, 13, 0, 1, 2, 3, 4, 5, 6, 7, 8, 9, 10, 11, 12, 13], [13, 15])])
def aimd_Aimd_Update.B14 : List Nat := [0, 0, 2, 6, 14, 0, 32, 96, 224, 0, 512, 1536, 3584, 8190, 16383, 32767, 65535]
theorem aimd_Aimd_Update.tab14 : rtab .any (opsOf Tryd.f25 14) = aimd_Aimd_Update.T14 := by kernel_rfl
theorem aimd_Aimd_Update.bits14 : waitsOk aimd_Aimd_Update.T14.2 aimd_Aimd_Update.B14 = true := by kernel_rfl
set_option maxHeartbeats 8000000 in
set_option maxRecDepth 100000 in
theorem aimd_Aimd_Update.calls (k : Nat) (g : Nat) (s0_0 : Int) (s0_1 : Int) (s0_2 : Int) (s0_3 : Int) (s0_4 : Bool) (s0_5 : Int) (s0_6 : Int) (s0_7 : Bool) (s0_8 : Int) (a1 : Int) (a2 : Int) (a3 : Int) (a4 : Int) (r1 : Int) (r2 : Int) (r3 : Int) (r4 : Int) (r5 : Int) (r6 : Bool) (r7 : Int) (r8 : Int) (r9 : Bool) (r10 : Int) (w0 w : World) (hI : IsS76 w0 w g s0_0 s0_1 s0_2 s0_3 s0_4 s0_5 s0_6 s0_7 s0_8) (hB : Below w0.heap.size w0 w) (h : aimd_Aimd_Update.f k s0_0 s0_1 s0_2 s0_3 s0_4 s0_5 s0_6 s0_7 s0_8 a1 a2 a3 a4 = some (r1, r2, r3, r4, r5, r6, r7, r8, r9, r10)) :
  Calls Tryd.prog 25 #[.pointer (some ⟨g, 0, none⟩), .int .i64 a1, .int .i64 a2, .int .i64 a3, .int .i64 a4] w fun e w' => e = .returned (.int .i64 r1) ∧ IsS76 w0 w' g r2 r3 r4 r5 r6 r7 r8 r9 r10 ∧ Below w0.heap.size w0 w' ∧ KeepBut w w' g none := by
 have hu101 := Tryd.underlying101
 have hpn48_eql : ∀ (a_ : Addr) (W_ : World), (Go.binOp .eql 48 (.pointer (some a_)) (.pointer none)).run Tryd.prog W_ = .ok (.bool false) W_ := fun _ _ => by kernel_rfl
 have hnn48_eql : ∀ (W_ : World), (Go.binOp .eql 48 (.pointer none) (.pointer none)).run Tryd.prog W_ = .ok (.bool true) W_ := fun _ => by kernel_rfl
 have HI0 := aW hI
 have HK := aW (KeepBut.refl w g none)
 have HL := aW hB.size
 clear hI
 have HW0 := aW hB.size
 have HB := aW hB
 clear hB
 have H : ((sat_Clamp.f a4 0 1125899906842624).bind fun t300 => ((sat_Clamp.f a2 0 17179869184).bind fun t301 => ((sat_Clamp.f a3 1000 1000000).bind fun t302 => (if s0_7 = true then ((sat_Clamp.f (wrap64 (t300 - s0_8)) 0 1000000).bind fun t304 => (aimd_Aimd_Update.j0 k a1 t300 s0_0 s0_1 s0_2 s0_3 s0_4 s0_5 s0_6 s0_7 s0_8 t301 t302 t304)) else (aimd_Aimd_Update.j0 k a1 t300 s0_0 s0_1 s0_2 s0_3 s0_4 s0_5 s0_6 s0_7 s0_8 t301 t302 0))))) = some (r1, r2, r3, r4, r5, r6, r7, r8, r9, r10) := h
 clear h
 obtain ⟨t300, A6, H⟩ := bw H
 obtain ⟨t301, A7, H⟩ := bw H
 obtain ⟨t302, A8, H⟩ := bw H
 have HC9 := aW H
 clear H
 go_enter Tryd.func25, Tryd.ntmps25
 go_upto_if 24 with (first | ((with_reducible refine gate_callee (f := 23) rfl ?_); refine gL_ 15 Tryd.func23 #[.int .i64 a4, .int .i64 0, .int .i64 1125899906842624] ?_; (with_reducible refine (sat_Clamp.calls a4 0 1125899906842624 t300 _ A6.out).mono ?_); rintro e w' ⟨rfl, ⟨nd, rfl⟩⟩; refine ⟨_, rfl, ?_⟩; (generalize hq_ : World.drewN w _ = w10; have n0_ : Aside0 (IsS76 w0 w10 g s0_0 s0_1 s0_2 s0_3 s0_4 s0_5 s0_6 s0_7 s0_8) := ⟨o11⟩; have n1_ : Aside0 (KeepBut w w10 g none) := ⟨o56⟩; have n2_ : Aside0 (Below w0.heap.size w0 w10) := ⟨o34⟩; clear HI0 HK HB hq_; have HI0 := n0_; have HK := n1_; have HB := n2_; clear n0_ n1_ n2_)) | ((with_reducible refine gate_callee (f := 23) rfl ?_); refine gL_ 17 Tryd.func23 #[.int .i64 a2, .int .i64 0, .int .i64 17179869184] ?_; (with_reducible refine (sat_Clamp.calls a2 0 17179869184 t301 _ A7.out).mono ?_); rintro e w' ⟨rfl, ⟨nd, rfl⟩⟩; refine ⟨_, rfl, ?_⟩; (try (rw [drewN_self w10]; generalize hq_ : World.drewN w10 _ = w10; have n0_ : Aside0 (IsS76 w0 w10 g s0_0 s0_1 s0_2 s0_3 s0_4 s0_5 s0_6 s0_7 s0_8) := ⟨o11⟩; have n1_ : Aside0 (KeepBut w w10 g none) := ⟨o56⟩; have n2_ : Aside0 (Below w0.heap.size w0 w10) := ⟨o34⟩; clear HI0 HK HB hq_; have HI0 := n0_; have HK := n1_; have HB := n2_; clear n0_ n1_ n2_))) | ((with_reducible refine gate_callee (f := 23) rfl ?_); refine gL_ 19 Tryd.func23 #[.int .i64 a3, .int .i64 1000, .int .i64 1000000] ?_; (with_reducible refine (sat_Clamp.calls a3 1000 1000000 t302 _ A8.out).mono ?_); rintro e w' ⟨rfl, ⟨nd, rfl⟩⟩; refine ⟨_, rfl, ?_⟩; (try (rw [drewN_self w10]; generalize hq_ : World.drewN w10 _ = w10; have n0_ : Aside0 (IsS76 w0 w10 g s0_0 s0_1 s0_2 s0_3 s0_4 s0_5 s0_6 s0_7 s0_8) := ⟨o11⟩; have n1_ : Aside0 (KeepBut w w10 g none) := ⟨o56⟩; have n2_ : Aside0 (Below w0.heap.size w0 w10) := ⟨o34⟩; clear HI0 HK HB hq_; have HI0 := n0_; have HK := n1_; have HB := n2_; clear n0_ n1_ n2_))) | ((with_reducible refine gate_dst (N := 11) rfl ?_); refine box_event ?hg (N := 11) ?hd (cs := #[.int .i64 0, .int .i64 0, .int .i64 0]) (t := 101) ?hr ?_; (case hd => rfl); (case hg => rfl); (case hr => first | (go_simp; done) | (go_simp; rfl)); intro gb303 hg w11 hbox hb; have NB303_0 := aW ((by rw [hg]; exact Nat.ne_of_gt (IsS76.lt (show IsS76 w0 _ g s0_0 s0_1 s0_2 s0_3 s0_4 s0_5 s0_6 s0_7 s0_8 from o13)) : gb303 ≠ g)); have NB0_303 := aW ((by rw [hg]; exact Nat.ne_of_lt (IsS76.lt (show IsS76 w0 _ g s0_0 s0_1 s0_2 s0_3 s0_4 s0_5 s0_6 s0_7 s0_8 from o13)) : g ≠ gb303)); have GE303 := aW ((Nat.le_trans HW0.out (by rw [hg]; exact (keep_size (w := w) (g := g) (row := none) o69) : w.heap.size ≤ gb303) : w0.heap.size ≤ gb303)); have GW303 := aW ((by rw [hg]; exact (keep_size (w := w) (g := g) (row := none) o69) : w.heap.size ≤ gb303)); have BK303 := aW (hbox); replace HB := aW (below_step o50 hb); replace HK := aW (KeepBut.trans o69 (KeepBut.of_below hb g none) (.inl rfl)); replace HI0 := aW (IsS76.below o14 hb); clear hb hbox hg; have hnb12 := NB303_0.out; have hnc12 := NB0_303.out; have hcz13_0 : w11.cell? ⟨gb303, 0, none⟩ = some (.int .i64 0) := (blk_cell BK303.out 0).trans rfl; have hcz13_1 : w11.cell? ⟨gb303, 1, none⟩ = some (.int .i64 0) := (blk_cell BK303.out 1).trans rfl; have hcz13_2 : w11.cell? ⟨gb303, 2, none⟩ = some (.int .i64 0) := (blk_cell BK303.out 2).trans rfl; have hfz13_0 := blk_frozen BK303.out 0; have hfz13_1 := blk_frozen BK303.out 1; have hfz13_2 := blk_frozen BK303.out 2; obtain ⟨HGz14, hgz14⟩ := HI0.out; have hcz14_0 := cellS76_0 HGz14; have hcz14_1 := cellS76_1 HGz14; have hcz14_2 := cellS76_2 HGz14; have hcz14_3 := cellS76_3 HGz14; have hcz14_4 := cellS76_4 HGz14; have hcz14_5 := cellS76_5 HGz14; have hcz14_6 := cellS76_6 HGz14; have hcz14_7 := cellS76_7 HGz14; have hcz14_8 := cellS76_8 HGz14; have hfz14_0 := blk_frozen HGz14 0; have hfz14_1 := blk_frozen HGz14 1; have hfz14_2 := blk_frozen HGz14 2; have hfz14_3 := blk_frozen HGz14 3; have hfz14_4 := blk_frozen HGz14 4; have hfz14_5 := blk_frozen HGz14 5; have hfz14_6 := blk_frozen HGz14 6; have hfz14_7 := blk_frozen HGz14 7; have hfz14_8 := blk_frozen HGz14 8; clear HGz14 hgz14))
 (try simp only [Act.put, List.setIfInBounds_toArray, List.set_cons_zero, List.set_cons_succ])
 go_cut [] (fun wc => ∃ (kq : Nat) (x304002_8 : Int), Aside0 (aimd_Aimd_Update.j0 kq a1 t300 s0_0 s0_1 s0_2 s0_3 s0_4 s0_5 s0_6 s0_7 s0_8 t301 t302 x304002_8 = some (r1, r2, r3, r4, r5, r6, r7, r8, r9, r10)) ∧ Aside0 (kq ≤ k) ∧ Aside0 (wc.heap[gb303]? = some (.cells #[.int .i64 t301, .int .i64 t302, .int .i64 x304002_8] 101 (0, 0))) ∧ Aside0 (IsS76 w0 wc g s0_0 s0_1 s0_2 s0_3 s0_4 s0_5 s0_6 s0_7 s0_8) ∧ Aside0 (KeepBut w wc g none) ∧ Aside0 (Below w0.heap.size w0 wc))
 case first =>
  have H := HC9.out
  clear HC9
  by_cases c15 : s0_7 = true
  ·subst c15
   have H1 : ((sat_Clamp.f (wrap64 (t300 - s0_8)) 0 1000000).bind fun t304 => (aimd_Aimd_Update.j0 k a1 t300 s0_0 s0_1 s0_2 s0_3 s0_4 s0_5 s0_6 true s0_8 t301 t302 t304)) = some (r1, r2, r3, r4, r5, r6, r7, r8, r9, r10) := by rw [if_pos rfl] at H; exact H
   clear H
   have H := H1
   clear H1
   obtain ⟨t304, A16, H⟩ := bw H
   replace H : (aimd_Aimd_Update.j0 k a1 t300 s0_0 s0_1 s0_2 s0_3 s0_4 s0_5 s0_6 true s0_8 t301 t302 t304) = some (r1, r2, r3, r4, r5, r6, r7, r8, r9, r10) := H
   have H' := aW H
   clear H
   obtain ⟨HGz17, hgz17⟩ := HI0.out
   obtain ⟨hcz17_0, hfz17_0, hcz17_1, hfz17_1, hcz17_2, hfz17_2, hcz17_3, hfz17_3, hcz17_4, hfz17_4, hcz17_5, hfz17_5, hcz17_6, hfz17_6, hcz17_7, hfz17_7, hcz17_8, hfz17_8⟩ := bp9 HGz17
   clear HGz17 hgz17
   go_wp2_with (first | ((with_reducible refine gate_callee (f := 23) rfl ?_); refine gL_ 31 Tryd.func23 #[.int .i64 (wrap64 (t300 - s0_8)), .int .i64 0, .int .i64 1000000] ?_; (with_reducible refine (sat_Clamp.calls (wrap64 (t300 - s0_8)) 0 1000000 t304 _ A16.out).mono ?_); rintro e w' ⟨rfl, ⟨nd, rfl⟩⟩; refine ⟨_, rfl, ?_⟩; have hnb18 := NB303_0.out; have hnc18 := NB0_303.out; have hcz19_0 : w11.cell? ⟨gb303, 0, none⟩ = some (.int .i64 0) := (blk_cell BK303.out 0).trans rfl; have hcz19_1 : w11.cell? ⟨gb303, 1, none⟩ = some (.int .i64 0) := (blk_cell BK303.out 1).trans rfl; have hcz19_2 : w11.cell? ⟨gb303, 2, none⟩ = some (.int .i64 0) := (blk_cell BK303.out 2).trans rfl; have hfz19_0 := blk_frozen BK303.out 0; have hfz19_1 := blk_frozen BK303.out 1; have hfz19_2 := blk_frozen BK303.out 2))
   go_meet
   case rel => exact ⟨_, (t304), H', ⟨o107⟩, ⟨by (with_reducible repeat (first | refine blk_drewN ?_ _ | refine blk_drew ?_ | refine blk_alloc ?_ _)); refine blk_put (cs := #[.int .i64 t301, .int .i64 t302, .int .i64 0]) ?_ 2 _ rfl; (with_reducible repeat (first | refine blk_drewN ?_ _ | refine blk_drew ?_ | refine blk_alloc ?_ _)); refine blk_put (cs := #[.int .i64 t301, .int .i64 t302, .int .i64 0]) ?_ 2 _ rfl; (with_reducible repeat (first | refine blk_drewN ?_ _ | refine blk_drew ?_ | refine blk_alloc ?_ _)); refine blk_put (cs := #[.int .i64 t301, .int .i64 0, .int .i64 0]) ?_ 1 _ rfl; (with_reducible repeat (first | refine blk_drewN ?_ _ | refine blk_drew ?_ | refine blk_alloc ?_ _)); refine blk_put (cs := #[.int .i64 0, .int .i64 0, .int .i64 0]) ?_ 0 _ rfl; (with_reducible repeat (first | refine blk_drewN ?_ _ | refine blk_drew ?_ | refine blk_alloc ?_ _)); exact BK303.out⟩, ⟨o7⟩, ⟨o43⟩, ⟨o29⟩⟩
  ·replace c15 := Bool.eq_false_iff.mpr c15
   subst c15
   have H1 : (aimd_Aimd_Update.j0 k a1 t300 s0_0 s0_1 s0_2 s0_3 s0_4 s0_5 s0_6 false s0_8 t301 t302 0) = some (r1, r2, r3, r4, r5, r6, r7, r8, r9, r10) := by rw [if_neg (show ¬ (false = true) by decide)] at H; exact H
   clear H
   have H := H1
   clear H1
   have H' := aW H
   clear H
   go_wp2
   go_meet
   case rel => exact ⟨_, (0), H', ⟨o107⟩, ⟨by (with_reducible repeat (first | refine blk_drewN ?_ _ | refine blk_drew ?_ | refine blk_alloc ?_ _)); refine blk_put (cs := #[.int .i64 t301, .int .i64 t302, .int .i64 0]) ?_ 2 _ rfl; (with_reducible repeat (first | refine blk_drewN ?_ _ | refine blk_drew ?_ | refine blk_alloc ?_ _)); refine blk_put (cs := #[.int .i64 t301, .int .i64 0, .int .i64 0]) ?_ 1 _ rfl; (with_reducible repeat (first | refine blk_drewN ?_ _ | refine blk_drew ?_ | refine blk_alloc ?_ _)); refine blk_put (cs := #[.int .i64 0, .int .i64 0, .int .i64 0]) ?_ 0 _ rfl; (with_reducible repeat (first | refine blk_drewN ?_ _ | refine blk_drew ?_ | refine blk_alloc ?_ _)); exact BK303.out⟩, ⟨o7⟩, ⟨o43⟩, ⟨o29⟩⟩
 case rest =>
  clear HC9
  try clear c1
  try clear c2
  try clear p2
  try clear p6
  try clear c12
  try clear c15
  try clear c18
  try clear hcz13_0
  try clear hcz13_1
  try clear hcz13_2
  try clear hcz14_0
  try clear hcz14_1
  try clear hcz14_2
  try clear hcz14_3
  try clear hcz14_4
  try clear hcz14_5
  try clear hcz14_6
  try clear hcz14_7
  try clear hcz14_8
  try clear hcz17_0
  try clear hcz17_1
  try clear hcz17_2
  try clear hcz17_3
  try clear hcz17_4
  try clear hcz17_5
  try clear hcz17_6
  try clear hcz17_7
  try clear hcz17_8
  try clear hcz19_0
  try clear hcz19_1
  try clear hcz19_2
  try clear hfz13_0
  try clear hfz13_1
  try clear hfz13_2
  try clear hfz14_0
  try clear hfz14_1
  try clear hfz14_2
  try clear hfz14_3
  try clear hfz14_4
  try clear hfz14_5
  try clear hfz14_6
  try clear hfz14_7
  try clear hfz14_8
  try clear hfz17_0
  try clear hfz17_1
  try clear hfz17_2
  try clear hfz17_3
  try clear hfz17_4
  try clear hfz17_5
  try clear hfz17_6
  try clear hfz17_7
  try clear hfz17_8
  try clear hfz19_0
  try clear hfz19_1
  try clear hfz19_2
  obtain ⟨kq, x304002_8, HA, HJ8, BK303, HI0, HK, HB⟩ := hcut
  cases kq with
  | zero => exact absurd HA.out (by simp [aimd_Aimd_Update.j0])
  | succ kj8 =>
   have H := HA.out
   clear HA
   simp only [aimd_Aimd_Update.j0] at H
   by_cases c20 : a1 = 1
   ·rw [if_pos c20] at H
    have c20b0 : (a1 == 1) = true := beq_iff_eq.mpr c20
    have c20b1 : (a1 != 1) = false := bne_eq_false_iff_eq.mpr c20
    clear c20
    obtain ⟨t305, A21, H⟩ := bw H
    replace H : ((aimd_Aimd_cut.f s0_0 s0_1 s0_2 2 s0_4 s0_5 s0_6 true t300 t301 t302 x304002_8).bind fun bt306 => ((sat_Clamp.f bt306.1 bt306.2.1 bt306.2.2.1).bind fun t315 => (some (t315, t315, bt306.2.1, bt306.2.2.1, bt306.2.2.2.1, bt306.2.2.2.2.1, bt306.2.2.2.2.2.1, bt306.2.2.2.2.2.2.1, bt306.2.2.2.2.2.2.2.1, bt306.2.2.2.2.2.2.2.2)))) = some (r1, r2, r3, r4, r5, r6, r7, r8, r9, r10) := H
    replace H := Option.bind_eq_some_iff.mp H
    obtain ⟨⟨t306, t307, t308, t309, t310, t311, t312, t313, t314⟩, A220, H⟩ := H
    replace H : ((sat_Clamp.f t306 t307 t308).bind fun t315 => (some (t315, t315, t307, t308, t309, t310, t311, t312, t313, t314))) = some (r1, r2, r3, r4, r5, r6, r7, r8, r9, r10) := H
    have A22 := aW A220
    clear A220
    obtain ⟨t315, A23, H⟩ := bw H
    simp only [Option.some.injEq, Prod.mk.injEq] at H
    obtain ⟨rfl, rfl, rfl, rfl, rfl, rfl, rfl, rfl, rfl, rfl⟩ := H
    obtain ⟨HGz24, hgz24⟩ := HI0.out
    obtain ⟨hcz24_0, hfz24_0, hcz24_1, hfz24_1, hcz24_2, hfz24_2, hcz24_3, hfz24_3, hcz24_4, hfz24_4, hcz24_5, hfz24_5, hcz24_6, hfz24_6, hcz24_7, hfz24_7, hcz24_8, hfz24_8⟩ := bp9 HGz24
    clear HGz24 hgz24
    have hnb25 := NB303_0.out
    have hnc25 := NB0_303.out
    obtain ⟨hcz26_0, hfz26_0, hcz26_1, hfz26_1, hcz26_2, hfz26_2⟩ := bp3 BK303.out
    try go_wp2
    refine named_ ?_
    intro W_ hW_
    have hS_ : IsS76 w0 W_ g s0_0 s0_1 s0_2 2 s0_4 s0_5 s0_6 true t300 := by rw [hW_]; exact by repeat (first | (with_reducible first | exact HI0.out | apply IsS76.alloc | apply IsS76.drewN | apply IsS76.drew | apply IsS76.set_0 | apply IsS76.set_1 | apply IsS76.set_2 | apply IsS76.set_3 | apply IsS76.set_4 | apply IsS76.set_5 | apply IsS76.set_6 | apply IsS76.set_7 | apply IsS76.set_8 | refine IsS76.far ?_ NB0_303.out _) | exact HI0.out)
    have hX0_ : W_.heap[gb303]? = some (.cells #[.int .i64 t301, .int .i64 t302, .int .i64 x304002_8] 101 (0, 0)) := by rw [hW_]; exact o0
    refine start_ (n := 13) (S := fun w' => Below W_.heap.size W_ w') (ds := [12]) (bl 13 0) (by kernel_rfl) rfl rfl (below_drew1 bR) (fun hHeld => ?_)
    refine pk_ 5 64 (bl 13 32) ?_
    refine pk_ 6 65 (bl 13 96) ?_
    refine pk_ 7 66 (bl 13 224) ?_
    refine tk_ 8 67 (bl 13 480) hHeld ?_ (hr := by intro w' hw'; have cb0_ := pw_cell_below hw' (IsS76.cell_3 hS_); have cb1_ := pw_cell_below hw' (show W_.cell? ⟨gb303, 0, none⟩ = some (.int .i64 t301) from (blk_cell hX0_ 0).trans rfl); have cb2_ := pw_cell_below hw' (show W_.cell? ⟨gb303, 1, none⟩ = some (.int .i64 t302) from (blk_cell hX0_ 1).trans rfl); have cb3_ := pw_cell_below hw' (show W_.cell? ⟨gb303, 2, none⟩ = some (.int .i64 x304002_8) from (blk_cell hX0_ 2).trans rfl); go_simp; with_reducible rfl)
    refine pk_ 10 69 (bl 13 1504) ?_
    refine tk_ 11 70 (bl 13 3552) hHeld ?_ (hr := by intro w' hw'; have cb0_ := pw_cell_below hw' (IsS76.cell_3 hS_); have cb1_ := pw_cell_below hw' (show W_.cell? ⟨gb303, 0, none⟩ = some (.int .i64 t301) from (blk_cell hX0_ 0).trans rfl); have cb2_ := pw_cell_below hw' (show W_.cell? ⟨gb303, 1, none⟩ = some (.int .i64 t302) from (blk_cell hX0_ 1).trans rfl); have cb3_ := pw_cell_below hw' (show W_.cell? ⟨gb303, 2, none⟩ = some (.int .i64 x304002_8) from (blk_cell hX0_ 2).trans rfl); go_simp; with_reducible rfl)
    refine one_ (i := 0) (N := some 62) (bl 13 3553) rfl rfl (by kernel_rfl) (by decide) (fun K hK => ?_)
    refine value_ (w1 := W_.drew.alloc (.map #[] 0)) (v := .map (some W_.drew.heap.size)) (by rfl) rfl (by rfl) ?_
    refine hK.out _ _ (below_alloc (below_drew1 bR) _) (fun hHeld => ?_)
    clear hK K
    refine no_ 62 ?_
    have hM0_ : FMap W_ (W_.drew.alloc (.map #[] 0)) W_.drew.heap.size [] := FMap.made (below_drew1 bR)
    generalize hW0_ : W_.drew.alloc (.map #[] 0) = W0_ at hM0_ hHeld ⊢
    clear hW0_
    generalize hm_ : W_.drew.heap.size = m_ at hM0_ ⊢
    clear hm_
    refine join_ (σ := Unit) 3 (bl 13 3567) (fun _ => []) (fun _ w' => ∃ l, FMap W_ w' m_ l ∧ l.find? (fun p => (2 : Int) == p.1) = some (2, 43)) ?_ ?_
    rotate_left
    ·intro hJ_
     refine three_ (i := 1) (j := 2) (k := 3) (Ni := none) (Nj := none) (Nk := none) (bl 13 3555) (bl 13 3557) (bl 13 3561) rfl rfl rfl rfl rfl rfl (by kernel_rfl) (by decide) (by decide) (by decide) ?_ ?_ ?_
     ·intro K hK
      obtain ⟨W1_, hr1_, hM1_⟩ := FMap.ins (P := Tryd.prog) Tryd.underlying104 Tryd.underlying3 hM0_ 0 41 (by decide)
      refine skip_ (w1 := W1_) (by rfl) rfl ?_ ?_
      ·exact ins_skip rfl hr1_
      refine hK.out _ _ hM1_.bel (fun hHeld => ?_)
      clear hK K
      refine two_ (i := 2) (j := 3) (Ni := none) (Nj := none) (bl 13 3559) (bl 13 3563) rfl rfl rfl rfl (by kernel_rfl) (by decide) (by decide) ?_ ?_
      ·intro K hK
       obtain ⟨W2_, hr2_, hM2_⟩ := FMap.ins (P := Tryd.prog) Tryd.underlying104 Tryd.underlying3 hM1_ 1 42 (by decide)
       refine skip_ (w1 := W2_) (by rfl) rfl ?_ ?_
       ·exact ins_skip rfl hr2_
       refine hK.out _ _ hM2_.bel (fun hHeld => ?_)
       clear hK K
       refine one_ (i := 3) (N := none) (bl 13 3567) rfl rfl (by kernel_rfl) (by decide) ?_
       ·intro K hK
        obtain ⟨W3_, hr3_, hM3_⟩ := FMap.ins (P := Tryd.prog) Tryd.underlying104 Tryd.underlying3 hM2_ 2 43 (by decide)
        refine skip_ (w1 := W3_) (by rfl) rfl ?_ ?_
        ·exact ins_skip rfl hr3_
        refine hK.out _ _ hM3_.bel (fun hHeld => ?_)
        clear hK K
        exact hJ_ () _ ⟨_, hM3_, by decide⟩
      ·intro K hK
       obtain ⟨W2_, hr2_, hM2_⟩ := FMap.ins (P := Tryd.prog) Tryd.underlying104 Tryd.underlying3 hM1_ 2 43 (by decide)
       refine skip_ (w1 := W2_) (by rfl) rfl ?_ ?_
       ·exact ins_skip rfl hr2_
       refine hK.out _ _ hM2_.bel (fun hHeld => ?_)
       clear hK K
       refine one_ (i := 2) (N := none) (bl 13 3567) rfl rfl (by kernel_rfl) (by decide) ?_
       ·intro K hK
        obtain ⟨W3_, hr3_, hM3_⟩ := FMap.ins (P := Tryd.prog) Tryd.underlying104 Tryd.underlying3 hM2_ 1 42 (by decide)
        refine skip_ (w1 := W3_) (by rfl) rfl ?_ ?_
        ·exact ins_skip rfl hr3_
        refine hK.out _ _ hM3_.bel (fun hHeld => ?_)
        clear hK K
        exact hJ_ () _ ⟨_, hM3_, by decide⟩
     ·intro K hK
      obtain ⟨W1_, hr1_, hM1_⟩ := FMap.ins (P := Tryd.prog) Tryd.underlying104 Tryd.underlying3 hM0_ 1 42 (by decide)
      refine skip_ (w1 := W1_) (by rfl) rfl ?_ ?_
      ·exact ins_skip rfl hr1_
      refine hK.out _ _ hM1_.bel (fun hHeld => ?_)
      clear hK K
      refine two_ (i := 1) (j := 3) (Ni := none) (Nj := none) (bl 13 3559) (bl 13 3565) rfl rfl rfl rfl (by kernel_rfl) (by decide) (by decide) ?_ ?_
      ·intro K hK
       obtain ⟨W2_, hr2_, hM2_⟩ := FMap.ins (P := Tryd.prog) Tryd.underlying104 Tryd.underlying3 hM1_ 0 41 (by decide)
       refine skip_ (w1 := W2_) (by rfl) rfl ?_ ?_
       ·exact ins_skip rfl hr2_
       refine hK.out _ _ hM2_.bel (fun hHeld => ?_)
       clear hK K
       refine one_ (i := 3) (N := none) (bl 13 3567) rfl rfl (by kernel_rfl) (by decide) ?_
       ·intro K hK
        obtain ⟨W3_, hr3_, hM3_⟩ := FMap.ins (P := Tryd.prog) Tryd.underlying104 Tryd.underlying3 hM2_ 2 43 (by decide)
        refine skip_ (w1 := W3_) (by rfl) rfl ?_ ?_
        ·exact ins_skip rfl hr3_
        refine hK.out _ _ hM3_.bel (fun hHeld => ?_)
        clear hK K
        exact hJ_ () _ ⟨_, hM3_, by decide⟩
      ·intro K hK
       obtain ⟨W2_, hr2_, hM2_⟩ := FMap.ins (P := Tryd.prog) Tryd.underlying104 Tryd.underlying3 hM1_ 2 43 (by decide)
       refine skip_ (w1 := W2_) (by rfl) rfl ?_ ?_
       ·exact ins_skip rfl hr2_
       refine hK.out _ _ hM2_.bel (fun hHeld => ?_)
       clear hK K
       refine one_ (i := 1) (N := none) (bl 13 3567) rfl rfl (by kernel_rfl) (by decide) ?_
       ·intro K hK
        obtain ⟨W3_, hr3_, hM3_⟩ := FMap.ins (P := Tryd.prog) Tryd.underlying104 Tryd.underlying3 hM2_ 0 41 (by decide)
        refine skip_ (w1 := W3_) (by rfl) rfl ?_ ?_
        ·exact ins_skip rfl hr3_
        refine hK.out _ _ hM3_.bel (fun hHeld => ?_)
        clear hK K
        exact hJ_ () _ ⟨_, hM3_, by decide⟩
     ·intro K hK
      obtain ⟨W1_, hr1_, hM1_⟩ := FMap.ins (P := Tryd.prog) Tryd.underlying104 Tryd.underlying3 hM0_ 2 43 (by decide)
      refine skip_ (w1 := W1_) (by rfl) rfl ?_ ?_
      ·exact ins_skip rfl hr1_
      refine hK.out _ _ hM1_.bel (fun hHeld => ?_)
      clear hK K
      refine two_ (i := 1) (j := 2) (Ni := none) (Nj := none) (bl 13 3563) (bl 13 3565) rfl rfl rfl rfl (by kernel_rfl) (by decide) (by decide) ?_ ?_
      ·intro K hK
       obtain ⟨W2_, hr2_, hM2_⟩ := FMap.ins (P := Tryd.prog) Tryd.underlying104 Tryd.underlying3 hM1_ 0 41 (by decide)
       refine skip_ (w1 := W2_) (by rfl) rfl ?_ ?_
       ·exact ins_skip rfl hr2_
       refine hK.out _ _ hM2_.bel (fun hHeld => ?_)
       clear hK K
       refine one_ (i := 2) (N := none) (bl 13 3567) rfl rfl (by kernel_rfl) (by decide) ?_
       ·intro K hK
        obtain ⟨W3_, hr3_, hM3_⟩ := FMap.ins (P := Tryd.prog) Tryd.underlying104 Tryd.underlying3 hM2_ 1 42 (by decide)
        refine skip_ (w1 := W3_) (by rfl) rfl ?_ ?_
        ·exact ins_skip rfl hr3_
        refine hK.out _ _ hM3_.bel (fun hHeld => ?_)
        clear hK K
        exact hJ_ () _ ⟨_, hM3_, by decide⟩
      ·intro K hK
       obtain ⟨W2_, hr2_, hM2_⟩ := FMap.ins (P := Tryd.prog) Tryd.underlying104 Tryd.underlying3 hM1_ 1 42 (by decide)
       refine skip_ (w1 := W2_) (by rfl) rfl ?_ ?_
       ·exact ins_skip rfl hr2_
       refine hK.out _ _ hM2_.bel (fun hHeld => ?_)
       clear hK K
       refine one_ (i := 1) (N := none) (bl 13 3567) rfl rfl (by kernel_rfl) (by decide) ?_
       ·intro K hK
        obtain ⟨W3_, hr3_, hM3_⟩ := FMap.ins (P := Tryd.prog) Tryd.underlying104 Tryd.underlying3 hM2_ 0 41 (by decide)
        refine skip_ (w1 := W3_) (by rfl) rfl ?_ ?_
        ·exact ins_skip rfl hr3_
        refine hK.out _ _ hM3_.bel (fun hHeld => ?_)
        clear hK K
        exact hJ_ () _ ⟨_, hM3_, by decide⟩
    rintro _ w27 ⟨l_, hM_, hf_⟩
    dsimp only [putAll]
    have hHeld := hM_.bel
    refine pk_ 4 63 (bl 13 3583) ?_
    refine one_ (i := 9) (N := some 68) (bl 13 4095) rfl rfl (by kernel_rfl) (by decide) (fun K hK => ?_)
    refine value_ (w1 := w27) (v := fnv 43) (by rfl) rfl ?_ ?_
    ·have hl_ := FMap.look (P := Tryd.prog) Tryd.underlying104 Tryd.underlying3 hM_ 2 43 hf_
     exact look_val rfl hl_
    refine hK.out _ _ hM_.bel (fun hHeld => ?_)
    clear hK K
    refine no_ 68 ?_
    refine last_ (i := 12) (N := some 71) (bl 13 8191) rfl rfl (by kernel_rfl) (by decide) (fun K hK => ?_)
    refine call_ 43 #[.pointer (some ⟨g, 0, none⟩), .agg #[.int .i64 t301, .int .i64 t302, .int .i64 x304002_8]] (by rfl) rfl ?_ ?_
    ·simp [execOp, resolve, Deferred.ofValue, invoke, Act.eval, fnv, enters_ (P := Tryd.prog) (fn := Tryd.f43) Tryd.func43 (by kernel_rfl) rfl]
    have hb := hM_.bel
    clear hM_ hHeld hf_ hS_ hX0_
    subst hW_
    replace HB := aW (below_step o26 hb)
    replace HK := aW (KeepBut.trans o40 (KeepBut.of_below hb g none) (.inl rfl))
    replace HI0 := aW (IsS76.below (show IsS76 w0 (((wc.setCell ⟨g, 7, none⟩ (.bool true)).setCell ⟨g, 8, none⟩ (.int .i64 t300)).setCell ⟨g, 3, none⟩ (.int .i64 2)) g s0_0 s0_1 s0_2 2 s0_4 s0_5 s0_6 true t300 from o4) hb)
    replace BK303 := aW (blk_below (g := gb303) (o := .cells #[.int .i64 t301, .int .i64 t302, .int .i64 x304002_8] 101 (0, 0)) o0 hb)
    (try clear hb)
    (try clear hb2)
    (try clear hk)
    (try clear hi)
    (with_reducible refine (aimd_Aimd_cut.calls g s0_0 s0_1 s0_2 2 s0_4 s0_5 s0_6 true t300 t301 t302 x304002_8 t306 t307 t308 t309 t310 t311 t312 t313 t314 w0 _ ?side1 ?side2 A22.out).mono ?_)
    (case side1 => exact o10)
    (case side2 => exact o32)
    rintro e w28 ⟨rfl, hi, hb, hk⟩
    refine ⟨_, rfl, ?_⟩
    refine hK.out _ _ ?_
    refine done_ (by kernel_rfl) ?_
    clear hK K
    replace HI0 := aW (hi)
    replace HB := aW (hb)
    replace HK := aW (KeepBut.trans o40 hk (.inl rfl))
    replace BK303 := aW (KeepBut.blk hk (g' := gb303) (o := .cells #[.int .i64 t301, .int .i64 t302, .int .i64 x304002_8] 101 (0, 0)) o79 NB303_0.out (by simp))
    (try clear hb)
    (try clear hb2)
    (try clear hk)
    (try clear hi)
    try go_wp2
    replace HB := aW (below_drew1 HB.out)
    replace HK := aW (keep_drew HK.out)
    replace HI0 := aW (IsS76.drew HI0.out)
    replace BK303 := aW (blk_drew BK303.out)
    refine start_ (n := 17) (S := fun w' => w'.cell? ⟨g, 0, none⟩ = some (.int .i64 t306) ∧ w'.cell? ⟨g, 1, none⟩ = some (.int .i64 t307) ∧ w'.cell? ⟨g, 2, none⟩ = some (.int .i64 t308) ∧ w'.cell? ⟨g, 3, none⟩ = some (.int .i64 t309) ∧ w'.cell? ⟨g, 4, none⟩ = some (.bool t310) ∧ w'.cell? ⟨g, 5, none⟩ = some (.int .i64 t311) ∧ w'.cell? ⟨g, 6, none⟩ = some (.int .i64 t312) ∧ w'.cell? ⟨g, 7, none⟩ = some (.bool t313) ∧ w'.cell? ⟨g, 8, none⟩ = some (.int .i64 t314)) (ds := [16]) (bl 17 0) (by kernel_rfl) rfl rfl ⟨(IsS76.cell_0 HI0.out), (IsS76.cell_1 HI0.out), (IsS76.cell_2 HI0.out), (IsS76.cell_3 HI0.out), (IsS76.cell_4 HI0.out), (IsS76.cell_5 HI0.out), (IsS76.cell_6 HI0.out), (IsS76.cell_7 HI0.out), (IsS76.cell_8 HI0.out)⟩ (fun hHeld => ?_); refine with_tabW aimd_Aimd_Update.tab14 aimd_Aimd_Update.bits14 (fun HT_ HW_ => ?_)
    generalize w28.drew = w29 at BK303 HI0 HK HB hHeld ⊢
    refine pq_ 0 72 (bl 17 1) HT_ ?_
    refine pq_ 1 73 (bl 17 3) HT_ ?_
    refine pq_ 2 74 (bl 17 7) HT_ ?_
    refine pq_ 3 75 (bl 17 15) HT_ ?_
    refine pq_ 5 77 (bl 17 47) HT_ ?_
    refine pq_ 6 78 (bl 17 111) HT_ ?_
    refine pq_ 7 79 (bl 17 239) HT_ ?_
    refine pq_ 9 81 (bl 17 751) HT_ ?_
    refine pq_ 10 82 (bl 17 1775) HT_ ?_
    refine pq_ 11 83 (bl 17 3823) HT_ ?_
    refine tq_ 4 76 (bl 17 3839) HT_ HW_ hHeld ?_ (hr := by rintro w' ⟨s0, s1, s2, s3, s4, s5, s6, s7, s8⟩; go_simp; with_reducible rfl)
    refine tq_ 8 80 (bl 17 4095) HT_ HW_ hHeld ?_ (hr := by rintro w' ⟨s0, s1, s2, s3, s4, s5, s6, s7, s8⟩; go_simp; with_reducible rfl)
    refine tq_ 12 84 (bl 17 8191) HT_ HW_ hHeld ?_ (hr := by rintro w' ⟨s0, s1, s2, s3, s4, s5, s6, s7, s8⟩; go_simp; with_reducible rfl)
    refine one_ (i := 13) (N := some 85) (bl 17 16383) rfl rfl (one_of HT_.out (by kernel_rfl)) (by decide) (fun K hK => ?_)
    refine goes_ Tryd.func23 (by kernel_rfl) rfl #[.int .i64 t306, .int .i64 t307, .int .i64 t308] (by rfl) rfl rfl o72 ?_
    with_reducible refine (sat_Clamp.calls t306 t307 t308 t315 _ A23.out).mono ?_
    rintro e w' ⟨rfl, ⟨nd, rfl⟩⟩
    refine ⟨_, rfl, ?_⟩
    refine hK.out _ _ ⟨(IsS76.cell_0 HI0.out), (IsS76.cell_1 HI0.out), (IsS76.cell_2 HI0.out), (IsS76.cell_3 HI0.out), (IsS76.cell_4 HI0.out), (IsS76.cell_5 HI0.out), (IsS76.cell_6 HI0.out), (IsS76.cell_7 HI0.out), (IsS76.cell_8 HI0.out)⟩ (fun hHeld => ?_)
    clear hK K
    refine no_ 85 ?_
    refine pq_ 14 86 (bl 17 32767) HT_ ?_
    refine pq_ 15 87 (bl 17 65535) HT_ ?_
    refine last_ (i := 16) (N := none) (bl 17 131071) rfl rfl (one_of HT_.out (by kernel_rfl)) (by decide) (fun K hK => ?_)
    have hs30 : w29.cell? ⟨g, 0, none⟩ = some (.int .i64 t306) := IsS76.cell_0 HI0.out
    have hfs30 := IsS76.froz_0 HI0.out
    have hns30_0 := NB303_0.out
    have hms30_0 := NB0_303.out
    refine skip_ (w1 := ?_) (by rfl) rfl ?_ ?_
    rotate_left
    ·go_simp
     rfl
    refine hK.out _ _ ?_
    clear hK K
    refine done_ (done_of HT_.out (by kernel_rfl)) ?_
    obtain ⟨HGz31, hgz31⟩ := HI0.out
    obtain ⟨hcz31_0, hfz31_0, hcz31_1, hfz31_1, hcz31_2, hfz31_2, hcz31_3, hfz31_3, hcz31_4, hfz31_4, hcz31_5, hfz31_5, hcz31_6, hfz31_6, hcz31_7, hfz31_7, hcz31_8, hfz31_8⟩ := bp9 HGz31
    clear HGz31 hgz31
    try go_wp2
    go_ret
    exact ⟨o95, o7, o29, o43⟩
   ·rw [if_neg c20] at H
    have c20b0 : (a1 == 1) = false := beq_eq_false_iff_ne.mpr c20
    have c20b1 : (a1 != 1) = true := bne_iff_ne.mpr c20
    by_cases c32 : a1 = 2
    ·rw [if_pos c32] at H
     have c32b0 : (a1 == 2) = true := beq_iff_eq.mpr c32
     have c32b1 : (a1 != 2) = false := bne_eq_false_iff_eq.mpr c32
     clear c32
     obtain ⟨t316, A33, H⟩ := bw H
     replace H : ((aimd_Aimd_hold.f s0_0 s0_1 s0_2 0 s0_4 s0_5 s0_6 true t300 t301 t302 x304002_8).bind fun bt317 => ((sat_Clamp.f bt317.1 bt317.2.1 bt317.2.2.1).bind fun t326 => (some (t326, t326, bt317.2.1, bt317.2.2.1, bt317.2.2.2.1, bt317.2.2.2.2.1, bt317.2.2.2.2.2.1, bt317.2.2.2.2.2.2.1, bt317.2.2.2.2.2.2.2.1, bt317.2.2.2.2.2.2.2.2)))) = some (r1, r2, r3, r4, r5, r6, r7, r8, r9, r10) := H
     replace H := Option.bind_eq_some_iff.mp H
     obtain ⟨⟨t317, t318, t319, t320, t321, t322, t323, t324, t325⟩, A340, H⟩ := H
     replace H : ((sat_Clamp.f t317 t318 t319).bind fun t326 => (some (t326, t326, t318, t319, t320, t321, t322, t323, t324, t325))) = some (r1, r2, r3, r4, r5, r6, r7, r8, r9, r10) := H
     have A34 := aW A340
     clear A340
     obtain ⟨t326, A35, H⟩ := bw H
     simp only [Option.some.injEq, Prod.mk.injEq] at H
     obtain ⟨rfl, rfl, rfl, rfl, rfl, rfl, rfl, rfl, rfl, rfl⟩ := H
     obtain ⟨HGz36, hgz36⟩ := HI0.out
     obtain ⟨hcz36_0, hfz36_0, hcz36_1, hfz36_1, hcz36_2, hfz36_2, hcz36_3, hfz36_3, hcz36_4, hfz36_4, hcz36_5, hfz36_5, hcz36_6, hfz36_6, hcz36_7, hfz36_7, hcz36_8, hfz36_8⟩ := bp9 HGz36
     clear HGz36 hgz36
     have hnb37 := NB303_0.out
     have hnc37 := NB0_303.out
     obtain ⟨hcz38_0, hfz38_0, hcz38_1, hfz38_1, hcz38_2, hfz38_2⟩ := bp3 BK303.out
     try go_wp2
     refine named_ ?_
     intro W_ hW_
     have hS_ : IsS76 w0 W_ g s0_0 s0_1 s0_2 0 s0_4 s0_5 s0_6 true t300 := by rw [hW_]; exact by repeat (first | (with_reducible first | exact HI0.out | apply IsS76.alloc | apply IsS76.drewN | apply IsS76.drew | apply IsS76.set_0 | apply IsS76.set_1 | apply IsS76.set_2 | apply IsS76.set_3 | apply IsS76.set_4 | apply IsS76.set_5 | apply IsS76.set_6 | apply IsS76.set_7 | apply IsS76.set_8 | refine IsS76.far ?_ NB0_303.out _) | exact HI0.out)
     have hX0_ : W_.heap[gb303]? = some (.cells #[.int .i64 t301, .int .i64 t302, .int .i64 x304002_8] 101 (0, 0)) := by rw [hW_]; exact o0
     refine start_ (n := 13) (S := fun w' => Below W_.heap.size W_ w') (ds := [12]) (bl 13 0) (by kernel_rfl) rfl rfl (below_drew1 bR) (fun hHeld => ?_)
     refine pk_ 5 64 (bl 13 32) ?_
     refine pk_ 6 65 (bl 13 96) ?_
     refine pk_ 7 66 (bl 13 224) ?_
     refine tk_ 8 67 (bl 13 480) hHeld ?_ (hr := by intro w' hw'; have cb0_ := pw_cell_below hw' (IsS76.cell_3 hS_); have cb1_ := pw_cell_below hw' (show W_.cell? ⟨gb303, 0, none⟩ = some (.int .i64 t301) from (blk_cell hX0_ 0).trans rfl); have cb2_ := pw_cell_below hw' (show W_.cell? ⟨gb303, 1, none⟩ = some (.int .i64 t302) from (blk_cell hX0_ 1).trans rfl); have cb3_ := pw_cell_below hw' (show W_.cell? ⟨gb303, 2, none⟩ = some (.int .i64 x304002_8) from (blk_cell hX0_ 2).trans rfl); go_simp; with_reducible rfl)
     refine pk_ 10 69 (bl 13 1504) ?_
     refine tk_ 11 70 (bl 13 3552) hHeld ?_ (hr := by intro w' hw'; have cb0_ := pw_cell_below hw' (IsS76.cell_3 hS_); have cb1_ := pw_cell_below hw' (show W_.cell? ⟨gb303, 0, none⟩ = some (.int .i64 t301) from (blk_cell hX0_ 0).trans rfl); have cb2_ := pw_cell_below hw' (show W_.cell? ⟨gb303, 1, none⟩ = some (.int .i64 t302) from (blk_cell hX0_ 1).trans rfl); have cb3_ := pw_cell_below hw' (show W_.cell? ⟨gb303, 2, none⟩ = some (.int .i64 x304002_8) from (blk_cell hX0_ 2).trans rfl); go_simp; with_reducible rfl)
     refine one_ (i := 0) (N := some 62) (bl 13 3553) rfl rfl (by kernel_rfl) (by decide) (fun K hK => ?_)
     refine value_ (w1 := W_.drew.alloc (.map #[] 0)) (v := .map (some W_.drew.heap.size)) (by rfl) rfl (by rfl) ?_
     refine hK.out _ _ (below_alloc (below_drew1 bR) _) (fun hHeld => ?_)
     clear hK K
     refine no_ 62 ?_
     have hM0_ : FMap W_ (W_.drew.alloc (.map #[] 0)) W_.drew.heap.size [] := FMap.made (below_drew1 bR)
     generalize hW0_ : W_.drew.alloc (.map #[] 0) = W0_ at hM0_ hHeld ⊢
     clear hW0_
     generalize hm_ : W_.drew.heap.size = m_ at hM0_ ⊢
     clear hm_
     refine join_ (σ := Unit) 3 (bl 13 3567) (fun _ => []) (fun _ w' => ∃ l, FMap W_ w' m_ l ∧ l.find? (fun p => (0 : Int) == p.1) = some (0, 41)) ?_ ?_
     rotate_left
     ·intro hJ_
      refine three_ (i := 1) (j := 2) (k := 3) (Ni := none) (Nj := none) (Nk := none) (bl 13 3555) (bl 13 3557) (bl 13 3561) rfl rfl rfl rfl rfl rfl (by kernel_rfl) (by decide) (by decide) (by decide) ?_ ?_ ?_
      ·intro K hK
       obtain ⟨W1_, hr1_, hM1_⟩ := FMap.ins (P := Tryd.prog) Tryd.underlying104 Tryd.underlying3 hM0_ 0 41 (by decide)
       refine skip_ (w1 := W1_) (by rfl) rfl ?_ ?_
       ·exact ins_skip rfl hr1_
       refine hK.out _ _ hM1_.bel (fun hHeld => ?_)
       clear hK K
       refine two_ (i := 2) (j := 3) (Ni := none) (Nj := none) (bl 13 3559) (bl 13 3563) rfl rfl rfl rfl (by kernel_rfl) (by decide) (by decide) ?_ ?_
       ·intro K hK
        obtain ⟨W2_, hr2_, hM2_⟩ := FMap.ins (P := Tryd.prog) Tryd.underlying104 Tryd.underlying3 hM1_ 1 42 (by decide)
        refine skip_ (w1 := W2_) (by rfl) rfl ?_ ?_
        ·exact ins_skip rfl hr2_
        refine hK.out _ _ hM2_.bel (fun hHeld => ?_)
        clear hK K
        refine one_ (i := 3) (N := none) (bl 13 3567) rfl rfl (by kernel_rfl) (by decide) ?_
        ·intro K hK
         obtain ⟨W3_, hr3_, hM3_⟩ := FMap.ins (P := Tryd.prog) Tryd.underlying104 Tryd.underlying3 hM2_ 2 43 (by decide)
         refine skip_ (w1 := W3_) (by rfl) rfl ?_ ?_
         ·exact ins_skip rfl hr3_
         refine hK.out _ _ hM3_.bel (fun hHeld => ?_)
         clear hK K
         exact hJ_ () _ ⟨_, hM3_, by decide⟩
       ·intro K hK
        obtain ⟨W2_, hr2_, hM2_⟩ := FMap.ins (P := Tryd.prog) Tryd.underlying104 Tryd.underlying3 hM1_ 2 43 (by decide)
        refine skip_ (w1 := W2_) (by rfl) rfl ?_ ?_
        ·exact ins_skip rfl hr2_
        refine hK.out _ _ hM2_.bel (fun hHeld => ?_)
        clear hK K
        refine one_ (i := 2) (N := none) (bl 13 3567) rfl rfl (by kernel_rfl) (by decide) ?_
        ·intro K hK
         obtain ⟨W3_, hr3_, hM3_⟩ := FMap.ins (P := Tryd.prog) Tryd.underlying104 Tryd.underlying3 hM2_ 1 42 (by decide)
         refine skip_ (w1 := W3_) (by rfl) rfl ?_ ?_
         ·exact ins_skip rfl hr3_
         refine hK.out _ _ hM3_.bel (fun hHeld => ?_)
         clear hK K
         exact hJ_ () _ ⟨_, hM3_, by decide⟩
      ·intro K hK
       obtain ⟨W1_, hr1_, hM1_⟩ := FMap.ins (P := Tryd.prog) Tryd.underlying104 Tryd.underlying3 hM0_ 1 42 (by decide)
       refine skip_ (w1 := W1_) (by rfl) rfl ?_ ?_
       ·exact ins_skip rfl hr1_
       refine hK.out _ _ hM1_.bel (fun hHeld => ?_)
       clear hK K
       refine two_ (i := 1) (j := 3) (Ni := none) (Nj := none) (bl 13 3559) (bl 13 3565) rfl rfl rfl rfl (by kernel_rfl) (by decide) (by decide) ?_ ?_
       ·intro K hK
        obtain ⟨W2_, hr2_, hM2_⟩ := FMap.ins (P := Tryd.prog) Tryd.underlying104 Tryd.underlying3 hM1_ 0 41 (by decide)
        refine skip_ (w1 := W2_) (by rfl) rfl ?_ ?_
        ·exact ins_skip rfl hr2_
        refine hK.out _ _ hM2_.bel (fun hHeld => ?_)
        clear hK K
        refine one_ (i := 3) (N := none) (bl 13 3567) rfl rfl (by kernel_rfl) (by decide) ?_
        ·intro K hK
         obtain ⟨W3_, hr3_, hM3_⟩ := FMap.ins (P := Tryd.prog) Tryd.underlying104 Tryd.underlying3 hM2_ 2 43 (by decide)
         refine skip_ (w1 := W3_) (by rfl) rfl ?_ ?_
         ·exact ins_skip rfl hr3_
         refine hK.out _ _ hM3_.bel (fun hHeld => ?_)
         clear hK K
         exact hJ_ () _ ⟨_, hM3_, by decide⟩
       ·intro K hK
        obtain ⟨W2_, hr2_, hM2_⟩ := FMap.ins (P := Tryd.prog) Tryd.underlying104 Tryd.underlying3 hM1_ 2 43 (by decide)
        refine skip_ (w1 := W2_) (by rfl) rfl ?_ ?_
        ·exact ins_skip rfl hr2_
        refine hK.out _ _ hM2_.bel (fun hHeld => ?_)
        clear hK K
        refine one_ (i := 1) (N := none) (bl 13 3567) rfl rfl (by kernel_rfl) (by decide) ?_
        ·intro K hK
         obtain ⟨W3_, hr3_, hM3_⟩ := FMap.ins (P := Tryd.prog) Tryd.underlying104 Tryd.underlying3 hM2_ 0 41 (by decide)
         refine skip_ (w1 := W3_) (by rfl) rfl ?_ ?_
         ·exact ins_skip rfl hr3_
         refine hK.out _ _ hM3_.bel (fun hHeld => ?_)
         clear hK K
         exact hJ_ () _ ⟨_, hM3_, by decide⟩
      ·intro K hK
       obtain ⟨W1_, hr1_, hM1_⟩ := FMap.ins (P := Tryd.prog) Tryd.underlying104 Tryd.underlying3 hM0_ 2 43 (by decide)
       refine skip_ (w1 := W1_) (by rfl) rfl ?_ ?_
       ·exact ins_skip rfl hr1_
       refine hK.out _ _ hM1_.bel (fun hHeld => ?_)
       clear hK K
       refine two_ (i := 1) (j := 2) (Ni := none) (Nj := none) (bl 13 3563) (bl 13 3565) rfl rfl rfl rfl (by kernel_rfl) (by decide) (by decide) ?_ ?_
       ·intro K hK
        obtain ⟨W2_, hr2_, hM2_⟩ := FMap.ins (P := Tryd.prog) Tryd.underlying104 Tryd.underlying3 hM1_ 0 41 (by decide)
        refine skip_ (w1 := W2_) (by rfl) rfl ?_ ?_
        ·exact ins_skip rfl hr2_
        refine hK.out _ _ hM2_.bel (fun hHeld => ?_)
        clear hK K
        refine one_ (i := 2) (N := none) (bl 13 3567) rfl rfl (by kernel_rfl) (by decide) ?_
        ·intro K hK
         obtain ⟨W3_, hr3_, hM3_⟩ := FMap.ins (P := Tryd.prog) Tryd.underlying104 Tryd.underlying3 hM2_ 1 42 (by decide)
         refine skip_ (w1 := W3_) (by rfl) rfl ?_ ?_
         ·exact ins_skip rfl hr3_
         refine hK.out _ _ hM3_.bel (fun hHeld => ?_)
         clear hK K
         exact hJ_ () _ ⟨_, hM3_, by decide⟩
       ·intro K hK
        obtain ⟨W2_, hr2_, hM2_⟩ := FMap.ins (P := Tryd.prog) Tryd.underlying104 Tryd.underlying3 hM1_ 1 42 (by decide)
        refine skip_ (w1 := W2_) (by rfl) rfl ?_ ?_
        ·exact ins_skip rfl hr2_
        refine hK.out _ _ hM2_.bel (fun hHeld => ?_)
        clear hK K
        refine one_ (i := 1) (N := none) (bl 13 3567) rfl rfl (by kernel_rfl) (by decide) ?_
        ·intro K hK
         obtain ⟨W3_, hr3_, hM3_⟩ := FMap.ins (P := Tryd.prog) Tryd.underlying104 Tryd.underlying3 hM2_ 0 41 (by decide)
         refine skip_ (w1 := W3_) (by rfl) rfl ?_ ?_
         ·exact ins_skip rfl hr3_
         refine hK.out _ _ hM3_.bel (fun hHeld => ?_)
         clear hK K
         exact hJ_ () _ ⟨_, hM3_, by decide⟩
     rintro _ w39 ⟨l_, hM_, hf_⟩
     dsimp only [putAll]
     have hHeld := hM_.bel
     refine pk_ 4 63 (bl 13 3583) ?_
     refine one_ (i := 9) (N := some 68) (bl 13 4095) rfl rfl (by kernel_rfl) (by decide) (fun K hK => ?_)
     refine value_ (w1 := w39) (v := fnv 41) (by rfl) rfl ?_ ?_
     ·have hl_ := FMap.look (P := Tryd.prog) Tryd.underlying104 Tryd.underlying3 hM_ 0 41 hf_
      exact look_val rfl hl_
     refine hK.out _ _ hM_.bel (fun hHeld => ?_)
     clear hK K
     refine no_ 68 ?_
     refine last_ (i := 12) (N := some 71) (bl 13 8191) rfl rfl (by kernel_rfl) (by decide) (fun K hK => ?_)
     refine call_ 41 #[.pointer (some ⟨g, 0, none⟩), .agg #[.int .i64 t301, .int .i64 t302, .int .i64 x304002_8]] (by rfl) rfl ?_ ?_
     ·simp [execOp, resolve, Deferred.ofValue, invoke, Act.eval, fnv, enters_ (P := Tryd.prog) (fn := Tryd.f41) Tryd.func41 (by kernel_rfl) rfl]
     have hb := hM_.bel
     clear hM_ hHeld hf_ hS_ hX0_
     subst hW_
     replace HB := aW (below_step o26 hb)
     replace HK := aW (KeepBut.trans o40 (KeepBut.of_below hb g none) (.inl rfl))
     replace HI0 := aW (IsS76.below (show IsS76 w0 (((wc.setCell ⟨g, 7, none⟩ (.bool true)).setCell ⟨g, 8, none⟩ (.int .i64 t300)).setCell ⟨g, 3, none⟩ (.int .i64 0)) g s0_0 s0_1 s0_2 0 s0_4 s0_5 s0_6 true t300 from o4) hb)
     replace BK303 := aW (blk_below (g := gb303) (o := .cells #[.int .i64 t301, .int .i64 t302, .int .i64 x304002_8] 101 (0, 0)) o0 hb)
     (try clear hb)
     (try clear hb2)
     (try clear hk)
     (try clear hi)
     (with_reducible refine (aimd_Aimd_hold.calls g s0_0 s0_1 s0_2 0 s0_4 s0_5 s0_6 true t300 t301 t302 x304002_8 t317 t318 t319 t320 t321 t322 t323 t324 t325 w0 _ ?side1 ?side2 A34.out).mono ?_)
     (case side1 => exact o10)
     (case side2 => exact o32)
     rintro e w40 ⟨rfl, hi, hb, hk⟩
     refine ⟨_, rfl, ?_⟩
     refine hK.out _ _ ?_
     refine done_ (by kernel_rfl) ?_
     clear hK K
     replace HI0 := aW (hi)
     replace HB := aW (hb)
     replace HK := aW (KeepBut.trans o40 hk (.inl rfl))
     replace BK303 := aW (KeepBut.blk hk (g' := gb303) (o := .cells #[.int .i64 t301, .int .i64 t302, .int .i64 x304002_8] 101 (0, 0)) o79 NB303_0.out (by simp))
     (try clear hb)
     (try clear hb2)
     (try clear hk)
     (try clear hi)
     try go_wp2
     replace HB := aW (below_drew1 HB.out)
     replace HK := aW (keep_drew HK.out)
     replace HI0 := aW (IsS76.drew HI0.out)
     replace BK303 := aW (blk_drew BK303.out)
     refine start_ (n := 17) (S := fun w' => w'.cell? ⟨g, 0, none⟩ = some (.int .i64 t317) ∧ w'.cell? ⟨g, 1, none⟩ = some (.int .i64 t318) ∧ w'.cell? ⟨g, 2, none⟩ = some (.int .i64 t319) ∧ w'.cell? ⟨g, 3, none⟩ = some (.int .i64 t320) ∧ w'.cell? ⟨g, 4, none⟩ = some (.bool t321) ∧ w'.cell? ⟨g, 5, none⟩ = some (.int .i64 t322) ∧ w'.cell? ⟨g, 6, none⟩ = some (.int .i64 t323) ∧ w'.cell? ⟨g, 7, none⟩ = some (.bool t324) ∧ w'.cell? ⟨g, 8, none⟩ = some (.int .i64 t325)) (ds := [16]) (bl 17 0) (by kernel_rfl) rfl rfl ⟨(IsS76.cell_0 HI0.out), (IsS76.cell_1 HI0.out), (IsS76.cell_2 HI0.out), (IsS76.cell_3 HI0.out), (IsS76.cell_4 HI0.out), (IsS76.cell_5 HI0.out), (IsS76.cell_6 HI0.out), (IsS76.cell_7 HI0.out), (IsS76.cell_8 HI0.out)⟩ (fun hHeld => ?_); refine with_tabW aimd_Aimd_Update.tab14 aimd_Aimd_Update.bits14 (fun HT_ HW_ => ?_)
     generalize w40.drew = w41 at BK303 HI0 HK HB hHeld ⊢
     refine pq_ 0 72 (bl 17 1) HT_ ?_
     refine pq_ 1 73 (bl 17 3) HT_ ?_
     refine pq_ 2 74 (bl 17 7) HT_ ?_
     refine pq_ 3 75 (bl 17 15) HT_ ?_
     refine pq_ 5 77 (bl 17 47) HT_ ?_
     refine pq_ 6 78 (bl 17 111) HT_ ?_
     refine pq_ 7 79 (bl 17 239) HT_ ?_
     refine pq_ 9 81 (bl 17 751) HT_ ?_
     refine pq_ 10 82 (bl 17 1775) HT_ ?_
     refine pq_ 11 83 (bl 17 3823) HT_ ?_
     refine tq_ 4 76 (bl 17 3839) HT_ HW_ hHeld ?_ (hr := by rintro w' ⟨s0, s1, s2, s3, s4, s5, s6, s7, s8⟩; go_simp; with_reducible rfl)
     refine tq_ 8 80 (bl 17 4095) HT_ HW_ hHeld ?_ (hr := by rintro w' ⟨s0, s1, s2, s3, s4, s5, s6, s7, s8⟩; go_simp; with_reducible rfl)
     refine tq_ 12 84 (bl 17 8191) HT_ HW_ hHeld ?_ (hr := by rintro w' ⟨s0, s1, s2, s3, s4, s5, s6, s7, s8⟩; go_simp; with_reducible rfl)
     refine one_ (i := 13) (N := some 85) (bl 17 16383) rfl rfl (one_of HT_.out (by kernel_rfl)) (by decide) (fun K hK => ?_)
     refine goes_ Tryd.func23 (by kernel_rfl) rfl #[.int .i64 t317, .int .i64 t318, .int .i64 t319] (by rfl) rfl rfl o72 ?_
     with_reducible refine (sat_Clamp.calls t317 t318 t319 t326 _ A35.out).mono ?_
     rintro e w' ⟨rfl, ⟨nd, rfl⟩⟩
     refine ⟨_, rfl, ?_⟩
     refine hK.out _ _ ⟨(IsS76.cell_0 HI0.out), (IsS76.cell_1 HI0.out), (IsS76.cell_2 HI0.out), (IsS76.cell_3 HI0.out), (IsS76.cell_4 HI0.out), (IsS76.cell_5 HI0.out), (IsS76.cell_6 HI0.out), (IsS76.cell_7 HI0.out), (IsS76.cell_8 HI0.out)⟩ (fun hHeld => ?_)
     clear hK K
     refine no_ 85 ?_
     refine pq_ 14 86 (bl 17 32767) HT_ ?_
     refine pq_ 15 87 (bl 17 65535) HT_ ?_
     refine last_ (i := 16) (N := none) (bl 17 131071) rfl rfl (one_of HT_.out (by kernel_rfl)) (by decide) (fun K hK => ?_)
     have hs42 : w41.cell? ⟨g, 0, none⟩ = some (.int .i64 t317) := IsS76.cell_0 HI0.out
     have hfs42 := IsS76.froz_0 HI0.out
     have hns42_0 := NB303_0.out
     have hms42_0 := NB0_303.out
     refine skip_ (w1 := ?_) (by rfl) rfl ?_ ?_
     rotate_left
     ·go_simp
      rfl
     refine hK.out _ _ ?_
     clear hK K
     refine done_ (done_of HT_.out (by kernel_rfl)) ?_
     obtain ⟨HGz43, hgz43⟩ := HI0.out
     obtain ⟨hcz43_0, hfz43_0, hcz43_1, hfz43_1, hcz43_2, hfz43_2, hcz43_3, hfz43_3, hcz43_4, hfz43_4, hcz43_5, hfz43_5, hcz43_6, hfz43_6, hcz43_7, hfz43_7, hcz43_8, hfz43_8⟩ := bp9 HGz43
     clear HGz43 hgz43
     try go_wp2
     go_ret
     exact ⟨o95, o7, o29, o43⟩
    ·rw [if_neg c32] at H
     have c32b0 : (a1 == 2) = false := beq_eq_false_iff_ne.mpr c32
     have c32b1 : (a1 != 2) = true := bne_iff_ne.mpr c32
     by_cases c44 : s0_3 = 2
     ·rw [if_pos c44] at H
      have c44b0 : (s0_3 == 2) = true := beq_iff_eq.mpr c44
      have c44b1 : (s0_3 != 2) = false := bne_eq_false_iff_eq.mpr c44
      clear c44
      obtain ⟨t327, A45, H⟩ := bw H
      replace H : ((aimd_Aimd_hold.f s0_0 s0_1 s0_2 0 s0_4 s0_5 s0_6 true t300 t301 t302 x304002_8).bind fun bt328 => ((sat_Clamp.f bt328.1 bt328.2.1 bt328.2.2.1).bind fun t337 => (some (t337, t337, bt328.2.1, bt328.2.2.1, bt328.2.2.2.1, bt328.2.2.2.2.1, bt328.2.2.2.2.2.1, bt328.2.2.2.2.2.2.1, bt328.2.2.2.2.2.2.2.1, bt328.2.2.2.2.2.2.2.2)))) = some (r1, r2, r3, r4, r5, r6, r7, r8, r9, r10) := H
      replace H := Option.bind_eq_some_iff.mp H
      obtain ⟨⟨t328, t329, t330, t331, t332, t333, t334, t335, t336⟩, A460, H⟩ := H
      replace H : ((sat_Clamp.f t328 t329 t330).bind fun t337 => (some (t337, t337, t329, t330, t331, t332, t333, t334, t335, t336))) = some (r1, r2, r3, r4, r5, r6, r7, r8, r9, r10) := H
      have A46 := aW A460
      clear A460
      obtain ⟨t337, A47, H⟩ := bw H
      simp only [Option.some.injEq, Prod.mk.injEq] at H
      obtain ⟨rfl, rfl, rfl, rfl, rfl, rfl, rfl, rfl, rfl, rfl⟩ := H
      obtain ⟨HGz48, hgz48⟩ := HI0.out
      obtain ⟨hcz48_0, hfz48_0, hcz48_1, hfz48_1, hcz48_2, hfz48_2, hcz48_3, hfz48_3, hcz48_4, hfz48_4, hcz48_5, hfz48_5, hcz48_6, hfz48_6, hcz48_7, hfz48_7, hcz48_8, hfz48_8⟩ := bp9 HGz48
      clear HGz48 hgz48
      have hnb49 := NB303_0.out
      have hnc49 := NB0_303.out
      obtain ⟨hcz50_0, hfz50_0, hcz50_1, hfz50_1, hcz50_2, hfz50_2⟩ := bp3 BK303.out
      try go_wp2
      refine named_ ?_
      intro W_ hW_
      have hS_ : IsS76 w0 W_ g s0_0 s0_1 s0_2 0 s0_4 s0_5 s0_6 true t300 := by rw [hW_]; exact by repeat (first | (with_reducible first | exact HI0.out | apply IsS76.alloc | apply IsS76.drewN | apply IsS76.drew | apply IsS76.set_0 | apply IsS76.set_1 | apply IsS76.set_2 | apply IsS76.set_3 | apply IsS76.set_4 | apply IsS76.set_5 | apply IsS76.set_6 | apply IsS76.set_7 | apply IsS76.set_8 | refine IsS76.far ?_ NB0_303.out _) | exact HI0.out)
      have hX0_ : W_.heap[gb303]? = some (.cells #[.int .i64 t301, .int .i64 t302, .int .i64 x304002_8] 101 (0, 0)) := by rw [hW_]; exact o0
      refine start_ (n := 13) (S := fun w' => Below W_.heap.size W_ w') (ds := [12]) (bl 13 0) (by kernel_rfl) rfl rfl (below_drew1 bR) (fun hHeld => ?_)
      refine pk_ 5 64 (bl 13 32) ?_
      refine pk_ 6 65 (bl 13 96) ?_
      refine pk_ 7 66 (bl 13 224) ?_
      refine tk_ 8 67 (bl 13 480) hHeld ?_ (hr := by intro w' hw'; have cb0_ := pw_cell_below hw' (IsS76.cell_3 hS_); have cb1_ := pw_cell_below hw' (show W_.cell? ⟨gb303, 0, none⟩ = some (.int .i64 t301) from (blk_cell hX0_ 0).trans rfl); have cb2_ := pw_cell_below hw' (show W_.cell? ⟨gb303, 1, none⟩ = some (.int .i64 t302) from (blk_cell hX0_ 1).trans rfl); have cb3_ := pw_cell_below hw' (show W_.cell? ⟨gb303, 2, none⟩ = some (.int .i64 x304002_8) from (blk_cell hX0_ 2).trans rfl); go_simp; with_reducible rfl)
      refine pk_ 10 69 (bl 13 1504) ?_
      refine tk_ 11 70 (bl 13 3552) hHeld ?_ (hr := by intro w' hw'; have cb0_ := pw_cell_below hw' (IsS76.cell_3 hS_); have cb1_ := pw_cell_below hw' (show W_.cell? ⟨gb303, 0, none⟩ = some (.int .i64 t301) from (blk_cell hX0_ 0).trans rfl); have cb2_ := pw_cell_below hw' (show W_.cell? ⟨gb303, 1, none⟩ = some (.int .i64 t302) from (blk_cell hX0_ 1).trans rfl); have cb3_ := pw_cell_below hw' (show W_.cell? ⟨gb303, 2, none⟩ = some (.int .i64 x304002_8) from (blk_cell hX0_ 2).trans rfl); go_simp; with_reducible rfl)
      refine one_ (i := 0) (N := some 62) (bl 13 3553) rfl rfl (by kernel_rfl) (by decide) (fun K hK => ?_)
      refine value_ (w1 := W_.drew.alloc (.map #[] 0)) (v := .map (some W_.drew.heap.size)) (by rfl) rfl (by rfl) ?_
      refine hK.out _ _ (below_alloc (below_drew1 bR) _) (fun hHeld => ?_)
      clear hK K
      refine no_ 62 ?_
      have hM0_ : FMap W_ (W_.drew.alloc (.map #[] 0)) W_.drew.heap.size [] := FMap.made (below_drew1 bR)
      generalize hW0_ : W_.drew.alloc (.map #[] 0) = W0_ at hM0_ hHeld ⊢
      clear hW0_
      generalize hm_ : W_.drew.heap.size = m_ at hM0_ ⊢
      clear hm_
      refine join_ (σ := Unit) 3 (bl 13 3567) (fun _ => []) (fun _ w' => ∃ l, FMap W_ w' m_ l ∧ l.find? (fun p => (0 : Int) == p.1) = some (0, 41)) ?_ ?_
      rotate_left
      ·intro hJ_
       refine three_ (i := 1) (j := 2) (k := 3) (Ni := none) (Nj := none) (Nk := none) (bl 13 3555) (bl 13 3557) (bl 13 3561) rfl rfl rfl rfl rfl rfl (by kernel_rfl) (by decide) (by decide) (by decide) ?_ ?_ ?_
       ·intro K hK
        obtain ⟨W1_, hr1_, hM1_⟩ := FMap.ins (P := Tryd.prog) Tryd.underlying104 Tryd.underlying3 hM0_ 0 41 (by decide)
        refine skip_ (w1 := W1_) (by rfl) rfl ?_ ?_
        ·exact ins_skip rfl hr1_
        refine hK.out _ _ hM1_.bel (fun hHeld => ?_)
        clear hK K
        refine two_ (i := 2) (j := 3) (Ni := none) (Nj := none) (bl 13 3559) (bl 13 3563) rfl rfl rfl rfl (by kernel_rfl) (by decide) (by decide) ?_ ?_
        ·intro K hK
         obtain ⟨W2_, hr2_, hM2_⟩ := FMap.ins (P := Tryd.prog) Tryd.underlying104 Tryd.underlying3 hM1_ 1 42 (by decide)
         refine skip_ (w1 := W2_) (by rfl) rfl ?_ ?_
         ·exact ins_skip rfl hr2_
         refine hK.out _ _ hM2_.bel (fun hHeld => ?_)
         clear hK K
         refine one_ (i := 3) (N := none) (bl 13 3567) rfl rfl (by kernel_rfl) (by decide) ?_
         ·intro K hK
          obtain ⟨W3_, hr3_, hM3_⟩ := FMap.ins (P := Tryd.prog) Tryd.underlying104 Tryd.underlying3 hM2_ 2 43 (by decide)
          refine skip_ (w1 := W3_) (by rfl) rfl ?_ ?_
          ·exact ins_skip rfl hr3_
          refine hK.out _ _ hM3_.bel (fun hHeld => ?_)
          clear hK K
          exact hJ_ () _ ⟨_, hM3_, by decide⟩
        ·intro K hK
         obtain ⟨W2_, hr2_, hM2_⟩ := FMap.ins (P := Tryd.prog) Tryd.underlying104 Tryd.underlying3 hM1_ 2 43 (by decide)
         refine skip_ (w1 := W2_) (by rfl) rfl ?_ ?_
         ·exact ins_skip rfl hr2_
         refine hK.out _ _ hM2_.bel (fun hHeld => ?_)
         clear hK K
         refine one_ (i := 2) (N := none) (bl 13 3567) rfl rfl (by kernel_rfl) (by decide) ?_
         ·intro K hK
          obtain ⟨W3_, hr3_, hM3_⟩ := FMap.ins (P := Tryd.prog) Tryd.underlying104 Tryd.underlying3 hM2_ 1 42 (by decide)
          refine skip_ (w1 := W3_) (by rfl) rfl ?_ ?_
          ·exact ins_skip rfl hr3_
          refine hK.out _ _ hM3_.bel (fun hHeld => ?_)
          clear hK K
          exact hJ_ () _ ⟨_, hM3_, by decide⟩
       ·intro K hK
        obtain ⟨W1_, hr1_, hM1_⟩ := FMap.ins (P := Tryd.prog) Tryd.underlying104 Tryd.underlying3 hM0_ 1 42 (by decide)
        refine skip_ (w1 := W1_) (by rfl) rfl ?_ ?_
        ·exact ins_skip rfl hr1_
        refine hK.out _ _ hM1_.bel (fun hHeld => ?_)
        clear hK K
        refine two_ (i := 1) (j := 3) (Ni := none) (Nj := none) (bl 13 3559) (bl 13 3565) rfl rfl rfl rfl (by kernel_rfl) (by decide) (by decide) ?_ ?_
        ·intro K hK
         obtain ⟨W2_, hr2_, hM2_⟩ := FMap.ins (P := Tryd.prog) Tryd.underlying104 Tryd.underlying3 hM1_ 0 41 (by decide)
         refine skip_ (w1 := W2_) (by rfl) rfl ?_ ?_
         ·exact ins_skip rfl hr2_
         refine hK.out _ _ hM2_.bel (fun hHeld => ?_)
         clear hK K
         refine one_ (i := 3) (N := none) (bl 13 3567) rfl rfl (by kernel_rfl) (by decide) ?_
         ·intro K hK
          obtain ⟨W3_, hr3_, hM3_⟩ := FMap.ins (P := Tryd.prog) Tryd.underlying104 Tryd.underlying3 hM2_ 2 43 (by decide)
          refine skip_ (w1 := W3_) (by rfl) rfl ?_ ?_
          ·exact ins_skip rfl hr3_
          refine hK.out _ _ hM3_.bel (fun hHeld => ?_)
          clear hK K
          exact hJ_ () _ ⟨_, hM3_, by decide⟩
        ·intro K hK
         obtain ⟨W2_, hr2_, hM2_⟩ := FMap.ins (P := Tryd.prog) Tryd.underlying104 Tryd.underlying3 hM1_ 2 43 (by decide)
         refine skip_ (w1 := W2_) (by rfl) rfl ?_ ?_
         ·exact ins_skip rfl hr2_
         refine hK.out _ _ hM2_.bel (fun hHeld => ?_)
         clear hK K
         refine one_ (i := 1) (N := none) (bl 13 3567) rfl rfl (by kernel_rfl) (by decide) ?_
         ·intro K hK
          obtain ⟨W3_, hr3_, hM3_⟩ := FMap.ins (P := Tryd.prog) Tryd.underlying104 Tryd.underlying3 hM2_ 0 41 (by decide)
          refine skip_ (w1 := W3_) (by rfl) rfl ?_ ?_
          ·exact ins_skip rfl hr3_
          refine hK.out _ _ hM3_.bel (fun hHeld => ?_)
          clear hK K
          exact hJ_ () _ ⟨_, hM3_, by decide⟩
       ·intro K hK
        obtain ⟨W1_, hr1_, hM1_⟩ := FMap.ins (P := Tryd.prog) Tryd.underlying104 Tryd.underlying3 hM0_ 2 43 (by decide)
        refine skip_ (w1 := W1_) (by rfl) rfl ?_ ?_
        ·exact ins_skip rfl hr1_
        refine hK.out _ _ hM1_.bel (fun hHeld => ?_)
        clear hK K
        refine two_ (i := 1) (j := 2) (Ni := none) (Nj := none) (bl 13 3563) (bl 13 3565) rfl rfl rfl rfl (by kernel_rfl) (by decide) (by decide) ?_ ?_
        ·intro K hK
         obtain ⟨W2_, hr2_, hM2_⟩ := FMap.ins (P := Tryd.prog) Tryd.underlying104 Tryd.underlying3 hM1_ 0 41 (by decide)
         refine skip_ (w1 := W2_) (by rfl) rfl ?_ ?_
         ·exact ins_skip rfl hr2_
         refine hK.out _ _ hM2_.bel (fun hHeld => ?_)
         clear hK K
         refine one_ (i := 2) (N := none) (bl 13 3567) rfl rfl (by kernel_rfl) (by decide) ?_
         ·intro K hK
          obtain ⟨W3_, hr3_, hM3_⟩ := FMap.ins (P := Tryd.prog) Tryd.underlying104 Tryd.underlying3 hM2_ 1 42 (by decide)
          refine skip_ (w1 := W3_) (by rfl) rfl ?_ ?_
          ·exact ins_skip rfl hr3_
          refine hK.out _ _ hM3_.bel (fun hHeld => ?_)
          clear hK K
          exact hJ_ () _ ⟨_, hM3_, by decide⟩
        ·intro K hK
         obtain ⟨W2_, hr2_, hM2_⟩ := FMap.ins (P := Tryd.prog) Tryd.underlying104 Tryd.underlying3 hM1_ 1 42 (by decide)
         refine skip_ (w1 := W2_) (by rfl) rfl ?_ ?_
         ·exact ins_skip rfl hr2_
         refine hK.out _ _ hM2_.bel (fun hHeld => ?_)
         clear hK K
         refine one_ (i := 1) (N := none) (bl 13 3567) rfl rfl (by kernel_rfl) (by decide) ?_
         ·intro K hK
          obtain ⟨W3_, hr3_, hM3_⟩ := FMap.ins (P := Tryd.prog) Tryd.underlying104 Tryd.underlying3 hM2_ 0 41 (by decide)
          refine skip_ (w1 := W3_) (by rfl) rfl ?_ ?_
          ·exact ins_skip rfl hr3_
          refine hK.out _ _ hM3_.bel (fun hHeld => ?_)
          clear hK K
          exact hJ_ () _ ⟨_, hM3_, by decide⟩
      rintro _ w51 ⟨l_, hM_, hf_⟩
      dsimp only [putAll]
      have hHeld := hM_.bel
      refine pk_ 4 63 (bl 13 3583) ?_
      refine one_ (i := 9) (N := some 68) (bl 13 4095) rfl rfl (by kernel_rfl) (by decide) (fun K hK => ?_)
      refine value_ (w1 := w51) (v := fnv 41) (by rfl) rfl ?_ ?_
      ·have hl_ := FMap.look (P := Tryd.prog) Tryd.underlying104 Tryd.underlying3 hM_ 0 41 hf_
       exact look_val rfl hl_
      refine hK.out _ _ hM_.bel (fun hHeld => ?_)
      clear hK K
      refine no_ 68 ?_
      refine last_ (i := 12) (N := some 71) (bl 13 8191) rfl rfl (by kernel_rfl) (by decide) (fun K hK => ?_)
      refine call_ 41 #[.pointer (some ⟨g, 0, none⟩), .agg #[.int .i64 t301, .int .i64 t302, .int .i64 x304002_8]] (by rfl) rfl ?_ ?_
      ·simp [execOp, resolve, Deferred.ofValue, invoke, Act.eval, fnv, enters_ (P := Tryd.prog) (fn := Tryd.f41) Tryd.func41 (by kernel_rfl) rfl]
      have hb := hM_.bel
      clear hM_ hHeld hf_ hS_ hX0_
      subst hW_
      replace HB := aW (below_step o26 hb)
      replace HK := aW (KeepBut.trans o40 (KeepBut.of_below hb g none) (.inl rfl))
      replace HI0 := aW (IsS76.below (show IsS76 w0 (((wc.setCell ⟨g, 7, none⟩ (.bool true)).setCell ⟨g, 8, none⟩ (.int .i64 t300)).setCell ⟨g, 3, none⟩ (.int .i64 0)) g s0_0 s0_1 s0_2 0 s0_4 s0_5 s0_6 true t300 from o4) hb)
      replace BK303 := aW (blk_below (g := gb303) (o := .cells #[.int .i64 t301, .int .i64 t302, .int .i64 x304002_8] 101 (0, 0)) o0 hb)
      (try clear hb)
      (try clear hb2)
      (try clear hk)
      (try clear hi)
      (with_reducible refine (aimd_Aimd_hold.calls g s0_0 s0_1 s0_2 0 s0_4 s0_5 s0_6 true t300 t301 t302 x304002_8 t328 t329 t330 t331 t332 t333 t334 t335 t336 w0 _ ?side1 ?side2 A46.out).mono ?_)
      (case side1 => exact o10)
      (case side2 => exact o32)
      rintro e w52 ⟨rfl, hi, hb, hk⟩
      refine ⟨_, rfl, ?_⟩
      refine hK.out _ _ ?_
      refine done_ (by kernel_rfl) ?_
      clear hK K
      replace HI0 := aW (hi)
      replace HB := aW (hb)
      replace HK := aW (KeepBut.trans o40 hk (.inl rfl))
      replace BK303 := aW (KeepBut.blk hk (g' := gb303) (o := .cells #[.int .i64 t301, .int .i64 t302, .int .i64 x304002_8] 101 (0, 0)) o79 NB303_0.out (by simp))
      (try clear hb)
      (try clear hb2)
      (try clear hk)
      (try clear hi)
      try go_wp2
      replace HB := aW (below_drew1 HB.out)
      replace HK := aW (keep_drew HK.out)
      replace HI0 := aW (IsS76.drew HI0.out)
      replace BK303 := aW (blk_drew BK303.out)
      refine start_ (n := 17) (S := fun w' => w'.cell? ⟨g, 0, none⟩ = some (.int .i64 t328) ∧ w'.cell? ⟨g, 1, none⟩ = some (.int .i64 t329) ∧ w'.cell? ⟨g, 2, none⟩ = some (.int .i64 t330) ∧ w'.cell? ⟨g, 3, none⟩ = some (.int .i64 t331) ∧ w'.cell? ⟨g, 4, none⟩ = some (.bool t332) ∧ w'.cell? ⟨g, 5, none⟩ = some (.int .i64 t333) ∧ w'.cell? ⟨g, 6, none⟩ = some (.int .i64 t334) ∧ w'.cell? ⟨g, 7, none⟩ = some (.bool t335) ∧ w'.cell? ⟨g, 8, none⟩ = some (.int .i64 t336)) (ds := [16]) (bl 17 0) (by kernel_rfl) rfl rfl ⟨(IsS76.cell_0 HI0.out), (IsS76.cell_1 HI0.out), (IsS76.cell_2 HI0.out), (IsS76.cell_3 HI0.out), (IsS76.cell_4 HI0.out), (IsS76.cell_5 HI0.out), (IsS76.cell_6 HI0.out), (IsS76.cell_7 HI0.out), (IsS76.cell_8 HI0.out)⟩ (fun hHeld => ?_); refine with_tabW aimd_Aimd_Update.tab14 aimd_Aimd_Update.bits14 (fun HT_ HW_ => ?_)
      generalize w52.drew = w53 at BK303 HI0 HK HB hHeld ⊢
      refine pq_ 0 72 (bl 17 1) HT_ ?_
      refine pq_ 1 73 (bl 17 3) HT_ ?_
      refine pq_ 2 74 (bl 17 7) HT_ ?_
      refine pq_ 3 75 (bl 17 15) HT_ ?_
      refine pq_ 5 77 (bl 17 47) HT_ ?_
      refine pq_ 6 78 (bl 17 111) HT_ ?_
      refine pq_ 7 79 (bl 17 239) HT_ ?_
      refine pq_ 9 81 (bl 17 751) HT_ ?_
      refine pq_ 10 82 (bl 17 1775) HT_ ?_
      refine pq_ 11 83 (bl 17 3823) HT_ ?_
      refine tq_ 4 76 (bl 17 3839) HT_ HW_ hHeld ?_ (hr := by rintro w' ⟨s0, s1, s2, s3, s4, s5, s6, s7, s8⟩; go_simp; with_reducible rfl)
      refine tq_ 8 80 (bl 17 4095) HT_ HW_ hHeld ?_ (hr := by rintro w' ⟨s0, s1, s2, s3, s4, s5, s6, s7, s8⟩; go_simp; with_reducible rfl)
      refine tq_ 12 84 (bl 17 8191) HT_ HW_ hHeld ?_ (hr := by rintro w' ⟨s0, s1, s2, s3, s4, s5, s6, s7, s8⟩; go_simp; with_reducible rfl)
      refine one_ (i := 13) (N := some 85) (bl 17 16383) rfl rfl (one_of HT_.out (by kernel_rfl)) (by decide) (fun K hK => ?_)
      refine goes_ Tryd.func23 (by kernel_rfl) rfl #[.int .i64 t328, .int .i64 t329, .int .i64 t330] (by rfl) rfl rfl o72 ?_
      with_reducible refine (sat_Clamp.calls t328 t329 t330 t337 _ A47.out).mono ?_
      rintro e w' ⟨rfl, ⟨nd, rfl⟩⟩
      refine ⟨_, rfl, ?_⟩
      refine hK.out _ _ ⟨(IsS76.cell_0 HI0.out), (IsS76.cell_1 HI0.out), (IsS76.cell_2 HI0.out), (IsS76.cell_3 HI0.out), (IsS76.cell_4 HI0.out), (IsS76.cell_5 HI0.out), (IsS76.cell_6 HI0.out), (IsS76.cell_7 HI0.out), (IsS76.cell_8 HI0.out)⟩ (fun hHeld => ?_)
      clear hK K
      refine no_ 85 ?_
      refine pq_ 14 86 (bl 17 32767) HT_ ?_
      refine pq_ 15 87 (bl 17 65535) HT_ ?_
      refine last_ (i := 16) (N := none) (bl 17 131071) rfl rfl (one_of HT_.out (by kernel_rfl)) (by decide) (fun K hK => ?_)
      have hs54 : w53.cell? ⟨g, 0, none⟩ = some (.int .i64 t328) := IsS76.cell_0 HI0.out
      have hfs54 := IsS76.froz_0 HI0.out
      have hns54_0 := NB303_0.out
      have hms54_0 := NB0_303.out
      refine skip_ (w1 := ?_) (by rfl) rfl ?_ ?_
      rotate_left
      ·go_simp
       rfl
      refine hK.out _ _ ?_
      clear hK K
      refine done_ (done_of HT_.out (by kernel_rfl)) ?_
      obtain ⟨HGz55, hgz55⟩ := HI0.out
      obtain ⟨hcz55_0, hfz55_0, hcz55_1, hfz55_1, hcz55_2, hfz55_2, hcz55_3, hfz55_3, hcz55_4, hfz55_4, hcz55_5, hfz55_5, hcz55_6, hfz55_6, hcz55_7, hfz55_7, hcz55_8, hfz55_8⟩ := bp9 HGz55
      clear HGz55 hgz55
      try go_wp2
      go_ret
      exact ⟨o95, o7, o29, o43⟩
     ·rw [if_neg c44] at H
      have c44b0 : (s0_3 == 2) = false := beq_eq_false_iff_ne.mpr c44
      have c44b1 : (s0_3 != 2) = true := bne_iff_ne.mpr c44
      obtain ⟨t338, A56, H⟩ := bw H
      replace H : ((aimd_Aimd_lift.f kj8 s0_0 s0_1 s0_2 1 s0_4 s0_5 s0_6 true t300 t301 t302 x304002_8).bind fun bt339 => ((sat_Clamp.f bt339.1 bt339.2.1 bt339.2.2.1).bind fun t348 => (some (t348, t348, bt339.2.1, bt339.2.2.1, bt339.2.2.2.1, bt339.2.2.2.2.1, bt339.2.2.2.2.2.1, bt339.2.2.2.2.2.2.1, bt339.2.2.2.2.2.2.2.1, bt339.2.2.2.2.2.2.2.2)))) = some (r1, r2, r3, r4, r5, r6, r7, r8, r9, r10) := H
      replace H := Option.bind_eq_some_iff.mp H
      obtain ⟨⟨t339, t340, t341, t342, t343, t344, t345, t346, t347⟩, A570, H⟩ := H
      replace H : ((sat_Clamp.f t339 t340 t341).bind fun t348 => (some (t348, t348, t340, t341, t342, t343, t344, t345, t346, t347))) = some (r1, r2, r3, r4, r5, r6, r7, r8, r9, r10) := H
      have A57 := aW A570
      clear A570
      obtain ⟨t348, A58, H⟩ := bw H
      simp only [Option.some.injEq, Prod.mk.injEq] at H
      obtain ⟨rfl, rfl, rfl, rfl, rfl, rfl, rfl, rfl, rfl, rfl⟩ := H
      obtain ⟨HGz59, hgz59⟩ := HI0.out
      obtain ⟨hcz59_0, hfz59_0, hcz59_1, hfz59_1, hcz59_2, hfz59_2, hcz59_3, hfz59_3, hcz59_4, hfz59_4, hcz59_5, hfz59_5, hcz59_6, hfz59_6, hcz59_7, hfz59_7, hcz59_8, hfz59_8⟩ := bp9 HGz59
      clear HGz59 hgz59
      have hnb60 := NB303_0.out
      have hnc60 := NB0_303.out
      obtain ⟨hcz61_0, hfz61_0, hcz61_1, hfz61_1, hcz61_2, hfz61_2⟩ := bp3 BK303.out
      try go_wp2
      refine named_ ?_
      intro W_ hW_
      have hS_ : IsS76 w0 W_ g s0_0 s0_1 s0_2 1 s0_4 s0_5 s0_6 true t300 := by rw [hW_]; exact by repeat (first | (with_reducible first | exact HI0.out | apply IsS76.alloc | apply IsS76.drewN | apply IsS76.drew | apply IsS76.set_0 | apply IsS76.set_1 | apply IsS76.set_2 | apply IsS76.set_3 | apply IsS76.set_4 | apply IsS76.set_5 | apply IsS76.set_6 | apply IsS76.set_7 | apply IsS76.set_8 | refine IsS76.far ?_ NB0_303.out _) | exact HI0.out)
      have hX0_ : W_.heap[gb303]? = some (.cells #[.int .i64 t301, .int .i64 t302, .int .i64 x304002_8] 101 (0, 0)) := by rw [hW_]; exact o0
      refine start_ (n := 13) (S := fun w' => Below W_.heap.size W_ w') (ds := [12]) (bl 13 0) (by kernel_rfl) rfl rfl (below_drew1 bR) (fun hHeld => ?_)
      refine pk_ 5 64 (bl 13 32) ?_
      refine pk_ 6 65 (bl 13 96) ?_
      refine pk_ 7 66 (bl 13 224) ?_
      refine tk_ 8 67 (bl 13 480) hHeld ?_ (hr := by intro w' hw'; have cb0_ := pw_cell_below hw' (IsS76.cell_3 hS_); have cb1_ := pw_cell_below hw' (show W_.cell? ⟨gb303, 0, none⟩ = some (.int .i64 t301) from (blk_cell hX0_ 0).trans rfl); have cb2_ := pw_cell_below hw' (show W_.cell? ⟨gb303, 1, none⟩ = some (.int .i64 t302) from (blk_cell hX0_ 1).trans rfl); have cb3_ := pw_cell_below hw' (show W_.cell? ⟨gb303, 2, none⟩ = some (.int .i64 x304002_8) from (blk_cell hX0_ 2).trans rfl); go_simp; with_reducible rfl)
      refine pk_ 10 69 (bl 13 1504) ?_
      refine tk_ 11 70 (bl 13 3552) hHeld ?_ (hr := by intro w' hw'; have cb0_ := pw_cell_below hw' (IsS76.cell_3 hS_); have cb1_ := pw_cell_below hw' (show W_.cell? ⟨gb303, 0, none⟩ = some (.int .i64 t301) from (blk_cell hX0_ 0).trans rfl); have cb2_ := pw_cell_below hw' (show W_.cell? ⟨gb303, 1, none⟩ = some (.int .i64 t302) from (blk_cell hX0_ 1).trans rfl); have cb3_ := pw_cell_below hw' (show W_.cell? ⟨gb303, 2, none⟩ = some (.int .i64 x304002_8) from (blk_cell hX0_ 2).trans rfl); go_simp; with_reducible rfl)
      refine one_ (i := 0) (N := some 62) (bl 13 3553) rfl rfl (by kernel_rfl) (by decide) (fun K hK => ?_)
      refine value_ (w1 := W_.drew.alloc (.map #[] 0)) (v := .map (some W_.drew.heap.size)) (by rfl) rfl (by rfl) ?_
      refine hK.out _ _ (below_alloc (below_drew1 bR) _) (fun hHeld => ?_)
      clear hK K
      refine no_ 62 ?_
      have hM0_ : FMap W_ (W_.drew.alloc (.map #[] 0)) W_.drew.heap.size [] := FMap.made (below_drew1 bR)
      generalize hW0_ : W_.drew.alloc (.map #[] 0) = W0_ at hM0_ hHeld ⊢
      clear hW0_
      generalize hm_ : W_.drew.heap.size = m_ at hM0_ ⊢
      clear hm_
      refine join_ (σ := Unit) 3 (bl 13 3567) (fun _ => []) (fun _ w' => ∃ l, FMap W_ w' m_ l ∧ l.find? (fun p => (1 : Int) == p.1) = some (1, 42)) ?_ ?_
      rotate_left
      ·intro hJ_
       refine three_ (i := 1) (j := 2) (k := 3) (Ni := none) (Nj := none) (Nk := none) (bl 13 3555) (bl 13 3557) (bl 13 3561) rfl rfl rfl rfl rfl rfl (by kernel_rfl) (by decide) (by decide) (by decide) ?_ ?_ ?_
       ·intro K hK
        obtain ⟨W1_, hr1_, hM1_⟩ := FMap.ins (P := Tryd.prog) Tryd.underlying104 Tryd.underlying3 hM0_ 0 41 (by decide)
        refine skip_ (w1 := W1_) (by rfl) rfl ?_ ?_
        ·exact ins_skip rfl hr1_
        refine hK.out _ _ hM1_.bel (fun hHeld => ?_)
        clear hK K
        refine two_ (i := 2) (j := 3) (Ni := none) (Nj := none) (bl 13 3559) (bl 13 3563) rfl rfl rfl rfl (by kernel_rfl) (by decide) (by decide) ?_ ?_
        ·intro K hK
         obtain ⟨W2_, hr2_, hM2_⟩ := FMap.ins (P := Tryd.prog) Tryd.underlying104 Tryd.underlying3 hM1_ 1 42 (by decide)
         refine skip_ (w1 := W2_) (by rfl) rfl ?_ ?_
         ·exact ins_skip rfl hr2_
         refine hK.out _ _ hM2_.bel (fun hHeld => ?_)
         clear hK K
         refine one_ (i := 3) (N := none) (bl 13 3567) rfl rfl (by kernel_rfl) (by decide) ?_
         ·intro K hK
          obtain ⟨W3_, hr3_, hM3_⟩ := FMap.ins (P := Tryd.prog) Tryd.underlying104 Tryd.underlying3 hM2_ 2 43 (by decide)
          refine skip_ (w1 := W3_) (by rfl) rfl ?_ ?_
          ·exact ins_skip rfl hr3_
          refine hK.out _ _ hM3_.bel (fun hHeld => ?_)
          clear hK K
          exact hJ_ () _ ⟨_, hM3_, by decide⟩
        ·intro K hK
         obtain ⟨W2_, hr2_, hM2_⟩ := FMap.ins (P := Tryd.prog) Tryd.underlying104 Tryd.underlying3 hM1_ 2 43 (by decide)
         refine skip_ (w1 := W2_) (by rfl) rfl ?_ ?_
         ·exact ins_skip rfl hr2_
         refine hK.out _ _ hM2_.bel (fun hHeld => ?_)
         clear hK K
         refine one_ (i := 2) (N := none) (bl 13 3567) rfl rfl (by kernel_rfl) (by decide) ?_
         ·intro K hK
          obtain ⟨W3_, hr3_, hM3_⟩ := FMap.ins (P := Tryd.prog) Tryd.underlying104 Tryd.underlying3 hM2_ 1 42 (by decide)
          refine skip_ (w1 := W3_) (by rfl) rfl ?_ ?_
          ·exact ins_skip rfl hr3_
          refine hK.out _ _ hM3_.bel (fun hHeld => ?_)
          clear hK K
          exact hJ_ () _ ⟨_, hM3_, by decide⟩
       ·intro K hK
        obtain ⟨W1_, hr1_, hM1_⟩ := FMap.ins (P := Tryd.prog) Tryd.underlying104 Tryd.underlying3 hM0_ 1 42 (by decide)
        refine skip_ (w1 := W1_) (by rfl) rfl ?_ ?_
        ·exact ins_skip rfl hr1_
        refine hK.out _ _ hM1_.bel (fun hHeld => ?_)
        clear hK K
        refine two_ (i := 1) (j := 3) (Ni := none) (Nj := none) (bl 13 3559) (bl 13 3565) rfl rfl rfl rfl (by kernel_rfl) (by decide) (by decide) ?_ ?_
        ·intro K hK
         obtain ⟨W2_, hr2_, hM2_⟩ := FMap.ins (P := Tryd.prog) Tryd.underlying104 Tryd.underlying3 hM1_ 0 41 (by decide)
         refine skip_ (w1 := W2_) (by rfl) rfl ?_ ?_
         ·exact ins_skip rfl hr2_
         refine hK.out _ _ hM2_.bel (fun hHeld => ?_)
         clear hK K
         refine one_ (i := 3) (N := none) (bl 13 3567) rfl rfl (by kernel_rfl) (by decide) ?_
         ·intro K hK
          obtain ⟨W3_, hr3_, hM3_⟩ := FMap.ins (P := Tryd.prog) Tryd.underlying104 Tryd.underlying3 hM2_ 2 43 (by decide)
          refine skip_ (w1 := W3_) (by rfl) rfl ?_ ?_
          ·exact ins_skip rfl hr3_
          refine hK.out _ _ hM3_.bel (fun hHeld => ?_)
          clear hK K
          exact hJ_ () _ ⟨_, hM3_, by decide⟩
        ·intro K hK
         obtain ⟨W2_, hr2_, hM2_⟩ := FMap.ins (P := Tryd.prog) Tryd.underlying104 Tryd.underlying3 hM1_ 2 43 (by decide)
         refine skip_ (w1 := W2_) (by rfl) rfl ?_ ?_
         ·exact ins_skip rfl hr2_
         refine hK.out _ _ hM2_.bel (fun hHeld => ?_)
         clear hK K
         refine one_ (i := 1) (N := none) (bl 13 3567) rfl rfl (by kernel_rfl) (by decide) ?_
         ·intro K hK
          obtain ⟨W3_, hr3_, hM3_⟩ := FMap.ins (P := Tryd.prog) Tryd.underlying104 Tryd.underlying3 hM2_ 0 41 (by decide)
          refine skip_ (w1 := W3_) (by rfl) rfl ?_ ?_
          ·exact ins_skip rfl hr3_
          refine hK.out _ _ hM3_.bel (fun hHeld => ?_)
          clear hK K
          exact hJ_ () _ ⟨_, hM3_, by decide⟩
       ·intro K hK
        obtain ⟨W1_, hr1_, hM1_⟩ := FMap.ins (P := Tryd.prog) Tryd.underlying104 Tryd.underlying3 hM0_ 2 43 (by decide)
        refine skip_ (w1 := W1_) (by rfl) rfl ?_ ?_
        ·exact ins_skip rfl hr1_
        refine hK.out _ _ hM1_.bel (fun hHeld => ?_)
        clear hK K
        refine two_ (i := 1) (j := 2) (Ni := none) (Nj := none) (bl 13 3563) (bl 13 3565) rfl rfl rfl rfl (by kernel_rfl) (by decide) (by decide) ?_ ?_
        ·intro K hK
         obtain ⟨W2_, hr2_, hM2_⟩ := FMap.ins (P := Tryd.prog) Tryd.underlying104 Tryd.underlying3 hM1_ 0 41 (by decide)
         refine skip_ (w1 := W2_) (by rfl) rfl ?_ ?_
         ·exact ins_skip rfl hr2_
         refine hK.out _ _ hM2_.bel (fun hHeld => ?_)
         clear hK K
         refine one_ (i := 2) (N := none) (bl 13 3567) rfl rfl (by kernel_rfl) (by decide) ?_
         ·intro K hK
          obtain ⟨W3_, hr3_, hM3_⟩ := FMap.ins (P := Tryd.prog) Tryd.underlying104 Tryd.underlying3 hM2_ 1 42 (by decide)
          refine skip_ (w1 := W3_) (by rfl) rfl ?_ ?_
          ·exact ins_skip rfl hr3_
          refine hK.out _ _ hM3_.bel (fun hHeld => ?_)
          clear hK K
          exact hJ_ () _ ⟨_, hM3_, by decide⟩
        ·intro K hK
         obtain ⟨W2_, hr2_, hM2_⟩ := FMap.ins (P := Tryd.prog) Tryd.underlying104 Tryd.underlying3 hM1_ 1 42 (by decide)
         refine skip_ (w1 := W2_) (by rfl) rfl ?_ ?_
         ·exact ins_skip rfl hr2_
         refine hK.out _ _ hM2_.bel (fun hHeld => ?_)
         clear hK K
         refine one_ (i := 1) (N := none) (bl 13 3567) rfl rfl (by kernel_rfl) (by decide) ?_
         ·intro K hK
          obtain ⟨W3_, hr3_, hM3_⟩ := FMap.ins (P := Tryd.prog) Tryd.underlying104 Tryd.underlying3 hM2_ 0 41 (by decide)
          refine skip_ (w1 := W3_) (by rfl) rfl ?_ ?_
          ·exact ins_skip rfl hr3_
          refine hK.out _ _ hM3_.bel (fun hHeld => ?_)
          clear hK K
          exact hJ_ () _ ⟨_, hM3_, by decide⟩
      rintro _ w62 ⟨l_, hM_, hf_⟩
      dsimp only [putAll]
      have hHeld := hM_.bel
      refine pk_ 4 63 (bl 13 3583) ?_
      refine one_ (i := 9) (N := some 68) (bl 13 4095) rfl rfl (by kernel_rfl) (by decide) (fun K hK => ?_)
      refine value_ (w1 := w62) (v := fnv 42) (by rfl) rfl ?_ ?_
      ·have hl_ := FMap.look (P := Tryd.prog) Tryd.underlying104 Tryd.underlying3 hM_ 1 42 hf_
       exact look_val rfl hl_
      refine hK.out _ _ hM_.bel (fun hHeld => ?_)
      clear hK K
      refine no_ 68 ?_
      refine last_ (i := 12) (N := some 71) (bl 13 8191) rfl rfl (by kernel_rfl) (by decide) (fun K hK => ?_)
      refine call_ 42 #[.pointer (some ⟨g, 0, none⟩), .agg #[.int .i64 t301, .int .i64 t302, .int .i64 x304002_8]] (by rfl) rfl ?_ ?_
      ·simp [execOp, resolve, Deferred.ofValue, invoke, Act.eval, fnv, enters_ (P := Tryd.prog) (fn := Tryd.f42) Tryd.func42 (by kernel_rfl) rfl]
      have hb := hM_.bel
      clear hM_ hHeld hf_ hS_ hX0_
      subst hW_
      replace HB := aW (below_step o26 hb)
      replace HK := aW (KeepBut.trans o40 (KeepBut.of_below hb g none) (.inl rfl))
      replace HI0 := aW (IsS76.below (show IsS76 w0 (((wc.setCell ⟨g, 7, none⟩ (.bool true)).setCell ⟨g, 8, none⟩ (.int .i64 t300)).setCell ⟨g, 3, none⟩ (.int .i64 1)) g s0_0 s0_1 s0_2 1 s0_4 s0_5 s0_6 true t300 from o4) hb)
      replace BK303 := aW (blk_below (g := gb303) (o := .cells #[.int .i64 t301, .int .i64 t302, .int .i64 x304002_8] 101 (0, 0)) o0 hb)
      (try clear hb)
      (try clear hb2)
      (try clear hk)
      (try clear hi)
      (with_reducible refine (aimd_Aimd_lift.calls kj8 g s0_0 s0_1 s0_2 1 s0_4 s0_5 s0_6 true t300 t301 t302 x304002_8 t339 t340 t341 t342 t343 t344 t345 t346 t347 w0 _ ?side1 ?side2 A57.out).mono ?_)
      (case side1 => exact o10)
      (case side2 => exact o32)
      rintro e w63 ⟨rfl, hi, hb, hk⟩
      refine ⟨_, rfl, ?_⟩
      refine hK.out _ _ ?_
      refine done_ (by kernel_rfl) ?_
      clear hK K
      replace HI0 := aW (hi)
      replace HB := aW (hb)
      replace HK := aW (KeepBut.trans o40 hk (.inl rfl))
      replace BK303 := aW (KeepBut.blk hk (g' := gb303) (o := .cells #[.int .i64 t301, .int .i64 t302, .int .i64 x304002_8] 101 (0, 0)) o79 NB303_0.out (by simp))
      (try clear hb)
      (try clear hb2)
      (try clear hk)
      (try clear hi)
      try go_wp2
      replace HB := aW (below_drew1 HB.out)
      replace HK := aW (keep_drew HK.out)
      replace HI0 := aW (IsS76.drew HI0.out)
      replace BK303 := aW (blk_drew BK303.out)
      refine start_ (n := 17) (S := fun w' => w'.cell? ⟨g, 0, none⟩ = some (.int .i64 t339) ∧ w'.cell? ⟨g, 1, none⟩ = some (.int .i64 t340) ∧ w'.cell? ⟨g, 2, none⟩ = some (.int .i64 t341) ∧ w'.cell? ⟨g, 3, none⟩ = some (.int .i64 t342) ∧ w'.cell? ⟨g, 4, none⟩ = some (.bool t343) ∧ w'.cell? ⟨g, 5, none⟩ = some (.int .i64 t344) ∧ w'.cell? ⟨g, 6, none⟩ = some (.int .i64 t345) ∧ w'.cell? ⟨g, 7, none⟩ = some (.bool t346) ∧ w'.cell? ⟨g, 8, none⟩ = some (.int .i64 t347)) (ds := [16]) (bl 17 0) (by kernel_rfl) rfl rfl ⟨(IsS76.cell_0 HI0.out), (IsS76.cell_1 HI0.out), (IsS76.cell_2 HI0.out), (IsS76.cell_3 HI0.out), (IsS76.cell_4 HI0.out), (IsS76.cell_5 HI0.out), (IsS76.cell_6 HI0.out), (IsS76.cell_7 HI0.out), (IsS76.cell_8 HI0.out)⟩ (fun hHeld => ?_); refine with_tabW aimd_Aimd_Update.tab14 aimd_Aimd_Update.bits14 (fun HT_ HW_ => ?_)
      generalize w63.drew = w64 at BK303 HI0 HK HB hHeld ⊢
      refine pq_ 0 72 (bl 17 1) HT_ ?_
      refine pq_ 1 73 (bl 17 3) HT_ ?_
      refine pq_ 2 74 (bl 17 7) HT_ ?_
      refine pq_ 3 75 (bl 17 15) HT_ ?_
      refine pq_ 5 77 (bl 17 47) HT_ ?_
      refine pq_ 6 78 (bl 17 111) HT_ ?_
      refine pq_ 7 79 (bl 17 239) HT_ ?_
      refine pq_ 9 81 (bl 17 751) HT_ ?_
      refine pq_ 10 82 (bl 17 1775) HT_ ?_
      refine pq_ 11 83 (bl 17 3823) HT_ ?_
      refine tq_ 4 76 (bl 17 3839) HT_ HW_ hHeld ?_ (hr := by rintro w' ⟨s0, s1, s2, s3, s4, s5, s6, s7, s8⟩; go_simp; with_reducible rfl)
      refine tq_ 8 80 (bl 17 4095) HT_ HW_ hHeld ?_ (hr := by rintro w' ⟨s0, s1, s2, s3, s4, s5, s6, s7, s8⟩; go_simp; with_reducible rfl)
      refine tq_ 12 84 (bl 17 8191) HT_ HW_ hHeld ?_ (hr := by rintro w' ⟨s0, s1, s2, s3, s4, s5, s6, s7, s8⟩; go_simp; with_reducible rfl)
      refine one_ (i := 13) (N := some 85) (bl 17 16383) rfl rfl (one_of HT_.out (by kernel_rfl)) (by decide) (fun K hK => ?_)
      refine goes_ Tryd.func23 (by kernel_rfl) rfl #[.int .i64 t339, .int .i64 t340, .int .i64 t341] (by rfl) rfl rfl o72 ?_
      with_reducible refine (sat_Clamp.calls t339 t340 t341 t348 _ A58.out).mono ?_
      rintro e w' ⟨rfl, ⟨nd, rfl⟩⟩
      refine ⟨_, rfl, ?_⟩
      refine hK.out _ _ ⟨(IsS76.cell_0 HI0.out), (IsS76.cell_1 HI0.out), (IsS76.cell_2 HI0.out), (IsS76.cell_3 HI0.out), (IsS76.cell_4 HI0.out), (IsS76.cell_5 HI0.out), (IsS76.cell_6 HI0.out), (IsS76.cell_7 HI0.out), (IsS76.cell_8 HI0.out)⟩ (fun hHeld => ?_)
      clear hK K
      refine no_ 85 ?_
      refine pq_ 14 86 (bl 17 32767) HT_ ?_
      refine pq_ 15 87 (bl 17 65535) HT_ ?_
      refine last_ (i := 16) (N := none) (bl 17 131071) rfl rfl (one_of HT_.out (by kernel_rfl)) (by decide) (fun K hK => ?_)
      have hs65 : w64.cell? ⟨g, 0, none⟩ = some (.int .i64 t339) := IsS76.cell_0 HI0.out
      have hfs65 := IsS76.froz_0 HI0.out
      have hns65_0 := NB303_0.out
      have hms65_0 := NB0_303.out
      refine skip_ (w1 := ?_) (by rfl) rfl ?_ ?_
      rotate_left
      ·go_simp
       rfl
      refine hK.out _ _ ?_
      clear hK K
      refine done_ (done_of HT_.out (by kernel_rfl)) ?_
      obtain ⟨HGz66, hgz66⟩ := HI0.out
      obtain ⟨hcz66_0, hfz66_0, hcz66_1, hfz66_1, hcz66_2, hfz66_2, hcz66_3, hfz66_3, hcz66_4, hfz66_4, hcz66_5, hfz66_5, hcz66_6, hfz66_6, hcz66_7, hfz66_7, hcz66_8, hfz66_8⟩ := bp9 HGz66
      clear HGz66 hgz66
      try go_wp2
      go_ret
      exact ⟨o95, o7, o29, o43⟩
end Go.Proofs.YtphgeljglhjamaaDoor.P
end

section
namespace Go.Proofs.YtphgeljglhjamaaDoor.P
open Go.RowKit Go.Proofs.YtphgeljglhjamaaDoorW.PrintWords Go.Proofs.YtphgeljglhjamaaDoorW.PrintLast Go.Proofs.YtphgeljglhjamaaDoorW.PrintMore
attribute [local go_sem] max2_int min2_int max_two min_two max_three min_three max_four min_four
set_option linter.unusedVariables false
set_option linter.unusedSimpArgs false
def lrow (r n : Int) : Option Int := if n ≤ 5 then (muldiv_Do.f r (wrap64 (105 - wrap64 0)) 100 3).bind fun q => some (wrap64 (q + 1000)) else if n ≤ 26 then (muldiv_Do.f r (wrap64 (1 - wrap64 0)) 1 1).bind fun q => some (wrap64 q) else (muldiv_Do.f r (wrap64 (512 - wrap64 n)) 512 1).bind fun q => some (wrap64 q)
def lossy_Lossy_Update.f (s0_0 : Int) (s0_1 : Int) (s0_2 : Int) (s0_3 : Bool) (s0_4 : Int) (a1 : Int) (a2 : Int) : Option (Int × Int × Int × Int × Bool × Int) := (sat_Clamp.f a2 0 1125899906842624).bind fun t => (if s0_3 = true ∧ wrap64 (t - s0_4) < 200000 then some (s0_0, s0_0, s0_1, s0_2, s0_3, s0_4) else ((sat_Clamp.f a1 0 256).bind fun n => ((lrow s0_0 n).bind fun q => ((sat_Clamp.f q s0_1 s0_2).bind fun t3 => some (t3, t3, s0_1, s0_2, true, t)))))
def GL (w : World) : Prop := w.cell? ⟨0, 0, none⟩ = some (.int .i64 5) ∧ w.cell? ⟨0, 1, none⟩ = some (.int .i64 105) ∧ w.cell? ⟨0, 2, none⟩ = some (.int .i64 100) ∧ w.cell? ⟨0, 3, none⟩ = some (.int .i64 1000) ∧ w.cell? ⟨0, 4, none⟩ = some (.int .i64 0) ∧ w.cell? ⟨0, 5, none⟩ = some (.int .i64 26) ∧ w.cell? ⟨0, 6, none⟩ = some (.int .i64 1) ∧ w.cell? ⟨0, 7, none⟩ = some (.int .i64 1) ∧ w.cell? ⟨0, 8, none⟩ = some (.int .i64 0) ∧ w.cell? ⟨0, 9, none⟩ = some (.int .i64 0) ∧ w.cell? ⟨0, 10, none⟩ = some (.int .i64 256) ∧ w.cell? ⟨0, 11, none⟩ = some (.int .i64 512) ∧ w.cell? ⟨0, 12, none⟩ = some (.int .i64 512) ∧ w.cell? ⟨0, 13, none⟩ = some (.int .i64 0) ∧ w.cell? ⟨0, 14, none⟩ = some (.int .i64 1)
theorem GL.below {w w1 : World} (h : GL w) (hb : Below w.heap.size w w1) : GL w1 := by
 unfold GL at h ⊢
 obtain ⟨h0, h1, h2, h3, h4, h5, h6, h7, h8, h9, h10, h11, h12, h13, h14⟩ := h
 exact ⟨pw_cell_below hb h0, pw_cell_below hb h1, pw_cell_below hb h2, pw_cell_below hb h3, pw_cell_below hb h4, pw_cell_below hb h5, pw_cell_below hb h6, pw_cell_below hb h7, pw_cell_below hb h8, pw_cell_below hb h9, pw_cell_below hb h10, pw_cell_below hb h11, pw_cell_below hb h12, pw_cell_below hb h13, pw_cell_below hb h14⟩
theorem namedG_ {P : Program} {Q : Exit → Act → World → Prop} {a : Act} {W : World} {c : Code} (h : ∀ W_, W_ = W → c.wp P Q a W_) : c.wp P Q a W := h W rfl
theorem sizeG_ (w : World) (o : Obj) : (w.alloc o).heap.size = w.heap.size + 1 := by show (w.heap.push _).size = _; exact Array.size_push _
structure LK (w0 w W : World) (g : Nat) (f0 f1 f2 : Int) (f3 : Bool) (f4 : Int) : Prop where
 st : IsS78 w0 W g f0 f1 f2 f3 f4
 bel : Below w0.heap.size w0 W
 keep : KeepBut w W g none
theorem LK.drew {w0 w W : World} {g : Nat} {f0 f1 f2 : Int} {f3 : Bool} {f4 : Int} (h : LK w0 w W g f0 f1 f2 f3 f4) : LK w0 w W.drew g f0 f1 f2 f3 f4 :=
 ⟨IsS78.drew h.st, below_drew1 h.bel, keep_drew h.keep⟩
theorem LK.drewN {w0 w W : World} {g : Nat} {f0 f1 f2 : Int} {f3 : Bool} {f4 : Int} (h : LK w0 w W g f0 f1 f2 f3 f4) (n : Nat) : LK w0 w (W.drewN n) g f0 f1 f2 f3 f4 :=
 ⟨IsS78.drewN h.st n, pw_below_drewN h.bel n, keep_drewN h.keep n⟩
structure LH (w0 w W : World) (g b : Nat) (f0 f1 f2 : Int) (f3 : Bool) (f4 r0 r1 r2 r3 r4 : Int) : Prop where
 st : IsS78 w0 W g f0 f1 f2 f3 f4
 bel : Below w0.heap.size w0 W
 keep : KeepBut w W g none
 row : W.heap[b]? = some (.cells #[.int .i64 r0, .int .i64 r1, .int .i64 r2, .int .i64 r3, .int .i64 r4] 106 (0, 0))
theorem LH.below {w0 w W W1 : World} {g b : Nat} {f0 f1 f2 : Int} {f3 : Bool} {f4 r0 r1 r2 r3 r4 : Int} (h : LH w0 w W g b f0 f1 f2 f3 f4 r0 r1 r2 r3 r4) (hb : Below W.heap.size W W1) : LH w0 w W1 g b f0 f1 f2 f3 f4 r0 r1 r2 r3 r4 :=
 ⟨IsS78.below h.st hb, below_step h.bel hb, KeepBut.trans h.keep (KeepBut.of_below hb g none) (.inl rfl), blk_below h.row hb⟩
theorem LH.drew {w0 w W : World} {g b : Nat} {f0 f1 f2 : Int} {f3 : Bool} {f4 r0 r1 r2 r3 r4 : Int} (h : LH w0 w W g b f0 f1 f2 f3 f4 r0 r1 r2 r3 r4) : LH w0 w W.drew g b f0 f1 f2 f3 f4 r0 r1 r2 r3 r4 :=
 ⟨IsS78.drew h.st, below_drew1 h.bel, keep_drew h.keep, blk_drew h.row⟩
set_option maxHeartbeats 8000000 in
set_option maxRecDepth 100000 in
theorem lossy_upd0 (g : Nat) (s0_0 s0_1 s0_2 : Int) (s0_3 : Bool) (s0_4 a1 a2 n t : Int) (w0 w : World) (hI : IsS78 w0 w g s0_0 s0_1 s0_2 s0_3 s0_4) (hB : Below w0.heap.size w0 w) (hG : GL w0) (q : Int) (Aq : muldiv_Do.f s0_0 (wrap64 (105 - wrap64 0)) 100 3 = some q) (t3 : Int) (A3 : sat_Clamp.f (wrap64 (q + 1000)) s0_1 s0_2 = some t3) (At : sat_Clamp.f a2 0 1125899906842624 = some t) (An : sat_Clamp.f a1 0 256 = some n) (cn : n ≤ 5) (hn : n ≤ 256) (c : s0_3 = false ∨ s0_3 = true ∧ decide (wrap64 (t - s0_4) < 200000) = false) :
  Calls Tryd.prog 26 #[.pointer (some ⟨g, 0, none⟩), .int .i64 a1, .int .i64 a2] w fun e w' => e = .returned (.int .i64 t3) ∧ IsS78 w0 w' g t3 s0_1 s0_2 true t ∧ Below w0.heap.size w0 w' ∧ KeepBut w w' g none := by
 have hpn : ∀ (a_ : Addr) (W_ : World), (Go.binOp .eql 51 (.pointer (some a_)) (.pointer none)).run Tryd.prog W_ = .ok (.bool false) W_ := fun _ _ => by kernel_rfl
 have hix0 : ∀ W_ : World, (Instr.index 107 (.agg #[.int .i64 5, .int .i64 105, .int .i64 100, .int .i64 1000, .int .i64 0, .int .i64 26, .int .i64 1, .int .i64 1, .int .i64 0, .int .i64 0, .int .i64 256, .int .i64 512, .int .i64 512, .int .i64 0, .int .i64 1]) (.int .i64 0)).run Tryd.prog W_ = .ok (.agg #[.int .i64 5, .int .i64 105, .int .i64 100, .int .i64 1000, .int .i64 0]) W_ := fun _ => by kernel_rfl
 have hix1 : ∀ W_ : World, (Instr.index 107 (.agg #[.int .i64 5, .int .i64 105, .int .i64 100, .int .i64 1000, .int .i64 0, .int .i64 26, .int .i64 1, .int .i64 1, .int .i64 0, .int .i64 0, .int .i64 256, .int .i64 512, .int .i64 512, .int .i64 0, .int .i64 1]) (.int .i64 1)).run Tryd.prog W_ = .ok (.agg #[.int .i64 26, .int .i64 1, .int .i64 1, .int .i64 0, .int .i64 0]) W_ := fun _ => by kernel_rfl
 have hix2 : ∀ W_ : World, (Instr.index 107 (.agg #[.int .i64 5, .int .i64 105, .int .i64 100, .int .i64 1000, .int .i64 0, .int .i64 26, .int .i64 1, .int .i64 1, .int .i64 0, .int .i64 0, .int .i64 256, .int .i64 512, .int .i64 512, .int .i64 0, .int .i64 1]) (.int .i64 2)).run Tryd.prog W_ = .ok (.agg #[.int .i64 256, .int .i64 512, .int .i64 512, .int .i64 0, .int .i64 1]) W_ := fun _ => by kernel_rfl
 have cn0_ : decide (5 < n) = false := decide_eq_false (by omega)
 rcases c with c | ⟨c, hc⟩
 ·subst c
  go_enter Tryd.func26, Tryd.ntmps26
  go_wp2_with (first | ((with_reducible refine gate_dst (N := 14) rfl ?_); refine gL_ 14 Tryd.func23 #[.int .i64 a2, .int .i64 0, .int .i64 1125899906842624] ?_; (with_reducible refine (sat_Clamp.calls a2 0 1125899906842624 t _ At).mono ?_); rintro e w' ⟨rfl, ⟨nd, rfl⟩⟩; refine ⟨_, rfl, ?_⟩; have hI1 := IsS78.drewN hI nd; have hB1 := pw_below_drewN hB nd; have hK1 := keep_drewN (KeepBut.refl w g none) nd; generalize World.drewN w nd = W1 at hI1 hB1 hK1 ⊢; have hc0_ : W1.cell? ⟨g, 0, none⟩ = some (.int .i64 s0_0) := IsS78.cell_0 hI1; have hf0_ := IsS78.froz_0 hI1; have hc1_ : W1.cell? ⟨g, 1, none⟩ = some (.int .i64 s0_1) := IsS78.cell_1 hI1; have hf1_ := IsS78.froz_1 hI1; have hc2_ : W1.cell? ⟨g, 2, none⟩ = some (.int .i64 s0_2) := IsS78.cell_2 hI1; have hf2_ := IsS78.froz_2 hI1; have hc3_ : W1.cell? ⟨g, 3, none⟩ = some (.bool false) := IsS78.cell_3 hI1; have hf3_ := IsS78.froz_3 hI1; have hc4_ : W1.cell? ⟨g, 4, none⟩ = some (.int .i64 s0_4) := IsS78.cell_4 hI1; have hf4_ := IsS78.froz_4 hI1) | ((with_reducible refine gate_dst (N := 40) rfl ?_); refine gL_ 40 Tryd.func23 #[.int .i64 a1, .int .i64 0, .int .i64 256] ?_; (with_reducible refine (sat_Clamp.calls a1 0 256 n _ An).mono ?_); rintro e w' ⟨rfl, ⟨nd, rfl⟩⟩; refine ⟨_, rfl, ?_⟩; have hI2 := IsS78.drewN (IsS78.set_4 (IsS78.set_3 hI1 true) t) nd; have hB2 := pw_below_drewN (below_set (below_set hB1 (IsS78.ge hI1) (j := 3) (v := .bool true)) (IsS78.ge hI1) (j := 4) (v := .int .i64 t)) nd; have hK2 := keep_drewN (KeepBut.set_ (KeepBut.set_ hK1 3 (.bool true)) 4 (.int .i64 t)) nd; clear hI1 hB1 hK1; clear hc0_ hf0_ hc1_ hf1_ hc2_ hf2_ hc3_ hf3_ hc4_ hf4_; generalize World.drewN ((W1.setCell ⟨g, 3, none⟩ (.bool true)).setCell ⟨g, 4, none⟩ (.int .i64 t)) nd = W2 at hI2 hB2 hK2 ⊢; have hc0_ : W2.cell? ⟨g, 0, none⟩ = some (.int .i64 s0_0) := IsS78.cell_0 hI2; have hf0_ := IsS78.froz_0 hI2; have hc1_ : W2.cell? ⟨g, 1, none⟩ = some (.int .i64 s0_1) := IsS78.cell_1 hI2; have hf1_ := IsS78.froz_1 hI2; have hc2_ : W2.cell? ⟨g, 2, none⟩ = some (.int .i64 s0_2) := IsS78.cell_2 hI2; have hf2_ := IsS78.froz_2 hI2; have hc3_ : W2.cell? ⟨g, 3, none⟩ = some (.bool true) := IsS78.cell_3 hI2; have hf3_ := IsS78.froz_3 hI2; have hc4_ : W2.cell? ⟨g, 4, none⟩ = some (.int .i64 t) := IsS78.cell_4 hI2; have hf4_ := IsS78.froz_4 hI2; have hG2 := hG.below hB2; obtain ⟨q0, q1, q2, q3, q4, q5, q6, q7, q8, q9, q10, q11, q12, q13, q14⟩ := hG2))
  refine wp_loop_rounds 4 ?_
  rw [rounds_succ]
  go_wp2
  refine namedG_ ?_
  intro W3 hW3
  have h1 : LH w0 w W3 g W2.heap.size s0_0 s0_1 s0_2 true t 5 105 100 1000 0 := by rw [hW3]; exact ⟨IsS78.alloc (hI2) _, below_alloc (hB2) _, keep_alloc (hK2) _, blk_new _ _⟩
  clear hW3 hI2 hB2 hK2
  generalize W2.heap.size = b at h1 ⊢
  refine start_ (n := 22) (S := fun w' => LH w0 w w' g b s0_0 s0_1 s0_2 true t 5 105 100 1000 0) (ds := [21]) (bl 22 0) (by kernel_rfl) rfl rfl h1.drew (fun hHeld => ?_)
  clear h1
  generalize W3.drew = W3 at hHeld ⊢
  refine pk_ 0 52 (bl 22 1) ?_
  refine pk_ 1 53 (bl 22 3) ?_
  refine pk_ 2 54 (bl 22 7) ?_
  refine pk_ 3 55 (bl 22 15) ?_
  refine tk_ 4 56 (bl 22 31) hHeld ?_ (hr := by intro w' hw'; have cb0_ : w'.cell? ⟨g, 0, none⟩ = some (.int .i64 s0_0) := IsS78.cell_0 hw'.st; go_simp; with_reducible rfl)
  refine pk_ 5 57 (bl 22 63) ?_
  refine tk_ 6 58 (bl 22 127) hHeld ?_ (hr := by intro w' hw'; have cb0_ : w'.cell? ⟨b, 1, none⟩ = some (.int .i64 105) := (blk_cell hw'.row 1).trans rfl; go_simp; with_reducible rfl)
  refine pk_ 7 59 (bl 22 255) ?_
  refine tk_ 8 60 (bl 22 511) hHeld ?_ (hr := by intro w' hw'; have cb0_ : w'.cell? ⟨b, 4, none⟩ = some (.int .i64 0) := (blk_cell hw'.row 4).trans rfl; go_simp; with_reducible rfl)
  refine pk_ 9 61 (bl 22 1023) ?_
  refine pk_ 10 62 (bl 22 2047) ?_
  refine pk_ 11 63 (bl 22 4095) ?_
  refine pk_ 12 64 (bl 22 8191) ?_
  refine tk_ 13 65 (bl 22 16383) hHeld ?_ (hr := by intro w' hw'; have cb0_ : w'.cell? ⟨b, 2, none⟩ = some (.int .i64 100) := (blk_cell hw'.row 2).trans rfl; go_simp; with_reducible rfl)
  refine pk_ 14 66 (bl 22 32767) ?_
  refine pk_ 16 68 (bl 22 98303) ?_
  refine tk_ 17 69 (bl 22 229375) hHeld ?_ (hr := by intro w' hw'; have cb0_ : w'.cell? ⟨b, 3, none⟩ = some (.int .i64 1000) := (blk_cell hw'.row 3).trans rfl; go_simp; with_reducible rfl)
  refine one_ (i := 15) (N := some 67) (bl 22 262143) rfl rfl (by kernel_rfl) (by decide) (fun K hK => ?_)
  refine goes_ Tryd.func44 (by kernel_rfl) rfl #[.int .i64 s0_0, .int .i64 (wrap64 (105 - wrap64 0)), .int .i64 100, .int .i64 3] (by rfl) rfl rfl o99 ?_
  refine (muldiv_Do.calls s0_0 _ 100 3 q _ Aq).mono ?_
  rintro e w' ⟨rfl, hb⟩
  refine ⟨_, rfl, ?_⟩
  have hN_ := hHeld.below hb
  refine hK.out _ _ hN_ (fun hHeld => ?_)
  clear hK K hN_ hb
  refine no_ 67 ?_
  refine pk_ 18 70 (bl 22 524287) ?_
  refine pk_ 19 71 (bl 22 1048575) ?_
  refine pk_ 20 72 (bl 22 2097151) ?_
  refine last_ (i := 21) (N := none) (bl 22 4194303) rfl rfl (by kernel_rfl) (by decide) (fun K hK => ?_)
  have hs0_ : w'.cell? ⟨g, 0, none⟩ = some (.int .i64 s0_0) := IsS78.cell_0 hHeld.st
  have hf0_ := IsS78.froz_0 hHeld.st
  refine skip_ (w1 := ?_) (by rfl) rfl ?_ ?_
  rotate_left
  ·go_simp
   rfl
  refine hK.out _ _ ?_
  refine done_ (by kernel_rfl) ?_
  clear hK K
  clear hs0_
  clear hf0_
  have h2 : IsS78 w0 (w'.setCell ⟨g, 0, none⟩ (.int .i64 (wrap64 (q + 1000)))) g (wrap64 (q + 1000)) s0_1 s0_2 true t := IsS78.set_0 hHeld.st _
  have hb2 := below_set hHeld.bel (IsS78.ge hHeld.st) (j := 0) (v := .int .i64 (wrap64 (q + 1000)))
  have hk2 := KeepBut.set_ hHeld.keep 0 (.int .i64 (wrap64 (q + 1000)))
  clear hHeld
  generalize w'.setCell ⟨g, 0, none⟩ (.int .i64 (wrap64 (q + 1000))) = W5 at h2 hb2 hk2 ⊢
  try go_wp2
  have h3 : LK w0 w W5 g (wrap64 (q + 1000)) s0_1 s0_2 true t := ⟨h2, hb2, hk2⟩
  clear h2 hb2 hk2
  refine start_ (n := 17) (S := fun w' => LK w0 w w' g (wrap64 (q + 1000)) s0_1 s0_2 true t) (ds := [16]) (bl 17 0) (by kernel_rfl) rfl rfl h3.drew (fun hHeld => ?_)
  clear h3
  generalize W5.drew = W5 at hHeld ⊢
  refine pk_ 0 74 (bl 17 1) ?_
  refine pk_ 1 75 (bl 17 3) ?_
  refine pk_ 2 76 (bl 17 7) ?_
  refine pk_ 3 77 (bl 17 15) ?_
  refine tk_ 4 78 (bl 17 31) hHeld ?_ (hr := by intro w' hw'; have cb0_ : w'.cell? ⟨g, 0, none⟩ = some (.int .i64 (wrap64 (q + 1000))) := IsS78.cell_0 hw'.st; go_simp; with_reducible rfl)
  refine pk_ 5 79 (bl 17 63) ?_
  refine pk_ 6 80 (bl 17 127) ?_
  refine pk_ 7 81 (bl 17 255) ?_
  refine tk_ 8 82 (bl 17 511) hHeld ?_ (hr := by intro w' hw'; have cb0_ : w'.cell? ⟨g, 1, none⟩ = some (.int .i64 s0_1) := IsS78.cell_1 hw'.st; go_simp; with_reducible rfl)
  refine pk_ 9 83 (bl 17 1023) ?_
  refine pk_ 10 84 (bl 17 2047) ?_
  refine pk_ 11 85 (bl 17 4095) ?_
  refine tk_ 12 86 (bl 17 8191) hHeld ?_ (hr := by intro w' hw'; have cb0_ : w'.cell? ⟨g, 2, none⟩ = some (.int .i64 s0_2) := IsS78.cell_2 hw'.st; go_simp; with_reducible rfl)
  refine one_ (i := 13) (N := some 87) (bl 17 16383) rfl rfl (by kernel_rfl) (by decide) (fun K hK => ?_)
  refine goes_ Tryd.func23 (by kernel_rfl) rfl #[.int .i64 (wrap64 (q + 1000)), .int .i64 s0_1, .int .i64 s0_2] (by rfl) rfl rfl o99 ?_
  with_reducible refine (sat_Clamp.calls (wrap64 (q + 1000)) s0_1 s0_2 t3 _ A3).mono ?_
  rintro e w' ⟨rfl, ⟨nd, rfl⟩⟩
  refine ⟨_, rfl, ?_⟩
  have hN_ := hHeld.drewN nd
  refine hK.out _ _ hN_ (fun hHeld => ?_)
  clear hK K hN_
  generalize W5.drewN nd = W5_ at hHeld ⊢
  refine no_ 87 ?_
  refine pk_ 14 88 (bl 17 32767) ?_
  refine pk_ 15 89 (bl 17 65535) ?_
  refine last_ (i := 16) (N := none) (bl 17 131071) rfl rfl (by kernel_rfl) (by decide) (fun K hK => ?_)
  have hs0_ : W5_.cell? ⟨g, 0, none⟩ = some (.int .i64 (wrap64 (q + 1000))) := IsS78.cell_0 hHeld.st
  have hf0_ := IsS78.froz_0 hHeld.st
  refine skip_ (w1 := ?_) (by rfl) rfl ?_ ?_
  rotate_left
  ·go_simp
   rfl
  refine hK.out _ _ ?_
  refine done_ (by kernel_rfl) ?_
  clear hK K
  clear hs0_
  clear hf0_
  have h4 := IsS78.set_0 hHeld.st t3
  have hb4 := below_set hHeld.bel (IsS78.ge hHeld.st) (j := 0) (v := .int .i64 t3)
  have hk4 := KeepBut.set_ hHeld.keep 0 (.int .i64 t3)
  clear hHeld
  generalize W5_.setCell ⟨g, 0, none⟩ (.int .i64 t3) = W6 at h4 hb4 hk4 ⊢
  have hc0_ := IsS78.cell_0 h4
  go_wp2
  go_ret
  exact ⟨rfl, h4, hb4, hk4⟩
 ·subst c
  go_enter Tryd.func26, Tryd.ntmps26
  go_wp2_with (first | ((with_reducible refine gate_dst (N := 14) rfl ?_); refine gL_ 14 Tryd.func23 #[.int .i64 a2, .int .i64 0, .int .i64 1125899906842624] ?_; (with_reducible refine (sat_Clamp.calls a2 0 1125899906842624 t _ At).mono ?_); rintro e w' ⟨rfl, ⟨nd, rfl⟩⟩; refine ⟨_, rfl, ?_⟩; have hI1 := IsS78.drewN hI nd; have hB1 := pw_below_drewN hB nd; have hK1 := keep_drewN (KeepBut.refl w g none) nd; generalize World.drewN w nd = W1 at hI1 hB1 hK1 ⊢; have hc0_ : W1.cell? ⟨g, 0, none⟩ = some (.int .i64 s0_0) := IsS78.cell_0 hI1; have hf0_ := IsS78.froz_0 hI1; have hc1_ : W1.cell? ⟨g, 1, none⟩ = some (.int .i64 s0_1) := IsS78.cell_1 hI1; have hf1_ := IsS78.froz_1 hI1; have hc2_ : W1.cell? ⟨g, 2, none⟩ = some (.int .i64 s0_2) := IsS78.cell_2 hI1; have hf2_ := IsS78.froz_2 hI1; have hc3_ : W1.cell? ⟨g, 3, none⟩ = some (.bool true) := IsS78.cell_3 hI1; have hf3_ := IsS78.froz_3 hI1; have hc4_ : W1.cell? ⟨g, 4, none⟩ = some (.int .i64 s0_4) := IsS78.cell_4 hI1; have hf4_ := IsS78.froz_4 hI1) | ((with_reducible refine gate_dst (N := 40) rfl ?_); refine gL_ 40 Tryd.func23 #[.int .i64 a1, .int .i64 0, .int .i64 256] ?_; (with_reducible refine (sat_Clamp.calls a1 0 256 n _ An).mono ?_); rintro e w' ⟨rfl, ⟨nd, rfl⟩⟩; refine ⟨_, rfl, ?_⟩; have hI2 := IsS78.drewN (IsS78.set_4 (IsS78.set_3 hI1 true) t) nd; have hB2 := pw_below_drewN (below_set (below_set hB1 (IsS78.ge hI1) (j := 3) (v := .bool true)) (IsS78.ge hI1) (j := 4) (v := .int .i64 t)) nd; have hK2 := keep_drewN (KeepBut.set_ (KeepBut.set_ hK1 3 (.bool true)) 4 (.int .i64 t)) nd; clear hI1 hB1 hK1; clear hc0_ hf0_ hc1_ hf1_ hc2_ hf2_ hc3_ hf3_ hc4_ hf4_; generalize World.drewN ((W1.setCell ⟨g, 3, none⟩ (.bool true)).setCell ⟨g, 4, none⟩ (.int .i64 t)) nd = W2 at hI2 hB2 hK2 ⊢; have hc0_ : W2.cell? ⟨g, 0, none⟩ = some (.int .i64 s0_0) := IsS78.cell_0 hI2; have hf0_ := IsS78.froz_0 hI2; have hc1_ : W2.cell? ⟨g, 1, none⟩ = some (.int .i64 s0_1) := IsS78.cell_1 hI2; have hf1_ := IsS78.froz_1 hI2; have hc2_ : W2.cell? ⟨g, 2, none⟩ = some (.int .i64 s0_2) := IsS78.cell_2 hI2; have hf2_ := IsS78.froz_2 hI2; have hc3_ : W2.cell? ⟨g, 3, none⟩ = some (.bool true) := IsS78.cell_3 hI2; have hf3_ := IsS78.froz_3 hI2; have hc4_ : W2.cell? ⟨g, 4, none⟩ = some (.int .i64 t) := IsS78.cell_4 hI2; have hf4_ := IsS78.froz_4 hI2; have hG2 := hG.below hB2; obtain ⟨q0, q1, q2, q3, q4, q5, q6, q7, q8, q9, q10, q11, q12, q13, q14⟩ := hG2))
  refine wp_loop_rounds 4 ?_
  rw [rounds_succ]
  go_wp2
  refine namedG_ ?_
  intro W3 hW3
  have h1 : LH w0 w W3 g W2.heap.size s0_0 s0_1 s0_2 true t 5 105 100 1000 0 := by rw [hW3]; exact ⟨IsS78.alloc (hI2) _, below_alloc (hB2) _, keep_alloc (hK2) _, blk_new _ _⟩
  clear hW3 hI2 hB2 hK2
  generalize W2.heap.size = b at h1 ⊢
  refine start_ (n := 22) (S := fun w' => LH w0 w w' g b s0_0 s0_1 s0_2 true t 5 105 100 1000 0) (ds := [21]) (bl 22 0) (by kernel_rfl) rfl rfl h1.drew (fun hHeld => ?_)
  clear h1
  generalize W3.drew = W3 at hHeld ⊢
  refine pk_ 0 52 (bl 22 1) ?_
  refine pk_ 1 53 (bl 22 3) ?_
  refine pk_ 2 54 (bl 22 7) ?_
  refine pk_ 3 55 (bl 22 15) ?_
  refine tk_ 4 56 (bl 22 31) hHeld ?_ (hr := by intro w' hw'; have cb0_ : w'.cell? ⟨g, 0, none⟩ = some (.int .i64 s0_0) := IsS78.cell_0 hw'.st; go_simp; with_reducible rfl)
  refine pk_ 5 57 (bl 22 63) ?_
  refine tk_ 6 58 (bl 22 127) hHeld ?_ (hr := by intro w' hw'; have cb0_ : w'.cell? ⟨b, 1, none⟩ = some (.int .i64 105) := (blk_cell hw'.row 1).trans rfl; go_simp; with_reducible rfl)
  refine pk_ 7 59 (bl 22 255) ?_
  refine tk_ 8 60 (bl 22 511) hHeld ?_ (hr := by intro w' hw'; have cb0_ : w'.cell? ⟨b, 4, none⟩ = some (.int .i64 0) := (blk_cell hw'.row 4).trans rfl; go_simp; with_reducible rfl)
  refine pk_ 9 61 (bl 22 1023) ?_
  refine pk_ 10 62 (bl 22 2047) ?_
  refine pk_ 11 63 (bl 22 4095) ?_
  refine pk_ 12 64 (bl 22 8191) ?_
  refine tk_ 13 65 (bl 22 16383) hHeld ?_ (hr := by intro w' hw'; have cb0_ : w'.cell? ⟨b, 2, none⟩ = some (.int .i64 100) := (blk_cell hw'.row 2).trans rfl; go_simp; with_reducible rfl)
  refine pk_ 14 66 (bl 22 32767) ?_
  refine pk_ 16 68 (bl 22 98303) ?_
  refine tk_ 17 69 (bl 22 229375) hHeld ?_ (hr := by intro w' hw'; have cb0_ : w'.cell? ⟨b, 3, none⟩ = some (.int .i64 1000) := (blk_cell hw'.row 3).trans rfl; go_simp; with_reducible rfl)
  refine one_ (i := 15) (N := some 67) (bl 22 262143) rfl rfl (by kernel_rfl) (by decide) (fun K hK => ?_)
  refine goes_ Tryd.func44 (by kernel_rfl) rfl #[.int .i64 s0_0, .int .i64 (wrap64 (105 - wrap64 0)), .int .i64 100, .int .i64 3] (by rfl) rfl rfl o99 ?_
  refine (muldiv_Do.calls s0_0 _ 100 3 q _ Aq).mono ?_
  rintro e w' ⟨rfl, hb⟩
  refine ⟨_, rfl, ?_⟩
  have hN_ := hHeld.below hb
  refine hK.out _ _ hN_ (fun hHeld => ?_)
  clear hK K hN_ hb
  refine no_ 67 ?_
  refine pk_ 18 70 (bl 22 524287) ?_
  refine pk_ 19 71 (bl 22 1048575) ?_
  refine pk_ 20 72 (bl 22 2097151) ?_
  refine last_ (i := 21) (N := none) (bl 22 4194303) rfl rfl (by kernel_rfl) (by decide) (fun K hK => ?_)
  have hs0_ : w'.cell? ⟨g, 0, none⟩ = some (.int .i64 s0_0) := IsS78.cell_0 hHeld.st
  have hf0_ := IsS78.froz_0 hHeld.st
  refine skip_ (w1 := ?_) (by rfl) rfl ?_ ?_
  rotate_left
  ·go_simp
   rfl
  refine hK.out _ _ ?_
  refine done_ (by kernel_rfl) ?_
  clear hK K
  clear hs0_
  clear hf0_
  have h2 : IsS78 w0 (w'.setCell ⟨g, 0, none⟩ (.int .i64 (wrap64 (q + 1000)))) g (wrap64 (q + 1000)) s0_1 s0_2 true t := IsS78.set_0 hHeld.st _
  have hb2 := below_set hHeld.bel (IsS78.ge hHeld.st) (j := 0) (v := .int .i64 (wrap64 (q + 1000)))
  have hk2 := KeepBut.set_ hHeld.keep 0 (.int .i64 (wrap64 (q + 1000)))
  clear hHeld
  generalize w'.setCell ⟨g, 0, none⟩ (.int .i64 (wrap64 (q + 1000))) = W5 at h2 hb2 hk2 ⊢
  try go_wp2
  have h3 : LK w0 w W5 g (wrap64 (q + 1000)) s0_1 s0_2 true t := ⟨h2, hb2, hk2⟩
  clear h2 hb2 hk2
  refine start_ (n := 17) (S := fun w' => LK w0 w w' g (wrap64 (q + 1000)) s0_1 s0_2 true t) (ds := [16]) (bl 17 0) (by kernel_rfl) rfl rfl h3.drew (fun hHeld => ?_)
  clear h3
  generalize W5.drew = W5 at hHeld ⊢
  refine pk_ 0 74 (bl 17 1) ?_
  refine pk_ 1 75 (bl 17 3) ?_
  refine pk_ 2 76 (bl 17 7) ?_
  refine pk_ 3 77 (bl 17 15) ?_
  refine tk_ 4 78 (bl 17 31) hHeld ?_ (hr := by intro w' hw'; have cb0_ : w'.cell? ⟨g, 0, none⟩ = some (.int .i64 (wrap64 (q + 1000))) := IsS78.cell_0 hw'.st; go_simp; with_reducible rfl)
  refine pk_ 5 79 (bl 17 63) ?_
  refine pk_ 6 80 (bl 17 127) ?_
  refine pk_ 7 81 (bl 17 255) ?_
  refine tk_ 8 82 (bl 17 511) hHeld ?_ (hr := by intro w' hw'; have cb0_ : w'.cell? ⟨g, 1, none⟩ = some (.int .i64 s0_1) := IsS78.cell_1 hw'.st; go_simp; with_reducible rfl)
  refine pk_ 9 83 (bl 17 1023) ?_
  refine pk_ 10 84 (bl 17 2047) ?_
  refine pk_ 11 85 (bl 17 4095) ?_
  refine tk_ 12 86 (bl 17 8191) hHeld ?_ (hr := by intro w' hw'; have cb0_ : w'.cell? ⟨g, 2, none⟩ = some (.int .i64 s0_2) := IsS78.cell_2 hw'.st; go_simp; with_reducible rfl)
  refine one_ (i := 13) (N := some 87) (bl 17 16383) rfl rfl (by kernel_rfl) (by decide) (fun K hK => ?_)
  refine goes_ Tryd.func23 (by kernel_rfl) rfl #[.int .i64 (wrap64 (q + 1000)), .int .i64 s0_1, .int .i64 s0_2] (by rfl) rfl rfl o99 ?_
  with_reducible refine (sat_Clamp.calls (wrap64 (q + 1000)) s0_1 s0_2 t3 _ A3).mono ?_
  rintro e w' ⟨rfl, ⟨nd, rfl⟩⟩
  refine ⟨_, rfl, ?_⟩
  have hN_ := hHeld.drewN nd
  refine hK.out _ _ hN_ (fun hHeld => ?_)
  clear hK K hN_
  generalize W5.drewN nd = W5_ at hHeld ⊢
  refine no_ 87 ?_
  refine pk_ 14 88 (bl 17 32767) ?_
  refine pk_ 15 89 (bl 17 65535) ?_
  refine last_ (i := 16) (N := none) (bl 17 131071) rfl rfl (by kernel_rfl) (by decide) (fun K hK => ?_)
  have hs0_ : W5_.cell? ⟨g, 0, none⟩ = some (.int .i64 (wrap64 (q + 1000))) := IsS78.cell_0 hHeld.st
  have hf0_ := IsS78.froz_0 hHeld.st
  refine skip_ (w1 := ?_) (by rfl) rfl ?_ ?_
  rotate_left
  ·go_simp
   rfl
  refine hK.out _ _ ?_
  refine done_ (by kernel_rfl) ?_
  clear hK K
  clear hs0_
  clear hf0_
  have h4 := IsS78.set_0 hHeld.st t3
  have hb4 := below_set hHeld.bel (IsS78.ge hHeld.st) (j := 0) (v := .int .i64 t3)
  have hk4 := KeepBut.set_ hHeld.keep 0 (.int .i64 t3)
  clear hHeld
  generalize W5_.setCell ⟨g, 0, none⟩ (.int .i64 t3) = W6 at h4 hb4 hk4 ⊢
  have hc0_ := IsS78.cell_0 h4
  go_wp2
  go_ret
  exact ⟨rfl, h4, hb4, hk4⟩
set_option maxHeartbeats 8000000 in
set_option maxRecDepth 100000 in
theorem lossy_upd1 (g : Nat) (s0_0 s0_1 s0_2 : Int) (s0_3 : Bool) (s0_4 a1 a2 n t : Int) (w0 w : World) (hI : IsS78 w0 w g s0_0 s0_1 s0_2 s0_3 s0_4) (hB : Below w0.heap.size w0 w) (hG : GL w0) (q : Int) (Aq : muldiv_Do.f s0_0 (wrap64 (1 - wrap64 0)) 1 1 = some q) (t3 : Int) (A3 : sat_Clamp.f (wrap64 q) s0_1 s0_2 = some t3) (At : sat_Clamp.f a2 0 1125899906842624 = some t) (An : sat_Clamp.f a1 0 256 = some n) (cn : ¬ n ≤ 5) (cn2 : n ≤ 26) (hn : n ≤ 256) (c : s0_3 = false ∨ s0_3 = true ∧ decide (wrap64 (t - s0_4) < 200000) = false) :
  Calls Tryd.prog 26 #[.pointer (some ⟨g, 0, none⟩), .int .i64 a1, .int .i64 a2] w fun e w' => e = .returned (.int .i64 t3) ∧ IsS78 w0 w' g t3 s0_1 s0_2 true t ∧ Below w0.heap.size w0 w' ∧ KeepBut w w' g none := by
 have hpn : ∀ (a_ : Addr) (W_ : World), (Go.binOp .eql 51 (.pointer (some a_)) (.pointer none)).run Tryd.prog W_ = .ok (.bool false) W_ := fun _ _ => by kernel_rfl
 have hix0 : ∀ W_ : World, (Instr.index 107 (.agg #[.int .i64 5, .int .i64 105, .int .i64 100, .int .i64 1000, .int .i64 0, .int .i64 26, .int .i64 1, .int .i64 1, .int .i64 0, .int .i64 0, .int .i64 256, .int .i64 512, .int .i64 512, .int .i64 0, .int .i64 1]) (.int .i64 0)).run Tryd.prog W_ = .ok (.agg #[.int .i64 5, .int .i64 105, .int .i64 100, .int .i64 1000, .int .i64 0]) W_ := fun _ => by kernel_rfl
 have hix1 : ∀ W_ : World, (Instr.index 107 (.agg #[.int .i64 5, .int .i64 105, .int .i64 100, .int .i64 1000, .int .i64 0, .int .i64 26, .int .i64 1, .int .i64 1, .int .i64 0, .int .i64 0, .int .i64 256, .int .i64 512, .int .i64 512, .int .i64 0, .int .i64 1]) (.int .i64 1)).run Tryd.prog W_ = .ok (.agg #[.int .i64 26, .int .i64 1, .int .i64 1, .int .i64 0, .int .i64 0]) W_ := fun _ => by kernel_rfl
 have hix2 : ∀ W_ : World, (Instr.index 107 (.agg #[.int .i64 5, .int .i64 105, .int .i64 100, .int .i64 1000, .int .i64 0, .int .i64 26, .int .i64 1, .int .i64 1, .int .i64 0, .int .i64 0, .int .i64 256, .int .i64 512, .int .i64 512, .int .i64 0, .int .i64 1]) (.int .i64 2)).run Tryd.prog W_ = .ok (.agg #[.int .i64 256, .int .i64 512, .int .i64 512, .int .i64 0, .int .i64 1]) W_ := fun _ => by kernel_rfl
 have cn0_ : decide (5 < n) = true := decide_eq_true (by omega)
 have cn1_ : decide (26 < n) = false := decide_eq_false (by omega)
 rcases c with c | ⟨c, hc⟩
 ·subst c
  go_enter Tryd.func26, Tryd.ntmps26
  go_wp2_with (first | ((with_reducible refine gate_dst (N := 14) rfl ?_); refine gL_ 14 Tryd.func23 #[.int .i64 a2, .int .i64 0, .int .i64 1125899906842624] ?_; (with_reducible refine (sat_Clamp.calls a2 0 1125899906842624 t _ At).mono ?_); rintro e w' ⟨rfl, ⟨nd, rfl⟩⟩; refine ⟨_, rfl, ?_⟩; have hI1 := IsS78.drewN hI nd; have hB1 := pw_below_drewN hB nd; have hK1 := keep_drewN (KeepBut.refl w g none) nd; generalize World.drewN w nd = W1 at hI1 hB1 hK1 ⊢; have hc0_ : W1.cell? ⟨g, 0, none⟩ = some (.int .i64 s0_0) := IsS78.cell_0 hI1; have hf0_ := IsS78.froz_0 hI1; have hc1_ : W1.cell? ⟨g, 1, none⟩ = some (.int .i64 s0_1) := IsS78.cell_1 hI1; have hf1_ := IsS78.froz_1 hI1; have hc2_ : W1.cell? ⟨g, 2, none⟩ = some (.int .i64 s0_2) := IsS78.cell_2 hI1; have hf2_ := IsS78.froz_2 hI1; have hc3_ : W1.cell? ⟨g, 3, none⟩ = some (.bool false) := IsS78.cell_3 hI1; have hf3_ := IsS78.froz_3 hI1; have hc4_ : W1.cell? ⟨g, 4, none⟩ = some (.int .i64 s0_4) := IsS78.cell_4 hI1; have hf4_ := IsS78.froz_4 hI1) | ((with_reducible refine gate_dst (N := 40) rfl ?_); refine gL_ 40 Tryd.func23 #[.int .i64 a1, .int .i64 0, .int .i64 256] ?_; (with_reducible refine (sat_Clamp.calls a1 0 256 n _ An).mono ?_); rintro e w' ⟨rfl, ⟨nd, rfl⟩⟩; refine ⟨_, rfl, ?_⟩; have hI2 := IsS78.drewN (IsS78.set_4 (IsS78.set_3 hI1 true) t) nd; have hB2 := pw_below_drewN (below_set (below_set hB1 (IsS78.ge hI1) (j := 3) (v := .bool true)) (IsS78.ge hI1) (j := 4) (v := .int .i64 t)) nd; have hK2 := keep_drewN (KeepBut.set_ (KeepBut.set_ hK1 3 (.bool true)) 4 (.int .i64 t)) nd; clear hI1 hB1 hK1; clear hc0_ hf0_ hc1_ hf1_ hc2_ hf2_ hc3_ hf3_ hc4_ hf4_; generalize World.drewN ((W1.setCell ⟨g, 3, none⟩ (.bool true)).setCell ⟨g, 4, none⟩ (.int .i64 t)) nd = W2 at hI2 hB2 hK2 ⊢; have hc0_ : W2.cell? ⟨g, 0, none⟩ = some (.int .i64 s0_0) := IsS78.cell_0 hI2; have hf0_ := IsS78.froz_0 hI2; have hc1_ : W2.cell? ⟨g, 1, none⟩ = some (.int .i64 s0_1) := IsS78.cell_1 hI2; have hf1_ := IsS78.froz_1 hI2; have hc2_ : W2.cell? ⟨g, 2, none⟩ = some (.int .i64 s0_2) := IsS78.cell_2 hI2; have hf2_ := IsS78.froz_2 hI2; have hc3_ : W2.cell? ⟨g, 3, none⟩ = some (.bool true) := IsS78.cell_3 hI2; have hf3_ := IsS78.froz_3 hI2; have hc4_ : W2.cell? ⟨g, 4, none⟩ = some (.int .i64 t) := IsS78.cell_4 hI2; have hf4_ := IsS78.froz_4 hI2; have hG2 := hG.below hB2; obtain ⟨q0, q1, q2, q3, q4, q5, q6, q7, q8, q9, q10, q11, q12, q13, q14⟩ := hG2))
  refine wp_loop_rounds 4 ?_
  rw [rounds_succ]
  go_wp2
  rw [rounds_succ]
  go_wp2
  refine namedG_ ?_
  intro W3 hW3
  have h1 : LH w0 w W3 g (W2.alloc (.cells #[.int .i64 5, .int .i64 105, .int .i64 100, .int .i64 1000, .int .i64 0] 106)).heap.size s0_0 s0_1 s0_2 true t 26 1 1 0 0 := by rw [hW3]; exact ⟨IsS78.alloc (IsS78.alloc (hI2) _) _, below_alloc (below_alloc (hB2) _) _, keep_alloc (keep_alloc (hK2) _) _, blk_new _ _⟩
  (try simp only [sizeG_] at h1 ⊢)
  clear hW3 hI2 hB2 hK2
  generalize W2.heap.size + 1 = b at h1 ⊢
  refine start_ (n := 22) (S := fun w' => LH w0 w w' g b s0_0 s0_1 s0_2 true t 26 1 1 0 0) (ds := [21]) (bl 22 0) (by kernel_rfl) rfl rfl h1.drew (fun hHeld => ?_)
  clear h1
  generalize W3.drew = W3 at hHeld ⊢
  refine pk_ 0 52 (bl 22 1) ?_
  refine pk_ 1 53 (bl 22 3) ?_
  refine pk_ 2 54 (bl 22 7) ?_
  refine pk_ 3 55 (bl 22 15) ?_
  refine tk_ 4 56 (bl 22 31) hHeld ?_ (hr := by intro w' hw'; have cb0_ : w'.cell? ⟨g, 0, none⟩ = some (.int .i64 s0_0) := IsS78.cell_0 hw'.st; go_simp; with_reducible rfl)
  refine pk_ 5 57 (bl 22 63) ?_
  refine tk_ 6 58 (bl 22 127) hHeld ?_ (hr := by intro w' hw'; have cb0_ : w'.cell? ⟨b, 1, none⟩ = some (.int .i64 1) := (blk_cell hw'.row 1).trans rfl; go_simp; with_reducible rfl)
  refine pk_ 7 59 (bl 22 255) ?_
  refine tk_ 8 60 (bl 22 511) hHeld ?_ (hr := by intro w' hw'; have cb0_ : w'.cell? ⟨b, 4, none⟩ = some (.int .i64 0) := (blk_cell hw'.row 4).trans rfl; go_simp; with_reducible rfl)
  refine pk_ 9 61 (bl 22 1023) ?_
  refine pk_ 10 62 (bl 22 2047) ?_
  refine pk_ 11 63 (bl 22 4095) ?_
  refine pk_ 12 64 (bl 22 8191) ?_
  refine tk_ 13 65 (bl 22 16383) hHeld ?_ (hr := by intro w' hw'; have cb0_ : w'.cell? ⟨b, 2, none⟩ = some (.int .i64 1) := (blk_cell hw'.row 2).trans rfl; go_simp; with_reducible rfl)
  refine pk_ 14 66 (bl 22 32767) ?_
  refine pk_ 16 68 (bl 22 98303) ?_
  refine tk_ 17 69 (bl 22 229375) hHeld ?_ (hr := by intro w' hw'; have cb0_ : w'.cell? ⟨b, 3, none⟩ = some (.int .i64 0) := (blk_cell hw'.row 3).trans rfl; go_simp; with_reducible rfl)
  refine one_ (i := 15) (N := some 67) (bl 22 262143) rfl rfl (by kernel_rfl) (by decide) (fun K hK => ?_)
  refine goes_ Tryd.func44 (by kernel_rfl) rfl #[.int .i64 s0_0, .int .i64 (wrap64 (1 - wrap64 0)), .int .i64 1, .int .i64 1] (by rfl) rfl rfl o99 ?_
  refine (muldiv_Do.calls s0_0 _ 1 1 q _ Aq).mono ?_
  rintro e w' ⟨rfl, hb⟩
  refine ⟨_, rfl, ?_⟩
  have hN_ := hHeld.below hb
  refine hK.out _ _ hN_ (fun hHeld => ?_)
  clear hK K hN_ hb
  refine no_ 67 ?_
  refine pk_ 18 70 (bl 22 524287) ?_
  refine pk_ 19 71 (bl 22 1048575) ?_
  refine pk_ 20 72 (bl 22 2097151) ?_
  refine last_ (i := 21) (N := none) (bl 22 4194303) rfl rfl (by kernel_rfl) (by decide) (fun K hK => ?_)
  have hs0_ : w'.cell? ⟨g, 0, none⟩ = some (.int .i64 s0_0) := IsS78.cell_0 hHeld.st
  have hf0_ := IsS78.froz_0 hHeld.st
  refine skip_ (w1 := ?_) (by rfl) rfl ?_ ?_
  rotate_left
  ·go_simp
   rfl
  refine hK.out _ _ ?_
  refine done_ (by kernel_rfl) ?_
  clear hK K
  clear hs0_
  clear hf0_
  have h2 : IsS78 w0 (w'.setCell ⟨g, 0, none⟩ (.int .i64 (wrap64 q))) g (wrap64 q) s0_1 s0_2 true t := IsS78.set_0 hHeld.st _
  have hb2 := below_set hHeld.bel (IsS78.ge hHeld.st) (j := 0) (v := .int .i64 (wrap64 q))
  have hk2 := KeepBut.set_ hHeld.keep 0 (.int .i64 (wrap64 q))
  clear hHeld
  generalize w'.setCell ⟨g, 0, none⟩ (.int .i64 (wrap64 q)) = W5 at h2 hb2 hk2 ⊢
  try go_wp2
  have h3 : LK w0 w W5 g (wrap64 q) s0_1 s0_2 true t := ⟨h2, hb2, hk2⟩
  clear h2 hb2 hk2
  refine start_ (n := 17) (S := fun w' => LK w0 w w' g (wrap64 q) s0_1 s0_2 true t) (ds := [16]) (bl 17 0) (by kernel_rfl) rfl rfl h3.drew (fun hHeld => ?_)
  clear h3
  generalize W5.drew = W5 at hHeld ⊢
  refine pk_ 0 74 (bl 17 1) ?_
  refine pk_ 1 75 (bl 17 3) ?_
  refine pk_ 2 76 (bl 17 7) ?_
  refine pk_ 3 77 (bl 17 15) ?_
  refine tk_ 4 78 (bl 17 31) hHeld ?_ (hr := by intro w' hw'; have cb0_ : w'.cell? ⟨g, 0, none⟩ = some (.int .i64 (wrap64 q)) := IsS78.cell_0 hw'.st; go_simp; with_reducible rfl)
  refine pk_ 5 79 (bl 17 63) ?_
  refine pk_ 6 80 (bl 17 127) ?_
  refine pk_ 7 81 (bl 17 255) ?_
  refine tk_ 8 82 (bl 17 511) hHeld ?_ (hr := by intro w' hw'; have cb0_ : w'.cell? ⟨g, 1, none⟩ = some (.int .i64 s0_1) := IsS78.cell_1 hw'.st; go_simp; with_reducible rfl)
  refine pk_ 9 83 (bl 17 1023) ?_
  refine pk_ 10 84 (bl 17 2047) ?_
  refine pk_ 11 85 (bl 17 4095) ?_
  refine tk_ 12 86 (bl 17 8191) hHeld ?_ (hr := by intro w' hw'; have cb0_ : w'.cell? ⟨g, 2, none⟩ = some (.int .i64 s0_2) := IsS78.cell_2 hw'.st; go_simp; with_reducible rfl)
  refine one_ (i := 13) (N := some 87) (bl 17 16383) rfl rfl (by kernel_rfl) (by decide) (fun K hK => ?_)
  refine goes_ Tryd.func23 (by kernel_rfl) rfl #[.int .i64 (wrap64 q), .int .i64 s0_1, .int .i64 s0_2] (by rfl) rfl rfl o99 ?_
  with_reducible refine (sat_Clamp.calls (wrap64 q) s0_1 s0_2 t3 _ A3).mono ?_
  rintro e w' ⟨rfl, ⟨nd, rfl⟩⟩
  refine ⟨_, rfl, ?_⟩
  have hN_ := hHeld.drewN nd
  refine hK.out _ _ hN_ (fun hHeld => ?_)
  clear hK K hN_
  generalize W5.drewN nd = W5_ at hHeld ⊢
  refine no_ 87 ?_
  refine pk_ 14 88 (bl 17 32767) ?_
  refine pk_ 15 89 (bl 17 65535) ?_
  refine last_ (i := 16) (N := none) (bl 17 131071) rfl rfl (by kernel_rfl) (by decide) (fun K hK => ?_)
  have hs0_ : W5_.cell? ⟨g, 0, none⟩ = some (.int .i64 (wrap64 q)) := IsS78.cell_0 hHeld.st
  have hf0_ := IsS78.froz_0 hHeld.st
  refine skip_ (w1 := ?_) (by rfl) rfl ?_ ?_
  rotate_left
  ·go_simp
   rfl
  refine hK.out _ _ ?_
  refine done_ (by kernel_rfl) ?_
  clear hK K
  clear hs0_
  clear hf0_
  have h4 := IsS78.set_0 hHeld.st t3
  have hb4 := below_set hHeld.bel (IsS78.ge hHeld.st) (j := 0) (v := .int .i64 t3)
  have hk4 := KeepBut.set_ hHeld.keep 0 (.int .i64 t3)
  clear hHeld
  generalize W5_.setCell ⟨g, 0, none⟩ (.int .i64 t3) = W6 at h4 hb4 hk4 ⊢
  have hc0_ := IsS78.cell_0 h4
  go_wp2
  go_ret
  exact ⟨rfl, h4, hb4, hk4⟩
 ·subst c
  go_enter Tryd.func26, Tryd.ntmps26
  go_wp2_with (first | ((with_reducible refine gate_dst (N := 14) rfl ?_); refine gL_ 14 Tryd.func23 #[.int .i64 a2, .int .i64 0, .int .i64 1125899906842624] ?_; (with_reducible refine (sat_Clamp.calls a2 0 1125899906842624 t _ At).mono ?_); rintro e w' ⟨rfl, ⟨nd, rfl⟩⟩; refine ⟨_, rfl, ?_⟩; have hI1 := IsS78.drewN hI nd; have hB1 := pw_below_drewN hB nd; have hK1 := keep_drewN (KeepBut.refl w g none) nd; generalize World.drewN w nd = W1 at hI1 hB1 hK1 ⊢; have hc0_ : W1.cell? ⟨g, 0, none⟩ = some (.int .i64 s0_0) := IsS78.cell_0 hI1; have hf0_ := IsS78.froz_0 hI1; have hc1_ : W1.cell? ⟨g, 1, none⟩ = some (.int .i64 s0_1) := IsS78.cell_1 hI1; have hf1_ := IsS78.froz_1 hI1; have hc2_ : W1.cell? ⟨g, 2, none⟩ = some (.int .i64 s0_2) := IsS78.cell_2 hI1; have hf2_ := IsS78.froz_2 hI1; have hc3_ : W1.cell? ⟨g, 3, none⟩ = some (.bool true) := IsS78.cell_3 hI1; have hf3_ := IsS78.froz_3 hI1; have hc4_ : W1.cell? ⟨g, 4, none⟩ = some (.int .i64 s0_4) := IsS78.cell_4 hI1; have hf4_ := IsS78.froz_4 hI1) | ((with_reducible refine gate_dst (N := 40) rfl ?_); refine gL_ 40 Tryd.func23 #[.int .i64 a1, .int .i64 0, .int .i64 256] ?_; (with_reducible refine (sat_Clamp.calls a1 0 256 n _ An).mono ?_); rintro e w' ⟨rfl, ⟨nd, rfl⟩⟩; refine ⟨_, rfl, ?_⟩; have hI2 := IsS78.drewN (IsS78.set_4 (IsS78.set_3 hI1 true) t) nd; have hB2 := pw_below_drewN (below_set (below_set hB1 (IsS78.ge hI1) (j := 3) (v := .bool true)) (IsS78.ge hI1) (j := 4) (v := .int .i64 t)) nd; have hK2 := keep_drewN (KeepBut.set_ (KeepBut.set_ hK1 3 (.bool true)) 4 (.int .i64 t)) nd; clear hI1 hB1 hK1; clear hc0_ hf0_ hc1_ hf1_ hc2_ hf2_ hc3_ hf3_ hc4_ hf4_; generalize World.drewN ((W1.setCell ⟨g, 3, none⟩ (.bool true)).setCell ⟨g, 4, none⟩ (.int .i64 t)) nd = W2 at hI2 hB2 hK2 ⊢; have hc0_ : W2.cell? ⟨g, 0, none⟩ = some (.int .i64 s0_0) := IsS78.cell_0 hI2; have hf0_ := IsS78.froz_0 hI2; have hc1_ : W2.cell? ⟨g, 1, none⟩ = some (.int .i64 s0_1) := IsS78.cell_1 hI2; have hf1_ := IsS78.froz_1 hI2; have hc2_ : W2.cell? ⟨g, 2, none⟩ = some (.int .i64 s0_2) := IsS78.cell_2 hI2; have hf2_ := IsS78.froz_2 hI2; have hc3_ : W2.cell? ⟨g, 3, none⟩ = some (.bool true) := IsS78.cell_3 hI2; have hf3_ := IsS78.froz_3 hI2; have hc4_ : W2.cell? ⟨g, 4, none⟩ = some (.int .i64 t) := IsS78.cell_4 hI2; have hf4_ := IsS78.froz_4 hI2; have hG2 := hG.below hB2; obtain ⟨q0, q1, q2, q3, q4, q5, q6, q7, q8, q9, q10, q11, q12, q13, q14⟩ := hG2))
  refine wp_loop_rounds 4 ?_
  rw [rounds_succ]
  go_wp2
  rw [rounds_succ]
  go_wp2
  refine namedG_ ?_
  intro W3 hW3
  have h1 : LH w0 w W3 g (W2.alloc (.cells #[.int .i64 5, .int .i64 105, .int .i64 100, .int .i64 1000, .int .i64 0] 106)).heap.size s0_0 s0_1 s0_2 true t 26 1 1 0 0 := by rw [hW3]; exact ⟨IsS78.alloc (IsS78.alloc (hI2) _) _, below_alloc (below_alloc (hB2) _) _, keep_alloc (keep_alloc (hK2) _) _, blk_new _ _⟩
  (try simp only [sizeG_] at h1 ⊢)
  clear hW3 hI2 hB2 hK2
  generalize W2.heap.size + 1 = b at h1 ⊢
  refine start_ (n := 22) (S := fun w' => LH w0 w w' g b s0_0 s0_1 s0_2 true t 26 1 1 0 0) (ds := [21]) (bl 22 0) (by kernel_rfl) rfl rfl h1.drew (fun hHeld => ?_)
  clear h1
  generalize W3.drew = W3 at hHeld ⊢
  refine pk_ 0 52 (bl 22 1) ?_
  refine pk_ 1 53 (bl 22 3) ?_
  refine pk_ 2 54 (bl 22 7) ?_
  refine pk_ 3 55 (bl 22 15) ?_
  refine tk_ 4 56 (bl 22 31) hHeld ?_ (hr := by intro w' hw'; have cb0_ : w'.cell? ⟨g, 0, none⟩ = some (.int .i64 s0_0) := IsS78.cell_0 hw'.st; go_simp; with_reducible rfl)
  refine pk_ 5 57 (bl 22 63) ?_
  refine tk_ 6 58 (bl 22 127) hHeld ?_ (hr := by intro w' hw'; have cb0_ : w'.cell? ⟨b, 1, none⟩ = some (.int .i64 1) := (blk_cell hw'.row 1).trans rfl; go_simp; with_reducible rfl)
  refine pk_ 7 59 (bl 22 255) ?_
  refine tk_ 8 60 (bl 22 511) hHeld ?_ (hr := by intro w' hw'; have cb0_ : w'.cell? ⟨b, 4, none⟩ = some (.int .i64 0) := (blk_cell hw'.row 4).trans rfl; go_simp; with_reducible rfl)
  refine pk_ 9 61 (bl 22 1023) ?_
  refine pk_ 10 62 (bl 22 2047) ?_
  refine pk_ 11 63 (bl 22 4095) ?_
  refine pk_ 12 64 (bl 22 8191) ?_
  refine tk_ 13 65 (bl 22 16383) hHeld ?_ (hr := by intro w' hw'; have cb0_ : w'.cell? ⟨b, 2, none⟩ = some (.int .i64 1) := (blk_cell hw'.row 2).trans rfl; go_simp; with_reducible rfl)
  refine pk_ 14 66 (bl 22 32767) ?_
  refine pk_ 16 68 (bl 22 98303) ?_
  refine tk_ 17 69 (bl 22 229375) hHeld ?_ (hr := by intro w' hw'; have cb0_ : w'.cell? ⟨b, 3, none⟩ = some (.int .i64 0) := (blk_cell hw'.row 3).trans rfl; go_simp; with_reducible rfl)
  refine one_ (i := 15) (N := some 67) (bl 22 262143) rfl rfl (by kernel_rfl) (by decide) (fun K hK => ?_)
  refine goes_ Tryd.func44 (by kernel_rfl) rfl #[.int .i64 s0_0, .int .i64 (wrap64 (1 - wrap64 0)), .int .i64 1, .int .i64 1] (by rfl) rfl rfl o99 ?_
  refine (muldiv_Do.calls s0_0 _ 1 1 q _ Aq).mono ?_
  rintro e w' ⟨rfl, hb⟩
  refine ⟨_, rfl, ?_⟩
  have hN_ := hHeld.below hb
  refine hK.out _ _ hN_ (fun hHeld => ?_)
  clear hK K hN_ hb
  refine no_ 67 ?_
  refine pk_ 18 70 (bl 22 524287) ?_
  refine pk_ 19 71 (bl 22 1048575) ?_
  refine pk_ 20 72 (bl 22 2097151) ?_
  refine last_ (i := 21) (N := none) (bl 22 4194303) rfl rfl (by kernel_rfl) (by decide) (fun K hK => ?_)
  have hs0_ : w'.cell? ⟨g, 0, none⟩ = some (.int .i64 s0_0) := IsS78.cell_0 hHeld.st
  have hf0_ := IsS78.froz_0 hHeld.st
  refine skip_ (w1 := ?_) (by rfl) rfl ?_ ?_
  rotate_left
  ·go_simp
   rfl
  refine hK.out _ _ ?_
  refine done_ (by kernel_rfl) ?_
  clear hK K
  clear hs0_
  clear hf0_
  have h2 : IsS78 w0 (w'.setCell ⟨g, 0, none⟩ (.int .i64 (wrap64 q))) g (wrap64 q) s0_1 s0_2 true t := IsS78.set_0 hHeld.st _
  have hb2 := below_set hHeld.bel (IsS78.ge hHeld.st) (j := 0) (v := .int .i64 (wrap64 q))
  have hk2 := KeepBut.set_ hHeld.keep 0 (.int .i64 (wrap64 q))
  clear hHeld
  generalize w'.setCell ⟨g, 0, none⟩ (.int .i64 (wrap64 q)) = W5 at h2 hb2 hk2 ⊢
  try go_wp2
  have h3 : LK w0 w W5 g (wrap64 q) s0_1 s0_2 true t := ⟨h2, hb2, hk2⟩
  clear h2 hb2 hk2
  refine start_ (n := 17) (S := fun w' => LK w0 w w' g (wrap64 q) s0_1 s0_2 true t) (ds := [16]) (bl 17 0) (by kernel_rfl) rfl rfl h3.drew (fun hHeld => ?_)
  clear h3
  generalize W5.drew = W5 at hHeld ⊢
  refine pk_ 0 74 (bl 17 1) ?_
  refine pk_ 1 75 (bl 17 3) ?_
  refine pk_ 2 76 (bl 17 7) ?_
  refine pk_ 3 77 (bl 17 15) ?_
  refine tk_ 4 78 (bl 17 31) hHeld ?_ (hr := by intro w' hw'; have cb0_ : w'.cell? ⟨g, 0, none⟩ = some (.int .i64 (wrap64 q)) := IsS78.cell_0 hw'.st; go_simp; with_reducible rfl)
  refine pk_ 5 79 (bl 17 63) ?_
  refine pk_ 6 80 (bl 17 127) ?_
  refine pk_ 7 81 (bl 17 255) ?_
  refine tk_ 8 82 (bl 17 511) hHeld ?_ (hr := by intro w' hw'; have cb0_ : w'.cell? ⟨g, 1, none⟩ = some (.int .i64 s0_1) := IsS78.cell_1 hw'.st; go_simp; with_reducible rfl)
  refine pk_ 9 83 (bl 17 1023) ?_
  refine pk_ 10 84 (bl 17 2047) ?_
  refine pk_ 11 85 (bl 17 4095) ?_
  refine tk_ 12 86 (bl 17 8191) hHeld ?_ (hr := by intro w' hw'; have cb0_ : w'.cell? ⟨g, 2, none⟩ = some (.int .i64 s0_2) := IsS78.cell_2 hw'.st; go_simp; with_reducible rfl)
  refine one_ (i := 13) (N := some 87) (bl 17 16383) rfl rfl (by kernel_rfl) (by decide) (fun K hK => ?_)
  refine goes_ Tryd.func23 (by kernel_rfl) rfl #[.int .i64 (wrap64 q), .int .i64 s0_1, .int .i64 s0_2] (by rfl) rfl rfl o99 ?_
  with_reducible refine (sat_Clamp.calls (wrap64 q) s0_1 s0_2 t3 _ A3).mono ?_
  rintro e w' ⟨rfl, ⟨nd, rfl⟩⟩
  refine ⟨_, rfl, ?_⟩
  have hN_ := hHeld.drewN nd
  refine hK.out _ _ hN_ (fun hHeld => ?_)
  clear hK K hN_
  generalize W5.drewN nd = W5_ at hHeld ⊢
  refine no_ 87 ?_
  refine pk_ 14 88 (bl 17 32767) ?_
  refine pk_ 15 89 (bl 17 65535) ?_
  refine last_ (i := 16) (N := none) (bl 17 131071) rfl rfl (by kernel_rfl) (by decide) (fun K hK => ?_)
  have hs0_ : W5_.cell? ⟨g, 0, none⟩ = some (.int .i64 (wrap64 q)) := IsS78.cell_0 hHeld.st
  have hf0_ := IsS78.froz_0 hHeld.st
  refine skip_ (w1 := ?_) (by rfl) rfl ?_ ?_
  rotate_left
  ·go_simp
   rfl
  refine hK.out _ _ ?_
  refine done_ (by kernel_rfl) ?_
  clear hK K
  clear hs0_
  clear hf0_
  have h4 := IsS78.set_0 hHeld.st t3
  have hb4 := below_set hHeld.bel (IsS78.ge hHeld.st) (j := 0) (v := .int .i64 t3)
  have hk4 := KeepBut.set_ hHeld.keep 0 (.int .i64 t3)
  clear hHeld
  generalize W5_.setCell ⟨g, 0, none⟩ (.int .i64 t3) = W6 at h4 hb4 hk4 ⊢
  have hc0_ := IsS78.cell_0 h4
  go_wp2
  go_ret
  exact ⟨rfl, h4, hb4, hk4⟩
set_option maxHeartbeats 8000000 in
set_option maxRecDepth 100000 in
theorem lossy_upd2 (g : Nat) (s0_0 s0_1 s0_2 : Int) (s0_3 : Bool) (s0_4 a1 a2 n t : Int) (w0 w : World) (hI : IsS78 w0 w g s0_0 s0_1 s0_2 s0_3 s0_4) (hB : Below w0.heap.size w0 w) (hG : GL w0) (q : Int) (Aq : muldiv_Do.f s0_0 (wrap64 (512 - wrap64 n)) 512 1 = some q) (t3 : Int) (A3 : sat_Clamp.f (wrap64 q) s0_1 s0_2 = some t3) (At : sat_Clamp.f a2 0 1125899906842624 = some t) (An : sat_Clamp.f a1 0 256 = some n) (cn : ¬ n ≤ 5) (cn2 : ¬ n ≤ 26) (hn : n ≤ 256) (c : s0_3 = false ∨ s0_3 = true ∧ decide (wrap64 (t - s0_4) < 200000) = false) :
  Calls Tryd.prog 26 #[.pointer (some ⟨g, 0, none⟩), .int .i64 a1, .int .i64 a2] w fun e w' => e = .returned (.int .i64 t3) ∧ IsS78 w0 w' g t3 s0_1 s0_2 true t ∧ Below w0.heap.size w0 w' ∧ KeepBut w w' g none := by
 have hpn : ∀ (a_ : Addr) (W_ : World), (Go.binOp .eql 51 (.pointer (some a_)) (.pointer none)).run Tryd.prog W_ = .ok (.bool false) W_ := fun _ _ => by kernel_rfl
 have hix0 : ∀ W_ : World, (Instr.index 107 (.agg #[.int .i64 5, .int .i64 105, .int .i64 100, .int .i64 1000, .int .i64 0, .int .i64 26, .int .i64 1, .int .i64 1, .int .i64 0, .int .i64 0, .int .i64 256, .int .i64 512, .int .i64 512, .int .i64 0, .int .i64 1]) (.int .i64 0)).run Tryd.prog W_ = .ok (.agg #[.int .i64 5, .int .i64 105, .int .i64 100, .int .i64 1000, .int .i64 0]) W_ := fun _ => by kernel_rfl
 have hix1 : ∀ W_ : World, (Instr.index 107 (.agg #[.int .i64 5, .int .i64 105, .int .i64 100, .int .i64 1000, .int .i64 0, .int .i64 26, .int .i64 1, .int .i64 1, .int .i64 0, .int .i64 0, .int .i64 256, .int .i64 512, .int .i64 512, .int .i64 0, .int .i64 1]) (.int .i64 1)).run Tryd.prog W_ = .ok (.agg #[.int .i64 26, .int .i64 1, .int .i64 1, .int .i64 0, .int .i64 0]) W_ := fun _ => by kernel_rfl
 have hix2 : ∀ W_ : World, (Instr.index 107 (.agg #[.int .i64 5, .int .i64 105, .int .i64 100, .int .i64 1000, .int .i64 0, .int .i64 26, .int .i64 1, .int .i64 1, .int .i64 0, .int .i64 0, .int .i64 256, .int .i64 512, .int .i64 512, .int .i64 0, .int .i64 1]) (.int .i64 2)).run Tryd.prog W_ = .ok (.agg #[.int .i64 256, .int .i64 512, .int .i64 512, .int .i64 0, .int .i64 1]) W_ := fun _ => by kernel_rfl
 have cn0_ : decide (5 < n) = true := decide_eq_true (by omega)
 have cn1_ : decide (26 < n) = true := decide_eq_true (by omega)
 have cn2_ : decide (256 < n) = false := decide_eq_false (by omega)
 rcases c with c | ⟨c, hc⟩
 ·subst c
  go_enter Tryd.func26, Tryd.ntmps26
  go_wp2_with (first | ((with_reducible refine gate_dst (N := 14) rfl ?_); refine gL_ 14 Tryd.func23 #[.int .i64 a2, .int .i64 0, .int .i64 1125899906842624] ?_; (with_reducible refine (sat_Clamp.calls a2 0 1125899906842624 t _ At).mono ?_); rintro e w' ⟨rfl, ⟨nd, rfl⟩⟩; refine ⟨_, rfl, ?_⟩; have hI1 := IsS78.drewN hI nd; have hB1 := pw_below_drewN hB nd; have hK1 := keep_drewN (KeepBut.refl w g none) nd; generalize World.drewN w nd = W1 at hI1 hB1 hK1 ⊢; have hc0_ : W1.cell? ⟨g, 0, none⟩ = some (.int .i64 s0_0) := IsS78.cell_0 hI1; have hf0_ := IsS78.froz_0 hI1; have hc1_ : W1.cell? ⟨g, 1, none⟩ = some (.int .i64 s0_1) := IsS78.cell_1 hI1; have hf1_ := IsS78.froz_1 hI1; have hc2_ : W1.cell? ⟨g, 2, none⟩ = some (.int .i64 s0_2) := IsS78.cell_2 hI1; have hf2_ := IsS78.froz_2 hI1; have hc3_ : W1.cell? ⟨g, 3, none⟩ = some (.bool false) := IsS78.cell_3 hI1; have hf3_ := IsS78.froz_3 hI1; have hc4_ : W1.cell? ⟨g, 4, none⟩ = some (.int .i64 s0_4) := IsS78.cell_4 hI1; have hf4_ := IsS78.froz_4 hI1) | ((with_reducible refine gate_dst (N := 40) rfl ?_); refine gL_ 40 Tryd.func23 #[.int .i64 a1, .int .i64 0, .int .i64 256] ?_; (with_reducible refine (sat_Clamp.calls a1 0 256 n _ An).mono ?_); rintro e w' ⟨rfl, ⟨nd, rfl⟩⟩; refine ⟨_, rfl, ?_⟩; have hI2 := IsS78.drewN (IsS78.set_4 (IsS78.set_3 hI1 true) t) nd; have hB2 := pw_below_drewN (below_set (below_set hB1 (IsS78.ge hI1) (j := 3) (v := .bool true)) (IsS78.ge hI1) (j := 4) (v := .int .i64 t)) nd; have hK2 := keep_drewN (KeepBut.set_ (KeepBut.set_ hK1 3 (.bool true)) 4 (.int .i64 t)) nd; clear hI1 hB1 hK1; clear hc0_ hf0_ hc1_ hf1_ hc2_ hf2_ hc3_ hf3_ hc4_ hf4_; generalize World.drewN ((W1.setCell ⟨g, 3, none⟩ (.bool true)).setCell ⟨g, 4, none⟩ (.int .i64 t)) nd = W2 at hI2 hB2 hK2 ⊢; have hc0_ : W2.cell? ⟨g, 0, none⟩ = some (.int .i64 s0_0) := IsS78.cell_0 hI2; have hf0_ := IsS78.froz_0 hI2; have hc1_ : W2.cell? ⟨g, 1, none⟩ = some (.int .i64 s0_1) := IsS78.cell_1 hI2; have hf1_ := IsS78.froz_1 hI2; have hc2_ : W2.cell? ⟨g, 2, none⟩ = some (.int .i64 s0_2) := IsS78.cell_2 hI2; have hf2_ := IsS78.froz_2 hI2; have hc3_ : W2.cell? ⟨g, 3, none⟩ = some (.bool true) := IsS78.cell_3 hI2; have hf3_ := IsS78.froz_3 hI2; have hc4_ : W2.cell? ⟨g, 4, none⟩ = some (.int .i64 t) := IsS78.cell_4 hI2; have hf4_ := IsS78.froz_4 hI2; have hG2 := hG.below hB2; obtain ⟨q0, q1, q2, q3, q4, q5, q6, q7, q8, q9, q10, q11, q12, q13, q14⟩ := hG2))
  refine wp_loop_rounds 4 ?_
  rw [rounds_succ]
  go_wp2
  rw [rounds_succ]
  go_wp2
  rw [rounds_succ]
  go_wp2
  refine namedG_ ?_
  intro W3 hW3
  have h1 : LH w0 w W3 g ((W2.alloc (.cells #[.int .i64 5, .int .i64 105, .int .i64 100, .int .i64 1000, .int .i64 0] 106)).alloc (.cells #[.int .i64 26, .int .i64 1, .int .i64 1, .int .i64 0, .int .i64 0] 106)).heap.size s0_0 s0_1 s0_2 true t 256 512 512 0 1 := by rw [hW3]; exact ⟨IsS78.alloc (IsS78.alloc (IsS78.alloc (hI2) _) _) _, below_alloc (below_alloc (below_alloc (hB2) _) _) _, keep_alloc (keep_alloc (keep_alloc (hK2) _) _) _, blk_new _ _⟩
  (try simp only [sizeG_] at h1 ⊢)
  clear hW3 hI2 hB2 hK2
  generalize W2.heap.size + 1 + 1 = b at h1 ⊢
  refine start_ (n := 22) (S := fun w' => LH w0 w w' g b s0_0 s0_1 s0_2 true t 256 512 512 0 1) (ds := [21]) (bl 22 0) (by kernel_rfl) rfl rfl h1.drew (fun hHeld => ?_)
  clear h1
  generalize W3.drew = W3 at hHeld ⊢
  refine pk_ 0 52 (bl 22 1) ?_
  refine pk_ 1 53 (bl 22 3) ?_
  refine pk_ 2 54 (bl 22 7) ?_
  refine pk_ 3 55 (bl 22 15) ?_
  refine tk_ 4 56 (bl 22 31) hHeld ?_ (hr := by intro w' hw'; have cb0_ : w'.cell? ⟨g, 0, none⟩ = some (.int .i64 s0_0) := IsS78.cell_0 hw'.st; go_simp; with_reducible rfl)
  refine pk_ 5 57 (bl 22 63) ?_
  refine tk_ 6 58 (bl 22 127) hHeld ?_ (hr := by intro w' hw'; have cb0_ : w'.cell? ⟨b, 1, none⟩ = some (.int .i64 512) := (blk_cell hw'.row 1).trans rfl; go_simp; with_reducible rfl)
  refine pk_ 7 59 (bl 22 255) ?_
  refine tk_ 8 60 (bl 22 511) hHeld ?_ (hr := by intro w' hw'; have cb0_ : w'.cell? ⟨b, 4, none⟩ = some (.int .i64 1) := (blk_cell hw'.row 4).trans rfl; go_simp; with_reducible rfl)
  refine pk_ 9 61 (bl 22 1023) ?_
  refine pk_ 10 62 (bl 22 2047) ?_
  refine pk_ 11 63 (bl 22 4095) ?_
  refine pk_ 12 64 (bl 22 8191) ?_
  refine tk_ 13 65 (bl 22 16383) hHeld ?_ (hr := by intro w' hw'; have cb0_ : w'.cell? ⟨b, 2, none⟩ = some (.int .i64 512) := (blk_cell hw'.row 2).trans rfl; go_simp; with_reducible rfl)
  refine pk_ 14 66 (bl 22 32767) ?_
  refine pk_ 16 68 (bl 22 98303) ?_
  refine tk_ 17 69 (bl 22 229375) hHeld ?_ (hr := by intro w' hw'; have cb0_ : w'.cell? ⟨b, 3, none⟩ = some (.int .i64 0) := (blk_cell hw'.row 3).trans rfl; go_simp; with_reducible rfl)
  refine one_ (i := 15) (N := some 67) (bl 22 262143) rfl rfl (by kernel_rfl) (by decide) (fun K hK => ?_)
  refine goes_ Tryd.func44 (by kernel_rfl) rfl #[.int .i64 s0_0, .int .i64 (wrap64 (512 - wrap64 n)), .int .i64 512, .int .i64 1] (by rfl) rfl rfl o99 ?_
  refine (muldiv_Do.calls s0_0 _ 512 1 q _ Aq).mono ?_
  rintro e w' ⟨rfl, hb⟩
  refine ⟨_, rfl, ?_⟩
  have hN_ := hHeld.below hb
  refine hK.out _ _ hN_ (fun hHeld => ?_)
  clear hK K hN_ hb
  refine no_ 67 ?_
  refine pk_ 18 70 (bl 22 524287) ?_
  refine pk_ 19 71 (bl 22 1048575) ?_
  refine pk_ 20 72 (bl 22 2097151) ?_
  refine last_ (i := 21) (N := none) (bl 22 4194303) rfl rfl (by kernel_rfl) (by decide) (fun K hK => ?_)
  have hs0_ : w'.cell? ⟨g, 0, none⟩ = some (.int .i64 s0_0) := IsS78.cell_0 hHeld.st
  have hf0_ := IsS78.froz_0 hHeld.st
  refine skip_ (w1 := ?_) (by rfl) rfl ?_ ?_
  rotate_left
  ·go_simp
   rfl
  refine hK.out _ _ ?_
  refine done_ (by kernel_rfl) ?_
  clear hK K
  clear hs0_
  clear hf0_
  have h2 : IsS78 w0 (w'.setCell ⟨g, 0, none⟩ (.int .i64 (wrap64 q))) g (wrap64 q) s0_1 s0_2 true t := IsS78.set_0 hHeld.st _
  have hb2 := below_set hHeld.bel (IsS78.ge hHeld.st) (j := 0) (v := .int .i64 (wrap64 q))
  have hk2 := KeepBut.set_ hHeld.keep 0 (.int .i64 (wrap64 q))
  clear hHeld
  generalize w'.setCell ⟨g, 0, none⟩ (.int .i64 (wrap64 q)) = W5 at h2 hb2 hk2 ⊢
  try go_wp2
  have h3 : LK w0 w W5 g (wrap64 q) s0_1 s0_2 true t := ⟨h2, hb2, hk2⟩
  clear h2 hb2 hk2
  refine start_ (n := 17) (S := fun w' => LK w0 w w' g (wrap64 q) s0_1 s0_2 true t) (ds := [16]) (bl 17 0) (by kernel_rfl) rfl rfl h3.drew (fun hHeld => ?_)
  clear h3
  generalize W5.drew = W5 at hHeld ⊢
  refine pk_ 0 74 (bl 17 1) ?_
  refine pk_ 1 75 (bl 17 3) ?_
  refine pk_ 2 76 (bl 17 7) ?_
  refine pk_ 3 77 (bl 17 15) ?_
  refine tk_ 4 78 (bl 17 31) hHeld ?_ (hr := by intro w' hw'; have cb0_ : w'.cell? ⟨g, 0, none⟩ = some (.int .i64 (wrap64 q)) := IsS78.cell_0 hw'.st; go_simp; with_reducible rfl)
  refine pk_ 5 79 (bl 17 63) ?_
  refine pk_ 6 80 (bl 17 127) ?_
  refine pk_ 7 81 (bl 17 255) ?_
  refine tk_ 8 82 (bl 17 511) hHeld ?_ (hr := by intro w' hw'; have cb0_ : w'.cell? ⟨g, 1, none⟩ = some (.int .i64 s0_1) := IsS78.cell_1 hw'.st; go_simp; with_reducible rfl)
  refine pk_ 9 83 (bl 17 1023) ?_
  refine pk_ 10 84 (bl 17 2047) ?_
  refine pk_ 11 85 (bl 17 4095) ?_
  refine tk_ 12 86 (bl 17 8191) hHeld ?_ (hr := by intro w' hw'; have cb0_ : w'.cell? ⟨g, 2, none⟩ = some (.int .i64 s0_2) := IsS78.cell_2 hw'.st; go_simp; with_reducible rfl)
  refine one_ (i := 13) (N := some 87) (bl 17 16383) rfl rfl (by kernel_rfl) (by decide) (fun K hK => ?_)
  refine goes_ Tryd.func23 (by kernel_rfl) rfl #[.int .i64 (wrap64 q), .int .i64 s0_1, .int .i64 s0_2] (by rfl) rfl rfl o99 ?_
  with_reducible refine (sat_Clamp.calls (wrap64 q) s0_1 s0_2 t3 _ A3).mono ?_
  rintro e w' ⟨rfl, ⟨nd, rfl⟩⟩
  refine ⟨_, rfl, ?_⟩
  have hN_ := hHeld.drewN nd
  refine hK.out _ _ hN_ (fun hHeld => ?_)
  clear hK K hN_
  generalize W5.drewN nd = W5_ at hHeld ⊢
  refine no_ 87 ?_
  refine pk_ 14 88 (bl 17 32767) ?_
  refine pk_ 15 89 (bl 17 65535) ?_
  refine last_ (i := 16) (N := none) (bl 17 131071) rfl rfl (by kernel_rfl) (by decide) (fun K hK => ?_)
  have hs0_ : W5_.cell? ⟨g, 0, none⟩ = some (.int .i64 (wrap64 q)) := IsS78.cell_0 hHeld.st
  have hf0_ := IsS78.froz_0 hHeld.st
  refine skip_ (w1 := ?_) (by rfl) rfl ?_ ?_
  rotate_left
  ·go_simp
   rfl
  refine hK.out _ _ ?_
  refine done_ (by kernel_rfl) ?_
  clear hK K
  clear hs0_
  clear hf0_
  have h4 := IsS78.set_0 hHeld.st t3
  have hb4 := below_set hHeld.bel (IsS78.ge hHeld.st) (j := 0) (v := .int .i64 t3)
  have hk4 := KeepBut.set_ hHeld.keep 0 (.int .i64 t3)
  clear hHeld
  generalize W5_.setCell ⟨g, 0, none⟩ (.int .i64 t3) = W6 at h4 hb4 hk4 ⊢
  have hc0_ := IsS78.cell_0 h4
  go_wp2
  go_ret
  exact ⟨rfl, h4, hb4, hk4⟩
 ·subst c
  go_enter Tryd.func26, Tryd.ntmps26
  go_wp2_with (first | ((with_reducible refine gate_dst (N := 14) rfl ?_); refine gL_ 14 Tryd.func23 #[.int .i64 a2, .int .i64 0, .int .i64 1125899906842624] ?_; (with_reducible refine (sat_Clamp.calls a2 0 1125899906842624 t _ At).mono ?_); rintro e w' ⟨rfl, ⟨nd, rfl⟩⟩; refine ⟨_, rfl, ?_⟩; have hI1 := IsS78.drewN hI nd; have hB1 := pw_below_drewN hB nd; have hK1 := keep_drewN (KeepBut.refl w g none) nd; generalize World.drewN w nd = W1 at hI1 hB1 hK1 ⊢; have hc0_ : W1.cell? ⟨g, 0, none⟩ = some (.int .i64 s0_0) := IsS78.cell_0 hI1; have hf0_ := IsS78.froz_0 hI1; have hc1_ : W1.cell? ⟨g, 1, none⟩ = some (.int .i64 s0_1) := IsS78.cell_1 hI1; have hf1_ := IsS78.froz_1 hI1; have hc2_ : W1.cell? ⟨g, 2, none⟩ = some (.int .i64 s0_2) := IsS78.cell_2 hI1; have hf2_ := IsS78.froz_2 hI1; have hc3_ : W1.cell? ⟨g, 3, none⟩ = some (.bool true) := IsS78.cell_3 hI1; have hf3_ := IsS78.froz_3 hI1; have hc4_ : W1.cell? ⟨g, 4, none⟩ = some (.int .i64 s0_4) := IsS78.cell_4 hI1; have hf4_ := IsS78.froz_4 hI1) | ((with_reducible refine gate_dst (N := 40) rfl ?_); refine gL_ 40 Tryd.func23 #[.int .i64 a1, .int .i64 0, .int .i64 256] ?_; (with_reducible refine (sat_Clamp.calls a1 0 256 n _ An).mono ?_); rintro e w' ⟨rfl, ⟨nd, rfl⟩⟩; refine ⟨_, rfl, ?_⟩; have hI2 := IsS78.drewN (IsS78.set_4 (IsS78.set_3 hI1 true) t) nd; have hB2 := pw_below_drewN (below_set (below_set hB1 (IsS78.ge hI1) (j := 3) (v := .bool true)) (IsS78.ge hI1) (j := 4) (v := .int .i64 t)) nd; have hK2 := keep_drewN (KeepBut.set_ (KeepBut.set_ hK1 3 (.bool true)) 4 (.int .i64 t)) nd; clear hI1 hB1 hK1; clear hc0_ hf0_ hc1_ hf1_ hc2_ hf2_ hc3_ hf3_ hc4_ hf4_; generalize World.drewN ((W1.setCell ⟨g, 3, none⟩ (.bool true)).setCell ⟨g, 4, none⟩ (.int .i64 t)) nd = W2 at hI2 hB2 hK2 ⊢; have hc0_ : W2.cell? ⟨g, 0, none⟩ = some (.int .i64 s0_0) := IsS78.cell_0 hI2; have hf0_ := IsS78.froz_0 hI2; have hc1_ : W2.cell? ⟨g, 1, none⟩ = some (.int .i64 s0_1) := IsS78.cell_1 hI2; have hf1_ := IsS78.froz_1 hI2; have hc2_ : W2.cell? ⟨g, 2, none⟩ = some (.int .i64 s0_2) := IsS78.cell_2 hI2; have hf2_ := IsS78.froz_2 hI2; have hc3_ : W2.cell? ⟨g, 3, none⟩ = some (.bool true) := IsS78.cell_3 hI2; have hf3_ := IsS78.froz_3 hI2; have hc4_ : W2.cell? ⟨g, 4, none⟩ = some (.int .i64 t) := IsS78.cell_4 hI2; have hf4_ := IsS78.froz_4 hI2; have hG2 := hG.below hB2; obtain ⟨q0, q1, q2, q3, q4, q5, q6, q7, q8, q9, q10, q11, q12, q13, q14⟩ := hG2))
  refine wp_loop_rounds 4 ?_
  rw [rounds_succ]
  go_wp2
  rw [rounds_succ]
  go_wp2
  rw [rounds_succ]
  go_wp2
  refine namedG_ ?_
  intro W3 hW3
  have h1 : LH w0 w W3 g ((W2.alloc (.cells #[.int .i64 5, .int .i64 105, .int .i64 100, .int .i64 1000, .int .i64 0] 106)).alloc (.cells #[.int .i64 26, .int .i64 1, .int .i64 1, .int .i64 0, .int .i64 0] 106)).heap.size s0_0 s0_1 s0_2 true t 256 512 512 0 1 := by rw [hW3]; exact ⟨IsS78.alloc (IsS78.alloc (IsS78.alloc (hI2) _) _) _, below_alloc (below_alloc (below_alloc (hB2) _) _) _, keep_alloc (keep_alloc (keep_alloc (hK2) _) _) _, blk_new _ _⟩
  (try simp only [sizeG_] at h1 ⊢)
  clear hW3 hI2 hB2 hK2
  generalize W2.heap.size + 1 + 1 = b at h1 ⊢
  refine start_ (n := 22) (S := fun w' => LH w0 w w' g b s0_0 s0_1 s0_2 true t 256 512 512 0 1) (ds := [21]) (bl 22 0) (by kernel_rfl) rfl rfl h1.drew (fun hHeld => ?_)
  clear h1
  generalize W3.drew = W3 at hHeld ⊢
  refine pk_ 0 52 (bl 22 1) ?_
  refine pk_ 1 53 (bl 22 3) ?_
  refine pk_ 2 54 (bl 22 7) ?_
  refine pk_ 3 55 (bl 22 15) ?_
  refine tk_ 4 56 (bl 22 31) hHeld ?_ (hr := by intro w' hw'; have cb0_ : w'.cell? ⟨g, 0, none⟩ = some (.int .i64 s0_0) := IsS78.cell_0 hw'.st; go_simp; with_reducible rfl)
  refine pk_ 5 57 (bl 22 63) ?_
  refine tk_ 6 58 (bl 22 127) hHeld ?_ (hr := by intro w' hw'; have cb0_ : w'.cell? ⟨b, 1, none⟩ = some (.int .i64 512) := (blk_cell hw'.row 1).trans rfl; go_simp; with_reducible rfl)
  refine pk_ 7 59 (bl 22 255) ?_
  refine tk_ 8 60 (bl 22 511) hHeld ?_ (hr := by intro w' hw'; have cb0_ : w'.cell? ⟨b, 4, none⟩ = some (.int .i64 1) := (blk_cell hw'.row 4).trans rfl; go_simp; with_reducible rfl)
  refine pk_ 9 61 (bl 22 1023) ?_
  refine pk_ 10 62 (bl 22 2047) ?_
  refine pk_ 11 63 (bl 22 4095) ?_
  refine pk_ 12 64 (bl 22 8191) ?_
  refine tk_ 13 65 (bl 22 16383) hHeld ?_ (hr := by intro w' hw'; have cb0_ : w'.cell? ⟨b, 2, none⟩ = some (.int .i64 512) := (blk_cell hw'.row 2).trans rfl; go_simp; with_reducible rfl)
  refine pk_ 14 66 (bl 22 32767) ?_
  refine pk_ 16 68 (bl 22 98303) ?_
  refine tk_ 17 69 (bl 22 229375) hHeld ?_ (hr := by intro w' hw'; have cb0_ : w'.cell? ⟨b, 3, none⟩ = some (.int .i64 0) := (blk_cell hw'.row 3).trans rfl; go_simp; with_reducible rfl)
  refine one_ (i := 15) (N := some 67) (bl 22 262143) rfl rfl (by kernel_rfl) (by decide) (fun K hK => ?_)
  refine goes_ Tryd.func44 (by kernel_rfl) rfl #[.int .i64 s0_0, .int .i64 (wrap64 (512 - wrap64 n)), .int .i64 512, .int .i64 1] (by rfl) rfl rfl o99 ?_
  refine (muldiv_Do.calls s0_0 _ 512 1 q _ Aq).mono ?_
  rintro e w' ⟨rfl, hb⟩
  refine ⟨_, rfl, ?_⟩
  have hN_ := hHeld.below hb
  refine hK.out _ _ hN_ (fun hHeld => ?_)
  clear hK K hN_ hb
  refine no_ 67 ?_
  refine pk_ 18 70 (bl 22 524287) ?_
  refine pk_ 19 71 (bl 22 1048575) ?_
  refine pk_ 20 72 (bl 22 2097151) ?_
  refine last_ (i := 21) (N := none) (bl 22 4194303) rfl rfl (by kernel_rfl) (by decide) (fun K hK => ?_)
  have hs0_ : w'.cell? ⟨g, 0, none⟩ = some (.int .i64 s0_0) := IsS78.cell_0 hHeld.st
  have hf0_ := IsS78.froz_0 hHeld.st
  refine skip_ (w1 := ?_) (by rfl) rfl ?_ ?_
  rotate_left
  ·go_simp
   rfl
  refine hK.out _ _ ?_
  refine done_ (by kernel_rfl) ?_
  clear hK K
  clear hs0_
  clear hf0_
  have h2 : IsS78 w0 (w'.setCell ⟨g, 0, none⟩ (.int .i64 (wrap64 q))) g (wrap64 q) s0_1 s0_2 true t := IsS78.set_0 hHeld.st _
  have hb2 := below_set hHeld.bel (IsS78.ge hHeld.st) (j := 0) (v := .int .i64 (wrap64 q))
  have hk2 := KeepBut.set_ hHeld.keep 0 (.int .i64 (wrap64 q))
  clear hHeld
  generalize w'.setCell ⟨g, 0, none⟩ (.int .i64 (wrap64 q)) = W5 at h2 hb2 hk2 ⊢
  try go_wp2
  have h3 : LK w0 w W5 g (wrap64 q) s0_1 s0_2 true t := ⟨h2, hb2, hk2⟩
  clear h2 hb2 hk2
  refine start_ (n := 17) (S := fun w' => LK w0 w w' g (wrap64 q) s0_1 s0_2 true t) (ds := [16]) (bl 17 0) (by kernel_rfl) rfl rfl h3.drew (fun hHeld => ?_)
  clear h3
  generalize W5.drew = W5 at hHeld ⊢
  refine pk_ 0 74 (bl 17 1) ?_
  refine pk_ 1 75 (bl 17 3) ?_
  refine pk_ 2 76 (bl 17 7) ?_
  refine pk_ 3 77 (bl 17 15) ?_
  refine tk_ 4 78 (bl 17 31) hHeld ?_ (hr := by intro w' hw'; have cb0_ : w'.cell? ⟨g, 0, none⟩ = some (.int .i64 (wrap64 q)) := IsS78.cell_0 hw'.st; go_simp; with_reducible rfl)
  refine pk_ 5 79 (bl 17 63) ?_
  refine pk_ 6 80 (bl 17 127) ?_
  refine pk_ 7 81 (bl 17 255) ?_
  refine tk_ 8 82 (bl 17 511) hHeld ?_ (hr := by intro w' hw'; have cb0_ : w'.cell? ⟨g, 1, none⟩ = some (.int .i64 s0_1) := IsS78.cell_1 hw'.st; go_simp; with_reducible rfl)
  refine pk_ 9 83 (bl 17 1023) ?_
  refine pk_ 10 84 (bl 17 2047) ?_
  refine pk_ 11 85 (bl 17 4095) ?_
  refine tk_ 12 86 (bl 17 8191) hHeld ?_ (hr := by intro w' hw'; have cb0_ : w'.cell? ⟨g, 2, none⟩ = some (.int .i64 s0_2) := IsS78.cell_2 hw'.st; go_simp; with_reducible rfl)
  refine one_ (i := 13) (N := some 87) (bl 17 16383) rfl rfl (by kernel_rfl) (by decide) (fun K hK => ?_)
  refine goes_ Tryd.func23 (by kernel_rfl) rfl #[.int .i64 (wrap64 q), .int .i64 s0_1, .int .i64 s0_2] (by rfl) rfl rfl o99 ?_
  with_reducible refine (sat_Clamp.calls (wrap64 q) s0_1 s0_2 t3 _ A3).mono ?_
  rintro e w' ⟨rfl, ⟨nd, rfl⟩⟩
  refine ⟨_, rfl, ?_⟩
  have hN_ := hHeld.drewN nd
  refine hK.out _ _ hN_ (fun hHeld => ?_)
  clear hK K hN_
  generalize W5.drewN nd = W5_ at hHeld ⊢
  refine no_ 87 ?_
  refine pk_ 14 88 (bl 17 32767) ?_
  refine pk_ 15 89 (bl 17 65535) ?_
  refine last_ (i := 16) (N := none) (bl 17 131071) rfl rfl (by kernel_rfl) (by decide) (fun K hK => ?_)
  have hs0_ : W5_.cell? ⟨g, 0, none⟩ = some (.int .i64 (wrap64 q)) := IsS78.cell_0 hHeld.st
  have hf0_ := IsS78.froz_0 hHeld.st
  refine skip_ (w1 := ?_) (by rfl) rfl ?_ ?_
  rotate_left
  ·go_simp
   rfl
  refine hK.out _ _ ?_
  refine done_ (by kernel_rfl) ?_
  clear hK K
  clear hs0_
  clear hf0_
  have h4 := IsS78.set_0 hHeld.st t3
  have hb4 := below_set hHeld.bel (IsS78.ge hHeld.st) (j := 0) (v := .int .i64 t3)
  have hk4 := KeepBut.set_ hHeld.keep 0 (.int .i64 t3)
  clear hHeld
  generalize W5_.setCell ⟨g, 0, none⟩ (.int .i64 t3) = W6 at h4 hb4 hk4 ⊢
  have hc0_ := IsS78.cell_0 h4
  go_wp2
  go_ret
  exact ⟨rfl, h4, hb4, hk4⟩
set_option maxHeartbeats 8000000 in
set_option maxRecDepth 100000 in
theorem lossy_upds (g : Nat) (s0_0 s0_1 s0_2 : Int) (s0_3 : Bool) (s0_4 a1 a2 t : Int) (w0 w : World) (hI : IsS78 w0 w g s0_0 s0_1 s0_2 s0_3 s0_4) (hB : Below w0.heap.size w0 w) (hG : GL w0) (At : sat_Clamp.f a2 0 1125899906842624 = some t) (c : s0_3 = true) (hc : decide (wrap64 (t - s0_4) < 200000) = true) :
  Calls Tryd.prog 26 #[.pointer (some ⟨g, 0, none⟩), .int .i64 a1, .int .i64 a2] w fun e w' => e = .returned (.int .i64 s0_0) ∧ IsS78 w0 w' g s0_0 s0_1 s0_2 true s0_4 ∧ Below w0.heap.size w0 w' ∧ KeepBut w w' g none := by
 have hpn : ∀ (a_ : Addr) (W_ : World), (Go.binOp .eql 51 (.pointer (some a_)) (.pointer none)).run Tryd.prog W_ = .ok (.bool false) W_ := fun _ _ => by kernel_rfl
 subst c
 go_enter Tryd.func26, Tryd.ntmps26
 go_wp2_with (first | ((with_reducible refine gate_dst (N := 14) rfl ?_); refine gL_ 14 Tryd.func23 #[.int .i64 a2, .int .i64 0, .int .i64 1125899906842624] ?_; (with_reducible refine (sat_Clamp.calls a2 0 1125899906842624 t _ At).mono ?_); rintro e w' ⟨rfl, ⟨nd, rfl⟩⟩; refine ⟨_, rfl, ?_⟩; have hI1 := IsS78.drewN hI nd; have hB1 := pw_below_drewN hB nd; have hK1 := keep_drewN (KeepBut.refl w g none) nd; generalize World.drewN w nd = W1 at hI1 hB1 hK1 ⊢; have hc0_ : W1.cell? ⟨g, 0, none⟩ = some (.int .i64 s0_0) := IsS78.cell_0 hI1; have hf0_ := IsS78.froz_0 hI1; have hc1_ : W1.cell? ⟨g, 1, none⟩ = some (.int .i64 s0_1) := IsS78.cell_1 hI1; have hf1_ := IsS78.froz_1 hI1; have hc2_ : W1.cell? ⟨g, 2, none⟩ = some (.int .i64 s0_2) := IsS78.cell_2 hI1; have hf2_ := IsS78.froz_2 hI1; have hc3_ : W1.cell? ⟨g, 3, none⟩ = some (.bool true) := IsS78.cell_3 hI1; have hf3_ := IsS78.froz_3 hI1; have hc4_ : W1.cell? ⟨g, 4, none⟩ = some (.int .i64 s0_4) := IsS78.cell_4 hI1; have hf4_ := IsS78.froz_4 hI1))
 go_ret
 exact ⟨rfl, hI1, hB1, hK1⟩
theorem clamp_le {a n : Int} (h : sat_Clamp.f a 0 256 = some n) : n ≤ 256 := by
 unfold sat_Clamp.f at h
 repeat' split at h
 all_goals (obtain rfl := Option.some.inj h; omega)
theorem lossy_Lossy_Update.calls (g : Nat) (s0_0 : Int) (s0_1 : Int) (s0_2 : Int) (s0_3 : Bool) (s0_4 : Int) (a1 : Int) (a2 : Int) (r1 : Int) (r2 : Int) (r3 : Int) (r4 : Int) (r5 : Bool) (r6 : Int) (w0 w : World) (hI : IsS78 w0 w g s0_0 s0_1 s0_2 s0_3 s0_4) (hB : Below w0.heap.size w0 w) (hG : GL w0) (h : lossy_Lossy_Update.f s0_0 s0_1 s0_2 s0_3 s0_4 a1 a2 = some (r1, r2, r3, r4, r5, r6)) :
  Calls Tryd.prog 26 #[.pointer (some ⟨g, 0, none⟩), .int .i64 a1, .int .i64 a2] w fun e w' => e = .returned (.int .i64 r1) ∧ IsS78 w0 w' g r2 r3 r4 r5 r6 ∧ Below w0.heap.size w0 w' ∧ KeepBut w w' g none := by
 unfold lossy_Lossy_Update.f at h
 obtain ⟨t, At, h⟩ := Option.bind_eq_some_iff.mp h
 by_cases e : s0_3 = true ∧ wrap64 (t - s0_4) < 200000
 ·rw [if_pos e] at h
  simp only [Option.some.injEq, Prod.mk.injEq] at h
  obtain ⟨rfl, rfl, rfl, rfl, rfl, rfl⟩ := h
  obtain ⟨e1, e2⟩ := e
  subst e1
  exact lossy_upds g _ _ _ true _ a1 a2 t w0 w hI hB hG At rfl (decide_eq_true e2)
 rw [if_neg e] at h
 have c : s0_3 = false ∨ s0_3 = true ∧ decide (wrap64 (t - s0_4) < 200000) = false := by
  cases s0_3
  ·exact .inl rfl
  ·exact .inr ⟨rfl, decide_eq_false fun h_ => e ⟨rfl, h_⟩⟩
 obtain ⟨n, An, h⟩ := Option.bind_eq_some_iff.mp h
 obtain ⟨q, Aq, h⟩ := Option.bind_eq_some_iff.mp h
 obtain ⟨t3, A3, h⟩ := Option.bind_eq_some_iff.mp h
 simp only [Option.some.injEq, Prod.mk.injEq] at h
 obtain ⟨rfl, rfl, rfl, rfl, rfl, rfl⟩ := h
 have hn := clamp_le An
 unfold lrow at Aq
 by_cases n1 : n ≤ 5
 ·rw [if_pos n1] at Aq
  obtain ⟨u, Au, Aq⟩ := Option.bind_eq_some_iff.mp Aq
  obtain rfl := Option.some.inj Aq
  exact lossy_upd0 g _ _ _ s0_3 s0_4 a1 a2 n t w0 w hI hB hG u Au t3 A3 At An n1 hn c
 rw [if_neg n1] at Aq
 by_cases n2 : n ≤ 26
 ·rw [if_pos n2] at Aq
  obtain ⟨u, Au, Aq⟩ := Option.bind_eq_some_iff.mp Aq
  obtain rfl := Option.some.inj Aq
  exact lossy_upd1 g _ _ _ s0_3 s0_4 a1 a2 n t w0 w hI hB hG u Au t3 A3 At An n1 n2 hn c
 rw [if_neg n2] at Aq
 obtain ⟨u, Au, Aq⟩ := Option.bind_eq_some_iff.mp Aq
 obtain rfl := Option.some.inj Aq
 exact lossy_upd2 g _ _ _ s0_3 s0_4 a1 a2 n t w0 w hI hB hG u Au t3 A3 At An n1 n2 hn c
end Go.Proofs.YtphgeljglhjamaaDoor.P
end

-- PUT TOGETHER by a program of this session: of the claim's texts, what is used
import Derived.Test.YtaelmmbodigheaaKAimdBounds2
import Derived.Test.YtaelmmbodigheaaKAimdBounds8
import Derived.Test.YtaelmmbodigheaaKAimdBounds9
import Derived.Test.YtaelmmbodigheaaKAimdBounds10
section
namespace Go.Proofs.Ytaelmmbodigheaa.P
open Go.RowKit Go.Proofs.YtaelmmbodigheaaW.PrintWords Go.Proofs.YtaelmmbodigheaaW.PrintLast Go.Proofs.YtaelmmbodigheaaW.PrintMore
attribute [local go_sem] max2_int min2_int max_two min_two max_three min_three max_four min_four   -- for this text's walks alone
set_option linter.unusedVariables false
set_option linter.unusedSimpArgs false
mutual
def flywheellaw19_AimdBounds.l0 : Nat → List (S34) → Int → Int → Int → Int → Int → Int → Int → Int → Bool → Int → Int → Bool → Int → Option (Bool)
 | 0, _, _, _, _, _, _, _, _, _, _, _, _, _, _ => none
 | k + 1, x1, x7, x218000, x218001, x218002, x228000, x228001, x228002, x228003, x228004, x228005, x228006, x228007, x228008 => if x7 < (x1.length : Int) then (flywheellaw19_AimdBounds.j1 k x1 x7 (decide (x7 < 200)) x218000 x218001 x218002 x228000 x228001 x228002 x228003 x228004 x228005 x228006 x228007 x228008) else (flywheellaw19_AimdBounds.j1 k x1 x7 false x218000 x218001 x218002 x228000 x228001 x228002 x228003 x228004 x228005 x228006 x228007 x228008)
def flywheellaw19_AimdBounds.j1 : Nat → List (S34) → Int → Bool → Int → Int → Int → Int → Int → Int → Int → Bool → Int → Int → Bool → Int → Option (Bool)
 | 0, _, _, _, _, _, _, _, _, _, _, _, _, _, _, _ => none
 | k + 1, x1, x7, x44, x218000, x218001, x218002, x228000, x228001, x228002, x228003, x228004, x228005, x228006, x228007, x228008 => if x44 = true then ((aimd_Aimd_Rate.f x228000 x228001 x228002 x228003 x228004 x228005 x228006 x228007 x228008).bind fun bt230 => (if 0 ≤ x7 then (if x7 < (x1.length : Int) then ((aimd_Aimd_Update.f k bt230.2.1 bt230.2.2.1 bt230.2.2.2.1 bt230.2.2.2.2.1 bt230.2.2.2.2.2.1 bt230.2.2.2.2.2.2.1 bt230.2.2.2.2.2.2.2.1 bt230.2.2.2.2.2.2.2.2.1 bt230.2.2.2.2.2.2.2.2.2 ((rd_T34 x1 x7).f0) ((rd_T34 x1 x7).f1) ((rd_T34 x1 x7).f2) ((rd_T34 x1 x7).f3)).bind fun bt244 => (if bt244.1 < x218001 then (some false) else (if bt244.1 > x218002 then (some false) else ((aimd_Aimd_Rate.f bt244.2.1 bt244.2.2.1 bt244.2.2.2.1 bt244.2.2.2.2.1 bt244.2.2.2.2.2.1 bt244.2.2.2.2.2.2.1 bt244.2.2.2.2.2.2.2.1 bt244.2.2.2.2.2.2.2.2.1 bt244.2.2.2.2.2.2.2.2.2).bind fun bt254 => (if bt244.1 = bt254.1 then (if ((rd_T34 x1 x7).f0) = 1 then (if bt244.1 > bt230.1 then (some false) else (flywheellaw19_AimdBounds.l0 k x1 (wrap64 (x7 + 1)) x218000 x218001 x218002 bt254.2.1 bt254.2.2.1 bt254.2.2.2.1 bt254.2.2.2.2.1 bt254.2.2.2.2.2.1 bt254.2.2.2.2.2.2.1 bt254.2.2.2.2.2.2.2.1 bt254.2.2.2.2.2.2.2.2.1 bt254.2.2.2.2.2.2.2.2.2)) else (if bt244.1 < bt230.1 then (some false) else (flywheellaw19_AimdBounds.l0 k x1 (wrap64 (x7 + 1)) x218000 x218001 x218002 bt254.2.1 bt254.2.2.1 bt254.2.2.2.1 bt254.2.2.2.2.1 bt254.2.2.2.2.2.1 bt254.2.2.2.2.2.2.1 bt254.2.2.2.2.2.2.2.1 bt254.2.2.2.2.2.2.2.2.1 bt254.2.2.2.2.2.2.2.2.2))) else (some false)))))) else (none)) else (none))) else ((flywheellaw19_wakes.f k).bind fun t229 => (some t229))
def flywheellaw19_AimdBounds.l5000 : Nat → List (S34) → Int → Option (Bool)
 | 0, _, _ => none
 | k + 1, x1, x7 => if x7 < (x1.length : Int) then (flywheellaw19_AimdBounds.j3 k (decide (x7 < 200))) else (flywheellaw19_AimdBounds.j3 k false)
def flywheellaw19_AimdBounds.j3 : Nat → Bool → Option (Bool)
 | 0, _ => none
 | k + 1, x44 => if x44 = true then (none) else ((flywheellaw19_wakes.f k).bind fun t270 => (some t270))
end
def flywheellaw19_AimdBounds.f (k : Nat) (a0_0 : Int) (a0_1 : Int) (a0_2 : Int) (l1 : List (S34)) : Option (Bool) := if (aimd_New.made.f a0_0 a0_1 a0_2).isSome = true then ((aimd_New.made.f a0_0 a0_1 a0_2).bind fun bt218 => (if bt218.2.2.2.2.2.2.2.2.2 = 0 then (flywheellaw19_AimdBounds.l0 k l1 0 a0_0 a0_1 a0_2 bt218.1 bt218.2.1 bt218.2.2.1 bt218.2.2.2.1 bt218.2.2.2.2.1 bt218.2.2.2.2.2.1 bt218.2.2.2.2.2.2.1 bt218.2.2.2.2.2.2.2.1 bt218.2.2.2.2.2.2.2.2.1) else (some false))) else ((aimd_New.nil.f a0_0 a0_1 a0_2).bind fun t267 => (if t267 = 0 then (flywheellaw19_AimdBounds.l5000 k l1 0) else ((flywheelref19_Rates.f a0_0 a0_1 a0_2).bind fun t268 => (if t268 = true then (some false) else ((flywheellaw19_wakes.f k).bind fun t269 => (some t269))))))
def flywheellaw19_AimdBounds.T8 : Bool × List (List Nat × List Nat) := (true, [([], []), ([], []), ([], []), ([1, 2], [1, 2]), ([3], [3]), ([4], [4]), ([], []), ([], []), ([6, 7], [6, 7]), ([8], [8]), ([9], [9]), ([], []), ([], []), ([11, 12], [11, 12]), ([13], [13]), ([14], [14]), ([], []), ([], []), ([16, 17], [16, 17]), ([18], [18]), ([19], [19]), ([0, 5, 10, 15, 20], [0, 5, 10, 15, 20]), ([21, 21, 0, 1, 2, 3, 4, 5, 6, 7, 8, 9, 10, 11, 12, 13, 14, 15, 16, 17, 18, 19, 20, 21], [21])])
def flywheellaw19_AimdBounds.B8 : List Nat := [0, 0, 0, 6, 14, 30, 0, 0, 192, 448, 960, 0, 0, 6144, 14336, 30720, 0, 0, 196608, 458752, 983040, 2097151, 4194303]
theorem flywheellaw19_AimdBounds.tab8 : rtab .any (opsOf Try.f3 8) = flywheellaw19_AimdBounds.T8 := by kernel_rfl
theorem flywheellaw19_AimdBounds.bits8 : waitsOk flywheellaw19_AimdBounds.T8.2 flywheellaw19_AimdBounds.B8 = true := by kernel_rfl
set_option maxHeartbeats 8000000 in
set_option maxRecDepth 100000 in
theorem flywheellaw19_AimdBounds.calls (k : Nat) (a0_0 : Int) (a0_1 : Int) (a0_2 : Int) (A1 : Option Addr) (c1 : Nat) (l1 : List (S34)) (r : Bool) (w : World) (hr1 : Kd.C k34 w A1 l1.length l1) (hc1 : l1.length ≤ c1) (h : flywheellaw19_AimdBounds.f k a0_0 a0_1 a0_2 l1 = some r) :
  Calls Try.prog 3 #[.agg #[.int .i64 a0_0, .int .i64 a0_1, .int .i64 a0_2], .slice A1 l1.length c1] w fun e w' => e = .returned (.bool r) ∧ Below w.heap.size w w' := by
 have hu23 := Try.underlying23
 have hpn25_eql : ∀ (a_ : Addr) (W_ : World), (Go.binOp .eql 25 (.pointer (some a_)) (.pointer none)).run Try.prog W_ = .ok (.bool false) W_ := fun _ _ => by kernel_rfl
 have hnn25_eql : ∀ (W_ : World), (Go.binOp .eql 25 (.pointer none) (.pointer none)).run Try.prog W_ = .ok (.bool true) W_ := fun _ => by kernel_rfl
 have HR1 := Aside0.mk hr1
 have HC1 := Aside0.mk hc1
 clear hr1 hc1
 have HB := Aside0.mk (Below.refl w.heap.size w)
 have H : (if (aimd_New.made.f a0_0 a0_1 a0_2).isSome = true then ((aimd_New.made.f a0_0 a0_1 a0_2).bind fun bt218 => (if bt218.2.2.2.2.2.2.2.2.2 = 0 then (flywheellaw19_AimdBounds.l0 k l1 0 a0_0 a0_1 a0_2 bt218.1 bt218.2.1 bt218.2.2.1 bt218.2.2.2.1 bt218.2.2.2.2.1 bt218.2.2.2.2.2.1 bt218.2.2.2.2.2.2.1 bt218.2.2.2.2.2.2.2.1 bt218.2.2.2.2.2.2.2.2.1) else (some false))) else ((aimd_New.nil.f a0_0 a0_1 a0_2).bind fun t267 => (if t267 = 0 then (flywheellaw19_AimdBounds.l5000 k l1 0) else ((flywheelref19_Rates.f a0_0 a0_1 a0_2).bind fun t268 => (if t268 = true then (some false) else ((flywheellaw19_wakes.f k).bind fun t269 => (some t269))))))) = some r := h
 clear h
 by_cases c3 : (aimd_New.made.f a0_0 a0_1 a0_2).isSome = true
 ·rw [if_pos c3] at H
  have c3b0 : (aimd_New.made.f a0_0 a0_1 a0_2).isSome = true := c3
  clear c3
  replace H := Option.bind_eq_some_iff.mp H
  obtain ⟨⟨t218, t219, t220, t221, t222, t223, t224, t225, t226, t228⟩, A40, H⟩ := H
  replace H : (if t228 = 0 then (flywheellaw19_AimdBounds.l0 k l1 0 a0_0 a0_1 a0_2 t218 t219 t220 t221 t222 t223 t224 t225 t226) else (some false)) = some r := H
  have A4 := Aside0.mk A40
  clear A40
  by_cases c5 : t228 = 0
  ·rw [if_pos c5] at H
   have c5b0 : (t228 == 0) = true := beq_iff_eq.mpr c5
   have c5b1 : (t228 != 0) = false := bne_eq_false_iff_eq.mpr c5
   clear c5
   have H' := Aside0.mk H
   clear H
   go_enter Try.func3, Try.ntmps3
   go_wp2_with (first | ((with_reducible refine gate_dst (N := 2) rfl ?_); refine box_event ?hg (N := 2) ?hd (cs := #[.int .i64 a0_0, .int .i64 a0_1, .int .i64 a0_2]) (t := 23) ?hr ?_; (case hd => rfl); (case hg => rfl); (case hr => first | (go_simp; done) | (go_simp; rfl)); intro gb217 hg w6 hbox hb; have n0_ := Aside0.mk (below_step (by repeat (first | (with_reducible first | exact HB.out | apply below_alloc | apply pw_below_drewN | apply below_drew1) | exact HB.out)) hb); have n1_ := Aside0.mk (hbox); have n2_ := Aside0.mk ((by rw [hg]; exact (below_size (by repeat (first | (with_reducible first | exact HB.out | apply below_alloc | apply pw_below_drewN | apply below_drew1) | exact HB.out))) : w.heap.size ≤ gb217)); have n3_ := Aside0.mk ((by rw [hg]; exact (below_size (by repeat (first | (with_reducible first | exact HB.out | apply below_alloc | apply pw_below_drewN | apply below_drew1) | exact HB.out))) : w.heap.size ≤ gb217)); clear HB; have HB := n0_; have BK217 := n1_; have GW217 := n2_; have GE217 := n3_; clear n0_ n1_ n2_ n3_; clear hb hbox hg; have hcz7_0 : w6.cell? ⟨gb217, 0, none⟩ = some (.int .i64 a0_0) := (blk_cell BK217.out 0).trans rfl; have hcz7_1 : w6.cell? ⟨gb217, 1, none⟩ = some (.int .i64 a0_1) := (blk_cell BK217.out 1).trans rfl; have hcz7_2 : w6.cell? ⟨gb217, 2, none⟩ = some (.int .i64 a0_2) := (blk_cell BK217.out 2).trans rfl; have hfz7_0 := blk_frozen BK217.out 0; have hfz7_1 := blk_frozen BK217.out 1; have hfz7_2 := blk_frozen BK217.out 2) | ((with_reducible refine gate_callee (f := 14) rfl ?_); refine goesL_ (some 17) rfl rfl Try.func14 (by kernel_rfl) rfl #[.int .i64 a0_0, .int .i64 a0_1, .int .i64 a0_2] rfl (by (try simp only [List.map_toArray, List.map_cons, List.map_nil]); first | done | rfl | (simp only [List.length_drop, List.length_take]; rfl)) ?_; (with_reducible refine (aimd_New.made.calls a0_0 a0_1 a0_2 t218 t219 t220 t221 t222 t223 t224 t225 t226 t228 _ _ (Below.refl _ _) A4.out).mono ?_); rintro e w8 ⟨g227, rfl, hi, hb, hb2⟩; refine ⟨_, rfl, ?_⟩; have n0_ := Aside0.mk (blk_below (g := gb217) (o := .cells #[.int .i64 a0_0, .int .i64 a0_1, .int .i64 a0_2] 23 (0, 0)) (by (with_reducible repeat (first | refine blk_drewN ?_ _ | refine blk_drew ?_ | refine blk_alloc ?_ _)); exact BK217.out) hb2); have n1_ := Aside0.mk (below_step (by repeat (first | (with_reducible first | exact HB.out | apply below_alloc | apply pw_below_drewN | apply below_drew1 | refine below_set ?_ GE217.out) | exact HB.out)) hb2); have n2_ := Aside0.mk ((IsS63.rebase hi (below_size (by repeat (first | (with_reducible first | exact HB.out | apply below_alloc | apply pw_below_drewN | apply below_drew1 | refine below_set ?_ GE217.out) | exact HB.out))))); have n3_ := Aside0.mk (IsS63.ne_blk hi (blk_below (g := gb217) (o := .cells #[.int .i64 a0_0, .int .i64 a0_1, .int .i64 a0_2] 23 (0, 0)) (by (with_reducible repeat (first | refine blk_drewN ?_ _ | refine blk_drew ?_ | refine blk_alloc ?_ _)); exact BK217.out) hb2) (by decide)); have n4_ := Aside0.mk (Ne.symm (IsS63.ne_blk hi (blk_below (g := gb217) (o := .cells #[.int .i64 a0_0, .int .i64 a0_1, .int .i64 a0_2] 23 (0, 0)) (by (with_reducible repeat (first | refine blk_drewN ?_ _ | refine blk_drew ?_ | refine blk_alloc ?_ _)); exact BK217.out) hb2) (by decide))); clear BK217; clear HB; have BK217 := n0_; have HB := n1_; have HI227 := n2_; have NB227_217 := n3_; have NB217_227 := n4_; clear n0_ n1_ n2_ n3_ n4_; (try clear hb); (try clear hb2); (try clear hk); (try clear hi)))
   go_loopg [7] k (fun kq v7 w' => ∃ (x7_1 : Int) (x228000_1 : Int) (x228001_1 : Int) (x228002_1 : Int) (x228003_1 : Int) (x228004_1 : Bool) (x228005_1 : Int) (x228006_1 : Int) (x228007_1 : Bool) (x228008_1 : Int), v7 = .int .i64 x7_1 ∧ Aside0 (flywheellaw19_AimdBounds.l0 kq l1 x7_1 a0_0 a0_1 a0_2 x228000_1 x228001_1 x228002_1 x228003_1 x228004_1 x228005_1 x228006_1 x228007_1 x228008_1 = some r) ∧ Aside0 (kq ≤ k) ∧ Aside0 (w'.heap[gb217]? = some (.cells #[.int .i64 a0_0, .int .i64 a0_1, .int .i64 a0_2] 23 (0, 0))) ∧ Aside0 (IsS63 w w' g227 x228000_1 x228001_1 x228002_1 x228003_1 x228004_1 x228005_1 x228006_1 x228007_1 x228008_1) ∧ Aside0 (Below w.heap.size w w'))
   case atStart => exact ⟨(0), (t218), (t219), (t220), (t221), (t222), (t223), (t224), (t225), (t226), (by first | rfl | (simp; done) | (simp [*]; done)), H', ⟨Nat.le_refl _⟩, ⟨by (with_reducible repeat (first | refine blk_drewN ?_ _ | refine blk_drew ?_ | refine blk_alloc ?_ _)); exact BK217.out⟩, ⟨by repeat (first | (with_reducible first | exact HI227.out | apply IsS63.alloc | apply IsS63.drewN | apply IsS63.drew | apply IsS63.set_0 | apply IsS63.set_1 | apply IsS63.set_2 | apply IsS63.set_3 | apply IsS63.set_4 | apply IsS63.set_5 | apply IsS63.set_6 | apply IsS63.set_7 | apply IsS63.set_8 | refine IsS63.far ?_ NB227_217.out _) | exact HI227.out)⟩, ⟨by repeat (first | (with_reducible first | exact HB.out | apply below_alloc | apply pw_below_drewN | apply below_drew1 | refine below_set ?_ (IsS63.ge HI227.out) | refine below_set ?_ GE217.out) | exact HB.out)⟩⟩
   case round =>
    clear H'
    try clear c1
    try clear p2
    try clear c3
    try clear c3b0
    try clear c5
    try clear c5b0
    try clear c5b1
    try clear hcz7_0
    try clear hcz7_1
    try clear hcz7_2
    try clear hfz7_0
    try clear hfz7_1
    try clear hfz7_2
    obtain ⟨x7_1, x228000_1, x228001_1, x228002_1, x228003_1, x228004_1, x228005_1, x228006_1, x228007_1, x228008_1, rfl, HA, HK1, BK217, HI227, HB⟩ := hrel
    cases gk with
    | zero => exact absurd HA.out (by simp [flywheellaw19_AimdBounds.l0])
    | succ k1 =>
     have H := HA.out
     clear HA
     simp only [flywheellaw19_AimdBounds.l0] at H
     have HC9 := Aside0.mk H
     clear H
     go_upto_region 5 with (fail)
     go_cut [44] (fun v44 wc => ∃ (kq : Nat) (x44_8 : Bool), v44 = .bool x44_8 ∧ Aside0 (flywheellaw19_AimdBounds.j1 kq l1 x7_1 x44_8 a0_0 a0_1 a0_2 x228000_1 x228001_1 x228002_1 x228003_1 x228004_1 x228005_1 x228006_1 x228007_1 x228008_1 = some r) ∧ Aside0 (kq ≤ k1) ∧ Aside0 (wc.heap[gb217]? = some (.cells #[.int .i64 a0_0, .int .i64 a0_1, .int .i64 a0_2] 23 (0, 0))) ∧ Aside0 (IsS63 w wc g227 x228000_1 x228001_1 x228002_1 x228003_1 x228004_1 x228005_1 x228006_1 x228007_1 x228008_1) ∧ Aside0 (Below w.heap.size w wc))
     case first =>
      have H := HC9.out
      clear HC9
      by_cases c10 : x7_1 < (l1.length : Int)
      ·rw [if_pos c10] at H
       have c10b0 : decide (x7_1 < (l1.length : Int)) = true := decide_eq_true c10
       clear c10
       (first | rw [c10b0] | (simp only [i64_w, i32_w]; rw [c10b0]) | skip)
       have H' := Aside0.mk H
       clear H
       go_wp2
       go_meet
       case rel => exact ⟨_, (decide (x7_1 < 200)), (by first | rfl | (simp; done) | (simp [*]; done)), H', ⟨by have := HK1.out; first | omega | exact Nat.le_refl _⟩, ⟨by (with_reducible repeat (first | refine blk_drewN ?_ _ | refine blk_drew ?_ | refine blk_alloc ?_ _)); exact BK217.out⟩, ⟨by repeat (first | (with_reducible first | exact HI227.out | apply IsS63.alloc | apply IsS63.drewN | apply IsS63.drew | apply IsS63.set_0 | apply IsS63.set_1 | apply IsS63.set_2 | apply IsS63.set_3 | apply IsS63.set_4 | apply IsS63.set_5 | apply IsS63.set_6 | apply IsS63.set_7 | apply IsS63.set_8 | refine IsS63.far ?_ NB227_217.out _) | exact HI227.out)⟩, ⟨by repeat (first | (with_reducible first | exact HB.out | apply below_alloc | apply pw_below_drewN | apply below_drew1 | refine below_set ?_ (IsS63.ge HI227.out) | refine below_set ?_ GE217.out) | exact HB.out)⟩⟩
      ·rw [if_neg c10] at H
       have c10b0 : decide (x7_1 < (l1.length : Int)) = false := decide_eq_false c10
       clear c10
       (first | rw [c10b0] | (simp only [i64_w, i32_w]; rw [c10b0]) | skip)
       have H' := Aside0.mk H
       clear H
       go_wp2
       go_meet
       case rel => exact ⟨_, (false), (by first | rfl | (simp; done) | (simp [*]; done)), H', ⟨by have := HK1.out; first | omega | exact Nat.le_refl _⟩, ⟨by (with_reducible repeat (first | refine blk_drewN ?_ _ | refine blk_drew ?_ | refine blk_alloc ?_ _)); exact BK217.out⟩, ⟨by repeat (first | (with_reducible first | exact HI227.out | apply IsS63.alloc | apply IsS63.drewN | apply IsS63.drew | apply IsS63.set_0 | apply IsS63.set_1 | apply IsS63.set_2 | apply IsS63.set_3 | apply IsS63.set_4 | apply IsS63.set_5 | apply IsS63.set_6 | apply IsS63.set_7 | apply IsS63.set_8 | refine IsS63.far ?_ NB227_217.out _) | exact HI227.out)⟩, ⟨by repeat (first | (with_reducible first | exact HB.out | apply below_alloc | apply pw_below_drewN | apply below_drew1 | refine below_set ?_ (IsS63.ge HI227.out) | refine below_set ?_ GE217.out) | exact HB.out)⟩⟩
     case rest =>
      clear HC9
      try clear c1
      try clear p2
      try clear c3
      try clear c3b0
      try clear c5
      try clear c5b0
      try clear c5b1
      try clear c10
      try clear c10b0
      try clear hcz7_0
      try clear hcz7_1
      try clear hcz7_2
      try clear hfz7_0
      try clear hfz7_1
      try clear hfz7_2
      try clear p2
      obtain ⟨kq, x44_8, rfl, HA, HJ8, BK217, HI227, HB⟩ := hcut
      cases kq with
      | zero => exact absurd HA.out (by simp [flywheellaw19_AimdBounds.j1])
      | succ kj8 =>
       have H := HA.out
       clear HA
       simp only [flywheellaw19_AimdBounds.j1] at H
       by_cases c11 : x44_8 = true
       ·subst c11
        have H1 : ((aimd_Aimd_Rate.f x228000_1 x228001_1 x228002_1 x228003_1 x228004_1 x228005_1 x228006_1 x228007_1 x228008_1).bind fun bt230 => (if 0 ≤ x7_1 then (if x7_1 < (l1.length : Int) then ((aimd_Aimd_Update.f kj8 bt230.2.1 bt230.2.2.1 bt230.2.2.2.1 bt230.2.2.2.2.1 bt230.2.2.2.2.2.1 bt230.2.2.2.2.2.2.1 bt230.2.2.2.2.2.2.2.1 bt230.2.2.2.2.2.2.2.2.1 bt230.2.2.2.2.2.2.2.2.2 ((rd_T34 l1 x7_1).f0) ((rd_T34 l1 x7_1).f1) ((rd_T34 l1 x7_1).f2) ((rd_T34 l1 x7_1).f3)).bind fun bt244 => (if bt244.1 < a0_1 then (some false) else (if bt244.1 > a0_2 then (some false) else ((aimd_Aimd_Rate.f bt244.2.1 bt244.2.2.1 bt244.2.2.2.1 bt244.2.2.2.2.1 bt244.2.2.2.2.2.1 bt244.2.2.2.2.2.2.1 bt244.2.2.2.2.2.2.2.1 bt244.2.2.2.2.2.2.2.2.1 bt244.2.2.2.2.2.2.2.2.2).bind fun bt254 => (if bt244.1 = bt254.1 then (if ((rd_T34 l1 x7_1).f0) = 1 then (if bt244.1 > bt230.1 then (some false) else (flywheellaw19_AimdBounds.l0 kj8 l1 (wrap64 (x7_1 + 1)) a0_0 a0_1 a0_2 bt254.2.1 bt254.2.2.1 bt254.2.2.2.1 bt254.2.2.2.2.1 bt254.2.2.2.2.2.1 bt254.2.2.2.2.2.2.1 bt254.2.2.2.2.2.2.2.1 bt254.2.2.2.2.2.2.2.2.1 bt254.2.2.2.2.2.2.2.2.2)) else (if bt244.1 < bt230.1 then (some false) else (flywheellaw19_AimdBounds.l0 kj8 l1 (wrap64 (x7_1 + 1)) a0_0 a0_1 a0_2 bt254.2.1 bt254.2.2.1 bt254.2.2.2.1 bt254.2.2.2.2.1 bt254.2.2.2.2.2.1 bt254.2.2.2.2.2.2.1 bt254.2.2.2.2.2.2.2.1 bt254.2.2.2.2.2.2.2.2.1 bt254.2.2.2.2.2.2.2.2.2))) else (some false)))))) else (none)) else (none))) = some r := by rw [if_pos rfl] at H; exact H
        clear H
        have H := H1
        clear H1
        replace H := Option.bind_eq_some_iff.mp H
        obtain ⟨⟨t230, t231, t232, t233, t234, t235, t236, t237, t238, t239⟩, A120, H⟩ := H
        replace H : (if 0 ≤ x7_1 then (if x7_1 < (l1.length : Int) then ((aimd_Aimd_Update.f kj8 t231 t232 t233 t234 t235 t236 t237 t238 t239 ((rd_T34 l1 x7_1).f0) ((rd_T34 l1 x7_1).f1) ((rd_T34 l1 x7_1).f2) ((rd_T34 l1 x7_1).f3)).bind fun bt244 => (if bt244.1 < a0_1 then (some false) else (if bt244.1 > a0_2 then (some false) else ((aimd_Aimd_Rate.f bt244.2.1 bt244.2.2.1 bt244.2.2.2.1 bt244.2.2.2.2.1 bt244.2.2.2.2.2.1 bt244.2.2.2.2.2.2.1 bt244.2.2.2.2.2.2.2.1 bt244.2.2.2.2.2.2.2.2.1 bt244.2.2.2.2.2.2.2.2.2).bind fun bt254 => (if bt244.1 = bt254.1 then (if ((rd_T34 l1 x7_1).f0) = 1 then (if bt244.1 > t230 then (some false) else (flywheellaw19_AimdBounds.l0 kj8 l1 (wrap64 (x7_1 + 1)) a0_0 a0_1 a0_2 bt254.2.1 bt254.2.2.1 bt254.2.2.2.1 bt254.2.2.2.2.1 bt254.2.2.2.2.2.1 bt254.2.2.2.2.2.2.1 bt254.2.2.2.2.2.2.2.1 bt254.2.2.2.2.2.2.2.2.1 bt254.2.2.2.2.2.2.2.2.2)) else (if bt244.1 < t230 then (some false) else (flywheellaw19_AimdBounds.l0 kj8 l1 (wrap64 (x7_1 + 1)) a0_0 a0_1 a0_2 bt254.2.1 bt254.2.2.1 bt254.2.2.2.1 bt254.2.2.2.2.1 bt254.2.2.2.2.2.1 bt254.2.2.2.2.2.2.1 bt254.2.2.2.2.2.2.2.1 bt254.2.2.2.2.2.2.2.2.1 bt254.2.2.2.2.2.2.2.2.2))) else (some false)))))) else (none)) else (none)) = some r := H
        have A12 := Aside0.mk A120
        clear A120
        by_cases c13 : 0 ≤ x7_1
        ·rw [if_pos c13] at H
         have c13b0 : decide (0 ≤ x7_1) = true := decide_eq_true c13
         clear c13
         by_cases c14 : x7_1 < (l1.length : Int)
         ·rw [if_pos c14] at H
          have c14b0 : decide (x7_1 < (l1.length : Int)) = true := decide_eq_true c14
          clear c14
          replace H := Option.bind_eq_some_iff.mp H
          obtain ⟨⟨t244, t245, t246, t247, t248, t249, t250, t251, t252, t253⟩, A150, H⟩ := H
          replace H : (if t244 < a0_1 then (some false) else (if t244 > a0_2 then (some false) else ((aimd_Aimd_Rate.f t245 t246 t247 t248 t249 t250 t251 t252 t253).bind fun bt254 => (if t244 = bt254.1 then (if ((rd_T34 l1 x7_1).f0) = 1 then (if t244 > t230 then (some false) else (flywheellaw19_AimdBounds.l0 kj8 l1 (wrap64 (x7_1 + 1)) a0_0 a0_1 a0_2 bt254.2.1 bt254.2.2.1 bt254.2.2.2.1 bt254.2.2.2.2.1 bt254.2.2.2.2.2.1 bt254.2.2.2.2.2.2.1 bt254.2.2.2.2.2.2.2.1 bt254.2.2.2.2.2.2.2.2.1 bt254.2.2.2.2.2.2.2.2.2)) else (if t244 < t230 then (some false) else (flywheellaw19_AimdBounds.l0 kj8 l1 (wrap64 (x7_1 + 1)) a0_0 a0_1 a0_2 bt254.2.1 bt254.2.2.1 bt254.2.2.2.1 bt254.2.2.2.2.1 bt254.2.2.2.2.2.1 bt254.2.2.2.2.2.2.1 bt254.2.2.2.2.2.2.2.1 bt254.2.2.2.2.2.2.2.2.1 bt254.2.2.2.2.2.2.2.2.2))) else (some false))))) = some r := H
          have A15 := Aside0.mk A150
          clear A150
          by_cases c16 : t244 < a0_1
          ·rw [if_pos c16] at H
           have c16b0 : decide (t244 < a0_1) = true := decide_eq_true c16
           clear c16
           obtain rfl := Option.some.inj H
           try go_wp2_with (first | ((with_reducible refine gate_callee (f := 17) rfl ?_); refine goesL_ (some 48) rfl rfl Try.func17 (by kernel_rfl) rfl #[.pointer (some ⟨g227, 0, none⟩)] rfl (by (try simp only [List.map_toArray, List.map_cons, List.map_nil]); first | done | rfl | (simp only [List.length_drop, List.length_take]; rfl)) ?_; (with_reducible refine (aimd_Aimd_Rate.calls g227 x228000_1 x228001_1 x228002_1 x228003_1 x228004_1 x228005_1 x228006_1 x228007_1 x228008_1 t230 t231 t232 t233 t234 t235 t236 t237 t238 t239 w _ ?side1 ?side2 A12.out).mono ?_); (case side1 => repeat (first | (with_reducible first | exact HI227.out | apply IsS63.alloc | apply IsS63.drewN | apply IsS63.drew | apply IsS63.set_0 | apply IsS63.set_1 | apply IsS63.set_2 | apply IsS63.set_3 | apply IsS63.set_4 | apply IsS63.set_5 | apply IsS63.set_6 | apply IsS63.set_7 | apply IsS63.set_8 | refine IsS63.far ?_ NB227_217.out _) | exact HI227.out)); (case side2 => repeat (first | (with_reducible first | exact HB.out | apply below_alloc | apply pw_below_drewN | apply below_drew1 | refine below_set ?_ (IsS63.ge HI227.out) | refine below_set ?_ GE217.out) | exact HB.out)); rintro e w17 ⟨rfl, hi, hb, hk⟩; refine ⟨_, rfl, ?_⟩; have n0_ := Aside0.mk (KeepBut.blk hk (g' := gb217) (o := .cells #[.int .i64 a0_0, .int .i64 a0_1, .int .i64 a0_2] 23 (0, 0)) (by (with_reducible repeat (first | refine blk_drewN ?_ _ | refine blk_drew ?_ | refine blk_alloc ?_ _)); exact BK217.out) NB217_227.out (by simp)); have n1_ := Aside0.mk (hb); have n2_ := Aside0.mk (hi); clear BK217; clear HB; clear HI227; have BK217 := n0_; have HB := n1_; have HI227 := n2_; clear n0_ n1_ n2_; (try clear hb); (try clear hb2); (try clear hk); (try clear hi)))
           have n0_ := Aside0.mk (blk_drew BK217.out)
           have n1_ := Aside0.mk (IsS63.drew HI227.out)
           have n2_ := Aside0.mk (below_drew1 HB.out)
           clear BK217
           clear HI227
           clear HB
           have BK217 := n0_
           have HI227 := n1_
           have HB := n2_
           clear n0_ n1_ n2_
           have p240 : 0 ≤ (x7_1 : Int) := of_decide_eq_true (by first | (with_reducible assumption) | assumption)
           have q240 : x7_1 < (l1.length : Int) := of_decide_eq_true (by first | (with_reducible assumption) | assumption)
           obtain ⟨ad240, e240, hx240_0, hx240_1, hx240_2, hx240_3⟩ := at_T34 HR1.out x7_1 p240 q240
           have hw240_3 := hx240_3
           have hw240_2 := hx240_2
           have hw240_1 := hx240_1
           have hw240_0 := hx240_0
           cases e240
           replace hx240_0 := (HB.out.cell (World.block_lt_of_cell? w _ hx240_0)).trans hx240_0
           replace hx240_1 := (HB.out.cell (World.block_lt_of_cell? w _ hx240_1)).trans hx240_1
           replace hx240_2 := (HB.out.cell (World.block_lt_of_cell? w _ hx240_2)).trans hx240_2
           replace hx240_3 := (HB.out.cell (World.block_lt_of_cell? w _ hx240_3)).trans hx240_3
           replace p240 := eq_true p240
           replace q240 := eq_true q240
           have p241 : 0 ≤ (x7_1 : Int) := of_decide_eq_true (by first | (with_reducible assumption) | assumption)
           have q241 : x7_1 < (l1.length : Int) := of_decide_eq_true (by first | (with_reducible assumption) | assumption)
           obtain ⟨ad241, e241, hx241_0, hx241_1, hx241_2, hx241_3⟩ := at_T34 HR1.out x7_1 p241 q241
           have hw241_3 := hx241_3
           have hw241_2 := hx241_2
           have hw241_1 := hx241_1
           have hw241_0 := hx241_0
           obtain rfl : ad240 = ad241 := (by injection e241)
           replace hx241_0 := (HB.out.cell (World.block_lt_of_cell? w _ hx241_0)).trans hx241_0
           replace hx241_1 := (HB.out.cell (World.block_lt_of_cell? w _ hx241_1)).trans hx241_1
           replace hx241_2 := (HB.out.cell (World.block_lt_of_cell? w _ hx241_2)).trans hx241_2
           replace hx241_3 := (HB.out.cell (World.block_lt_of_cell? w _ hx241_3)).trans hx241_3
           replace p241 := eq_true p241
           replace q241 := eq_true q241
           have p242 : 0 ≤ (x7_1 : Int) := of_decide_eq_true (by first | (with_reducible assumption) | assumption)
           have q242 : x7_1 < (l1.length : Int) := of_decide_eq_true (by first | (with_reducible assumption) | assumption)
           obtain ⟨ad242, e242, hx242_0, hx242_1, hx242_2, hx242_3⟩ := at_T34 HR1.out x7_1 p242 q242
           have hw242_3 := hx242_3
           have hw242_2 := hx242_2
           have hw242_1 := hx242_1
           have hw242_0 := hx242_0
           obtain rfl : ad240 = ad242 := (by injection e242)
           replace hx242_0 := (HB.out.cell (World.block_lt_of_cell? w _ hx242_0)).trans hx242_0
           replace hx242_1 := (HB.out.cell (World.block_lt_of_cell? w _ hx242_1)).trans hx242_1
           replace hx242_2 := (HB.out.cell (World.block_lt_of_cell? w _ hx242_2)).trans hx242_2
           replace hx242_3 := (HB.out.cell (World.block_lt_of_cell? w _ hx242_3)).trans hx242_3
           replace p242 := eq_true p242
           replace q242 := eq_true q242
           have p243 : 0 ≤ (x7_1 : Int) := of_decide_eq_true (by first | (with_reducible assumption) | assumption)
           have q243 : x7_1 < (l1.length : Int) := of_decide_eq_true (by first | (with_reducible assumption) | assumption)
           obtain ⟨ad243, e243, hx243_0, hx243_1, hx243_2, hx243_3⟩ := at_T34 HR1.out x7_1 p243 q243
           have hw243_3 := hx243_3
           have hw243_2 := hx243_2
           have hw243_1 := hx243_1
           have hw243_0 := hx243_0
           obtain rfl : ad240 = ad243 := (by injection e243)
           replace hx243_0 := (HB.out.cell (World.block_lt_of_cell? w _ hx243_0)).trans hx243_0
           replace hx243_1 := (HB.out.cell (World.block_lt_of_cell? w _ hx243_1)).trans hx243_1
           replace hx243_2 := (HB.out.cell (World.block_lt_of_cell? w _ hx243_2)).trans hx243_2
           replace hx243_3 := (HB.out.cell (World.block_lt_of_cell? w _ hx243_3)).trans hx243_3
           replace p243 := eq_true p243
           replace q243 := eq_true q243
           refine start_ (n := 23) (S := fun w' => w'.cell? (ad240.add ((x7_1).toNat * 4)) = some (.int .i64 ((rd_T34 l1 x7_1).f0)) ∧ w'.cell? ⟨(ad240.add ((x7_1).toNat * 4)).block, (ad240.add ((x7_1).toNat * 4)).off + 1, none⟩ = some (.int .i64 ((rd_T34 l1 x7_1).f1)) ∧ w'.cell? ⟨(ad240.add ((x7_1).toNat * 4)).block, (ad240.add ((x7_1).toNat * 4)).off + 2, none⟩ = some (.int .i64 ((rd_T34 l1 x7_1).f2)) ∧ w'.cell? ⟨(ad240.add ((x7_1).toNat * 4)).block, (ad240.add ((x7_1).toNat * 4)).off + 3, none⟩ = some (.int .i64 ((rd_T34 l1 x7_1).f3)) ∧ w'.cell? (ad240.add ((x7_1).toNat * 4)) = some (.int .i64 ((rd_T34 l1 x7_1).f0)) ∧ w'.cell? ⟨(ad240.add ((x7_1).toNat * 4)).block, (ad240.add ((x7_1).toNat * 4)).off + 1, none⟩ = some (.int .i64 ((rd_T34 l1 x7_1).f1)) ∧ w'.cell? ⟨(ad240.add ((x7_1).toNat * 4)).block, (ad240.add ((x7_1).toNat * 4)).off + 2, none⟩ = some (.int .i64 ((rd_T34 l1 x7_1).f2)) ∧ w'.cell? ⟨(ad240.add ((x7_1).toNat * 4)).block, (ad240.add ((x7_1).toNat * 4)).off + 3, none⟩ = some (.int .i64 ((rd_T34 l1 x7_1).f3)) ∧ w'.cell? (ad240.add ((x7_1).toNat * 4)) = some (.int .i64 ((rd_T34 l1 x7_1).f0)) ∧ w'.cell? ⟨(ad240.add ((x7_1).toNat * 4)).block, (ad240.add ((x7_1).toNat * 4)).off + 1, none⟩ = some (.int .i64 ((rd_T34 l1 x7_1).f1)) ∧ w'.cell? ⟨(ad240.add ((x7_1).toNat * 4)).block, (ad240.add ((x7_1).toNat * 4)).off + 2, none⟩ = some (.int .i64 ((rd_T34 l1 x7_1).f2)) ∧ w'.cell? ⟨(ad240.add ((x7_1).toNat * 4)).block, (ad240.add ((x7_1).toNat * 4)).off + 3, none⟩ = some (.int .i64 ((rd_T34 l1 x7_1).f3)) ∧ w'.cell? (ad240.add ((x7_1).toNat * 4)) = some (.int .i64 ((rd_T34 l1 x7_1).f0)) ∧ w'.cell? ⟨(ad240.add ((x7_1).toNat * 4)).block, (ad240.add ((x7_1).toNat * 4)).off + 1, none⟩ = some (.int .i64 ((rd_T34 l1 x7_1).f1)) ∧ w'.cell? ⟨(ad240.add ((x7_1).toNat * 4)).block, (ad240.add ((x7_1).toNat * 4)).off + 2, none⟩ = some (.int .i64 ((rd_T34 l1 x7_1).f2)) ∧ w'.cell? ⟨(ad240.add ((x7_1).toNat * 4)).block, (ad240.add ((x7_1).toNat * 4)).off + 3, none⟩ = some (.int .i64 ((rd_T34 l1 x7_1).f3))) (ds := []) #[false, false, false, false, false, false, false, false, false, false, false, false, false, false, false, false, false, false, false, false, false, false, false] (by kernel_rfl) rfl rfl ⟨((HB.out.cell (World.block_lt_of_cell? w _ hw240_0)).trans hw240_0), ((HB.out.cell (World.block_lt_of_cell? w _ hw240_1)).trans hw240_1), ((HB.out.cell (World.block_lt_of_cell? w _ hw240_2)).trans hw240_2), ((HB.out.cell (World.block_lt_of_cell? w _ hw240_3)).trans hw240_3), ((HB.out.cell (World.block_lt_of_cell? w _ hw241_0)).trans hw241_0), ((HB.out.cell (World.block_lt_of_cell? w _ hw241_1)).trans hw241_1), ((HB.out.cell (World.block_lt_of_cell? w _ hw241_2)).trans hw241_2), ((HB.out.cell (World.block_lt_of_cell? w _ hw241_3)).trans hw241_3), ((HB.out.cell (World.block_lt_of_cell? w _ hw242_0)).trans hw242_0), ((HB.out.cell (World.block_lt_of_cell? w _ hw242_1)).trans hw242_1), ((HB.out.cell (World.block_lt_of_cell? w _ hw242_2)).trans hw242_2), ((HB.out.cell (World.block_lt_of_cell? w _ hw242_3)).trans hw242_3), ((HB.out.cell (World.block_lt_of_cell? w _ hw243_0)).trans hw243_0), ((HB.out.cell (World.block_lt_of_cell? w _ hw243_1)).trans hw243_1), ((HB.out.cell (World.block_lt_of_cell? w _ hw243_2)).trans hw243_2), ((HB.out.cell (World.block_lt_of_cell? w _ hw243_3)).trans hw243_3)⟩ (fun hHeld => ?_); refine with_tabW flywheellaw19_AimdBounds.tab8 flywheellaw19_AimdBounds.bits8 (fun HT_ HW_ => ?_)
           generalize w17.drew = w18 at BK217 HI227 HB hx240_0 hx240_1 hx240_2 hx240_3 hx241_0 hx241_1 hx241_2 hx241_3 hx242_0 hx242_1 hx242_2 hx242_3 hx243_0 hx243_1 hx243_2 hx243_3 hHeld ⊢
           refine pure_ (i := 0) (N := some 49) (v := ?_) (a' := ?_) (bl 23 1) rfl rfl (any_of HT_.out (by kernel_rfl)) (fun _ _ _ h => h) (Or.inl ⟨by rfl, ?_⟩) ?_ ?_
           rotate_left
           ·intro w'
            go_simp
            with_reducible rfl
           rotate_left
           ·simp only [puts_]
            rfl
           refine pure_ (i := 1) (N := some 50) (v := ?_) (a' := ?_) (bl 23 3) rfl rfl (any_of HT_.out (by kernel_rfl)) (fun _ _ _ h => h) (Or.inl ⟨by rfl, ?_⟩) ?_ ?_
           rotate_left
           ·intro w'
            go_simp
            with_reducible rfl
           rotate_left
           ·simp only [puts_]
            rfl
           refine pure_ (i := 2) (N := some 51) (v := ?_) (a' := ?_) (bl 23 7) rfl rfl (any_of HT_.out (by kernel_rfl)) (fun _ _ _ h => h) (Or.inl ⟨by rfl, ?_⟩) ?_ ?_
           rotate_left
           ·intro w'
            go_simp
            with_reducible rfl
           rotate_left
           ·simp only [puts_]
            rfl
           refine pure_ (i := 3) (N := some 52) (v := ?_) (a' := ?_) (bl 23 15) rfl rfl (any_of HT_.out (by kernel_rfl)) (fun _ _ _ h => h) (Or.inl ⟨by rfl, ?_⟩) ?_ ?_
           rotate_left
           ·intro w'
            go_simp
            with_reducible rfl
           rotate_left
           ·simp only [puts_]
            rfl
           refine pure_ (i := 4) (N := some 53) (v := ?_) (a' := ?_) (bl 23 31) rfl rfl (any_of HT_.out (by kernel_rfl)) (fun _ _ _ h => h) (Or.inl ⟨by rfl, ?_⟩) ?_ ?_
           rotate_left
           ·intro w'
            go_simp
            with_reducible rfl
           rotate_left
           ·simp only [puts_]
            rfl
           refine pure_ (i := 6) (N := some 55) (v := ?_) (a' := ?_) (bl 23 95) rfl rfl (any_of HT_.out (by kernel_rfl)) (fun _ _ _ h => h) (Or.inl ⟨by rfl, ?_⟩) ?_ ?_
           rotate_left
           ·intro w'
            go_simp
            with_reducible rfl
           rotate_left
           ·simp only [puts_]
            rfl
           refine pure_ (i := 7) (N := some 56) (v := ?_) (a' := ?_) (bl 23 223) rfl rfl (any_of HT_.out (by kernel_rfl)) (fun _ _ _ h => h) (Or.inl ⟨by rfl, ?_⟩) ?_ ?_
           rotate_left
           ·intro w'
            go_simp
            with_reducible rfl
           rotate_left
           ·simp only [puts_]
            rfl
           refine pure_ (i := 8) (N := some 57) (v := ?_) (a' := ?_) (bl 23 479) rfl rfl (any_of HT_.out (by kernel_rfl)) (fun _ _ _ h => h) (Or.inl ⟨by rfl, ?_⟩) ?_ ?_
           rotate_left
           ·intro w'
            go_simp
            with_reducible rfl
           rotate_left
           ·simp only [puts_]
            rfl
           refine pure_ (i := 9) (N := some 58) (v := ?_) (a' := ?_) (bl 23 991) rfl rfl (any_of HT_.out (by kernel_rfl)) (fun _ _ _ h => h) (Or.inl ⟨by rfl, ?_⟩) ?_ ?_
           rotate_left
           ·intro w'
            go_simp
            with_reducible rfl
           rotate_left
           ·simp only [puts_]
            rfl
           refine pure_ (i := 11) (N := some 60) (v := ?_) (a' := ?_) (bl 23 3039) rfl rfl (any_of HT_.out (by kernel_rfl)) (fun _ _ _ h => h) (Or.inl ⟨by rfl, ?_⟩) ?_ ?_
           rotate_left
           ·intro w'
            go_simp
            with_reducible rfl
           rotate_left
           ·simp only [puts_]
            rfl
           refine pure_ (i := 12) (N := some 61) (v := ?_) (a' := ?_) (bl 23 7135) rfl rfl (any_of HT_.out (by kernel_rfl)) (fun _ _ _ h => h) (Or.inl ⟨by rfl, ?_⟩) ?_ ?_
           rotate_left
           ·intro w'
            go_simp
            with_reducible rfl
           rotate_left
           ·simp only [puts_]
            rfl
           refine pure_ (i := 13) (N := some 62) (v := ?_) (a' := ?_) (bl 23 15327) rfl rfl (any_of HT_.out (by kernel_rfl)) (fun _ _ _ h => h) (Or.inl ⟨by rfl, ?_⟩) ?_ ?_
           rotate_left
           ·intro w'
            go_simp
            with_reducible rfl
           rotate_left
           ·simp only [puts_]
            rfl
           refine pure_ (i := 14) (N := some 63) (v := ?_) (a' := ?_) (bl 23 31711) rfl rfl (any_of HT_.out (by kernel_rfl)) (fun _ _ _ h => h) (Or.inl ⟨by rfl, ?_⟩) ?_ ?_
           rotate_left
           ·intro w'
            go_simp
            with_reducible rfl
           rotate_left
           ·simp only [puts_]
            rfl
           refine pure_ (i := 16) (N := some 65) (v := ?_) (a' := ?_) (bl 23 97247) rfl rfl (any_of HT_.out (by kernel_rfl)) (fun _ _ _ h => h) (Or.inl ⟨by rfl, ?_⟩) ?_ ?_
           rotate_left
           ·intro w'
            go_simp
            with_reducible rfl
           rotate_left
           ·simp only [puts_]
            rfl
           refine pure_ (i := 17) (N := some 66) (v := ?_) (a' := ?_) (bl 23 228319) rfl rfl (any_of HT_.out (by kernel_rfl)) (fun _ _ _ h => h) (Or.inl ⟨by rfl, ?_⟩) ?_ ?_
           rotate_left
           ·intro w'
            go_simp
            with_reducible rfl
           rotate_left
           ·simp only [puts_]
            rfl
           refine pure_ (i := 18) (N := some 67) (v := ?_) (a' := ?_) (bl 23 490463) rfl rfl (any_of HT_.out (by kernel_rfl)) (fun _ _ _ h => h) (Or.inl ⟨by rfl, ?_⟩) ?_ ?_
           rotate_left
           ·intro w'
            go_simp
            with_reducible rfl
           rotate_left
           ·simp only [puts_]
            rfl
           refine pure_ (i := 19) (N := some 68) (v := ?_) (a' := ?_) (bl 23 1014751) rfl rfl (any_of HT_.out (by kernel_rfl)) (fun _ _ _ h => h) (Or.inl ⟨by rfl, ?_⟩) ?_ ?_
           rotate_left
           ·intro w'
            go_simp
            with_reducible rfl
           rotate_left
           ·simp only [puts_]
            rfl
           refine take_ (i := 5) (N := some 54) (v := ?_) (a' := ?_) (bl 23 1014783) rfl rfl (take_ofW HT_.out HW_.out (by kernel_rfl)) (fun _ _ _ h => h) (Or.inl ⟨by rfl, ?_⟩) hHeld ?_ ?_
           rotate_left
           ·rintro w' ⟨s0, s1, s2, s3, s4, s5, s6, s7, s8, s9, s10, s11, s12, s13, s14, s15⟩
            go_simp
            with_reducible rfl
           rotate_left
           ·simp only [puts_]
            rfl
           refine take_ (i := 10) (N := some 59) (v := ?_) (a' := ?_) (bl 23 1015807) rfl rfl (take_ofW HT_.out HW_.out (by kernel_rfl)) (fun _ _ _ h => h) (Or.inl ⟨by rfl, ?_⟩) hHeld ?_ ?_
           rotate_left
           ·rintro w' ⟨s0, s1, s2, s3, s4, s5, s6, s7, s8, s9, s10, s11, s12, s13, s14, s15⟩
            go_simp
            with_reducible rfl
           rotate_left
           ·simp only [puts_]
            rfl
           refine take_ (i := 15) (N := some 64) (v := ?_) (a' := ?_) (bl 23 1048575) rfl rfl (take_ofW HT_.out HW_.out (by kernel_rfl)) (fun _ _ _ h => h) (Or.inl ⟨by rfl, ?_⟩) hHeld ?_ ?_
           rotate_left
           ·rintro w' ⟨s0, s1, s2, s3, s4, s5, s6, s7, s8, s9, s10, s11, s12, s13, s14, s15⟩
            go_simp
            with_reducible rfl
           rotate_left
           ·simp only [puts_]
            rfl
           refine take_ (i := 20) (N := some 69) (v := ?_) (a' := ?_) (bl 23 2097151) rfl rfl (take_ofW HT_.out HW_.out (by kernel_rfl)) (fun _ _ _ h => h) (Or.inl ⟨by rfl, ?_⟩) hHeld ?_ ?_
           rotate_left
           ·rintro w' ⟨s0, s1, s2, s3, s4, s5, s6, s7, s8, s9, s10, s11, s12, s13, s14, s15⟩
            go_simp
            with_reducible rfl
           rotate_left
           ·simp only [puts_]
            rfl
           refine one_ (i := 21) (N := some 70) (bl 23 4194303) rfl rfl (one_of HT_.out (by kernel_rfl)) (by decide) (fun K hK => ?_)
           refine goes_ Try.func18 (by kernel_rfl) rfl #[.pointer (some ⟨g227, 0, none⟩), .int .i64 ((rd_T34 l1 x7_1).f0), .int .i64 ((rd_T34 l1 x7_1).f1), .int .i64 ((rd_T34 l1 x7_1).f2), .int .i64 ((rd_T34 l1 x7_1).f3)] (by rfl) rfl rfl (by (try simp only [List.map_toArray, List.map_cons, List.map_nil]); first | done | rfl | (simp only [List.length_drop, List.length_take]; rfl)) ?_
           with_reducible refine (aimd_Aimd_Update.calls kj8 g227 t231 t232 t233 t234 t235 t236 t237 t238 t239 ((rd_T34 l1 x7_1).f0) ((rd_T34 l1 x7_1).f1) ((rd_T34 l1 x7_1).f2) ((rd_T34 l1 x7_1).f3) t244 t245 t246 t247 t248 t249 t250 t251 t252 t253 w _ ?side1 ?side2 A15.out).mono ?_
           (case side1 => repeat (first | (with_reducible first | exact HI227.out | apply IsS63.alloc | apply IsS63.drewN | apply IsS63.drew | apply IsS63.set_0 | apply IsS63.set_1 | apply IsS63.set_2 | apply IsS63.set_3 | apply IsS63.set_4 | apply IsS63.set_5 | apply IsS63.set_6 | apply IsS63.set_7 | apply IsS63.set_8 | refine IsS63.far ?_ NB227_217.out _) | exact HI227.out))
           (case side2 => repeat (first | (with_reducible first | exact HB.out | apply below_alloc | apply pw_below_drewN | apply below_drew1 | refine below_set ?_ (IsS63.ge HI227.out) | refine below_set ?_ GE217.out) | exact HB.out))
           rintro e w19 ⟨rfl, hi, hb, hk⟩
           refine ⟨_, rfl, ?_⟩
           have n0_ := Aside0.mk (KeepBut.blk hk (g' := gb217) (o := .cells #[.int .i64 a0_0, .int .i64 a0_1, .int .i64 a0_2] 23 (0, 0)) (by (with_reducible repeat (first | refine blk_drewN ?_ _ | refine blk_drew ?_ | refine blk_alloc ?_ _)); exact BK217.out) NB217_227.out (by simp))
           have n1_ := Aside0.mk (hb)
           have n2_ := Aside0.mk (hi)
           clear BK217
           clear HB
           clear HI227
           have BK217 := n0_
           have HB := n1_
           have HI227 := n2_
           clear n0_ n1_ n2_
           (try clear hb)
           (try clear hb2)
           (try clear hk)
           (try clear hi)
           refine hK.out _ _ ⟨((HB.out.cell (World.block_lt_of_cell? w _ hw240_0)).trans hw240_0), ((HB.out.cell (World.block_lt_of_cell? w _ hw240_1)).trans hw240_1), ((HB.out.cell (World.block_lt_of_cell? w _ hw240_2)).trans hw240_2), ((HB.out.cell (World.block_lt_of_cell? w _ hw240_3)).trans hw240_3), ((HB.out.cell (World.block_lt_of_cell? w _ hw241_0)).trans hw241_0), ((HB.out.cell (World.block_lt_of_cell? w _ hw241_1)).trans hw241_1), ((HB.out.cell (World.block_lt_of_cell? w _ hw241_2)).trans hw241_2), ((HB.out.cell (World.block_lt_of_cell? w _ hw241_3)).trans hw241_3), ((HB.out.cell (World.block_lt_of_cell? w _ hw242_0)).trans hw242_0), ((HB.out.cell (World.block_lt_of_cell? w _ hw242_1)).trans hw242_1), ((HB.out.cell (World.block_lt_of_cell? w _ hw242_2)).trans hw242_2), ((HB.out.cell (World.block_lt_of_cell? w _ hw242_3)).trans hw242_3), ((HB.out.cell (World.block_lt_of_cell? w _ hw243_0)).trans hw243_0), ((HB.out.cell (World.block_lt_of_cell? w _ hw243_1)).trans hw243_1), ((HB.out.cell (World.block_lt_of_cell? w _ hw243_2)).trans hw243_2), ((HB.out.cell (World.block_lt_of_cell? w _ hw243_3)).trans hw243_3)⟩ (fun hHeld => ?_)
           clear hK K
           refine norm_ (a' := ?_) ?_ ?_
           rotate_left
           ·show Act.put _ (some 70) _ = _
            simp only [puts_]
            rfl
           refine pure_ (i := 22) (N := some 9) (v := ?_) (a' := ?_) (bl 23 8388607) rfl rfl (any_of HT_.out (by kernel_rfl)) (fun _ _ _ h => h) (Or.inl ⟨by rfl, ?_⟩) ?_ ?_
           rotate_left
           ·intro w'
            go_simp
            with_reducible rfl
           rotate_left
           ·simp only [puts_]
            rfl
           refine done_ (done_of HT_.out (by kernel_rfl)) ?_
           have hnb20 := NB217_227.out
           have hnc20 := NB227_217.out
           have hcz21_0 : w19.cell? ⟨gb217, 0, none⟩ = some (.int .i64 a0_0) := (blk_cell BK217.out 0).trans rfl
           have hcz21_1 : w19.cell? ⟨gb217, 1, none⟩ = some (.int .i64 a0_1) := (blk_cell BK217.out 1).trans rfl
           have hcz21_2 : w19.cell? ⟨gb217, 2, none⟩ = some (.int .i64 a0_2) := (blk_cell BK217.out 2).trans rfl
           have hfz21_0 := blk_frozen BK217.out 0
           have hfz21_1 := blk_frozen BK217.out 1
           have hfz21_2 := blk_frozen BK217.out 2
           try go_wp2
           go_ret
           exact ⟨by first | rfl | (simp [errW_none, errW_some] <;> rfl) | (simp [*, errW_none, errW_some] <;> rfl), by repeat (first | (with_reducible first | exact HB.out | apply below_alloc | apply pw_below_drewN | apply below_drew1 | refine below_set ?_ (IsS63.ge HI227.out) | refine below_set ?_ GE217.out) | exact HB.out)⟩
          ·rw [if_neg c16] at H
           have c16b0 : decide (t244 < a0_1) = false := decide_eq_false c16
           clear c16
           by_cases c22 : t244 > a0_2
           ·rw [if_pos c22] at H
            have c22b0 : decide (a0_2 < t244) = true := decide_eq_true c22
            clear c22
            obtain rfl := Option.some.inj H
            try go_wp2_with (first | ((with_reducible refine gate_callee (f := 17) rfl ?_); refine goesL_ (some 48) rfl rfl Try.func17 (by kernel_rfl) rfl #[.pointer (some ⟨g227, 0, none⟩)] rfl (by (try simp only [List.map_toArray, List.map_cons, List.map_nil]); first | done | rfl | (simp only [List.length_drop, List.length_take]; rfl)) ?_; (with_reducible refine (aimd_Aimd_Rate.calls g227 x228000_1 x228001_1 x228002_1 x228003_1 x228004_1 x228005_1 x228006_1 x228007_1 x228008_1 t230 t231 t232 t233 t234 t235 t236 t237 t238 t239 w _ ?side1 ?side2 A12.out).mono ?_); (case side1 => repeat (first | (with_reducible first | exact HI227.out | apply IsS63.alloc | apply IsS63.drewN | apply IsS63.drew | apply IsS63.set_0 | apply IsS63.set_1 | apply IsS63.set_2 | apply IsS63.set_3 | apply IsS63.set_4 | apply IsS63.set_5 | apply IsS63.set_6 | apply IsS63.set_7 | apply IsS63.set_8 | refine IsS63.far ?_ NB227_217.out _) | exact HI227.out)); (case side2 => repeat (first | (with_reducible first | exact HB.out | apply below_alloc | apply pw_below_drewN | apply below_drew1 | refine below_set ?_ (IsS63.ge HI227.out) | refine below_set ?_ GE217.out) | exact HB.out)); rintro e w23 ⟨rfl, hi, hb, hk⟩; refine ⟨_, rfl, ?_⟩; have n0_ := Aside0.mk (KeepBut.blk hk (g' := gb217) (o := .cells #[.int .i64 a0_0, .int .i64 a0_1, .int .i64 a0_2] 23 (0, 0)) (by (with_reducible repeat (first | refine blk_drewN ?_ _ | refine blk_drew ?_ | refine blk_alloc ?_ _)); exact BK217.out) NB217_227.out (by simp)); have n1_ := Aside0.mk (hb); have n2_ := Aside0.mk (hi); clear BK217; clear HB; clear HI227; have BK217 := n0_; have HB := n1_; have HI227 := n2_; clear n0_ n1_ n2_; (try clear hb); (try clear hb2); (try clear hk); (try clear hi)))
            have n0_ := Aside0.mk (blk_drew BK217.out)
            have n1_ := Aside0.mk (IsS63.drew HI227.out)
            have n2_ := Aside0.mk (below_drew1 HB.out)
            clear BK217
            clear HI227
            clear HB
            have BK217 := n0_
            have HI227 := n1_
            have HB := n2_
            clear n0_ n1_ n2_
            have p240 : 0 ≤ (x7_1 : Int) := of_decide_eq_true (by first | (with_reducible assumption) | assumption)
            have q240 : x7_1 < (l1.length : Int) := of_decide_eq_true (by first | (with_reducible assumption) | assumption)
            obtain ⟨ad240, e240, hx240_0, hx240_1, hx240_2, hx240_3⟩ := at_T34 HR1.out x7_1 p240 q240
            have hw240_3 := hx240_3
            have hw240_2 := hx240_2
            have hw240_1 := hx240_1
            have hw240_0 := hx240_0
            cases e240
            replace hx240_0 := (HB.out.cell (World.block_lt_of_cell? w _ hx240_0)).trans hx240_0
            replace hx240_1 := (HB.out.cell (World.block_lt_of_cell? w _ hx240_1)).trans hx240_1
            replace hx240_2 := (HB.out.cell (World.block_lt_of_cell? w _ hx240_2)).trans hx240_2
            replace hx240_3 := (HB.out.cell (World.block_lt_of_cell? w _ hx240_3)).trans hx240_3
            replace p240 := eq_true p240
            replace q240 := eq_true q240
            have p241 : 0 ≤ (x7_1 : Int) := of_decide_eq_true (by first | (with_reducible assumption) | assumption)
            have q241 : x7_1 < (l1.length : Int) := of_decide_eq_true (by first | (with_reducible assumption) | assumption)
            obtain ⟨ad241, e241, hx241_0, hx241_1, hx241_2, hx241_3⟩ := at_T34 HR1.out x7_1 p241 q241
            have hw241_3 := hx241_3
            have hw241_2 := hx241_2
            have hw241_1 := hx241_1
            have hw241_0 := hx241_0
            obtain rfl : ad240 = ad241 := (by injection e241)
            replace hx241_0 := (HB.out.cell (World.block_lt_of_cell? w _ hx241_0)).trans hx241_0
            replace hx241_1 := (HB.out.cell (World.block_lt_of_cell? w _ hx241_1)).trans hx241_1
            replace hx241_2 := (HB.out.cell (World.block_lt_of_cell? w _ hx241_2)).trans hx241_2
            replace hx241_3 := (HB.out.cell (World.block_lt_of_cell? w _ hx241_3)).trans hx241_3
            replace p241 := eq_true p241
            replace q241 := eq_true q241
            have p242 : 0 ≤ (x7_1 : Int) := of_decide_eq_true (by first | (with_reducible assumption) | assumption)
            have q242 : x7_1 < (l1.length : Int) := of_decide_eq_true (by first | (with_reducible assumption) | assumption)
            obtain ⟨ad242, e242, hx242_0, hx242_1, hx242_2, hx242_3⟩ := at_T34 HR1.out x7_1 p242 q242
            have hw242_3 := hx242_3
            have hw242_2 := hx242_2
            have hw242_1 := hx242_1
            have hw242_0 := hx242_0
            obtain rfl : ad240 = ad242 := (by injection e242)
            replace hx242_0 := (HB.out.cell (World.block_lt_of_cell? w _ hx242_0)).trans hx242_0
            replace hx242_1 := (HB.out.cell (World.block_lt_of_cell? w _ hx242_1)).trans hx242_1
            replace hx242_2 := (HB.out.cell (World.block_lt_of_cell? w _ hx242_2)).trans hx242_2
            replace hx242_3 := (HB.out.cell (World.block_lt_of_cell? w _ hx242_3)).trans hx242_3
            replace p242 := eq_true p242
            replace q242 := eq_true q242
            have p243 : 0 ≤ (x7_1 : Int) := of_decide_eq_true (by first | (with_reducible assumption) | assumption)
            have q243 : x7_1 < (l1.length : Int) := of_decide_eq_true (by first | (with_reducible assumption) | assumption)
            obtain ⟨ad243, e243, hx243_0, hx243_1, hx243_2, hx243_3⟩ := at_T34 HR1.out x7_1 p243 q243
            have hw243_3 := hx243_3
            have hw243_2 := hx243_2
            have hw243_1 := hx243_1
            have hw243_0 := hx243_0
            obtain rfl : ad240 = ad243 := (by injection e243)
            replace hx243_0 := (HB.out.cell (World.block_lt_of_cell? w _ hx243_0)).trans hx243_0
            replace hx243_1 := (HB.out.cell (World.block_lt_of_cell? w _ hx243_1)).trans hx243_1
            replace hx243_2 := (HB.out.cell (World.block_lt_of_cell? w _ hx243_2)).trans hx243_2
            replace hx243_3 := (HB.out.cell (World.block_lt_of_cell? w _ hx243_3)).trans hx243_3
            replace p243 := eq_true p243
            replace q243 := eq_true q243
            refine start_ (n := 23) (S := fun w' => w'.cell? (ad240.add ((x7_1).toNat * 4)) = some (.int .i64 ((rd_T34 l1 x7_1).f0)) ∧ w'.cell? ⟨(ad240.add ((x7_1).toNat * 4)).block, (ad240.add ((x7_1).toNat * 4)).off + 1, none⟩ = some (.int .i64 ((rd_T34 l1 x7_1).f1)) ∧ w'.cell? ⟨(ad240.add ((x7_1).toNat * 4)).block, (ad240.add ((x7_1).toNat * 4)).off + 2, none⟩ = some (.int .i64 ((rd_T34 l1 x7_1).f2)) ∧ w'.cell? ⟨(ad240.add ((x7_1).toNat * 4)).block, (ad240.add ((x7_1).toNat * 4)).off + 3, none⟩ = some (.int .i64 ((rd_T34 l1 x7_1).f3)) ∧ w'.cell? (ad240.add ((x7_1).toNat * 4)) = some (.int .i64 ((rd_T34 l1 x7_1).f0)) ∧ w'.cell? ⟨(ad240.add ((x7_1).toNat * 4)).block, (ad240.add ((x7_1).toNat * 4)).off + 1, none⟩ = some (.int .i64 ((rd_T34 l1 x7_1).f1)) ∧ w'.cell? ⟨(ad240.add ((x7_1).toNat * 4)).block, (ad240.add ((x7_1).toNat * 4)).off + 2, none⟩ = some (.int .i64 ((rd_T34 l1 x7_1).f2)) ∧ w'.cell? ⟨(ad240.add ((x7_1).toNat * 4)).block, (ad240.add ((x7_1).toNat * 4)).off + 3, none⟩ = some (.int .i64 ((rd_T34 l1 x7_1).f3)) ∧ w'.cell? (ad240.add ((x7_1).toNat * 4)) = some (.int .i64 ((rd_T34 l1 x7_1).f0)) ∧ w'.cell? ⟨(ad240.add ((x7_1).toNat * 4)).block, (ad240.add ((x7_1).toNat * 4)).off + 1, none⟩ = some (.int .i64 ((rd_T34 l1 x7_1).f1)) ∧ w'.cell? ⟨(ad240.add ((x7_1).toNat * 4)).block, (ad240.add ((x7_1).toNat * 4)).off + 2, none⟩ = some (.int .i64 ((rd_T34 l1 x7_1).f2)) ∧ w'.cell? ⟨(ad240.add ((x7_1).toNat * 4)).block, (ad240.add ((x7_1).toNat * 4)).off + 3, none⟩ = some (.int .i64 ((rd_T34 l1 x7_1).f3)) ∧ w'.cell? (ad240.add ((x7_1).toNat * 4)) = some (.int .i64 ((rd_T34 l1 x7_1).f0)) ∧ w'.cell? ⟨(ad240.add ((x7_1).toNat * 4)).block, (ad240.add ((x7_1).toNat * 4)).off + 1, none⟩ = some (.int .i64 ((rd_T34 l1 x7_1).f1)) ∧ w'.cell? ⟨(ad240.add ((x7_1).toNat * 4)).block, (ad240.add ((x7_1).toNat * 4)).off + 2, none⟩ = some (.int .i64 ((rd_T34 l1 x7_1).f2)) ∧ w'.cell? ⟨(ad240.add ((x7_1).toNat * 4)).block, (ad240.add ((x7_1).toNat * 4)).off + 3, none⟩ = some (.int .i64 ((rd_T34 l1 x7_1).f3))) (ds := []) #[false, false, false, false, false, false, false, false, false, false, false, false, false, false, false, false, false, false, false, false, false, false, false] (by kernel_rfl) rfl rfl ⟨((HB.out.cell (World.block_lt_of_cell? w _ hw240_0)).trans hw240_0), ((HB.out.cell (World.block_lt_of_cell? w _ hw240_1)).trans hw240_1), ((HB.out.cell (World.block_lt_of_cell? w _ hw240_2)).trans hw240_2), ((HB.out.cell (World.block_lt_of_cell? w _ hw240_3)).trans hw240_3), ((HB.out.cell (World.block_lt_of_cell? w _ hw241_0)).trans hw241_0), ((HB.out.cell (World.block_lt_of_cell? w _ hw241_1)).trans hw241_1), ((HB.out.cell (World.block_lt_of_cell? w _ hw241_2)).trans hw241_2), ((HB.out.cell (World.block_lt_of_cell? w _ hw241_3)).trans hw241_3), ((HB.out.cell (World.block_lt_of_cell? w _ hw242_0)).trans hw242_0), ((HB.out.cell (World.block_lt_of_cell? w _ hw242_1)).trans hw242_1), ((HB.out.cell (World.block_lt_of_cell? w _ hw242_2)).trans hw242_2), ((HB.out.cell (World.block_lt_of_cell? w _ hw242_3)).trans hw242_3), ((HB.out.cell (World.block_lt_of_cell? w _ hw243_0)).trans hw243_0), ((HB.out.cell (World.block_lt_of_cell? w _ hw243_1)).trans hw243_1), ((HB.out.cell (World.block_lt_of_cell? w _ hw243_2)).trans hw243_2), ((HB.out.cell (World.block_lt_of_cell? w _ hw243_3)).trans hw243_3)⟩ (fun hHeld => ?_); refine with_tabW flywheellaw19_AimdBounds.tab8 flywheellaw19_AimdBounds.bits8 (fun HT_ HW_ => ?_)
            generalize w23.drew = w24 at BK217 HI227 HB hx240_0 hx240_1 hx240_2 hx240_3 hx241_0 hx241_1 hx241_2 hx241_3 hx242_0 hx242_1 hx242_2 hx242_3 hx243_0 hx243_1 hx243_2 hx243_3 hHeld ⊢
            refine pure_ (i := 0) (N := some 49) (v := ?_) (a' := ?_) (bl 23 1) rfl rfl (any_of HT_.out (by kernel_rfl)) (fun _ _ _ h => h) (Or.inl ⟨by rfl, ?_⟩) ?_ ?_
            rotate_left
            ·intro w'
             go_simp
             with_reducible rfl
            rotate_left
            ·simp only [puts_]
             rfl
            refine pure_ (i := 1) (N := some 50) (v := ?_) (a' := ?_) (bl 23 3) rfl rfl (any_of HT_.out (by kernel_rfl)) (fun _ _ _ h => h) (Or.inl ⟨by rfl, ?_⟩) ?_ ?_
            rotate_left
            ·intro w'
             go_simp
             with_reducible rfl
            rotate_left
            ·simp only [puts_]
             rfl
            refine pure_ (i := 2) (N := some 51) (v := ?_) (a' := ?_) (bl 23 7) rfl rfl (any_of HT_.out (by kernel_rfl)) (fun _ _ _ h => h) (Or.inl ⟨by rfl, ?_⟩) ?_ ?_
            rotate_left
            ·intro w'
             go_simp
             with_reducible rfl
            rotate_left
            ·simp only [puts_]
             rfl
            refine pure_ (i := 3) (N := some 52) (v := ?_) (a' := ?_) (bl 23 15) rfl rfl (any_of HT_.out (by kernel_rfl)) (fun _ _ _ h => h) (Or.inl ⟨by rfl, ?_⟩) ?_ ?_
            rotate_left
            ·intro w'
             go_simp
             with_reducible rfl
            rotate_left
            ·simp only [puts_]
             rfl
            refine pure_ (i := 4) (N := some 53) (v := ?_) (a' := ?_) (bl 23 31) rfl rfl (any_of HT_.out (by kernel_rfl)) (fun _ _ _ h => h) (Or.inl ⟨by rfl, ?_⟩) ?_ ?_
            rotate_left
            ·intro w'
             go_simp
             with_reducible rfl
            rotate_left
            ·simp only [puts_]
             rfl
            refine pure_ (i := 6) (N := some 55) (v := ?_) (a' := ?_) (bl 23 95) rfl rfl (any_of HT_.out (by kernel_rfl)) (fun _ _ _ h => h) (Or.inl ⟨by rfl, ?_⟩) ?_ ?_
            rotate_left
            ·intro w'
             go_simp
             with_reducible rfl
            rotate_left
            ·simp only [puts_]
             rfl
            refine pure_ (i := 7) (N := some 56) (v := ?_) (a' := ?_) (bl 23 223) rfl rfl (any_of HT_.out (by kernel_rfl)) (fun _ _ _ h => h) (Or.inl ⟨by rfl, ?_⟩) ?_ ?_
            rotate_left
            ·intro w'
             go_simp
             with_reducible rfl
            rotate_left
            ·simp only [puts_]
             rfl
            refine pure_ (i := 8) (N := some 57) (v := ?_) (a' := ?_) (bl 23 479) rfl rfl (any_of HT_.out (by kernel_rfl)) (fun _ _ _ h => h) (Or.inl ⟨by rfl, ?_⟩) ?_ ?_
            rotate_left
            ·intro w'
             go_simp
             with_reducible rfl
            rotate_left
            ·simp only [puts_]
             rfl
            refine pure_ (i := 9) (N := some 58) (v := ?_) (a' := ?_) (bl 23 991) rfl rfl (any_of HT_.out (by kernel_rfl)) (fun _ _ _ h => h) (Or.inl ⟨by rfl, ?_⟩) ?_ ?_
            rotate_left
            ·intro w'
             go_simp
             with_reducible rfl
            rotate_left
            ·simp only [puts_]
             rfl
            refine pure_ (i := 11) (N := some 60) (v := ?_) (a' := ?_) (bl 23 3039) rfl rfl (any_of HT_.out (by kernel_rfl)) (fun _ _ _ h => h) (Or.inl ⟨by rfl, ?_⟩) ?_ ?_
            rotate_left
            ·intro w'
             go_simp
             with_reducible rfl
            rotate_left
            ·simp only [puts_]
             rfl
            refine pure_ (i := 12) (N := some 61) (v := ?_) (a' := ?_) (bl 23 7135) rfl rfl (any_of HT_.out (by kernel_rfl)) (fun _ _ _ h => h) (Or.inl ⟨by rfl, ?_⟩) ?_ ?_
            rotate_left
            ·intro w'
             go_simp
             with_reducible rfl
            rotate_left
            ·simp only [puts_]
             rfl
            refine pure_ (i := 13) (N := some 62) (v := ?_) (a' := ?_) (bl 23 15327) rfl rfl (any_of HT_.out (by kernel_rfl)) (fun _ _ _ h => h) (Or.inl ⟨by rfl, ?_⟩) ?_ ?_
            rotate_left
            ·intro w'
             go_simp
             with_reducible rfl
            rotate_left
            ·simp only [puts_]
             rfl
            refine pure_ (i := 14) (N := some 63) (v := ?_) (a' := ?_) (bl 23 31711) rfl rfl (any_of HT_.out (by kernel_rfl)) (fun _ _ _ h => h) (Or.inl ⟨by rfl, ?_⟩) ?_ ?_
            rotate_left
            ·intro w'
             go_simp
             with_reducible rfl
            rotate_left
            ·simp only [puts_]
             rfl
            refine pure_ (i := 16) (N := some 65) (v := ?_) (a' := ?_) (bl 23 97247) rfl rfl (any_of HT_.out (by kernel_rfl)) (fun _ _ _ h => h) (Or.inl ⟨by rfl, ?_⟩) ?_ ?_
            rotate_left
            ·intro w'
             go_simp
             with_reducible rfl
            rotate_left
            ·simp only [puts_]
             rfl
            refine pure_ (i := 17) (N := some 66) (v := ?_) (a' := ?_) (bl 23 228319) rfl rfl (any_of HT_.out (by kernel_rfl)) (fun _ _ _ h => h) (Or.inl ⟨by rfl, ?_⟩) ?_ ?_
            rotate_left
            ·intro w'
             go_simp
             with_reducible rfl
            rotate_left
            ·simp only [puts_]
             rfl
            refine pure_ (i := 18) (N := some 67) (v := ?_) (a' := ?_) (bl 23 490463) rfl rfl (any_of HT_.out (by kernel_rfl)) (fun _ _ _ h => h) (Or.inl ⟨by rfl, ?_⟩) ?_ ?_
            rotate_left
            ·intro w'
             go_simp
             with_reducible rfl
            rotate_left
            ·simp only [puts_]
             rfl
            refine pure_ (i := 19) (N := some 68) (v := ?_) (a' := ?_) (bl 23 1014751) rfl rfl (any_of HT_.out (by kernel_rfl)) (fun _ _ _ h => h) (Or.inl ⟨by rfl, ?_⟩) ?_ ?_
            rotate_left
            ·intro w'
             go_simp
             with_reducible rfl
            rotate_left
            ·simp only [puts_]
             rfl
            refine take_ (i := 5) (N := some 54) (v := ?_) (a' := ?_) (bl 23 1014783) rfl rfl (take_ofW HT_.out HW_.out (by kernel_rfl)) (fun _ _ _ h => h) (Or.inl ⟨by rfl, ?_⟩) hHeld ?_ ?_
            rotate_left
            ·rintro w' ⟨s0, s1, s2, s3, s4, s5, s6, s7, s8, s9, s10, s11, s12, s13, s14, s15⟩
             go_simp
             with_reducible rfl
            rotate_left
            ·simp only [puts_]
             rfl
            refine take_ (i := 10) (N := some 59) (v := ?_) (a' := ?_) (bl 23 1015807) rfl rfl (take_ofW HT_.out HW_.out (by kernel_rfl)) (fun _ _ _ h => h) (Or.inl ⟨by rfl, ?_⟩) hHeld ?_ ?_
            rotate_left
            ·rintro w' ⟨s0, s1, s2, s3, s4, s5, s6, s7, s8, s9, s10, s11, s12, s13, s14, s15⟩
             go_simp
             with_reducible rfl
            rotate_left
            ·simp only [puts_]
             rfl
            refine take_ (i := 15) (N := some 64) (v := ?_) (a' := ?_) (bl 23 1048575) rfl rfl (take_ofW HT_.out HW_.out (by kernel_rfl)) (fun _ _ _ h => h) (Or.inl ⟨by rfl, ?_⟩) hHeld ?_ ?_
            rotate_left
            ·rintro w' ⟨s0, s1, s2, s3, s4, s5, s6, s7, s8, s9, s10, s11, s12, s13, s14, s15⟩
             go_simp
             with_reducible rfl
            rotate_left
            ·simp only [puts_]
             rfl
            refine take_ (i := 20) (N := some 69) (v := ?_) (a' := ?_) (bl 23 2097151) rfl rfl (take_ofW HT_.out HW_.out (by kernel_rfl)) (fun _ _ _ h => h) (Or.inl ⟨by rfl, ?_⟩) hHeld ?_ ?_
            rotate_left
            ·rintro w' ⟨s0, s1, s2, s3, s4, s5, s6, s7, s8, s9, s10, s11, s12, s13, s14, s15⟩
             go_simp
             with_reducible rfl
            rotate_left
            ·simp only [puts_]
             rfl
            refine one_ (i := 21) (N := some 70) (bl 23 4194303) rfl rfl (one_of HT_.out (by kernel_rfl)) (by decide) (fun K hK => ?_)
            refine goes_ Try.func18 (by kernel_rfl) rfl #[.pointer (some ⟨g227, 0, none⟩), .int .i64 ((rd_T34 l1 x7_1).f0), .int .i64 ((rd_T34 l1 x7_1).f1), .int .i64 ((rd_T34 l1 x7_1).f2), .int .i64 ((rd_T34 l1 x7_1).f3)] (by rfl) rfl rfl (by (try simp only [List.map_toArray, List.map_cons, List.map_nil]); first | done | rfl | (simp only [List.length_drop, List.length_take]; rfl)) ?_
            with_reducible refine (aimd_Aimd_Update.calls kj8 g227 t231 t232 t233 t234 t235 t236 t237 t238 t239 ((rd_T34 l1 x7_1).f0) ((rd_T34 l1 x7_1).f1) ((rd_T34 l1 x7_1).f2) ((rd_T34 l1 x7_1).f3) t244 t245 t246 t247 t248 t249 t250 t251 t252 t253 w _ ?side1 ?side2 A15.out).mono ?_
            (case side1 => repeat (first | (with_reducible first | exact HI227.out | apply IsS63.alloc | apply IsS63.drewN | apply IsS63.drew | apply IsS63.set_0 | apply IsS63.set_1 | apply IsS63.set_2 | apply IsS63.set_3 | apply IsS63.set_4 | apply IsS63.set_5 | apply IsS63.set_6 | apply IsS63.set_7 | apply IsS63.set_8 | refine IsS63.far ?_ NB227_217.out _) | exact HI227.out))
            (case side2 => repeat (first | (with_reducible first | exact HB.out | apply below_alloc | apply pw_below_drewN | apply below_drew1 | refine below_set ?_ (IsS63.ge HI227.out) | refine below_set ?_ GE217.out) | exact HB.out))
            rintro e w25 ⟨rfl, hi, hb, hk⟩
            refine ⟨_, rfl, ?_⟩
            have n0_ := Aside0.mk (KeepBut.blk hk (g' := gb217) (o := .cells #[.int .i64 a0_0, .int .i64 a0_1, .int .i64 a0_2] 23 (0, 0)) (by (with_reducible repeat (first | refine blk_drewN ?_ _ | refine blk_drew ?_ | refine blk_alloc ?_ _)); exact BK217.out) NB217_227.out (by simp))
            have n1_ := Aside0.mk (hb)
            have n2_ := Aside0.mk (hi)
            clear BK217
            clear HB
            clear HI227
            have BK217 := n0_
            have HB := n1_
            have HI227 := n2_
            clear n0_ n1_ n2_
            (try clear hb)
            (try clear hb2)
            (try clear hk)
            (try clear hi)
            refine hK.out _ _ ⟨((HB.out.cell (World.block_lt_of_cell? w _ hw240_0)).trans hw240_0), ((HB.out.cell (World.block_lt_of_cell? w _ hw240_1)).trans hw240_1), ((HB.out.cell (World.block_lt_of_cell? w _ hw240_2)).trans hw240_2), ((HB.out.cell (World.block_lt_of_cell? w _ hw240_3)).trans hw240_3), ((HB.out.cell (World.block_lt_of_cell? w _ hw241_0)).trans hw241_0), ((HB.out.cell (World.block_lt_of_cell? w _ hw241_1)).trans hw241_1), ((HB.out.cell (World.block_lt_of_cell? w _ hw241_2)).trans hw241_2), ((HB.out.cell (World.block_lt_of_cell? w _ hw241_3)).trans hw241_3), ((HB.out.cell (World.block_lt_of_cell? w _ hw242_0)).trans hw242_0), ((HB.out.cell (World.block_lt_of_cell? w _ hw242_1)).trans hw242_1), ((HB.out.cell (World.block_lt_of_cell? w _ hw242_2)).trans hw242_2), ((HB.out.cell (World.block_lt_of_cell? w _ hw242_3)).trans hw242_3), ((HB.out.cell (World.block_lt_of_cell? w _ hw243_0)).trans hw243_0), ((HB.out.cell (World.block_lt_of_cell? w _ hw243_1)).trans hw243_1), ((HB.out.cell (World.block_lt_of_cell? w _ hw243_2)).trans hw243_2), ((HB.out.cell (World.block_lt_of_cell? w _ hw243_3)).trans hw243_3)⟩ (fun hHeld => ?_)
            clear hK K
            refine norm_ (a' := ?_) ?_ ?_
            rotate_left
            ·show Act.put _ (some 70) _ = _
             simp only [puts_]
             rfl
            refine pure_ (i := 22) (N := some 9) (v := ?_) (a' := ?_) (bl 23 8388607) rfl rfl (any_of HT_.out (by kernel_rfl)) (fun _ _ _ h => h) (Or.inl ⟨by rfl, ?_⟩) ?_ ?_
            rotate_left
            ·intro w'
             go_simp
             with_reducible rfl
            rotate_left
            ·simp only [puts_]
             rfl
            refine done_ (done_of HT_.out (by kernel_rfl)) ?_
            have hnb26 := NB217_227.out
            have hnc26 := NB227_217.out
            have hcz27_0 : w25.cell? ⟨gb217, 0, none⟩ = some (.int .i64 a0_0) := (blk_cell BK217.out 0).trans rfl
            have hcz27_1 : w25.cell? ⟨gb217, 1, none⟩ = some (.int .i64 a0_1) := (blk_cell BK217.out 1).trans rfl
            have hcz27_2 : w25.cell? ⟨gb217, 2, none⟩ = some (.int .i64 a0_2) := (blk_cell BK217.out 2).trans rfl
            have hfz27_0 := blk_frozen BK217.out 0
            have hfz27_1 := blk_frozen BK217.out 1
            have hfz27_2 := blk_frozen BK217.out 2
            try go_wp2
            go_ret
            exact ⟨by first | rfl | (simp [errW_none, errW_some] <;> rfl) | (simp [*, errW_none, errW_some] <;> rfl), by repeat (first | (with_reducible first | exact HB.out | apply below_alloc | apply pw_below_drewN | apply below_drew1 | refine below_set ?_ (IsS63.ge HI227.out) | refine below_set ?_ GE217.out) | exact HB.out)⟩
           ·rw [if_neg c22] at H
            have c22b0 : decide (a0_2 < t244) = false := decide_eq_false c22
            clear c22
            replace H := Option.bind_eq_some_iff.mp H
            obtain ⟨⟨t254, t255, t256, t257, t258, t259, t260, t261, t262, t263⟩, A280, H⟩ := H
            replace H : (if t244 = t254 then (if ((rd_T34 l1 x7_1).f0) = 1 then (if t244 > t230 then (some false) else (flywheellaw19_AimdBounds.l0 kj8 l1 (wrap64 (x7_1 + 1)) a0_0 a0_1 a0_2 t255 t256 t257 t258 t259 t260 t261 t262 t263)) else (if t244 < t230 then (some false) else (flywheellaw19_AimdBounds.l0 kj8 l1 (wrap64 (x7_1 + 1)) a0_0 a0_1 a0_2 t255 t256 t257 t258 t259 t260 t261 t262 t263))) else (some false)) = some r := H
            have A28 := Aside0.mk A280
            clear A280
            by_cases c29 : t244 = t254
            ·rw [if_pos c29] at H
             have c29b0 : (t244 == t254) = true := beq_iff_eq.mpr c29
             have c29b1 : (t244 != t254) = false := bne_eq_false_iff_eq.mpr c29
             clear c29
             by_cases c30 : ((rd_T34 l1 x7_1).f0) = 1
             ·rw [if_pos c30] at H
              have c30b0 : (((rd_T34 l1 x7_1).f0) == 1) = true := beq_iff_eq.mpr c30
              have c30b1 : (((rd_T34 l1 x7_1).f0) != 1) = false := bne_eq_false_iff_eq.mpr c30
              clear c30
              by_cases c31 : t244 > t230
              ·rw [if_pos c31] at H
               have c31b0 : decide (t230 < t244) = true := decide_eq_true c31
               clear c31
               obtain rfl := Option.some.inj H
               try go_wp2_with (first | ((with_reducible refine gate_callee (f := 17) rfl ?_); refine goesL_ (some 48) rfl rfl Try.func17 (by kernel_rfl) rfl #[.pointer (some ⟨g227, 0, none⟩)] rfl (by (try simp only [List.map_toArray, List.map_cons, List.map_nil]); first | done | rfl | (simp only [List.length_drop, List.length_take]; rfl)) ?_; (with_reducible refine (aimd_Aimd_Rate.calls g227 x228000_1 x228001_1 x228002_1 x228003_1 x228004_1 x228005_1 x228006_1 x228007_1 x228008_1 t230 t231 t232 t233 t234 t235 t236 t237 t238 t239 w _ ?side1 ?side2 A12.out).mono ?_); (case side1 => repeat (first | (with_reducible first | exact HI227.out | apply IsS63.alloc | apply IsS63.drewN | apply IsS63.drew | apply IsS63.set_0 | apply IsS63.set_1 | apply IsS63.set_2 | apply IsS63.set_3 | apply IsS63.set_4 | apply IsS63.set_5 | apply IsS63.set_6 | apply IsS63.set_7 | apply IsS63.set_8 | refine IsS63.far ?_ NB227_217.out _) | exact HI227.out)); (case side2 => repeat (first | (with_reducible first | exact HB.out | apply below_alloc | apply pw_below_drewN | apply below_drew1 | refine below_set ?_ (IsS63.ge HI227.out) | refine below_set ?_ GE217.out) | exact HB.out)); rintro e w32 ⟨rfl, hi, hb, hk⟩; refine ⟨_, rfl, ?_⟩; have n0_ := Aside0.mk (KeepBut.blk hk (g' := gb217) (o := .cells #[.int .i64 a0_0, .int .i64 a0_1, .int .i64 a0_2] 23 (0, 0)) (by (with_reducible repeat (first | refine blk_drewN ?_ _ | refine blk_drew ?_ | refine blk_alloc ?_ _)); exact BK217.out) NB217_227.out (by simp)); have n1_ := Aside0.mk (hb); have n2_ := Aside0.mk (hi); clear BK217; clear HB; clear HI227; have BK217 := n0_; have HB := n1_; have HI227 := n2_; clear n0_ n1_ n2_; (try clear hb); (try clear hb2); (try clear hk); (try clear hi)))
               have n0_ := Aside0.mk (blk_drew BK217.out)
               have n1_ := Aside0.mk (IsS63.drew HI227.out)
               have n2_ := Aside0.mk (below_drew1 HB.out)
               clear BK217
               clear HI227
               clear HB
               have BK217 := n0_
               have HI227 := n1_
               have HB := n2_
               clear n0_ n1_ n2_
               have p240 : 0 ≤ (x7_1 : Int) := of_decide_eq_true (by first | (with_reducible assumption) | assumption)
               have q240 : x7_1 < (l1.length : Int) := of_decide_eq_true (by first | (with_reducible assumption) | assumption)
               obtain ⟨ad240, e240, hx240_0, hx240_1, hx240_2, hx240_3⟩ := at_T34 HR1.out x7_1 p240 q240
               have hw240_3 := hx240_3
               have hw240_2 := hx240_2
               have hw240_1 := hx240_1
               have hw240_0 := hx240_0
               cases e240
               replace hx240_0 := (HB.out.cell (World.block_lt_of_cell? w _ hx240_0)).trans hx240_0
               replace hx240_1 := (HB.out.cell (World.block_lt_of_cell? w _ hx240_1)).trans hx240_1
               replace hx240_2 := (HB.out.cell (World.block_lt_of_cell? w _ hx240_2)).trans hx240_2
               replace hx240_3 := (HB.out.cell (World.block_lt_of_cell? w _ hx240_3)).trans hx240_3
               replace p240 := eq_true p240
               replace q240 := eq_true q240
               have p241 : 0 ≤ (x7_1 : Int) := of_decide_eq_true (by first | (with_reducible assumption) | assumption)
               have q241 : x7_1 < (l1.length : Int) := of_decide_eq_true (by first | (with_reducible assumption) | assumption)
               obtain ⟨ad241, e241, hx241_0, hx241_1, hx241_2, hx241_3⟩ := at_T34 HR1.out x7_1 p241 q241
               have hw241_3 := hx241_3
               have hw241_2 := hx241_2
               have hw241_1 := hx241_1
               have hw241_0 := hx241_0
               obtain rfl : ad240 = ad241 := (by injection e241)
               replace hx241_0 := (HB.out.cell (World.block_lt_of_cell? w _ hx241_0)).trans hx241_0
               replace hx241_1 := (HB.out.cell (World.block_lt_of_cell? w _ hx241_1)).trans hx241_1
               replace hx241_2 := (HB.out.cell (World.block_lt_of_cell? w _ hx241_2)).trans hx241_2
               replace hx241_3 := (HB.out.cell (World.block_lt_of_cell? w _ hx241_3)).trans hx241_3
               replace p241 := eq_true p241
               replace q241 := eq_true q241
               have p242 : 0 ≤ (x7_1 : Int) := of_decide_eq_true (by first | (with_reducible assumption) | assumption)
               have q242 : x7_1 < (l1.length : Int) := of_decide_eq_true (by first | (with_reducible assumption) | assumption)
               obtain ⟨ad242, e242, hx242_0, hx242_1, hx242_2, hx242_3⟩ := at_T34 HR1.out x7_1 p242 q242
               have hw242_3 := hx242_3
               have hw242_2 := hx242_2
               have hw242_1 := hx242_1
               have hw242_0 := hx242_0
               obtain rfl : ad240 = ad242 := (by injection e242)
               replace hx242_0 := (HB.out.cell (World.block_lt_of_cell? w _ hx242_0)).trans hx242_0
               replace hx242_1 := (HB.out.cell (World.block_lt_of_cell? w _ hx242_1)).trans hx242_1
               replace hx242_2 := (HB.out.cell (World.block_lt_of_cell? w _ hx242_2)).trans hx242_2
               replace hx242_3 := (HB.out.cell (World.block_lt_of_cell? w _ hx242_3)).trans hx242_3
               replace p242 := eq_true p242
               replace q242 := eq_true q242
               have p243 : 0 ≤ (x7_1 : Int) := of_decide_eq_true (by first | (with_reducible assumption) | assumption)
               have q243 : x7_1 < (l1.length : Int) := of_decide_eq_true (by first | (with_reducible assumption) | assumption)
               obtain ⟨ad243, e243, hx243_0, hx243_1, hx243_2, hx243_3⟩ := at_T34 HR1.out x7_1 p243 q243
               have hw243_3 := hx243_3
               have hw243_2 := hx243_2
               have hw243_1 := hx243_1
               have hw243_0 := hx243_0
               obtain rfl : ad240 = ad243 := (by injection e243)
               replace hx243_0 := (HB.out.cell (World.block_lt_of_cell? w _ hx243_0)).trans hx243_0
               replace hx243_1 := (HB.out.cell (World.block_lt_of_cell? w _ hx243_1)).trans hx243_1
               replace hx243_2 := (HB.out.cell (World.block_lt_of_cell? w _ hx243_2)).trans hx243_2
               replace hx243_3 := (HB.out.cell (World.block_lt_of_cell? w _ hx243_3)).trans hx243_3
               replace p243 := eq_true p243
               replace q243 := eq_true q243
               refine start_ (n := 23) (S := fun w' => w'.cell? (ad240.add ((x7_1).toNat * 4)) = some (.int .i64 ((rd_T34 l1 x7_1).f0)) ∧ w'.cell? ⟨(ad240.add ((x7_1).toNat * 4)).block, (ad240.add ((x7_1).toNat * 4)).off + 1, none⟩ = some (.int .i64 ((rd_T34 l1 x7_1).f1)) ∧ w'.cell? ⟨(ad240.add ((x7_1).toNat * 4)).block, (ad240.add ((x7_1).toNat * 4)).off + 2, none⟩ = some (.int .i64 ((rd_T34 l1 x7_1).f2)) ∧ w'.cell? ⟨(ad240.add ((x7_1).toNat * 4)).block, (ad240.add ((x7_1).toNat * 4)).off + 3, none⟩ = some (.int .i64 ((rd_T34 l1 x7_1).f3)) ∧ w'.cell? (ad240.add ((x7_1).toNat * 4)) = some (.int .i64 ((rd_T34 l1 x7_1).f0)) ∧ w'.cell? ⟨(ad240.add ((x7_1).toNat * 4)).block, (ad240.add ((x7_1).toNat * 4)).off + 1, none⟩ = some (.int .i64 ((rd_T34 l1 x7_1).f1)) ∧ w'.cell? ⟨(ad240.add ((x7_1).toNat * 4)).block, (ad240.add ((x7_1).toNat * 4)).off + 2, none⟩ = some (.int .i64 ((rd_T34 l1 x7_1).f2)) ∧ w'.cell? ⟨(ad240.add ((x7_1).toNat * 4)).block, (ad240.add ((x7_1).toNat * 4)).off + 3, none⟩ = some (.int .i64 ((rd_T34 l1 x7_1).f3)) ∧ w'.cell? (ad240.add ((x7_1).toNat * 4)) = some (.int .i64 ((rd_T34 l1 x7_1).f0)) ∧ w'.cell? ⟨(ad240.add ((x7_1).toNat * 4)).block, (ad240.add ((x7_1).toNat * 4)).off + 1, none⟩ = some (.int .i64 ((rd_T34 l1 x7_1).f1)) ∧ w'.cell? ⟨(ad240.add ((x7_1).toNat * 4)).block, (ad240.add ((x7_1).toNat * 4)).off + 2, none⟩ = some (.int .i64 ((rd_T34 l1 x7_1).f2)) ∧ w'.cell? ⟨(ad240.add ((x7_1).toNat * 4)).block, (ad240.add ((x7_1).toNat * 4)).off + 3, none⟩ = some (.int .i64 ((rd_T34 l1 x7_1).f3)) ∧ w'.cell? (ad240.add ((x7_1).toNat * 4)) = some (.int .i64 ((rd_T34 l1 x7_1).f0)) ∧ w'.cell? ⟨(ad240.add ((x7_1).toNat * 4)).block, (ad240.add ((x7_1).toNat * 4)).off + 1, none⟩ = some (.int .i64 ((rd_T34 l1 x7_1).f1)) ∧ w'.cell? ⟨(ad240.add ((x7_1).toNat * 4)).block, (ad240.add ((x7_1).toNat * 4)).off + 2, none⟩ = some (.int .i64 ((rd_T34 l1 x7_1).f2)) ∧ w'.cell? ⟨(ad240.add ((x7_1).toNat * 4)).block, (ad240.add ((x7_1).toNat * 4)).off + 3, none⟩ = some (.int .i64 ((rd_T34 l1 x7_1).f3))) (ds := []) #[false, false, false, false, false, false, false, false, false, false, false, false, false, false, false, false, false, false, false, false, false, false, false] (by kernel_rfl) rfl rfl ⟨((HB.out.cell (World.block_lt_of_cell? w _ hw240_0)).trans hw240_0), ((HB.out.cell (World.block_lt_of_cell? w _ hw240_1)).trans hw240_1), ((HB.out.cell (World.block_lt_of_cell? w _ hw240_2)).trans hw240_2), ((HB.out.cell (World.block_lt_of_cell? w _ hw240_3)).trans hw240_3), ((HB.out.cell (World.block_lt_of_cell? w _ hw241_0)).trans hw241_0), ((HB.out.cell (World.block_lt_of_cell? w _ hw241_1)).trans hw241_1), ((HB.out.cell (World.block_lt_of_cell? w _ hw241_2)).trans hw241_2), ((HB.out.cell (World.block_lt_of_cell? w _ hw241_3)).trans hw241_3), ((HB.out.cell (World.block_lt_of_cell? w _ hw242_0)).trans hw242_0), ((HB.out.cell (World.block_lt_of_cell? w _ hw242_1)).trans hw242_1), ((HB.out.cell (World.block_lt_of_cell? w _ hw242_2)).trans hw242_2), ((HB.out.cell (World.block_lt_of_cell? w _ hw242_3)).trans hw242_3), ((HB.out.cell (World.block_lt_of_cell? w _ hw243_0)).trans hw243_0), ((HB.out.cell (World.block_lt_of_cell? w _ hw243_1)).trans hw243_1), ((HB.out.cell (World.block_lt_of_cell? w _ hw243_2)).trans hw243_2), ((HB.out.cell (World.block_lt_of_cell? w _ hw243_3)).trans hw243_3)⟩ (fun hHeld => ?_); refine with_tabW flywheellaw19_AimdBounds.tab8 flywheellaw19_AimdBounds.bits8 (fun HT_ HW_ => ?_)
               generalize w32.drew = w33 at BK217 HI227 HB hx240_0 hx240_1 hx240_2 hx240_3 hx241_0 hx241_1 hx241_2 hx241_3 hx242_0 hx242_1 hx242_2 hx242_3 hx243_0 hx243_1 hx243_2 hx243_3 hHeld ⊢
               refine pure_ (i := 0) (N := some 49) (v := ?_) (a' := ?_) (bl 23 1) rfl rfl (any_of HT_.out (by kernel_rfl)) (fun _ _ _ h => h) (Or.inl ⟨by rfl, ?_⟩) ?_ ?_
               rotate_left
               ·intro w'
                go_simp
                with_reducible rfl
               rotate_left
               ·simp only [puts_]
                rfl
               refine pure_ (i := 1) (N := some 50) (v := ?_) (a' := ?_) (bl 23 3) rfl rfl (any_of HT_.out (by kernel_rfl)) (fun _ _ _ h => h) (Or.inl ⟨by rfl, ?_⟩) ?_ ?_
               rotate_left
               ·intro w'
                go_simp
                with_reducible rfl
               rotate_left
               ·simp only [puts_]
                rfl
               refine pure_ (i := 2) (N := some 51) (v := ?_) (a' := ?_) (bl 23 7) rfl rfl (any_of HT_.out (by kernel_rfl)) (fun _ _ _ h => h) (Or.inl ⟨by rfl, ?_⟩) ?_ ?_
               rotate_left
               ·intro w'
                go_simp
                with_reducible rfl
               rotate_left
               ·simp only [puts_]
                rfl
               refine pure_ (i := 3) (N := some 52) (v := ?_) (a' := ?_) (bl 23 15) rfl rfl (any_of HT_.out (by kernel_rfl)) (fun _ _ _ h => h) (Or.inl ⟨by rfl, ?_⟩) ?_ ?_
               rotate_left
               ·intro w'
                go_simp
                with_reducible rfl
               rotate_left
               ·simp only [puts_]
                rfl
               refine pure_ (i := 4) (N := some 53) (v := ?_) (a' := ?_) (bl 23 31) rfl rfl (any_of HT_.out (by kernel_rfl)) (fun _ _ _ h => h) (Or.inl ⟨by rfl, ?_⟩) ?_ ?_
               rotate_left
               ·intro w'
                go_simp
                with_reducible rfl
               rotate_left
               ·simp only [puts_]
                rfl
               refine pure_ (i := 6) (N := some 55) (v := ?_) (a' := ?_) (bl 23 95) rfl rfl (any_of HT_.out (by kernel_rfl)) (fun _ _ _ h => h) (Or.inl ⟨by rfl, ?_⟩) ?_ ?_
               rotate_left
               ·intro w'
                go_simp
                with_reducible rfl
               rotate_left
               ·simp only [puts_]
                rfl
               refine pure_ (i := 7) (N := some 56) (v := ?_) (a' := ?_) (bl 23 223) rfl rfl (any_of HT_.out (by kernel_rfl)) (fun _ _ _ h => h) (Or.inl ⟨by rfl, ?_⟩) ?_ ?_
               rotate_left
               ·intro w'
                go_simp
                with_reducible rfl
               rotate_left
               ·simp only [puts_]
                rfl
               refine pure_ (i := 8) (N := some 57) (v := ?_) (a' := ?_) (bl 23 479) rfl rfl (any_of HT_.out (by kernel_rfl)) (fun _ _ _ h => h) (Or.inl ⟨by rfl, ?_⟩) ?_ ?_
               rotate_left
               ·intro w'
                go_simp
                with_reducible rfl
               rotate_left
               ·simp only [puts_]
                rfl
               refine pure_ (i := 9) (N := some 58) (v := ?_) (a' := ?_) (bl 23 991) rfl rfl (any_of HT_.out (by kernel_rfl)) (fun _ _ _ h => h) (Or.inl ⟨by rfl, ?_⟩) ?_ ?_
               rotate_left
               ·intro w'
                go_simp
                with_reducible rfl
               rotate_left
               ·simp only [puts_]
                rfl
               refine pure_ (i := 11) (N := some 60) (v := ?_) (a' := ?_) (bl 23 3039) rfl rfl (any_of HT_.out (by kernel_rfl)) (fun _ _ _ h => h) (Or.inl ⟨by rfl, ?_⟩) ?_ ?_
               rotate_left
               ·intro w'
                go_simp
                with_reducible rfl
               rotate_left
               ·simp only [puts_]
                rfl
               refine pure_ (i := 12) (N := some 61) (v := ?_) (a' := ?_) (bl 23 7135) rfl rfl (any_of HT_.out (by kernel_rfl)) (fun _ _ _ h => h) (Or.inl ⟨by rfl, ?_⟩) ?_ ?_
               rotate_left
               ·intro w'
                go_simp
                with_reducible rfl
               rotate_left
               ·simp only [puts_]
                rfl
               refine pure_ (i := 13) (N := some 62) (v := ?_) (a' := ?_) (bl 23 15327) rfl rfl (any_of HT_.out (by kernel_rfl)) (fun _ _ _ h => h) (Or.inl ⟨by rfl, ?_⟩) ?_ ?_
               rotate_left
               ·intro w'
                go_simp
                with_reducible rfl
               rotate_left
               ·simp only [puts_]
                rfl
               refine pure_ (i := 14) (N := some 63) (v := ?_) (a' := ?_) (bl 23 31711) rfl rfl (any_of HT_.out (by kernel_rfl)) (fun _ _ _ h => h) (Or.inl ⟨by rfl, ?_⟩) ?_ ?_
               rotate_left
               ·intro w'
                go_simp
                with_reducible rfl
               rotate_left
               ·simp only [puts_]
                rfl
               refine pure_ (i := 16) (N := some 65) (v := ?_) (a' := ?_) (bl 23 97247) rfl rfl (any_of HT_.out (by kernel_rfl)) (fun _ _ _ h => h) (Or.inl ⟨by rfl, ?_⟩) ?_ ?_
               rotate_left
               ·intro w'
                go_simp
                with_reducible rfl
               rotate_left
               ·simp only [puts_]
                rfl
               refine pure_ (i := 17) (N := some 66) (v := ?_) (a' := ?_) (bl 23 228319) rfl rfl (any_of HT_.out (by kernel_rfl)) (fun _ _ _ h => h) (Or.inl ⟨by rfl, ?_⟩) ?_ ?_
               rotate_left
               ·intro w'
                go_simp
                with_reducible rfl
               rotate_left
               ·simp only [puts_]
                rfl
               refine pure_ (i := 18) (N := some 67) (v := ?_) (a' := ?_) (bl 23 490463) rfl rfl (any_of HT_.out (by kernel_rfl)) (fun _ _ _ h => h) (Or.inl ⟨by rfl, ?_⟩) ?_ ?_
               rotate_left
               ·intro w'
                go_simp
                with_reducible rfl
               rotate_left
               ·simp only [puts_]
                rfl
               refine pure_ (i := 19) (N := some 68) (v := ?_) (a' := ?_) (bl 23 1014751) rfl rfl (any_of HT_.out (by kernel_rfl)) (fun _ _ _ h => h) (Or.inl ⟨by rfl, ?_⟩) ?_ ?_
               rotate_left
               ·intro w'
                go_simp
                with_reducible rfl
               rotate_left
               ·simp only [puts_]
                rfl
               refine take_ (i := 5) (N := some 54) (v := ?_) (a' := ?_) (bl 23 1014783) rfl rfl (take_ofW HT_.out HW_.out (by kernel_rfl)) (fun _ _ _ h => h) (Or.inl ⟨by rfl, ?_⟩) hHeld ?_ ?_
               rotate_left
               ·rintro w' ⟨s0, s1, s2, s3, s4, s5, s6, s7, s8, s9, s10, s11, s12, s13, s14, s15⟩
                go_simp
                with_reducible rfl
               rotate_left
               ·simp only [puts_]
                rfl
               refine take_ (i := 10) (N := some 59) (v := ?_) (a' := ?_) (bl 23 1015807) rfl rfl (take_ofW HT_.out HW_.out (by kernel_rfl)) (fun _ _ _ h => h) (Or.inl ⟨by rfl, ?_⟩) hHeld ?_ ?_
               rotate_left
               ·rintro w' ⟨s0, s1, s2, s3, s4, s5, s6, s7, s8, s9, s10, s11, s12, s13, s14, s15⟩
                go_simp
                with_reducible rfl
               rotate_left
               ·simp only [puts_]
                rfl
               refine take_ (i := 15) (N := some 64) (v := ?_) (a' := ?_) (bl 23 1048575) rfl rfl (take_ofW HT_.out HW_.out (by kernel_rfl)) (fun _ _ _ h => h) (Or.inl ⟨by rfl, ?_⟩) hHeld ?_ ?_
               rotate_left
               ·rintro w' ⟨s0, s1, s2, s3, s4, s5, s6, s7, s8, s9, s10, s11, s12, s13, s14, s15⟩
                go_simp
                with_reducible rfl
               rotate_left
               ·simp only [puts_]
                rfl
               refine take_ (i := 20) (N := some 69) (v := ?_) (a' := ?_) (bl 23 2097151) rfl rfl (take_ofW HT_.out HW_.out (by kernel_rfl)) (fun _ _ _ h => h) (Or.inl ⟨by rfl, ?_⟩) hHeld ?_ ?_
               rotate_left
               ·rintro w' ⟨s0, s1, s2, s3, s4, s5, s6, s7, s8, s9, s10, s11, s12, s13, s14, s15⟩
                go_simp
                with_reducible rfl
               rotate_left
               ·simp only [puts_]
                rfl
               refine one_ (i := 21) (N := some 70) (bl 23 4194303) rfl rfl (one_of HT_.out (by kernel_rfl)) (by decide) (fun K hK => ?_)
               refine goes_ Try.func18 (by kernel_rfl) rfl #[.pointer (some ⟨g227, 0, none⟩), .int .i64 ((rd_T34 l1 x7_1).f0), .int .i64 ((rd_T34 l1 x7_1).f1), .int .i64 ((rd_T34 l1 x7_1).f2), .int .i64 ((rd_T34 l1 x7_1).f3)] (by rfl) rfl rfl (by (try simp only [List.map_toArray, List.map_cons, List.map_nil]); first | done | rfl | (simp only [List.length_drop, List.length_take]; rfl)) ?_
               with_reducible refine (aimd_Aimd_Update.calls kj8 g227 t231 t232 t233 t234 t235 t236 t237 t238 t239 ((rd_T34 l1 x7_1).f0) ((rd_T34 l1 x7_1).f1) ((rd_T34 l1 x7_1).f2) ((rd_T34 l1 x7_1).f3) t244 t245 t246 t247 t248 t249 t250 t251 t252 t253 w _ ?side1 ?side2 A15.out).mono ?_
               (case side1 => repeat (first | (with_reducible first | exact HI227.out | apply IsS63.alloc | apply IsS63.drewN | apply IsS63.drew | apply IsS63.set_0 | apply IsS63.set_1 | apply IsS63.set_2 | apply IsS63.set_3 | apply IsS63.set_4 | apply IsS63.set_5 | apply IsS63.set_6 | apply IsS63.set_7 | apply IsS63.set_8 | refine IsS63.far ?_ NB227_217.out _) | exact HI227.out))
               (case side2 => repeat (first | (with_reducible first | exact HB.out | apply below_alloc | apply pw_below_drewN | apply below_drew1 | refine below_set ?_ (IsS63.ge HI227.out) | refine below_set ?_ GE217.out) | exact HB.out))
               rintro e w34 ⟨rfl, hi, hb, hk⟩
               refine ⟨_, rfl, ?_⟩
               have n0_ := Aside0.mk (KeepBut.blk hk (g' := gb217) (o := .cells #[.int .i64 a0_0, .int .i64 a0_1, .int .i64 a0_2] 23 (0, 0)) (by (with_reducible repeat (first | refine blk_drewN ?_ _ | refine blk_drew ?_ | refine blk_alloc ?_ _)); exact BK217.out) NB217_227.out (by simp))
               have n1_ := Aside0.mk (hb)
               have n2_ := Aside0.mk (hi)
               clear BK217
               clear HB
               clear HI227
               have BK217 := n0_
               have HB := n1_
               have HI227 := n2_
               clear n0_ n1_ n2_
               (try clear hb)
               (try clear hb2)
               (try clear hk)
               (try clear hi)
               refine hK.out _ _ ⟨((HB.out.cell (World.block_lt_of_cell? w _ hw240_0)).trans hw240_0), ((HB.out.cell (World.block_lt_of_cell? w _ hw240_1)).trans hw240_1), ((HB.out.cell (World.block_lt_of_cell? w _ hw240_2)).trans hw240_2), ((HB.out.cell (World.block_lt_of_cell? w _ hw240_3)).trans hw240_3), ((HB.out.cell (World.block_lt_of_cell? w _ hw241_0)).trans hw241_0), ((HB.out.cell (World.block_lt_of_cell? w _ hw241_1)).trans hw241_1), ((HB.out.cell (World.block_lt_of_cell? w _ hw241_2)).trans hw241_2), ((HB.out.cell (World.block_lt_of_cell? w _ hw241_3)).trans hw241_3), ((HB.out.cell (World.block_lt_of_cell? w _ hw242_0)).trans hw242_0), ((HB.out.cell (World.block_lt_of_cell? w _ hw242_1)).trans hw242_1), ((HB.out.cell (World.block_lt_of_cell? w _ hw242_2)).trans hw242_2), ((HB.out.cell (World.block_lt_of_cell? w _ hw242_3)).trans hw242_3), ((HB.out.cell (World.block_lt_of_cell? w _ hw243_0)).trans hw243_0), ((HB.out.cell (World.block_lt_of_cell? w _ hw243_1)).trans hw243_1), ((HB.out.cell (World.block_lt_of_cell? w _ hw243_2)).trans hw243_2), ((HB.out.cell (World.block_lt_of_cell? w _ hw243_3)).trans hw243_3)⟩ (fun hHeld => ?_)
               clear hK K
               refine norm_ (a' := ?_) ?_ ?_
               rotate_left
               ·show Act.put _ (some 70) _ = _
                simp only [puts_]
                rfl
               refine pure_ (i := 22) (N := some 9) (v := ?_) (a' := ?_) (bl 23 8388607) rfl rfl (any_of HT_.out (by kernel_rfl)) (fun _ _ _ h => h) (Or.inl ⟨by rfl, ?_⟩) ?_ ?_
               rotate_left
               ·intro w'
                go_simp
                with_reducible rfl
               rotate_left
               ·simp only [puts_]
                rfl
               refine done_ (done_of HT_.out (by kernel_rfl)) ?_
               have hnb35 := NB217_227.out
               have hnc35 := NB227_217.out
               have hcz36_0 : w34.cell? ⟨gb217, 0, none⟩ = some (.int .i64 a0_0) := (blk_cell BK217.out 0).trans rfl
               have hcz36_1 : w34.cell? ⟨gb217, 1, none⟩ = some (.int .i64 a0_1) := (blk_cell BK217.out 1).trans rfl
               have hcz36_2 : w34.cell? ⟨gb217, 2, none⟩ = some (.int .i64 a0_2) := (blk_cell BK217.out 2).trans rfl
               have hfz36_0 := blk_frozen BK217.out 0
               have hfz36_1 := blk_frozen BK217.out 1
               have hfz36_2 := blk_frozen BK217.out 2
               try go_wp2_with (first | (go_at_call 17; (with_reducible refine (aimd_Aimd_Rate.calls g227 t245 t246 t247 t248 t249 t250 t251 t252 t253 t254 t255 t256 t257 t258 t259 t260 t261 t262 t263 w _ ?side1 ?side2 A28.out).mono ?_); (case side1 => repeat (first | (with_reducible first | exact HI227.out | apply IsS63.alloc | apply IsS63.drewN | apply IsS63.drew | apply IsS63.set_0 | apply IsS63.set_1 | apply IsS63.set_2 | apply IsS63.set_3 | apply IsS63.set_4 | apply IsS63.set_5 | apply IsS63.set_6 | apply IsS63.set_7 | apply IsS63.set_8 | refine IsS63.far ?_ NB227_217.out _) | exact HI227.out)); (case side2 => repeat (first | (with_reducible first | exact HB.out | apply below_alloc | apply pw_below_drewN | apply below_drew1 | refine below_set ?_ (IsS63.ge HI227.out) | refine below_set ?_ GE217.out) | exact HB.out)); rintro e w37 ⟨rfl, hi, hb, hk⟩; have n0_ := Aside0.mk (KeepBut.blk hk (g' := gb217) (o := .cells #[.int .i64 a0_0, .int .i64 a0_1, .int .i64 a0_2] 23 (0, 0)) (by (with_reducible repeat (first | refine blk_drewN ?_ _ | refine blk_drew ?_ | refine blk_alloc ?_ _)); exact BK217.out) NB217_227.out (by simp)); have n1_ := Aside0.mk (hb); have n2_ := Aside0.mk (hi); clear BK217; clear HB; clear HI227; have BK217 := n0_; have HB := n1_; have HI227 := n2_; clear n0_ n1_ n2_; (try clear hb); (try clear hb2); (try clear hk); (try clear hi); have p264 : 0 ≤ (x7_1 : Int) := of_decide_eq_true (by first | (with_reducible assumption) | assumption); have q264 : x7_1 < (l1.length : Int) := of_decide_eq_true (by first | (with_reducible assumption) | assumption); obtain ⟨ad264, e264, hx264_0, hx264_1, hx264_2, hx264_3⟩ := at_T34 HR1.out x7_1 p264 q264; obtain rfl : ad240 = ad264 := (by injection e264); replace hx264_0 := (HB.out.cell (World.block_lt_of_cell? w _ hx264_0)).trans hx264_0; replace hx264_1 := (HB.out.cell (World.block_lt_of_cell? w _ hx264_1)).trans hx264_1; replace hx264_2 := (HB.out.cell (World.block_lt_of_cell? w _ hx264_2)).trans hx264_2; replace hx264_3 := (HB.out.cell (World.block_lt_of_cell? w _ hx264_3)).trans hx264_3; replace p264 := eq_true p264; replace q264 := eq_true q264))
               go_ret
               exact ⟨by first | rfl | (simp [errW_none, errW_some] <;> rfl) | (simp [*, errW_none, errW_some] <;> rfl), by repeat (first | (with_reducible first | exact HB.out | apply below_alloc | apply pw_below_drewN | apply below_drew1 | refine below_set ?_ (IsS63.ge HI227.out) | refine below_set ?_ GE217.out) | exact HB.out)⟩
              ·rw [if_neg c31] at H
               have c31b0 : decide (t230 < t244) = false := decide_eq_false c31
               clear c31
               have H' := Aside0.mk H
               clear H
               try go_wp2_with (first | ((with_reducible refine gate_callee (f := 17) rfl ?_); refine goesL_ (some 48) rfl rfl Try.func17 (by kernel_rfl) rfl #[.pointer (some ⟨g227, 0, none⟩)] rfl (by (try simp only [List.map_toArray, List.map_cons, List.map_nil]); first | done | rfl | (simp only [List.length_drop, List.length_take]; rfl)) ?_; (with_reducible refine (aimd_Aimd_Rate.calls g227 x228000_1 x228001_1 x228002_1 x228003_1 x228004_1 x228005_1 x228006_1 x228007_1 x228008_1 t230 t231 t232 t233 t234 t235 t236 t237 t238 t239 w _ ?side1 ?side2 A12.out).mono ?_); (case side1 => repeat (first | (with_reducible first | exact HI227.out | apply IsS63.alloc | apply IsS63.drewN | apply IsS63.drew | apply IsS63.set_0 | apply IsS63.set_1 | apply IsS63.set_2 | apply IsS63.set_3 | apply IsS63.set_4 | apply IsS63.set_5 | apply IsS63.set_6 | apply IsS63.set_7 | apply IsS63.set_8 | refine IsS63.far ?_ NB227_217.out _) | exact HI227.out)); (case side2 => repeat (first | (with_reducible first | exact HB.out | apply below_alloc | apply pw_below_drewN | apply below_drew1 | refine below_set ?_ (IsS63.ge HI227.out) | refine below_set ?_ GE217.out) | exact HB.out)); rintro e w38 ⟨rfl, hi, hb, hk⟩; refine ⟨_, rfl, ?_⟩; have n0_ := Aside0.mk (KeepBut.blk hk (g' := gb217) (o := .cells #[.int .i64 a0_0, .int .i64 a0_1, .int .i64 a0_2] 23 (0, 0)) (by (with_reducible repeat (first | refine blk_drewN ?_ _ | refine blk_drew ?_ | refine blk_alloc ?_ _)); exact BK217.out) NB217_227.out (by simp)); have n1_ := Aside0.mk (hb); have n2_ := Aside0.mk (hi); clear BK217; clear HB; clear HI227; have BK217 := n0_; have HB := n1_; have HI227 := n2_; clear n0_ n1_ n2_; (try clear hb); (try clear hb2); (try clear hk); (try clear hi)))
               have n0_ := Aside0.mk (blk_drew BK217.out)
               have n1_ := Aside0.mk (IsS63.drew HI227.out)
               have n2_ := Aside0.mk (below_drew1 HB.out)
               clear BK217
               clear HI227
               clear HB
               have BK217 := n0_
               have HI227 := n1_
               have HB := n2_
               clear n0_ n1_ n2_
               have p240 : 0 ≤ (x7_1 : Int) := of_decide_eq_true (by first | (with_reducible assumption) | assumption)
               have q240 : x7_1 < (l1.length : Int) := of_decide_eq_true (by first | (with_reducible assumption) | assumption)
               obtain ⟨ad240, e240, hx240_0, hx240_1, hx240_2, hx240_3⟩ := at_T34 HR1.out x7_1 p240 q240
               have hw240_3 := hx240_3
               have hw240_2 := hx240_2
               have hw240_1 := hx240_1
               have hw240_0 := hx240_0
               cases e240
               replace hx240_0 := (HB.out.cell (World.block_lt_of_cell? w _ hx240_0)).trans hx240_0
               replace hx240_1 := (HB.out.cell (World.block_lt_of_cell? w _ hx240_1)).trans hx240_1
               replace hx240_2 := (HB.out.cell (World.block_lt_of_cell? w _ hx240_2)).trans hx240_2
               replace hx240_3 := (HB.out.cell (World.block_lt_of_cell? w _ hx240_3)).trans hx240_3
               replace p240 := eq_true p240
               replace q240 := eq_true q240
               have p241 : 0 ≤ (x7_1 : Int) := of_decide_eq_true (by first | (with_reducible assumption) | assumption)
               have q241 : x7_1 < (l1.length : Int) := of_decide_eq_true (by first | (with_reducible assumption) | assumption)
               obtain ⟨ad241, e241, hx241_0, hx241_1, hx241_2, hx241_3⟩ := at_T34 HR1.out x7_1 p241 q241
               have hw241_3 := hx241_3
               have hw241_2 := hx241_2
               have hw241_1 := hx241_1
               have hw241_0 := hx241_0
               obtain rfl : ad240 = ad241 := (by injection e241)
               replace hx241_0 := (HB.out.cell (World.block_lt_of_cell? w _ hx241_0)).trans hx241_0
               replace hx241_1 := (HB.out.cell (World.block_lt_of_cell? w _ hx241_1)).trans hx241_1
               replace hx241_2 := (HB.out.cell (World.block_lt_of_cell? w _ hx241_2)).trans hx241_2
               replace hx241_3 := (HB.out.cell (World.block_lt_of_cell? w _ hx241_3)).trans hx241_3
               replace p241 := eq_true p241
               replace q241 := eq_true q241
               have p242 : 0 ≤ (x7_1 : Int) := of_decide_eq_true (by first | (with_reducible assumption) | assumption)
               have q242 : x7_1 < (l1.length : Int) := of_decide_eq_true (by first | (with_reducible assumption) | assumption)
               obtain ⟨ad242, e242, hx242_0, hx242_1, hx242_2, hx242_3⟩ := at_T34 HR1.out x7_1 p242 q242
               have hw242_3 := hx242_3
               have hw242_2 := hx242_2
               have hw242_1 := hx242_1
               have hw242_0 := hx242_0
               obtain rfl : ad240 = ad242 := (by injection e242)
               replace hx242_0 := (HB.out.cell (World.block_lt_of_cell? w _ hx242_0)).trans hx242_0
               replace hx242_1 := (HB.out.cell (World.block_lt_of_cell? w _ hx242_1)).trans hx242_1
               replace hx242_2 := (HB.out.cell (World.block_lt_of_cell? w _ hx242_2)).trans hx242_2
               replace hx242_3 := (HB.out.cell (World.block_lt_of_cell? w _ hx242_3)).trans hx242_3
               replace p242 := eq_true p242
               replace q242 := eq_true q242
               have p243 : 0 ≤ (x7_1 : Int) := of_decide_eq_true (by first | (with_reducible assumption) | assumption)
               have q243 : x7_1 < (l1.length : Int) := of_decide_eq_true (by first | (with_reducible assumption) | assumption)
               obtain ⟨ad243, e243, hx243_0, hx243_1, hx243_2, hx243_3⟩ := at_T34 HR1.out x7_1 p243 q243
               have hw243_3 := hx243_3
               have hw243_2 := hx243_2
               have hw243_1 := hx243_1
               have hw243_0 := hx243_0
               obtain rfl : ad240 = ad243 := (by injection e243)
               replace hx243_0 := (HB.out.cell (World.block_lt_of_cell? w _ hx243_0)).trans hx243_0
               replace hx243_1 := (HB.out.cell (World.block_lt_of_cell? w _ hx243_1)).trans hx243_1
               replace hx243_2 := (HB.out.cell (World.block_lt_of_cell? w _ hx243_2)).trans hx243_2
               replace hx243_3 := (HB.out.cell (World.block_lt_of_cell? w _ hx243_3)).trans hx243_3
               replace p243 := eq_true p243
               replace q243 := eq_true q243
               refine start_ (n := 23) (S := fun w' => w'.cell? (ad240.add ((x7_1).toNat * 4)) = some (.int .i64 ((rd_T34 l1 x7_1).f0)) ∧ w'.cell? ⟨(ad240.add ((x7_1).toNat * 4)).block, (ad240.add ((x7_1).toNat * 4)).off + 1, none⟩ = some (.int .i64 ((rd_T34 l1 x7_1).f1)) ∧ w'.cell? ⟨(ad240.add ((x7_1).toNat * 4)).block, (ad240.add ((x7_1).toNat * 4)).off + 2, none⟩ = some (.int .i64 ((rd_T34 l1 x7_1).f2)) ∧ w'.cell? ⟨(ad240.add ((x7_1).toNat * 4)).block, (ad240.add ((x7_1).toNat * 4)).off + 3, none⟩ = some (.int .i64 ((rd_T34 l1 x7_1).f3)) ∧ w'.cell? (ad240.add ((x7_1).toNat * 4)) = some (.int .i64 ((rd_T34 l1 x7_1).f0)) ∧ w'.cell? ⟨(ad240.add ((x7_1).toNat * 4)).block, (ad240.add ((x7_1).toNat * 4)).off + 1, none⟩ = some (.int .i64 ((rd_T34 l1 x7_1).f1)) ∧ w'.cell? ⟨(ad240.add ((x7_1).toNat * 4)).block, (ad240.add ((x7_1).toNat * 4)).off + 2, none⟩ = some (.int .i64 ((rd_T34 l1 x7_1).f2)) ∧ w'.cell? ⟨(ad240.add ((x7_1).toNat * 4)).block, (ad240.add ((x7_1).toNat * 4)).off + 3, none⟩ = some (.int .i64 ((rd_T34 l1 x7_1).f3)) ∧ w'.cell? (ad240.add ((x7_1).toNat * 4)) = some (.int .i64 ((rd_T34 l1 x7_1).f0)) ∧ w'.cell? ⟨(ad240.add ((x7_1).toNat * 4)).block, (ad240.add ((x7_1).toNat * 4)).off + 1, none⟩ = some (.int .i64 ((rd_T34 l1 x7_1).f1)) ∧ w'.cell? ⟨(ad240.add ((x7_1).toNat * 4)).block, (ad240.add ((x7_1).toNat * 4)).off + 2, none⟩ = some (.int .i64 ((rd_T34 l1 x7_1).f2)) ∧ w'.cell? ⟨(ad240.add ((x7_1).toNat * 4)).block, (ad240.add ((x7_1).toNat * 4)).off + 3, none⟩ = some (.int .i64 ((rd_T34 l1 x7_1).f3)) ∧ w'.cell? (ad240.add ((x7_1).toNat * 4)) = some (.int .i64 ((rd_T34 l1 x7_1).f0)) ∧ w'.cell? ⟨(ad240.add ((x7_1).toNat * 4)).block, (ad240.add ((x7_1).toNat * 4)).off + 1, none⟩ = some (.int .i64 ((rd_T34 l1 x7_1).f1)) ∧ w'.cell? ⟨(ad240.add ((x7_1).toNat * 4)).block, (ad240.add ((x7_1).toNat * 4)).off + 2, none⟩ = some (.int .i64 ((rd_T34 l1 x7_1).f2)) ∧ w'.cell? ⟨(ad240.add ((x7_1).toNat * 4)).block, (ad240.add ((x7_1).toNat * 4)).off + 3, none⟩ = some (.int .i64 ((rd_T34 l1 x7_1).f3))) (ds := []) #[false, false, false, false, false, false, false, false, false, false, false, false, false, false, false, false, false, false, false, false, false, false, false] (by kernel_rfl) rfl rfl ⟨((HB.out.cell (World.block_lt_of_cell? w _ hw240_0)).trans hw240_0), ((HB.out.cell (World.block_lt_of_cell? w _ hw240_1)).trans hw240_1), ((HB.out.cell (World.block_lt_of_cell? w _ hw240_2)).trans hw240_2), ((HB.out.cell (World.block_lt_of_cell? w _ hw240_3)).trans hw240_3), ((HB.out.cell (World.block_lt_of_cell? w _ hw241_0)).trans hw241_0), ((HB.out.cell (World.block_lt_of_cell? w _ hw241_1)).trans hw241_1), ((HB.out.cell (World.block_lt_of_cell? w _ hw241_2)).trans hw241_2), ((HB.out.cell (World.block_lt_of_cell? w _ hw241_3)).trans hw241_3), ((HB.out.cell (World.block_lt_of_cell? w _ hw242_0)).trans hw242_0), ((HB.out.cell (World.block_lt_of_cell? w _ hw242_1)).trans hw242_1), ((HB.out.cell (World.block_lt_of_cell? w _ hw242_2)).trans hw242_2), ((HB.out.cell (World.block_lt_of_cell? w _ hw242_3)).trans hw242_3), ((HB.out.cell (World.block_lt_of_cell? w _ hw243_0)).trans hw243_0), ((HB.out.cell (World.block_lt_of_cell? w _ hw243_1)).trans hw243_1), ((HB.out.cell (World.block_lt_of_cell? w _ hw243_2)).trans hw243_2), ((HB.out.cell (World.block_lt_of_cell? w _ hw243_3)).trans hw243_3)⟩ (fun hHeld => ?_); refine with_tabW flywheellaw19_AimdBounds.tab8 flywheellaw19_AimdBounds.bits8 (fun HT_ HW_ => ?_)
               generalize w38.drew = w39 at BK217 HI227 HB hx240_0 hx240_1 hx240_2 hx240_3 hx241_0 hx241_1 hx241_2 hx241_3 hx242_0 hx242_1 hx242_2 hx242_3 hx243_0 hx243_1 hx243_2 hx243_3 hHeld ⊢
               refine pure_ (i := 0) (N := some 49) (v := ?_) (a' := ?_) (bl 23 1) rfl rfl (any_of HT_.out (by kernel_rfl)) (fun _ _ _ h => h) (Or.inl ⟨by rfl, ?_⟩) ?_ ?_
               rotate_left
               ·intro w'
                go_simp
                with_reducible rfl
               rotate_left
               ·simp only [puts_]
                rfl
               refine pure_ (i := 1) (N := some 50) (v := ?_) (a' := ?_) (bl 23 3) rfl rfl (any_of HT_.out (by kernel_rfl)) (fun _ _ _ h => h) (Or.inl ⟨by rfl, ?_⟩) ?_ ?_
               rotate_left
               ·intro w'
                go_simp
                with_reducible rfl
               rotate_left
               ·simp only [puts_]
                rfl
               refine pure_ (i := 2) (N := some 51) (v := ?_) (a' := ?_) (bl 23 7) rfl rfl (any_of HT_.out (by kernel_rfl)) (fun _ _ _ h => h) (Or.inl ⟨by rfl, ?_⟩) ?_ ?_
               rotate_left
               ·intro w'
                go_simp
                with_reducible rfl
               rotate_left
               ·simp only [puts_]
                rfl
               refine pure_ (i := 3) (N := some 52) (v := ?_) (a' := ?_) (bl 23 15) rfl rfl (any_of HT_.out (by kernel_rfl)) (fun _ _ _ h => h) (Or.inl ⟨by rfl, ?_⟩) ?_ ?_
               rotate_left
               ·intro w'
                go_simp
                with_reducible rfl
               rotate_left
               ·simp only [puts_]
                rfl
               refine pure_ (i := 4) (N := some 53) (v := ?_) (a' := ?_) (bl 23 31) rfl rfl (any_of HT_.out (by kernel_rfl)) (fun _ _ _ h => h) (Or.inl ⟨by rfl, ?_⟩) ?_ ?_
               rotate_left
               ·intro w'
                go_simp
                with_reducible rfl
               rotate_left
               ·simp only [puts_]
                rfl
               refine pure_ (i := 6) (N := some 55) (v := ?_) (a' := ?_) (bl 23 95) rfl rfl (any_of HT_.out (by kernel_rfl)) (fun _ _ _ h => h) (Or.inl ⟨by rfl, ?_⟩) ?_ ?_
               rotate_left
               ·intro w'
                go_simp
                with_reducible rfl
               rotate_left
               ·simp only [puts_]
                rfl
               refine pure_ (i := 7) (N := some 56) (v := ?_) (a' := ?_) (bl 23 223) rfl rfl (any_of HT_.out (by kernel_rfl)) (fun _ _ _ h => h) (Or.inl ⟨by rfl, ?_⟩) ?_ ?_
               rotate_left
               ·intro w'
                go_simp
                with_reducible rfl
               rotate_left
               ·simp only [puts_]
                rfl
               refine pure_ (i := 8) (N := some 57) (v := ?_) (a' := ?_) (bl 23 479) rfl rfl (any_of HT_.out (by kernel_rfl)) (fun _ _ _ h => h) (Or.inl ⟨by rfl, ?_⟩) ?_ ?_
               rotate_left
               ·intro w'
                go_simp
                with_reducible rfl
               rotate_left
               ·simp only [puts_]
                rfl
               refine pure_ (i := 9) (N := some 58) (v := ?_) (a' := ?_) (bl 23 991) rfl rfl (any_of HT_.out (by kernel_rfl)) (fun _ _ _ h => h) (Or.inl ⟨by rfl, ?_⟩) ?_ ?_
               rotate_left
               ·intro w'
                go_simp
                with_reducible rfl
               rotate_left
               ·simp only [puts_]
                rfl
               refine pure_ (i := 11) (N := some 60) (v := ?_) (a' := ?_) (bl 23 3039) rfl rfl (any_of HT_.out (by kernel_rfl)) (fun _ _ _ h => h) (Or.inl ⟨by rfl, ?_⟩) ?_ ?_
               rotate_left
               ·intro w'
                go_simp
                with_reducible rfl
               rotate_left
               ·simp only [puts_]
                rfl
               refine pure_ (i := 12) (N := some 61) (v := ?_) (a' := ?_) (bl 23 7135) rfl rfl (any_of HT_.out (by kernel_rfl)) (fun _ _ _ h => h) (Or.inl ⟨by rfl, ?_⟩) ?_ ?_
               rotate_left
               ·intro w'
                go_simp
                with_reducible rfl
               rotate_left
               ·simp only [puts_]
                rfl
               refine pure_ (i := 13) (N := some 62) (v := ?_) (a' := ?_) (bl 23 15327) rfl rfl (any_of HT_.out (by kernel_rfl)) (fun _ _ _ h => h) (Or.inl ⟨by rfl, ?_⟩) ?_ ?_
               rotate_left
               ·intro w'
                go_simp
                with_reducible rfl
               rotate_left
               ·simp only [puts_]
                rfl
               refine pure_ (i := 14) (N := some 63) (v := ?_) (a' := ?_) (bl 23 31711) rfl rfl (any_of HT_.out (by kernel_rfl)) (fun _ _ _ h => h) (Or.inl ⟨by rfl, ?_⟩) ?_ ?_
               rotate_left
               ·intro w'
                go_simp
                with_reducible rfl
               rotate_left
               ·simp only [puts_]
                rfl
               refine pure_ (i := 16) (N := some 65) (v := ?_) (a' := ?_) (bl 23 97247) rfl rfl (any_of HT_.out (by kernel_rfl)) (fun _ _ _ h => h) (Or.inl ⟨by rfl, ?_⟩) ?_ ?_
               rotate_left
               ·intro w'
                go_simp
                with_reducible rfl
               rotate_left
               ·simp only [puts_]
                rfl
               refine pure_ (i := 17) (N := some 66) (v := ?_) (a' := ?_) (bl 23 228319) rfl rfl (any_of HT_.out (by kernel_rfl)) (fun _ _ _ h => h) (Or.inl ⟨by rfl, ?_⟩) ?_ ?_
               rotate_left
               ·intro w'
                go_simp
                with_reducible rfl
               rotate_left
               ·simp only [puts_]
                rfl
               refine pure_ (i := 18) (N := some 67) (v := ?_) (a' := ?_) (bl 23 490463) rfl rfl (any_of HT_.out (by kernel_rfl)) (fun _ _ _ h => h) (Or.inl ⟨by rfl, ?_⟩) ?_ ?_
               rotate_left
               ·intro w'
                go_simp
                with_reducible rfl
               rotate_left
               ·simp only [puts_]
                rfl
               refine pure_ (i := 19) (N := some 68) (v := ?_) (a' := ?_) (bl 23 1014751) rfl rfl (any_of HT_.out (by kernel_rfl)) (fun _ _ _ h => h) (Or.inl ⟨by rfl, ?_⟩) ?_ ?_
               rotate_left
               ·intro w'
                go_simp
                with_reducible rfl
               rotate_left
               ·simp only [puts_]
                rfl
               refine take_ (i := 5) (N := some 54) (v := ?_) (a' := ?_) (bl 23 1014783) rfl rfl (take_ofW HT_.out HW_.out (by kernel_rfl)) (fun _ _ _ h => h) (Or.inl ⟨by rfl, ?_⟩) hHeld ?_ ?_
               rotate_left
               ·rintro w' ⟨s0, s1, s2, s3, s4, s5, s6, s7, s8, s9, s10, s11, s12, s13, s14, s15⟩
                go_simp
                with_reducible rfl
               rotate_left
               ·simp only [puts_]
                rfl
               refine take_ (i := 10) (N := some 59) (v := ?_) (a' := ?_) (bl 23 1015807) rfl rfl (take_ofW HT_.out HW_.out (by kernel_rfl)) (fun _ _ _ h => h) (Or.inl ⟨by rfl, ?_⟩) hHeld ?_ ?_
               rotate_left
               ·rintro w' ⟨s0, s1, s2, s3, s4, s5, s6, s7, s8, s9, s10, s11, s12, s13, s14, s15⟩
                go_simp
                with_reducible rfl
               rotate_left
               ·simp only [puts_]
                rfl
               refine take_ (i := 15) (N := some 64) (v := ?_) (a' := ?_) (bl 23 1048575) rfl rfl (take_ofW HT_.out HW_.out (by kernel_rfl)) (fun _ _ _ h => h) (Or.inl ⟨by rfl, ?_⟩) hHeld ?_ ?_
               rotate_left
               ·rintro w' ⟨s0, s1, s2, s3, s4, s5, s6, s7, s8, s9, s10, s11, s12, s13, s14, s15⟩
                go_simp
                with_reducible rfl
               rotate_left
               ·simp only [puts_]
                rfl
               refine take_ (i := 20) (N := some 69) (v := ?_) (a' := ?_) (bl 23 2097151) rfl rfl (take_ofW HT_.out HW_.out (by kernel_rfl)) (fun _ _ _ h => h) (Or.inl ⟨by rfl, ?_⟩) hHeld ?_ ?_
               rotate_left
               ·rintro w' ⟨s0, s1, s2, s3, s4, s5, s6, s7, s8, s9, s10, s11, s12, s13, s14, s15⟩
                go_simp
                with_reducible rfl
               rotate_left
               ·simp only [puts_]
                rfl
               refine one_ (i := 21) (N := some 70) (bl 23 4194303) rfl rfl (one_of HT_.out (by kernel_rfl)) (by decide) (fun K hK => ?_)
               refine goes_ Try.func18 (by kernel_rfl) rfl #[.pointer (some ⟨g227, 0, none⟩), .int .i64 ((rd_T34 l1 x7_1).f0), .int .i64 ((rd_T34 l1 x7_1).f1), .int .i64 ((rd_T34 l1 x7_1).f2), .int .i64 ((rd_T34 l1 x7_1).f3)] (by rfl) rfl rfl (by (try simp only [List.map_toArray, List.map_cons, List.map_nil]); first | done | rfl | (simp only [List.length_drop, List.length_take]; rfl)) ?_
               with_reducible refine (aimd_Aimd_Update.calls kj8 g227 t231 t232 t233 t234 t235 t236 t237 t238 t239 ((rd_T34 l1 x7_1).f0) ((rd_T34 l1 x7_1).f1) ((rd_T34 l1 x7_1).f2) ((rd_T34 l1 x7_1).f3) t244 t245 t246 t247 t248 t249 t250 t251 t252 t253 w _ ?side1 ?side2 A15.out).mono ?_
               (case side1 => repeat (first | (with_reducible first | exact HI227.out | apply IsS63.alloc | apply IsS63.drewN | apply IsS63.drew | apply IsS63.set_0 | apply IsS63.set_1 | apply IsS63.set_2 | apply IsS63.set_3 | apply IsS63.set_4 | apply IsS63.set_5 | apply IsS63.set_6 | apply IsS63.set_7 | apply IsS63.set_8 | refine IsS63.far ?_ NB227_217.out _) | exact HI227.out))
               (case side2 => repeat (first | (with_reducible first | exact HB.out | apply below_alloc | apply pw_below_drewN | apply below_drew1 | refine below_set ?_ (IsS63.ge HI227.out) | refine below_set ?_ GE217.out) | exact HB.out))
               rintro e w40 ⟨rfl, hi, hb, hk⟩
               refine ⟨_, rfl, ?_⟩
               have n0_ := Aside0.mk (KeepBut.blk hk (g' := gb217) (o := .cells #[.int .i64 a0_0, .int .i64 a0_1, .int .i64 a0_2] 23 (0, 0)) (by (with_reducible repeat (first | refine blk_drewN ?_ _ | refine blk_drew ?_ | refine blk_alloc ?_ _)); exact BK217.out) NB217_227.out (by simp))
               have n1_ := Aside0.mk (hb)
               have n2_ := Aside0.mk (hi)
               clear BK217
               clear HB
               clear HI227
               have BK217 := n0_
               have HB := n1_
               have HI227 := n2_
               clear n0_ n1_ n2_
               (try clear hb)
               (try clear hb2)
               (try clear hk)
               (try clear hi)
               refine hK.out _ _ ⟨((HB.out.cell (World.block_lt_of_cell? w _ hw240_0)).trans hw240_0), ((HB.out.cell (World.block_lt_of_cell? w _ hw240_1)).trans hw240_1), ((HB.out.cell (World.block_lt_of_cell? w _ hw240_2)).trans hw240_2), ((HB.out.cell (World.block_lt_of_cell? w _ hw240_3)).trans hw240_3), ((HB.out.cell (World.block_lt_of_cell? w _ hw241_0)).trans hw241_0), ((HB.out.cell (World.block_lt_of_cell? w _ hw241_1)).trans hw241_1), ((HB.out.cell (World.block_lt_of_cell? w _ hw241_2)).trans hw241_2), ((HB.out.cell (World.block_lt_of_cell? w _ hw241_3)).trans hw241_3), ((HB.out.cell (World.block_lt_of_cell? w _ hw242_0)).trans hw242_0), ((HB.out.cell (World.block_lt_of_cell? w _ hw242_1)).trans hw242_1), ((HB.out.cell (World.block_lt_of_cell? w _ hw242_2)).trans hw242_2), ((HB.out.cell (World.block_lt_of_cell? w _ hw242_3)).trans hw242_3), ((HB.out.cell (World.block_lt_of_cell? w _ hw243_0)).trans hw243_0), ((HB.out.cell (World.block_lt_of_cell? w _ hw243_1)).trans hw243_1), ((HB.out.cell (World.block_lt_of_cell? w _ hw243_2)).trans hw243_2), ((HB.out.cell (World.block_lt_of_cell? w _ hw243_3)).trans hw243_3)⟩ (fun hHeld => ?_)
               clear hK K
               refine norm_ (a' := ?_) ?_ ?_
               rotate_left
               ·show Act.put _ (some 70) _ = _
                simp only [puts_]
                rfl
               refine pure_ (i := 22) (N := some 9) (v := ?_) (a' := ?_) (bl 23 8388607) rfl rfl (any_of HT_.out (by kernel_rfl)) (fun _ _ _ h => h) (Or.inl ⟨by rfl, ?_⟩) ?_ ?_
               rotate_left
               ·intro w'
                go_simp
                with_reducible rfl
               rotate_left
               ·simp only [puts_]
                rfl
               refine done_ (done_of HT_.out (by kernel_rfl)) ?_
               have hnb41 := NB217_227.out
               have hnc41 := NB227_217.out
               have hcz42_0 : w40.cell? ⟨gb217, 0, none⟩ = some (.int .i64 a0_0) := (blk_cell BK217.out 0).trans rfl
               have hcz42_1 : w40.cell? ⟨gb217, 1, none⟩ = some (.int .i64 a0_1) := (blk_cell BK217.out 1).trans rfl
               have hcz42_2 : w40.cell? ⟨gb217, 2, none⟩ = some (.int .i64 a0_2) := (blk_cell BK217.out 2).trans rfl
               have hfz42_0 := blk_frozen BK217.out 0
               have hfz42_1 := blk_frozen BK217.out 1
               have hfz42_2 := blk_frozen BK217.out 2
               try go_wp2_with (first | (go_at_call 17; (with_reducible refine (aimd_Aimd_Rate.calls g227 t245 t246 t247 t248 t249 t250 t251 t252 t253 t254 t255 t256 t257 t258 t259 t260 t261 t262 t263 w _ ?side1 ?side2 A28.out).mono ?_); (case side1 => repeat (first | (with_reducible first | exact HI227.out | apply IsS63.alloc | apply IsS63.drewN | apply IsS63.drew | apply IsS63.set_0 | apply IsS63.set_1 | apply IsS63.set_2 | apply IsS63.set_3 | apply IsS63.set_4 | apply IsS63.set_5 | apply IsS63.set_6 | apply IsS63.set_7 | apply IsS63.set_8 | refine IsS63.far ?_ NB227_217.out _) | exact HI227.out)); (case side2 => repeat (first | (with_reducible first | exact HB.out | apply below_alloc | apply pw_below_drewN | apply below_drew1 | refine below_set ?_ (IsS63.ge HI227.out) | refine below_set ?_ GE217.out) | exact HB.out)); rintro e w43 ⟨rfl, hi, hb, hk⟩; have n0_ := Aside0.mk (KeepBut.blk hk (g' := gb217) (o := .cells #[.int .i64 a0_0, .int .i64 a0_1, .int .i64 a0_2] 23 (0, 0)) (by (with_reducible repeat (first | refine blk_drewN ?_ _ | refine blk_drew ?_ | refine blk_alloc ?_ _)); exact BK217.out) NB217_227.out (by simp)); have n1_ := Aside0.mk (hb); have n2_ := Aside0.mk (hi); clear BK217; clear HB; clear HI227; have BK217 := n0_; have HB := n1_; have HI227 := n2_; clear n0_ n1_ n2_; (try clear hb); (try clear hb2); (try clear hk); (try clear hi); have p264 : 0 ≤ (x7_1 : Int) := of_decide_eq_true (by first | (with_reducible assumption) | assumption); have q264 : x7_1 < (l1.length : Int) := of_decide_eq_true (by first | (with_reducible assumption) | assumption); obtain ⟨ad264, e264, hx264_0, hx264_1, hx264_2, hx264_3⟩ := at_T34 HR1.out x7_1 p264 q264; obtain rfl : ad240 = ad264 := (by injection e264); replace hx264_0 := (HB.out.cell (World.block_lt_of_cell? w _ hx264_0)).trans hx264_0; replace hx264_1 := (HB.out.cell (World.block_lt_of_cell? w _ hx264_1)).trans hx264_1; replace hx264_2 := (HB.out.cell (World.block_lt_of_cell? w _ hx264_2)).trans hx264_2; replace hx264_3 := (HB.out.cell (World.block_lt_of_cell? w _ hx264_3)).trans hx264_3; replace p264 := eq_true p264; replace q264 := eq_true q264; have p265 : 0 ≤ (x7_1 : Int) := of_decide_eq_true (by first | (with_reducible assumption) | assumption); have q265 : x7_1 < (l1.length : Int) := of_decide_eq_true (by first | (with_reducible assumption) | assumption); obtain ⟨ad265, e265, hx265_0, hx265_1, hx265_2, hx265_3⟩ := at_T34 HR1.out x7_1 p265 q265; obtain rfl : ad240 = ad265 := (by injection e265); replace hx265_0 := (HB.out.cell (World.block_lt_of_cell? w _ hx265_0)).trans hx265_0; replace hx265_1 := (HB.out.cell (World.block_lt_of_cell? w _ hx265_1)).trans hx265_1; replace hx265_2 := (HB.out.cell (World.block_lt_of_cell? w _ hx265_2)).trans hx265_2; replace hx265_3 := (HB.out.cell (World.block_lt_of_cell? w _ hx265_3)).trans hx265_3; replace p265 := eq_true p265; replace q265 := eq_true q265))
               go_roundg kj8
               case measure => have := HK1.out; have := HJ8.out; omega
               case rel => exact ⟨(wrap64 (x7_1 + 1)), (t255), (t256), (t257), (t258), (t259), (t260), (t261), (t262), (t263), (by first | rfl | (simp; done) | (simp [*]; done)), H', ⟨by have := HK1.out; have := HJ8.out; omega⟩, ⟨by (with_reducible repeat (first | refine blk_drewN ?_ _ | refine blk_drew ?_ | refine blk_alloc ?_ _)); exact BK217.out⟩, ⟨by repeat (first | (with_reducible first | exact HI227.out | apply IsS63.alloc | apply IsS63.drewN | apply IsS63.drew | apply IsS63.set_0 | apply IsS63.set_1 | apply IsS63.set_2 | apply IsS63.set_3 | apply IsS63.set_4 | apply IsS63.set_5 | apply IsS63.set_6 | apply IsS63.set_7 | apply IsS63.set_8 | refine IsS63.far ?_ NB227_217.out _) | exact HI227.out)⟩, ⟨by repeat (first | (with_reducible first | exact HB.out | apply below_alloc | apply pw_below_drewN | apply below_drew1 | refine below_set ?_ (IsS63.ge HI227.out) | refine below_set ?_ GE217.out) | exact HB.out)⟩⟩
             ·rw [if_neg c30] at H
              have c30b0 : (((rd_T34 l1 x7_1).f0) == 1) = false := beq_eq_false_iff_ne.mpr c30
              have c30b1 : (((rd_T34 l1 x7_1).f0) != 1) = true := bne_iff_ne.mpr c30
              by_cases c44 : t244 < t230
              ·rw [if_pos c44] at H
               have c44b0 : decide (t244 < t230) = true := decide_eq_true c44
               clear c44
               obtain rfl := Option.some.inj H
               try go_wp2_with (first | ((with_reducible refine gate_callee (f := 17) rfl ?_); refine goesL_ (some 48) rfl rfl Try.func17 (by kernel_rfl) rfl #[.pointer (some ⟨g227, 0, none⟩)] rfl (by (try simp only [List.map_toArray, List.map_cons, List.map_nil]); first | done | rfl | (simp only [List.length_drop, List.length_take]; rfl)) ?_; (with_reducible refine (aimd_Aimd_Rate.calls g227 x228000_1 x228001_1 x228002_1 x228003_1 x228004_1 x228005_1 x228006_1 x228007_1 x228008_1 t230 t231 t232 t233 t234 t235 t236 t237 t238 t239 w _ ?side1 ?side2 A12.out).mono ?_); (case side1 => repeat (first | (with_reducible first | exact HI227.out | apply IsS63.alloc | apply IsS63.drewN | apply IsS63.drew | apply IsS63.set_0 | apply IsS63.set_1 | apply IsS63.set_2 | apply IsS63.set_3 | apply IsS63.set_4 | apply IsS63.set_5 | apply IsS63.set_6 | apply IsS63.set_7 | apply IsS63.set_8 | refine IsS63.far ?_ NB227_217.out _) | exact HI227.out)); (case side2 => repeat (first | (with_reducible first | exact HB.out | apply below_alloc | apply pw_below_drewN | apply below_drew1 | refine below_set ?_ (IsS63.ge HI227.out) | refine below_set ?_ GE217.out) | exact HB.out)); rintro e w45 ⟨rfl, hi, hb, hk⟩; refine ⟨_, rfl, ?_⟩; have n0_ := Aside0.mk (KeepBut.blk hk (g' := gb217) (o := .cells #[.int .i64 a0_0, .int .i64 a0_1, .int .i64 a0_2] 23 (0, 0)) (by (with_reducible repeat (first | refine blk_drewN ?_ _ | refine blk_drew ?_ | refine blk_alloc ?_ _)); exact BK217.out) NB217_227.out (by simp)); have n1_ := Aside0.mk (hb); have n2_ := Aside0.mk (hi); clear BK217; clear HB; clear HI227; have BK217 := n0_; have HB := n1_; have HI227 := n2_; clear n0_ n1_ n2_; (try clear hb); (try clear hb2); (try clear hk); (try clear hi)))
               have n0_ := Aside0.mk (blk_drew BK217.out)
               have n1_ := Aside0.mk (IsS63.drew HI227.out)
               have n2_ := Aside0.mk (below_drew1 HB.out)
               clear BK217
               clear HI227
               clear HB
               have BK217 := n0_
               have HI227 := n1_
               have HB := n2_
               clear n0_ n1_ n2_
               have p240 : 0 ≤ (x7_1 : Int) := of_decide_eq_true (by first | (with_reducible assumption) | assumption)
               have q240 : x7_1 < (l1.length : Int) := of_decide_eq_true (by first | (with_reducible assumption) | assumption)
               obtain ⟨ad240, e240, hx240_0, hx240_1, hx240_2, hx240_3⟩ := at_T34 HR1.out x7_1 p240 q240
               have hw240_3 := hx240_3
               have hw240_2 := hx240_2
               have hw240_1 := hx240_1
               have hw240_0 := hx240_0
               cases e240
               replace hx240_0 := (HB.out.cell (World.block_lt_of_cell? w _ hx240_0)).trans hx240_0
               replace hx240_1 := (HB.out.cell (World.block_lt_of_cell? w _ hx240_1)).trans hx240_1
               replace hx240_2 := (HB.out.cell (World.block_lt_of_cell? w _ hx240_2)).trans hx240_2
               replace hx240_3 := (HB.out.cell (World.block_lt_of_cell? w _ hx240_3)).trans hx240_3
               replace p240 := eq_true p240
               replace q240 := eq_true q240
               have p241 : 0 ≤ (x7_1 : Int) := of_decide_eq_true (by first | (with_reducible assumption) | assumption)
               have q241 : x7_1 < (l1.length : Int) := of_decide_eq_true (by first | (with_reducible assumption) | assumption)
               obtain ⟨ad241, e241, hx241_0, hx241_1, hx241_2, hx241_3⟩ := at_T34 HR1.out x7_1 p241 q241
               have hw241_3 := hx241_3
               have hw241_2 := hx241_2
               have hw241_1 := hx241_1
               have hw241_0 := hx241_0
               obtain rfl : ad240 = ad241 := (by injection e241)
               replace hx241_0 := (HB.out.cell (World.block_lt_of_cell? w _ hx241_0)).trans hx241_0
               replace hx241_1 := (HB.out.cell (World.block_lt_of_cell? w _ hx241_1)).trans hx241_1
               replace hx241_2 := (HB.out.cell (World.block_lt_of_cell? w _ hx241_2)).trans hx241_2
               replace hx241_3 := (HB.out.cell (World.block_lt_of_cell? w _ hx241_3)).trans hx241_3
               replace p241 := eq_true p241
               replace q241 := eq_true q241
               have p242 : 0 ≤ (x7_1 : Int) := of_decide_eq_true (by first | (with_reducible assumption) | assumption)
               have q242 : x7_1 < (l1.length : Int) := of_decide_eq_true (by first | (with_reducible assumption) | assumption)
               obtain ⟨ad242, e242, hx242_0, hx242_1, hx242_2, hx242_3⟩ := at_T34 HR1.out x7_1 p242 q242
               have hw242_3 := hx242_3
               have hw242_2 := hx242_2
               have hw242_1 := hx242_1
               have hw242_0 := hx242_0
               obtain rfl : ad240 = ad242 := (by injection e242)
               replace hx242_0 := (HB.out.cell (World.block_lt_of_cell? w _ hx242_0)).trans hx242_0
               replace hx242_1 := (HB.out.cell (World.block_lt_of_cell? w _ hx242_1)).trans hx242_1
               replace hx242_2 := (HB.out.cell (World.block_lt_of_cell? w _ hx242_2)).trans hx242_2
               replace hx242_3 := (HB.out.cell (World.block_lt_of_cell? w _ hx242_3)).trans hx242_3
               replace p242 := eq_true p242
               replace q242 := eq_true q242
               have p243 : 0 ≤ (x7_1 : Int) := of_decide_eq_true (by first | (with_reducible assumption) | assumption)
               have q243 : x7_1 < (l1.length : Int) := of_decide_eq_true (by first | (with_reducible assumption) | assumption)
               obtain ⟨ad243, e243, hx243_0, hx243_1, hx243_2, hx243_3⟩ := at_T34 HR1.out x7_1 p243 q243
               have hw243_3 := hx243_3
               have hw243_2 := hx243_2
               have hw243_1 := hx243_1
               have hw243_0 := hx243_0
               obtain rfl : ad240 = ad243 := (by injection e243)
               replace hx243_0 := (HB.out.cell (World.block_lt_of_cell? w _ hx243_0)).trans hx243_0
               replace hx243_1 := (HB.out.cell (World.block_lt_of_cell? w _ hx243_1)).trans hx243_1
               replace hx243_2 := (HB.out.cell (World.block_lt_of_cell? w _ hx243_2)).trans hx243_2
               replace hx243_3 := (HB.out.cell (World.block_lt_of_cell? w _ hx243_3)).trans hx243_3
               replace p243 := eq_true p243
               replace q243 := eq_true q243
               refine start_ (n := 23) (S := fun w' => w'.cell? (ad240.add ((x7_1).toNat * 4)) = some (.int .i64 ((rd_T34 l1 x7_1).f0)) ∧ w'.cell? ⟨(ad240.add ((x7_1).toNat * 4)).block, (ad240.add ((x7_1).toNat * 4)).off + 1, none⟩ = some (.int .i64 ((rd_T34 l1 x7_1).f1)) ∧ w'.cell? ⟨(ad240.add ((x7_1).toNat * 4)).block, (ad240.add ((x7_1).toNat * 4)).off + 2, none⟩ = some (.int .i64 ((rd_T34 l1 x7_1).f2)) ∧ w'.cell? ⟨(ad240.add ((x7_1).toNat * 4)).block, (ad240.add ((x7_1).toNat * 4)).off + 3, none⟩ = some (.int .i64 ((rd_T34 l1 x7_1).f3)) ∧ w'.cell? (ad240.add ((x7_1).toNat * 4)) = some (.int .i64 ((rd_T34 l1 x7_1).f0)) ∧ w'.cell? ⟨(ad240.add ((x7_1).toNat * 4)).block, (ad240.add ((x7_1).toNat * 4)).off + 1, none⟩ = some (.int .i64 ((rd_T34 l1 x7_1).f1)) ∧ w'.cell? ⟨(ad240.add ((x7_1).toNat * 4)).block, (ad240.add ((x7_1).toNat * 4)).off + 2, none⟩ = some (.int .i64 ((rd_T34 l1 x7_1).f2)) ∧ w'.cell? ⟨(ad240.add ((x7_1).toNat * 4)).block, (ad240.add ((x7_1).toNat * 4)).off + 3, none⟩ = some (.int .i64 ((rd_T34 l1 x7_1).f3)) ∧ w'.cell? (ad240.add ((x7_1).toNat * 4)) = some (.int .i64 ((rd_T34 l1 x7_1).f0)) ∧ w'.cell? ⟨(ad240.add ((x7_1).toNat * 4)).block, (ad240.add ((x7_1).toNat * 4)).off + 1, none⟩ = some (.int .i64 ((rd_T34 l1 x7_1).f1)) ∧ w'.cell? ⟨(ad240.add ((x7_1).toNat * 4)).block, (ad240.add ((x7_1).toNat * 4)).off + 2, none⟩ = some (.int .i64 ((rd_T34 l1 x7_1).f2)) ∧ w'.cell? ⟨(ad240.add ((x7_1).toNat * 4)).block, (ad240.add ((x7_1).toNat * 4)).off + 3, none⟩ = some (.int .i64 ((rd_T34 l1 x7_1).f3)) ∧ w'.cell? (ad240.add ((x7_1).toNat * 4)) = some (.int .i64 ((rd_T34 l1 x7_1).f0)) ∧ w'.cell? ⟨(ad240.add ((x7_1).toNat * 4)).block, (ad240.add ((x7_1).toNat * 4)).off + 1, none⟩ = some (.int .i64 ((rd_T34 l1 x7_1).f1)) ∧ w'.cell? ⟨(ad240.add ((x7_1).toNat * 4)).block, (ad240.add ((x7_1).toNat * 4)).off + 2, none⟩ = some (.int .i64 ((rd_T34 l1 x7_1).f2)) ∧ w'.cell? ⟨(ad240.add ((x7_1).toNat * 4)).block, (ad240.add ((x7_1).toNat * 4)).off + 3, none⟩ = some (.int .i64 ((rd_T34 l1 x7_1).f3))) (ds := []) #[false, false, false, false, false, false, false, false, false, false, false, false, false, false, false, false, false, false, false, false, false, false, false] (by kernel_rfl) rfl rfl ⟨((HB.out.cell (World.block_lt_of_cell? w _ hw240_0)).trans hw240_0), ((HB.out.cell (World.block_lt_of_cell? w _ hw240_1)).trans hw240_1), ((HB.out.cell (World.block_lt_of_cell? w _ hw240_2)).trans hw240_2), ((HB.out.cell (World.block_lt_of_cell? w _ hw240_3)).trans hw240_3), ((HB.out.cell (World.block_lt_of_cell? w _ hw241_0)).trans hw241_0), ((HB.out.cell (World.block_lt_of_cell? w _ hw241_1)).trans hw241_1), ((HB.out.cell (World.block_lt_of_cell? w _ hw241_2)).trans hw241_2), ((HB.out.cell (World.block_lt_of_cell? w _ hw241_3)).trans hw241_3), ((HB.out.cell (World.block_lt_of_cell? w _ hw242_0)).trans hw242_0), ((HB.out.cell (World.block_lt_of_cell? w _ hw242_1)).trans hw242_1), ((HB.out.cell (World.block_lt_of_cell? w _ hw242_2)).trans hw242_2), ((HB.out.cell (World.block_lt_of_cell? w _ hw242_3)).trans hw242_3), ((HB.out.cell (World.block_lt_of_cell? w _ hw243_0)).trans hw243_0), ((HB.out.cell (World.block_lt_of_cell? w _ hw243_1)).trans hw243_1), ((HB.out.cell (World.block_lt_of_cell? w _ hw243_2)).trans hw243_2), ((HB.out.cell (World.block_lt_of_cell? w _ hw243_3)).trans hw243_3)⟩ (fun hHeld => ?_); refine with_tabW flywheellaw19_AimdBounds.tab8 flywheellaw19_AimdBounds.bits8 (fun HT_ HW_ => ?_)
               generalize w45.drew = w46 at BK217 HI227 HB hx240_0 hx240_1 hx240_2 hx240_3 hx241_0 hx241_1 hx241_2 hx241_3 hx242_0 hx242_1 hx242_2 hx242_3 hx243_0 hx243_1 hx243_2 hx243_3 hHeld ⊢
               refine pure_ (i := 0) (N := some 49) (v := ?_) (a' := ?_) (bl 23 1) rfl rfl (any_of HT_.out (by kernel_rfl)) (fun _ _ _ h => h) (Or.inl ⟨by rfl, ?_⟩) ?_ ?_
               rotate_left
               ·intro w'
                go_simp
                with_reducible rfl
               rotate_left
               ·simp only [puts_]
                rfl
               refine pure_ (i := 1) (N := some 50) (v := ?_) (a' := ?_) (bl 23 3) rfl rfl (any_of HT_.out (by kernel_rfl)) (fun _ _ _ h => h) (Or.inl ⟨by rfl, ?_⟩) ?_ ?_
               rotate_left
               ·intro w'
                go_simp
                with_reducible rfl
               rotate_left
               ·simp only [puts_]
                rfl
               refine pure_ (i := 2) (N := some 51) (v := ?_) (a' := ?_) (bl 23 7) rfl rfl (any_of HT_.out (by kernel_rfl)) (fun _ _ _ h => h) (Or.inl ⟨by rfl, ?_⟩) ?_ ?_
               rotate_left
               ·intro w'
                go_simp
                with_reducible rfl
               rotate_left
               ·simp only [puts_]
                rfl
               refine pure_ (i := 3) (N := some 52) (v := ?_) (a' := ?_) (bl 23 15) rfl rfl (any_of HT_.out (by kernel_rfl)) (fun _ _ _ h => h) (Or.inl ⟨by rfl, ?_⟩) ?_ ?_
               rotate_left
               ·intro w'
                go_simp
                with_reducible rfl
               rotate_left
               ·simp only [puts_]
                rfl
               refine pure_ (i := 4) (N := some 53) (v := ?_) (a' := ?_) (bl 23 31) rfl rfl (any_of HT_.out (by kernel_rfl)) (fun _ _ _ h => h) (Or.inl ⟨by rfl, ?_⟩) ?_ ?_
               rotate_left
               ·intro w'
                go_simp
                with_reducible rfl
               rotate_left
               ·simp only [puts_]
                rfl
               refine pure_ (i := 6) (N := some 55) (v := ?_) (a' := ?_) (bl 23 95) rfl rfl (any_of HT_.out (by kernel_rfl)) (fun _ _ _ h => h) (Or.inl ⟨by rfl, ?_⟩) ?_ ?_
               rotate_left
               ·intro w'
                go_simp
                with_reducible rfl
               rotate_left
               ·simp only [puts_]
                rfl
               refine pure_ (i := 7) (N := some 56) (v := ?_) (a' := ?_) (bl 23 223) rfl rfl (any_of HT_.out (by kernel_rfl)) (fun _ _ _ h => h) (Or.inl ⟨by rfl, ?_⟩) ?_ ?_
               rotate_left
               ·intro w'
                go_simp
                with_reducible rfl
               rotate_left
               ·simp only [puts_]
                rfl
               refine pure_ (i := 8) (N := some 57) (v := ?_) (a' := ?_) (bl 23 479) rfl rfl (any_of HT_.out (by kernel_rfl)) (fun _ _ _ h => h) (Or.inl ⟨by rfl, ?_⟩) ?_ ?_
               rotate_left
               ·intro w'
                go_simp
                with_reducible rfl
               rotate_left
               ·simp only [puts_]
                rfl
               refine pure_ (i := 9) (N := some 58) (v := ?_) (a' := ?_) (bl 23 991) rfl rfl (any_of HT_.out (by kernel_rfl)) (fun _ _ _ h => h) (Or.inl ⟨by rfl, ?_⟩) ?_ ?_
               rotate_left
               ·intro w'
                go_simp
                with_reducible rfl
               rotate_left
               ·simp only [puts_]
                rfl
               refine pure_ (i := 11) (N := some 60) (v := ?_) (a' := ?_) (bl 23 3039) rfl rfl (any_of HT_.out (by kernel_rfl)) (fun _ _ _ h => h) (Or.inl ⟨by rfl, ?_⟩) ?_ ?_
               rotate_left
               ·intro w'
                go_simp
                with_reducible rfl
               rotate_left
               ·simp only [puts_]
                rfl
               refine pure_ (i := 12) (N := some 61) (v := ?_) (a' := ?_) (bl 23 7135) rfl rfl (any_of HT_.out (by kernel_rfl)) (fun _ _ _ h => h) (Or.inl ⟨by rfl, ?_⟩) ?_ ?_
               rotate_left
               ·intro w'
                go_simp
                with_reducible rfl
               rotate_left
               ·simp only [puts_]
                rfl
               refine pure_ (i := 13) (N := some 62) (v := ?_) (a' := ?_) (bl 23 15327) rfl rfl (any_of HT_.out (by kernel_rfl)) (fun _ _ _ h => h) (Or.inl ⟨by rfl, ?_⟩) ?_ ?_
               rotate_left
               ·intro w'
                go_simp
                with_reducible rfl
               rotate_left
               ·simp only [puts_]
                rfl
               refine pure_ (i := 14) (N := some 63) (v := ?_) (a' := ?_) (bl 23 31711) rfl rfl (any_of HT_.out (by kernel_rfl)) (fun _ _ _ h => h) (Or.inl ⟨by rfl, ?_⟩) ?_ ?_
               rotate_left
               ·intro w'
                go_simp
                with_reducible rfl
               rotate_left
               ·simp only [puts_]
                rfl
               refine pure_ (i := 16) (N := some 65) (v := ?_) (a' := ?_) (bl 23 97247) rfl rfl (any_of HT_.out (by kernel_rfl)) (fun _ _ _ h => h) (Or.inl ⟨by rfl, ?_⟩) ?_ ?_
               rotate_left
               ·intro w'
                go_simp
                with_reducible rfl
               rotate_left
               ·simp only [puts_]
                rfl
               refine pure_ (i := 17) (N := some 66) (v := ?_) (a' := ?_) (bl 23 228319) rfl rfl (any_of HT_.out (by kernel_rfl)) (fun _ _ _ h => h) (Or.inl ⟨by rfl, ?_⟩) ?_ ?_
               rotate_left
               ·intro w'
                go_simp
                with_reducible rfl
               rotate_left
               ·simp only [puts_]
                rfl
               refine pure_ (i := 18) (N := some 67) (v := ?_) (a' := ?_) (bl 23 490463) rfl rfl (any_of HT_.out (by kernel_rfl)) (fun _ _ _ h => h) (Or.inl ⟨by rfl, ?_⟩) ?_ ?_
               rotate_left
               ·intro w'
                go_simp
                with_reducible rfl
               rotate_left
               ·simp only [puts_]
                rfl
               refine pure_ (i := 19) (N := some 68) (v := ?_) (a' := ?_) (bl 23 1014751) rfl rfl (any_of HT_.out (by kernel_rfl)) (fun _ _ _ h => h) (Or.inl ⟨by rfl, ?_⟩) ?_ ?_
               rotate_left
               ·intro w'
                go_simp
                with_reducible rfl
               rotate_left
               ·simp only [puts_]
                rfl
               refine take_ (i := 5) (N := some 54) (v := ?_) (a' := ?_) (bl 23 1014783) rfl rfl (take_ofW HT_.out HW_.out (by kernel_rfl)) (fun _ _ _ h => h) (Or.inl ⟨by rfl, ?_⟩) hHeld ?_ ?_
               rotate_left
               ·rintro w' ⟨s0, s1, s2, s3, s4, s5, s6, s7, s8, s9, s10, s11, s12, s13, s14, s15⟩
                go_simp
                with_reducible rfl
               rotate_left
               ·simp only [puts_]
                rfl
               refine take_ (i := 10) (N := some 59) (v := ?_) (a' := ?_) (bl 23 1015807) rfl rfl (take_ofW HT_.out HW_.out (by kernel_rfl)) (fun _ _ _ h => h) (Or.inl ⟨by rfl, ?_⟩) hHeld ?_ ?_
               rotate_left
               ·rintro w' ⟨s0, s1, s2, s3, s4, s5, s6, s7, s8, s9, s10, s11, s12, s13, s14, s15⟩
                go_simp
                with_reducible rfl
               rotate_left
               ·simp only [puts_]
                rfl
               refine take_ (i := 15) (N := some 64) (v := ?_) (a' := ?_) (bl 23 1048575) rfl rfl (take_ofW HT_.out HW_.out (by kernel_rfl)) (fun _ _ _ h => h) (Or.inl ⟨by rfl, ?_⟩) hHeld ?_ ?_
               rotate_left
               ·rintro w' ⟨s0, s1, s2, s3, s4, s5, s6, s7, s8, s9, s10, s11, s12, s13, s14, s15⟩
                go_simp
                with_reducible rfl
               rotate_left
               ·simp only [puts_]
                rfl
               refine take_ (i := 20) (N := some 69) (v := ?_) (a' := ?_) (bl 23 2097151) rfl rfl (take_ofW HT_.out HW_.out (by kernel_rfl)) (fun _ _ _ h => h) (Or.inl ⟨by rfl, ?_⟩) hHeld ?_ ?_
               rotate_left
               ·rintro w' ⟨s0, s1, s2, s3, s4, s5, s6, s7, s8, s9, s10, s11, s12, s13, s14, s15⟩
                go_simp
                with_reducible rfl
               rotate_left
               ·simp only [puts_]
                rfl
               refine one_ (i := 21) (N := some 70) (bl 23 4194303) rfl rfl (one_of HT_.out (by kernel_rfl)) (by decide) (fun K hK => ?_)
               refine goes_ Try.func18 (by kernel_rfl) rfl #[.pointer (some ⟨g227, 0, none⟩), .int .i64 ((rd_T34 l1 x7_1).f0), .int .i64 ((rd_T34 l1 x7_1).f1), .int .i64 ((rd_T34 l1 x7_1).f2), .int .i64 ((rd_T34 l1 x7_1).f3)] (by rfl) rfl rfl (by (try simp only [List.map_toArray, List.map_cons, List.map_nil]); first | done | rfl | (simp only [List.length_drop, List.length_take]; rfl)) ?_
               with_reducible refine (aimd_Aimd_Update.calls kj8 g227 t231 t232 t233 t234 t235 t236 t237 t238 t239 ((rd_T34 l1 x7_1).f0) ((rd_T34 l1 x7_1).f1) ((rd_T34 l1 x7_1).f2) ((rd_T34 l1 x7_1).f3) t244 t245 t246 t247 t248 t249 t250 t251 t252 t253 w _ ?side1 ?side2 A15.out).mono ?_
               (case side1 => repeat (first | (with_reducible first | exact HI227.out | apply IsS63.alloc | apply IsS63.drewN | apply IsS63.drew | apply IsS63.set_0 | apply IsS63.set_1 | apply IsS63.set_2 | apply IsS63.set_3 | apply IsS63.set_4 | apply IsS63.set_5 | apply IsS63.set_6 | apply IsS63.set_7 | apply IsS63.set_8 | refine IsS63.far ?_ NB227_217.out _) | exact HI227.out))
               (case side2 => repeat (first | (with_reducible first | exact HB.out | apply below_alloc | apply pw_below_drewN | apply below_drew1 | refine below_set ?_ (IsS63.ge HI227.out) | refine below_set ?_ GE217.out) | exact HB.out))
               rintro e w47 ⟨rfl, hi, hb, hk⟩
               refine ⟨_, rfl, ?_⟩
               have n0_ := Aside0.mk (KeepBut.blk hk (g' := gb217) (o := .cells #[.int .i64 a0_0, .int .i64 a0_1, .int .i64 a0_2] 23 (0, 0)) (by (with_reducible repeat (first | refine blk_drewN ?_ _ | refine blk_drew ?_ | refine blk_alloc ?_ _)); exact BK217.out) NB217_227.out (by simp))
               have n1_ := Aside0.mk (hb)
               have n2_ := Aside0.mk (hi)
               clear BK217
               clear HB
               clear HI227
               have BK217 := n0_
               have HB := n1_
               have HI227 := n2_
               clear n0_ n1_ n2_
               (try clear hb)
               (try clear hb2)
               (try clear hk)
               (try clear hi)
               refine hK.out _ _ ⟨((HB.out.cell (World.block_lt_of_cell? w _ hw240_0)).trans hw240_0), ((HB.out.cell (World.block_lt_of_cell? w _ hw240_1)).trans hw240_1), ((HB.out.cell (World.block_lt_of_cell? w _ hw240_2)).trans hw240_2), ((HB.out.cell (World.block_lt_of_cell? w _ hw240_3)).trans hw240_3), ((HB.out.cell (World.block_lt_of_cell? w _ hw241_0)).trans hw241_0), ((HB.out.cell (World.block_lt_of_cell? w _ hw241_1)).trans hw241_1), ((HB.out.cell (World.block_lt_of_cell? w _ hw241_2)).trans hw241_2), ((HB.out.cell (World.block_lt_of_cell? w _ hw241_3)).trans hw241_3), ((HB.out.cell (World.block_lt_of_cell? w _ hw242_0)).trans hw242_0), ((HB.out.cell (World.block_lt_of_cell? w _ hw242_1)).trans hw242_1), ((HB.out.cell (World.block_lt_of_cell? w _ hw242_2)).trans hw242_2), ((HB.out.cell (World.block_lt_of_cell? w _ hw242_3)).trans hw242_3), ((HB.out.cell (World.block_lt_of_cell? w _ hw243_0)).trans hw243_0), ((HB.out.cell (World.block_lt_of_cell? w _ hw243_1)).trans hw243_1), ((HB.out.cell (World.block_lt_of_cell? w _ hw243_2)).trans hw243_2), ((HB.out.cell (World.block_lt_of_cell? w _ hw243_3)).trans hw243_3)⟩ (fun hHeld => ?_)
               clear hK K
               refine norm_ (a' := ?_) ?_ ?_
               rotate_left
               ·show Act.put _ (some 70) _ = _
                simp only [puts_]
                rfl
               refine pure_ (i := 22) (N := some 9) (v := ?_) (a' := ?_) (bl 23 8388607) rfl rfl (any_of HT_.out (by kernel_rfl)) (fun _ _ _ h => h) (Or.inl ⟨by rfl, ?_⟩) ?_ ?_
               rotate_left
               ·intro w'
                go_simp
                with_reducible rfl
               rotate_left
               ·simp only [puts_]
                rfl
               refine done_ (done_of HT_.out (by kernel_rfl)) ?_
               have hnb48 := NB217_227.out
               have hnc48 := NB227_217.out
               have hcz49_0 : w47.cell? ⟨gb217, 0, none⟩ = some (.int .i64 a0_0) := (blk_cell BK217.out 0).trans rfl
               have hcz49_1 : w47.cell? ⟨gb217, 1, none⟩ = some (.int .i64 a0_1) := (blk_cell BK217.out 1).trans rfl
               have hcz49_2 : w47.cell? ⟨gb217, 2, none⟩ = some (.int .i64 a0_2) := (blk_cell BK217.out 2).trans rfl
               have hfz49_0 := blk_frozen BK217.out 0
               have hfz49_1 := blk_frozen BK217.out 1
               have hfz49_2 := blk_frozen BK217.out 2
               try go_wp2_with (first | (go_at_call 17; (with_reducible refine (aimd_Aimd_Rate.calls g227 t245 t246 t247 t248 t249 t250 t251 t252 t253 t254 t255 t256 t257 t258 t259 t260 t261 t262 t263 w _ ?side1 ?side2 A28.out).mono ?_); (case side1 => repeat (first | (with_reducible first | exact HI227.out | apply IsS63.alloc | apply IsS63.drewN | apply IsS63.drew | apply IsS63.set_0 | apply IsS63.set_1 | apply IsS63.set_2 | apply IsS63.set_3 | apply IsS63.set_4 | apply IsS63.set_5 | apply IsS63.set_6 | apply IsS63.set_7 | apply IsS63.set_8 | refine IsS63.far ?_ NB227_217.out _) | exact HI227.out)); (case side2 => repeat (first | (with_reducible first | exact HB.out | apply below_alloc | apply pw_below_drewN | apply below_drew1 | refine below_set ?_ (IsS63.ge HI227.out) | refine below_set ?_ GE217.out) | exact HB.out)); rintro e w50 ⟨rfl, hi, hb, hk⟩; have n0_ := Aside0.mk (KeepBut.blk hk (g' := gb217) (o := .cells #[.int .i64 a0_0, .int .i64 a0_1, .int .i64 a0_2] 23 (0, 0)) (by (with_reducible repeat (first | refine blk_drewN ?_ _ | refine blk_drew ?_ | refine blk_alloc ?_ _)); exact BK217.out) NB217_227.out (by simp)); have n1_ := Aside0.mk (hb); have n2_ := Aside0.mk (hi); clear BK217; clear HB; clear HI227; have BK217 := n0_; have HB := n1_; have HI227 := n2_; clear n0_ n1_ n2_; (try clear hb); (try clear hb2); (try clear hk); (try clear hi); have p264 : 0 ≤ (x7_1 : Int) := of_decide_eq_true (by first | (with_reducible assumption) | assumption); have q264 : x7_1 < (l1.length : Int) := of_decide_eq_true (by first | (with_reducible assumption) | assumption); obtain ⟨ad264, e264, hx264_0, hx264_1, hx264_2, hx264_3⟩ := at_T34 HR1.out x7_1 p264 q264; obtain rfl : ad240 = ad264 := (by injection e264); replace hx264_0 := (HB.out.cell (World.block_lt_of_cell? w _ hx264_0)).trans hx264_0; replace hx264_1 := (HB.out.cell (World.block_lt_of_cell? w _ hx264_1)).trans hx264_1; replace hx264_2 := (HB.out.cell (World.block_lt_of_cell? w _ hx264_2)).trans hx264_2; replace hx264_3 := (HB.out.cell (World.block_lt_of_cell? w _ hx264_3)).trans hx264_3; replace p264 := eq_true p264; replace q264 := eq_true q264; have p266 : 0 ≤ (x7_1 : Int) := of_decide_eq_true (by first | (with_reducible assumption) | assumption); have q266 : x7_1 < (l1.length : Int) := of_decide_eq_true (by first | (with_reducible assumption) | assumption); obtain ⟨ad266, e266, hx266_0, hx266_1, hx266_2, hx266_3⟩ := at_T34 HR1.out x7_1 p266 q266; obtain rfl : ad240 = ad266 := (by injection e266); replace hx266_0 := (HB.out.cell (World.block_lt_of_cell? w _ hx266_0)).trans hx266_0; replace hx266_1 := (HB.out.cell (World.block_lt_of_cell? w _ hx266_1)).trans hx266_1; replace hx266_2 := (HB.out.cell (World.block_lt_of_cell? w _ hx266_2)).trans hx266_2; replace hx266_3 := (HB.out.cell (World.block_lt_of_cell? w _ hx266_3)).trans hx266_3; replace p266 := eq_true p266; replace q266 := eq_true q266))
               go_ret
               exact ⟨by first | rfl | (simp [errW_none, errW_some] <;> rfl) | (simp [*, errW_none, errW_some] <;> rfl), by repeat (first | (with_reducible first | exact HB.out | apply below_alloc | apply pw_below_drewN | apply below_drew1 | refine below_set ?_ (IsS63.ge HI227.out) | refine below_set ?_ GE217.out) | exact HB.out)⟩
              ·rw [if_neg c44] at H
               have c44b0 : decide (t244 < t230) = false := decide_eq_false c44
               clear c44
               have H' := Aside0.mk H
               clear H
               try go_wp2_with (first | ((with_reducible refine gate_callee (f := 17) rfl ?_); refine goesL_ (some 48) rfl rfl Try.func17 (by kernel_rfl) rfl #[.pointer (some ⟨g227, 0, none⟩)] rfl (by (try simp only [List.map_toArray, List.map_cons, List.map_nil]); first | done | rfl | (simp only [List.length_drop, List.length_take]; rfl)) ?_; (with_reducible refine (aimd_Aimd_Rate.calls g227 x228000_1 x228001_1 x228002_1 x228003_1 x228004_1 x228005_1 x228006_1 x228007_1 x228008_1 t230 t231 t232 t233 t234 t235 t236 t237 t238 t239 w _ ?side1 ?side2 A12.out).mono ?_); (case side1 => repeat (first | (with_reducible first | exact HI227.out | apply IsS63.alloc | apply IsS63.drewN | apply IsS63.drew | apply IsS63.set_0 | apply IsS63.set_1 | apply IsS63.set_2 | apply IsS63.set_3 | apply IsS63.set_4 | apply IsS63.set_5 | apply IsS63.set_6 | apply IsS63.set_7 | apply IsS63.set_8 | refine IsS63.far ?_ NB227_217.out _) | exact HI227.out)); (case side2 => repeat (first | (with_reducible first | exact HB.out | apply below_alloc | apply pw_below_drewN | apply below_drew1 | refine below_set ?_ (IsS63.ge HI227.out) | refine below_set ?_ GE217.out) | exact HB.out)); rintro e w51 ⟨rfl, hi, hb, hk⟩; refine ⟨_, rfl, ?_⟩; have n0_ := Aside0.mk (KeepBut.blk hk (g' := gb217) (o := .cells #[.int .i64 a0_0, .int .i64 a0_1, .int .i64 a0_2] 23 (0, 0)) (by (with_reducible repeat (first | refine blk_drewN ?_ _ | refine blk_drew ?_ | refine blk_alloc ?_ _)); exact BK217.out) NB217_227.out (by simp)); have n1_ := Aside0.mk (hb); have n2_ := Aside0.mk (hi); clear BK217; clear HB; clear HI227; have BK217 := n0_; have HB := n1_; have HI227 := n2_; clear n0_ n1_ n2_; (try clear hb); (try clear hb2); (try clear hk); (try clear hi)))
               have n0_ := Aside0.mk (blk_drew BK217.out)
               have n1_ := Aside0.mk (IsS63.drew HI227.out)
               have n2_ := Aside0.mk (below_drew1 HB.out)
               clear BK217
               clear HI227
               clear HB
               have BK217 := n0_
               have HI227 := n1_
               have HB := n2_
               clear n0_ n1_ n2_
               have p240 : 0 ≤ (x7_1 : Int) := of_decide_eq_true (by first | (with_reducible assumption) | assumption)
               have q240 : x7_1 < (l1.length : Int) := of_decide_eq_true (by first | (with_reducible assumption) | assumption)
               obtain ⟨ad240, e240, hx240_0, hx240_1, hx240_2, hx240_3⟩ := at_T34 HR1.out x7_1 p240 q240
               have hw240_3 := hx240_3
               have hw240_2 := hx240_2
               have hw240_1 := hx240_1
               have hw240_0 := hx240_0
               cases e240
               replace hx240_0 := (HB.out.cell (World.block_lt_of_cell? w _ hx240_0)).trans hx240_0
               replace hx240_1 := (HB.out.cell (World.block_lt_of_cell? w _ hx240_1)).trans hx240_1
               replace hx240_2 := (HB.out.cell (World.block_lt_of_cell? w _ hx240_2)).trans hx240_2
               replace hx240_3 := (HB.out.cell (World.block_lt_of_cell? w _ hx240_3)).trans hx240_3
               replace p240 := eq_true p240
               replace q240 := eq_true q240
               have p241 : 0 ≤ (x7_1 : Int) := of_decide_eq_true (by first | (with_reducible assumption) | assumption)
               have q241 : x7_1 < (l1.length : Int) := of_decide_eq_true (by first | (with_reducible assumption) | assumption)
               obtain ⟨ad241, e241, hx241_0, hx241_1, hx241_2, hx241_3⟩ := at_T34 HR1.out x7_1 p241 q241
               have hw241_3 := hx241_3
               have hw241_2 := hx241_2
               have hw241_1 := hx241_1
               have hw241_0 := hx241_0
               obtain rfl : ad240 = ad241 := (by injection e241)
               replace hx241_0 := (HB.out.cell (World.block_lt_of_cell? w _ hx241_0)).trans hx241_0
               replace hx241_1 := (HB.out.cell (World.block_lt_of_cell? w _ hx241_1)).trans hx241_1
               replace hx241_2 := (HB.out.cell (World.block_lt_of_cell? w _ hx241_2)).trans hx241_2
               replace hx241_3 := (HB.out.cell (World.block_lt_of_cell? w _ hx241_3)).trans hx241_3
               replace p241 := eq_true p241
               replace q241 := eq_true q241
               have p242 : 0 ≤ (x7_1 : Int) := of_decide_eq_true (by first | (with_reducible assumption) | assumption)
               have q242 : x7_1 < (l1.length : Int) := of_decide_eq_true (by first | (with_reducible assumption) | assumption)
               obtain ⟨ad242, e242, hx242_0, hx242_1, hx242_2, hx242_3⟩ := at_T34 HR1.out x7_1 p242 q242
               have hw242_3 := hx242_3
               have hw242_2 := hx242_2
               have hw242_1 := hx242_1
               have hw242_0 := hx242_0
               obtain rfl : ad240 = ad242 := (by injection e242)
               replace hx242_0 := (HB.out.cell (World.block_lt_of_cell? w _ hx242_0)).trans hx242_0
               replace hx242_1 := (HB.out.cell (World.block_lt_of_cell? w _ hx242_1)).trans hx242_1
               replace hx242_2 := (HB.out.cell (World.block_lt_of_cell? w _ hx242_2)).trans hx242_2
               replace hx242_3 := (HB.out.cell (World.block_lt_of_cell? w _ hx242_3)).trans hx242_3
               replace p242 := eq_true p242
               replace q242 := eq_true q242
               have p243 : 0 ≤ (x7_1 : Int) := of_decide_eq_true (by first | (with_reducible assumption) | assumption)
               have q243 : x7_1 < (l1.length : Int) := of_decide_eq_true (by first | (with_reducible assumption) | assumption)
               obtain ⟨ad243, e243, hx243_0, hx243_1, hx243_2, hx243_3⟩ := at_T34 HR1.out x7_1 p243 q243
               have hw243_3 := hx243_3
               have hw243_2 := hx243_2
               have hw243_1 := hx243_1
               have hw243_0 := hx243_0
               obtain rfl : ad240 = ad243 := (by injection e243)
               replace hx243_0 := (HB.out.cell (World.block_lt_of_cell? w _ hx243_0)).trans hx243_0
               replace hx243_1 := (HB.out.cell (World.block_lt_of_cell? w _ hx243_1)).trans hx243_1
               replace hx243_2 := (HB.out.cell (World.block_lt_of_cell? w _ hx243_2)).trans hx243_2
               replace hx243_3 := (HB.out.cell (World.block_lt_of_cell? w _ hx243_3)).trans hx243_3
               replace p243 := eq_true p243
               replace q243 := eq_true q243
               refine start_ (n := 23) (S := fun w' => w'.cell? (ad240.add ((x7_1).toNat * 4)) = some (.int .i64 ((rd_T34 l1 x7_1).f0)) ∧ w'.cell? ⟨(ad240.add ((x7_1).toNat * 4)).block, (ad240.add ((x7_1).toNat * 4)).off + 1, none⟩ = some (.int .i64 ((rd_T34 l1 x7_1).f1)) ∧ w'.cell? ⟨(ad240.add ((x7_1).toNat * 4)).block, (ad240.add ((x7_1).toNat * 4)).off + 2, none⟩ = some (.int .i64 ((rd_T34 l1 x7_1).f2)) ∧ w'.cell? ⟨(ad240.add ((x7_1).toNat * 4)).block, (ad240.add ((x7_1).toNat * 4)).off + 3, none⟩ = some (.int .i64 ((rd_T34 l1 x7_1).f3)) ∧ w'.cell? (ad240.add ((x7_1).toNat * 4)) = some (.int .i64 ((rd_T34 l1 x7_1).f0)) ∧ w'.cell? ⟨(ad240.add ((x7_1).toNat * 4)).block, (ad240.add ((x7_1).toNat * 4)).off + 1, none⟩ = some (.int .i64 ((rd_T34 l1 x7_1).f1)) ∧ w'.cell? ⟨(ad240.add ((x7_1).toNat * 4)).block, (ad240.add ((x7_1).toNat * 4)).off + 2, none⟩ = some (.int .i64 ((rd_T34 l1 x7_1).f2)) ∧ w'.cell? ⟨(ad240.add ((x7_1).toNat * 4)).block, (ad240.add ((x7_1).toNat * 4)).off + 3, none⟩ = some (.int .i64 ((rd_T34 l1 x7_1).f3)) ∧ w'.cell? (ad240.add ((x7_1).toNat * 4)) = some (.int .i64 ((rd_T34 l1 x7_1).f0)) ∧ w'.cell? ⟨(ad240.add ((x7_1).toNat * 4)).block, (ad240.add ((x7_1).toNat * 4)).off + 1, none⟩ = some (.int .i64 ((rd_T34 l1 x7_1).f1)) ∧ w'.cell? ⟨(ad240.add ((x7_1).toNat * 4)).block, (ad240.add ((x7_1).toNat * 4)).off + 2, none⟩ = some (.int .i64 ((rd_T34 l1 x7_1).f2)) ∧ w'.cell? ⟨(ad240.add ((x7_1).toNat * 4)).block, (ad240.add ((x7_1).toNat * 4)).off + 3, none⟩ = some (.int .i64 ((rd_T34 l1 x7_1).f3)) ∧ w'.cell? (ad240.add ((x7_1).toNat * 4)) = some (.int .i64 ((rd_T34 l1 x7_1).f0)) ∧ w'.cell? ⟨(ad240.add ((x7_1).toNat * 4)).block, (ad240.add ((x7_1).toNat * 4)).off + 1, none⟩ = some (.int .i64 ((rd_T34 l1 x7_1).f1)) ∧ w'.cell? ⟨(ad240.add ((x7_1).toNat * 4)).block, (ad240.add ((x7_1).toNat * 4)).off + 2, none⟩ = some (.int .i64 ((rd_T34 l1 x7_1).f2)) ∧ w'.cell? ⟨(ad240.add ((x7_1).toNat * 4)).block, (ad240.add ((x7_1).toNat * 4)).off + 3, none⟩ = some (.int .i64 ((rd_T34 l1 x7_1).f3))) (ds := []) #[false, false, false, false, false, false, false, false, false, false, false, false, false, false, false, false, false, false, false, false, false, false, false] (by kernel_rfl) rfl rfl ⟨((HB.out.cell (World.block_lt_of_cell? w _ hw240_0)).trans hw240_0), ((HB.out.cell (World.block_lt_of_cell? w _ hw240_1)).trans hw240_1), ((HB.out.cell (World.block_lt_of_cell? w _ hw240_2)).trans hw240_2), ((HB.out.cell (World.block_lt_of_cell? w _ hw240_3)).trans hw240_3), ((HB.out.cell (World.block_lt_of_cell? w _ hw241_0)).trans hw241_0), ((HB.out.cell (World.block_lt_of_cell? w _ hw241_1)).trans hw241_1), ((HB.out.cell (World.block_lt_of_cell? w _ hw241_2)).trans hw241_2), ((HB.out.cell (World.block_lt_of_cell? w _ hw241_3)).trans hw241_3), ((HB.out.cell (World.block_lt_of_cell? w _ hw242_0)).trans hw242_0), ((HB.out.cell (World.block_lt_of_cell? w _ hw242_1)).trans hw242_1), ((HB.out.cell (World.block_lt_of_cell? w _ hw242_2)).trans hw242_2), ((HB.out.cell (World.block_lt_of_cell? w _ hw242_3)).trans hw242_3), ((HB.out.cell (World.block_lt_of_cell? w _ hw243_0)).trans hw243_0), ((HB.out.cell (World.block_lt_of_cell? w _ hw243_1)).trans hw243_1), ((HB.out.cell (World.block_lt_of_cell? w _ hw243_2)).trans hw243_2), ((HB.out.cell (World.block_lt_of_cell? w _ hw243_3)).trans hw243_3)⟩ (fun hHeld => ?_); refine with_tabW flywheellaw19_AimdBounds.tab8 flywheellaw19_AimdBounds.bits8 (fun HT_ HW_ => ?_)
               generalize w51.drew = w52 at BK217 HI227 HB hx240_0 hx240_1 hx240_2 hx240_3 hx241_0 hx241_1 hx241_2 hx241_3 hx242_0 hx242_1 hx242_2 hx242_3 hx243_0 hx243_1 hx243_2 hx243_3 hHeld ⊢
               refine pure_ (i := 0) (N := some 49) (v := ?_) (a' := ?_) (bl 23 1) rfl rfl (any_of HT_.out (by kernel_rfl)) (fun _ _ _ h => h) (Or.inl ⟨by rfl, ?_⟩) ?_ ?_
               rotate_left
               ·intro w'
                go_simp
                with_reducible rfl
               rotate_left
               ·simp only [puts_]
                rfl
               refine pure_ (i := 1) (N := some 50) (v := ?_) (a' := ?_) (bl 23 3) rfl rfl (any_of HT_.out (by kernel_rfl)) (fun _ _ _ h => h) (Or.inl ⟨by rfl, ?_⟩) ?_ ?_
               rotate_left
               ·intro w'
                go_simp
                with_reducible rfl
               rotate_left
               ·simp only [puts_]
                rfl
               refine pure_ (i := 2) (N := some 51) (v := ?_) (a' := ?_) (bl 23 7) rfl rfl (any_of HT_.out (by kernel_rfl)) (fun _ _ _ h => h) (Or.inl ⟨by rfl, ?_⟩) ?_ ?_
               rotate_left
               ·intro w'
                go_simp
                with_reducible rfl
               rotate_left
               ·simp only [puts_]
                rfl
               refine pure_ (i := 3) (N := some 52) (v := ?_) (a' := ?_) (bl 23 15) rfl rfl (any_of HT_.out (by kernel_rfl)) (fun _ _ _ h => h) (Or.inl ⟨by rfl, ?_⟩) ?_ ?_
               rotate_left
               ·intro w'
                go_simp
                with_reducible rfl
               rotate_left
               ·simp only [puts_]
                rfl
               refine pure_ (i := 4) (N := some 53) (v := ?_) (a' := ?_) (bl 23 31) rfl rfl (any_of HT_.out (by kernel_rfl)) (fun _ _ _ h => h) (Or.inl ⟨by rfl, ?_⟩) ?_ ?_
               rotate_left
               ·intro w'
                go_simp
                with_reducible rfl
               rotate_left
               ·simp only [puts_]
                rfl
               refine pure_ (i := 6) (N := some 55) (v := ?_) (a' := ?_) (bl 23 95) rfl rfl (any_of HT_.out (by kernel_rfl)) (fun _ _ _ h => h) (Or.inl ⟨by rfl, ?_⟩) ?_ ?_
               rotate_left
               ·intro w'
                go_simp
                with_reducible rfl
               rotate_left
               ·simp only [puts_]
                rfl
               refine pure_ (i := 7) (N := some 56) (v := ?_) (a' := ?_) (bl 23 223) rfl rfl (any_of HT_.out (by kernel_rfl)) (fun _ _ _ h => h) (Or.inl ⟨by rfl, ?_⟩) ?_ ?_
               rotate_left
               ·intro w'
                go_simp
                with_reducible rfl
               rotate_left
               ·simp only [puts_]
                rfl
               refine pure_ (i := 8) (N := some 57) (v := ?_) (a' := ?_) (bl 23 479) rfl rfl (any_of HT_.out (by kernel_rfl)) (fun _ _ _ h => h) (Or.inl ⟨by rfl, ?_⟩) ?_ ?_
               rotate_left
               ·intro w'
                go_simp
                with_reducible rfl
               rotate_left
               ·simp only [puts_]
                rfl
               refine pure_ (i := 9) (N := some 58) (v := ?_) (a' := ?_) (bl 23 991) rfl rfl (any_of HT_.out (by kernel_rfl)) (fun _ _ _ h => h) (Or.inl ⟨by rfl, ?_⟩) ?_ ?_
               rotate_left
               ·intro w'
                go_simp
                with_reducible rfl
               rotate_left
               ·simp only [puts_]
                rfl
               refine pure_ (i := 11) (N := some 60) (v := ?_) (a' := ?_) (bl 23 3039) rfl rfl (any_of HT_.out (by kernel_rfl)) (fun _ _ _ h => h) (Or.inl ⟨by rfl, ?_⟩) ?_ ?_
               rotate_left
               ·intro w'
                go_simp
                with_reducible rfl
               rotate_left
               ·simp only [puts_]
                rfl
               refine pure_ (i := 12) (N := some 61) (v := ?_) (a' := ?_) (bl 23 7135) rfl rfl (any_of HT_.out (by kernel_rfl)) (fun _ _ _ h => h) (Or.inl ⟨by rfl, ?_⟩) ?_ ?_
               rotate_left
               ·intro w'
                go_simp
                with_reducible rfl
               rotate_left
               ·simp only [puts_]
                rfl
               refine pure_ (i := 13) (N := some 62) (v := ?_) (a' := ?_) (bl 23 15327) rfl rfl (any_of HT_.out (by kernel_rfl)) (fun _ _ _ h => h) (Or.inl ⟨by rfl, ?_⟩) ?_ ?_
               rotate_left
               ·intro w'
                go_simp
                with_reducible rfl
               rotate_left
               ·simp only [puts_]
                rfl
               refine pure_ (i := 14) (N := some 63) (v := ?_) (a' := ?_) (bl 23 31711) rfl rfl (any_of HT_.out (by kernel_rfl)) (fun _ _ _ h => h) (Or.inl ⟨by rfl, ?_⟩) ?_ ?_
               rotate_left
               ·intro w'
                go_simp
                with_reducible rfl
               rotate_left
               ·simp only [puts_]
                rfl
               refine pure_ (i := 16) (N := some 65) (v := ?_) (a' := ?_) (bl 23 97247) rfl rfl (any_of HT_.out (by kernel_rfl)) (fun _ _ _ h => h) (Or.inl ⟨by rfl, ?_⟩) ?_ ?_
               rotate_left
               ·intro w'
                go_simp
                with_reducible rfl
               rotate_left
               ·simp only [puts_]
                rfl
               refine pure_ (i := 17) (N := some 66) (v := ?_) (a' := ?_) (bl 23 228319) rfl rfl (any_of HT_.out (by kernel_rfl)) (fun _ _ _ h => h) (Or.inl ⟨by rfl, ?_⟩) ?_ ?_
               rotate_left
               ·intro w'
                go_simp
                with_reducible rfl
               rotate_left
               ·simp only [puts_]
                rfl
               refine pure_ (i := 18) (N := some 67) (v := ?_) (a' := ?_) (bl 23 490463) rfl rfl (any_of HT_.out (by kernel_rfl)) (fun _ _ _ h => h) (Or.inl ⟨by rfl, ?_⟩) ?_ ?_
               rotate_left
               ·intro w'
                go_simp
                with_reducible rfl
               rotate_left
               ·simp only [puts_]
                rfl
               refine pure_ (i := 19) (N := some 68) (v := ?_) (a' := ?_) (bl 23 1014751) rfl rfl (any_of HT_.out (by kernel_rfl)) (fun _ _ _ h => h) (Or.inl ⟨by rfl, ?_⟩) ?_ ?_
               rotate_left
               ·intro w'
                go_simp
                with_reducible rfl
               rotate_left
               ·simp only [puts_]
                rfl
               refine take_ (i := 5) (N := some 54) (v := ?_) (a' := ?_) (bl 23 1014783) rfl rfl (take_ofW HT_.out HW_.out (by kernel_rfl)) (fun _ _ _ h => h) (Or.inl ⟨by rfl, ?_⟩) hHeld ?_ ?_
               rotate_left
               ·rintro w' ⟨s0, s1, s2, s3, s4, s5, s6, s7, s8, s9, s10, s11, s12, s13, s14, s15⟩
                go_simp
                with_reducible rfl
               rotate_left
               ·simp only [puts_]
                rfl
               refine take_ (i := 10) (N := some 59) (v := ?_) (a' := ?_) (bl 23 1015807) rfl rfl (take_ofW HT_.out HW_.out (by kernel_rfl)) (fun _ _ _ h => h) (Or.inl ⟨by rfl, ?_⟩) hHeld ?_ ?_
               rotate_left
               ·rintro w' ⟨s0, s1, s2, s3, s4, s5, s6, s7, s8, s9, s10, s11, s12, s13, s14, s15⟩
                go_simp
                with_reducible rfl
               rotate_left
               ·simp only [puts_]
                rfl
               refine take_ (i := 15) (N := some 64) (v := ?_) (a' := ?_) (bl 23 1048575) rfl rfl (take_ofW HT_.out HW_.out (by kernel_rfl)) (fun _ _ _ h => h) (Or.inl ⟨by rfl, ?_⟩) hHeld ?_ ?_
               rotate_left
               ·rintro w' ⟨s0, s1, s2, s3, s4, s5, s6, s7, s8, s9, s10, s11, s12, s13, s14, s15⟩
                go_simp
                with_reducible rfl
               rotate_left
               ·simp only [puts_]
                rfl
               refine take_ (i := 20) (N := some 69) (v := ?_) (a' := ?_) (bl 23 2097151) rfl rfl (take_ofW HT_.out HW_.out (by kernel_rfl)) (fun _ _ _ h => h) (Or.inl ⟨by rfl, ?_⟩) hHeld ?_ ?_
               rotate_left
               ·rintro w' ⟨s0, s1, s2, s3, s4, s5, s6, s7, s8, s9, s10, s11, s12, s13, s14, s15⟩
                go_simp
                with_reducible rfl
               rotate_left
               ·simp only [puts_]
                rfl
               refine one_ (i := 21) (N := some 70) (bl 23 4194303) rfl rfl (one_of HT_.out (by kernel_rfl)) (by decide) (fun K hK => ?_)
               refine goes_ Try.func18 (by kernel_rfl) rfl #[.pointer (some ⟨g227, 0, none⟩), .int .i64 ((rd_T34 l1 x7_1).f0), .int .i64 ((rd_T34 l1 x7_1).f1), .int .i64 ((rd_T34 l1 x7_1).f2), .int .i64 ((rd_T34 l1 x7_1).f3)] (by rfl) rfl rfl (by (try simp only [List.map_toArray, List.map_cons, List.map_nil]); first | done | rfl | (simp only [List.length_drop, List.length_take]; rfl)) ?_
               with_reducible refine (aimd_Aimd_Update.calls kj8 g227 t231 t232 t233 t234 t235 t236 t237 t238 t239 ((rd_T34 l1 x7_1).f0) ((rd_T34 l1 x7_1).f1) ((rd_T34 l1 x7_1).f2) ((rd_T34 l1 x7_1).f3) t244 t245 t246 t247 t248 t249 t250 t251 t252 t253 w _ ?side1 ?side2 A15.out).mono ?_
               (case side1 => repeat (first | (with_reducible first | exact HI227.out | apply IsS63.alloc | apply IsS63.drewN | apply IsS63.drew | apply IsS63.set_0 | apply IsS63.set_1 | apply IsS63.set_2 | apply IsS63.set_3 | apply IsS63.set_4 | apply IsS63.set_5 | apply IsS63.set_6 | apply IsS63.set_7 | apply IsS63.set_8 | refine IsS63.far ?_ NB227_217.out _) | exact HI227.out))
               (case side2 => repeat (first | (with_reducible first | exact HB.out | apply below_alloc | apply pw_below_drewN | apply below_drew1 | refine below_set ?_ (IsS63.ge HI227.out) | refine below_set ?_ GE217.out) | exact HB.out))
               rintro e w53 ⟨rfl, hi, hb, hk⟩
               refine ⟨_, rfl, ?_⟩
               have n0_ := Aside0.mk (KeepBut.blk hk (g' := gb217) (o := .cells #[.int .i64 a0_0, .int .i64 a0_1, .int .i64 a0_2] 23 (0, 0)) (by (with_reducible repeat (first | refine blk_drewN ?_ _ | refine blk_drew ?_ | refine blk_alloc ?_ _)); exact BK217.out) NB217_227.out (by simp))
               have n1_ := Aside0.mk (hb)
               have n2_ := Aside0.mk (hi)
               clear BK217
               clear HB
               clear HI227
               have BK217 := n0_
               have HB := n1_
               have HI227 := n2_
               clear n0_ n1_ n2_
               (try clear hb)
               (try clear hb2)
               (try clear hk)
               (try clear hi)
               refine hK.out _ _ ⟨((HB.out.cell (World.block_lt_of_cell? w _ hw240_0)).trans hw240_0), ((HB.out.cell (World.block_lt_of_cell? w _ hw240_1)).trans hw240_1), ((HB.out.cell (World.block_lt_of_cell? w _ hw240_2)).trans hw240_2), ((HB.out.cell (World.block_lt_of_cell? w _ hw240_3)).trans hw240_3), ((HB.out.cell (World.block_lt_of_cell? w _ hw241_0)).trans hw241_0), ((HB.out.cell (World.block_lt_of_cell? w _ hw241_1)).trans hw241_1), ((HB.out.cell (World.block_lt_of_cell? w _ hw241_2)).trans hw241_2), ((HB.out.cell (World.block_lt_of_cell? w _ hw241_3)).trans hw241_3), ((HB.out.cell (World.block_lt_of_cell? w _ hw242_0)).trans hw242_0), ((HB.out.cell (World.block_lt_of_cell? w _ hw242_1)).trans hw242_1), ((HB.out.cell (World.block_lt_of_cell? w _ hw242_2)).trans hw242_2), ((HB.out.cell (World.block_lt_of_cell? w _ hw242_3)).trans hw242_3), ((HB.out.cell (World.block_lt_of_cell? w _ hw243_0)).trans hw243_0), ((HB.out.cell (World.block_lt_of_cell? w _ hw243_1)).trans hw243_1), ((HB.out.cell (World.block_lt_of_cell? w _ hw243_2)).trans hw243_2), ((HB.out.cell (World.block_lt_of_cell? w _ hw243_3)).trans hw243_3)⟩ (fun hHeld => ?_)
               clear hK K
               refine norm_ (a' := ?_) ?_ ?_
               rotate_left
               ·show Act.put _ (some 70) _ = _
                simp only [puts_]
                rfl
               refine pure_ (i := 22) (N := some 9) (v := ?_) (a' := ?_) (bl 23 8388607) rfl rfl (any_of HT_.out (by kernel_rfl)) (fun _ _ _ h => h) (Or.inl ⟨by rfl, ?_⟩) ?_ ?_
               rotate_left
               ·intro w'
                go_simp
                with_reducible rfl
               rotate_left
               ·simp only [puts_]
                rfl
               refine done_ (done_of HT_.out (by kernel_rfl)) ?_
               have hnb54 := NB217_227.out
               have hnc54 := NB227_217.out
               have hcz55_0 : w53.cell? ⟨gb217, 0, none⟩ = some (.int .i64 a0_0) := (blk_cell BK217.out 0).trans rfl
               have hcz55_1 : w53.cell? ⟨gb217, 1, none⟩ = some (.int .i64 a0_1) := (blk_cell BK217.out 1).trans rfl
               have hcz55_2 : w53.cell? ⟨gb217, 2, none⟩ = some (.int .i64 a0_2) := (blk_cell BK217.out 2).trans rfl
               have hfz55_0 := blk_frozen BK217.out 0
               have hfz55_1 := blk_frozen BK217.out 1
               have hfz55_2 := blk_frozen BK217.out 2
               try go_wp2_with (first | (go_at_call 17; (with_reducible refine (aimd_Aimd_Rate.calls g227 t245 t246 t247 t248 t249 t250 t251 t252 t253 t254 t255 t256 t257 t258 t259 t260 t261 t262 t263 w _ ?side1 ?side2 A28.out).mono ?_); (case side1 => repeat (first | (with_reducible first | exact HI227.out | apply IsS63.alloc | apply IsS63.drewN | apply IsS63.drew | apply IsS63.set_0 | apply IsS63.set_1 | apply IsS63.set_2 | apply IsS63.set_3 | apply IsS63.set_4 | apply IsS63.set_5 | apply IsS63.set_6 | apply IsS63.set_7 | apply IsS63.set_8 | refine IsS63.far ?_ NB227_217.out _) | exact HI227.out)); (case side2 => repeat (first | (with_reducible first | exact HB.out | apply below_alloc | apply pw_below_drewN | apply below_drew1 | refine below_set ?_ (IsS63.ge HI227.out) | refine below_set ?_ GE217.out) | exact HB.out)); rintro e w56 ⟨rfl, hi, hb, hk⟩; have n0_ := Aside0.mk (KeepBut.blk hk (g' := gb217) (o := .cells #[.int .i64 a0_0, .int .i64 a0_1, .int .i64 a0_2] 23 (0, 0)) (by (with_reducible repeat (first | refine blk_drewN ?_ _ | refine blk_drew ?_ | refine blk_alloc ?_ _)); exact BK217.out) NB217_227.out (by simp)); have n1_ := Aside0.mk (hb); have n2_ := Aside0.mk (hi); clear BK217; clear HB; clear HI227; have BK217 := n0_; have HB := n1_; have HI227 := n2_; clear n0_ n1_ n2_; (try clear hb); (try clear hb2); (try clear hk); (try clear hi); have p264 : 0 ≤ (x7_1 : Int) := of_decide_eq_true (by first | (with_reducible assumption) | assumption); have q264 : x7_1 < (l1.length : Int) := of_decide_eq_true (by first | (with_reducible assumption) | assumption); obtain ⟨ad264, e264, hx264_0, hx264_1, hx264_2, hx264_3⟩ := at_T34 HR1.out x7_1 p264 q264; obtain rfl : ad240 = ad264 := (by injection e264); replace hx264_0 := (HB.out.cell (World.block_lt_of_cell? w _ hx264_0)).trans hx264_0; replace hx264_1 := (HB.out.cell (World.block_lt_of_cell? w _ hx264_1)).trans hx264_1; replace hx264_2 := (HB.out.cell (World.block_lt_of_cell? w _ hx264_2)).trans hx264_2; replace hx264_3 := (HB.out.cell (World.block_lt_of_cell? w _ hx264_3)).trans hx264_3; replace p264 := eq_true p264; replace q264 := eq_true q264; have p266 : 0 ≤ (x7_1 : Int) := of_decide_eq_true (by first | (with_reducible assumption) | assumption); have q266 : x7_1 < (l1.length : Int) := of_decide_eq_true (by first | (with_reducible assumption) | assumption); obtain ⟨ad266, e266, hx266_0, hx266_1, hx266_2, hx266_3⟩ := at_T34 HR1.out x7_1 p266 q266; obtain rfl : ad240 = ad266 := (by injection e266); replace hx266_0 := (HB.out.cell (World.block_lt_of_cell? w _ hx266_0)).trans hx266_0; replace hx266_1 := (HB.out.cell (World.block_lt_of_cell? w _ hx266_1)).trans hx266_1; replace hx266_2 := (HB.out.cell (World.block_lt_of_cell? w _ hx266_2)).trans hx266_2; replace hx266_3 := (HB.out.cell (World.block_lt_of_cell? w _ hx266_3)).trans hx266_3; replace p266 := eq_true p266; replace q266 := eq_true q266))
               go_roundg kj8
               case measure => have := HK1.out; have := HJ8.out; omega
               case rel => exact ⟨(wrap64 (x7_1 + 1)), (t255), (t256), (t257), (t258), (t259), (t260), (t261), (t262), (t263), (by first | rfl | (simp; done) | (simp [*]; done)), H', ⟨by have := HK1.out; have := HJ8.out; omega⟩, ⟨by (with_reducible repeat (first | refine blk_drewN ?_ _ | refine blk_drew ?_ | refine blk_alloc ?_ _)); exact BK217.out⟩, ⟨by repeat (first | (with_reducible first | exact HI227.out | apply IsS63.alloc | apply IsS63.drewN | apply IsS63.drew | apply IsS63.set_0 | apply IsS63.set_1 | apply IsS63.set_2 | apply IsS63.set_3 | apply IsS63.set_4 | apply IsS63.set_5 | apply IsS63.set_6 | apply IsS63.set_7 | apply IsS63.set_8 | refine IsS63.far ?_ NB227_217.out _) | exact HI227.out)⟩, ⟨by repeat (first | (with_reducible first | exact HB.out | apply below_alloc | apply pw_below_drewN | apply below_drew1 | refine below_set ?_ (IsS63.ge HI227.out) | refine below_set ?_ GE217.out) | exact HB.out)⟩⟩
            ·rw [if_neg c29] at H
             have c29b0 : (t244 == t254) = false := beq_eq_false_iff_ne.mpr c29
             have c29b1 : (t244 != t254) = true := bne_iff_ne.mpr c29
             obtain rfl := Option.some.inj H
             try go_wp2_with (first | ((with_reducible refine gate_callee (f := 17) rfl ?_); refine goesL_ (some 48) rfl rfl Try.func17 (by kernel_rfl) rfl #[.pointer (some ⟨g227, 0, none⟩)] rfl (by (try simp only [List.map_toArray, List.map_cons, List.map_nil]); first | done | rfl | (simp only [List.length_drop, List.length_take]; rfl)) ?_; (with_reducible refine (aimd_Aimd_Rate.calls g227 x228000_1 x228001_1 x228002_1 x228003_1 x228004_1 x228005_1 x228006_1 x228007_1 x228008_1 t230 t231 t232 t233 t234 t235 t236 t237 t238 t239 w _ ?side1 ?side2 A12.out).mono ?_); (case side1 => repeat (first | (with_reducible first | exact HI227.out | apply IsS63.alloc | apply IsS63.drewN | apply IsS63.drew | apply IsS63.set_0 | apply IsS63.set_1 | apply IsS63.set_2 | apply IsS63.set_3 | apply IsS63.set_4 | apply IsS63.set_5 | apply IsS63.set_6 | apply IsS63.set_7 | apply IsS63.set_8 | refine IsS63.far ?_ NB227_217.out _) | exact HI227.out)); (case side2 => repeat (first | (with_reducible first | exact HB.out | apply below_alloc | apply pw_below_drewN | apply below_drew1 | refine below_set ?_ (IsS63.ge HI227.out) | refine below_set ?_ GE217.out) | exact HB.out)); rintro e w57 ⟨rfl, hi, hb, hk⟩; refine ⟨_, rfl, ?_⟩; have n0_ := Aside0.mk (KeepBut.blk hk (g' := gb217) (o := .cells #[.int .i64 a0_0, .int .i64 a0_1, .int .i64 a0_2] 23 (0, 0)) (by (with_reducible repeat (first | refine blk_drewN ?_ _ | refine blk_drew ?_ | refine blk_alloc ?_ _)); exact BK217.out) NB217_227.out (by simp)); have n1_ := Aside0.mk (hb); have n2_ := Aside0.mk (hi); clear BK217; clear HB; clear HI227; have BK217 := n0_; have HB := n1_; have HI227 := n2_; clear n0_ n1_ n2_; (try clear hb); (try clear hb2); (try clear hk); (try clear hi)))
             have n0_ := Aside0.mk (blk_drew BK217.out)
             have n1_ := Aside0.mk (IsS63.drew HI227.out)
             have n2_ := Aside0.mk (below_drew1 HB.out)
             clear BK217
             clear HI227
             clear HB
             have BK217 := n0_
             have HI227 := n1_
             have HB := n2_
             clear n0_ n1_ n2_
             have p240 : 0 ≤ (x7_1 : Int) := of_decide_eq_true (by first | (with_reducible assumption) | assumption)
             have q240 : x7_1 < (l1.length : Int) := of_decide_eq_true (by first | (with_reducible assumption) | assumption)
             obtain ⟨ad240, e240, hx240_0, hx240_1, hx240_2, hx240_3⟩ := at_T34 HR1.out x7_1 p240 q240
             have hw240_3 := hx240_3
             have hw240_2 := hx240_2
             have hw240_1 := hx240_1
             have hw240_0 := hx240_0
             cases e240
             replace hx240_0 := (HB.out.cell (World.block_lt_of_cell? w _ hx240_0)).trans hx240_0
             replace hx240_1 := (HB.out.cell (World.block_lt_of_cell? w _ hx240_1)).trans hx240_1
             replace hx240_2 := (HB.out.cell (World.block_lt_of_cell? w _ hx240_2)).trans hx240_2
             replace hx240_3 := (HB.out.cell (World.block_lt_of_cell? w _ hx240_3)).trans hx240_3
             replace p240 := eq_true p240
             replace q240 := eq_true q240
             have p241 : 0 ≤ (x7_1 : Int) := of_decide_eq_true (by first | (with_reducible assumption) | assumption)
             have q241 : x7_1 < (l1.length : Int) := of_decide_eq_true (by first | (with_reducible assumption) | assumption)
             obtain ⟨ad241, e241, hx241_0, hx241_1, hx241_2, hx241_3⟩ := at_T34 HR1.out x7_1 p241 q241
             have hw241_3 := hx241_3
             have hw241_2 := hx241_2
             have hw241_1 := hx241_1
             have hw241_0 := hx241_0
             obtain rfl : ad240 = ad241 := (by injection e241)
             replace hx241_0 := (HB.out.cell (World.block_lt_of_cell? w _ hx241_0)).trans hx241_0
             replace hx241_1 := (HB.out.cell (World.block_lt_of_cell? w _ hx241_1)).trans hx241_1
             replace hx241_2 := (HB.out.cell (World.block_lt_of_cell? w _ hx241_2)).trans hx241_2
             replace hx241_3 := (HB.out.cell (World.block_lt_of_cell? w _ hx241_3)).trans hx241_3
             replace p241 := eq_true p241
             replace q241 := eq_true q241
             have p242 : 0 ≤ (x7_1 : Int) := of_decide_eq_true (by first | (with_reducible assumption) | assumption)
             have q242 : x7_1 < (l1.length : Int) := of_decide_eq_true (by first | (with_reducible assumption) | assumption)
             obtain ⟨ad242, e242, hx242_0, hx242_1, hx242_2, hx242_3⟩ := at_T34 HR1.out x7_1 p242 q242
             have hw242_3 := hx242_3
             have hw242_2 := hx242_2
             have hw242_1 := hx242_1
             have hw242_0 := hx242_0
             obtain rfl : ad240 = ad242 := (by injection e242)
             replace hx242_0 := (HB.out.cell (World.block_lt_of_cell? w _ hx242_0)).trans hx242_0
             replace hx242_1 := (HB.out.cell (World.block_lt_of_cell? w _ hx242_1)).trans hx242_1
             replace hx242_2 := (HB.out.cell (World.block_lt_of_cell? w _ hx242_2)).trans hx242_2
             replace hx242_3 := (HB.out.cell (World.block_lt_of_cell? w _ hx242_3)).trans hx242_3
             replace p242 := eq_true p242
             replace q242 := eq_true q242
             have p243 : 0 ≤ (x7_1 : Int) := of_decide_eq_true (by first | (with_reducible assumption) | assumption)
             have q243 : x7_1 < (l1.length : Int) := of_decide_eq_true (by first | (with_reducible assumption) | assumption)
             obtain ⟨ad243, e243, hx243_0, hx243_1, hx243_2, hx243_3⟩ := at_T34 HR1.out x7_1 p243 q243
             have hw243_3 := hx243_3
             have hw243_2 := hx243_2
             have hw243_1 := hx243_1
             have hw243_0 := hx243_0
             obtain rfl : ad240 = ad243 := (by injection e243)
             replace hx243_0 := (HB.out.cell (World.block_lt_of_cell? w _ hx243_0)).trans hx243_0
             replace hx243_1 := (HB.out.cell (World.block_lt_of_cell? w _ hx243_1)).trans hx243_1
             replace hx243_2 := (HB.out.cell (World.block_lt_of_cell? w _ hx243_2)).trans hx243_2
             replace hx243_3 := (HB.out.cell (World.block_lt_of_cell? w _ hx243_3)).trans hx243_3
             replace p243 := eq_true p243
             replace q243 := eq_true q243
             refine start_ (n := 23) (S := fun w' => w'.cell? (ad240.add ((x7_1).toNat * 4)) = some (.int .i64 ((rd_T34 l1 x7_1).f0)) ∧ w'.cell? ⟨(ad240.add ((x7_1).toNat * 4)).block, (ad240.add ((x7_1).toNat * 4)).off + 1, none⟩ = some (.int .i64 ((rd_T34 l1 x7_1).f1)) ∧ w'.cell? ⟨(ad240.add ((x7_1).toNat * 4)).block, (ad240.add ((x7_1).toNat * 4)).off + 2, none⟩ = some (.int .i64 ((rd_T34 l1 x7_1).f2)) ∧ w'.cell? ⟨(ad240.add ((x7_1).toNat * 4)).block, (ad240.add ((x7_1).toNat * 4)).off + 3, none⟩ = some (.int .i64 ((rd_T34 l1 x7_1).f3)) ∧ w'.cell? (ad240.add ((x7_1).toNat * 4)) = some (.int .i64 ((rd_T34 l1 x7_1).f0)) ∧ w'.cell? ⟨(ad240.add ((x7_1).toNat * 4)).block, (ad240.add ((x7_1).toNat * 4)).off + 1, none⟩ = some (.int .i64 ((rd_T34 l1 x7_1).f1)) ∧ w'.cell? ⟨(ad240.add ((x7_1).toNat * 4)).block, (ad240.add ((x7_1).toNat * 4)).off + 2, none⟩ = some (.int .i64 ((rd_T34 l1 x7_1).f2)) ∧ w'.cell? ⟨(ad240.add ((x7_1).toNat * 4)).block, (ad240.add ((x7_1).toNat * 4)).off + 3, none⟩ = some (.int .i64 ((rd_T34 l1 x7_1).f3)) ∧ w'.cell? (ad240.add ((x7_1).toNat * 4)) = some (.int .i64 ((rd_T34 l1 x7_1).f0)) ∧ w'.cell? ⟨(ad240.add ((x7_1).toNat * 4)).block, (ad240.add ((x7_1).toNat * 4)).off + 1, none⟩ = some (.int .i64 ((rd_T34 l1 x7_1).f1)) ∧ w'.cell? ⟨(ad240.add ((x7_1).toNat * 4)).block, (ad240.add ((x7_1).toNat * 4)).off + 2, none⟩ = some (.int .i64 ((rd_T34 l1 x7_1).f2)) ∧ w'.cell? ⟨(ad240.add ((x7_1).toNat * 4)).block, (ad240.add ((x7_1).toNat * 4)).off + 3, none⟩ = some (.int .i64 ((rd_T34 l1 x7_1).f3)) ∧ w'.cell? (ad240.add ((x7_1).toNat * 4)) = some (.int .i64 ((rd_T34 l1 x7_1).f0)) ∧ w'.cell? ⟨(ad240.add ((x7_1).toNat * 4)).block, (ad240.add ((x7_1).toNat * 4)).off + 1, none⟩ = some (.int .i64 ((rd_T34 l1 x7_1).f1)) ∧ w'.cell? ⟨(ad240.add ((x7_1).toNat * 4)).block, (ad240.add ((x7_1).toNat * 4)).off + 2, none⟩ = some (.int .i64 ((rd_T34 l1 x7_1).f2)) ∧ w'.cell? ⟨(ad240.add ((x7_1).toNat * 4)).block, (ad240.add ((x7_1).toNat * 4)).off + 3, none⟩ = some (.int .i64 ((rd_T34 l1 x7_1).f3))) (ds := []) #[false, false, false, false, false, false, false, false, false, false, false, false, false, false, false, false, false, false, false, false, false, false, false] (by kernel_rfl) rfl rfl ⟨((HB.out.cell (World.block_lt_of_cell? w _ hw240_0)).trans hw240_0), ((HB.out.cell (World.block_lt_of_cell? w _ hw240_1)).trans hw240_1), ((HB.out.cell (World.block_lt_of_cell? w _ hw240_2)).trans hw240_2), ((HB.out.cell (World.block_lt_of_cell? w _ hw240_3)).trans hw240_3), ((HB.out.cell (World.block_lt_of_cell? w _ hw241_0)).trans hw241_0), ((HB.out.cell (World.block_lt_of_cell? w _ hw241_1)).trans hw241_1), ((HB.out.cell (World.block_lt_of_cell? w _ hw241_2)).trans hw241_2), ((HB.out.cell (World.block_lt_of_cell? w _ hw241_3)).trans hw241_3), ((HB.out.cell (World.block_lt_of_cell? w _ hw242_0)).trans hw242_0), ((HB.out.cell (World.block_lt_of_cell? w _ hw242_1)).trans hw242_1), ((HB.out.cell (World.block_lt_of_cell? w _ hw242_2)).trans hw242_2), ((HB.out.cell (World.block_lt_of_cell? w _ hw242_3)).trans hw242_3), ((HB.out.cell (World.block_lt_of_cell? w _ hw243_0)).trans hw243_0), ((HB.out.cell (World.block_lt_of_cell? w _ hw243_1)).trans hw243_1), ((HB.out.cell (World.block_lt_of_cell? w _ hw243_2)).trans hw243_2), ((HB.out.cell (World.block_lt_of_cell? w _ hw243_3)).trans hw243_3)⟩ (fun hHeld => ?_); refine with_tabW flywheellaw19_AimdBounds.tab8 flywheellaw19_AimdBounds.bits8 (fun HT_ HW_ => ?_)
             generalize w57.drew = w58 at BK217 HI227 HB hx240_0 hx240_1 hx240_2 hx240_3 hx241_0 hx241_1 hx241_2 hx241_3 hx242_0 hx242_1 hx242_2 hx242_3 hx243_0 hx243_1 hx243_2 hx243_3 hHeld ⊢
             refine pure_ (i := 0) (N := some 49) (v := ?_) (a' := ?_) (bl 23 1) rfl rfl (any_of HT_.out (by kernel_rfl)) (fun _ _ _ h => h) (Or.inl ⟨by rfl, ?_⟩) ?_ ?_
             rotate_left
             ·intro w'
              go_simp
              with_reducible rfl
             rotate_left
             ·simp only [puts_]
              rfl
             refine pure_ (i := 1) (N := some 50) (v := ?_) (a' := ?_) (bl 23 3) rfl rfl (any_of HT_.out (by kernel_rfl)) (fun _ _ _ h => h) (Or.inl ⟨by rfl, ?_⟩) ?_ ?_
             rotate_left
             ·intro w'
              go_simp
              with_reducible rfl
             rotate_left
             ·simp only [puts_]
              rfl
             refine pure_ (i := 2) (N := some 51) (v := ?_) (a' := ?_) (bl 23 7) rfl rfl (any_of HT_.out (by kernel_rfl)) (fun _ _ _ h => h) (Or.inl ⟨by rfl, ?_⟩) ?_ ?_
             rotate_left
             ·intro w'
              go_simp
              with_reducible rfl
             rotate_left
             ·simp only [puts_]
              rfl
             refine pure_ (i := 3) (N := some 52) (v := ?_) (a' := ?_) (bl 23 15) rfl rfl (any_of HT_.out (by kernel_rfl)) (fun _ _ _ h => h) (Or.inl ⟨by rfl, ?_⟩) ?_ ?_
             rotate_left
             ·intro w'
              go_simp
              with_reducible rfl
             rotate_left
             ·simp only [puts_]
              rfl
             refine pure_ (i := 4) (N := some 53) (v := ?_) (a' := ?_) (bl 23 31) rfl rfl (any_of HT_.out (by kernel_rfl)) (fun _ _ _ h => h) (Or.inl ⟨by rfl, ?_⟩) ?_ ?_
             rotate_left
             ·intro w'
              go_simp
              with_reducible rfl
             rotate_left
             ·simp only [puts_]
              rfl
             refine pure_ (i := 6) (N := some 55) (v := ?_) (a' := ?_) (bl 23 95) rfl rfl (any_of HT_.out (by kernel_rfl)) (fun _ _ _ h => h) (Or.inl ⟨by rfl, ?_⟩) ?_ ?_
             rotate_left
             ·intro w'
              go_simp
              with_reducible rfl
             rotate_left
             ·simp only [puts_]
              rfl
             refine pure_ (i := 7) (N := some 56) (v := ?_) (a' := ?_) (bl 23 223) rfl rfl (any_of HT_.out (by kernel_rfl)) (fun _ _ _ h => h) (Or.inl ⟨by rfl, ?_⟩) ?_ ?_
             rotate_left
             ·intro w'
              go_simp
              with_reducible rfl
             rotate_left
             ·simp only [puts_]
              rfl
             refine pure_ (i := 8) (N := some 57) (v := ?_) (a' := ?_) (bl 23 479) rfl rfl (any_of HT_.out (by kernel_rfl)) (fun _ _ _ h => h) (Or.inl ⟨by rfl, ?_⟩) ?_ ?_
             rotate_left
             ·intro w'
              go_simp
              with_reducible rfl
             rotate_left
             ·simp only [puts_]
              rfl
             refine pure_ (i := 9) (N := some 58) (v := ?_) (a' := ?_) (bl 23 991) rfl rfl (any_of HT_.out (by kernel_rfl)) (fun _ _ _ h => h) (Or.inl ⟨by rfl, ?_⟩) ?_ ?_
             rotate_left
             ·intro w'
              go_simp
              with_reducible rfl
             rotate_left
             ·simp only [puts_]
              rfl
             refine pure_ (i := 11) (N := some 60) (v := ?_) (a' := ?_) (bl 23 3039) rfl rfl (any_of HT_.out (by kernel_rfl)) (fun _ _ _ h => h) (Or.inl ⟨by rfl, ?_⟩) ?_ ?_
             rotate_left
             ·intro w'
              go_simp
              with_reducible rfl
             rotate_left
             ·simp only [puts_]
              rfl
             refine pure_ (i := 12) (N := some 61) (v := ?_) (a' := ?_) (bl 23 7135) rfl rfl (any_of HT_.out (by kernel_rfl)) (fun _ _ _ h => h) (Or.inl ⟨by rfl, ?_⟩) ?_ ?_
             rotate_left
             ·intro w'
              go_simp
              with_reducible rfl
             rotate_left
             ·simp only [puts_]
              rfl
             refine pure_ (i := 13) (N := some 62) (v := ?_) (a' := ?_) (bl 23 15327) rfl rfl (any_of HT_.out (by kernel_rfl)) (fun _ _ _ h => h) (Or.inl ⟨by rfl, ?_⟩) ?_ ?_
             rotate_left
             ·intro w'
              go_simp
              with_reducible rfl
             rotate_left
             ·simp only [puts_]
              rfl
             refine pure_ (i := 14) (N := some 63) (v := ?_) (a' := ?_) (bl 23 31711) rfl rfl (any_of HT_.out (by kernel_rfl)) (fun _ _ _ h => h) (Or.inl ⟨by rfl, ?_⟩) ?_ ?_
             rotate_left
             ·intro w'
              go_simp
              with_reducible rfl
             rotate_left
             ·simp only [puts_]
              rfl
             refine pure_ (i := 16) (N := some 65) (v := ?_) (a' := ?_) (bl 23 97247) rfl rfl (any_of HT_.out (by kernel_rfl)) (fun _ _ _ h => h) (Or.inl ⟨by rfl, ?_⟩) ?_ ?_
             rotate_left
             ·intro w'
              go_simp
              with_reducible rfl
             rotate_left
             ·simp only [puts_]
              rfl
             refine pure_ (i := 17) (N := some 66) (v := ?_) (a' := ?_) (bl 23 228319) rfl rfl (any_of HT_.out (by kernel_rfl)) (fun _ _ _ h => h) (Or.inl ⟨by rfl, ?_⟩) ?_ ?_
             rotate_left
             ·intro w'
              go_simp
              with_reducible rfl
             rotate_left
             ·simp only [puts_]
              rfl
             refine pure_ (i := 18) (N := some 67) (v := ?_) (a' := ?_) (bl 23 490463) rfl rfl (any_of HT_.out (by kernel_rfl)) (fun _ _ _ h => h) (Or.inl ⟨by rfl, ?_⟩) ?_ ?_
             rotate_left
             ·intro w'
              go_simp
              with_reducible rfl
             rotate_left
             ·simp only [puts_]
              rfl
             refine pure_ (i := 19) (N := some 68) (v := ?_) (a' := ?_) (bl 23 1014751) rfl rfl (any_of HT_.out (by kernel_rfl)) (fun _ _ _ h => h) (Or.inl ⟨by rfl, ?_⟩) ?_ ?_
             rotate_left
             ·intro w'
              go_simp
              with_reducible rfl
             rotate_left
             ·simp only [puts_]
              rfl
             refine take_ (i := 5) (N := some 54) (v := ?_) (a' := ?_) (bl 23 1014783) rfl rfl (take_ofW HT_.out HW_.out (by kernel_rfl)) (fun _ _ _ h => h) (Or.inl ⟨by rfl, ?_⟩) hHeld ?_ ?_
             rotate_left
             ·rintro w' ⟨s0, s1, s2, s3, s4, s5, s6, s7, s8, s9, s10, s11, s12, s13, s14, s15⟩
              go_simp
              with_reducible rfl
             rotate_left
             ·simp only [puts_]
              rfl
             refine take_ (i := 10) (N := some 59) (v := ?_) (a' := ?_) (bl 23 1015807) rfl rfl (take_ofW HT_.out HW_.out (by kernel_rfl)) (fun _ _ _ h => h) (Or.inl ⟨by rfl, ?_⟩) hHeld ?_ ?_
             rotate_left
             ·rintro w' ⟨s0, s1, s2, s3, s4, s5, s6, s7, s8, s9, s10, s11, s12, s13, s14, s15⟩
              go_simp
              with_reducible rfl
             rotate_left
             ·simp only [puts_]
              rfl
             refine take_ (i := 15) (N := some 64) (v := ?_) (a' := ?_) (bl 23 1048575) rfl rfl (take_ofW HT_.out HW_.out (by kernel_rfl)) (fun _ _ _ h => h) (Or.inl ⟨by rfl, ?_⟩) hHeld ?_ ?_
             rotate_left
             ·rintro w' ⟨s0, s1, s2, s3, s4, s5, s6, s7, s8, s9, s10, s11, s12, s13, s14, s15⟩
              go_simp
              with_reducible rfl
             rotate_left
             ·simp only [puts_]
              rfl
             refine take_ (i := 20) (N := some 69) (v := ?_) (a' := ?_) (bl 23 2097151) rfl rfl (take_ofW HT_.out HW_.out (by kernel_rfl)) (fun _ _ _ h => h) (Or.inl ⟨by rfl, ?_⟩) hHeld ?_ ?_
             rotate_left
             ·rintro w' ⟨s0, s1, s2, s3, s4, s5, s6, s7, s8, s9, s10, s11, s12, s13, s14, s15⟩
              go_simp
              with_reducible rfl
             rotate_left
             ·simp only [puts_]
              rfl
             refine one_ (i := 21) (N := some 70) (bl 23 4194303) rfl rfl (one_of HT_.out (by kernel_rfl)) (by decide) (fun K hK => ?_)
             refine goes_ Try.func18 (by kernel_rfl) rfl #[.pointer (some ⟨g227, 0, none⟩), .int .i64 ((rd_T34 l1 x7_1).f0), .int .i64 ((rd_T34 l1 x7_1).f1), .int .i64 ((rd_T34 l1 x7_1).f2), .int .i64 ((rd_T34 l1 x7_1).f3)] (by rfl) rfl rfl (by (try simp only [List.map_toArray, List.map_cons, List.map_nil]); first | done | rfl | (simp only [List.length_drop, List.length_take]; rfl)) ?_
             with_reducible refine (aimd_Aimd_Update.calls kj8 g227 t231 t232 t233 t234 t235 t236 t237 t238 t239 ((rd_T34 l1 x7_1).f0) ((rd_T34 l1 x7_1).f1) ((rd_T34 l1 x7_1).f2) ((rd_T34 l1 x7_1).f3) t244 t245 t246 t247 t248 t249 t250 t251 t252 t253 w _ ?side1 ?side2 A15.out).mono ?_
             (case side1 => repeat (first | (with_reducible first | exact HI227.out | apply IsS63.alloc | apply IsS63.drewN | apply IsS63.drew | apply IsS63.set_0 | apply IsS63.set_1 | apply IsS63.set_2 | apply IsS63.set_3 | apply IsS63.set_4 | apply IsS63.set_5 | apply IsS63.set_6 | apply IsS63.set_7 | apply IsS63.set_8 | refine IsS63.far ?_ NB227_217.out _) | exact HI227.out))
             (case side2 => repeat (first | (with_reducible first | exact HB.out | apply below_alloc | apply pw_below_drewN | apply below_drew1 | refine below_set ?_ (IsS63.ge HI227.out) | refine below_set ?_ GE217.out) | exact HB.out))
             rintro e w59 ⟨rfl, hi, hb, hk⟩
             refine ⟨_, rfl, ?_⟩
             have n0_ := Aside0.mk (KeepBut.blk hk (g' := gb217) (o := .cells #[.int .i64 a0_0, .int .i64 a0_1, .int .i64 a0_2] 23 (0, 0)) (by (with_reducible repeat (first | refine blk_drewN ?_ _ | refine blk_drew ?_ | refine blk_alloc ?_ _)); exact BK217.out) NB217_227.out (by simp))
             have n1_ := Aside0.mk (hb)
             have n2_ := Aside0.mk (hi)
             clear BK217
             clear HB
             clear HI227
             have BK217 := n0_
             have HB := n1_
             have HI227 := n2_
             clear n0_ n1_ n2_
             (try clear hb)
             (try clear hb2)
             (try clear hk)
             (try clear hi)
             refine hK.out _ _ ⟨((HB.out.cell (World.block_lt_of_cell? w _ hw240_0)).trans hw240_0), ((HB.out.cell (World.block_lt_of_cell? w _ hw240_1)).trans hw240_1), ((HB.out.cell (World.block_lt_of_cell? w _ hw240_2)).trans hw240_2), ((HB.out.cell (World.block_lt_of_cell? w _ hw240_3)).trans hw240_3), ((HB.out.cell (World.block_lt_of_cell? w _ hw241_0)).trans hw241_0), ((HB.out.cell (World.block_lt_of_cell? w _ hw241_1)).trans hw241_1), ((HB.out.cell (World.block_lt_of_cell? w _ hw241_2)).trans hw241_2), ((HB.out.cell (World.block_lt_of_cell? w _ hw241_3)).trans hw241_3), ((HB.out.cell (World.block_lt_of_cell? w _ hw242_0)).trans hw242_0), ((HB.out.cell (World.block_lt_of_cell? w _ hw242_1)).trans hw242_1), ((HB.out.cell (World.block_lt_of_cell? w _ hw242_2)).trans hw242_2), ((HB.out.cell (World.block_lt_of_cell? w _ hw242_3)).trans hw242_3), ((HB.out.cell (World.block_lt_of_cell? w _ hw243_0)).trans hw243_0), ((HB.out.cell (World.block_lt_of_cell? w _ hw243_1)).trans hw243_1), ((HB.out.cell (World.block_lt_of_cell? w _ hw243_2)).trans hw243_2), ((HB.out.cell (World.block_lt_of_cell? w _ hw243_3)).trans hw243_3)⟩ (fun hHeld => ?_)
             clear hK K
             refine norm_ (a' := ?_) ?_ ?_
             rotate_left
             ·show Act.put _ (some 70) _ = _
              simp only [puts_]
              rfl
             refine pure_ (i := 22) (N := some 9) (v := ?_) (a' := ?_) (bl 23 8388607) rfl rfl (any_of HT_.out (by kernel_rfl)) (fun _ _ _ h => h) (Or.inl ⟨by rfl, ?_⟩) ?_ ?_
             rotate_left
             ·intro w'
              go_simp
              with_reducible rfl
             rotate_left
             ·simp only [puts_]
              rfl
             refine done_ (done_of HT_.out (by kernel_rfl)) ?_
             have hnb60 := NB217_227.out
             have hnc60 := NB227_217.out
             have hcz61_0 : w59.cell? ⟨gb217, 0, none⟩ = some (.int .i64 a0_0) := (blk_cell BK217.out 0).trans rfl
             have hcz61_1 : w59.cell? ⟨gb217, 1, none⟩ = some (.int .i64 a0_1) := (blk_cell BK217.out 1).trans rfl
             have hcz61_2 : w59.cell? ⟨gb217, 2, none⟩ = some (.int .i64 a0_2) := (blk_cell BK217.out 2).trans rfl
             have hfz61_0 := blk_frozen BK217.out 0
             have hfz61_1 := blk_frozen BK217.out 1
             have hfz61_2 := blk_frozen BK217.out 2
             try go_wp2_with (first | (go_at_call 17; (with_reducible refine (aimd_Aimd_Rate.calls g227 t245 t246 t247 t248 t249 t250 t251 t252 t253 t254 t255 t256 t257 t258 t259 t260 t261 t262 t263 w _ ?side1 ?side2 A28.out).mono ?_); (case side1 => repeat (first | (with_reducible first | exact HI227.out | apply IsS63.alloc | apply IsS63.drewN | apply IsS63.drew | apply IsS63.set_0 | apply IsS63.set_1 | apply IsS63.set_2 | apply IsS63.set_3 | apply IsS63.set_4 | apply IsS63.set_5 | apply IsS63.set_6 | apply IsS63.set_7 | apply IsS63.set_8 | refine IsS63.far ?_ NB227_217.out _) | exact HI227.out)); (case side2 => repeat (first | (with_reducible first | exact HB.out | apply below_alloc | apply pw_below_drewN | apply below_drew1 | refine below_set ?_ (IsS63.ge HI227.out) | refine below_set ?_ GE217.out) | exact HB.out)); rintro e w62 ⟨rfl, hi, hb, hk⟩; have n0_ := Aside0.mk (KeepBut.blk hk (g' := gb217) (o := .cells #[.int .i64 a0_0, .int .i64 a0_1, .int .i64 a0_2] 23 (0, 0)) (by (with_reducible repeat (first | refine blk_drewN ?_ _ | refine blk_drew ?_ | refine blk_alloc ?_ _)); exact BK217.out) NB217_227.out (by simp)); have n1_ := Aside0.mk (hb); have n2_ := Aside0.mk (hi); clear BK217; clear HB; clear HI227; have BK217 := n0_; have HB := n1_; have HI227 := n2_; clear n0_ n1_ n2_; (try clear hb); (try clear hb2); (try clear hk); (try clear hi)))
             go_ret
             exact ⟨by first | rfl | (simp [errW_none, errW_some] <;> rfl) | (simp [*, errW_none, errW_some] <;> rfl), by repeat (first | (with_reducible first | exact HB.out | apply below_alloc | apply pw_below_drewN | apply below_drew1 | refine below_set ?_ (IsS63.ge HI227.out) | refine below_set ?_ GE217.out) | exact HB.out)⟩
         ·rw [if_neg c14] at H
          exact absurd H (by simp)
        ·rw [if_neg c13] at H
         exact absurd H (by simp)
       ·replace c11 := Bool.eq_false_iff.mpr c11
        subst c11
        have H1 : ((flywheellaw19_wakes.f kj8).bind fun t229 => (some t229)) = some r := by rw [if_neg (show ¬ (false = true) by decide)] at H; exact H
        clear H
        have H := H1
        clear H1
        replace H := Option.bind_eq_some_iff.mp H
        obtain ⟨t229, A630, H⟩ := H
        replace H : (some t229) = some r := H
        have A63 := Aside0.mk A630
        clear A630
        obtain rfl := Option.some.inj H
        go_wp2_with (first | ((with_reducible refine gate_callee (f := 16) rfl ?_); refine goesL_ (some 113) rfl rfl Try.func16 (by kernel_rfl) rfl #[] rfl (by (try simp only [List.map_toArray, List.map_cons, List.map_nil]); first | done | rfl | (simp only [List.length_drop, List.length_take]; rfl)) ?_; (with_reducible refine (flywheellaw19_wakes.calls kj8  t229 _ A63.out).mono ?_); rintro e w64 ⟨rfl, hb⟩; refine ⟨_, rfl, ?_⟩; have n0_ := Aside0.mk (blk_below (g := gb217) (o := .cells #[.int .i64 a0_0, .int .i64 a0_1, .int .i64 a0_2] 23 (0, 0)) (by (with_reducible repeat (first | refine blk_drewN ?_ _ | refine blk_drew ?_ | refine blk_alloc ?_ _)); exact BK217.out) hb); have n1_ := Aside0.mk (IsS63.below (by repeat (first | (with_reducible first | exact HI227.out | apply IsS63.alloc | apply IsS63.drewN | apply IsS63.drew | apply IsS63.set_0 | apply IsS63.set_1 | apply IsS63.set_2 | apply IsS63.set_3 | apply IsS63.set_4 | apply IsS63.set_5 | apply IsS63.set_6 | apply IsS63.set_7 | apply IsS63.set_8 | refine IsS63.far ?_ NB227_217.out _) | exact HI227.out)) hb); have n2_ := Aside0.mk (below_step (by repeat (first | (with_reducible first | exact HB.out | apply below_alloc | apply pw_below_drewN | apply below_drew1 | refine below_set ?_ (IsS63.ge HI227.out) | refine below_set ?_ GE217.out) | exact HB.out)) hb); clear BK217; clear HI227; clear HB; have BK217 := n0_; have HI227 := n1_; have HB := n2_; clear n0_ n1_ n2_; (try clear hb); (try clear hb2); (try clear hk); (try clear hi)))
        go_ret
        exact ⟨by first | rfl | (simp [errW_none, errW_some] <;> rfl) | (simp [*, errW_none, errW_some] <;> rfl), by repeat (first | (with_reducible first | exact HB.out | apply below_alloc | apply pw_below_drewN | apply below_drew1 | refine below_set ?_ (IsS63.ge HI227.out) | refine below_set ?_ GE217.out) | exact HB.out)⟩
  ·rw [if_neg c5] at H
   have c5b0 : (t228 == 0) = false := beq_eq_false_iff_ne.mpr c5
   have c5b1 : (t228 != 0) = true := bne_iff_ne.mpr c5
   obtain rfl := Option.some.inj H
   go_enter Try.func3, Try.ntmps3
   go_wp2_with (first | ((with_reducible refine gate_dst (N := 2) rfl ?_); refine box_event ?hg (N := 2) ?hd (cs := #[.int .i64 a0_0, .int .i64 a0_1, .int .i64 a0_2]) (t := 23) ?hr ?_; (case hd => rfl); (case hg => rfl); (case hr => first | (go_simp; done) | (go_simp; rfl)); intro gb217 hg w65 hbox hb; have n0_ := Aside0.mk (below_step (by repeat (first | (with_reducible first | exact HB.out | apply below_alloc | apply pw_below_drewN | apply below_drew1) | exact HB.out)) hb); have n1_ := Aside0.mk (hbox); have n2_ := Aside0.mk ((by rw [hg]; exact (below_size (by repeat (first | (with_reducible first | exact HB.out | apply below_alloc | apply pw_below_drewN | apply below_drew1) | exact HB.out))) : w.heap.size ≤ gb217)); have n3_ := Aside0.mk ((by rw [hg]; exact (below_size (by repeat (first | (with_reducible first | exact HB.out | apply below_alloc | apply pw_below_drewN | apply below_drew1) | exact HB.out))) : w.heap.size ≤ gb217)); clear HB; have HB := n0_; have BK217 := n1_; have GW217 := n2_; have GE217 := n3_; clear n0_ n1_ n2_ n3_; clear hb hbox hg; have hcz66_0 : w65.cell? ⟨gb217, 0, none⟩ = some (.int .i64 a0_0) := (blk_cell BK217.out 0).trans rfl; have hcz66_1 : w65.cell? ⟨gb217, 1, none⟩ = some (.int .i64 a0_1) := (blk_cell BK217.out 1).trans rfl; have hcz66_2 : w65.cell? ⟨gb217, 2, none⟩ = some (.int .i64 a0_2) := (blk_cell BK217.out 2).trans rfl; have hfz66_0 := blk_frozen BK217.out 0; have hfz66_1 := blk_frozen BK217.out 1; have hfz66_2 := blk_frozen BK217.out 2) | ((with_reducible refine gate_callee (f := 14) rfl ?_); refine goesL_ (some 17) rfl rfl Try.func14 (by kernel_rfl) rfl #[.int .i64 a0_0, .int .i64 a0_1, .int .i64 a0_2] rfl (by (try simp only [List.map_toArray, List.map_cons, List.map_nil]); first | done | rfl | (simp only [List.length_drop, List.length_take]; rfl)) ?_; (with_reducible refine (aimd_New.made.calls a0_0 a0_1 a0_2 t218 t219 t220 t221 t222 t223 t224 t225 t226 t228 _ _ (Below.refl _ _) A4.out).mono ?_); rintro e w67 ⟨g227, rfl, hi, hb, hb2⟩; refine ⟨_, rfl, ?_⟩; have n0_ := Aside0.mk (blk_below (g := gb217) (o := .cells #[.int .i64 a0_0, .int .i64 a0_1, .int .i64 a0_2] 23 (0, 0)) (by (with_reducible repeat (first | refine blk_drewN ?_ _ | refine blk_drew ?_ | refine blk_alloc ?_ _)); exact BK217.out) hb2); have n1_ := Aside0.mk (below_step (by repeat (first | (with_reducible first | exact HB.out | apply below_alloc | apply pw_below_drewN | apply below_drew1 | refine below_set ?_ GE217.out) | exact HB.out)) hb2); have n2_ := Aside0.mk ((IsS63.rebase hi (below_size (by repeat (first | (with_reducible first | exact HB.out | apply below_alloc | apply pw_below_drewN | apply below_drew1 | refine below_set ?_ GE217.out) | exact HB.out))))); have n3_ := Aside0.mk (IsS63.ne_blk hi (blk_below (g := gb217) (o := .cells #[.int .i64 a0_0, .int .i64 a0_1, .int .i64 a0_2] 23 (0, 0)) (by (with_reducible repeat (first | refine blk_drewN ?_ _ | refine blk_drew ?_ | refine blk_alloc ?_ _)); exact BK217.out) hb2) (by decide)); have n4_ := Aside0.mk (Ne.symm (IsS63.ne_blk hi (blk_below (g := gb217) (o := .cells #[.int .i64 a0_0, .int .i64 a0_1, .int .i64 a0_2] 23 (0, 0)) (by (with_reducible repeat (first | refine blk_drewN ?_ _ | refine blk_drew ?_ | refine blk_alloc ?_ _)); exact BK217.out) hb2) (by decide))); clear BK217; clear HB; have BK217 := n0_; have HB := n1_; have HI227 := n2_; have NB227_217 := n3_; have NB217_227 := n4_; clear n0_ n1_ n2_ n3_ n4_; (try clear hb); (try clear hb2); (try clear hk); (try clear hi)))
   go_ret
   exact ⟨by first | rfl | (simp [errW_none, errW_some] <;> rfl) | (simp [*, errW_none, errW_some] <;> rfl), by repeat (first | (with_reducible first | exact HB.out | apply below_alloc | apply pw_below_drewN | apply below_drew1 | refine below_set ?_ (IsS63.ge HI227.out) | refine below_set ?_ GE217.out) | exact HB.out)⟩
 ·rw [if_neg c3] at H
  have c3b0 : (aimd_New.made.f a0_0 a0_1 a0_2).isSome = false := by simpa using c3
  clear c3
  replace H := Option.bind_eq_some_iff.mp H
  obtain ⟨t267, A680, H⟩ := H
  replace H : (if t267 = 0 then (flywheellaw19_AimdBounds.l5000 k l1 0) else ((flywheelref19_Rates.f a0_0 a0_1 a0_2).bind fun t268 => (if t268 = true then (some false) else ((flywheellaw19_wakes.f k).bind fun t269 => (some t269))))) = some r := H
  have A68 := Aside0.mk A680
  clear A680
  by_cases c69 : t267 = 0
  ·rw [if_pos c69] at H
   have c69b0 : (t267 == 0) = true := beq_iff_eq.mpr c69
   have c69b1 : (t267 != 0) = false := bne_eq_false_iff_eq.mpr c69
   clear c69
   have H' := Aside0.mk H
   clear H
   go_enter Try.func3, Try.ntmps3
   go_wp2_with (first | ((with_reducible refine gate_dst (N := 2) rfl ?_); refine box_event ?hg (N := 2) ?hd (cs := #[.int .i64 a0_0, .int .i64 a0_1, .int .i64 a0_2]) (t := 23) ?hr ?_; (case hd => rfl); (case hg => rfl); (case hr => first | (go_simp; done) | (go_simp; rfl)); intro gb217 hg w70 hbox hb; have n0_ := Aside0.mk (below_step (by repeat (first | (with_reducible first | exact HB.out | apply below_alloc | apply pw_below_drewN | apply below_drew1) | exact HB.out)) hb); have n1_ := Aside0.mk (hbox); have n2_ := Aside0.mk ((by rw [hg]; exact (below_size (by repeat (first | (with_reducible first | exact HB.out | apply below_alloc | apply pw_below_drewN | apply below_drew1) | exact HB.out))) : w.heap.size ≤ gb217)); have n3_ := Aside0.mk ((by rw [hg]; exact (below_size (by repeat (first | (with_reducible first | exact HB.out | apply below_alloc | apply pw_below_drewN | apply below_drew1) | exact HB.out))) : w.heap.size ≤ gb217)); clear HB; have HB := n0_; have BK217 := n1_; have GW217 := n2_; have GE217 := n3_; clear n0_ n1_ n2_ n3_; clear hb hbox hg; have hcz71_0 : w70.cell? ⟨gb217, 0, none⟩ = some (.int .i64 a0_0) := (blk_cell BK217.out 0).trans rfl; have hcz71_1 : w70.cell? ⟨gb217, 1, none⟩ = some (.int .i64 a0_1) := (blk_cell BK217.out 1).trans rfl; have hcz71_2 : w70.cell? ⟨gb217, 2, none⟩ = some (.int .i64 a0_2) := (blk_cell BK217.out 2).trans rfl; have hfz71_0 := blk_frozen BK217.out 0; have hfz71_1 := blk_frozen BK217.out 1; have hfz71_2 := blk_frozen BK217.out 2) | ((with_reducible refine gate_callee (f := 14) rfl ?_); refine goesL_ (some 17) rfl rfl Try.func14 (by kernel_rfl) rfl #[.int .i64 a0_0, .int .i64 a0_1, .int .i64 a0_2] rfl (by (try simp only [List.map_toArray, List.map_cons, List.map_nil]); first | done | rfl | (simp only [List.length_drop, List.length_take]; rfl)) ?_; (with_reducible refine (aimd_New.nil.calls a0_0 a0_1 a0_2 t267 _ A68.out).mono ?_); rintro e w72 ⟨rfl, hb⟩; refine ⟨_, rfl, ?_⟩; have n0_ := Aside0.mk (blk_below (g := gb217) (o := .cells #[.int .i64 a0_0, .int .i64 a0_1, .int .i64 a0_2] 23 (0, 0)) (by (with_reducible repeat (first | refine blk_drewN ?_ _ | refine blk_drew ?_ | refine blk_alloc ?_ _)); exact BK217.out) hb); have n1_ := Aside0.mk (below_step (by repeat (first | (with_reducible first | exact HB.out | apply below_alloc | apply pw_below_drewN | apply below_drew1 | refine below_set ?_ GE217.out) | exact HB.out)) hb); clear BK217; clear HB; have BK217 := n0_; have HB := n1_; clear n0_ n1_; (try clear hb); (try clear hb2); (try clear hk); (try clear hi)))
   go_loopg [7] k (fun kq v7 w' => ∃ (x7_1 : Int), v7 = .int .i64 x7_1 ∧ Aside0 (flywheellaw19_AimdBounds.l5000 kq l1 x7_1 = some r) ∧ Aside0 (kq ≤ k) ∧ Aside0 (w'.heap[gb217]? = some (.cells #[.int .i64 a0_0, .int .i64 a0_1, .int .i64 a0_2] 23 (0, 0))) ∧ Aside0 (Below w.heap.size w w'))
   case atStart => exact ⟨(0), (by first | rfl | (simp; done) | (simp [*]; done)), H', ⟨Nat.le_refl _⟩, ⟨by (with_reducible repeat (first | refine blk_drewN ?_ _ | refine blk_drew ?_ | refine blk_alloc ?_ _)); exact BK217.out⟩, ⟨by repeat (first | (with_reducible first | exact HB.out | apply below_alloc | apply pw_below_drewN | apply below_drew1 | refine below_set ?_ GE217.out) | exact HB.out)⟩⟩
   case round =>
    clear H'
    try clear c1
    try clear c2
    try clear p2
    try clear q2
    try clear hx2
    try clear c3
    try clear c3b0
    try clear c5
    try clear c5b0
    try clear c5b1
    try clear c6
    try clear p6
    try clear c11
    try clear c13
    try clear c14
    try clear c16
    try clear c17
    try clear c18
    try clear p24
    try clear q24
    try clear hx24
    try clear p26
    try clear q26
    try clear hx26
    try clear c29
    try clear c29b0
    try clear c29b1
    try clear c54
    try clear c60
    try clear p64
    try clear c69
    try clear c69b0
    try clear c69b1
    try clear hcz55_0
    try clear hcz55_1
    try clear hcz55_2
    try clear hcz61_0
    try clear hcz61_1
    try clear hcz61_2
    try clear hcz66_0
    try clear hcz66_1
    try clear hcz66_2
    try clear hcz71_0
    try clear hcz71_1
    try clear hcz71_2
    try clear hfz55_0
    try clear hfz55_1
    try clear hfz55_2
    try clear hfz61_0
    try clear hfz61_1
    try clear hfz61_2
    try clear hfz66_0
    try clear hfz66_1
    try clear hfz66_2
    try clear hfz71_0
    try clear hfz71_1
    try clear hfz71_2
    try clear hx240_0
    try clear hx240_1
    try clear hx240_2
    try clear hx240_3
    try clear hx241_0
    try clear hx241_1
    try clear hx241_2
    try clear hx241_3
    try clear hx242_0
    try clear hx242_1
    try clear hx242_2
    try clear hx242_3
    try clear hx243_0
    try clear hx243_1
    try clear hx243_2
    try clear hx243_3
    try clear hx264_0
    try clear hx264_1
    try clear hx264_2
    try clear hx264_3
    try clear hx266_0
    try clear hx266_1
    try clear hx266_2
    try clear hx266_3
    try clear p240
    try clear p241
    try clear p242
    try clear p243
    try clear p264
    try clear p266
    try clear q240
    try clear q241
    try clear q242
    try clear q243
    try clear q264
    try clear q266
    obtain ⟨x7_1, rfl, HA, HK1, BK217, HB⟩ := hrel
    cases gk with
    | zero => exact absurd HA.out (by simp [flywheellaw19_AimdBounds.l5000])
    | succ k1 =>
     have H := HA.out
     clear HA
     simp only [flywheellaw19_AimdBounds.l5000] at H
     have HC73 := Aside0.mk H
     clear H
     go_upto_region 5 with (fail)
     go_cut [44] (fun v44 wc => ∃ (kq : Nat) (x44_72 : Bool), v44 = .bool x44_72 ∧ Aside0 (flywheellaw19_AimdBounds.j3 kq x44_72 = some r) ∧ Aside0 (kq ≤ k1) ∧ Aside0 (wc.heap[gb217]? = some (.cells #[.int .i64 a0_0, .int .i64 a0_1, .int .i64 a0_2] 23 (0, 0))) ∧ Aside0 (Below w.heap.size w wc))
     case first =>
      have H := HC73.out
      clear HC73
      by_cases c74 : x7_1 < (l1.length : Int)
      ·rw [if_pos c74] at H
       have c74b0 : decide (x7_1 < (l1.length : Int)) = true := decide_eq_true c74
       clear c74
       (first | rw [c74b0] | (simp only [i64_w, i32_w]; rw [c74b0]) | skip)
       have H' := Aside0.mk H
       clear H
       go_wp2
       go_meet
       case rel => exact ⟨_, (decide (x7_1 < 200)), (by first | rfl | (simp; done) | (simp [*]; done)), H', ⟨by have := HK1.out; first | omega | exact Nat.le_refl _⟩, ⟨by (with_reducible repeat (first | refine blk_drewN ?_ _ | refine blk_drew ?_ | refine blk_alloc ?_ _)); exact BK217.out⟩, ⟨by repeat (first | (with_reducible first | exact HB.out | apply below_alloc | apply pw_below_drewN | apply below_drew1 | refine below_set ?_ GE217.out) | exact HB.out)⟩⟩
      ·rw [if_neg c74] at H
       have c74b0 : decide (x7_1 < (l1.length : Int)) = false := decide_eq_false c74
       clear c74
       (first | rw [c74b0] | (simp only [i64_w, i32_w]; rw [c74b0]) | skip)
       have H' := Aside0.mk H
       clear H
       go_wp2
       go_meet
       case rel => exact ⟨_, (false), (by first | rfl | (simp; done) | (simp [*]; done)), H', ⟨by have := HK1.out; first | omega | exact Nat.le_refl _⟩, ⟨by (with_reducible repeat (first | refine blk_drewN ?_ _ | refine blk_drew ?_ | refine blk_alloc ?_ _)); exact BK217.out⟩, ⟨by repeat (first | (with_reducible first | exact HB.out | apply below_alloc | apply pw_below_drewN | apply below_drew1 | refine below_set ?_ GE217.out) | exact HB.out)⟩⟩
     case rest =>
      clear HC73
      try clear c1
      try clear c2
      try clear p2
      try clear q2
      try clear hx2
      try clear c3
      try clear c3b0
      try clear c5
      try clear c5b0
      try clear c5b1
      try clear c6
      try clear p6
      try clear c7
      try clear c11
      try clear c13
      try clear c14
      try clear c16
      try clear c17
      try clear c18
      try clear p24
      try clear q24
      try clear hx24
      try clear p26
      try clear q26
      try clear hx26
      try clear c29
      try clear c29b0
      try clear c29b1
      try clear c54
      try clear c60
      try clear p64
      try clear c69
      try clear c69b0
      try clear c69b1
      try clear c74
      try clear c74b0
      try clear hcz55_0
      try clear hcz55_1
      try clear hcz55_2
      try clear hcz61_0
      try clear hcz61_1
      try clear hcz61_2
      try clear hcz66_0
      try clear hcz66_1
      try clear hcz66_2
      try clear hcz71_0
      try clear hcz71_1
      try clear hcz71_2
      try clear hfz55_0
      try clear hfz55_1
      try clear hfz55_2
      try clear hfz61_0
      try clear hfz61_1
      try clear hfz61_2
      try clear hfz66_0
      try clear hfz66_1
      try clear hfz66_2
      try clear hfz71_0
      try clear hfz71_1
      try clear hfz71_2
      try clear hx240_0
      try clear hx240_1
      try clear hx240_2
      try clear hx240_3
      try clear hx241_0
      try clear hx241_1
      try clear hx241_2
      try clear hx241_3
      try clear hx242_0
      try clear hx242_1
      try clear hx242_2
      try clear hx242_3
      try clear hx243_0
      try clear hx243_1
      try clear hx243_2
      try clear hx243_3
      try clear hx264_0
      try clear hx264_1
      try clear hx264_2
      try clear hx264_3
      try clear hx266_0
      try clear hx266_1
      try clear hx266_2
      try clear hx266_3
      try clear p2
      try clear p24
      try clear p240
      try clear p241
      try clear p242
      try clear p243
      try clear p26
      try clear p264
      try clear p266
      try clear p6
      try clear p64
      try clear q2
      try clear q24
      try clear q240
      try clear q241
      try clear q242
      try clear q243
      try clear q26
      try clear q264
      try clear q266
      obtain ⟨kq, x44_72, rfl, HA, HJ72, BK217, HB⟩ := hcut
      cases kq with
      | zero => exact absurd HA.out (by simp [flywheellaw19_AimdBounds.j3])
      | succ kj72 =>
       have H := HA.out
       clear HA
       simp only [flywheellaw19_AimdBounds.j3] at H
       by_cases c75 : x44_72 = true
       ·subst c75
        have H1 : (none) = some r := by rw [if_pos rfl] at H; exact H
        clear H
        have H := H1
        clear H1
        exact absurd H (by simp)
       ·replace c75 := Bool.eq_false_iff.mpr c75
        subst c75
        have H1 : ((flywheellaw19_wakes.f kj72).bind fun t270 => (some t270)) = some r := by rw [if_neg (show ¬ (false = true) by decide)] at H; exact H
        clear H
        have H := H1
        clear H1
        replace H := Option.bind_eq_some_iff.mp H
        obtain ⟨t270, A760, H⟩ := H
        replace H : (some t270) = some r := H
        have A76 := Aside0.mk A760
        clear A760
        obtain rfl := Option.some.inj H
        go_wp2_with (first | ((with_reducible refine gate_callee (f := 16) rfl ?_); refine goesL_ (some 113) rfl rfl Try.func16 (by kernel_rfl) rfl #[] rfl (by (try simp only [List.map_toArray, List.map_cons, List.map_nil]); first | done | rfl | (simp only [List.length_drop, List.length_take]; rfl)) ?_; (with_reducible refine (flywheellaw19_wakes.calls kj72  t270 _ A76.out).mono ?_); rintro e w77 ⟨rfl, hb⟩; refine ⟨_, rfl, ?_⟩; have n0_ := Aside0.mk (blk_below (g := gb217) (o := .cells #[.int .i64 a0_0, .int .i64 a0_1, .int .i64 a0_2] 23 (0, 0)) (by (with_reducible repeat (first | refine blk_drewN ?_ _ | refine blk_drew ?_ | refine blk_alloc ?_ _)); exact BK217.out) hb); have n1_ := Aside0.mk (below_step (by repeat (first | (with_reducible first | exact HB.out | apply below_alloc | apply pw_below_drewN | apply below_drew1 | refine below_set ?_ GE217.out) | exact HB.out)) hb); clear BK217; clear HB; have BK217 := n0_; have HB := n1_; clear n0_ n1_; (try clear hb); (try clear hb2); (try clear hk); (try clear hi)))
        go_ret
        exact ⟨by first | rfl | (simp [errW_none, errW_some] <;> rfl) | (simp [*, errW_none, errW_some] <;> rfl), by repeat (first | (with_reducible first | exact HB.out | apply below_alloc | apply pw_below_drewN | apply below_drew1 | refine below_set ?_ GE217.out) | exact HB.out)⟩
  ·rw [if_neg c69] at H
   have c69b0 : (t267 == 0) = false := beq_eq_false_iff_ne.mpr c69
   have c69b1 : (t267 != 0) = true := bne_iff_ne.mpr c69
   replace H := Option.bind_eq_some_iff.mp H
   obtain ⟨t268, A780, H⟩ := H
   replace H : (if t268 = true then (some false) else ((flywheellaw19_wakes.f k).bind fun t269 => (some t269))) = some r := H
   have A78 := Aside0.mk A780
   clear A780
   by_cases c79 : t268 = true
   ·subst c79
    have H1 : (some false) = some r := by rw [if_pos rfl] at H; exact H
    clear H
    have H := H1
    clear H1
    obtain rfl := Option.some.inj H
    go_enter Try.func3, Try.ntmps3
    go_wp2_with (first | ((with_reducible refine gate_dst (N := 2) rfl ?_); refine box_event ?hg (N := 2) ?hd (cs := #[.int .i64 a0_0, .int .i64 a0_1, .int .i64 a0_2]) (t := 23) ?hr ?_; (case hd => rfl); (case hg => rfl); (case hr => first | (go_simp; done) | (go_simp; rfl)); intro gb217 hg w80 hbox hb; have n0_ := Aside0.mk (below_step (by repeat (first | (with_reducible first | exact HB.out | apply below_alloc | apply pw_below_drewN | apply below_drew1) | exact HB.out)) hb); have n1_ := Aside0.mk (hbox); have n2_ := Aside0.mk ((by rw [hg]; exact (below_size (by repeat (first | (with_reducible first | exact HB.out | apply below_alloc | apply pw_below_drewN | apply below_drew1) | exact HB.out))) : w.heap.size ≤ gb217)); have n3_ := Aside0.mk ((by rw [hg]; exact (below_size (by repeat (first | (with_reducible first | exact HB.out | apply below_alloc | apply pw_below_drewN | apply below_drew1) | exact HB.out))) : w.heap.size ≤ gb217)); clear HB; have HB := n0_; have BK217 := n1_; have GW217 := n2_; have GE217 := n3_; clear n0_ n1_ n2_ n3_; clear hb hbox hg; have hcz81_0 : w80.cell? ⟨gb217, 0, none⟩ = some (.int .i64 a0_0) := (blk_cell BK217.out 0).trans rfl; have hcz81_1 : w80.cell? ⟨gb217, 1, none⟩ = some (.int .i64 a0_1) := (blk_cell BK217.out 1).trans rfl; have hcz81_2 : w80.cell? ⟨gb217, 2, none⟩ = some (.int .i64 a0_2) := (blk_cell BK217.out 2).trans rfl; have hfz81_0 := blk_frozen BK217.out 0; have hfz81_1 := blk_frozen BK217.out 1; have hfz81_2 := blk_frozen BK217.out 2) | ((with_reducible refine gate_callee (f := 14) rfl ?_); refine goesL_ (some 17) rfl rfl Try.func14 (by kernel_rfl) rfl #[.int .i64 a0_0, .int .i64 a0_1, .int .i64 a0_2] rfl (by (try simp only [List.map_toArray, List.map_cons, List.map_nil]); first | done | rfl | (simp only [List.length_drop, List.length_take]; rfl)) ?_; (with_reducible refine (aimd_New.nil.calls a0_0 a0_1 a0_2 t267 _ A68.out).mono ?_); rintro e w82 ⟨rfl, hb⟩; refine ⟨_, rfl, ?_⟩; have n0_ := Aside0.mk (blk_below (g := gb217) (o := .cells #[.int .i64 a0_0, .int .i64 a0_1, .int .i64 a0_2] 23 (0, 0)) (by (with_reducible repeat (first | refine blk_drewN ?_ _ | refine blk_drew ?_ | refine blk_alloc ?_ _)); exact BK217.out) hb); have n1_ := Aside0.mk (below_step (by repeat (first | (with_reducible first | exact HB.out | apply below_alloc | apply pw_below_drewN | apply below_drew1 | refine below_set ?_ GE217.out) | exact HB.out)) hb); clear BK217; clear HB; have BK217 := n0_; have HB := n1_; clear n0_ n1_; (try clear hb); (try clear hb2); (try clear hk); (try clear hi); have hcz83_0 : w82.cell? ⟨gb217, 0, none⟩ = some (.int .i64 a0_0) := (blk_cell BK217.out 0).trans rfl; have hcz83_1 : w82.cell? ⟨gb217, 1, none⟩ = some (.int .i64 a0_1) := (blk_cell BK217.out 1).trans rfl; have hcz83_2 : w82.cell? ⟨gb217, 2, none⟩ = some (.int .i64 a0_2) := (blk_cell BK217.out 2).trans rfl; have hfz83_0 := blk_frozen BK217.out 0; have hfz83_1 := blk_frozen BK217.out 1; have hfz83_2 := blk_frozen BK217.out 2) | (go_at_call 15; (with_reducible refine (flywheelref19_Rates.calls a0_0 a0_1 a0_2 true _ A78.out).mono ?_); rintro e w' ⟨rfl, ⟨nd, rfl⟩⟩))
    go_ret
    exact ⟨by first | rfl | (simp [errW_none, errW_some] <;> rfl) | (simp [*, errW_none, errW_some] <;> rfl), by repeat (first | (with_reducible first | exact HB.out | apply below_alloc | apply pw_below_drewN | apply below_drew1 | refine below_set ?_ GE217.out) | exact HB.out)⟩
   ·replace c79 := Bool.eq_false_iff.mpr c79
    subst c79
    have H1 : ((flywheellaw19_wakes.f k).bind fun t269 => (some t269)) = some r := by rw [if_neg (show ¬ (false = true) by decide)] at H; exact H
    clear H
    have H := H1
    clear H1
    replace H := Option.bind_eq_some_iff.mp H
    obtain ⟨t269, A840, H⟩ := H
    replace H : (some t269) = some r := H
    have A84 := Aside0.mk A840
    clear A840
    obtain rfl := Option.some.inj H
    go_enter Try.func3, Try.ntmps3
    go_wp2_with (first | ((with_reducible refine gate_dst (N := 2) rfl ?_); refine box_event ?hg (N := 2) ?hd (cs := #[.int .i64 a0_0, .int .i64 a0_1, .int .i64 a0_2]) (t := 23) ?hr ?_; (case hd => rfl); (case hg => rfl); (case hr => first | (go_simp; done) | (go_simp; rfl)); intro gb217 hg w85 hbox hb; have n0_ := Aside0.mk (below_step (by repeat (first | (with_reducible first | exact HB.out | apply below_alloc | apply pw_below_drewN | apply below_drew1) | exact HB.out)) hb); have n1_ := Aside0.mk (hbox); have n2_ := Aside0.mk ((by rw [hg]; exact (below_size (by repeat (first | (with_reducible first | exact HB.out | apply below_alloc | apply pw_below_drewN | apply below_drew1) | exact HB.out))) : w.heap.size ≤ gb217)); have n3_ := Aside0.mk ((by rw [hg]; exact (below_size (by repeat (first | (with_reducible first | exact HB.out | apply below_alloc | apply pw_below_drewN | apply below_drew1) | exact HB.out))) : w.heap.size ≤ gb217)); clear HB; have HB := n0_; have BK217 := n1_; have GW217 := n2_; have GE217 := n3_; clear n0_ n1_ n2_ n3_; clear hb hbox hg; have hcz86_0 : w85.cell? ⟨gb217, 0, none⟩ = some (.int .i64 a0_0) := (blk_cell BK217.out 0).trans rfl; have hcz86_1 : w85.cell? ⟨gb217, 1, none⟩ = some (.int .i64 a0_1) := (blk_cell BK217.out 1).trans rfl; have hcz86_2 : w85.cell? ⟨gb217, 2, none⟩ = some (.int .i64 a0_2) := (blk_cell BK217.out 2).trans rfl; have hfz86_0 := blk_frozen BK217.out 0; have hfz86_1 := blk_frozen BK217.out 1; have hfz86_2 := blk_frozen BK217.out 2) | ((with_reducible refine gate_callee (f := 14) rfl ?_); refine goesL_ (some 17) rfl rfl Try.func14 (by kernel_rfl) rfl #[.int .i64 a0_0, .int .i64 a0_1, .int .i64 a0_2] rfl (by (try simp only [List.map_toArray, List.map_cons, List.map_nil]); first | done | rfl | (simp only [List.length_drop, List.length_take]; rfl)) ?_; (with_reducible refine (aimd_New.nil.calls a0_0 a0_1 a0_2 t267 _ A68.out).mono ?_); rintro e w87 ⟨rfl, hb⟩; refine ⟨_, rfl, ?_⟩; have n0_ := Aside0.mk (blk_below (g := gb217) (o := .cells #[.int .i64 a0_0, .int .i64 a0_1, .int .i64 a0_2] 23 (0, 0)) (by (with_reducible repeat (first | refine blk_drewN ?_ _ | refine blk_drew ?_ | refine blk_alloc ?_ _)); exact BK217.out) hb); have n1_ := Aside0.mk (below_step (by repeat (first | (with_reducible first | exact HB.out | apply below_alloc | apply pw_below_drewN | apply below_drew1 | refine below_set ?_ GE217.out) | exact HB.out)) hb); clear BK217; clear HB; have BK217 := n0_; have HB := n1_; clear n0_ n1_; (try clear hb); (try clear hb2); (try clear hk); (try clear hi); have hcz88_0 : w87.cell? ⟨gb217, 0, none⟩ = some (.int .i64 a0_0) := (blk_cell BK217.out 0).trans rfl; have hcz88_1 : w87.cell? ⟨gb217, 1, none⟩ = some (.int .i64 a0_1) := (blk_cell BK217.out 1).trans rfl; have hcz88_2 : w87.cell? ⟨gb217, 2, none⟩ = some (.int .i64 a0_2) := (blk_cell BK217.out 2).trans rfl; have hfz88_0 := blk_frozen BK217.out 0; have hfz88_1 := blk_frozen BK217.out 1; have hfz88_2 := blk_frozen BK217.out 2) | (go_at_call 15; (with_reducible refine (flywheelref19_Rates.calls a0_0 a0_1 a0_2 false _ A78.out).mono ?_); rintro e w' ⟨rfl, ⟨nd, rfl⟩⟩) | (go_at_call 16; (with_reducible refine (flywheellaw19_wakes.calls k  t269 _ A84.out).mono ?_); rintro e w89 ⟨rfl, hb⟩; have n0_ := Aside0.mk (blk_below (g := gb217) (o := .cells #[.int .i64 a0_0, .int .i64 a0_1, .int .i64 a0_2] 23 (0, 0)) (by (with_reducible repeat (first | refine blk_drewN ?_ _ | refine blk_drew ?_ | refine blk_alloc ?_ _)); exact BK217.out) hb); have n1_ := Aside0.mk (below_step (by repeat (first | (with_reducible first | exact HB.out | apply below_alloc | apply pw_below_drewN | apply below_drew1 | refine below_set ?_ GE217.out) | exact HB.out)) hb); clear BK217; clear HB; have BK217 := n0_; have HB := n1_; clear n0_ n1_; (try clear hb); (try clear hb2); (try clear hk); (try clear hi)))
    go_ret
    exact ⟨by first | rfl | (simp [errW_none, errW_some] <;> rfl) | (simp [*, errW_none, errW_some] <;> rfl), by repeat (first | (with_reducible first | exact HB.out | apply below_alloc | apply pw_below_drewN | apply below_drew1 | refine below_set ?_ GE217.out) | exact HB.out)⟩
def flywheellaw19_AimdBounds.Pure : Prop := ∀ (a0_0 : Int) (a0_1 : Int) (a0_2 : Int) (l1 : List (S34)), (Lit.int .i64 a0_0).wf = true → (Lit.int .i64 a0_1).wf = true → (Lit.int .i64 a0_2).wf = true → l1.length ≤ maxLen → l1.length * 32 ≤ 140737488351232 → (∀ x ∈ l1, (Lit.int .i64 x.f0).wf = true ∧ (Lit.int .i64 x.f1).wf = true ∧ (Lit.int .i64 x.f2).wf = true ∧ (Lit.int .i64 x.f3).wf = true) → ∃ k, flywheellaw19_AimdBounds.f k a0_0 a0_1 a0_2 l1 = some true
theorem flywheellaw19_AimdBounds.walk (P : flywheellaw19_AimdBounds.Pure) (a0_0 : Int) (a0_1 : Int) (a0_2 : Int) (A1 : Option Addr) (c1 : Nat) (l1 : List (S34)) (w : World) (w0_0 : (Lit.int .i64 a0_0).wf = true) (w0_1 : (Lit.int .i64 a0_1).wf = true) (w0_2 : (Lit.int .i64 a0_2).wf = true) (hm1 : l1.length ≤ maxLen) (y1 : l1.length * 32 ≤ 140737488351232) (hw1 : (∀ x ∈ l1, (Lit.int .i64 x.f0).wf = true ∧ (Lit.int .i64 x.f1).wf = true ∧ (Lit.int .i64 x.f2).wf = true ∧ (Lit.int .i64 x.f3).wf = true)) (hr1 : Kd.C k34 w A1 l1.length l1) (hc1 : l1.length ≤ c1) :
  Calls Try.prog 3 #[.agg #[.int .i64 a0_0, .int .i64 a0_1, .int .i64 a0_2], .slice A1 l1.length c1] w fun e w' => e = .returned (.bool true) ∧ Below w.heap.size w w' := by
 obtain ⟨k, h⟩ := P a0_0 a0_1 a0_2 l1 w0_0 w0_1 w0_2 hm1 y1 hw1
 refine (flywheellaw19_AimdBounds.calls k a0_0 a0_1 a0_2 A1 c1 l1 true w hr1 hc1 h).mono ?_
 rintro e w' ⟨rfl, hd⟩
 exact ⟨rfl, hd⟩
end Go.Proofs.Ytaelmmbodigheaa.P
end

section
namespace Go.Proofs.Ytaelmmbodigheaa.P
open Go.RowKit Go.Proofs.YtaelmmbodigheaaW.PrintWords Go.Proofs.YtaelmmbodigheaaW.PrintLast Go.Proofs.YtaelmmbodigheaaW.PrintMore
attribute [local go_sem] max2_int min2_int max_two min_two max_three min_three max_four min_four   -- for this text's walks alone
set_option linter.unusedVariables false
set_option linter.unusedSimpArgs false
def flywheelref19_New.made.f (a0 : Int) (a1 : Int) (a2 : Int) : Option (Int × Int × Int × Int × Bool × Int × Int × Bool × Int × Int) := (flywheelref19_Rates.f a0 a1 a2).bind fun t320 => (if t320 = true then (some (a0, a1, a2, 0, false, 0, 0, false, 0, 0)) else (none))
def flywheelref19_New.nil.f (a0 : Int) (a1 : Int) (a2 : Int) : Option (Int) := (flywheelref19_Rates.f a0 a1 a2).bind fun t322 => (if t322 = true then (none) else (some 1))
end Go.Proofs.Ytaelmmbodigheaa.P
end

section
namespace Go.Proofs.Ytaelmmbodigheaa.P
open Go.RowKit Go.Proofs.YtaelmmbodigheaaW.PrintWords Go.Proofs.YtaelmmbodigheaaW.PrintLast Go.Proofs.YtaelmmbodigheaaW.PrintMore
attribute [local go_sem] max2_int min2_int max_two min_two max_three min_three max_four min_four   -- for this text's walks alone
set_option linter.unusedVariables false
set_option linter.unusedSimpArgs false
end Go.Proofs.Ytaelmmbodigheaa.P
end

section
namespace Go.Proofs.Ytaelmmbodigheaa.P
open Go.RowKit Go.Proofs.YtaelmmbodigheaaW.PrintWords Go.Proofs.YtaelmmbodigheaaW.PrintLast Go.Proofs.YtaelmmbodigheaaW.PrintMore
attribute [local go_sem] max2_int min2_int max_two min_two max_three min_three max_four min_four   -- for this text's walks alone
set_option linter.unusedVariables false
set_option linter.unusedSimpArgs false
end Go.Proofs.Ytaelmmbodigheaa.P
end

section
namespace Go.Proofs.Ytaelmmbodigheaa.P
open Go.RowKit Go.Proofs.YtaelmmbodigheaaW.PrintWords Go.Proofs.YtaelmmbodigheaaW.PrintLast Go.Proofs.YtaelmmbodigheaaW.PrintMore
attribute [local go_sem] max2_int min2_int max_two min_two max_three min_three max_four min_four   -- for this text's walks alone
set_option linter.unusedVariables false
set_option linter.unusedSimpArgs false
def flywheelref02_Did_s.f (a0 : Int) (a1 : Int) (a2 : Int) (a3 : Int) : Option (Int × Bool) := if isI64 a0 ∧ isI64 a1 ∧ isI64 a2 then some (mdq a0 a1 a2 a3) else none
def flywheelref02_Do.f (a0 : Int) (a1 : Int) (a2 : Int) (a3 : Int) : Option (Int) := (flywheelref02_Did_s.f a0 a1 a2 a3).bind fun bt340 => (some bt340.1)
mutual
def flywheelref19_Aimd_lift.j0 : Nat → Int → Int → Int → Bool → Int → Int → Int → Int → Bool → Int → Int → Bool → Int → Option (Int × Int × Int × Int × Bool × Int × Int × Bool × Int)
  | 0, _, _, _, _, _, _, _, _, _, _, _, _, _ => none
  | k + 1, x1, x2, x3, x28, x1000, x1001, x1002, x1003, x1004, x1005, x1006, x1007, x1008 => if x28 = true then (flywheelref19_Aimd_lift.j1 k x1 x2 x3 x1000 x1001 x1002 x1003 false x1005 x1006 x1007 x1008) else (flywheelref19_Aimd_lift.j1 k x1 x2 x3 x1000 x1001 x1002 x1003 x1004 x1005 x1006 x1007 x1008)
def flywheelref19_Aimd_lift.j1 : Nat → Int → Int → Int → Int → Int → Int → Int → Bool → Int → Int → Bool → Int → Option (Int × Int × Int × Int × Bool × Int × Int × Bool × Int)
  | 0, _, _, _, _, _, _, _, _, _, _, _, _ => none
  | k + 1, x1, x2, x3, x1000, x1001, x1002, x1003, x1004, x1005, x1006, x1007, x1008 => (flywheelref02_Do.f x1000 (wrap64 (8 * x3)) 100000000 3).bind fun t342 => (if x1004 = true then ((flywheelref02_Do.f 9600 x3 (wrap64 (x2 + 100000)) 3).bind fun t343 => (if x1 > 0 then (if (wrap64 ((wrap64 (Int.tdiv (wrap64 (3 * x1)) 2)) + 10000)) < (wrap64 (x1000 + (mx t343 1000))) then (some (mx (wrap64 ((wrap64 (Int.tdiv (wrap64 (3 * x1)) 2)) + 10000)) x1000, x1001, x1002, x1003, x1004, x1005, x1006, x1007, x1008)) else (some (wrap64 (x1000 + (mx t343 1000)), x1001, x1002, x1003, x1004, x1005, x1006, x1007, x1008))) else (some (wrap64 (x1000 + (mx t343 1000)), x1001, x1002, x1003, x1004, x1005, x1006, x1007, x1008)))) else (if x1 > 0 then (if (wrap64 ((wrap64 (Int.tdiv (wrap64 (3 * x1)) 2)) + 10000)) < (wrap64 (x1000 + (mx t342 1000))) then (some (mx (wrap64 ((wrap64 (Int.tdiv (wrap64 (3 * x1)) 2)) + 10000)) x1000, x1001, x1002, x1003, x1004, x1005, x1006, x1007, x1008)) else (some (wrap64 (x1000 + (mx t342 1000)), x1001, x1002, x1003, x1004, x1005, x1006, x1007, x1008))) else (some (wrap64 (x1000 + (mx t342 1000)), x1001, x1002, x1003, x1004, x1005, x1006, x1007, x1008))))
end
def flywheelref19_Aimd_lift.f (k : Nat) (s0_0 : Int) (s0_1 : Int) (s0_2 : Int) (s0_3 : Int) (s0_4 : Bool) (s0_5 : Int) (s0_6 : Int) (s0_7 : Bool) (s0_8 : Int) (a1 : Int) (a2 : Int) (a3 : Int) : Option (Int × Int × Int × Int × Bool × Int × Int × Bool × Int) := if s0_4 = true then (flywheelref19_Aimd_lift.j0 k a1 a2 a3 (decide (a1 > (wrap64 (s0_5 + (wrap64 (3 * s0_6)))))) s0_0 s0_1 s0_2 s0_3 s0_4 s0_5 s0_6 s0_7 s0_8) else (flywheelref19_Aimd_lift.j0 k a1 a2 a3 false s0_0 s0_1 s0_2 s0_3 s0_4 s0_5 s0_6 s0_7 s0_8)
end Go.Proofs.Ytaelmmbodigheaa.P
end

section
namespace Go.Proofs.Ytaelmmbodigheaa.P
open Go.RowKit Go.Proofs.YtaelmmbodigheaaW.PrintWords Go.Proofs.YtaelmmbodigheaaW.PrintLast Go.Proofs.YtaelmmbodigheaaW.PrintMore
attribute [local go_sem] max2_int min2_int max_two min_two max_three min_three max_four min_four   -- for this text's walks alone
set_option linter.unusedVariables false
set_option linter.unusedSimpArgs false
def flywheelref01_Sub.j0 : Nat → Int → Int → Bool → Option (Int)
  | 0, _, _, _ => none
  | k + 1, x0, x1, x12 => if x12 = true then (some 9223372036854775807) else (if x1 > 0 then (if x0 < (wrap64 ((-9223372036854775808) + x1)) then (some (-9223372036854775808)) else (some (wrap64 (x0 - x1)))) else (some (wrap64 (x0 - x1))))
def flywheelref01_Sub.f (k : Nat) (a0 : Int) (a1 : Int) : Option (Int) := if a1 < 0 then (flywheelref01_Sub.j0 k a0 a1 (decide (a0 > (wrap64 (9223372036854775807 + a1))))) else (flywheelref01_Sub.j0 k a0 a1 false)
def flywheelref01_Neg.f (k : Nat) (a0 : Int) : Option (Int) := (flywheelref01_Sub.f k 0 a0).bind fun t344 => (some t344)
def flywheelref01_Abs.f (k : Nat) (a0 : Int) : Option (Int) := if a0 < 0 then ((flywheelref01_Neg.f k a0).bind fun t345 => (some t345)) else (some a0)
end Go.Proofs.Ytaelmmbodigheaa.P
end

section
namespace Go.Proofs.Ytaelmmbodigheaa.P
open Go.RowKit Go.Proofs.YtaelmmbodigheaaW.PrintWords Go.Proofs.YtaelmmbodigheaaW.PrintLast Go.Proofs.YtaelmmbodigheaaW.PrintMore
attribute [local go_sem] max2_int min2_int max_two min_two max_three min_three max_four min_four   -- for this text's walks alone
set_option linter.unusedVariables false
set_option linter.unusedSimpArgs false
def flywheelref19_Aimd_cut.f (k : Nat) (s0_0 : Int) (s0_1 : Int) (s0_2 : Int) (s0_3 : Int) (s0_4 : Bool) (s0_5 : Int) (s0_6 : Int) (s0_7 : Bool) (s0_8 : Int) (a1 : Int) : Option (Int × Int × Int × Int × Bool × Int × Int × Bool × Int) := (flywheelref02_Do.f a1 85 100 1).bind fun t346 => (if s0_4 = true then (if a1 < (wrap64 (s0_5 - (wrap64 (3 * s0_6)))) then (some (mn s0_0 t346, s0_1, s0_2, s0_3, s0_4, a1, s0_6, s0_7, s0_8)) else ((flywheelref01_Abs.f k (wrap64 (a1 - s0_5))).bind fun t347 => ((flywheelref02_Do.f (wrap64 (t347 - s0_6)) 5 100 2).bind fun t348 => ((flywheelref02_Do.f (wrap64 (a1 - s0_5)) 5 100 2).bind fun t349 => (some (mn s0_0 t346, s0_1, s0_2, s0_3, s0_4, wrap64 (s0_5 + t349), wrap64 (s0_6 + t348), s0_7, s0_8)))))) else (some (mn s0_0 t346, s0_1, s0_2, s0_3, true, a1, wrap64 (Int.tdiv a1 10), s0_7, s0_8)))
end Go.Proofs.Ytaelmmbodigheaa.P
end

section
namespace Go.Proofs.Ytaelmmbodigheaa.P
open Go.RowKit Go.Proofs.YtaelmmbodigheaaW.PrintWords Go.Proofs.YtaelmmbodigheaaW.PrintLast Go.Proofs.YtaelmmbodigheaaW.PrintMore
attribute [local go_sem] max2_int min2_int max_two min_two max_three min_three max_four min_four   -- for this text's walks alone
set_option linter.unusedVariables false
set_option linter.unusedSimpArgs false
end Go.Proofs.Ytaelmmbodigheaa.P
end

section
namespace Go.Proofs.Ytaelmmbodigheaa.P
open Go.RowKit Go.Proofs.YtaelmmbodigheaaW.PrintWords Go.Proofs.YtaelmmbodigheaaW.PrintLast Go.Proofs.YtaelmmbodigheaaW.PrintMore
attribute [local go_sem] max2_int min2_int max_two min_two max_three min_three max_four min_four   -- for this text's walks alone
set_option linter.unusedVariables false
set_option linter.unusedSimpArgs false
end Go.Proofs.Ytaelmmbodigheaa.P
end

section
namespace Go.Proofs.Ytaelmmbodigheaa.P
open Go.RowKit Go.Proofs.YtaelmmbodigheaaW.PrintWords Go.Proofs.YtaelmmbodigheaaW.PrintLast Go.Proofs.YtaelmmbodigheaaW.PrintMore
attribute [local go_sem] max2_int min2_int max_two min_two max_three min_three max_four min_four   -- for this text's walks alone
set_option linter.unusedVariables false
set_option linter.unusedSimpArgs false
end Go.Proofs.Ytaelmmbodigheaa.P
end

section
namespace Go.Proofs.Ytaelmmbodigheaa.P
open Go.RowKit Go.Proofs.YtaelmmbodigheaaW.PrintWords Go.Proofs.YtaelmmbodigheaaW.PrintLast Go.Proofs.YtaelmmbodigheaaW.PrintMore
attribute [local go_sem] max2_int min2_int max_two min_two max_three min_three max_four min_four   -- for this text's walks alone
set_option linter.unusedVariables false
set_option linter.unusedSimpArgs false
end Go.Proofs.Ytaelmmbodigheaa.P
end

section
namespace Go.Proofs.Ytaelmmbodigheaa.P
open Go.RowKit Go.Proofs.YtaelmmbodigheaaW.PrintWords Go.Proofs.YtaelmmbodigheaaW.PrintLast Go.Proofs.YtaelmmbodigheaaW.PrintMore
attribute [local go_sem] max2_int min2_int max_two min_two max_three min_three max_four min_four   -- for this text's walks alone
set_option linter.unusedVariables false
set_option linter.unusedSimpArgs false
end Go.Proofs.Ytaelmmbodigheaa.P
end

section
namespace Go.Proofs.Ytaelmmbodigheaa.P
open Go.RowKit Go.Proofs.YtaelmmbodigheaaW.PrintWords Go.Proofs.YtaelmmbodigheaaW.PrintLast Go.Proofs.YtaelmmbodigheaaW.PrintMore
attribute [local go_sem] max2_int min2_int max_two min_two max_three min_three max_four min_four   -- for this text's walks alone
set_option linter.unusedVariables false
set_option linter.unusedSimpArgs false
end Go.Proofs.Ytaelmmbodigheaa.P
end

section
namespace Go.Proofs.Ytaelmmbodigheaa.P
open Go.RowKit Go.Proofs.YtaelmmbodigheaaW.PrintWords Go.Proofs.YtaelmmbodigheaaW.PrintLast Go.Proofs.YtaelmmbodigheaaW.PrintMore
attribute [local go_sem] max2_int min2_int max_two min_two max_three min_three max_four min_four   -- for this text's walks alone
set_option linter.unusedVariables false
set_option linter.unusedSimpArgs false
end Go.Proofs.Ytaelmmbodigheaa.P
end

section
namespace Go.Proofs.Ytaelmmbodigheaa.P
open Go.RowKit
set_option linter.unusedVariables false
set_option linter.unusedSimpArgs false
end Go.Proofs.Ytaelmmbodigheaa.P
end

section
namespace Go.Proofs.Ytaelmmbodigheaa.P
open Go.RowKit
set_option linter.unusedVariables false
set_option linter.unusedSimpArgs false
theorem clamp_eq (a lo hi : Int) : sat_Clamp.f a lo hi = some (if a < lo then lo else if a > hi then hi else a) := by
  unfold sat_Clamp.f
  split
  · rfl
  · split <;> rfl
end Go.Proofs.Ytaelmmbodigheaa.P
end

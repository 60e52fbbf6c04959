-- PUT TOGETHER by a program of this session: of the claim's texts, what is used
import Derived.Test.YtaelmmbodigheaaKAimdCuts6
import Derived.Test.YtaelmmbodigheaaKAimdCuts8
import Derived.Test.YtaelmmbodigheaaKAimdCuts9
import Derived.Test.YtaelmmbodigheaaKAimdCuts10
section
namespace Go.Proofs.Ytaelmmbodigheaa.P
open Go.RowKit Go.Proofs.YtaelmmbodigheaaW.PrintWords Go.Proofs.YtaelmmbodigheaaW.PrintLast Go.Proofs.YtaelmmbodigheaaW.PrintMore
attribute [local go_sem] max2_int min2_int max_two min_two max_three min_three max_four min_four   -- for this text's walks alone
set_option linter.unusedVariables false
set_option linter.unusedSimpArgs false
mutual
def flywheellaw19_AimdCuts.j1 : Nat → Int → Int → Int → Int → Int → Int → Int → Int → Int → Bool → Int → Int → Bool → Int → Option (Bool)
  | 0, _, _, _, _, _, _, _, _, _, _, _, _, _, _ => none
  | k + 1, x2, x9, x485000, x485001, x485002, x495000, x495001, x495002, x495003, x495004, x495005, x495006, x495007, x495008 => (aimd_Aimd_Rate.f x495000 x495001 x495002 x495003 x495004 x495005 x495006 x495007 x495008).bind fun bt511 => ((flywheelkeep_Mod64.f x2 17179869184).bind fun t521 => ((aimd_Aimd_Update.f k bt511.2.1 bt511.2.2.1 bt511.2.2.2.1 bt511.2.2.2.2.1 bt511.2.2.2.2.2.1 bt511.2.2.2.2.2.2.1 bt511.2.2.2.2.2.2.2.1 bt511.2.2.2.2.2.2.2.2.1 bt511.2.2.2.2.2.2.2.2.2 1 t521 50000 x9).bind fun bt522 => (if bt522.1 = (mx x485001 (mn bt511.1 (wrap64 ((wrap64 ((wrap64 (Int.tdiv t521 100)) * 85)) + (wrap64 (Int.tdiv (wrap64 ((Int.tmod t521 100) * 85)) 100)))))) then ((aimd_Aimd_State.f bt522.2.1 bt522.2.2.1 bt522.2.2.2.1 bt522.2.2.2.2.1 bt522.2.2.2.2.2.1 bt522.2.2.2.2.2.2.1 bt522.2.2.2.2.2.2.2.1 bt522.2.2.2.2.2.2.2.2.1 bt522.2.2.2.2.2.2.2.2.2).bind fun bt532 => (if bt532.1 = 0 then ((flywheellaw19_wakes.f k).bind fun t542 => (some t542)) else (some false))) else (some false))))
def flywheellaw19_AimdCuts.l0 : Nat → List (S34) → Int → Int → Int → Int → Int → Int → Int → Int → Int → Int → Bool → Int → Int → Bool → Int → Option (Bool)
  | 0, _, _, _, _, _, _, _, _, _, _, _, _, _, _, _, _ => none
  | k + 1, x1, x2, x9, x10, x485000, x485001, x485002, x495000, x495001, x495002, x495003, x495004, x495005, x495006, x495007, x495008 => if x10 < (x1.length : Int) then (if x10 < 100 then (if 0 ≤ x10 then ((aimd_Aimd_Update.f k x495000 x495001 x495002 x495003 x495004 x495005 x495006 x495007 x495008 ((rd_T34 x1 x10).f0) ((rd_T34 x1 x10).f1) ((rd_T34 x1 x10).f2) ((rd_T34 x1 x10).f3)).bind fun bt500 => (flywheellaw19_AimdCuts.l0 k x1 x2 (mx x9 (mn ((rd_T34 x1 x10).f3) 1125899906842624)) (wrap64 (x10 + 1)) x485000 x485001 x485002 bt500.2.1 bt500.2.2.1 bt500.2.2.2.1 bt500.2.2.2.2.1 bt500.2.2.2.2.2.1 bt500.2.2.2.2.2.2.1 bt500.2.2.2.2.2.2.2.1 bt500.2.2.2.2.2.2.2.2.1 bt500.2.2.2.2.2.2.2.2.2)) else (none)) else (flywheellaw19_AimdCuts.j1 k x2 x9 x485000 x485001 x485002 x495000 x495001 x495002 x495003 x495004 x495005 x495006 x495007 x495008)) else (flywheellaw19_AimdCuts.j1 k x2 x9 x485000 x485001 x485002 x495000 x495001 x495002 x495003 x495004 x495005 x495006 x495007 x495008)
def flywheellaw19_AimdCuts.j3 : Nat → Int → Int → Int → Int → Int → Option (Bool)
  | 0, _, _, _, _, _ => none
  | k + 1, x2, x9, x485000, x485001, x485002 => (aimd_Aimd_Rate.nilrecv.f).bind fun t549 => ((flywheelkeep_Mod64.f x2 17179869184).bind fun t550 => ((aimd_Aimd_Update.nilrecv.f 1 t550 50000 x9).bind fun t551 => (if t551 = (mx x485001 (mn t549 (wrap64 ((wrap64 ((wrap64 (Int.tdiv t550 100)) * 85)) + (wrap64 (Int.tdiv (wrap64 ((Int.tmod t550 100) * 85)) 100)))))) then ((aimd_Aimd_State.nilrecv.f).bind fun t552 => (if t552 = 0 then ((flywheellaw19_wakes.f k).bind fun t553 => (some t553)) else (some false))) else (some false))))
def flywheellaw19_AimdCuts.l5000 : Nat → List (S34) → Int → Int → Int → Int → Int → Int → Option (Bool)
  | 0, _, _, _, _, _, _, _ => none
  | k + 1, x1, x2, x9, x10, x485000, x485001, x485002 => if x10 < (x1.length : Int) then (if x10 < 100 then (if 0 ≤ x10 then (none) else (none)) else (flywheellaw19_AimdCuts.j3 k x2 x9 x485000 x485001 x485002)) else (flywheellaw19_AimdCuts.j3 k x2 x9 x485000 x485001 x485002)
end
def flywheellaw19_AimdCuts.f (k : Nat) (a0_0 : Int) (a0_1 : Int) (a0_2 : Int) (l1 : List (S34)) (a2 : Int) : Option (Bool) := if (aimd_New.made.f a0_0 a0_1 a0_2).isSome = true then ((aimd_New.made.f a0_0 a0_1 a0_2).bind fun bt485 => (if bt485.2.2.2.2.2.2.2.2.2 = 0 then (flywheellaw19_AimdCuts.l0 k l1 a2 0 0 a0_0 a0_1 a0_2 bt485.1 bt485.2.1 bt485.2.2.1 bt485.2.2.2.1 bt485.2.2.2.2.1 bt485.2.2.2.2.2.1 bt485.2.2.2.2.2.2.1 bt485.2.2.2.2.2.2.2.1 bt485.2.2.2.2.2.2.2.2.1) else (some false))) else ((aimd_New.nil.f a0_0 a0_1 a0_2).bind fun t543 => (if t543 = 0 then (flywheellaw19_AimdCuts.l5000 k l1 a2 0 0 a0_0 a0_1 a0_2) else ((flywheellaw19_wakes.f k).bind fun t544 => (some t544))))
def flywheellaw19_AimdCuts.T8 : Bool × List (List Nat × List Nat) := (true, [([], []), ([], []), ([], []), ([1, 2], [1, 2]), ([3], [3]), ([4], [4]), ([], []), ([], []), ([6, 7], [6, 7]), ([8], [8]), ([9], [9]), ([], []), ([], []), ([11, 12], [11, 12]), ([13], [13]), ([14], [14]), ([], []), ([], []), ([16, 17], [16, 17]), ([18], [18]), ([19], [19]), ([0, 5, 10, 15, 20], [0, 5, 10, 15, 20])])
def flywheellaw19_AimdCuts.B8 : List Nat := [0, 0, 0, 6, 14, 30, 0, 0, 192, 448, 960, 0, 0, 6144, 14336, 30720, 0, 0, 196608, 458752, 983040, 2097151]
theorem flywheellaw19_AimdCuts.tab8 : rtab .any (opsOf Try.f7 8) = flywheellaw19_AimdCuts.T8 := by kernel_rfl
theorem flywheellaw19_AimdCuts.bits8 : waitsOk flywheellaw19_AimdCuts.T8.2 flywheellaw19_AimdCuts.B8 = true := by kernel_rfl
set_option maxHeartbeats 8000000 in
set_option maxRecDepth 100000 in
theorem flywheellaw19_AimdCuts.calls (k : Nat) (a0_0 : Int) (a0_1 : Int) (a0_2 : Int) (A1 : Option Addr) (c1 : Nat) (l1 : List (S34)) (a2 : Int) (r : Bool) (w : World) (hr1 : Kd.C k34 w A1 l1.length l1) (hc1 : l1.length ≤ c1) (h : flywheellaw19_AimdCuts.f k a0_0 a0_1 a0_2 l1 a2 = some r) :
    Calls Try.prog 7 #[.agg #[.int .i64 a0_0, .int .i64 a0_1, .int .i64 a0_2], .slice A1 l1.length c1, .int .i64 a2] w fun e w' => e = .returned (.bool r) ∧ Below w.heap.size w w' := by
  have hu23 := Try.underlying23
  have hpn25_eql : ∀ (a_ : Addr) (W_ : World), (Go.binOp .eql 25 (.pointer (some a_)) (.pointer none)).run Try.prog W_ = .ok (.bool false) W_ := fun _ _ => by kernel_rfl
  have hnn25_eql : ∀ (W_ : World), (Go.binOp .eql 25 (.pointer none) (.pointer none)).run Try.prog W_ = .ok (.bool true) W_ := fun _ => by kernel_rfl
  have HR1 := Aside0.mk hr1
  have HC1 := Aside0.mk hc1
  clear hr1 hc1
  have HB := Aside0.mk (Below.refl w.heap.size w)
  have H : (if (aimd_New.made.f a0_0 a0_1 a0_2).isSome = true then ((aimd_New.made.f a0_0 a0_1 a0_2).bind fun bt485 => (if bt485.2.2.2.2.2.2.2.2.2 = 0 then (flywheellaw19_AimdCuts.l0 k l1 a2 0 0 a0_0 a0_1 a0_2 bt485.1 bt485.2.1 bt485.2.2.1 bt485.2.2.2.1 bt485.2.2.2.2.1 bt485.2.2.2.2.2.1 bt485.2.2.2.2.2.2.1 bt485.2.2.2.2.2.2.2.1 bt485.2.2.2.2.2.2.2.2.1) else (some false))) else ((aimd_New.nil.f a0_0 a0_1 a0_2).bind fun t543 => (if t543 = 0 then (flywheellaw19_AimdCuts.l5000 k l1 a2 0 0 a0_0 a0_1 a0_2) else ((flywheellaw19_wakes.f k).bind fun t544 => (some t544))))) = some r := h
  clear h
  by_cases c4 : (aimd_New.made.f a0_0 a0_1 a0_2).isSome = true
  · rw [if_pos c4] at H
    have c4b0 : (aimd_New.made.f a0_0 a0_1 a0_2).isSome = true := c4
    clear c4
    replace H := Option.bind_eq_some_iff.mp H
    obtain ⟨⟨t485, t486, t487, t488, t489, t490, t491, t492, t493, t495⟩, A50, H⟩ := H
    replace H : (if t495 = 0 then (flywheellaw19_AimdCuts.l0 k l1 a2 0 0 a0_0 a0_1 a0_2 t485 t486 t487 t488 t489 t490 t491 t492 t493) else (some false)) = some r := H
    have A5 := Aside0.mk A50
    clear A50
    by_cases c6 : t495 = 0
    · rw [if_pos c6] at H
      have c6b0 : (t495 == 0) = true := beq_iff_eq.mpr c6
      have c6b1 : (t495 != 0) = false := bne_eq_false_iff_eq.mpr c6
      clear c6
      have HC7 := Aside0.mk H
      clear H
      go_enter Try.func7, Try.ntmps7
      go_upto_block 0 with (first | ((with_reducible refine gate_dst (N := 3) rfl ?_); refine box_event ?hg (N := 3) ?hd (cs := #[.int .i64 a0_0, .int .i64 a0_1, .int .i64 a0_2]) (t := 23) ?hr ?_; (case hd => rfl); (case hg => rfl); (case hr => first | (go_simp; done) | (go_simp; rfl)); intro gb484 hg w8 hbox hb; have n0_ := Aside0.mk (below_step (by repeat (first | (with_reducible first | exact HB.out | apply below_alloc | apply pw_below_drewN | apply below_drew1) | exact HB.out)) hb); have n1_ := Aside0.mk (hbox); have n2_ := Aside0.mk ((by rw [hg]; exact (below_size (by repeat (first | (with_reducible first | exact HB.out | apply below_alloc | apply pw_below_drewN | apply below_drew1) | exact HB.out))) : w.heap.size ≤ gb484)); have n3_ := Aside0.mk ((by rw [hg]; exact (below_size (by repeat (first | (with_reducible first | exact HB.out | apply below_alloc | apply pw_below_drewN | apply below_drew1) | exact HB.out))) : w.heap.size ≤ gb484)); clear HB; have HB := n0_; have BK484 := n1_; have GW484 := n2_; have GE484 := n3_; clear n0_ n1_ n2_ n3_; clear hb hbox hg; have hcz9_0 : w8.cell? ⟨gb484, 0, none⟩ = some (.int .i64 a0_0) := (blk_cell BK484.out 0).trans rfl; have hcz9_1 : w8.cell? ⟨gb484, 1, none⟩ = some (.int .i64 a0_1) := (blk_cell BK484.out 1).trans rfl; have hcz9_2 : w8.cell? ⟨gb484, 2, none⟩ = some (.int .i64 a0_2) := (blk_cell BK484.out 2).trans rfl; have hfz9_0 := blk_frozen BK484.out 0; have hfz9_1 := blk_frozen BK484.out 1; have hfz9_2 := blk_frozen BK484.out 2) | ((with_reducible refine gate_callee (f := 14) rfl ?_); refine goesL_ (some 21) rfl rfl Try.func14 (by kernel_rfl) rfl #[.int .i64 a0_0, .int .i64 a0_1, .int .i64 a0_2] rfl (by (try simp only [List.map_toArray, List.map_cons, List.map_nil]); first | done | rfl | (simp only [List.length_drop, List.length_take]; rfl)) ?_; (with_reducible refine (aimd_New.made.calls a0_0 a0_1 a0_2 t485 t486 t487 t488 t489 t490 t491 t492 t493 t495 _ _ (Below.refl _ _) A5.out).mono ?_); rintro e w10 ⟨g494, rfl, hi, hb, hb2⟩; refine ⟨_, rfl, ?_⟩; have n0_ := Aside0.mk (blk_below (g := gb484) (o := .cells #[.int .i64 a0_0, .int .i64 a0_1, .int .i64 a0_2] 23 (0, 0)) (by (with_reducible repeat (first | refine blk_drewN ?_ _ | refine blk_drew ?_ | refine blk_alloc ?_ _)); exact BK484.out) hb2); have n1_ := Aside0.mk (below_step (by repeat (first | (with_reducible first | exact HB.out | apply below_alloc | apply pw_below_drewN | apply below_drew1 | refine below_set ?_ GE484.out) | exact HB.out)) hb2); have n2_ := Aside0.mk ((IsS63.rebase hi (below_size (by repeat (first | (with_reducible first | exact HB.out | apply below_alloc | apply pw_below_drewN | apply below_drew1 | refine below_set ?_ GE484.out) | exact HB.out))))); have n3_ := Aside0.mk (IsS63.ne_blk hi (blk_below (g := gb484) (o := .cells #[.int .i64 a0_0, .int .i64 a0_1, .int .i64 a0_2] 23 (0, 0)) (by (with_reducible repeat (first | refine blk_drewN ?_ _ | refine blk_drew ?_ | refine blk_alloc ?_ _)); exact BK484.out) hb2) (by decide)); have n4_ := Aside0.mk (Ne.symm (IsS63.ne_blk hi (blk_below (g := gb484) (o := .cells #[.int .i64 a0_0, .int .i64 a0_1, .int .i64 a0_2] 23 (0, 0)) (by (with_reducible repeat (first | refine blk_drewN ?_ _ | refine blk_drew ?_ | refine blk_alloc ?_ _)); exact BK484.out) hb2) (by decide))); clear BK484; clear HB; have BK484 := n0_; have HB := n1_; have HI494 := n2_; have NB494_484 := n3_; have NB484_494 := n4_; clear n0_ n1_ n2_ n3_ n4_; (try clear hb); (try clear hb2); (try clear hk); (try clear hi)))
      (try simp only [Act.put, List.setIfInBounds_toArray, List.set_cons_zero, List.set_cons_succ])
      go_cut [9] (fun v9 wc => ∃ (kq : Nat) (x9_6 : Int) (x495000_6 : Int) (x495001_6 : Int) (x495002_6 : Int) (x495003_6 : Int) (x495004_6 : Bool) (x495005_6 : Int) (x495006_6 : Int) (x495007_6 : Bool) (x495008_6 : Int), v9 = .int .i64 x9_6 ∧ Aside0 (flywheellaw19_AimdCuts.j1 kq a2 x9_6 a0_0 a0_1 a0_2 x495000_6 x495001_6 x495002_6 x495003_6 x495004_6 x495005_6 x495006_6 x495007_6 x495008_6 = some r) ∧ Aside0 (kq ≤ k) ∧ Aside0 (wc.heap[gb484]? = some (.cells #[.int .i64 a0_0, .int .i64 a0_1, .int .i64 a0_2] 23 (0, 0))) ∧ Aside0 (IsS63 w wc g494 x495000_6 x495001_6 x495002_6 x495003_6 x495004_6 x495005_6 x495006_6 x495007_6 x495008_6) ∧ Aside0 (Below w.heap.size w wc))
      case first =>
        have H := HC7.out
        clear HC7
        have H' := Aside0.mk H
        clear H
        go_wp2
        go_loopg [9, 10] k (fun kq v9 v10 w' => ∃ (x9_1 : Int) (x10_1 : Int) (x495000_1 : Int) (x495001_1 : Int) (x495002_1 : Int) (x495003_1 : Int) (x495004_1 : Bool) (x495005_1 : Int) (x495006_1 : Int) (x495007_1 : Bool) (x495008_1 : Int), v9 = .int .i64 x9_1 ∧ v10 = .int .i64 x10_1 ∧ Aside0 (flywheellaw19_AimdCuts.l0 kq l1 a2 x9_1 x10_1 a0_0 a0_1 a0_2 x495000_1 x495001_1 x495002_1 x495003_1 x495004_1 x495005_1 x495006_1 x495007_1 x495008_1 = some r) ∧ Aside0 (kq ≤ k) ∧ Aside0 (w'.heap[gb484]? = some (.cells #[.int .i64 a0_0, .int .i64 a0_1, .int .i64 a0_2] 23 (0, 0))) ∧ Aside0 (IsS63 w w' g494 x495000_1 x495001_1 x495002_1 x495003_1 x495004_1 x495005_1 x495006_1 x495007_1 x495008_1) ∧ Aside0 (Below w.heap.size w w'))
        case atStart => exact ⟨(0), (0), (t485), (t486), (t487), (t488), (t489), (t490), (t491), (t492), (t493), (by first | rfl | (simp; done) | (simp [*]; done)), (by first | rfl | (simp; done) | (simp [*]; done)), H', ⟨Nat.le_refl _⟩, ⟨by (with_reducible repeat (first | refine blk_drewN ?_ _ | refine blk_drew ?_ | refine blk_alloc ?_ _)); exact BK484.out⟩, ⟨by repeat (first | (with_reducible first | exact HI494.out | apply IsS63.alloc | apply IsS63.drewN | apply IsS63.drew | apply IsS63.set_0 | apply IsS63.set_1 | apply IsS63.set_2 | apply IsS63.set_3 | apply IsS63.set_4 | apply IsS63.set_5 | apply IsS63.set_6 | apply IsS63.set_7 | apply IsS63.set_8 | refine IsS63.far ?_ NB494_484.out _) | exact HI494.out)⟩, ⟨by repeat (first | (with_reducible first | exact HB.out | apply below_alloc | apply pw_below_drewN | apply below_drew1 | refine below_set ?_ (IsS63.ge HI494.out) | refine below_set ?_ GE484.out) | exact HB.out)⟩⟩
        case round =>
          clear H'
          try clear c1
          try clear p2
          try clear c4
          try clear c4b0
          try clear c6
          try clear c6b0
          try clear c6b1
          try clear c7
          try clear hcz9_0
          try clear hcz9_1
          try clear hcz9_2
          try clear hfz9_0
          try clear hfz9_1
          try clear hfz9_2
          obtain ⟨x9_1, x10_1, x495000_1, x495001_1, x495002_1, x495003_1, x495004_1, x495005_1, x495006_1, x495007_1, x495008_1, rfl, rfl, HA, HK1, BK484, HI494, HB⟩ := hrel
          cases gk with
          | zero => exact absurd HA.out (by simp [flywheellaw19_AimdCuts.l0])
          | succ k1 =>
            have H := HA.out
            clear HA
            simp only [flywheellaw19_AimdCuts.l0] at H
            by_cases c11 : x10_1 < (l1.length : Int)
            · rw [if_pos c11] at H
              have c11b0 : decide (x10_1 < (l1.length : Int)) = true := decide_eq_true c11
              clear c11
              (first | rw [c11b0] | (simp only [i64_w, i32_w]; rw [c11b0]) | skip)
              by_cases c12 : x10_1 < 100
              · rw [if_pos c12] at H
                have c12b0 : decide (x10_1 < 100) = true := decide_eq_true c12
                clear c12
                by_cases c13 : 0 ≤ x10_1
                · rw [if_pos c13] at H
                  have c13b0 : decide (0 ≤ x10_1) = true := decide_eq_true c13
                  clear c13
                  replace H := Option.bind_eq_some_iff.mp H
                  obtain ⟨⟨t500, t501, t502, t503, t504, t505, t506, t507, t508, t509⟩, A140, H⟩ := H
                  replace H : (flywheellaw19_AimdCuts.l0 k1 l1 a2 (mx x9_1 (mn ((rd_T34 l1 x10_1).f3) 1125899906842624)) (wrap64 (x10_1 + 1)) a0_0 a0_1 a0_2 t501 t502 t503 t504 t505 t506 t507 t508 t509) = some r := H
                  have A14 := Aside0.mk A140
                  clear A140
                  obtain ⟨ji15, hji15⟩ : ∃ j_ : Int, (mn ((rd_T34 l1 x10_1).f3) 1125899906842624) = j_ := ⟨_, rfl⟩
                  replace H : (flywheellaw19_AimdCuts.l0 k1 l1 a2 (mx x9_1 (ji15)) (wrap64 (x10_1 + 1)) a0_0 a0_1 a0_2 t501 t502 t503 t504 t505 t506 t507 t508 t509) = some r := by first | (rw [hji15] at H; exact H) | (simp only [hji15] at H ⊢; exact H)
                  (try rw [hji15] at A14)
                  have hji15_ : (if 1125899906842624 < ((rd_T34 l1 x10_1).f3) then 1125899906842624 else ((rd_T34 l1 x10_1).f3)) = ji15 := hji15
                  obtain ⟨ji16, hji16⟩ : ∃ j_ : Int, (mx x9_1 (ji15)) = j_ := ⟨_, rfl⟩
                  replace H : (flywheellaw19_AimdCuts.l0 k1 l1 a2 ji16 (wrap64 (x10_1 + 1)) a0_0 a0_1 a0_2 t501 t502 t503 t504 t505 t506 t507 t508 t509) = some r := by first | (rw [hji16] at H; exact H) | (simp only [hji16] at H ⊢; exact H)
                  (try rw [hji16] at A14)
                  have hji16_ : (if x9_1 < (ji15) then (ji15) else x9_1) = ji16 := hji16
                  have H' := Aside0.mk H
                  clear H
                  try go_wp2
                  have n0_ := Aside0.mk (blk_drew BK484.out)
                  have n1_ := Aside0.mk (IsS63.drew HI494.out)
                  have n2_ := Aside0.mk (below_drew1 HB.out)
                  clear BK484
                  clear HI494
                  clear HB
                  have BK484 := n0_
                  have HI494 := n1_
                  have HB := n2_
                  clear n0_ n1_ n2_
                  have p496 : 0 ≤ (x10_1 : Int) := of_decide_eq_true (by first | (with_reducible assumption) | assumption)
                  have q496 : x10_1 < (l1.length : Int) := of_decide_eq_true (by first | (with_reducible assumption) | assumption)
                  obtain ⟨ad496, e496, hx496_0, hx496_1, hx496_2, hx496_3⟩ := at_T34 HR1.out x10_1 p496 q496
                  have hw496_3 := hx496_3
                  have hw496_2 := hx496_2
                  have hw496_1 := hx496_1
                  have hw496_0 := hx496_0
                  cases e496
                  replace hx496_0 := (HB.out.cell (World.block_lt_of_cell? w _ hx496_0)).trans hx496_0
                  replace hx496_1 := (HB.out.cell (World.block_lt_of_cell? w _ hx496_1)).trans hx496_1
                  replace hx496_2 := (HB.out.cell (World.block_lt_of_cell? w _ hx496_2)).trans hx496_2
                  replace hx496_3 := (HB.out.cell (World.block_lt_of_cell? w _ hx496_3)).trans hx496_3
                  replace p496 := eq_true p496
                  replace q496 := eq_true q496
                  have p497 : 0 ≤ (x10_1 : Int) := of_decide_eq_true (by first | (with_reducible assumption) | assumption)
                  have q497 : x10_1 < (l1.length : Int) := of_decide_eq_true (by first | (with_reducible assumption) | assumption)
                  obtain ⟨ad497, e497, hx497_0, hx497_1, hx497_2, hx497_3⟩ := at_T34 HR1.out x10_1 p497 q497
                  have hw497_3 := hx497_3
                  have hw497_2 := hx497_2
                  have hw497_1 := hx497_1
                  have hw497_0 := hx497_0
                  obtain rfl : ad496 = ad497 := (by injection e497)
                  replace hx497_0 := (HB.out.cell (World.block_lt_of_cell? w _ hx497_0)).trans hx497_0
                  replace hx497_1 := (HB.out.cell (World.block_lt_of_cell? w _ hx497_1)).trans hx497_1
                  replace hx497_2 := (HB.out.cell (World.block_lt_of_cell? w _ hx497_2)).trans hx497_2
                  replace hx497_3 := (HB.out.cell (World.block_lt_of_cell? w _ hx497_3)).trans hx497_3
                  replace p497 := eq_true p497
                  replace q497 := eq_true q497
                  have p498 : 0 ≤ (x10_1 : Int) := of_decide_eq_true (by first | (with_reducible assumption) | assumption)
                  have q498 : x10_1 < (l1.length : Int) := of_decide_eq_true (by first | (with_reducible assumption) | assumption)
                  obtain ⟨ad498, e498, hx498_0, hx498_1, hx498_2, hx498_3⟩ := at_T34 HR1.out x10_1 p498 q498
                  have hw498_3 := hx498_3
                  have hw498_2 := hx498_2
                  have hw498_1 := hx498_1
                  have hw498_0 := hx498_0
                  obtain rfl : ad496 = ad498 := (by injection e498)
                  replace hx498_0 := (HB.out.cell (World.block_lt_of_cell? w _ hx498_0)).trans hx498_0
                  replace hx498_1 := (HB.out.cell (World.block_lt_of_cell? w _ hx498_1)).trans hx498_1
                  replace hx498_2 := (HB.out.cell (World.block_lt_of_cell? w _ hx498_2)).trans hx498_2
                  replace hx498_3 := (HB.out.cell (World.block_lt_of_cell? w _ hx498_3)).trans hx498_3
                  replace p498 := eq_true p498
                  replace q498 := eq_true q498
                  have p499 : 0 ≤ (x10_1 : Int) := of_decide_eq_true (by first | (with_reducible assumption) | assumption)
                  have q499 : x10_1 < (l1.length : Int) := of_decide_eq_true (by first | (with_reducible assumption) | assumption)
                  obtain ⟨ad499, e499, hx499_0, hx499_1, hx499_2, hx499_3⟩ := at_T34 HR1.out x10_1 p499 q499
                  have hw499_3 := hx499_3
                  have hw499_2 := hx499_2
                  have hw499_1 := hx499_1
                  have hw499_0 := hx499_0
                  obtain rfl : ad496 = ad499 := (by injection e499)
                  replace hx499_0 := (HB.out.cell (World.block_lt_of_cell? w _ hx499_0)).trans hx499_0
                  replace hx499_1 := (HB.out.cell (World.block_lt_of_cell? w _ hx499_1)).trans hx499_1
                  replace hx499_2 := (HB.out.cell (World.block_lt_of_cell? w _ hx499_2)).trans hx499_2
                  replace hx499_3 := (HB.out.cell (World.block_lt_of_cell? w _ hx499_3)).trans hx499_3
                  replace p499 := eq_true p499
                  replace q499 := eq_true q499
                  refine start_ (n := 22) (S := fun w' => w'.cell? (ad496.add ((x10_1).toNat * 4)) = some (.int .i64 ((rd_T34 l1 x10_1).f0)) ∧ w'.cell? ⟨(ad496.add ((x10_1).toNat * 4)).block, (ad496.add ((x10_1).toNat * 4)).off + 1, none⟩ = some (.int .i64 ((rd_T34 l1 x10_1).f1)) ∧ w'.cell? ⟨(ad496.add ((x10_1).toNat * 4)).block, (ad496.add ((x10_1).toNat * 4)).off + 2, none⟩ = some (.int .i64 ((rd_T34 l1 x10_1).f2)) ∧ w'.cell? ⟨(ad496.add ((x10_1).toNat * 4)).block, (ad496.add ((x10_1).toNat * 4)).off + 3, none⟩ = some (.int .i64 ((rd_T34 l1 x10_1).f3)) ∧ w'.cell? (ad496.add ((x10_1).toNat * 4)) = some (.int .i64 ((rd_T34 l1 x10_1).f0)) ∧ w'.cell? ⟨(ad496.add ((x10_1).toNat * 4)).block, (ad496.add ((x10_1).toNat * 4)).off + 1, none⟩ = some (.int .i64 ((rd_T34 l1 x10_1).f1)) ∧ w'.cell? ⟨(ad496.add ((x10_1).toNat * 4)).block, (ad496.add ((x10_1).toNat * 4)).off + 2, none⟩ = some (.int .i64 ((rd_T34 l1 x10_1).f2)) ∧ w'.cell? ⟨(ad496.add ((x10_1).toNat * 4)).block, (ad496.add ((x10_1).toNat * 4)).off + 3, none⟩ = some (.int .i64 ((rd_T34 l1 x10_1).f3)) ∧ w'.cell? (ad496.add ((x10_1).toNat * 4)) = some (.int .i64 ((rd_T34 l1 x10_1).f0)) ∧ w'.cell? ⟨(ad496.add ((x10_1).toNat * 4)).block, (ad496.add ((x10_1).toNat * 4)).off + 1, none⟩ = some (.int .i64 ((rd_T34 l1 x10_1).f1)) ∧ w'.cell? ⟨(ad496.add ((x10_1).toNat * 4)).block, (ad496.add ((x10_1).toNat * 4)).off + 2, none⟩ = some (.int .i64 ((rd_T34 l1 x10_1).f2)) ∧ w'.cell? ⟨(ad496.add ((x10_1).toNat * 4)).block, (ad496.add ((x10_1).toNat * 4)).off + 3, none⟩ = some (.int .i64 ((rd_T34 l1 x10_1).f3)) ∧ w'.cell? (ad496.add ((x10_1).toNat * 4)) = some (.int .i64 ((rd_T34 l1 x10_1).f0)) ∧ w'.cell? ⟨(ad496.add ((x10_1).toNat * 4)).block, (ad496.add ((x10_1).toNat * 4)).off + 1, none⟩ = some (.int .i64 ((rd_T34 l1 x10_1).f1)) ∧ w'.cell? ⟨(ad496.add ((x10_1).toNat * 4)).block, (ad496.add ((x10_1).toNat * 4)).off + 2, none⟩ = some (.int .i64 ((rd_T34 l1 x10_1).f2)) ∧ w'.cell? ⟨(ad496.add ((x10_1).toNat * 4)).block, (ad496.add ((x10_1).toNat * 4)).off + 3, none⟩ = some (.int .i64 ((rd_T34 l1 x10_1).f3))) (ds := []) #[false, false, false, false, false, false, false, false, false, false, false, false, false, false, false, false, false, false, false, false, false, false] (by kernel_rfl) rfl rfl ⟨((HB.out.cell (World.block_lt_of_cell? w _ hw496_0)).trans hw496_0), ((HB.out.cell (World.block_lt_of_cell? w _ hw496_1)).trans hw496_1), ((HB.out.cell (World.block_lt_of_cell? w _ hw496_2)).trans hw496_2), ((HB.out.cell (World.block_lt_of_cell? w _ hw496_3)).trans hw496_3), ((HB.out.cell (World.block_lt_of_cell? w _ hw497_0)).trans hw497_0), ((HB.out.cell (World.block_lt_of_cell? w _ hw497_1)).trans hw497_1), ((HB.out.cell (World.block_lt_of_cell? w _ hw497_2)).trans hw497_2), ((HB.out.cell (World.block_lt_of_cell? w _ hw497_3)).trans hw497_3), ((HB.out.cell (World.block_lt_of_cell? w _ hw498_0)).trans hw498_0), ((HB.out.cell (World.block_lt_of_cell? w _ hw498_1)).trans hw498_1), ((HB.out.cell (World.block_lt_of_cell? w _ hw498_2)).trans hw498_2), ((HB.out.cell (World.block_lt_of_cell? w _ hw498_3)).trans hw498_3), ((HB.out.cell (World.block_lt_of_cell? w _ hw499_0)).trans hw499_0), ((HB.out.cell (World.block_lt_of_cell? w _ hw499_1)).trans hw499_1), ((HB.out.cell (World.block_lt_of_cell? w _ hw499_2)).trans hw499_2), ((HB.out.cell (World.block_lt_of_cell? w _ hw499_3)).trans hw499_3)⟩ (fun hHeld => ?_); refine with_tabW flywheellaw19_AimdCuts.tab8 flywheellaw19_AimdCuts.bits8 (fun HT_ HW_ => ?_)
                  generalize wr.drew = w17 at BK484 HI494 HB hx496_0 hx496_1 hx496_2 hx496_3 hx497_0 hx497_1 hx497_2 hx497_3 hx498_0 hx498_1 hx498_2 hx498_3 hx499_0 hx499_1 hx499_2 hx499_3 hHeld ⊢
                  refine pure_ (i := 0) (N := some 41) (v := ?_) (a' := ?_) #[true, false, false, false, false, false, false, false, false, false, false, false, false, false, false, false, false, false, false, false, false, false] rfl rfl (any_of HT_.out (by kernel_rfl)) (fun _ _ _ h => h) (Or.inl ⟨by rfl, ?_⟩) ?_ ?_
                  rotate_left
                  · intro w'
                    go_simp
                    with_reducible rfl
                  rotate_left
                  · simp only [Act.put, List.setIfInBounds_toArray, List.set_cons_zero, List.set_cons_succ, i64_w, i32_w]
                    rfl
                  refine pure_ (i := 1) (N := some 42) (v := ?_) (a' := ?_) #[true, true, false, false, false, false, false, false, false, false, false, false, false, false, false, false, false, false, false, false, false, false] rfl rfl (any_of HT_.out (by kernel_rfl)) (fun _ _ _ h => h) (Or.inl ⟨by rfl, ?_⟩) ?_ ?_
                  rotate_left
                  · intro w'
                    go_simp
                    with_reducible rfl
                  rotate_left
                  · simp only [Act.put, List.setIfInBounds_toArray, List.set_cons_zero, List.set_cons_succ, i64_w, i32_w]
                    rfl
                  refine pure_ (i := 2) (N := some 43) (v := ?_) (a' := ?_) #[true, true, true, false, false, false, false, false, false, false, false, false, false, false, false, false, false, false, false, false, false, false] rfl rfl (any_of HT_.out (by kernel_rfl)) (fun _ _ _ h => h) (Or.inl ⟨by rfl, ?_⟩) ?_ ?_
                  rotate_left
                  · intro w'
                    go_simp
                    with_reducible rfl
                  rotate_left
                  · simp only [Act.put, List.setIfInBounds_toArray, List.set_cons_zero, List.set_cons_succ, i64_w, i32_w]
                    rfl
                  refine pure_ (i := 3) (N := some 44) (v := ?_) (a' := ?_) #[true, true, true, true, false, false, false, false, false, false, false, false, false, false, false, false, false, false, false, false, false, false] rfl rfl (any_of HT_.out (by kernel_rfl)) (fun _ _ _ h => h) (Or.inl ⟨by rfl, ?_⟩) ?_ ?_
                  rotate_left
                  · intro w'
                    go_simp
                    with_reducible rfl
                  rotate_left
                  · simp only [Act.put, List.setIfInBounds_toArray, List.set_cons_zero, List.set_cons_succ, i64_w, i32_w]
                    rfl
                  refine pure_ (i := 4) (N := some 45) (v := ?_) (a' := ?_) #[true, true, true, true, true, false, false, false, false, false, false, false, false, false, false, false, false, false, false, false, false, false] rfl rfl (any_of HT_.out (by kernel_rfl)) (fun _ _ _ h => h) (Or.inl ⟨by rfl, ?_⟩) ?_ ?_
                  rotate_left
                  · intro w'
                    go_simp
                    with_reducible rfl
                  rotate_left
                  · simp only [Act.put, List.setIfInBounds_toArray, List.set_cons_zero, List.set_cons_succ, i64_w, i32_w]
                    rfl
                  refine pure_ (i := 6) (N := some 47) (v := ?_) (a' := ?_) #[true, true, true, true, true, false, true, false, false, false, false, false, false, false, false, false, false, false, false, false, false, false] rfl rfl (any_of HT_.out (by kernel_rfl)) (fun _ _ _ h => h) (Or.inl ⟨by rfl, ?_⟩) ?_ ?_
                  rotate_left
                  · intro w'
                    go_simp
                    with_reducible rfl
                  rotate_left
                  · simp only [Act.put, List.setIfInBounds_toArray, List.set_cons_zero, List.set_cons_succ, i64_w, i32_w]
                    rfl
                  refine pure_ (i := 7) (N := some 48) (v := ?_) (a' := ?_) #[true, true, true, true, true, false, true, true, false, false, false, false, false, false, false, false, false, false, false, false, false, false] rfl rfl (any_of HT_.out (by kernel_rfl)) (fun _ _ _ h => h) (Or.inl ⟨by rfl, ?_⟩) ?_ ?_
                  rotate_left
                  · intro w'
                    go_simp
                    with_reducible rfl
                  rotate_left
                  · simp only [Act.put, List.setIfInBounds_toArray, List.set_cons_zero, List.set_cons_succ, i64_w, i32_w]
                    rfl
                  refine pure_ (i := 8) (N := some 49) (v := ?_) (a' := ?_) #[true, true, true, true, true, false, true, true, true, false, false, false, false, false, false, false, false, false, false, false, false, false] rfl rfl (any_of HT_.out (by kernel_rfl)) (fun _ _ _ h => h) (Or.inl ⟨by rfl, ?_⟩) ?_ ?_
                  rotate_left
                  · intro w'
                    go_simp
                    with_reducible rfl
                  rotate_left
                  · simp only [Act.put, List.setIfInBounds_toArray, List.set_cons_zero, List.set_cons_succ, i64_w, i32_w]
                    rfl
                  refine pure_ (i := 9) (N := some 50) (v := ?_) (a' := ?_) #[true, true, true, true, true, false, true, true, true, true, false, false, false, false, false, false, false, false, false, false, false, false] rfl rfl (any_of HT_.out (by kernel_rfl)) (fun _ _ _ h => h) (Or.inl ⟨by rfl, ?_⟩) ?_ ?_
                  rotate_left
                  · intro w'
                    go_simp
                    with_reducible rfl
                  rotate_left
                  · simp only [Act.put, List.setIfInBounds_toArray, List.set_cons_zero, List.set_cons_succ, i64_w, i32_w]
                    rfl
                  refine pure_ (i := 11) (N := some 52) (v := ?_) (a' := ?_) #[true, true, true, true, true, false, true, true, true, true, false, true, false, false, false, false, false, false, false, false, false, false] rfl rfl (any_of HT_.out (by kernel_rfl)) (fun _ _ _ h => h) (Or.inl ⟨by rfl, ?_⟩) ?_ ?_
                  rotate_left
                  · intro w'
                    go_simp
                    with_reducible rfl
                  rotate_left
                  · simp only [Act.put, List.setIfInBounds_toArray, List.set_cons_zero, List.set_cons_succ, i64_w, i32_w]
                    rfl
                  refine pure_ (i := 12) (N := some 53) (v := ?_) (a' := ?_) #[true, true, true, true, true, false, true, true, true, true, false, true, true, false, false, false, false, false, false, false, false, false] rfl rfl (any_of HT_.out (by kernel_rfl)) (fun _ _ _ h => h) (Or.inl ⟨by rfl, ?_⟩) ?_ ?_
                  rotate_left
                  · intro w'
                    go_simp
                    with_reducible rfl
                  rotate_left
                  · simp only [Act.put, List.setIfInBounds_toArray, List.set_cons_zero, List.set_cons_succ, i64_w, i32_w]
                    rfl
                  refine pure_ (i := 13) (N := some 54) (v := ?_) (a' := ?_) #[true, true, true, true, true, false, true, true, true, true, false, true, true, true, false, false, false, false, false, false, false, false] rfl rfl (any_of HT_.out (by kernel_rfl)) (fun _ _ _ h => h) (Or.inl ⟨by rfl, ?_⟩) ?_ ?_
                  rotate_left
                  · intro w'
                    go_simp
                    with_reducible rfl
                  rotate_left
                  · simp only [Act.put, List.setIfInBounds_toArray, List.set_cons_zero, List.set_cons_succ, i64_w, i32_w]
                    rfl
                  refine pure_ (i := 14) (N := some 55) (v := ?_) (a' := ?_) #[true, true, true, true, true, false, true, true, true, true, false, true, true, true, true, false, false, false, false, false, false, false] rfl rfl (any_of HT_.out (by kernel_rfl)) (fun _ _ _ h => h) (Or.inl ⟨by rfl, ?_⟩) ?_ ?_
                  rotate_left
                  · intro w'
                    go_simp
                    with_reducible rfl
                  rotate_left
                  · simp only [Act.put, List.setIfInBounds_toArray, List.set_cons_zero, List.set_cons_succ, i64_w, i32_w]
                    rfl
                  refine pure_ (i := 16) (N := some 57) (v := ?_) (a' := ?_) #[true, true, true, true, true, false, true, true, true, true, false, true, true, true, true, false, true, false, false, false, false, false] rfl rfl (any_of HT_.out (by kernel_rfl)) (fun _ _ _ h => h) (Or.inl ⟨by rfl, ?_⟩) ?_ ?_
                  rotate_left
                  · intro w'
                    go_simp
                    with_reducible rfl
                  rotate_left
                  · simp only [Act.put, List.setIfInBounds_toArray, List.set_cons_zero, List.set_cons_succ, i64_w, i32_w]
                    rfl
                  refine pure_ (i := 17) (N := some 58) (v := ?_) (a' := ?_) #[true, true, true, true, true, false, true, true, true, true, false, true, true, true, true, false, true, true, false, false, false, false] rfl rfl (any_of HT_.out (by kernel_rfl)) (fun _ _ _ h => h) (Or.inl ⟨by rfl, ?_⟩) ?_ ?_
                  rotate_left
                  · intro w'
                    go_simp
                    with_reducible rfl
                  rotate_left
                  · simp only [Act.put, List.setIfInBounds_toArray, List.set_cons_zero, List.set_cons_succ, i64_w, i32_w]
                    rfl
                  refine pure_ (i := 18) (N := some 59) (v := ?_) (a' := ?_) #[true, true, true, true, true, false, true, true, true, true, false, true, true, true, true, false, true, true, true, false, false, false] rfl rfl (any_of HT_.out (by kernel_rfl)) (fun _ _ _ h => h) (Or.inl ⟨by rfl, ?_⟩) ?_ ?_
                  rotate_left
                  · intro w'
                    go_simp
                    with_reducible rfl
                  rotate_left
                  · simp only [Act.put, List.setIfInBounds_toArray, List.set_cons_zero, List.set_cons_succ, i64_w, i32_w]
                    rfl
                  refine pure_ (i := 19) (N := some 60) (v := ?_) (a' := ?_) #[true, true, true, true, true, false, true, true, true, true, false, true, true, true, true, false, true, true, true, true, false, false] rfl rfl (any_of HT_.out (by kernel_rfl)) (fun _ _ _ h => h) (Or.inl ⟨by rfl, ?_⟩) ?_ ?_
                  rotate_left
                  · intro w'
                    go_simp
                    with_reducible rfl
                  rotate_left
                  · simp only [Act.put, List.setIfInBounds_toArray, List.set_cons_zero, List.set_cons_succ, i64_w, i32_w]
                    rfl
                  refine take_ (i := 5) (N := some 46) (v := ?_) (a' := ?_) #[true, true, true, true, true, true, true, true, true, true, false, true, true, true, true, false, true, true, true, true, false, false] rfl rfl (take_ofW HT_.out HW_.out (by kernel_rfl)) (fun _ _ _ h => h) (Or.inl ⟨by rfl, ?_⟩) hHeld ?_ ?_
                  rotate_left
                  · rintro w' ⟨s0, s1, s2, s3, s4, s5, s6, s7, s8, s9, s10, s11, s12, s13, s14, s15⟩
                    go_simp
                    with_reducible rfl
                  rotate_left
                  · simp only [Act.put, List.setIfInBounds_toArray, List.set_cons_zero, List.set_cons_succ, i64_w, i32_w]
                    rfl
                  refine take_ (i := 10) (N := some 51) (v := ?_) (a' := ?_) #[true, true, true, true, true, true, true, true, true, true, true, true, true, true, true, false, true, true, true, true, false, false] rfl rfl (take_ofW HT_.out HW_.out (by kernel_rfl)) (fun _ _ _ h => h) (Or.inl ⟨by rfl, ?_⟩) hHeld ?_ ?_
                  rotate_left
                  · rintro w' ⟨s0, s1, s2, s3, s4, s5, s6, s7, s8, s9, s10, s11, s12, s13, s14, s15⟩
                    go_simp
                    with_reducible rfl
                  rotate_left
                  · simp only [Act.put, List.setIfInBounds_toArray, List.set_cons_zero, List.set_cons_succ, i64_w, i32_w]
                    rfl
                  refine take_ (i := 15) (N := some 56) (v := ?_) (a' := ?_) #[true, true, true, true, true, true, true, true, true, true, true, true, true, true, true, true, true, true, true, true, false, false] rfl rfl (take_ofW HT_.out HW_.out (by kernel_rfl)) (fun _ _ _ h => h) (Or.inl ⟨by rfl, ?_⟩) hHeld ?_ ?_
                  rotate_left
                  · rintro w' ⟨s0, s1, s2, s3, s4, s5, s6, s7, s8, s9, s10, s11, s12, s13, s14, s15⟩
                    go_simp
                    with_reducible rfl
                  rotate_left
                  · simp only [Act.put, List.setIfInBounds_toArray, List.set_cons_zero, List.set_cons_succ, i64_w, i32_w]
                    rfl
                  refine take_ (i := 20) (N := some 61) (v := ?_) (a' := ?_) #[true, true, true, true, true, true, true, true, true, true, true, true, true, true, true, true, true, true, true, true, true, false] rfl rfl (take_ofW HT_.out HW_.out (by kernel_rfl)) (fun _ _ _ h => h) (Or.inl ⟨by rfl, ?_⟩) hHeld ?_ ?_
                  rotate_left
                  · rintro w' ⟨s0, s1, s2, s3, s4, s5, s6, s7, s8, s9, s10, s11, s12, s13, s14, s15⟩
                    go_simp
                    with_reducible rfl
                  rotate_left
                  · simp only [Act.put, List.setIfInBounds_toArray, List.set_cons_zero, List.set_cons_succ, i64_w, i32_w]
                    rfl
                  refine one_ (i := 21) (N := some 62) #[true, true, true, true, true, true, true, true, true, true, true, true, true, true, true, true, true, true, true, true, true, true] rfl rfl (one_of HT_.out (by kernel_rfl)) (by decide) (fun K hK => ?_)
                  refine goes_ Try.func18 (by kernel_rfl) rfl #[.pointer (some ⟨g494, 0, none⟩), .int .i64 ((rd_T34 l1 x10_1).f0), .int .i64 ((rd_T34 l1 x10_1).f1), .int .i64 ((rd_T34 l1 x10_1).f2), .int .i64 ((rd_T34 l1 x10_1).f3)] (by rfl) rfl rfl (by (try simp only [List.map_toArray, List.map_cons, List.map_nil]); first | done | rfl | (simp only [List.length_drop, List.length_take]; rfl)) ?_
                  with_reducible refine (aimd_Aimd_Update.calls k1 g494 x495000_1 x495001_1 x495002_1 x495003_1 x495004_1 x495005_1 x495006_1 x495007_1 x495008_1 ((rd_T34 l1 x10_1).f0) ((rd_T34 l1 x10_1).f1) ((rd_T34 l1 x10_1).f2) ((rd_T34 l1 x10_1).f3) t500 t501 t502 t503 t504 t505 t506 t507 t508 t509 w _ ?side1 ?side2 A14.out).mono ?_
                  (case side1 => repeat (first | (with_reducible first | exact HI494.out | apply IsS63.alloc | apply IsS63.drewN | apply IsS63.drew | apply IsS63.set_0 | apply IsS63.set_1 | apply IsS63.set_2 | apply IsS63.set_3 | apply IsS63.set_4 | apply IsS63.set_5 | apply IsS63.set_6 | apply IsS63.set_7 | apply IsS63.set_8 | refine IsS63.far ?_ NB494_484.out _) | exact HI494.out))
                  (case side2 => repeat (first | (with_reducible first | exact HB.out | apply below_alloc | apply pw_below_drewN | apply below_drew1 | refine below_set ?_ (IsS63.ge HI494.out) | refine below_set ?_ GE484.out) | exact HB.out))
                  rintro e w18 ⟨rfl, hi, hb, hk⟩
                  refine ⟨_, rfl, ?_⟩
                  have n0_ := Aside0.mk (KeepBut.blk hk (g' := gb484) (o := .cells #[.int .i64 a0_0, .int .i64 a0_1, .int .i64 a0_2] 23 (0, 0)) (by (with_reducible repeat (first | refine blk_drewN ?_ _ | refine blk_drew ?_ | refine blk_alloc ?_ _)); exact BK484.out) NB484_494.out (by simp))
                  have n1_ := Aside0.mk (hb)
                  have n2_ := Aside0.mk (hi)
                  clear BK484
                  clear HB
                  clear HI494
                  have BK484 := n0_
                  have HB := n1_
                  have HI494 := n2_
                  clear n0_ n1_ n2_
                  (try clear hb)
                  (try clear hb2)
                  (try clear hk)
                  (try clear hi)
                  refine hK.out _ _ ⟨((HB.out.cell (World.block_lt_of_cell? w _ hw496_0)).trans hw496_0), ((HB.out.cell (World.block_lt_of_cell? w _ hw496_1)).trans hw496_1), ((HB.out.cell (World.block_lt_of_cell? w _ hw496_2)).trans hw496_2), ((HB.out.cell (World.block_lt_of_cell? w _ hw496_3)).trans hw496_3), ((HB.out.cell (World.block_lt_of_cell? w _ hw497_0)).trans hw497_0), ((HB.out.cell (World.block_lt_of_cell? w _ hw497_1)).trans hw497_1), ((HB.out.cell (World.block_lt_of_cell? w _ hw497_2)).trans hw497_2), ((HB.out.cell (World.block_lt_of_cell? w _ hw497_3)).trans hw497_3), ((HB.out.cell (World.block_lt_of_cell? w _ hw498_0)).trans hw498_0), ((HB.out.cell (World.block_lt_of_cell? w _ hw498_1)).trans hw498_1), ((HB.out.cell (World.block_lt_of_cell? w _ hw498_2)).trans hw498_2), ((HB.out.cell (World.block_lt_of_cell? w _ hw498_3)).trans hw498_3), ((HB.out.cell (World.block_lt_of_cell? w _ hw499_0)).trans hw499_0), ((HB.out.cell (World.block_lt_of_cell? w _ hw499_1)).trans hw499_1), ((HB.out.cell (World.block_lt_of_cell? w _ hw499_2)).trans hw499_2), ((HB.out.cell (World.block_lt_of_cell? w _ hw499_3)).trans hw499_3)⟩ (fun hHeld => ?_)
                  clear hK K
                  refine norm_ (a' := ?_) ?_ ?_
                  rotate_left
                  · show Act.put _ (some 62) _ = _
                    simp only [Act.put, List.setIfInBounds_toArray, List.set_cons_zero, List.set_cons_succ, i64_w, i32_w]
                    rfl
                  refine done_ (done_of HT_.out (by kernel_rfl)) ?_
                  have p510 : 0 ≤ (x10_1 : Int) := of_decide_eq_true (by first | (with_reducible assumption) | assumption)
                  have q510 : x10_1 < (l1.length : Int) := of_decide_eq_true (by first | (with_reducible assumption) | assumption)
                  obtain ⟨ad510, e510, hx510_0, hx510_1, hx510_2, hx510_3⟩ := at_T34 HR1.out x10_1 p510 q510
                  obtain rfl : ad496 = ad510 := (by injection e510)
                  replace hx510_0 := (HB.out.cell (World.block_lt_of_cell? w _ hx510_0)).trans hx510_0
                  replace hx510_1 := (HB.out.cell (World.block_lt_of_cell? w _ hx510_1)).trans hx510_1
                  replace hx510_2 := (HB.out.cell (World.block_lt_of_cell? w _ hx510_2)).trans hx510_2
                  replace hx510_3 := (HB.out.cell (World.block_lt_of_cell? w _ hx510_3)).trans hx510_3
                  replace p510 := eq_true p510
                  replace q510 := eq_true q510
                  try go_wp2
                  go_roundg k1
                  case measure => have := HK1.out; omega
                  case rel => exact ⟨(ji16), (wrap64 (x10_1 + 1)), (t501), (t502), (t503), (t504), (t505), (t506), (t507), (t508), (t509), (by first | rfl | (simp; done) | (simp only [← hji16] <;> (first | rfl | simp)) | (simp [*]; done)), (by first | rfl | (simp; done) | (simp [*]; done)), H', ⟨by have := HK1.out; omega⟩, ⟨by (with_reducible repeat (first | refine blk_drewN ?_ _ | refine blk_drew ?_ | refine blk_alloc ?_ _)); exact BK484.out⟩, ⟨by repeat (first | (with_reducible first | exact HI494.out | apply IsS63.alloc | apply IsS63.drewN | apply IsS63.drew | apply IsS63.set_0 | apply IsS63.set_1 | apply IsS63.set_2 | apply IsS63.set_3 | apply IsS63.set_4 | apply IsS63.set_5 | apply IsS63.set_6 | apply IsS63.set_7 | apply IsS63.set_8 | refine IsS63.far ?_ NB494_484.out _) | exact HI494.out)⟩, ⟨by repeat (first | (with_reducible first | exact HB.out | apply below_alloc | apply pw_below_drewN | apply below_drew1 | refine below_set ?_ (IsS63.ge HI494.out) | refine below_set ?_ GE484.out) | exact HB.out)⟩⟩
                · rw [if_neg c13] at H
                  exact absurd H (by simp)
              · rw [if_neg c12] at H
                have c12b0 : decide (x10_1 < 100) = false := decide_eq_false c12
                clear c12
                have H' := Aside0.mk H
                clear H
                go_wp2
                go_meet
                case rel => exact ⟨_, (x9_1), (x495000_1), (x495001_1), (x495002_1), (x495003_1), (x495004_1), (x495005_1), (x495006_1), (x495007_1), (x495008_1), (by first | rfl | (simp; done) | (simp [*]; done)), H', ⟨by have := HK1.out; first | omega | exact Nat.le_refl _⟩, ⟨by (with_reducible repeat (first | refine blk_drewN ?_ _ | refine blk_drew ?_ | refine blk_alloc ?_ _)); exact BK484.out⟩, ⟨by repeat (first | (with_reducible first | exact HI494.out | apply IsS63.alloc | apply IsS63.drewN | apply IsS63.drew | apply IsS63.set_0 | apply IsS63.set_1 | apply IsS63.set_2 | apply IsS63.set_3 | apply IsS63.set_4 | apply IsS63.set_5 | apply IsS63.set_6 | apply IsS63.set_7 | apply IsS63.set_8 | refine IsS63.far ?_ NB494_484.out _) | exact HI494.out)⟩, ⟨by repeat (first | (with_reducible first | exact HB.out | apply below_alloc | apply pw_below_drewN | apply below_drew1 | refine below_set ?_ (IsS63.ge HI494.out) | refine below_set ?_ GE484.out) | exact HB.out)⟩⟩
            · rw [if_neg c11] at H
              have c11b0 : decide (x10_1 < (l1.length : Int)) = false := decide_eq_false c11
              clear c11
              (first | rw [c11b0] | (simp only [i64_w, i32_w]; rw [c11b0]) | skip)
              have H' := Aside0.mk H
              clear H
              go_wp2
              go_meet
              case rel => exact ⟨_, (x9_1), (x495000_1), (x495001_1), (x495002_1), (x495003_1), (x495004_1), (x495005_1), (x495006_1), (x495007_1), (x495008_1), (by first | rfl | (simp; done) | (simp [*]; done)), H', ⟨by have := HK1.out; first | omega | exact Nat.le_refl _⟩, ⟨by (with_reducible repeat (first | refine blk_drewN ?_ _ | refine blk_drew ?_ | refine blk_alloc ?_ _)); exact BK484.out⟩, ⟨by repeat (first | (with_reducible first | exact HI494.out | apply IsS63.alloc | apply IsS63.drewN | apply IsS63.drew | apply IsS63.set_0 | apply IsS63.set_1 | apply IsS63.set_2 | apply IsS63.set_3 | apply IsS63.set_4 | apply IsS63.set_5 | apply IsS63.set_6 | apply IsS63.set_7 | apply IsS63.set_8 | refine IsS63.far ?_ NB494_484.out _) | exact HI494.out)⟩, ⟨by repeat (first | (with_reducible first | exact HB.out | apply below_alloc | apply pw_below_drewN | apply below_drew1 | refine below_set ?_ (IsS63.ge HI494.out) | refine below_set ?_ GE484.out) | exact HB.out)⟩⟩
      case rest =>
        clear HC7
        try clear c1
        try clear p2
        try clear c4
        try clear c4b0
        try clear p4
        try clear q4
        try clear hx4
        try clear p5
        try clear q5
        try clear hx5
        try clear c6
        try clear c6b0
        try clear c6b1
        try clear p6
        try clear c7
        try clear c11
        try clear c11b0
        try clear c12
        try clear c12b0
        try clear c13
        try clear c13b0
        try clear c14
        try clear c18
        try clear hcz9_0
        try clear hcz9_1
        try clear hcz9_2
        try clear hfz9_0
        try clear hfz9_1
        try clear hfz9_2
        try clear hx496_0
        try clear hx496_1
        try clear hx496_2
        try clear hx496_3
        try clear hx497_0
        try clear hx497_1
        try clear hx497_2
        try clear hx497_3
        try clear hx498_0
        try clear hx498_1
        try clear hx498_2
        try clear hx498_3
        try clear hx499_0
        try clear hx499_1
        try clear hx499_2
        try clear hx499_3
        try clear hx510_0
        try clear hx510_1
        try clear hx510_2
        try clear hx510_3
        try clear p2
        try clear p496
        try clear p497
        try clear p498
        try clear p499
        try clear p510
        try clear q496
        try clear q497
        try clear q498
        try clear q499
        try clear q510
        obtain ⟨kq, x9_6, x495000_6, x495001_6, x495002_6, x495003_6, x495004_6, x495005_6, x495006_6, x495007_6, x495008_6, rfl, HA, HJ6, BK484, HI494, HB⟩ := hcut
        cases kq with
        | zero => exact absurd HA.out (by simp [flywheellaw19_AimdCuts.j1])
        | succ kj6 =>
          have H := HA.out
          clear HA
          simp only [flywheellaw19_AimdCuts.j1] at H
          replace H := Option.bind_eq_some_iff.mp H
          obtain ⟨⟨t511, t512, t513, t514, t515, t516, t517, t518, t519, t520⟩, A190, H⟩ := H
          replace H : ((flywheelkeep_Mod64.f a2 17179869184).bind fun t521 => ((aimd_Aimd_Update.f kj6 t512 t513 t514 t515 t516 t517 t518 t519 t520 1 t521 50000 x9_6).bind fun bt522 => (if bt522.1 = (mx a0_1 (mn t511 (wrap64 ((wrap64 ((wrap64 (Int.tdiv t521 100)) * 85)) + (wrap64 (Int.tdiv (wrap64 ((Int.tmod t521 100) * 85)) 100)))))) then ((aimd_Aimd_State.f bt522.2.1 bt522.2.2.1 bt522.2.2.2.1 bt522.2.2.2.2.1 bt522.2.2.2.2.2.1 bt522.2.2.2.2.2.2.1 bt522.2.2.2.2.2.2.2.1 bt522.2.2.2.2.2.2.2.2.1 bt522.2.2.2.2.2.2.2.2.2).bind fun bt532 => (if bt532.1 = 0 then ((flywheellaw19_wakes.f kj6).bind fun t542 => (some t542)) else (some false))) else (some false)))) = some r := H
          have A19 := Aside0.mk A190
          clear A190
          replace H := Option.bind_eq_some_iff.mp H
          obtain ⟨t521, A200, H⟩ := H
          replace H : ((aimd_Aimd_Update.f kj6 t512 t513 t514 t515 t516 t517 t518 t519 t520 1 t521 50000 x9_6).bind fun bt522 => (if bt522.1 = (mx a0_1 (mn t511 (wrap64 ((wrap64 ((wrap64 (Int.tdiv t521 100)) * 85)) + (wrap64 (Int.tdiv (wrap64 ((Int.tmod t521 100) * 85)) 100)))))) then ((aimd_Aimd_State.f bt522.2.1 bt522.2.2.1 bt522.2.2.2.1 bt522.2.2.2.2.1 bt522.2.2.2.2.2.1 bt522.2.2.2.2.2.2.1 bt522.2.2.2.2.2.2.2.1 bt522.2.2.2.2.2.2.2.2.1 bt522.2.2.2.2.2.2.2.2.2).bind fun bt532 => (if bt532.1 = 0 then ((flywheellaw19_wakes.f kj6).bind fun t542 => (some t542)) else (some false))) else (some false))) = some r := H
          have A20 := Aside0.mk A200
          clear A200
          obtain ⟨ji21, hji21⟩ : ∃ j_ : Int, (mn t511 (wrap64 ((wrap64 ((wrap64 (Int.tdiv t521 100)) * 85)) + (wrap64 (Int.tdiv (wrap64 ((Int.tmod t521 100) * 85)) 100))))) = j_ := ⟨_, rfl⟩
          replace H : ((aimd_Aimd_Update.f kj6 t512 t513 t514 t515 t516 t517 t518 t519 t520 1 t521 50000 x9_6).bind fun bt522 => (if bt522.1 = (mx a0_1 (ji21)) then ((aimd_Aimd_State.f bt522.2.1 bt522.2.2.1 bt522.2.2.2.1 bt522.2.2.2.2.1 bt522.2.2.2.2.2.1 bt522.2.2.2.2.2.2.1 bt522.2.2.2.2.2.2.2.1 bt522.2.2.2.2.2.2.2.2.1 bt522.2.2.2.2.2.2.2.2.2).bind fun bt532 => (if bt532.1 = 0 then ((flywheellaw19_wakes.f kj6).bind fun t542 => (some t542)) else (some false))) else (some false))) = some r := by first | (rw [hji21] at H; exact H) | (simp only [hji21] at H ⊢; exact H)
          (try rw [hji21] at A19)
          (try rw [hji21] at A20)
          have hji21_ : (if (wrap64 ((wrap64 ((wrap64 (Int.tdiv t521 100)) * 85)) + (wrap64 (Int.tdiv (wrap64 ((Int.tmod t521 100) * 85)) 100)))) < t511 then (wrap64 ((wrap64 ((wrap64 (Int.tdiv t521 100)) * 85)) + (wrap64 (Int.tdiv (wrap64 ((Int.tmod t521 100) * 85)) 100)))) else t511) = ji21 := hji21
          obtain ⟨ji22, hji22⟩ : ∃ j_ : Int, (mx a0_1 (ji21)) = j_ := ⟨_, rfl⟩
          replace H : ((aimd_Aimd_Update.f kj6 t512 t513 t514 t515 t516 t517 t518 t519 t520 1 t521 50000 x9_6).bind fun bt522 => (if bt522.1 = (ji22) then ((aimd_Aimd_State.f bt522.2.1 bt522.2.2.1 bt522.2.2.2.1 bt522.2.2.2.2.1 bt522.2.2.2.2.2.1 bt522.2.2.2.2.2.2.1 bt522.2.2.2.2.2.2.2.1 bt522.2.2.2.2.2.2.2.2.1 bt522.2.2.2.2.2.2.2.2.2).bind fun bt532 => (if bt532.1 = 0 then ((flywheellaw19_wakes.f kj6).bind fun t542 => (some t542)) else (some false))) else (some false))) = some r := by first | (rw [hji22] at H; exact H) | (simp only [hji22] at H ⊢; exact H)
          (try rw [hji22] at A19)
          (try rw [hji22] at A20)
          have hji22_ : (if a0_1 < (ji21) then (ji21) else a0_1) = ji22 := hji22
          replace H := Option.bind_eq_some_iff.mp H
          obtain ⟨⟨t522, t523, t524, t525, t526, t527, t528, t529, t530, t531⟩, A230, H⟩ := H
          replace H : (if t522 = (ji22) then ((aimd_Aimd_State.f t523 t524 t525 t526 t527 t528 t529 t530 t531).bind fun bt532 => (if bt532.1 = 0 then ((flywheellaw19_wakes.f kj6).bind fun t542 => (some t542)) else (some false))) else (some false)) = some r := H
          have A23 := Aside0.mk A230
          clear A230
          by_cases c24 : t522 = (ji22)
          · rw [if_pos c24] at H
            have c24b0 : (t522 == (ji22)) = true := beq_iff_eq.mpr c24
            have c24b1 : (t522 != (ji22)) = false := bne_eq_false_iff_eq.mpr c24
            clear c24
            replace H := Option.bind_eq_some_iff.mp H
            obtain ⟨⟨t532, t533, t534, t535, t536, t537, t538, t539, t540, t541⟩, A250, H⟩ := H
            replace H : (if t532 = 0 then ((flywheellaw19_wakes.f kj6).bind fun t542 => (some t542)) else (some false)) = some r := H
            have A25 := Aside0.mk A250
            clear A250
            by_cases c26 : t532 = 0
            · rw [if_pos c26] at H
              have c26b0 : (t532 == 0) = true := beq_iff_eq.mpr c26
              have c26b1 : (t532 != 0) = false := bne_eq_false_iff_eq.mpr c26
              clear c26
              replace H := Option.bind_eq_some_iff.mp H
              obtain ⟨t542, A270, H⟩ := H
              replace H : (some t542) = some r := H
              have A27 := Aside0.mk A270
              clear A270
              obtain rfl := Option.some.inj H
              go_wp2_with (first | ((with_reducible refine gate_callee (f := 17) rfl ?_); refine goesL_ (some 72) rfl rfl Try.func17 (by kernel_rfl) rfl #[.pointer (some ⟨g494, 0, none⟩)] rfl (by (try simp only [List.map_toArray, List.map_cons, List.map_nil]); first | done | rfl | (simp only [List.length_drop, List.length_take]; rfl)) ?_; (with_reducible refine (aimd_Aimd_Rate.calls g494 x495000_6 x495001_6 x495002_6 x495003_6 x495004_6 x495005_6 x495006_6 x495007_6 x495008_6 t511 t512 t513 t514 t515 t516 t517 t518 t519 t520 w _ ?side1 ?side2 A19.out).mono ?_); (case side1 => repeat (first | (with_reducible first | exact HI494.out | apply IsS63.alloc | apply IsS63.drewN | apply IsS63.drew | apply IsS63.set_0 | apply IsS63.set_1 | apply IsS63.set_2 | apply IsS63.set_3 | apply IsS63.set_4 | apply IsS63.set_5 | apply IsS63.set_6 | apply IsS63.set_7 | apply IsS63.set_8 | refine IsS63.far ?_ NB494_484.out _) | exact HI494.out)); (case side2 => repeat (first | (with_reducible first | exact HB.out | apply below_alloc | apply pw_below_drewN | apply below_drew1 | refine below_set ?_ (IsS63.ge HI494.out) | refine below_set ?_ GE484.out) | exact HB.out)); rintro e w28 ⟨rfl, hi, hb, hk⟩; refine ⟨_, rfl, ?_⟩; have n0_ := Aside0.mk (KeepBut.blk hk (g' := gb484) (o := .cells #[.int .i64 a0_0, .int .i64 a0_1, .int .i64 a0_2] 23 (0, 0)) (by (with_reducible repeat (first | refine blk_drewN ?_ _ | refine blk_drew ?_ | refine blk_alloc ?_ _)); exact BK484.out) NB484_494.out (by simp)); have n1_ := Aside0.mk (hb); have n2_ := Aside0.mk (hi); clear BK484; clear HB; clear HI494; have BK484 := n0_; have HB := n1_; have HI494 := n2_; clear n0_ n1_ n2_; (try clear hb); (try clear hb2); (try clear hk); (try clear hi)) | ((with_reducible refine gate_callee (f := 25) rfl ?_); refine goesL_ (some 74) rfl rfl Try.func25 (by kernel_rfl) rfl #[.int .i64 a2, .int .i64 17179869184] rfl (by (try simp only [List.map_toArray, List.map_cons, List.map_nil]); first | done | rfl | (simp only [List.length_drop, List.length_take]; rfl)) ?_; (with_reducible refine (flywheelkeep_Mod64.calls a2 17179869184 t521 _ A20.out).mono ?_); rintro e w' ⟨rfl, ⟨nd, rfl⟩⟩; refine ⟨_, rfl, ?_⟩; have hnb29 := NB484_494.out; have hnc29 := NB494_484.out; have hcz30_0 : w28.cell? ⟨gb484, 0, none⟩ = some (.int .i64 a0_0) := (blk_cell BK484.out 0).trans rfl; have hcz30_1 : w28.cell? ⟨gb484, 1, none⟩ = some (.int .i64 a0_1) := (blk_cell BK484.out 1).trans rfl; have hcz30_2 : w28.cell? ⟨gb484, 2, none⟩ = some (.int .i64 a0_2) := (blk_cell BK484.out 2).trans rfl; have hfz30_0 := blk_frozen BK484.out 0; have hfz30_1 := blk_frozen BK484.out 1; have hfz30_2 := blk_frozen BK484.out 2) | ((with_reducible refine gate_callee (f := 18) rfl ?_); refine goesL_ (some 91) rfl rfl Try.func18 (by kernel_rfl) rfl #[.pointer (some ⟨g494, 0, none⟩), .int .i64 1, .int .i64 t521, .int .i64 50000, .int .i64 x9_6] rfl (by (try simp only [List.map_toArray, List.map_cons, List.map_nil]); first | done | rfl | (simp only [List.length_drop, List.length_take]; rfl)) ?_; (with_reducible refine (aimd_Aimd_Update.calls kj6 g494 t512 t513 t514 t515 t516 t517 t518 t519 t520 1 t521 50000 x9_6 t522 t523 t524 t525 t526 t527 t528 t529 t530 t531 w _ ?side1 ?side2 A23.out).mono ?_); (case side1 => repeat (first | (with_reducible first | exact HI494.out | apply IsS63.alloc | apply IsS63.drewN | apply IsS63.drew | apply IsS63.set_0 | apply IsS63.set_1 | apply IsS63.set_2 | apply IsS63.set_3 | apply IsS63.set_4 | apply IsS63.set_5 | apply IsS63.set_6 | apply IsS63.set_7 | apply IsS63.set_8 | refine IsS63.far ?_ NB494_484.out _) | exact HI494.out)); (case side2 => repeat (first | (with_reducible first | exact HB.out | apply below_alloc | apply pw_below_drewN | apply below_drew1 | refine below_set ?_ (IsS63.ge HI494.out) | refine below_set ?_ GE484.out) | exact HB.out)); rintro e w31 ⟨rfl, hi, hb, hk⟩; refine ⟨_, rfl, ?_⟩; have n0_ := Aside0.mk (KeepBut.blk hk (g' := gb484) (o := .cells #[.int .i64 a0_0, .int .i64 a0_1, .int .i64 a0_2] 23 (0, 0)) (by (with_reducible repeat (first | refine blk_drewN ?_ _ | refine blk_drew ?_ | refine blk_alloc ?_ _)); exact BK484.out) NB484_494.out (by simp)); have n1_ := Aside0.mk (hb); have n2_ := Aside0.mk (hi); clear BK484; clear HB; clear HI494; have BK484 := n0_; have HB := n1_; have HI494 := n2_; clear n0_ n1_ n2_; (try clear hb); (try clear hb2); (try clear hk); (try clear hi)) | (go_at_call 23; (with_reducible refine (aimd_Aimd_State.calls g494 t523 t524 t525 t526 t527 t528 t529 t530 t531 t532 t533 t534 t535 t536 t537 t538 t539 t540 t541 w _ ?side1 ?side2 A25.out).mono ?_); (case side1 => repeat (first | (with_reducible first | exact HI494.out | apply IsS63.alloc | apply IsS63.drewN | apply IsS63.drew | apply IsS63.set_0 | apply IsS63.set_1 | apply IsS63.set_2 | apply IsS63.set_3 | apply IsS63.set_4 | apply IsS63.set_5 | apply IsS63.set_6 | apply IsS63.set_7 | apply IsS63.set_8 | refine IsS63.far ?_ NB494_484.out _) | exact HI494.out)); (case side2 => repeat (first | (with_reducible first | exact HB.out | apply below_alloc | apply pw_below_drewN | apply below_drew1 | refine below_set ?_ (IsS63.ge HI494.out) | refine below_set ?_ GE484.out) | exact HB.out)); rintro e w32 ⟨rfl, hi, hb, hk⟩; have n0_ := Aside0.mk (KeepBut.blk hk (g' := gb484) (o := .cells #[.int .i64 a0_0, .int .i64 a0_1, .int .i64 a0_2] 23 (0, 0)) (by (with_reducible repeat (first | refine blk_drewN ?_ _ | refine blk_drew ?_ | refine blk_alloc ?_ _)); exact BK484.out) NB484_494.out (by simp)); have n1_ := Aside0.mk (hb); have n2_ := Aside0.mk (hi); clear BK484; clear HB; clear HI494; have BK484 := n0_; have HB := n1_; have HI494 := n2_; clear n0_ n1_ n2_; (try clear hb); (try clear hb2); (try clear hk); (try clear hi)) | (go_at_call 16; (with_reducible refine (flywheellaw19_wakes.calls kj6  t542 _ A27.out).mono ?_); rintro e w33 ⟨rfl, hb⟩; have n0_ := Aside0.mk (blk_below (g := gb484) (o := .cells #[.int .i64 a0_0, .int .i64 a0_1, .int .i64 a0_2] 23 (0, 0)) (by (with_reducible repeat (first | refine blk_drewN ?_ _ | refine blk_drew ?_ | refine blk_alloc ?_ _)); exact BK484.out) hb); have n1_ := Aside0.mk (IsS63.below (by repeat (first | (with_reducible first | exact HI494.out | apply IsS63.alloc | apply IsS63.drewN | apply IsS63.drew | apply IsS63.set_0 | apply IsS63.set_1 | apply IsS63.set_2 | apply IsS63.set_3 | apply IsS63.set_4 | apply IsS63.set_5 | apply IsS63.set_6 | apply IsS63.set_7 | apply IsS63.set_8 | refine IsS63.far ?_ NB494_484.out _) | exact HI494.out)) hb); have n2_ := Aside0.mk (below_step (by repeat (first | (with_reducible first | exact HB.out | apply below_alloc | apply pw_below_drewN | apply below_drew1 | refine below_set ?_ (IsS63.ge HI494.out) | refine below_set ?_ GE484.out) | exact HB.out)) hb); clear BK484; clear HI494; clear HB; have BK484 := n0_; have HI494 := n1_; have HB := n2_; clear n0_ n1_ n2_; (try clear hb); (try clear hb2); (try clear hk); (try clear hi)))
              go_ret
              exact ⟨by first | rfl | (simp [errW_none, errW_some] <;> rfl) | (simp only [← hji21, ← hji22]; first | rfl | (simp [errW_none, errW_some] <;> rfl)) | (simp [*, errW_none, errW_some] <;> rfl), by repeat (first | (with_reducible first | exact HB.out | apply below_alloc | apply pw_below_drewN | apply below_drew1 | refine below_set ?_ (IsS63.ge HI494.out) | refine below_set ?_ GE484.out) | exact HB.out)⟩
            · rw [if_neg c26] at H
              have c26b0 : (t532 == 0) = false := beq_eq_false_iff_ne.mpr c26
              have c26b1 : (t532 != 0) = true := bne_iff_ne.mpr c26
              obtain rfl := Option.some.inj H
              go_wp2_with (first | ((with_reducible refine gate_callee (f := 17) rfl ?_); refine goesL_ (some 72) rfl rfl Try.func17 (by kernel_rfl) rfl #[.pointer (some ⟨g494, 0, none⟩)] rfl (by (try simp only [List.map_toArray, List.map_cons, List.map_nil]); first | done | rfl | (simp only [List.length_drop, List.length_take]; rfl)) ?_; (with_reducible refine (aimd_Aimd_Rate.calls g494 x495000_6 x495001_6 x495002_6 x495003_6 x495004_6 x495005_6 x495006_6 x495007_6 x495008_6 t511 t512 t513 t514 t515 t516 t517 t518 t519 t520 w _ ?side1 ?side2 A19.out).mono ?_); (case side1 => repeat (first | (with_reducible first | exact HI494.out | apply IsS63.alloc | apply IsS63.drewN | apply IsS63.drew | apply IsS63.set_0 | apply IsS63.set_1 | apply IsS63.set_2 | apply IsS63.set_3 | apply IsS63.set_4 | apply IsS63.set_5 | apply IsS63.set_6 | apply IsS63.set_7 | apply IsS63.set_8 | refine IsS63.far ?_ NB494_484.out _) | exact HI494.out)); (case side2 => repeat (first | (with_reducible first | exact HB.out | apply below_alloc | apply pw_below_drewN | apply below_drew1 | refine below_set ?_ (IsS63.ge HI494.out) | refine below_set ?_ GE484.out) | exact HB.out)); rintro e w34 ⟨rfl, hi, hb, hk⟩; refine ⟨_, rfl, ?_⟩; have n0_ := Aside0.mk (KeepBut.blk hk (g' := gb484) (o := .cells #[.int .i64 a0_0, .int .i64 a0_1, .int .i64 a0_2] 23 (0, 0)) (by (with_reducible repeat (first | refine blk_drewN ?_ _ | refine blk_drew ?_ | refine blk_alloc ?_ _)); exact BK484.out) NB484_494.out (by simp)); have n1_ := Aside0.mk (hb); have n2_ := Aside0.mk (hi); clear BK484; clear HB; clear HI494; have BK484 := n0_; have HB := n1_; have HI494 := n2_; clear n0_ n1_ n2_; (try clear hb); (try clear hb2); (try clear hk); (try clear hi)) | ((with_reducible refine gate_callee (f := 25) rfl ?_); refine goesL_ (some 74) rfl rfl Try.func25 (by kernel_rfl) rfl #[.int .i64 a2, .int .i64 17179869184] rfl (by (try simp only [List.map_toArray, List.map_cons, List.map_nil]); first | done | rfl | (simp only [List.length_drop, List.length_take]; rfl)) ?_; (with_reducible refine (flywheelkeep_Mod64.calls a2 17179869184 t521 _ A20.out).mono ?_); rintro e w' ⟨rfl, ⟨nd, rfl⟩⟩; refine ⟨_, rfl, ?_⟩; have hnb35 := NB484_494.out; have hnc35 := NB494_484.out; have hcz36_0 : w34.cell? ⟨gb484, 0, none⟩ = some (.int .i64 a0_0) := (blk_cell BK484.out 0).trans rfl; have hcz36_1 : w34.cell? ⟨gb484, 1, none⟩ = some (.int .i64 a0_1) := (blk_cell BK484.out 1).trans rfl; have hcz36_2 : w34.cell? ⟨gb484, 2, none⟩ = some (.int .i64 a0_2) := (blk_cell BK484.out 2).trans rfl; have hfz36_0 := blk_frozen BK484.out 0; have hfz36_1 := blk_frozen BK484.out 1; have hfz36_2 := blk_frozen BK484.out 2) | ((with_reducible refine gate_callee (f := 18) rfl ?_); refine goesL_ (some 91) rfl rfl Try.func18 (by kernel_rfl) rfl #[.pointer (some ⟨g494, 0, none⟩), .int .i64 1, .int .i64 t521, .int .i64 50000, .int .i64 x9_6] rfl (by (try simp only [List.map_toArray, List.map_cons, List.map_nil]); first | done | rfl | (simp only [List.length_drop, List.length_take]; rfl)) ?_; (with_reducible refine (aimd_Aimd_Update.calls kj6 g494 t512 t513 t514 t515 t516 t517 t518 t519 t520 1 t521 50000 x9_6 t522 t523 t524 t525 t526 t527 t528 t529 t530 t531 w _ ?side1 ?side2 A23.out).mono ?_); (case side1 => repeat (first | (with_reducible first | exact HI494.out | apply IsS63.alloc | apply IsS63.drewN | apply IsS63.drew | apply IsS63.set_0 | apply IsS63.set_1 | apply IsS63.set_2 | apply IsS63.set_3 | apply IsS63.set_4 | apply IsS63.set_5 | apply IsS63.set_6 | apply IsS63.set_7 | apply IsS63.set_8 | refine IsS63.far ?_ NB494_484.out _) | exact HI494.out)); (case side2 => repeat (first | (with_reducible first | exact HB.out | apply below_alloc | apply pw_below_drewN | apply below_drew1 | refine below_set ?_ (IsS63.ge HI494.out) | refine below_set ?_ GE484.out) | exact HB.out)); rintro e w37 ⟨rfl, hi, hb, hk⟩; refine ⟨_, rfl, ?_⟩; have n0_ := Aside0.mk (KeepBut.blk hk (g' := gb484) (o := .cells #[.int .i64 a0_0, .int .i64 a0_1, .int .i64 a0_2] 23 (0, 0)) (by (with_reducible repeat (first | refine blk_drewN ?_ _ | refine blk_drew ?_ | refine blk_alloc ?_ _)); exact BK484.out) NB484_494.out (by simp)); have n1_ := Aside0.mk (hb); have n2_ := Aside0.mk (hi); clear BK484; clear HB; clear HI494; have BK484 := n0_; have HB := n1_; have HI494 := n2_; clear n0_ n1_ n2_; (try clear hb); (try clear hb2); (try clear hk); (try clear hi)) | (go_at_call 23; (with_reducible refine (aimd_Aimd_State.calls g494 t523 t524 t525 t526 t527 t528 t529 t530 t531 t532 t533 t534 t535 t536 t537 t538 t539 t540 t541 w _ ?side1 ?side2 A25.out).mono ?_); (case side1 => repeat (first | (with_reducible first | exact HI494.out | apply IsS63.alloc | apply IsS63.drewN | apply IsS63.drew | apply IsS63.set_0 | apply IsS63.set_1 | apply IsS63.set_2 | apply IsS63.set_3 | apply IsS63.set_4 | apply IsS63.set_5 | apply IsS63.set_6 | apply IsS63.set_7 | apply IsS63.set_8 | refine IsS63.far ?_ NB494_484.out _) | exact HI494.out)); (case side2 => repeat (first | (with_reducible first | exact HB.out | apply below_alloc | apply pw_below_drewN | apply below_drew1 | refine below_set ?_ (IsS63.ge HI494.out) | refine below_set ?_ GE484.out) | exact HB.out)); rintro e w38 ⟨rfl, hi, hb, hk⟩; have n0_ := Aside0.mk (KeepBut.blk hk (g' := gb484) (o := .cells #[.int .i64 a0_0, .int .i64 a0_1, .int .i64 a0_2] 23 (0, 0)) (by (with_reducible repeat (first | refine blk_drewN ?_ _ | refine blk_drew ?_ | refine blk_alloc ?_ _)); exact BK484.out) NB484_494.out (by simp)); have n1_ := Aside0.mk (hb); have n2_ := Aside0.mk (hi); clear BK484; clear HB; clear HI494; have BK484 := n0_; have HB := n1_; have HI494 := n2_; clear n0_ n1_ n2_; (try clear hb); (try clear hb2); (try clear hk); (try clear hi)))
              go_ret
              exact ⟨by first | rfl | (simp [errW_none, errW_some] <;> rfl) | (simp only [← hji21, ← hji22]; first | rfl | (simp [errW_none, errW_some] <;> rfl)) | (simp [*, errW_none, errW_some] <;> rfl), by repeat (first | (with_reducible first | exact HB.out | apply below_alloc | apply pw_below_drewN | apply below_drew1 | refine below_set ?_ (IsS63.ge HI494.out) | refine below_set ?_ GE484.out) | exact HB.out)⟩
          · rw [if_neg c24] at H
            have c24b0 : (t522 == (ji22)) = false := beq_eq_false_iff_ne.mpr c24
            have c24b1 : (t522 != (ji22)) = true := bne_iff_ne.mpr c24
            obtain rfl := Option.some.inj H
            go_wp2_with (first | ((with_reducible refine gate_callee (f := 17) rfl ?_); refine goesL_ (some 72) rfl rfl Try.func17 (by kernel_rfl) rfl #[.pointer (some ⟨g494, 0, none⟩)] rfl (by (try simp only [List.map_toArray, List.map_cons, List.map_nil]); first | done | rfl | (simp only [List.length_drop, List.length_take]; rfl)) ?_; (with_reducible refine (aimd_Aimd_Rate.calls g494 x495000_6 x495001_6 x495002_6 x495003_6 x495004_6 x495005_6 x495006_6 x495007_6 x495008_6 t511 t512 t513 t514 t515 t516 t517 t518 t519 t520 w _ ?side1 ?side2 A19.out).mono ?_); (case side1 => repeat (first | (with_reducible first | exact HI494.out | apply IsS63.alloc | apply IsS63.drewN | apply IsS63.drew | apply IsS63.set_0 | apply IsS63.set_1 | apply IsS63.set_2 | apply IsS63.set_3 | apply IsS63.set_4 | apply IsS63.set_5 | apply IsS63.set_6 | apply IsS63.set_7 | apply IsS63.set_8 | refine IsS63.far ?_ NB494_484.out _) | exact HI494.out)); (case side2 => repeat (first | (with_reducible first | exact HB.out | apply below_alloc | apply pw_below_drewN | apply below_drew1 | refine below_set ?_ (IsS63.ge HI494.out) | refine below_set ?_ GE484.out) | exact HB.out)); rintro e w39 ⟨rfl, hi, hb, hk⟩; refine ⟨_, rfl, ?_⟩; have n0_ := Aside0.mk (KeepBut.blk hk (g' := gb484) (o := .cells #[.int .i64 a0_0, .int .i64 a0_1, .int .i64 a0_2] 23 (0, 0)) (by (with_reducible repeat (first | refine blk_drewN ?_ _ | refine blk_drew ?_ | refine blk_alloc ?_ _)); exact BK484.out) NB484_494.out (by simp)); have n1_ := Aside0.mk (hb); have n2_ := Aside0.mk (hi); clear BK484; clear HB; clear HI494; have BK484 := n0_; have HB := n1_; have HI494 := n2_; clear n0_ n1_ n2_; (try clear hb); (try clear hb2); (try clear hk); (try clear hi)) | ((with_reducible refine gate_callee (f := 25) rfl ?_); refine goesL_ (some 74) rfl rfl Try.func25 (by kernel_rfl) rfl #[.int .i64 a2, .int .i64 17179869184] rfl (by (try simp only [List.map_toArray, List.map_cons, List.map_nil]); first | done | rfl | (simp only [List.length_drop, List.length_take]; rfl)) ?_; (with_reducible refine (flywheelkeep_Mod64.calls a2 17179869184 t521 _ A20.out).mono ?_); rintro e w' ⟨rfl, ⟨nd, rfl⟩⟩; refine ⟨_, rfl, ?_⟩; have hnb40 := NB484_494.out; have hnc40 := NB494_484.out; have hcz41_0 : w39.cell? ⟨gb484, 0, none⟩ = some (.int .i64 a0_0) := (blk_cell BK484.out 0).trans rfl; have hcz41_1 : w39.cell? ⟨gb484, 1, none⟩ = some (.int .i64 a0_1) := (blk_cell BK484.out 1).trans rfl; have hcz41_2 : w39.cell? ⟨gb484, 2, none⟩ = some (.int .i64 a0_2) := (blk_cell BK484.out 2).trans rfl; have hfz41_0 := blk_frozen BK484.out 0; have hfz41_1 := blk_frozen BK484.out 1; have hfz41_2 := blk_frozen BK484.out 2) | ((with_reducible refine gate_callee (f := 18) rfl ?_); refine goesL_ (some 91) rfl rfl Try.func18 (by kernel_rfl) rfl #[.pointer (some ⟨g494, 0, none⟩), .int .i64 1, .int .i64 t521, .int .i64 50000, .int .i64 x9_6] rfl (by (try simp only [List.map_toArray, List.map_cons, List.map_nil]); first | done | rfl | (simp only [List.length_drop, List.length_take]; rfl)) ?_; (with_reducible refine (aimd_Aimd_Update.calls kj6 g494 t512 t513 t514 t515 t516 t517 t518 t519 t520 1 t521 50000 x9_6 t522 t523 t524 t525 t526 t527 t528 t529 t530 t531 w _ ?side1 ?side2 A23.out).mono ?_); (case side1 => repeat (first | (with_reducible first | exact HI494.out | apply IsS63.alloc | apply IsS63.drewN | apply IsS63.drew | apply IsS63.set_0 | apply IsS63.set_1 | apply IsS63.set_2 | apply IsS63.set_3 | apply IsS63.set_4 | apply IsS63.set_5 | apply IsS63.set_6 | apply IsS63.set_7 | apply IsS63.set_8 | refine IsS63.far ?_ NB494_484.out _) | exact HI494.out)); (case side2 => repeat (first | (with_reducible first | exact HB.out | apply below_alloc | apply pw_below_drewN | apply below_drew1 | refine below_set ?_ (IsS63.ge HI494.out) | refine below_set ?_ GE484.out) | exact HB.out)); rintro e w42 ⟨rfl, hi, hb, hk⟩; refine ⟨_, rfl, ?_⟩; have n0_ := Aside0.mk (KeepBut.blk hk (g' := gb484) (o := .cells #[.int .i64 a0_0, .int .i64 a0_1, .int .i64 a0_2] 23 (0, 0)) (by (with_reducible repeat (first | refine blk_drewN ?_ _ | refine blk_drew ?_ | refine blk_alloc ?_ _)); exact BK484.out) NB484_494.out (by simp)); have n1_ := Aside0.mk (hb); have n2_ := Aside0.mk (hi); clear BK484; clear HB; clear HI494; have BK484 := n0_; have HB := n1_; have HI494 := n2_; clear n0_ n1_ n2_; (try clear hb); (try clear hb2); (try clear hk); (try clear hi)))
            go_ret
            exact ⟨by first | rfl | (simp [errW_none, errW_some] <;> rfl) | (simp only [← hji21, ← hji22]; first | rfl | (simp [errW_none, errW_some] <;> rfl)) | (simp [*, errW_none, errW_some] <;> rfl), by repeat (first | (with_reducible first | exact HB.out | apply below_alloc | apply pw_below_drewN | apply below_drew1 | refine below_set ?_ (IsS63.ge HI494.out) | refine below_set ?_ GE484.out) | exact HB.out)⟩
    · rw [if_neg c6] at H
      have c6b0 : (t495 == 0) = false := beq_eq_false_iff_ne.mpr c6
      have c6b1 : (t495 != 0) = true := bne_iff_ne.mpr c6
      obtain rfl := Option.some.inj H
      go_enter Try.func7, Try.ntmps7
      go_wp2_with (first | ((with_reducible refine gate_dst (N := 3) rfl ?_); refine box_event ?hg (N := 3) ?hd (cs := #[.int .i64 a0_0, .int .i64 a0_1, .int .i64 a0_2]) (t := 23) ?hr ?_; (case hd => rfl); (case hg => rfl); (case hr => first | (go_simp; done) | (go_simp; rfl)); intro gb484 hg w43 hbox hb; have n0_ := Aside0.mk (below_step (by repeat (first | (with_reducible first | exact HB.out | apply below_alloc | apply pw_below_drewN | apply below_drew1) | exact HB.out)) hb); have n1_ := Aside0.mk (hbox); have n2_ := Aside0.mk ((by rw [hg]; exact (below_size (by repeat (first | (with_reducible first | exact HB.out | apply below_alloc | apply pw_below_drewN | apply below_drew1) | exact HB.out))) : w.heap.size ≤ gb484)); have n3_ := Aside0.mk ((by rw [hg]; exact (below_size (by repeat (first | (with_reducible first | exact HB.out | apply below_alloc | apply pw_below_drewN | apply below_drew1) | exact HB.out))) : w.heap.size ≤ gb484)); clear HB; have HB := n0_; have BK484 := n1_; have GW484 := n2_; have GE484 := n3_; clear n0_ n1_ n2_ n3_; clear hb hbox hg; have hcz44_0 : w43.cell? ⟨gb484, 0, none⟩ = some (.int .i64 a0_0) := (blk_cell BK484.out 0).trans rfl; have hcz44_1 : w43.cell? ⟨gb484, 1, none⟩ = some (.int .i64 a0_1) := (blk_cell BK484.out 1).trans rfl; have hcz44_2 : w43.cell? ⟨gb484, 2, none⟩ = some (.int .i64 a0_2) := (blk_cell BK484.out 2).trans rfl; have hfz44_0 := blk_frozen BK484.out 0; have hfz44_1 := blk_frozen BK484.out 1; have hfz44_2 := blk_frozen BK484.out 2) | ((with_reducible refine gate_callee (f := 14) rfl ?_); refine goesL_ (some 21) rfl rfl Try.func14 (by kernel_rfl) rfl #[.int .i64 a0_0, .int .i64 a0_1, .int .i64 a0_2] rfl (by (try simp only [List.map_toArray, List.map_cons, List.map_nil]); first | done | rfl | (simp only [List.length_drop, List.length_take]; rfl)) ?_; (with_reducible refine (aimd_New.made.calls a0_0 a0_1 a0_2 t485 t486 t487 t488 t489 t490 t491 t492 t493 t495 _ _ (Below.refl _ _) A5.out).mono ?_); rintro e w45 ⟨g494, rfl, hi, hb, hb2⟩; refine ⟨_, rfl, ?_⟩; have n0_ := Aside0.mk (blk_below (g := gb484) (o := .cells #[.int .i64 a0_0, .int .i64 a0_1, .int .i64 a0_2] 23 (0, 0)) (by (with_reducible repeat (first | refine blk_drewN ?_ _ | refine blk_drew ?_ | refine blk_alloc ?_ _)); exact BK484.out) hb2); have n1_ := Aside0.mk (below_step (by repeat (first | (with_reducible first | exact HB.out | apply below_alloc | apply pw_below_drewN | apply below_drew1 | refine below_set ?_ GE484.out) | exact HB.out)) hb2); have n2_ := Aside0.mk ((IsS63.rebase hi (below_size (by repeat (first | (with_reducible first | exact HB.out | apply below_alloc | apply pw_below_drewN | apply below_drew1 | refine below_set ?_ GE484.out) | exact HB.out))))); have n3_ := Aside0.mk (IsS63.ne_blk hi (blk_below (g := gb484) (o := .cells #[.int .i64 a0_0, .int .i64 a0_1, .int .i64 a0_2] 23 (0, 0)) (by (with_reducible repeat (first | refine blk_drewN ?_ _ | refine blk_drew ?_ | refine blk_alloc ?_ _)); exact BK484.out) hb2) (by decide)); have n4_ := Aside0.mk (Ne.symm (IsS63.ne_blk hi (blk_below (g := gb484) (o := .cells #[.int .i64 a0_0, .int .i64 a0_1, .int .i64 a0_2] 23 (0, 0)) (by (with_reducible repeat (first | refine blk_drewN ?_ _ | refine blk_drew ?_ | refine blk_alloc ?_ _)); exact BK484.out) hb2) (by decide))); clear BK484; clear HB; have BK484 := n0_; have HB := n1_; have HI494 := n2_; have NB494_484 := n3_; have NB484_494 := n4_; clear n0_ n1_ n2_ n3_ n4_; (try clear hb); (try clear hb2); (try clear hk); (try clear hi)))
      go_ret
      exact ⟨by first | rfl | (simp [errW_none, errW_some] <;> rfl) | (simp [*, errW_none, errW_some] <;> rfl), by repeat (first | (with_reducible first | exact HB.out | apply below_alloc | apply pw_below_drewN | apply below_drew1 | refine below_set ?_ (IsS63.ge HI494.out) | refine below_set ?_ GE484.out) | exact HB.out)⟩
  · rw [if_neg c4] at H
    have c4b0 : (aimd_New.made.f a0_0 a0_1 a0_2).isSome = false := by simpa using c4
    clear c4
    replace H := Option.bind_eq_some_iff.mp H
    obtain ⟨t543, A460, H⟩ := H
    replace H : (if t543 = 0 then (flywheellaw19_AimdCuts.l5000 k l1 a2 0 0 a0_0 a0_1 a0_2) else ((flywheellaw19_wakes.f k).bind fun t544 => (some t544))) = some r := H
    have A46 := Aside0.mk A460
    clear A460
    by_cases c47 : t543 = 0
    · rw [if_pos c47] at H
      have c47b0 : (t543 == 0) = true := beq_iff_eq.mpr c47
      have c47b1 : (t543 != 0) = false := bne_eq_false_iff_eq.mpr c47
      clear c47
      have HC48 := Aside0.mk H
      clear H
      go_enter Try.func7, Try.ntmps7
      go_upto_block 0 with (first | ((with_reducible refine gate_dst (N := 3) rfl ?_); refine box_event ?hg (N := 3) ?hd (cs := #[.int .i64 a0_0, .int .i64 a0_1, .int .i64 a0_2]) (t := 23) ?hr ?_; (case hd => rfl); (case hg => rfl); (case hr => first | (go_simp; done) | (go_simp; rfl)); intro gb484 hg w49 hbox hb; have n0_ := Aside0.mk (below_step (by repeat (first | (with_reducible first | exact HB.out | apply below_alloc | apply pw_below_drewN | apply below_drew1) | exact HB.out)) hb); have n1_ := Aside0.mk (hbox); have n2_ := Aside0.mk ((by rw [hg]; exact (below_size (by repeat (first | (with_reducible first | exact HB.out | apply below_alloc | apply pw_below_drewN | apply below_drew1) | exact HB.out))) : w.heap.size ≤ gb484)); have n3_ := Aside0.mk ((by rw [hg]; exact (below_size (by repeat (first | (with_reducible first | exact HB.out | apply below_alloc | apply pw_below_drewN | apply below_drew1) | exact HB.out))) : w.heap.size ≤ gb484)); clear HB; have HB := n0_; have BK484 := n1_; have GW484 := n2_; have GE484 := n3_; clear n0_ n1_ n2_ n3_; clear hb hbox hg; have hcz50_0 : w49.cell? ⟨gb484, 0, none⟩ = some (.int .i64 a0_0) := (blk_cell BK484.out 0).trans rfl; have hcz50_1 : w49.cell? ⟨gb484, 1, none⟩ = some (.int .i64 a0_1) := (blk_cell BK484.out 1).trans rfl; have hcz50_2 : w49.cell? ⟨gb484, 2, none⟩ = some (.int .i64 a0_2) := (blk_cell BK484.out 2).trans rfl; have hfz50_0 := blk_frozen BK484.out 0; have hfz50_1 := blk_frozen BK484.out 1; have hfz50_2 := blk_frozen BK484.out 2) | ((with_reducible refine gate_callee (f := 14) rfl ?_); refine goesL_ (some 21) rfl rfl Try.func14 (by kernel_rfl) rfl #[.int .i64 a0_0, .int .i64 a0_1, .int .i64 a0_2] rfl (by (try simp only [List.map_toArray, List.map_cons, List.map_nil]); first | done | rfl | (simp only [List.length_drop, List.length_take]; rfl)) ?_; (with_reducible refine (aimd_New.nil.calls a0_0 a0_1 a0_2 t543 _ A46.out).mono ?_); rintro e w51 ⟨rfl, hb⟩; refine ⟨_, rfl, ?_⟩; have n0_ := Aside0.mk (blk_below (g := gb484) (o := .cells #[.int .i64 a0_0, .int .i64 a0_1, .int .i64 a0_2] 23 (0, 0)) (by (with_reducible repeat (first | refine blk_drewN ?_ _ | refine blk_drew ?_ | refine blk_alloc ?_ _)); exact BK484.out) hb); have n1_ := Aside0.mk (below_step (by repeat (first | (with_reducible first | exact HB.out | apply below_alloc | apply pw_below_drewN | apply below_drew1 | refine below_set ?_ GE484.out) | exact HB.out)) hb); clear BK484; clear HB; have BK484 := n0_; have HB := n1_; clear n0_ n1_; (try clear hb); (try clear hb2); (try clear hk); (try clear hi)))
      (try simp only [Act.put, List.setIfInBounds_toArray, List.set_cons_zero, List.set_cons_succ])
      go_cut [9] (fun v9 wc => ∃ (kq : Nat) (x9_47 : Int), v9 = .int .i64 x9_47 ∧ Aside0 (flywheellaw19_AimdCuts.j3 kq a2 x9_47 a0_0 a0_1 a0_2 = some r) ∧ Aside0 (kq ≤ k) ∧ Aside0 (wc.heap[gb484]? = some (.cells #[.int .i64 a0_0, .int .i64 a0_1, .int .i64 a0_2] 23 (0, 0))) ∧ Aside0 (Below w.heap.size w wc))
      case first =>
        have H := HC48.out
        clear HC48
        have H' := Aside0.mk H
        clear H
        go_wp2
        go_loopg [9, 10] k (fun kq v9 v10 w' => ∃ (x9_1 : Int) (x10_1 : Int), v9 = .int .i64 x9_1 ∧ v10 = .int .i64 x10_1 ∧ Aside0 (flywheellaw19_AimdCuts.l5000 kq l1 a2 x9_1 x10_1 a0_0 a0_1 a0_2 = some r) ∧ Aside0 (kq ≤ k) ∧ Aside0 (w'.heap[gb484]? = some (.cells #[.int .i64 a0_0, .int .i64 a0_1, .int .i64 a0_2] 23 (0, 0))) ∧ Aside0 (Below w.heap.size w w'))
        case atStart => exact ⟨(0), (0), (by first | rfl | (simp; done) | (simp [*]; done)), (by first | rfl | (simp; done) | (simp [*]; done)), H', ⟨Nat.le_refl _⟩, ⟨by (with_reducible repeat (first | refine blk_drewN ?_ _ | refine blk_drew ?_ | refine blk_alloc ?_ _)); exact BK484.out⟩, ⟨by repeat (first | (with_reducible first | exact HB.out | apply below_alloc | apply pw_below_drewN | apply below_drew1 | refine below_set ?_ GE484.out) | exact HB.out)⟩⟩
        case round =>
          clear H'
          try clear c1
          try clear c2
          try clear p2
          try clear c3
          try clear c4
          try clear c4b0
          try clear p4
          try clear q4
          try clear hx4
          try clear p5
          try clear q5
          try clear hx5
          try clear c6
          try clear c6b0
          try clear c6b1
          try clear p6
          try clear c7
          try clear c11
          try clear c11b0
          try clear c12
          try clear c12b0
          try clear c13
          try clear c13b0
          try clear c14
          try clear c17
          try clear c18
          try clear c24
          try clear c24b0
          try clear c24b1
          try clear c25
          try clear c26
          try clear c26b0
          try clear c26b1
          try clear c29
          try clear c35
          try clear c40
          try clear c47
          try clear c47b0
          try clear c47b1
          try clear p49
          try clear q49
          try clear hx49
          try clear p51
          try clear q51
          try clear hx51
          try clear hcz30_0
          try clear hcz30_1
          try clear hcz30_2
          try clear hcz36_0
          try clear hcz36_1
          try clear hcz36_2
          try clear hcz41_0
          try clear hcz41_1
          try clear hcz41_2
          try clear hcz44_0
          try clear hcz44_1
          try clear hcz44_2
          try clear hcz50_0
          try clear hcz50_1
          try clear hcz50_2
          try clear hcz9_0
          try clear hcz9_1
          try clear hcz9_2
          try clear hfz30_0
          try clear hfz30_1
          try clear hfz30_2
          try clear hfz36_0
          try clear hfz36_1
          try clear hfz36_2
          try clear hfz41_0
          try clear hfz41_1
          try clear hfz41_2
          try clear hfz44_0
          try clear hfz44_1
          try clear hfz44_2
          try clear hfz50_0
          try clear hfz50_1
          try clear hfz50_2
          try clear hfz9_0
          try clear hfz9_1
          try clear hfz9_2
          try clear hx496_0
          try clear hx496_1
          try clear hx496_2
          try clear hx496_3
          try clear hx497_0
          try clear hx497_1
          try clear hx497_2
          try clear hx497_3
          try clear hx498_0
          try clear hx498_1
          try clear hx498_2
          try clear hx498_3
          try clear hx499_0
          try clear hx499_1
          try clear hx499_2
          try clear hx499_3
          try clear hx510_0
          try clear hx510_1
          try clear hx510_2
          try clear hx510_3
          try clear p2
          try clear p4
          try clear p496
          try clear p497
          try clear p498
          try clear p499
          try clear p5
          try clear p510
          try clear p6
          try clear q4
          try clear q496
          try clear q497
          try clear q498
          try clear q499
          try clear q5
          try clear q510
          obtain ⟨x9_1, x10_1, rfl, rfl, HA, HK1, BK484, HB⟩ := hrel
          cases gk with
          | zero => exact absurd HA.out (by simp [flywheellaw19_AimdCuts.l5000])
          | succ k1 =>
            have H := HA.out
            clear HA
            simp only [flywheellaw19_AimdCuts.l5000] at H
            by_cases c52 : x10_1 < (l1.length : Int)
            · rw [if_pos c52] at H
              have c52b0 : decide (x10_1 < (l1.length : Int)) = true := decide_eq_true c52
              clear c52
              (first | rw [c52b0] | (simp only [i64_w, i32_w]; rw [c52b0]) | skip)
              by_cases c53 : x10_1 < 100
              · rw [if_pos c53] at H
                have c53b0 : decide (x10_1 < 100) = true := decide_eq_true c53
                clear c53
                by_cases c54 : 0 ≤ x10_1
                · rw [if_pos c54] at H
                  have c54b0 : decide (0 ≤ x10_1) = true := decide_eq_true c54
                  clear c54
                  exact absurd H (by simp)
                · rw [if_neg c54] at H
                  exact absurd H (by simp)
              · rw [if_neg c53] at H
                have c53b0 : decide (x10_1 < 100) = false := decide_eq_false c53
                clear c53
                have H' := Aside0.mk H
                clear H
                go_wp2
                go_meet
                case rel => exact ⟨_, (x9_1), (by first | rfl | (simp; done) | (simp [*]; done)), H', ⟨by have := HK1.out; first | omega | exact Nat.le_refl _⟩, ⟨by (with_reducible repeat (first | refine blk_drewN ?_ _ | refine blk_drew ?_ | refine blk_alloc ?_ _)); exact BK484.out⟩, ⟨by repeat (first | (with_reducible first | exact HB.out | apply below_alloc | apply pw_below_drewN | apply below_drew1 | refine below_set ?_ GE484.out) | exact HB.out)⟩⟩
            · rw [if_neg c52] at H
              have c52b0 : decide (x10_1 < (l1.length : Int)) = false := decide_eq_false c52
              clear c52
              (first | rw [c52b0] | (simp only [i64_w, i32_w]; rw [c52b0]) | skip)
              have H' := Aside0.mk H
              clear H
              go_wp2
              go_meet
              case rel => exact ⟨_, (x9_1), (by first | rfl | (simp; done) | (simp [*]; done)), H', ⟨by have := HK1.out; first | omega | exact Nat.le_refl _⟩, ⟨by (with_reducible repeat (first | refine blk_drewN ?_ _ | refine blk_drew ?_ | refine blk_alloc ?_ _)); exact BK484.out⟩, ⟨by repeat (first | (with_reducible first | exact HB.out | apply below_alloc | apply pw_below_drewN | apply below_drew1 | refine below_set ?_ GE484.out) | exact HB.out)⟩⟩
      case rest =>
        clear HC48
        try clear c1
        try clear c2
        try clear p2
        try clear c3
        try clear c4
        try clear c4b0
        try clear p4
        try clear q4
        try clear hx4
        try clear c5
        try clear p5
        try clear q5
        try clear hx5
        try clear c6
        try clear c6b0
        try clear c6b1
        try clear p6
        try clear c7
        try clear c11
        try clear c11b0
        try clear c12
        try clear c12b0
        try clear c13
        try clear c13b0
        try clear c14
        try clear c17
        try clear c18
        try clear c24
        try clear c24b0
        try clear c24b1
        try clear c25
        try clear c26
        try clear c26b0
        try clear c26b1
        try clear c29
        try clear c35
        try clear c40
        try clear c47
        try clear c47b0
        try clear c47b1
        try clear p49
        try clear q49
        try clear hx49
        try clear p51
        try clear q51
        try clear hx51
        try clear c52
        try clear c52b0
        try clear c53
        try clear c53b0
        try clear c54
        try clear c54b0
        try clear hcz30_0
        try clear hcz30_1
        try clear hcz30_2
        try clear hcz36_0
        try clear hcz36_1
        try clear hcz36_2
        try clear hcz41_0
        try clear hcz41_1
        try clear hcz41_2
        try clear hcz44_0
        try clear hcz44_1
        try clear hcz44_2
        try clear hcz50_0
        try clear hcz50_1
        try clear hcz50_2
        try clear hcz9_0
        try clear hcz9_1
        try clear hcz9_2
        try clear hfz30_0
        try clear hfz30_1
        try clear hfz30_2
        try clear hfz36_0
        try clear hfz36_1
        try clear hfz36_2
        try clear hfz41_0
        try clear hfz41_1
        try clear hfz41_2
        try clear hfz44_0
        try clear hfz44_1
        try clear hfz44_2
        try clear hfz50_0
        try clear hfz50_1
        try clear hfz50_2
        try clear hfz9_0
        try clear hfz9_1
        try clear hfz9_2
        try clear hx496_0
        try clear hx496_1
        try clear hx496_2
        try clear hx496_3
        try clear hx497_0
        try clear hx497_1
        try clear hx497_2
        try clear hx497_3
        try clear hx498_0
        try clear hx498_1
        try clear hx498_2
        try clear hx498_3
        try clear hx499_0
        try clear hx499_1
        try clear hx499_2
        try clear hx499_3
        try clear hx510_0
        try clear hx510_1
        try clear hx510_2
        try clear hx510_3
        try clear p2
        try clear p4
        try clear p49
        try clear p496
        try clear p497
        try clear p498
        try clear p499
        try clear p5
        try clear p51
        try clear p510
        try clear p6
        try clear q4
        try clear q49
        try clear q496
        try clear q497
        try clear q498
        try clear q499
        try clear q5
        try clear q51
        try clear q510
        obtain ⟨kq, x9_47, rfl, HA, HJ47, BK484, HB⟩ := hcut
        cases kq with
        | zero => exact absurd HA.out (by simp [flywheellaw19_AimdCuts.j3])
        | succ kj47 =>
          have H := HA.out
          clear HA
          simp only [flywheellaw19_AimdCuts.j3] at H
          replace H := Option.bind_eq_some_iff.mp H
          obtain ⟨t549, A550, H⟩ := H
          replace H : ((flywheelkeep_Mod64.f a2 17179869184).bind fun t550 => ((aimd_Aimd_Update.nilrecv.f 1 t550 50000 x9_47).bind fun t551 => (if t551 = (mx a0_1 (mn t549 (wrap64 ((wrap64 ((wrap64 (Int.tdiv t550 100)) * 85)) + (wrap64 (Int.tdiv (wrap64 ((Int.tmod t550 100) * 85)) 100)))))) then ((aimd_Aimd_State.nilrecv.f).bind fun t552 => (if t552 = 0 then ((flywheellaw19_wakes.f kj47).bind fun t553 => (some t553)) else (some false))) else (some false)))) = some r := H
          have A55 := Aside0.mk A550
          clear A550
          replace H := Option.bind_eq_some_iff.mp H
          obtain ⟨t550, A560, H⟩ := H
          replace H : ((aimd_Aimd_Update.nilrecv.f 1 t550 50000 x9_47).bind fun t551 => (if t551 = (mx a0_1 (mn t549 (wrap64 ((wrap64 ((wrap64 (Int.tdiv t550 100)) * 85)) + (wrap64 (Int.tdiv (wrap64 ((Int.tmod t550 100) * 85)) 100)))))) then ((aimd_Aimd_State.nilrecv.f).bind fun t552 => (if t552 = 0 then ((flywheellaw19_wakes.f kj47).bind fun t553 => (some t553)) else (some false))) else (some false))) = some r := H
          have A56 := Aside0.mk A560
          clear A560
          obtain ⟨ji57, hji57⟩ : ∃ j_ : Int, (mn t549 (wrap64 ((wrap64 ((wrap64 (Int.tdiv t550 100)) * 85)) + (wrap64 (Int.tdiv (wrap64 ((Int.tmod t550 100) * 85)) 100))))) = j_ := ⟨_, rfl⟩
          replace H : ((aimd_Aimd_Update.nilrecv.f 1 t550 50000 x9_47).bind fun t551 => (if t551 = (mx a0_1 (ji57)) then ((aimd_Aimd_State.nilrecv.f).bind fun t552 => (if t552 = 0 then ((flywheellaw19_wakes.f kj47).bind fun t553 => (some t553)) else (some false))) else (some false))) = some r := by first | (rw [hji57] at H; exact H) | (simp only [hji57] at H ⊢; exact H)
          (try rw [hji57] at A55)
          (try rw [hji57] at A56)
          have hji57_ : (if (wrap64 ((wrap64 ((wrap64 (Int.tdiv t550 100)) * 85)) + (wrap64 (Int.tdiv (wrap64 ((Int.tmod t550 100) * 85)) 100)))) < t549 then (wrap64 ((wrap64 ((wrap64 (Int.tdiv t550 100)) * 85)) + (wrap64 (Int.tdiv (wrap64 ((Int.tmod t550 100) * 85)) 100)))) else t549) = ji57 := hji57
          obtain ⟨ji58, hji58⟩ : ∃ j_ : Int, (mx a0_1 (ji57)) = j_ := ⟨_, rfl⟩
          replace H : ((aimd_Aimd_Update.nilrecv.f 1 t550 50000 x9_47).bind fun t551 => (if t551 = (ji58) then ((aimd_Aimd_State.nilrecv.f).bind fun t552 => (if t552 = 0 then ((flywheellaw19_wakes.f kj47).bind fun t553 => (some t553)) else (some false))) else (some false))) = some r := by first | (rw [hji58] at H; exact H) | (simp only [hji58] at H ⊢; exact H)
          (try rw [hji58] at A55)
          (try rw [hji58] at A56)
          have hji58_ : (if a0_1 < (ji57) then (ji57) else a0_1) = ji58 := hji58
          replace H := Option.bind_eq_some_iff.mp H
          obtain ⟨t551, A590, H⟩ := H
          replace H : (if t551 = (ji58) then ((aimd_Aimd_State.nilrecv.f).bind fun t552 => (if t552 = 0 then ((flywheellaw19_wakes.f kj47).bind fun t553 => (some t553)) else (some false))) else (some false)) = some r := H
          have A59 := Aside0.mk A590
          clear A590
          by_cases c60 : t551 = (ji58)
          · rw [if_pos c60] at H
            have c60b0 : (t551 == (ji58)) = true := beq_iff_eq.mpr c60
            have c60b1 : (t551 != (ji58)) = false := bne_eq_false_iff_eq.mpr c60
            clear c60
            replace H := Option.bind_eq_some_iff.mp H
            obtain ⟨t552, A610, H⟩ := H
            replace H : (if t552 = 0 then ((flywheellaw19_wakes.f kj47).bind fun t553 => (some t553)) else (some false)) = some r := H
            have A61 := Aside0.mk A610
            clear A610
            by_cases c62 : t552 = 0
            · rw [if_pos c62] at H
              have c62b0 : (t552 == 0) = true := beq_iff_eq.mpr c62
              have c62b1 : (t552 != 0) = false := bne_eq_false_iff_eq.mpr c62
              clear c62
              replace H := Option.bind_eq_some_iff.mp H
              obtain ⟨t553, A630, H⟩ := H
              replace H : (some t553) = some r := H
              have A63 := Aside0.mk A630
              clear A630
              obtain rfl := Option.some.inj H
              go_wp2_with (first | ((with_reducible refine gate_callee (f := 17) rfl ?_); refine goesL_ (some 72) rfl rfl Try.func17 (by kernel_rfl) rfl #[.pointer none] rfl (by (try simp only [List.map_toArray, List.map_cons, List.map_nil]); first | done | rfl | (simp only [List.length_drop, List.length_take]; rfl)) ?_; (with_reducible refine (aimd_Aimd_Rate.nilrecv.calls  t549 _ A55.out).mono ?_); rintro e w' ⟨rfl, ⟨nd, rfl⟩⟩; refine ⟨_, rfl, ?_⟩) | ((with_reducible refine gate_callee (f := 25) rfl ?_); refine goesL_ (some 74) rfl rfl Try.func25 (by kernel_rfl) rfl #[.int .i64 a2, .int .i64 17179869184] rfl (by (try simp only [List.map_toArray, List.map_cons, List.map_nil]); first | done | rfl | (simp only [List.length_drop, List.length_take]; rfl)) ?_; (with_reducible refine (flywheelkeep_Mod64.calls a2 17179869184 t550 _ A56.out).mono ?_); rintro e w' ⟨rfl, ⟨nd, rfl⟩⟩; refine ⟨_, rfl, ?_⟩; have hcz64_0 : wc.cell? ⟨gb484, 0, none⟩ = some (.int .i64 a0_0) := (blk_cell BK484.out 0).trans rfl; have hcz64_1 : wc.cell? ⟨gb484, 1, none⟩ = some (.int .i64 a0_1) := (blk_cell BK484.out 1).trans rfl; have hcz64_2 : wc.cell? ⟨gb484, 2, none⟩ = some (.int .i64 a0_2) := (blk_cell BK484.out 2).trans rfl; have hfz64_0 := blk_frozen BK484.out 0; have hfz64_1 := blk_frozen BK484.out 1; have hfz64_2 := blk_frozen BK484.out 2) | ((with_reducible refine gate_callee (f := 18) rfl ?_); refine goesL_ (some 91) rfl rfl Try.func18 (by kernel_rfl) rfl #[.pointer none, .int .i64 1, .int .i64 t550, .int .i64 50000, .int .i64 x9_47] rfl (by (try simp only [List.map_toArray, List.map_cons, List.map_nil]); first | done | rfl | (simp only [List.length_drop, List.length_take]; rfl)) ?_; (with_reducible refine (aimd_Aimd_Update.nilrecv.calls  1 t550 50000 x9_47 t551 _ A59.out).mono ?_); rintro e w65 ⟨rfl, hb⟩; refine ⟨_, rfl, ?_⟩; have n0_ := Aside0.mk (blk_below (g := gb484) (o := .cells #[.int .i64 a0_0, .int .i64 a0_1, .int .i64 a0_2] 23 (0, 0)) (by (with_reducible repeat (first | refine blk_drewN ?_ _ | refine blk_drew ?_ | refine blk_alloc ?_ _)); exact BK484.out) hb); have n1_ := Aside0.mk (below_step (by repeat (first | (with_reducible first | exact HB.out | apply below_alloc | apply pw_below_drewN | apply below_drew1 | refine below_set ?_ GE484.out) | exact HB.out)) hb); clear BK484; clear HB; have BK484 := n0_; have HB := n1_; clear n0_ n1_; (try clear hb); (try clear hb2); (try clear hk); (try clear hi)) | (go_at_call 23; (with_reducible refine (aimd_Aimd_State.nilrecv.calls  t552 _ A61.out).mono ?_); rintro e w' ⟨rfl, ⟨nd, rfl⟩⟩) | (go_at_call 16; (with_reducible refine (flywheellaw19_wakes.calls kj47  t553 _ A63.out).mono ?_); rintro e w66 ⟨rfl, hb⟩; have n0_ := Aside0.mk (blk_below (g := gb484) (o := .cells #[.int .i64 a0_0, .int .i64 a0_1, .int .i64 a0_2] 23 (0, 0)) (by (with_reducible repeat (first | refine blk_drewN ?_ _ | refine blk_drew ?_ | refine blk_alloc ?_ _)); exact BK484.out) hb); have n1_ := Aside0.mk (below_step (by repeat (first | (with_reducible first | exact HB.out | apply below_alloc | apply pw_below_drewN | apply below_drew1 | refine below_set ?_ GE484.out) | exact HB.out)) hb); clear BK484; clear HB; have BK484 := n0_; have HB := n1_; clear n0_ n1_; (try clear hb); (try clear hb2); (try clear hk); (try clear hi)))
              go_ret
              exact ⟨by first | rfl | (simp [errW_none, errW_some] <;> rfl) | (simp only [← hji57, ← hji58]; first | rfl | (simp [errW_none, errW_some] <;> rfl)) | (simp [*, errW_none, errW_some] <;> rfl), by repeat (first | (with_reducible first | exact HB.out | apply below_alloc | apply pw_below_drewN | apply below_drew1 | refine below_set ?_ GE484.out) | exact HB.out)⟩
            · rw [if_neg c62] at H
              have c62b0 : (t552 == 0) = false := beq_eq_false_iff_ne.mpr c62
              have c62b1 : (t552 != 0) = true := bne_iff_ne.mpr c62
              obtain rfl := Option.some.inj H
              go_wp2_with (first | ((with_reducible refine gate_callee (f := 17) rfl ?_); refine goesL_ (some 72) rfl rfl Try.func17 (by kernel_rfl) rfl #[.pointer none] rfl (by (try simp only [List.map_toArray, List.map_cons, List.map_nil]); first | done | rfl | (simp only [List.length_drop, List.length_take]; rfl)) ?_; (with_reducible refine (aimd_Aimd_Rate.nilrecv.calls  t549 _ A55.out).mono ?_); rintro e w' ⟨rfl, ⟨nd, rfl⟩⟩; refine ⟨_, rfl, ?_⟩) | ((with_reducible refine gate_callee (f := 25) rfl ?_); refine goesL_ (some 74) rfl rfl Try.func25 (by kernel_rfl) rfl #[.int .i64 a2, .int .i64 17179869184] rfl (by (try simp only [List.map_toArray, List.map_cons, List.map_nil]); first | done | rfl | (simp only [List.length_drop, List.length_take]; rfl)) ?_; (with_reducible refine (flywheelkeep_Mod64.calls a2 17179869184 t550 _ A56.out).mono ?_); rintro e w' ⟨rfl, ⟨nd, rfl⟩⟩; refine ⟨_, rfl, ?_⟩; have hcz67_0 : wc.cell? ⟨gb484, 0, none⟩ = some (.int .i64 a0_0) := (blk_cell BK484.out 0).trans rfl; have hcz67_1 : wc.cell? ⟨gb484, 1, none⟩ = some (.int .i64 a0_1) := (blk_cell BK484.out 1).trans rfl; have hcz67_2 : wc.cell? ⟨gb484, 2, none⟩ = some (.int .i64 a0_2) := (blk_cell BK484.out 2).trans rfl; have hfz67_0 := blk_frozen BK484.out 0; have hfz67_1 := blk_frozen BK484.out 1; have hfz67_2 := blk_frozen BK484.out 2) | ((with_reducible refine gate_callee (f := 18) rfl ?_); refine goesL_ (some 91) rfl rfl Try.func18 (by kernel_rfl) rfl #[.pointer none, .int .i64 1, .int .i64 t550, .int .i64 50000, .int .i64 x9_47] rfl (by (try simp only [List.map_toArray, List.map_cons, List.map_nil]); first | done | rfl | (simp only [List.length_drop, List.length_take]; rfl)) ?_; (with_reducible refine (aimd_Aimd_Update.nilrecv.calls  1 t550 50000 x9_47 t551 _ A59.out).mono ?_); rintro e w68 ⟨rfl, hb⟩; refine ⟨_, rfl, ?_⟩; have n0_ := Aside0.mk (blk_below (g := gb484) (o := .cells #[.int .i64 a0_0, .int .i64 a0_1, .int .i64 a0_2] 23 (0, 0)) (by (with_reducible repeat (first | refine blk_drewN ?_ _ | refine blk_drew ?_ | refine blk_alloc ?_ _)); exact BK484.out) hb); have n1_ := Aside0.mk (below_step (by repeat (first | (with_reducible first | exact HB.out | apply below_alloc | apply pw_below_drewN | apply below_drew1 | refine below_set ?_ GE484.out) | exact HB.out)) hb); clear BK484; clear HB; have BK484 := n0_; have HB := n1_; clear n0_ n1_; (try clear hb); (try clear hb2); (try clear hk); (try clear hi)) | (go_at_call 23; (with_reducible refine (aimd_Aimd_State.nilrecv.calls  t552 _ A61.out).mono ?_); rintro e w' ⟨rfl, ⟨nd, rfl⟩⟩))
              go_ret
              exact ⟨by first | rfl | (simp [errW_none, errW_some] <;> rfl) | (simp only [← hji57, ← hji58]; first | rfl | (simp [errW_none, errW_some] <;> rfl)) | (simp [*, errW_none, errW_some] <;> rfl), by repeat (first | (with_reducible first | exact HB.out | apply below_alloc | apply pw_below_drewN | apply below_drew1 | refine below_set ?_ GE484.out) | exact HB.out)⟩
          · rw [if_neg c60] at H
            have c60b0 : (t551 == (ji58)) = false := beq_eq_false_iff_ne.mpr c60
            have c60b1 : (t551 != (ji58)) = true := bne_iff_ne.mpr c60
            obtain rfl := Option.some.inj H
            go_wp2_with (first | ((with_reducible refine gate_callee (f := 17) rfl ?_); refine goesL_ (some 72) rfl rfl Try.func17 (by kernel_rfl) rfl #[.pointer none] rfl (by (try simp only [List.map_toArray, List.map_cons, List.map_nil]); first | done | rfl | (simp only [List.length_drop, List.length_take]; rfl)) ?_; (with_reducible refine (aimd_Aimd_Rate.nilrecv.calls  t549 _ A55.out).mono ?_); rintro e w' ⟨rfl, ⟨nd, rfl⟩⟩; refine ⟨_, rfl, ?_⟩) | ((with_reducible refine gate_callee (f := 25) rfl ?_); refine goesL_ (some 74) rfl rfl Try.func25 (by kernel_rfl) rfl #[.int .i64 a2, .int .i64 17179869184] rfl (by (try simp only [List.map_toArray, List.map_cons, List.map_nil]); first | done | rfl | (simp only [List.length_drop, List.length_take]; rfl)) ?_; (with_reducible refine (flywheelkeep_Mod64.calls a2 17179869184 t550 _ A56.out).mono ?_); rintro e w' ⟨rfl, ⟨nd, rfl⟩⟩; refine ⟨_, rfl, ?_⟩; have hcz69_0 : wc.cell? ⟨gb484, 0, none⟩ = some (.int .i64 a0_0) := (blk_cell BK484.out 0).trans rfl; have hcz69_1 : wc.cell? ⟨gb484, 1, none⟩ = some (.int .i64 a0_1) := (blk_cell BK484.out 1).trans rfl; have hcz69_2 : wc.cell? ⟨gb484, 2, none⟩ = some (.int .i64 a0_2) := (blk_cell BK484.out 2).trans rfl; have hfz69_0 := blk_frozen BK484.out 0; have hfz69_1 := blk_frozen BK484.out 1; have hfz69_2 := blk_frozen BK484.out 2) | ((with_reducible refine gate_callee (f := 18) rfl ?_); refine goesL_ (some 91) rfl rfl Try.func18 (by kernel_rfl) rfl #[.pointer none, .int .i64 1, .int .i64 t550, .int .i64 50000, .int .i64 x9_47] rfl (by (try simp only [List.map_toArray, List.map_cons, List.map_nil]); first | done | rfl | (simp only [List.length_drop, List.length_take]; rfl)) ?_; (with_reducible refine (aimd_Aimd_Update.nilrecv.calls  1 t550 50000 x9_47 t551 _ A59.out).mono ?_); rintro e w70 ⟨rfl, hb⟩; refine ⟨_, rfl, ?_⟩; have n0_ := Aside0.mk (blk_below (g := gb484) (o := .cells #[.int .i64 a0_0, .int .i64 a0_1, .int .i64 a0_2] 23 (0, 0)) (by (with_reducible repeat (first | refine blk_drewN ?_ _ | refine blk_drew ?_ | refine blk_alloc ?_ _)); exact BK484.out) hb); have n1_ := Aside0.mk (below_step (by repeat (first | (with_reducible first | exact HB.out | apply below_alloc | apply pw_below_drewN | apply below_drew1 | refine below_set ?_ GE484.out) | exact HB.out)) hb); clear BK484; clear HB; have BK484 := n0_; have HB := n1_; clear n0_ n1_; (try clear hb); (try clear hb2); (try clear hk); (try clear hi)))
            go_ret
            exact ⟨by first | rfl | (simp [errW_none, errW_some] <;> rfl) | (simp only [← hji57, ← hji58]; first | rfl | (simp [errW_none, errW_some] <;> rfl)) | (simp [*, errW_none, errW_some] <;> rfl), by repeat (first | (with_reducible first | exact HB.out | apply below_alloc | apply pw_below_drewN | apply below_drew1 | refine below_set ?_ GE484.out) | exact HB.out)⟩
    · rw [if_neg c47] at H
      have c47b0 : (t543 == 0) = false := beq_eq_false_iff_ne.mpr c47
      have c47b1 : (t543 != 0) = true := bne_iff_ne.mpr c47
      replace H := Option.bind_eq_some_iff.mp H
      obtain ⟨t544, A710, H⟩ := H
      replace H : (some t544) = some r := H
      have A71 := Aside0.mk A710
      clear A710
      obtain rfl := Option.some.inj H
      go_enter Try.func7, Try.ntmps7
      go_wp2_with (first | ((with_reducible refine gate_dst (N := 3) rfl ?_); refine box_event ?hg (N := 3) ?hd (cs := #[.int .i64 a0_0, .int .i64 a0_1, .int .i64 a0_2]) (t := 23) ?hr ?_; (case hd => rfl); (case hg => rfl); (case hr => first | (go_simp; done) | (go_simp; rfl)); intro gb484 hg w72 hbox hb; have n0_ := Aside0.mk (below_step (by repeat (first | (with_reducible first | exact HB.out | apply below_alloc | apply pw_below_drewN | apply below_drew1) | exact HB.out)) hb); have n1_ := Aside0.mk (hbox); have n2_ := Aside0.mk ((by rw [hg]; exact (below_size (by repeat (first | (with_reducible first | exact HB.out | apply below_alloc | apply pw_below_drewN | apply below_drew1) | exact HB.out))) : w.heap.size ≤ gb484)); have n3_ := Aside0.mk ((by rw [hg]; exact (below_size (by repeat (first | (with_reducible first | exact HB.out | apply below_alloc | apply pw_below_drewN | apply below_drew1) | exact HB.out))) : w.heap.size ≤ gb484)); clear HB; have HB := n0_; have BK484 := n1_; have GW484 := n2_; have GE484 := n3_; clear n0_ n1_ n2_ n3_; clear hb hbox hg; have hcz73_0 : w72.cell? ⟨gb484, 0, none⟩ = some (.int .i64 a0_0) := (blk_cell BK484.out 0).trans rfl; have hcz73_1 : w72.cell? ⟨gb484, 1, none⟩ = some (.int .i64 a0_1) := (blk_cell BK484.out 1).trans rfl; have hcz73_2 : w72.cell? ⟨gb484, 2, none⟩ = some (.int .i64 a0_2) := (blk_cell BK484.out 2).trans rfl; have hfz73_0 := blk_frozen BK484.out 0; have hfz73_1 := blk_frozen BK484.out 1; have hfz73_2 := blk_frozen BK484.out 2) | ((with_reducible refine gate_callee (f := 14) rfl ?_); refine goesL_ (some 21) rfl rfl Try.func14 (by kernel_rfl) rfl #[.int .i64 a0_0, .int .i64 a0_1, .int .i64 a0_2] rfl (by (try simp only [List.map_toArray, List.map_cons, List.map_nil]); first | done | rfl | (simp only [List.length_drop, List.length_take]; rfl)) ?_; (with_reducible refine (aimd_New.nil.calls a0_0 a0_1 a0_2 t543 _ A46.out).mono ?_); rintro e w74 ⟨rfl, hb⟩; refine ⟨_, rfl, ?_⟩; have n0_ := Aside0.mk (blk_below (g := gb484) (o := .cells #[.int .i64 a0_0, .int .i64 a0_1, .int .i64 a0_2] 23 (0, 0)) (by (with_reducible repeat (first | refine blk_drewN ?_ _ | refine blk_drew ?_ | refine blk_alloc ?_ _)); exact BK484.out) hb); have n1_ := Aside0.mk (below_step (by repeat (first | (with_reducible first | exact HB.out | apply below_alloc | apply pw_below_drewN | apply below_drew1 | refine below_set ?_ GE484.out) | exact HB.out)) hb); clear BK484; clear HB; have BK484 := n0_; have HB := n1_; clear n0_ n1_; (try clear hb); (try clear hb2); (try clear hk); (try clear hi)) | (go_at_call 16; (with_reducible refine (flywheellaw19_wakes.calls k  t544 _ A71.out).mono ?_); rintro e w75 ⟨rfl, hb⟩; have n0_ := Aside0.mk (blk_below (g := gb484) (o := .cells #[.int .i64 a0_0, .int .i64 a0_1, .int .i64 a0_2] 23 (0, 0)) (by (with_reducible repeat (first | refine blk_drewN ?_ _ | refine blk_drew ?_ | refine blk_alloc ?_ _)); exact BK484.out) hb); have n1_ := Aside0.mk (below_step (by repeat (first | (with_reducible first | exact HB.out | apply below_alloc | apply pw_below_drewN | apply below_drew1 | refine below_set ?_ GE484.out) | exact HB.out)) hb); clear BK484; clear HB; have BK484 := n0_; have HB := n1_; clear n0_ n1_; (try clear hb); (try clear hb2); (try clear hk); (try clear hi)))
      go_ret
      exact ⟨by first | rfl | (simp [errW_none, errW_some] <;> rfl) | (simp [*, errW_none, errW_some] <;> rfl), by repeat (first | (with_reducible first | exact HB.out | apply below_alloc | apply pw_below_drewN | apply below_drew1 | refine below_set ?_ GE484.out) | exact HB.out)⟩
def flywheellaw19_AimdCuts.Pure : Prop := ∀ (a0_0 : Int) (a0_1 : Int) (a0_2 : Int) (l1 : List (S34)) (a2 : Int), (Lit.int .i64 a0_0).wf = true → (Lit.int .i64 a0_1).wf = true → (Lit.int .i64 a0_2).wf = true → l1.length ≤ maxLen → l1.length * 32 ≤ 140737488351232 → (∀ x ∈ l1, (Lit.int .i64 x.f0).wf = true ∧ (Lit.int .i64 x.f1).wf = true ∧ (Lit.int .i64 x.f2).wf = true ∧ (Lit.int .i64 x.f3).wf = true) → (Lit.int .i64 a2).wf = true → ∃ k, flywheellaw19_AimdCuts.f k a0_0 a0_1 a0_2 l1 a2 = some true
theorem flywheellaw19_AimdCuts.walk (P : flywheellaw19_AimdCuts.Pure) (a0_0 : Int) (a0_1 : Int) (a0_2 : Int) (A1 : Option Addr) (c1 : Nat) (l1 : List (S34)) (a2 : Int) (w : World) (w0_0 : (Lit.int .i64 a0_0).wf = true) (w0_1 : (Lit.int .i64 a0_1).wf = true) (w0_2 : (Lit.int .i64 a0_2).wf = true) (hm1 : l1.length ≤ maxLen) (y1 : l1.length * 32 ≤ 140737488351232) (hw1 : (∀ x ∈ l1, (Lit.int .i64 x.f0).wf = true ∧ (Lit.int .i64 x.f1).wf = true ∧ (Lit.int .i64 x.f2).wf = true ∧ (Lit.int .i64 x.f3).wf = true)) (w2 : (Lit.int .i64 a2).wf = true) (hr1 : Kd.C k34 w A1 l1.length l1) (hc1 : l1.length ≤ c1) :
    Calls Try.prog 7 #[.agg #[.int .i64 a0_0, .int .i64 a0_1, .int .i64 a0_2], .slice A1 l1.length c1, .int .i64 a2] w fun e w' => e = .returned (.bool true) ∧ Below w.heap.size w w' := by
  obtain ⟨k, h⟩ := P a0_0 a0_1 a0_2 l1 a2 w0_0 w0_1 w0_2 hm1 y1 hw1 w2
  refine (flywheellaw19_AimdCuts.calls k a0_0 a0_1 a0_2 A1 c1 l1 a2 true w hr1 hc1 h).mono ?_
  rintro e w' ⟨rfl, hd⟩
  exact ⟨rfl, hd⟩
end Go.Proofs.Ytaelmmbodigheaa.P
end

section
namespace Go.Proofs.Ytaelmmbodigheaa.P
open Go.RowKit Go.Proofs.YtaelmmbodigheaaW.PrintWords Go.Proofs.YtaelmmbodigheaaW.PrintLast Go.Proofs.YtaelmmbodigheaaW.PrintMore
attribute [local go_sem] max2_int min2_int max_two min_two max_three min_three max_four min_four   -- for this text's walks alone
set_option linter.unusedVariables false
set_option linter.unusedSimpArgs false
end Go.Proofs.Ytaelmmbodigheaa.P
end

section
namespace Go.Proofs.Ytaelmmbodigheaa.P
open Go.RowKit Go.Proofs.YtaelmmbodigheaaW.PrintWords Go.Proofs.YtaelmmbodigheaaW.PrintLast Go.Proofs.YtaelmmbodigheaaW.PrintMore
attribute [local go_sem] max2_int min2_int max_two min_two max_three min_three max_four min_four   -- for this text's walks alone
set_option linter.unusedVariables false
set_option linter.unusedSimpArgs false
end Go.Proofs.Ytaelmmbodigheaa.P
end

section
namespace Go.Proofs.Ytaelmmbodigheaa.P
open Go.RowKit Go.Proofs.YtaelmmbodigheaaW.PrintWords Go.Proofs.YtaelmmbodigheaaW.PrintLast Go.Proofs.YtaelmmbodigheaaW.PrintMore
attribute [local go_sem] max2_int min2_int max_two min_two max_three min_three max_four min_four   -- for this text's walks alone
set_option linter.unusedVariables false
set_option linter.unusedSimpArgs false
end Go.Proofs.Ytaelmmbodigheaa.P
end

section
namespace Go.Proofs.Ytaelmmbodigheaa.P
open Go.RowKit Go.Proofs.YtaelmmbodigheaaW.PrintWords Go.Proofs.YtaelmmbodigheaaW.PrintLast Go.Proofs.YtaelmmbodigheaaW.PrintMore
attribute [local go_sem] max2_int min2_int max_two min_two max_three min_three max_four min_four   -- for this text's walks alone
set_option linter.unusedVariables false
set_option linter.unusedSimpArgs false
def flywheelref02_Did_s.f (a0 : Int) (a1 : Int) (a2 : Int) (a3 : Int) : Option (Int × Bool) := if isI64 a0 ∧ isI64 a1 ∧ isI64 a2 then some (mdq a0 a1 a2 a3) else none
def flywheelref02_Do.f (a0 : Int) (a1 : Int) (a2 : Int) (a3 : Int) : Option (Int) := (flywheelref02_Did_s.f a0 a1 a2 a3).bind fun bt340 => (some bt340.1)
mutual
def flywheelref19_Aimd_lift.j0 : Nat → Int → Int → Int → Bool → Int → Int → Int → Int → Bool → Int → Int → Bool → Int → Option (Int × Int × Int × Int × Bool × Int × Int × Bool × Int)
  | 0, _, _, _, _, _, _, _, _, _, _, _, _, _ => none
  | k + 1, x1, x2, x3, x28, x1000, x1001, x1002, x1003, x1004, x1005, x1006, x1007, x1008 => if x28 = true then (flywheelref19_Aimd_lift.j1 k x1 x2 x3 x1000 x1001 x1002 x1003 false x1005 x1006 x1007 x1008) else (flywheelref19_Aimd_lift.j1 k x1 x2 x3 x1000 x1001 x1002 x1003 x1004 x1005 x1006 x1007 x1008)
def flywheelref19_Aimd_lift.j1 : Nat → Int → Int → Int → Int → Int → Int → Int → Bool → Int → Int → Bool → Int → Option (Int × Int × Int × Int × Bool × Int × Int × Bool × Int)
  | 0, _, _, _, _, _, _, _, _, _, _, _, _ => none
  | k + 1, x1, x2, x3, x1000, x1001, x1002, x1003, x1004, x1005, x1006, x1007, x1008 => (flywheelref02_Do.f x1000 (wrap64 (8 * x3)) 100000000 3).bind fun t342 => (if x1004 = true then ((flywheelref02_Do.f 9600 x3 (wrap64 (x2 + 100000)) 3).bind fun t343 => (if x1 > 0 then (if (wrap64 ((wrap64 (Int.tdiv (wrap64 (3 * x1)) 2)) + 10000)) < (wrap64 (x1000 + (mx t343 1000))) then (some (mx (wrap64 ((wrap64 (Int.tdiv (wrap64 (3 * x1)) 2)) + 10000)) x1000, x1001, x1002, x1003, x1004, x1005, x1006, x1007, x1008)) else (some (wrap64 (x1000 + (mx t343 1000)), x1001, x1002, x1003, x1004, x1005, x1006, x1007, x1008))) else (some (wrap64 (x1000 + (mx t343 1000)), x1001, x1002, x1003, x1004, x1005, x1006, x1007, x1008)))) else (if x1 > 0 then (if (wrap64 ((wrap64 (Int.tdiv (wrap64 (3 * x1)) 2)) + 10000)) < (wrap64 (x1000 + (mx t342 1000))) then (some (mx (wrap64 ((wrap64 (Int.tdiv (wrap64 (3 * x1)) 2)) + 10000)) x1000, x1001, x1002, x1003, x1004, x1005, x1006, x1007, x1008)) else (some (wrap64 (x1000 + (mx t342 1000)), x1001, x1002, x1003, x1004, x1005, x1006, x1007, x1008))) else (some (wrap64 (x1000 + (mx t342 1000)), x1001, x1002, x1003, x1004, x1005, x1006, x1007, x1008))))
end
def flywheelref19_Aimd_lift.f (k : Nat) (s0_0 : Int) (s0_1 : Int) (s0_2 : Int) (s0_3 : Int) (s0_4 : Bool) (s0_5 : Int) (s0_6 : Int) (s0_7 : Bool) (s0_8 : Int) (a1 : Int) (a2 : Int) (a3 : Int) : Option (Int × Int × Int × Int × Bool × Int × Int × Bool × Int) := if s0_4 = true then (flywheelref19_Aimd_lift.j0 k a1 a2 a3 (decide (a1 > (wrap64 (s0_5 + (wrap64 (3 * s0_6)))))) s0_0 s0_1 s0_2 s0_3 s0_4 s0_5 s0_6 s0_7 s0_8) else (flywheelref19_Aimd_lift.j0 k a1 a2 a3 false s0_0 s0_1 s0_2 s0_3 s0_4 s0_5 s0_6 s0_7 s0_8)
end Go.Proofs.Ytaelmmbodigheaa.P
end

section
namespace Go.Proofs.Ytaelmmbodigheaa.P
open Go.RowKit Go.Proofs.YtaelmmbodigheaaW.PrintWords Go.Proofs.YtaelmmbodigheaaW.PrintLast Go.Proofs.YtaelmmbodigheaaW.PrintMore
attribute [local go_sem] max2_int min2_int max_two min_two max_three min_three max_four min_four   -- for this text's walks alone
set_option linter.unusedVariables false
set_option linter.unusedSimpArgs false
def flywheelref01_Sub.j0 : Nat → Int → Int → Bool → Option (Int)
  | 0, _, _, _ => none
  | k + 1, x0, x1, x12 => if x12 = true then (some 9223372036854775807) else (if x1 > 0 then (if x0 < (wrap64 ((-9223372036854775808) + x1)) then (some (-9223372036854775808)) else (some (wrap64 (x0 - x1)))) else (some (wrap64 (x0 - x1))))
def flywheelref01_Sub.f (k : Nat) (a0 : Int) (a1 : Int) : Option (Int) := if a1 < 0 then (flywheelref01_Sub.j0 k a0 a1 (decide (a0 > (wrap64 (9223372036854775807 + a1))))) else (flywheelref01_Sub.j0 k a0 a1 false)
def flywheelref01_Neg.f (k : Nat) (a0 : Int) : Option (Int) := (flywheelref01_Sub.f k 0 a0).bind fun t344 => (some t344)
def flywheelref01_Abs.f (k : Nat) (a0 : Int) : Option (Int) := if a0 < 0 then ((flywheelref01_Neg.f k a0).bind fun t345 => (some t345)) else (some a0)
end Go.Proofs.Ytaelmmbodigheaa.P
end

section
namespace Go.Proofs.Ytaelmmbodigheaa.P
open Go.RowKit Go.Proofs.YtaelmmbodigheaaW.PrintWords Go.Proofs.YtaelmmbodigheaaW.PrintLast Go.Proofs.YtaelmmbodigheaaW.PrintMore
attribute [local go_sem] max2_int min2_int max_two min_two max_three min_three max_four min_four   -- for this text's walks alone
set_option linter.unusedVariables false
set_option linter.unusedSimpArgs false
def flywheelref19_Aimd_cut.f (k : Nat) (s0_0 : Int) (s0_1 : Int) (s0_2 : Int) (s0_3 : Int) (s0_4 : Bool) (s0_5 : Int) (s0_6 : Int) (s0_7 : Bool) (s0_8 : Int) (a1 : Int) : Option (Int × Int × Int × Int × Bool × Int × Int × Bool × Int) := (flywheelref02_Do.f a1 85 100 1).bind fun t346 => (if s0_4 = true then (if a1 < (wrap64 (s0_5 - (wrap64 (3 * s0_6)))) then (some (mn s0_0 t346, s0_1, s0_2, s0_3, s0_4, a1, s0_6, s0_7, s0_8)) else ((flywheelref01_Abs.f k (wrap64 (a1 - s0_5))).bind fun t347 => ((flywheelref02_Do.f (wrap64 (t347 - s0_6)) 5 100 2).bind fun t348 => ((flywheelref02_Do.f (wrap64 (a1 - s0_5)) 5 100 2).bind fun t349 => (some (mn s0_0 t346, s0_1, s0_2, s0_3, s0_4, wrap64 (s0_5 + t349), wrap64 (s0_6 + t348), s0_7, s0_8)))))) else (some (mn s0_0 t346, s0_1, s0_2, s0_3, true, a1, wrap64 (Int.tdiv a1 10), s0_7, s0_8)))
end Go.Proofs.Ytaelmmbodigheaa.P
end

section
namespace Go.Proofs.Ytaelmmbodigheaa.P
open Go.RowKit Go.Proofs.YtaelmmbodigheaaW.PrintWords Go.Proofs.YtaelmmbodigheaaW.PrintLast Go.Proofs.YtaelmmbodigheaaW.PrintMore
attribute [local go_sem] max2_int min2_int max_two min_two max_three min_three max_four min_four   -- for this text's walks alone
set_option linter.unusedVariables false
set_option linter.unusedSimpArgs false
end Go.Proofs.Ytaelmmbodigheaa.P
end

section
namespace Go.Proofs.Ytaelmmbodigheaa.P
open Go.RowKit Go.Proofs.YtaelmmbodigheaaW.PrintWords Go.Proofs.YtaelmmbodigheaaW.PrintLast Go.Proofs.YtaelmmbodigheaaW.PrintMore
attribute [local go_sem] max2_int min2_int max_two min_two max_three min_three max_four min_four   -- for this text's walks alone
set_option linter.unusedVariables false
set_option linter.unusedSimpArgs false
end Go.Proofs.Ytaelmmbodigheaa.P
end

section
namespace Go.Proofs.Ytaelmmbodigheaa.P
open Go.RowKit Go.Proofs.YtaelmmbodigheaaW.PrintWords Go.Proofs.YtaelmmbodigheaaW.PrintLast Go.Proofs.YtaelmmbodigheaaW.PrintMore
attribute [local go_sem] max2_int min2_int max_two min_two max_three min_three max_four min_four   -- for this text's walks alone
set_option linter.unusedVariables false
set_option linter.unusedSimpArgs false
end Go.Proofs.Ytaelmmbodigheaa.P
end

section
namespace Go.Proofs.Ytaelmmbodigheaa.P
open Go.RowKit Go.Proofs.YtaelmmbodigheaaW.PrintWords Go.Proofs.YtaelmmbodigheaaW.PrintLast Go.Proofs.YtaelmmbodigheaaW.PrintMore
attribute [local go_sem] max2_int min2_int max_two min_two max_three min_three max_four min_four   -- for this text's walks alone
set_option linter.unusedVariables false
set_option linter.unusedSimpArgs false
end Go.Proofs.Ytaelmmbodigheaa.P
end

section
namespace Go.Proofs.Ytaelmmbodigheaa.P
open Go.RowKit
set_option linter.unusedVariables false
set_option linter.unusedSimpArgs false
end Go.Proofs.Ytaelmmbodigheaa.P
end

section
namespace Go.Proofs.Ytaelmmbodigheaa.P
open Go.RowKit
set_option linter.unusedVariables false
set_option linter.unusedSimpArgs false
theorem clamp_eq (a lo hi : Int) : sat_Clamp.f a lo hi = some (if a < lo then lo else if a > hi then hi else a) := by
  unfold sat_Clamp.f
  split
  · rfl
  · split <;> rfl
end Go.Proofs.Ytaelmmbodigheaa.P
end

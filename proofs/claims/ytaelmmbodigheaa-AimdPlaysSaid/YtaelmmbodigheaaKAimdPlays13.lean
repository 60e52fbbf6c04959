-- PUT TOGETHER by a program of this session: of the claim's texts, what is used
import Derived.Test.YtaelmmbodigheaaKAimdPlays2
import Derived.Test.YtaelmmbodigheaaKAimdPlays8
import Derived.Test.YtaelmmbodigheaaKAimdPlays9
import Derived.Test.YtaelmmbodigheaaKAimdPlays10
import Derived.Test.YtaelmmbodigheaaKAimdPlays11
import Derived.Test.YtaelmmbodigheaaKAimdPlays12
section
namespace Go.Proofs.Ytaelmmbodigheaa.P
open Go.RowKit Go.Proofs.YtaelmmbodigheaaW.PrintWords Go.Proofs.YtaelmmbodigheaaW.PrintLast Go.Proofs.YtaelmmbodigheaaW.PrintMore
attribute [local go_sem] max2_int min2_int max_two min_two max_three min_three max_four min_four   -- for this text's walks alone
set_option linter.unusedVariables false
set_option linter.unusedSimpArgs false
mutual
def flywheellaw19_AimdPlays.l0 : Nat → List (S34) → Int → Int → Int → Int → Int → Bool → Int → Int → Bool → Int → Int → Int → Int → Int → Bool → Int → Int → Bool → Int → Option (Bool)
 | 0, _, _, _, _, _, _, _, _, _, _, _, _, _, _, _, _, _, _, _, _ => none
 | k + 1, x1, x9, x386000, x386001, x386002, x386003, x386004, x386005, x386006, x386007, x386008, x397000, x397001, x397002, x397003, x397004, x397005, x397006, x397007, x397008 => if x9 < (x1.length : Int) then (if x9 < 200 then (if 0 ≤ x9 then ((aimd_Aimd_Update.f k x386000 x386001 x386002 x386003 x386004 x386005 x386006 x386007 x386008 ((rd_T34 x1 x9).f0) ((rd_T34 x1 x9).f1) ((rd_T34 x1 x9).f2) ((rd_T34 x1 x9).f3)).bind fun bt400 => ((flywheelref19_Aimd_Update.f k x397000 x397001 x397002 x397003 x397004 x397005 x397006 x397007 x397008 ((rd_T34 x1 x9).f0) ((rd_T34 x1 x9).f1) ((rd_T34 x1 x9).f2) ((rd_T34 x1 x9).f3)).bind fun bt410 => (if bt400.1 = bt410.1 then ((aimd_Aimd_Rate.f bt400.2.1 bt400.2.2.1 bt400.2.2.2.1 bt400.2.2.2.2.1 bt400.2.2.2.2.2.1 bt400.2.2.2.2.2.2.1 bt400.2.2.2.2.2.2.2.1 bt400.2.2.2.2.2.2.2.2.1 bt400.2.2.2.2.2.2.2.2.2).bind fun bt420 => ((flywheelref19_Aimd_Rate.f bt410.2.1 bt410.2.2.1 bt410.2.2.2.1 bt410.2.2.2.2.1 bt410.2.2.2.2.2.1 bt410.2.2.2.2.2.2.1 bt410.2.2.2.2.2.2.2.1 bt410.2.2.2.2.2.2.2.2.1 bt410.2.2.2.2.2.2.2.2.2).bind fun bt430 => (if bt420.1 = bt430.1 then ((aimd_Aimd_State.f bt420.2.1 bt420.2.2.1 bt420.2.2.2.1 bt420.2.2.2.2.1 bt420.2.2.2.2.2.1 bt420.2.2.2.2.2.2.1 bt420.2.2.2.2.2.2.2.1 bt420.2.2.2.2.2.2.2.2.1 bt420.2.2.2.2.2.2.2.2.2).bind fun bt440 => ((flywheelref19_Aimd_State.f bt430.2.1 bt430.2.2.1 bt430.2.2.2.1 bt430.2.2.2.2.1 bt430.2.2.2.2.2.1 bt430.2.2.2.2.2.2.1 bt430.2.2.2.2.2.2.2.1 bt430.2.2.2.2.2.2.2.2.1 bt430.2.2.2.2.2.2.2.2.2).bind fun bt450 => (if bt440.1 = bt450.1 then (flywheellaw19_AimdPlays.l0 k x1 (wrap64 (x9 + 1)) bt440.2.1 bt440.2.2.1 bt440.2.2.2.1 bt440.2.2.2.2.1 bt440.2.2.2.2.2.1 bt440.2.2.2.2.2.2.1 bt440.2.2.2.2.2.2.2.1 bt440.2.2.2.2.2.2.2.2.1 bt440.2.2.2.2.2.2.2.2.2 bt450.2.1 bt450.2.2.1 bt450.2.2.2.1 bt450.2.2.2.2.1 bt450.2.2.2.2.2.1 bt450.2.2.2.2.2.2.1 bt450.2.2.2.2.2.2.2.1 bt450.2.2.2.2.2.2.2.2.1 bt450.2.2.2.2.2.2.2.2.2) else (some false)))) else (some false)))) else (some false)))) else (none)) else ((flywheellaw19_wakes.f k).bind fun t460 => (some t460))) else ((flywheellaw19_wakes.f k).bind fun t461 => (some t461))
def flywheellaw19_AimdPlays.l5000 : Nat → List (S34) → Int → Option (Bool)
 | 0, _, _ => none
 | k + 1, x1, x9 => if x9 < (x1.length : Int) then (if x9 < 200 then ((flywheellaw19_wakes.f k).bind fun t476 => (some t476)) else ((flywheellaw19_wakes.f k).bind fun t477 => (some t477))) else ((flywheellaw19_wakes.f k).bind fun t478 => (some t478))
end
def flywheellaw19_AimdPlays.f (k : Nat) (a0_0 : Int) (a0_1 : Int) (a0_2 : Int) (l1 : List (S34)) : Option (Bool) := if (aimd_New.made.f a0_0 a0_1 a0_2).isSome = true then ((aimd_New.made.f a0_0 a0_1 a0_2).bind fun bt376 => (if (flywheelref19_New.made.f a0_0 a0_1 a0_2).isSome = true then ((flywheelref19_New.made.f a0_0 a0_1 a0_2).bind fun bt387 => (if bt376.2.2.2.2.2.2.2.2.2 = bt387.2.2.2.2.2.2.2.2.2 then (flywheellaw19_AimdPlays.l0 k l1 0 bt376.1 bt376.2.1 bt376.2.2.1 bt376.2.2.2.1 bt376.2.2.2.2.1 bt376.2.2.2.2.2.1 bt376.2.2.2.2.2.2.1 bt376.2.2.2.2.2.2.2.1 bt376.2.2.2.2.2.2.2.2.1 bt387.1 bt387.2.1 bt387.2.2.1 bt387.2.2.2.1 bt387.2.2.2.2.1 bt387.2.2.2.2.2.1 bt387.2.2.2.2.2.2.1 bt387.2.2.2.2.2.2.2.1 bt387.2.2.2.2.2.2.2.2.1) else (some false))) else ((flywheelref19_New.nil.f a0_0 a0_1 a0_2).bind fun t462 => (if bt376.2.2.2.2.2.2.2.2.2 = t462 then (some false) else (some false))))) else ((aimd_New.nil.f a0_0 a0_1 a0_2).bind fun t463 => (if (flywheelref19_New.made.f a0_0 a0_1 a0_2).isSome = true then ((flywheelref19_New.made.f a0_0 a0_1 a0_2).bind fun bt464 => (if t463 = bt464.2.2.2.2.2.2.2.2.2 then (some false) else (some false))) else ((flywheelref19_New.nil.f a0_0 a0_1 a0_2).bind fun t475 => (if t463 = t475 then (flywheellaw19_AimdPlays.l5000 k l1 0) else (some false)))))
def flywheellaw19_AimdPlays.T9 : Bool × List (List Nat × List Nat) := (true, [([], []), ([], []), ([1], [1]), ([], []), ([3], [3]), ([], []), ([5], [5]), ([], []), ([7], [7]), ([0, 2, 4, 6, 8], [0, 2, 4, 6, 8]), ([], []), ([], []), ([11], [11]), ([], []), ([13], [13]), ([], []), ([15], [15]), ([], []), ([17], [17]), ([10, 12, 14, 16, 18, 9], [10, 12, 14, 16, 18]), ([9, 19], [9, 19]), ([20, 19], [20]), ([21], [21]), ([22, 21, 21], [21, 22]), ([21], [21]), ([24, 23, 21], [21, 24]), ([23, 25, 21], [21, 23, 25]), ([21, 26], [21, 26]), ([27, 25], [27]), ([28], [28]), ([29, 28, 28], [28, 29]), ([28], [28]), ([31, 30, 28], [28, 31]), ([30, 32, 28], [28, 30, 32]), ([28, 33], [28, 33])])
def flywheellaw19_AimdPlays.B9 : List Nat := [0, 0, 2, 0, 8, 0, 32, 0, 128, 511, 0, 0, 2048, 0, 8192, 0, 32768, 0, 131072, 524287, 1048575, 2097151, 4194303, 8388607, 4194303, 33554431, 67108863, 134217727, 268435455, 536870911, 1073741823, 536870911, 4294967295, 8589934591, 17179869183]
theorem flywheellaw19_AimdPlays.tab9 : rtab .any (opsOf Try.f5 9) = flywheellaw19_AimdPlays.T9 := by kernel_rfl
theorem flywheellaw19_AimdPlays.bits9 : waitsOk flywheellaw19_AimdPlays.T9.2 flywheellaw19_AimdPlays.B9 = true := by kernel_rfl
set_option maxHeartbeats 8000000 in
set_option maxRecDepth 100000 in
theorem flywheellaw19_AimdPlays.calls (k : Nat) (a0_0 : Int) (a0_1 : Int) (a0_2 : Int) (A1 : Option Addr) (c1 : Nat) (l1 : List (S34)) (r : Bool) (w : World) (hr1 : Kd.C k34 w A1 l1.length l1) (hc1 : l1.length ≤ c1) (h : flywheellaw19_AimdPlays.f k a0_0 a0_1 a0_2 l1 = some r) :
  Calls Try.prog 5 #[.agg #[.int .i64 a0_0, .int .i64 a0_1, .int .i64 a0_2], .slice A1 l1.length c1] w fun e w' => e = .returned (.bool r) ∧ Below w.heap.size w w' := by
 have hu23 := Try.underlying23
 have hu34 := Try.underlying34
 have hpn25_eql : ∀ (a_ : Addr) (W_ : World), (Go.binOp .eql 25 (.pointer (some a_)) (.pointer none)).run Try.prog W_ = .ok (.bool false) W_ := fun _ _ => by kernel_rfl
 have hnn25_eql : ∀ (W_ : World), (Go.binOp .eql 25 (.pointer none) (.pointer none)).run Try.prog W_ = .ok (.bool true) W_ := fun _ => by kernel_rfl
 have hpn38_eql : ∀ (a_ : Addr) (W_ : World), (Go.binOp .eql 38 (.pointer (some a_)) (.pointer none)).run Try.prog W_ = .ok (.bool false) W_ := fun _ _ => by kernel_rfl
 have hnn38_eql : ∀ (W_ : World), (Go.binOp .eql 38 (.pointer none) (.pointer none)).run Try.prog W_ = .ok (.bool true) W_ := fun _ => by kernel_rfl
 have hpn38_neq : ∀ (a_ : Addr) (W_ : World), (Go.binOp .neq 38 (.pointer (some a_)) (.pointer none)).run Try.prog W_ = .ok (.bool true) W_ := fun _ _ => by kernel_rfl
 have hnn38_neq : ∀ (W_ : World), (Go.binOp .neq 38 (.pointer none) (.pointer none)).run Try.prog W_ = .ok (.bool false) W_ := fun _ => by kernel_rfl
 have HR1 := Aside0.mk hr1
 have HC1 := Aside0.mk hc1
 clear hr1 hc1
 have HB := Aside0.mk (Below.refl w.heap.size w)
 have H : (if (aimd_New.made.f a0_0 a0_1 a0_2).isSome = true then ((aimd_New.made.f a0_0 a0_1 a0_2).bind fun bt376 => (if (flywheelref19_New.made.f a0_0 a0_1 a0_2).isSome = true then ((flywheelref19_New.made.f a0_0 a0_1 a0_2).bind fun bt387 => (if bt376.2.2.2.2.2.2.2.2.2 = bt387.2.2.2.2.2.2.2.2.2 then (flywheellaw19_AimdPlays.l0 k l1 0 bt376.1 bt376.2.1 bt376.2.2.1 bt376.2.2.2.1 bt376.2.2.2.2.1 bt376.2.2.2.2.2.1 bt376.2.2.2.2.2.2.1 bt376.2.2.2.2.2.2.2.1 bt376.2.2.2.2.2.2.2.2.1 bt387.1 bt387.2.1 bt387.2.2.1 bt387.2.2.2.1 bt387.2.2.2.2.1 bt387.2.2.2.2.2.1 bt387.2.2.2.2.2.2.1 bt387.2.2.2.2.2.2.2.1 bt387.2.2.2.2.2.2.2.2.1) else (some false))) else ((flywheelref19_New.nil.f a0_0 a0_1 a0_2).bind fun t462 => (if bt376.2.2.2.2.2.2.2.2.2 = t462 then (some false) else (some false))))) else ((aimd_New.nil.f a0_0 a0_1 a0_2).bind fun t463 => (if (flywheelref19_New.made.f a0_0 a0_1 a0_2).isSome = true then ((flywheelref19_New.made.f a0_0 a0_1 a0_2).bind fun bt464 => (if t463 = bt464.2.2.2.2.2.2.2.2.2 then (some false) else (some false))) else ((flywheelref19_New.nil.f a0_0 a0_1 a0_2).bind fun t475 => (if t463 = t475 then (flywheellaw19_AimdPlays.l5000 k l1 0) else (some false)))))) = some r := h
 clear h
 by_cases c3 : (aimd_New.made.f a0_0 a0_1 a0_2).isSome = true
 ·rw [if_pos c3] at H
  have c3b0 : (aimd_New.made.f a0_0 a0_1 a0_2).isSome = true := c3
  clear c3
  replace H := Option.bind_eq_some_iff.mp H
  obtain ⟨⟨t376, t377, t378, t379, t380, t381, t382, t383, t384, t386⟩, A40, H⟩ := H
  replace H : (if (flywheelref19_New.made.f a0_0 a0_1 a0_2).isSome = true then ((flywheelref19_New.made.f a0_0 a0_1 a0_2).bind fun bt387 => (if t386 = bt387.2.2.2.2.2.2.2.2.2 then (flywheellaw19_AimdPlays.l0 k l1 0 t376 t377 t378 t379 t380 t381 t382 t383 t384 bt387.1 bt387.2.1 bt387.2.2.1 bt387.2.2.2.1 bt387.2.2.2.2.1 bt387.2.2.2.2.2.1 bt387.2.2.2.2.2.2.1 bt387.2.2.2.2.2.2.2.1 bt387.2.2.2.2.2.2.2.2.1) else (some false))) else ((flywheelref19_New.nil.f a0_0 a0_1 a0_2).bind fun t462 => (if t386 = t462 then (some false) else (some false)))) = some r := H
  have A4 := Aside0.mk A40
  clear A40
  by_cases c5 : (flywheelref19_New.made.f a0_0 a0_1 a0_2).isSome = true
  ·rw [if_pos c5] at H
   have c5b0 : (flywheelref19_New.made.f a0_0 a0_1 a0_2).isSome = true := c5
   clear c5
   replace H := Option.bind_eq_some_iff.mp H
   obtain ⟨⟨t387, t388, t389, t390, t391, t392, t393, t394, t395, t397⟩, A60, H⟩ := H
   replace H : (if t386 = t397 then (flywheellaw19_AimdPlays.l0 k l1 0 t376 t377 t378 t379 t380 t381 t382 t383 t384 t387 t388 t389 t390 t391 t392 t393 t394 t395) else (some false)) = some r := H
   have A6 := Aside0.mk A60
   clear A60
   by_cases c7 : t386 = t397
   ·rw [if_pos c7] at H
    have c7b0 : (t386 == t397) = true := beq_iff_eq.mpr c7
    have c7b1 : (t386 != t397) = false := bne_eq_false_iff_eq.mpr c7
    clear c7
    have H' := Aside0.mk H
    clear H
    go_enter Try.func5, Try.ntmps5
    go_wp2_with (first | ((with_reducible refine gate_dst (N := 2) rfl ?_); refine box_event ?hg (N := 2) ?hd (cs := #[.int .i64 a0_0, .int .i64 a0_1, .int .i64 a0_2]) (t := 23) ?hr ?_; (case hd => rfl); (case hg => rfl); (case hr => first | (go_simp; done) | (go_simp; rfl)); intro gb375 hg w8 hbox hb; have n0_ := Aside0.mk (below_step (by repeat (first | (with_reducible first | exact HB.out | apply below_alloc | apply pw_below_drewN | apply below_drew1) | exact HB.out)) hb); have n1_ := Aside0.mk (hbox); have n2_ := Aside0.mk ((by rw [hg]; exact (below_size (by repeat (first | (with_reducible first | exact HB.out | apply below_alloc | apply pw_below_drewN | apply below_drew1) | exact HB.out))) : w.heap.size ≤ gb375)); have n3_ := Aside0.mk ((by rw [hg]; exact (below_size (by repeat (first | (with_reducible first | exact HB.out | apply below_alloc | apply pw_below_drewN | apply below_drew1) | exact HB.out))) : w.heap.size ≤ gb375)); clear HB; have HB := n0_; have BK375 := n1_; have GW375 := n2_; have GE375 := n3_; clear n0_ n1_ n2_ n3_; clear hb hbox hg; have hcz9_0 : w8.cell? ⟨gb375, 0, none⟩ = some (.int .i64 a0_0) := (blk_cell BK375.out 0).trans rfl; have hcz9_1 : w8.cell? ⟨gb375, 1, none⟩ = some (.int .i64 a0_1) := (blk_cell BK375.out 1).trans rfl; have hcz9_2 : w8.cell? ⟨gb375, 2, none⟩ = some (.int .i64 a0_2) := (blk_cell BK375.out 2).trans rfl; have hfz9_0 := blk_frozen BK375.out 0; have hfz9_1 := blk_frozen BK375.out 1; have hfz9_2 := blk_frozen BK375.out 2) | ((with_reducible refine gate_callee (f := 14) rfl ?_); refine goesL_ (some 18) rfl rfl Try.func14 (by kernel_rfl) rfl #[.int .i64 a0_0, .int .i64 a0_1, .int .i64 a0_2] rfl (by (try simp only [List.map_toArray, List.map_cons, List.map_nil]); first | done | rfl | (simp only [List.length_drop, List.length_take]; rfl)) ?_; (with_reducible refine (aimd_New.made.calls a0_0 a0_1 a0_2 t376 t377 t378 t379 t380 t381 t382 t383 t384 t386 _ _ (Below.refl _ _) A4.out).mono ?_); rintro e w10 ⟨g385, rfl, hi, hb, hb2⟩; refine ⟨_, rfl, ?_⟩; have n0_ := Aside0.mk (blk_below (g := gb375) (o := .cells #[.int .i64 a0_0, .int .i64 a0_1, .int .i64 a0_2] 23 (0, 0)) (by (with_reducible repeat (first | refine blk_drewN ?_ _ | refine blk_drew ?_ | refine blk_alloc ?_ _)); exact BK375.out) hb2); have n1_ := Aside0.mk (below_step (by repeat (first | (with_reducible first | exact HB.out | apply below_alloc | apply pw_below_drewN | apply below_drew1 | refine below_set ?_ GE375.out) | exact HB.out)) hb2); have n2_ := Aside0.mk ((IsS63.rebase hi (below_size (by repeat (first | (with_reducible first | exact HB.out | apply below_alloc | apply pw_below_drewN | apply below_drew1 | refine below_set ?_ GE375.out) | exact HB.out))))); have n3_ := Aside0.mk (IsS63.ne_blk hi (blk_below (g := gb375) (o := .cells #[.int .i64 a0_0, .int .i64 a0_1, .int .i64 a0_2] 23 (0, 0)) (by (with_reducible repeat (first | refine blk_drewN ?_ _ | refine blk_drew ?_ | refine blk_alloc ?_ _)); exact BK375.out) hb2) (by decide)); have n4_ := Aside0.mk (Ne.symm (IsS63.ne_blk hi (blk_below (g := gb375) (o := .cells #[.int .i64 a0_0, .int .i64 a0_1, .int .i64 a0_2] 23 (0, 0)) (by (with_reducible repeat (first | refine blk_drewN ?_ _ | refine blk_drew ?_ | refine blk_alloc ?_ _)); exact BK375.out) hb2) (by decide))); clear BK375; clear HB; have BK375 := n0_; have HB := n1_; have HI385 := n2_; have NB385_375 := n3_; have NB375_385 := n4_; clear n0_ n1_ n2_ n3_ n4_; (try clear hb); (try clear hb2); (try clear hk); (try clear hi); have hnb11 := NB375_385.out; have hnc11 := NB385_375.out; have hcz12_0 : w10.cell? ⟨gb375, 0, none⟩ = some (.int .i64 a0_0) := (blk_cell BK375.out 0).trans rfl; have hcz12_1 : w10.cell? ⟨gb375, 1, none⟩ = some (.int .i64 a0_1) := (blk_cell BK375.out 1).trans rfl; have hcz12_2 : w10.cell? ⟨gb375, 2, none⟩ = some (.int .i64 a0_2) := (blk_cell BK375.out 2).trans rfl; have hfz12_0 := blk_frozen BK375.out 0; have hfz12_1 := blk_frozen BK375.out 1; have hfz12_2 := blk_frozen BK375.out 2) | ((with_reducible refine gate_callee (f := 20) rfl ?_); refine goesL_ (some 28) rfl rfl Try.func20 (by kernel_rfl) rfl #[.int .i64 a0_0, .int .i64 a0_1, .int .i64 a0_2] rfl (by (try simp only [List.map_toArray, List.map_cons, List.map_nil]); first | done | rfl | (simp only [List.length_drop, List.length_take]; rfl)) ?_; (with_reducible refine (flywheelref19_New.made.calls a0_0 a0_1 a0_2 t387 t388 t389 t390 t391 t392 t393 t394 t395 t397 _ _ (Below.refl _ _) A6.out).mono ?_); rintro e w13 ⟨g396, rfl, hi, hb, hb2⟩; refine ⟨_, rfl, ?_⟩; have n0_ := Aside0.mk (blk_below (g := gb375) (o := .cells #[.int .i64 a0_0, .int .i64 a0_1, .int .i64 a0_2] 23 (0, 0)) (by (with_reducible repeat (first | refine blk_drewN ?_ _ | refine blk_drew ?_ | refine blk_alloc ?_ _)); exact BK375.out) hb2); have n1_ := Aside0.mk (IsS63.below (by repeat (first | (with_reducible first | exact HI385.out | apply IsS63.alloc | apply IsS63.drewN | apply IsS63.drew | apply IsS63.set_0 | apply IsS63.set_1 | apply IsS63.set_2 | apply IsS63.set_3 | apply IsS63.set_4 | apply IsS63.set_5 | apply IsS63.set_6 | apply IsS63.set_7 | apply IsS63.set_8 | refine IsS63.far ?_ NB385_375.out _) | exact HI385.out)) hb2); have n2_ := Aside0.mk (below_step (by repeat (first | (with_reducible first | exact HB.out | apply below_alloc | apply pw_below_drewN | apply below_drew1 | refine below_set ?_ (IsS63.ge HI385.out) | refine below_set ?_ GE375.out) | exact HB.out)) hb2); have n3_ := Aside0.mk ((IsS71.rebase hi (below_size (by repeat (first | (with_reducible first | exact HB.out | apply below_alloc | apply pw_below_drewN | apply below_drew1 | refine below_set ?_ (IsS63.ge HI385.out) | refine below_set ?_ GE375.out) | exact HB.out))))); have n4_ := Aside0.mk ((Nat.ne_of_gt (Nat.lt_of_lt_of_le (IsS63.lt (by repeat (first | (with_reducible first | exact HI385.out | apply IsS63.alloc | apply IsS63.drewN | apply IsS63.drew | apply IsS63.set_0 | apply IsS63.set_1 | apply IsS63.set_2 | apply IsS63.set_3 | apply IsS63.set_4 | apply IsS63.set_5 | apply IsS63.set_6 | apply IsS63.set_7 | apply IsS63.set_8 | refine IsS63.far ?_ NB385_375.out _) | exact HI385.out))) (IsS71.ge hi)))); have n5_ := Aside0.mk (Ne.symm (Nat.ne_of_gt (Nat.lt_of_lt_of_le (IsS63.lt (by repeat (first | (with_reducible first | exact HI385.out | apply IsS63.alloc | apply IsS63.drewN | apply IsS63.drew | apply IsS63.set_0 | apply IsS63.set_1 | apply IsS63.set_2 | apply IsS63.set_3 | apply IsS63.set_4 | apply IsS63.set_5 | apply IsS63.set_6 | apply IsS63.set_7 | apply IsS63.set_8 | refine IsS63.far ?_ NB385_375.out _) | exact HI385.out))) (IsS71.ge hi)))); have n6_ := Aside0.mk (IsS71.ne_blk hi (blk_below (g := gb375) (o := .cells #[.int .i64 a0_0, .int .i64 a0_1, .int .i64 a0_2] 23 (0, 0)) (by (with_reducible repeat (first | refine blk_drewN ?_ _ | refine blk_drew ?_ | refine blk_alloc ?_ _)); exact BK375.out) hb2) (by decide)); have n7_ := Aside0.mk (Ne.symm (IsS71.ne_blk hi (blk_below (g := gb375) (o := .cells #[.int .i64 a0_0, .int .i64 a0_1, .int .i64 a0_2] 23 (0, 0)) (by (with_reducible repeat (first | refine blk_drewN ?_ _ | refine blk_drew ?_ | refine blk_alloc ?_ _)); exact BK375.out) hb2) (by decide))); clear BK375; clear HI385; clear HB; have BK375 := n0_; have HI385 := n1_; have HB := n2_; have HI396 := n3_; have NB396_385 := n4_; have NB385_396 := n5_; have NB396_375 := n6_; have NB375_396 := n7_; clear n0_ n1_ n2_ n3_ n4_ n5_ n6_ n7_; (try clear hb); (try clear hb2); (try clear hk); (try clear hi)))
    go_loopg [9] k (fun kq v9 w' => ∃ (x9_1 : Int) (x386000_1 : Int) (x386001_1 : Int) (x386002_1 : Int) (x386003_1 : Int) (x386004_1 : Bool) (x386005_1 : Int) (x386006_1 : Int) (x386007_1 : Bool) (x386008_1 : Int) (x397000_1 : Int) (x397001_1 : Int) (x397002_1 : Int) (x397003_1 : Int) (x397004_1 : Bool) (x397005_1 : Int) (x397006_1 : Int) (x397007_1 : Bool) (x397008_1 : Int), v9 = .int .i64 x9_1 ∧ Aside0 (flywheellaw19_AimdPlays.l0 kq l1 x9_1 x386000_1 x386001_1 x386002_1 x386003_1 x386004_1 x386005_1 x386006_1 x386007_1 x386008_1 x397000_1 x397001_1 x397002_1 x397003_1 x397004_1 x397005_1 x397006_1 x397007_1 x397008_1 = some r) ∧ Aside0 (kq ≤ k) ∧ Aside0 (w'.heap[gb375]? = some (.cells #[.int .i64 a0_0, .int .i64 a0_1, .int .i64 a0_2] 23 (0, 0))) ∧ Aside0 (IsS63 w w' g385 x386000_1 x386001_1 x386002_1 x386003_1 x386004_1 x386005_1 x386006_1 x386007_1 x386008_1) ∧ Aside0 (IsS71 w w' g396 x397000_1 x397001_1 x397002_1 x397003_1 x397004_1 x397005_1 x397006_1 x397007_1 x397008_1) ∧ Aside0 (Below w.heap.size w w'))
    case atStart => exact ⟨(0), (t376), (t377), (t378), (t379), (t380), (t381), (t382), (t383), (t384), (t387), (t388), (t389), (t390), (t391), (t392), (t393), (t394), (t395), (by first | rfl | (simp; done) | (simp [*]; done)), H', ⟨Nat.le_refl _⟩, ⟨by (with_reducible repeat (first | refine blk_drewN ?_ _ | refine blk_drew ?_ | refine blk_alloc ?_ _)); exact BK375.out⟩, ⟨by repeat (first | (with_reducible first | exact HI385.out | apply IsS63.alloc | apply IsS63.drewN | apply IsS63.drew | apply IsS63.set_0 | apply IsS63.set_1 | apply IsS63.set_2 | apply IsS63.set_3 | apply IsS63.set_4 | apply IsS63.set_5 | apply IsS63.set_6 | apply IsS63.set_7 | apply IsS63.set_8 | refine IsS63.far ?_ NB385_375.out _) | exact HI385.out)⟩, ⟨by repeat (first | (with_reducible first | exact HI396.out | apply IsS71.alloc | apply IsS71.drewN | apply IsS71.drew | apply IsS71.set_0 | apply IsS71.set_1 | apply IsS71.set_2 | apply IsS71.set_3 | apply IsS71.set_4 | apply IsS71.set_5 | apply IsS71.set_6 | apply IsS71.set_7 | apply IsS71.set_8 | refine IsS71.far ?_ NB396_375.out _) | exact HI396.out)⟩, ⟨by repeat (first | (with_reducible first | exact HB.out | apply below_alloc | apply pw_below_drewN | apply below_drew1 | refine below_set ?_ (IsS63.ge HI385.out) | refine below_set ?_ (IsS71.ge HI396.out) | refine below_set ?_ GE375.out) | exact HB.out)⟩⟩
    case round =>
     clear H'
     try clear c1
     try clear c2
     try clear p2
     try clear c3
     try clear c3b0
     try clear c5
     try clear c5b0
     try clear c7
     try clear c7b0
     try clear c7b1
     try clear c11
     try clear hcz12_0
     try clear hcz12_1
     try clear hcz12_2
     try clear hcz9_0
     try clear hcz9_1
     try clear hcz9_2
     try clear hfz12_0
     try clear hfz12_1
     try clear hfz12_2
     try clear hfz9_0
     try clear hfz9_1
     try clear hfz9_2
     obtain ⟨x9_1, x386000_1, x386001_1, x386002_1, x386003_1, x386004_1, x386005_1, x386006_1, x386007_1, x386008_1, x397000_1, x397001_1, x397002_1, x397003_1, x397004_1, x397005_1, x397006_1, x397007_1, x397008_1, rfl, HA, HK1, BK375, HI385, HI396, HB⟩ := hrel
     cases gk with
     | zero => exact absurd HA.out (by simp [flywheellaw19_AimdPlays.l0])
     | succ k1 =>
      have H := HA.out
      clear HA
      simp only [flywheellaw19_AimdPlays.l0] at H
      by_cases c14 : x9_1 < (l1.length : Int)
      ·rw [if_pos c14] at H
       have c14b0 : decide (x9_1 < (l1.length : Int)) = true := decide_eq_true c14
       clear c14
       by_cases c15 : x9_1 < 200
       ·rw [if_pos c15] at H
        have c15b0 : decide (x9_1 < 200) = true := decide_eq_true c15
        clear c15
        by_cases c16 : 0 ≤ x9_1
        ·rw [if_pos c16] at H
         have c16b0 : decide (0 ≤ x9_1) = true := decide_eq_true c16
         clear c16
         replace H := Option.bind_eq_some_iff.mp H
         obtain ⟨⟨t400, t401, t402, t403, t404, t405, t406, t407, t408, t409⟩, A170, H⟩ := H
         replace H : ((flywheelref19_Aimd_Update.f k1 x397000_1 x397001_1 x397002_1 x397003_1 x397004_1 x397005_1 x397006_1 x397007_1 x397008_1 ((rd_T34 l1 x9_1).f0) ((rd_T34 l1 x9_1).f1) ((rd_T34 l1 x9_1).f2) ((rd_T34 l1 x9_1).f3)).bind fun bt410 => (if t400 = bt410.1 then ((aimd_Aimd_Rate.f t401 t402 t403 t404 t405 t406 t407 t408 t409).bind fun bt420 => ((flywheelref19_Aimd_Rate.f bt410.2.1 bt410.2.2.1 bt410.2.2.2.1 bt410.2.2.2.2.1 bt410.2.2.2.2.2.1 bt410.2.2.2.2.2.2.1 bt410.2.2.2.2.2.2.2.1 bt410.2.2.2.2.2.2.2.2.1 bt410.2.2.2.2.2.2.2.2.2).bind fun bt430 => (if bt420.1 = bt430.1 then ((aimd_Aimd_State.f bt420.2.1 bt420.2.2.1 bt420.2.2.2.1 bt420.2.2.2.2.1 bt420.2.2.2.2.2.1 bt420.2.2.2.2.2.2.1 bt420.2.2.2.2.2.2.2.1 bt420.2.2.2.2.2.2.2.2.1 bt420.2.2.2.2.2.2.2.2.2).bind fun bt440 => ((flywheelref19_Aimd_State.f bt430.2.1 bt430.2.2.1 bt430.2.2.2.1 bt430.2.2.2.2.1 bt430.2.2.2.2.2.1 bt430.2.2.2.2.2.2.1 bt430.2.2.2.2.2.2.2.1 bt430.2.2.2.2.2.2.2.2.1 bt430.2.2.2.2.2.2.2.2.2).bind fun bt450 => (if bt440.1 = bt450.1 then (flywheellaw19_AimdPlays.l0 k1 l1 (wrap64 (x9_1 + 1)) bt440.2.1 bt440.2.2.1 bt440.2.2.2.1 bt440.2.2.2.2.1 bt440.2.2.2.2.2.1 bt440.2.2.2.2.2.2.1 bt440.2.2.2.2.2.2.2.1 bt440.2.2.2.2.2.2.2.2.1 bt440.2.2.2.2.2.2.2.2.2 bt450.2.1 bt450.2.2.1 bt450.2.2.2.1 bt450.2.2.2.2.1 bt450.2.2.2.2.2.1 bt450.2.2.2.2.2.2.1 bt450.2.2.2.2.2.2.2.1 bt450.2.2.2.2.2.2.2.2.1 bt450.2.2.2.2.2.2.2.2.2) else (some false)))) else (some false)))) else (some false))) = some r := H
         have A17 := Aside0.mk A170
         clear A170
         replace H := Option.bind_eq_some_iff.mp H
         obtain ⟨⟨t410, t411, t412, t413, t414, t415, t416, t417, t418, t419⟩, A180, H⟩ := H
         replace H : (if t400 = t410 then ((aimd_Aimd_Rate.f t401 t402 t403 t404 t405 t406 t407 t408 t409).bind fun bt420 => ((flywheelref19_Aimd_Rate.f t411 t412 t413 t414 t415 t416 t417 t418 t419).bind fun bt430 => (if bt420.1 = bt430.1 then ((aimd_Aimd_State.f bt420.2.1 bt420.2.2.1 bt420.2.2.2.1 bt420.2.2.2.2.1 bt420.2.2.2.2.2.1 bt420.2.2.2.2.2.2.1 bt420.2.2.2.2.2.2.2.1 bt420.2.2.2.2.2.2.2.2.1 bt420.2.2.2.2.2.2.2.2.2).bind fun bt440 => ((flywheelref19_Aimd_State.f bt430.2.1 bt430.2.2.1 bt430.2.2.2.1 bt430.2.2.2.2.1 bt430.2.2.2.2.2.1 bt430.2.2.2.2.2.2.1 bt430.2.2.2.2.2.2.2.1 bt430.2.2.2.2.2.2.2.2.1 bt430.2.2.2.2.2.2.2.2.2).bind fun bt450 => (if bt440.1 = bt450.1 then (flywheellaw19_AimdPlays.l0 k1 l1 (wrap64 (x9_1 + 1)) bt440.2.1 bt440.2.2.1 bt440.2.2.2.1 bt440.2.2.2.2.1 bt440.2.2.2.2.2.1 bt440.2.2.2.2.2.2.1 bt440.2.2.2.2.2.2.2.1 bt440.2.2.2.2.2.2.2.2.1 bt440.2.2.2.2.2.2.2.2.2 bt450.2.1 bt450.2.2.1 bt450.2.2.2.1 bt450.2.2.2.2.1 bt450.2.2.2.2.2.1 bt450.2.2.2.2.2.2.1 bt450.2.2.2.2.2.2.2.1 bt450.2.2.2.2.2.2.2.2.1 bt450.2.2.2.2.2.2.2.2.2) else (some false)))) else (some false)))) else (some false)) = some r := H
         have A18 := Aside0.mk A180
         clear A180
         by_cases c19 : t400 = t410
         ·rw [if_pos c19] at H
          have c19b0 : (t400 == t410) = true := beq_iff_eq.mpr c19
          have c19b1 : (t400 != t410) = false := bne_eq_false_iff_eq.mpr c19
          clear c19
          replace H := Option.bind_eq_some_iff.mp H
          obtain ⟨⟨t420, t421, t422, t423, t424, t425, t426, t427, t428, t429⟩, A200, H⟩ := H
          replace H : ((flywheelref19_Aimd_Rate.f t411 t412 t413 t414 t415 t416 t417 t418 t419).bind fun bt430 => (if t420 = bt430.1 then ((aimd_Aimd_State.f t421 t422 t423 t424 t425 t426 t427 t428 t429).bind fun bt440 => ((flywheelref19_Aimd_State.f bt430.2.1 bt430.2.2.1 bt430.2.2.2.1 bt430.2.2.2.2.1 bt430.2.2.2.2.2.1 bt430.2.2.2.2.2.2.1 bt430.2.2.2.2.2.2.2.1 bt430.2.2.2.2.2.2.2.2.1 bt430.2.2.2.2.2.2.2.2.2).bind fun bt450 => (if bt440.1 = bt450.1 then (flywheellaw19_AimdPlays.l0 k1 l1 (wrap64 (x9_1 + 1)) bt440.2.1 bt440.2.2.1 bt440.2.2.2.1 bt440.2.2.2.2.1 bt440.2.2.2.2.2.1 bt440.2.2.2.2.2.2.1 bt440.2.2.2.2.2.2.2.1 bt440.2.2.2.2.2.2.2.2.1 bt440.2.2.2.2.2.2.2.2.2 bt450.2.1 bt450.2.2.1 bt450.2.2.2.1 bt450.2.2.2.2.1 bt450.2.2.2.2.2.1 bt450.2.2.2.2.2.2.1 bt450.2.2.2.2.2.2.2.1 bt450.2.2.2.2.2.2.2.2.1 bt450.2.2.2.2.2.2.2.2.2) else (some false)))) else (some false))) = some r := H
          have A20 := Aside0.mk A200
          clear A200
          replace H := Option.bind_eq_some_iff.mp H
          obtain ⟨⟨t430, t431, t432, t433, t434, t435, t436, t437, t438, t439⟩, A210, H⟩ := H
          replace H : (if t420 = t430 then ((aimd_Aimd_State.f t421 t422 t423 t424 t425 t426 t427 t428 t429).bind fun bt440 => ((flywheelref19_Aimd_State.f t431 t432 t433 t434 t435 t436 t437 t438 t439).bind fun bt450 => (if bt440.1 = bt450.1 then (flywheellaw19_AimdPlays.l0 k1 l1 (wrap64 (x9_1 + 1)) bt440.2.1 bt440.2.2.1 bt440.2.2.2.1 bt440.2.2.2.2.1 bt440.2.2.2.2.2.1 bt440.2.2.2.2.2.2.1 bt440.2.2.2.2.2.2.2.1 bt440.2.2.2.2.2.2.2.2.1 bt440.2.2.2.2.2.2.2.2.2 bt450.2.1 bt450.2.2.1 bt450.2.2.2.1 bt450.2.2.2.2.1 bt450.2.2.2.2.2.1 bt450.2.2.2.2.2.2.1 bt450.2.2.2.2.2.2.2.1 bt450.2.2.2.2.2.2.2.2.1 bt450.2.2.2.2.2.2.2.2.2) else (some false)))) else (some false)) = some r := H
          have A21 := Aside0.mk A210
          clear A210
          by_cases c22 : t420 = t430
          ·rw [if_pos c22] at H
           have c22b0 : (t420 == t430) = true := beq_iff_eq.mpr c22
           have c22b1 : (t420 != t430) = false := bne_eq_false_iff_eq.mpr c22
           clear c22
           replace H := Option.bind_eq_some_iff.mp H
           obtain ⟨⟨t440, t441, t442, t443, t444, t445, t446, t447, t448, t449⟩, A230, H⟩ := H
           replace H : ((flywheelref19_Aimd_State.f t431 t432 t433 t434 t435 t436 t437 t438 t439).bind fun bt450 => (if t440 = bt450.1 then (flywheellaw19_AimdPlays.l0 k1 l1 (wrap64 (x9_1 + 1)) t441 t442 t443 t444 t445 t446 t447 t448 t449 bt450.2.1 bt450.2.2.1 bt450.2.2.2.1 bt450.2.2.2.2.1 bt450.2.2.2.2.2.1 bt450.2.2.2.2.2.2.1 bt450.2.2.2.2.2.2.2.1 bt450.2.2.2.2.2.2.2.2.1 bt450.2.2.2.2.2.2.2.2.2) else (some false))) = some r := H
           have A23 := Aside0.mk A230
           clear A230
           replace H := Option.bind_eq_some_iff.mp H
           obtain ⟨⟨t450, t451, t452, t453, t454, t455, t456, t457, t458, t459⟩, A240, H⟩ := H
           replace H : (if t440 = t450 then (flywheellaw19_AimdPlays.l0 k1 l1 (wrap64 (x9_1 + 1)) t441 t442 t443 t444 t445 t446 t447 t448 t449 t451 t452 t453 t454 t455 t456 t457 t458 t459) else (some false)) = some r := H
           have A24 := Aside0.mk A240
           clear A240
           by_cases c25 : t440 = t450
           ·rw [if_pos c25] at H
            have c25b0 : (t440 == t450) = true := beq_iff_eq.mpr c25
            have c25b1 : (t440 != t450) = false := bne_eq_false_iff_eq.mpr c25
            clear c25
            have H' := Aside0.mk H
            clear H
            have p398 : 0 ≤ (x9_1 : Int) := of_decide_eq_true (by first | (with_reducible assumption) | assumption)
            have q398 : x9_1 < (l1.length : Int) := of_decide_eq_true (by first | (with_reducible assumption) | assumption)
            obtain ⟨ad398, e398, hx398_0, hx398_1, hx398_2, hx398_3⟩ := at_T34 HR1.out x9_1 p398 q398
            cases e398
            replace hx398_0 := (HB.out.cell (World.block_lt_of_cell? w _ hx398_0)).trans hx398_0
            replace hx398_1 := (HB.out.cell (World.block_lt_of_cell? w _ hx398_1)).trans hx398_1
            replace hx398_2 := (HB.out.cell (World.block_lt_of_cell? w _ hx398_2)).trans hx398_2
            replace hx398_3 := (HB.out.cell (World.block_lt_of_cell? w _ hx398_3)).trans hx398_3
            replace p398 := eq_true p398
            replace q398 := eq_true q398
            try go_wp2_with (first | ((with_reducible refine gate_dst (N := 10) rfl ?_); refine box_event ?hg (N := 10) ?hd (cs := #[.int .i64 0, .int .i64 0, .int .i64 0, .int .i64 0]) (t := 34) ?hr ?_; (case hd => rfl); (case hg => rfl); (case hr => first | (go_simp; done) | (go_simp; rfl)); intro gb399 hg w26 hbox hb; have n0_ := Aside0.mk (blk_below (g := gb375) (o := .cells #[.int .i64 a0_0, .int .i64 a0_1, .int .i64 a0_2] 23 (0, 0)) (by (with_reducible repeat (first | refine blk_drewN ?_ _ | refine blk_drew ?_ | refine blk_alloc ?_ _)); exact BK375.out) hb); have n1_ := Aside0.mk (IsS63.below (by repeat (first | (with_reducible first | exact HI385.out | apply IsS63.alloc | apply IsS63.drewN | apply IsS63.drew | apply IsS63.set_0 | apply IsS63.set_1 | apply IsS63.set_2 | apply IsS63.set_3 | apply IsS63.set_4 | apply IsS63.set_5 | apply IsS63.set_6 | apply IsS63.set_7 | apply IsS63.set_8 | refine IsS63.far ?_ NB385_375.out _) | exact HI385.out)) hb); have n2_ := Aside0.mk (IsS71.below (by repeat (first | (with_reducible first | exact HI396.out | apply IsS71.alloc | apply IsS71.drewN | apply IsS71.drew | apply IsS71.set_0 | apply IsS71.set_1 | apply IsS71.set_2 | apply IsS71.set_3 | apply IsS71.set_4 | apply IsS71.set_5 | apply IsS71.set_6 | apply IsS71.set_7 | apply IsS71.set_8 | refine IsS71.far ?_ NB396_375.out _) | exact HI396.out)) hb); have n3_ := Aside0.mk (below_step (by repeat (first | (with_reducible first | exact HB.out | apply below_alloc | apply pw_below_drewN | apply below_drew1 | refine below_set ?_ (IsS63.ge HI385.out) | refine below_set ?_ (IsS71.ge HI396.out) | refine below_set ?_ GE375.out) | exact HB.out)) hb); have n4_ := Aside0.mk (hbox); have n5_ := Aside0.mk ((by rw [hg]; exact (below_size (by repeat (first | (with_reducible first | exact HB.out | apply below_alloc | apply pw_below_drewN | apply below_drew1 | refine below_set ?_ (IsS63.ge HI385.out) | refine below_set ?_ (IsS71.ge HI396.out) | refine below_set ?_ GE375.out) | exact HB.out))) : w.heap.size ≤ gb399)); have n6_ := Aside0.mk ((by rw [hg]; exact (below_size (by repeat (first | (with_reducible first | exact HB.out | apply below_alloc | apply pw_below_drewN | apply below_drew1 | refine below_set ?_ (IsS63.ge HI385.out) | refine below_set ?_ (IsS71.ge HI396.out) | refine below_set ?_ GE375.out) | exact HB.out))) : w.heap.size ≤ gb399)); have n7_ := Aside0.mk ((by rw [hg]; exact Nat.ne_of_lt (blk_lt (g := gb375) (o := .cells #[.int .i64 a0_0, .int .i64 a0_1, .int .i64 a0_2] 23 (0, 0)) (by (with_reducible repeat (first | refine blk_drewN ?_ _ | refine blk_drew ?_ | refine blk_alloc ?_ _)); exact BK375.out)) : gb375 ≠ gb399)); have n8_ := Aside0.mk ((by rw [hg]; exact Nat.ne_of_gt (blk_lt (g := gb375) (o := .cells #[.int .i64 a0_0, .int .i64 a0_1, .int .i64 a0_2] 23 (0, 0)) (by (with_reducible repeat (first | refine blk_drewN ?_ _ | refine blk_drew ?_ | refine blk_alloc ?_ _)); exact BK375.out)) : gb399 ≠ gb375)); have n9_ := Aside0.mk ((by rw [hg]; exact Nat.ne_of_lt (IsS63.lt (show IsS63 w _ g385 x386000_1 x386001_1 x386002_1 x386003_1 x386004_1 x386005_1 x386006_1 x386007_1 x386008_1 from by repeat (first | (with_reducible first | exact HI385.out | apply IsS63.alloc | apply IsS63.drewN | apply IsS63.drew | apply IsS63.set_0 | apply IsS63.set_1 | apply IsS63.set_2 | apply IsS63.set_3 | apply IsS63.set_4 | apply IsS63.set_5 | apply IsS63.set_6 | apply IsS63.set_7 | apply IsS63.set_8 | refine IsS63.far ?_ NB385_375.out _) | exact HI385.out))) : g385 ≠ gb399)); have n10_ := Aside0.mk ((by rw [hg]; exact Nat.ne_of_gt (IsS63.lt (show IsS63 w _ g385 x386000_1 x386001_1 x386002_1 x386003_1 x386004_1 x386005_1 x386006_1 x386007_1 x386008_1 from by repeat (first | (with_reducible first | exact HI385.out | apply IsS63.alloc | apply IsS63.drewN | apply IsS63.drew | apply IsS63.set_0 | apply IsS63.set_1 | apply IsS63.set_2 | apply IsS63.set_3 | apply IsS63.set_4 | apply IsS63.set_5 | apply IsS63.set_6 | apply IsS63.set_7 | apply IsS63.set_8 | refine IsS63.far ?_ NB385_375.out _) | exact HI385.out))) : gb399 ≠ g385)); have n11_ := Aside0.mk ((by rw [hg]; exact Nat.ne_of_lt (IsS71.lt (show IsS71 w _ g396 x397000_1 x397001_1 x397002_1 x397003_1 x397004_1 x397005_1 x397006_1 x397007_1 x397008_1 from by repeat (first | (with_reducible first | exact HI396.out | apply IsS71.alloc | apply IsS71.drewN | apply IsS71.drew | apply IsS71.set_0 | apply IsS71.set_1 | apply IsS71.set_2 | apply IsS71.set_3 | apply IsS71.set_4 | apply IsS71.set_5 | apply IsS71.set_6 | apply IsS71.set_7 | apply IsS71.set_8 | refine IsS71.far ?_ NB396_375.out _) | exact HI396.out))) : g396 ≠ gb399)); have n12_ := Aside0.mk ((by rw [hg]; exact Nat.ne_of_gt (IsS71.lt (show IsS71 w _ g396 x397000_1 x397001_1 x397002_1 x397003_1 x397004_1 x397005_1 x397006_1 x397007_1 x397008_1 from by repeat (first | (with_reducible first | exact HI396.out | apply IsS71.alloc | apply IsS71.drewN | apply IsS71.drew | apply IsS71.set_0 | apply IsS71.set_1 | apply IsS71.set_2 | apply IsS71.set_3 | apply IsS71.set_4 | apply IsS71.set_5 | apply IsS71.set_6 | apply IsS71.set_7 | apply IsS71.set_8 | refine IsS71.far ?_ NB396_375.out _) | exact HI396.out))) : gb399 ≠ g396)); clear BK375; clear HI385; clear HI396; clear HB; have BK375 := n0_; have HI385 := n1_; have HI396 := n2_; have HB := n3_; have BK399 := n4_; have GW399 := n5_; have GE399 := n6_; have NB375_399 := n7_; have NB399_375 := n8_; have NB385_399 := n9_; have NB399_385 := n10_; have NB396_399 := n11_; have NB399_396 := n12_; clear n0_ n1_ n2_ n3_ n4_ n5_ n6_ n7_ n8_ n9_ n10_ n11_ n12_; clear hb hbox hg; have hnb27 := NB399_375.out; have hnc27 := NB375_399.out; have hnb28 := NB399_385.out; have hnc28 := NB385_399.out; have hnb29 := NB399_396.out; have hnc29 := NB396_399.out; have hcz30_0 : w26.cell? ⟨gb399, 0, none⟩ = some (.int .i64 0) := (blk_cell BK399.out 0).trans rfl; have hcz30_1 : w26.cell? ⟨gb399, 1, none⟩ = some (.int .i64 0) := (blk_cell BK399.out 1).trans rfl; have hcz30_2 : w26.cell? ⟨gb399, 2, none⟩ = some (.int .i64 0) := (blk_cell BK399.out 2).trans rfl; have hcz30_3 : w26.cell? ⟨gb399, 3, none⟩ = some (.int .i64 0) := (blk_cell BK399.out 3).trans rfl; have hfz30_0 := blk_frozen BK399.out 0; have hfz30_1 := blk_frozen BK399.out 1; have hfz30_2 := blk_frozen BK399.out 2; have hfz30_3 := blk_frozen BK399.out 3))
            have n0_ : Aside0 (((((w26.setCell ⟨gb399, 0, none⟩ (.int .i64 ((rd_T34 l1 x9_1).f0))).setCell ⟨gb399, 1, none⟩ (.int .i64 ((rd_T34 l1 x9_1).f1))).setCell ⟨gb399, 2, none⟩ (.int .i64 ((rd_T34 l1 x9_1).f2))).setCell ⟨gb399, 3, none⟩ (.int .i64 ((rd_T34 l1 x9_1).f3))).heap[gb375]? = some (.cells #[.int .i64 a0_0, .int .i64 a0_1, .int .i64 a0_2] 23 (0, 0))) := ⟨by (with_reducible repeat (first | refine blk_drewN ?_ _ | refine blk_drew ?_ | refine blk_alloc ?_ _)); refine blk_far ?_ NB375_399.out _; (with_reducible repeat (first | refine blk_drewN ?_ _ | refine blk_drew ?_ | refine blk_alloc ?_ _)); refine blk_far ?_ NB375_399.out _; (with_reducible repeat (first | refine blk_drewN ?_ _ | refine blk_drew ?_ | refine blk_alloc ?_ _)); refine blk_far ?_ NB375_399.out _; (with_reducible repeat (first | refine blk_drewN ?_ _ | refine blk_drew ?_ | refine blk_alloc ?_ _)); refine blk_far ?_ NB375_399.out _; (with_reducible repeat (first | refine blk_drewN ?_ _ | refine blk_drew ?_ | refine blk_alloc ?_ _)); exact BK375.out⟩
            have n1_ : Aside0 (((((w26.setCell ⟨gb399, 0, none⟩ (.int .i64 ((rd_T34 l1 x9_1).f0))).setCell ⟨gb399, 1, none⟩ (.int .i64 ((rd_T34 l1 x9_1).f1))).setCell ⟨gb399, 2, none⟩ (.int .i64 ((rd_T34 l1 x9_1).f2))).setCell ⟨gb399, 3, none⟩ (.int .i64 ((rd_T34 l1 x9_1).f3))).heap[gb399]? = some (.cells #[.int .i64 ((rd_T34 l1 x9_1).f0), .int .i64 ((rd_T34 l1 x9_1).f1), .int .i64 ((rd_T34 l1 x9_1).f2), .int .i64 ((rd_T34 l1 x9_1).f3)] 34 (0, 0))) := ⟨by (with_reducible repeat (first | refine blk_drewN ?_ _ | refine blk_drew ?_ | refine blk_alloc ?_ _)); refine blk_put (cs := #[.int .i64 ((rd_T34 l1 x9_1).f0), .int .i64 ((rd_T34 l1 x9_1).f1), .int .i64 ((rd_T34 l1 x9_1).f2), .int .i64 0]) ?_ 3 _ rfl; (with_reducible repeat (first | refine blk_drewN ?_ _ | refine blk_drew ?_ | refine blk_alloc ?_ _)); refine blk_put (cs := #[.int .i64 ((rd_T34 l1 x9_1).f0), .int .i64 ((rd_T34 l1 x9_1).f1), .int .i64 0, .int .i64 0]) ?_ 2 _ rfl; (with_reducible repeat (first | refine blk_drewN ?_ _ | refine blk_drew ?_ | refine blk_alloc ?_ _)); refine blk_put (cs := #[.int .i64 ((rd_T34 l1 x9_1).f0), .int .i64 0, .int .i64 0, .int .i64 0]) ?_ 1 _ rfl; (with_reducible repeat (first | refine blk_drewN ?_ _ | refine blk_drew ?_ | refine blk_alloc ?_ _)); refine blk_put (cs := #[.int .i64 0, .int .i64 0, .int .i64 0, .int .i64 0]) ?_ 0 _ rfl; (with_reducible repeat (first | refine blk_drewN ?_ _ | refine blk_drew ?_ | refine blk_alloc ?_ _)); exact BK399.out⟩
            have n2_ : Aside0 (IsS63 w ((((w26.setCell ⟨gb399, 0, none⟩ (.int .i64 ((rd_T34 l1 x9_1).f0))).setCell ⟨gb399, 1, none⟩ (.int .i64 ((rd_T34 l1 x9_1).f1))).setCell ⟨gb399, 2, none⟩ (.int .i64 ((rd_T34 l1 x9_1).f2))).setCell ⟨gb399, 3, none⟩ (.int .i64 ((rd_T34 l1 x9_1).f3))) g385 x386000_1 x386001_1 x386002_1 x386003_1 x386004_1 x386005_1 x386006_1 x386007_1 x386008_1) := ⟨by repeat (first | (with_reducible first | exact HI385.out | apply IsS63.alloc | apply IsS63.drewN | apply IsS63.drew | apply IsS63.set_0 | apply IsS63.set_1 | apply IsS63.set_2 | apply IsS63.set_3 | apply IsS63.set_4 | apply IsS63.set_5 | apply IsS63.set_6 | apply IsS63.set_7 | apply IsS63.set_8 | refine IsS63.far ?_ NB385_375.out _ | refine IsS63.far ?_ NB385_399.out _) | exact HI385.out)⟩
            have n3_ : Aside0 (IsS71 w ((((w26.setCell ⟨gb399, 0, none⟩ (.int .i64 ((rd_T34 l1 x9_1).f0))).setCell ⟨gb399, 1, none⟩ (.int .i64 ((rd_T34 l1 x9_1).f1))).setCell ⟨gb399, 2, none⟩ (.int .i64 ((rd_T34 l1 x9_1).f2))).setCell ⟨gb399, 3, none⟩ (.int .i64 ((rd_T34 l1 x9_1).f3))) g396 x397000_1 x397001_1 x397002_1 x397003_1 x397004_1 x397005_1 x397006_1 x397007_1 x397008_1) := ⟨by repeat (first | (with_reducible first | exact HI396.out | apply IsS71.alloc | apply IsS71.drewN | apply IsS71.drew | apply IsS71.set_0 | apply IsS71.set_1 | apply IsS71.set_2 | apply IsS71.set_3 | apply IsS71.set_4 | apply IsS71.set_5 | apply IsS71.set_6 | apply IsS71.set_7 | apply IsS71.set_8 | refine IsS71.far ?_ NB396_375.out _ | refine IsS71.far ?_ NB396_399.out _) | exact HI396.out)⟩
            have n4_ : Aside0 (Below w.heap.size w ((((w26.setCell ⟨gb399, 0, none⟩ (.int .i64 ((rd_T34 l1 x9_1).f0))).setCell ⟨gb399, 1, none⟩ (.int .i64 ((rd_T34 l1 x9_1).f1))).setCell ⟨gb399, 2, none⟩ (.int .i64 ((rd_T34 l1 x9_1).f2))).setCell ⟨gb399, 3, none⟩ (.int .i64 ((rd_T34 l1 x9_1).f3)))) := ⟨by repeat (first | (with_reducible first | exact HB.out | apply below_alloc | apply pw_below_drewN | apply below_drew1 | refine below_set ?_ (IsS63.ge HI385.out) | refine below_set ?_ (IsS71.ge HI396.out) | refine below_set ?_ GE375.out | refine below_set ?_ GE399.out) | exact HB.out)⟩
            (try clear BK375)
            (try clear BK399)
            (try clear HI385)
            (try clear HI396)
            (try clear HB)
            generalize ((((w26.setCell ⟨gb399, 0, none⟩ (.int .i64 ((rd_T34 l1 x9_1).f0))).setCell ⟨gb399, 1, none⟩ (.int .i64 ((rd_T34 l1 x9_1).f1))).setCell ⟨gb399, 2, none⟩ (.int .i64 ((rd_T34 l1 x9_1).f2))).setCell ⟨gb399, 3, none⟩ (.int .i64 ((rd_T34 l1 x9_1).f3))) = w31 at n0_ n1_ n2_ n3_ n4_ ⊢
            have BK375 := n0_
            have BK399 := n1_
            have HI385 := n2_
            have HI396 := n3_
            have HB := n4_
            clear n0_ n1_ n2_ n3_ n4_
            have n0_ := Aside0.mk (blk_drew BK375.out)
            have n1_ := Aside0.mk (blk_drew BK399.out)
            have n2_ := Aside0.mk (IsS63.drew HI385.out)
            have n3_ := Aside0.mk (IsS71.drew HI396.out)
            have n4_ := Aside0.mk (below_drew1 HB.out)
            clear BK375
            clear BK399
            clear HI385
            clear HI396
            clear HB
            have BK375 := n0_
            have BK399 := n1_
            have HI385 := n2_
            have HI396 := n3_
            have HB := n4_
            clear n0_ n1_ n2_ n3_ n4_
            refine start_ (n := 35) (S := fun w' => w'.cell? ⟨gb399, 0, none⟩ = some (.int .i64 ((rd_T34 l1 x9_1).f0)) ∧ w'.cell? ⟨gb399, 1, none⟩ = some (.int .i64 ((rd_T34 l1 x9_1).f1)) ∧ w'.cell? ⟨gb399, 2, none⟩ = some (.int .i64 ((rd_T34 l1 x9_1).f2)) ∧ w'.cell? ⟨gb399, 3, none⟩ = some (.int .i64 ((rd_T34 l1 x9_1).f3))) (ds := []) #[false, false, false, false, false, false, false, false, false, false, false, false, false, false, false, false, false, false, false, false, false, false, false, false, false, false, false, false, false, false, false, false, false, false, false] (by kernel_rfl) rfl rfl ⟨(blk_cell BK399.out 0).trans rfl, (blk_cell BK399.out 1).trans rfl, (blk_cell BK399.out 2).trans rfl, (blk_cell BK399.out 3).trans rfl⟩ (fun hHeld => ?_); refine with_tabW flywheellaw19_AimdPlays.tab9 flywheellaw19_AimdPlays.bits9 (fun HT_ HW_ => ?_)
            generalize w31.drew = w32 at BK375 BK399 HI385 HI396 HB hHeld ⊢
            refine pure_ (i := 0) (N := some 59) (v := ?_) (a' := ?_) (bl 35 1) rfl rfl (any_of HT_.out (by kernel_rfl)) (fun _ _ _ h => h) (Or.inl ⟨by rfl, ?_⟩) ?_ ?_
            rotate_left
            ·intro w'
             go_simp
             with_reducible rfl
            rotate_left
            ·simp only [puts_]
             rfl
            refine pure_ (i := 1) (N := some 60) (v := ?_) (a' := ?_) (bl 35 3) rfl rfl (any_of HT_.out (by kernel_rfl)) (fun _ _ _ h => h) (Or.inl ⟨by rfl, ?_⟩) ?_ ?_
            rotate_left
            ·intro w'
             go_simp
             with_reducible rfl
            rotate_left
            ·simp only [puts_]
             rfl
            refine pure_ (i := 3) (N := some 62) (v := ?_) (a' := ?_) (bl 35 11) rfl rfl (any_of HT_.out (by kernel_rfl)) (fun _ _ _ h => h) (Or.inl ⟨by rfl, ?_⟩) ?_ ?_
            rotate_left
            ·intro w'
             go_simp
             with_reducible rfl
            rotate_left
            ·simp only [puts_]
             rfl
            refine pure_ (i := 5) (N := some 64) (v := ?_) (a' := ?_) (bl 35 43) rfl rfl (any_of HT_.out (by kernel_rfl)) (fun _ _ _ h => h) (Or.inl ⟨by rfl, ?_⟩) ?_ ?_
            rotate_left
            ·intro w'
             go_simp
             with_reducible rfl
            rotate_left
            ·simp only [puts_]
             rfl
            refine pure_ (i := 7) (N := some 66) (v := ?_) (a' := ?_) (bl 35 171) rfl rfl (any_of HT_.out (by kernel_rfl)) (fun _ _ _ h => h) (Or.inl ⟨by rfl, ?_⟩) ?_ ?_
            rotate_left
            ·intro w'
             go_simp
             with_reducible rfl
            rotate_left
            ·simp only [puts_]
             rfl
            refine pure_ (i := 10) (N := some 69) (v := ?_) (a' := ?_) (bl 35 1195) rfl rfl (any_of HT_.out (by kernel_rfl)) (fun _ _ _ h => h) (Or.inl ⟨by rfl, ?_⟩) ?_ ?_
            rotate_left
            ·intro w'
             go_simp
             with_reducible rfl
            rotate_left
            ·simp only [puts_]
             rfl
            refine pure_ (i := 11) (N := some 70) (v := ?_) (a' := ?_) (bl 35 3243) rfl rfl (any_of HT_.out (by kernel_rfl)) (fun _ _ _ h => h) (Or.inl ⟨by rfl, ?_⟩) ?_ ?_
            rotate_left
            ·intro w'
             go_simp
             with_reducible rfl
            rotate_left
            ·simp only [puts_]
             rfl
            refine pure_ (i := 13) (N := some 72) (v := ?_) (a' := ?_) (bl 35 11435) rfl rfl (any_of HT_.out (by kernel_rfl)) (fun _ _ _ h => h) (Or.inl ⟨by rfl, ?_⟩) ?_ ?_
            rotate_left
            ·intro w'
             go_simp
             with_reducible rfl
            rotate_left
            ·simp only [puts_]
             rfl
            refine pure_ (i := 15) (N := some 74) (v := ?_) (a' := ?_) (bl 35 44203) rfl rfl (any_of HT_.out (by kernel_rfl)) (fun _ _ _ h => h) (Or.inl ⟨by rfl, ?_⟩) ?_ ?_
            rotate_left
            ·intro w'
             go_simp
             with_reducible rfl
            rotate_left
            ·simp only [puts_]
             rfl
            refine pure_ (i := 17) (N := some 76) (v := ?_) (a' := ?_) (bl 35 175275) rfl rfl (any_of HT_.out (by kernel_rfl)) (fun _ _ _ h => h) (Or.inl ⟨by rfl, ?_⟩) ?_ ?_
            rotate_left
            ·intro w'
             go_simp
             with_reducible rfl
            rotate_left
            ·simp only [puts_]
             rfl
            refine take_ (i := 2) (N := some 61) (v := ?_) (a' := ?_) (bl 35 175279) rfl rfl (take_ofW HT_.out HW_.out (by kernel_rfl)) (fun _ _ _ h => h) (Or.inl ⟨by rfl, ?_⟩) hHeld ?_ ?_
            rotate_left
            ·rintro w' ⟨s0, s1, s2, s3⟩
             go_simp
             with_reducible rfl
            rotate_left
            ·simp only [puts_]
             rfl
            refine take_ (i := 4) (N := some 63) (v := ?_) (a' := ?_) (bl 35 175295) rfl rfl (take_ofW HT_.out HW_.out (by kernel_rfl)) (fun _ _ _ h => h) (Or.inl ⟨by rfl, ?_⟩) hHeld ?_ ?_
            rotate_left
            ·rintro w' ⟨s0, s1, s2, s3⟩
             go_simp
             with_reducible rfl
            rotate_left
            ·simp only [puts_]
             rfl
            refine take_ (i := 6) (N := some 65) (v := ?_) (a' := ?_) (bl 35 175359) rfl rfl (take_ofW HT_.out HW_.out (by kernel_rfl)) (fun _ _ _ h => h) (Or.inl ⟨by rfl, ?_⟩) hHeld ?_ ?_
            rotate_left
            ·rintro w' ⟨s0, s1, s2, s3⟩
             go_simp
             with_reducible rfl
            rotate_left
            ·simp only [puts_]
             rfl
            refine take_ (i := 8) (N := some 67) (v := ?_) (a' := ?_) (bl 35 175615) rfl rfl (take_ofW HT_.out HW_.out (by kernel_rfl)) (fun _ _ _ h => h) (Or.inl ⟨by rfl, ?_⟩) hHeld ?_ ?_
            rotate_left
            ·rintro w' ⟨s0, s1, s2, s3⟩
             go_simp
             with_reducible rfl
            rotate_left
            ·simp only [puts_]
             rfl
            refine take_ (i := 12) (N := some 71) (v := ?_) (a' := ?_) (bl 35 179711) rfl rfl (take_ofW HT_.out HW_.out (by kernel_rfl)) (fun _ _ _ h => h) (Or.inl ⟨by rfl, ?_⟩) hHeld ?_ ?_
            rotate_left
            ·rintro w' ⟨s0, s1, s2, s3⟩
             go_simp
             with_reducible rfl
            rotate_left
            ·simp only [puts_]
             rfl
            refine take_ (i := 14) (N := some 73) (v := ?_) (a' := ?_) (bl 35 196095) rfl rfl (take_ofW HT_.out HW_.out (by kernel_rfl)) (fun _ _ _ h => h) (Or.inl ⟨by rfl, ?_⟩) hHeld ?_ ?_
            rotate_left
            ·rintro w' ⟨s0, s1, s2, s3⟩
             go_simp
             with_reducible rfl
            rotate_left
            ·simp only [puts_]
             rfl
            refine take_ (i := 16) (N := some 75) (v := ?_) (a' := ?_) (bl 35 261631) rfl rfl (take_ofW HT_.out HW_.out (by kernel_rfl)) (fun _ _ _ h => h) (Or.inl ⟨by rfl, ?_⟩) hHeld ?_ ?_
            rotate_left
            ·rintro w' ⟨s0, s1, s2, s3⟩
             go_simp
             with_reducible rfl
            rotate_left
            ·simp only [puts_]
             rfl
            refine take_ (i := 18) (N := some 77) (v := ?_) (a' := ?_) (bl 35 523775) rfl rfl (take_ofW HT_.out HW_.out (by kernel_rfl)) (fun _ _ _ h => h) (Or.inl ⟨by rfl, ?_⟩) hHeld ?_ ?_
            rotate_left
            ·rintro w' ⟨s0, s1, s2, s3⟩
             go_simp
             with_reducible rfl
            rotate_left
            ·simp only [puts_]
             rfl
            refine one_ (i := 9) (N := some 68) (bl 35 524287) rfl rfl (one_of HT_.out (by kernel_rfl)) (by decide) (fun K hK => ?_)
            refine goes_ Try.func18 (by kernel_rfl) rfl #[.pointer (some ⟨g385, 0, none⟩), .int .i64 ((rd_T34 l1 x9_1).f0), .int .i64 ((rd_T34 l1 x9_1).f1), .int .i64 ((rd_T34 l1 x9_1).f2), .int .i64 ((rd_T34 l1 x9_1).f3)] (by rfl) rfl rfl (by (try simp only [List.map_toArray, List.map_cons, List.map_nil]); first | done | rfl | (simp only [List.length_drop, List.length_take]; rfl)) ?_
            with_reducible refine (aimd_Aimd_Update.calls k1 g385 x386000_1 x386001_1 x386002_1 x386003_1 x386004_1 x386005_1 x386006_1 x386007_1 x386008_1 ((rd_T34 l1 x9_1).f0) ((rd_T34 l1 x9_1).f1) ((rd_T34 l1 x9_1).f2) ((rd_T34 l1 x9_1).f3) t400 t401 t402 t403 t404 t405 t406 t407 t408 t409 w _ ?side1 ?side2 A17.out).mono ?_
            (case side1 => repeat (first | (with_reducible first | exact HI385.out | apply IsS63.alloc | apply IsS63.drewN | apply IsS63.drew | apply IsS63.set_0 | apply IsS63.set_1 | apply IsS63.set_2 | apply IsS63.set_3 | apply IsS63.set_4 | apply IsS63.set_5 | apply IsS63.set_6 | apply IsS63.set_7 | apply IsS63.set_8 | refine IsS63.far ?_ NB385_375.out _ | refine IsS63.far ?_ NB385_399.out _) | exact HI385.out))
            (case side2 => repeat (first | (with_reducible first | exact HB.out | apply below_alloc | apply pw_below_drewN | apply below_drew1 | refine below_set ?_ (IsS63.ge HI385.out) | refine below_set ?_ (IsS71.ge HI396.out) | refine below_set ?_ GE375.out | refine below_set ?_ GE399.out) | exact HB.out))
            rintro e w33 ⟨rfl, hi, hb, hk⟩
            refine ⟨_, rfl, ?_⟩
            have n0_ := Aside0.mk (KeepBut.blk hk (g' := gb375) (o := .cells #[.int .i64 a0_0, .int .i64 a0_1, .int .i64 a0_2] 23 (0, 0)) (by (with_reducible repeat (first | refine blk_drewN ?_ _ | refine blk_drew ?_ | refine blk_alloc ?_ _)); exact BK375.out) NB375_385.out (by simp))
            have n1_ := Aside0.mk (IsS71.keepS (by repeat (first | (with_reducible first | exact HI396.out | apply IsS71.alloc | apply IsS71.drewN | apply IsS71.drew | apply IsS71.set_0 | apply IsS71.set_1 | apply IsS71.set_2 | apply IsS71.set_3 | apply IsS71.set_4 | apply IsS71.set_5 | apply IsS71.set_6 | apply IsS71.set_7 | apply IsS71.set_8 | refine IsS71.far ?_ NB396_375.out _ | refine IsS71.far ?_ NB396_399.out _) | exact HI396.out)) hk NB396_385.out)
            have n2_ := Aside0.mk (KeepBut.blk hk (g' := gb399) (o := .cells #[.int .i64 ((rd_T34 l1 x9_1).f0), .int .i64 ((rd_T34 l1 x9_1).f1), .int .i64 ((rd_T34 l1 x9_1).f2), .int .i64 ((rd_T34 l1 x9_1).f3)] 34 (0, 0)) (by (with_reducible repeat (first | refine blk_drewN ?_ _ | refine blk_drew ?_ | refine blk_alloc ?_ _)); exact BK399.out) NB399_385.out (by simp))
            have n3_ := Aside0.mk (hb)
            have n4_ := Aside0.mk (hi)
            clear BK375
            clear HI396
            clear BK399
            clear HB
            clear HI385
            have BK375 := n0_
            have HI396 := n1_
            have BK399 := n2_
            have HB := n3_
            have HI385 := n4_
            clear n0_ n1_ n2_ n3_ n4_
            (try clear hb)
            (try clear hb2)
            (try clear hk)
            (try clear hi)
            refine hK.out _ _ ⟨(blk_cell BK399.out 0).trans rfl, (blk_cell BK399.out 1).trans rfl, (blk_cell BK399.out 2).trans rfl, (blk_cell BK399.out 3).trans rfl⟩ (fun hHeld => ?_)
            clear hK K
            refine norm_ (a' := ?_) ?_ ?_
            rotate_left
            ·show Act.put _ (some 68) _ = _
             simp only [puts_]
             rfl
            refine one_ (i := 19) (N := some 78) (bl 35 1048575) rfl rfl (one_of HT_.out (by kernel_rfl)) (by decide) (fun K hK => ?_)
            refine goes_ Try.func21 (by kernel_rfl) rfl #[.pointer (some ⟨g396, 0, none⟩), .int .i64 ((rd_T34 l1 x9_1).f0), .int .i64 ((rd_T34 l1 x9_1).f1), .int .i64 ((rd_T34 l1 x9_1).f2), .int .i64 ((rd_T34 l1 x9_1).f3)] (by rfl) rfl rfl (by (try simp only [List.map_toArray, List.map_cons, List.map_nil]); first | done | rfl | (simp only [List.length_drop, List.length_take]; rfl)) ?_
            with_reducible refine (flywheelref19_Aimd_Update.calls k1 g396 x397000_1 x397001_1 x397002_1 x397003_1 x397004_1 x397005_1 x397006_1 x397007_1 x397008_1 ((rd_T34 l1 x9_1).f0) ((rd_T34 l1 x9_1).f1) ((rd_T34 l1 x9_1).f2) ((rd_T34 l1 x9_1).f3) t410 t411 t412 t413 t414 t415 t416 t417 t418 t419 w _ ?side1 ?side2 A18.out).mono ?_
            (case side1 => repeat (first | (with_reducible first | exact HI396.out | apply IsS71.alloc | apply IsS71.drewN | apply IsS71.drew | apply IsS71.set_0 | apply IsS71.set_1 | apply IsS71.set_2 | apply IsS71.set_3 | apply IsS71.set_4 | apply IsS71.set_5 | apply IsS71.set_6 | apply IsS71.set_7 | apply IsS71.set_8 | refine IsS71.far ?_ NB396_375.out _ | refine IsS71.far ?_ NB396_399.out _) | exact HI396.out))
            (case side2 => repeat (first | (with_reducible first | exact HB.out | apply below_alloc | apply pw_below_drewN | apply below_drew1 | refine below_set ?_ (IsS63.ge HI385.out) | refine below_set ?_ (IsS71.ge HI396.out) | refine below_set ?_ GE375.out | refine below_set ?_ GE399.out) | exact HB.out))
            rintro e w34 ⟨rfl, hi, hb, hk⟩
            refine ⟨_, rfl, ?_⟩
            have n0_ := Aside0.mk (KeepBut.blk hk (g' := gb375) (o := .cells #[.int .i64 a0_0, .int .i64 a0_1, .int .i64 a0_2] 23 (0, 0)) (by (with_reducible repeat (first | refine blk_drewN ?_ _ | refine blk_drew ?_ | refine blk_alloc ?_ _)); exact BK375.out) NB375_396.out (by simp))
            have n1_ := Aside0.mk (IsS63.keepS (by repeat (first | (with_reducible first | exact HI385.out | apply IsS63.alloc | apply IsS63.drewN | apply IsS63.drew | apply IsS63.set_0 | apply IsS63.set_1 | apply IsS63.set_2 | apply IsS63.set_3 | apply IsS63.set_4 | apply IsS63.set_5 | apply IsS63.set_6 | apply IsS63.set_7 | apply IsS63.set_8 | refine IsS63.far ?_ NB385_375.out _ | refine IsS63.far ?_ NB385_399.out _) | exact HI385.out)) hk NB385_396.out)
            have n2_ := Aside0.mk (KeepBut.blk hk (g' := gb399) (o := .cells #[.int .i64 ((rd_T34 l1 x9_1).f0), .int .i64 ((rd_T34 l1 x9_1).f1), .int .i64 ((rd_T34 l1 x9_1).f2), .int .i64 ((rd_T34 l1 x9_1).f3)] 34 (0, 0)) (by (with_reducible repeat (first | refine blk_drewN ?_ _ | refine blk_drew ?_ | refine blk_alloc ?_ _)); exact BK399.out) NB399_396.out (by simp))
            have n3_ := Aside0.mk (hb)
            have n4_ := Aside0.mk (hi)
            clear BK375
            clear HI385
            clear BK399
            clear HB
            clear HI396
            have BK375 := n0_
            have HI385 := n1_
            have BK399 := n2_
            have HB := n3_
            have HI396 := n4_
            clear n0_ n1_ n2_ n3_ n4_
            (try clear hb)
            (try clear hb2)
            (try clear hk)
            (try clear hi)
            refine hK.out _ _ ⟨(blk_cell BK399.out 0).trans rfl, (blk_cell BK399.out 1).trans rfl, (blk_cell BK399.out 2).trans rfl, (blk_cell BK399.out 3).trans rfl⟩ (fun hHeld => ?_)
            clear hK K
            refine norm_ (a' := ?_) ?_ ?_
            rotate_left
            ·show Act.put _ (some 78) _ = _
             simp only [puts_]
             rfl
            refine pure_ (i := 20) (N := some 79) (v := ?_) (a' := ?_) (bl 35 2097151) rfl rfl (any_of HT_.out (by kernel_rfl)) (fun _ _ _ h => h) (Or.inl ⟨by rfl, ?_⟩) ?_ ?_
            rotate_left
            ·intro w'
             go_simp
             with_reducible rfl
            rotate_left
            ·simp only [puts_]
             rfl
            refine pure_ (i := 21) (N := some 80) (v := ?_) (a' := ?_) (bl 35 4194303) rfl rfl (any_of HT_.out (by kernel_rfl)) (fun _ _ _ h => h) (Or.inl ⟨by rfl, ?_⟩) ?_ ?_
            rotate_left
            ·intro w'
             go_simp
             with_reducible rfl
            rotate_left
            ·simp only [puts_]
             rfl
            refine pure_ (i := 22) (N := some 81) (v := ?_) (a' := ?_) (bl 35 8388607) rfl rfl (any_of HT_.out (by kernel_rfl)) (fun _ _ _ h => h) (Or.inl ⟨by rfl, ?_⟩) ?_ ?_
            rotate_left
            ·intro w'
             go_simp
             with_reducible rfl
            rotate_left
            ·simp only [puts_]
             rfl
            refine pure_ (i := 24) (N := some 83) (v := ?_) (a' := ?_) (bl 35 25165823) rfl rfl (any_of HT_.out (by kernel_rfl)) (fun _ _ _ h => h) (Or.inl ⟨by rfl, ?_⟩) ?_ ?_
            rotate_left
            ·intro w'
             go_simp
             with_reducible rfl
            rotate_left
            ·simp only [puts_]
             rfl
            refine one_ (i := 23) (N := some 82) (bl 35 33554431) rfl rfl (one_of HT_.out (by kernel_rfl)) (by decide) (fun K hK => ?_)
            refine goes_ Try.func17 (by kernel_rfl) rfl #[.pointer (some ⟨g385, 0, none⟩)] (by rfl) rfl rfl (by (try simp only [List.map_toArray, List.map_cons, List.map_nil]); first | done | rfl | (simp only [List.length_drop, List.length_take]; rfl)) ?_
            with_reducible refine (aimd_Aimd_Rate.calls g385 t401 t402 t403 t404 t405 t406 t407 t408 t409 t420 t421 t422 t423 t424 t425 t426 t427 t428 t429 w _ ?side1 ?side2 A20.out).mono ?_
            (case side1 => repeat (first | (with_reducible first | exact HI385.out | apply IsS63.alloc | apply IsS63.drewN | apply IsS63.drew | apply IsS63.set_0 | apply IsS63.set_1 | apply IsS63.set_2 | apply IsS63.set_3 | apply IsS63.set_4 | apply IsS63.set_5 | apply IsS63.set_6 | apply IsS63.set_7 | apply IsS63.set_8 | refine IsS63.far ?_ NB385_375.out _ | refine IsS63.far ?_ NB385_399.out _) | exact HI385.out))
            (case side2 => repeat (first | (with_reducible first | exact HB.out | apply below_alloc | apply pw_below_drewN | apply below_drew1 | refine below_set ?_ (IsS63.ge HI385.out) | refine below_set ?_ (IsS71.ge HI396.out) | refine below_set ?_ GE375.out | refine below_set ?_ GE399.out) | exact HB.out))
            rintro e w35 ⟨rfl, hi, hb, hk⟩
            refine ⟨_, rfl, ?_⟩
            have n0_ := Aside0.mk (KeepBut.blk hk (g' := gb375) (o := .cells #[.int .i64 a0_0, .int .i64 a0_1, .int .i64 a0_2] 23 (0, 0)) (by (with_reducible repeat (first | refine blk_drewN ?_ _ | refine blk_drew ?_ | refine blk_alloc ?_ _)); exact BK375.out) NB375_385.out (by simp))
            have n1_ := Aside0.mk (IsS71.keepS (by repeat (first | (with_reducible first | exact HI396.out | apply IsS71.alloc | apply IsS71.drewN | apply IsS71.drew | apply IsS71.set_0 | apply IsS71.set_1 | apply IsS71.set_2 | apply IsS71.set_3 | apply IsS71.set_4 | apply IsS71.set_5 | apply IsS71.set_6 | apply IsS71.set_7 | apply IsS71.set_8 | refine IsS71.far ?_ NB396_375.out _ | refine IsS71.far ?_ NB396_399.out _) | exact HI396.out)) hk NB396_385.out)
            have n2_ := Aside0.mk (KeepBut.blk hk (g' := gb399) (o := .cells #[.int .i64 ((rd_T34 l1 x9_1).f0), .int .i64 ((rd_T34 l1 x9_1).f1), .int .i64 ((rd_T34 l1 x9_1).f2), .int .i64 ((rd_T34 l1 x9_1).f3)] 34 (0, 0)) (by (with_reducible repeat (first | refine blk_drewN ?_ _ | refine blk_drew ?_ | refine blk_alloc ?_ _)); exact BK399.out) NB399_385.out (by simp))
            have n3_ := Aside0.mk (hb)
            have n4_ := Aside0.mk (hi)
            clear BK375
            clear HI396
            clear BK399
            clear HB
            clear HI385
            have BK375 := n0_
            have HI396 := n1_
            have BK399 := n2_
            have HB := n3_
            have HI385 := n4_
            clear n0_ n1_ n2_ n3_ n4_
            (try clear hb)
            (try clear hb2)
            (try clear hk)
            (try clear hi)
            refine hK.out _ _ ⟨(blk_cell BK399.out 0).trans rfl, (blk_cell BK399.out 1).trans rfl, (blk_cell BK399.out 2).trans rfl, (blk_cell BK399.out 3).trans rfl⟩ (fun hHeld => ?_)
            clear hK K
            refine norm_ (a' := ?_) ?_ ?_
            rotate_left
            ·show Act.put _ (some 82) _ = _
             simp only [puts_]
             rfl
            refine one_ (i := 25) (N := some 84) (bl 35 67108863) rfl rfl (one_of HT_.out (by kernel_rfl)) (by decide) (fun K hK => ?_)
            refine goes_ Try.func22 (by kernel_rfl) rfl #[.pointer (some ⟨g396, 0, none⟩)] (by rfl) rfl rfl (by (try simp only [List.map_toArray, List.map_cons, List.map_nil]); first | done | rfl | (simp only [List.length_drop, List.length_take]; rfl)) ?_
            with_reducible refine (flywheelref19_Aimd_Rate.calls g396 t411 t412 t413 t414 t415 t416 t417 t418 t419 t430 t431 t432 t433 t434 t435 t436 t437 t438 t439 w _ ?side1 ?side2 A21.out).mono ?_
            (case side1 => repeat (first | (with_reducible first | exact HI396.out | apply IsS71.alloc | apply IsS71.drewN | apply IsS71.drew | apply IsS71.set_0 | apply IsS71.set_1 | apply IsS71.set_2 | apply IsS71.set_3 | apply IsS71.set_4 | apply IsS71.set_5 | apply IsS71.set_6 | apply IsS71.set_7 | apply IsS71.set_8 | refine IsS71.far ?_ NB396_375.out _ | refine IsS71.far ?_ NB396_399.out _) | exact HI396.out))
            (case side2 => repeat (first | (with_reducible first | exact HB.out | apply below_alloc | apply pw_below_drewN | apply below_drew1 | refine below_set ?_ (IsS63.ge HI385.out) | refine below_set ?_ (IsS71.ge HI396.out) | refine below_set ?_ GE375.out | refine below_set ?_ GE399.out) | exact HB.out))
            rintro e w36 ⟨rfl, hi, hb, hk⟩
            refine ⟨_, rfl, ?_⟩
            have n0_ := Aside0.mk (KeepBut.blk hk (g' := gb375) (o := .cells #[.int .i64 a0_0, .int .i64 a0_1, .int .i64 a0_2] 23 (0, 0)) (by (with_reducible repeat (first | refine blk_drewN ?_ _ | refine blk_drew ?_ | refine blk_alloc ?_ _)); exact BK375.out) NB375_396.out (by simp))
            have n1_ := Aside0.mk (IsS63.keepS (by repeat (first | (with_reducible first | exact HI385.out | apply IsS63.alloc | apply IsS63.drewN | apply IsS63.drew | apply IsS63.set_0 | apply IsS63.set_1 | apply IsS63.set_2 | apply IsS63.set_3 | apply IsS63.set_4 | apply IsS63.set_5 | apply IsS63.set_6 | apply IsS63.set_7 | apply IsS63.set_8 | refine IsS63.far ?_ NB385_375.out _ | refine IsS63.far ?_ NB385_399.out _) | exact HI385.out)) hk NB385_396.out)
            have n2_ := Aside0.mk (KeepBut.blk hk (g' := gb399) (o := .cells #[.int .i64 ((rd_T34 l1 x9_1).f0), .int .i64 ((rd_T34 l1 x9_1).f1), .int .i64 ((rd_T34 l1 x9_1).f2), .int .i64 ((rd_T34 l1 x9_1).f3)] 34 (0, 0)) (by (with_reducible repeat (first | refine blk_drewN ?_ _ | refine blk_drew ?_ | refine blk_alloc ?_ _)); exact BK399.out) NB399_396.out (by simp))
            have n3_ := Aside0.mk (hb)
            have n4_ := Aside0.mk (hi)
            clear BK375
            clear HI385
            clear BK399
            clear HB
            clear HI396
            have BK375 := n0_
            have HI385 := n1_
            have BK399 := n2_
            have HB := n3_
            have HI396 := n4_
            clear n0_ n1_ n2_ n3_ n4_
            (try clear hb)
            (try clear hb2)
            (try clear hk)
            (try clear hi)
            refine hK.out _ _ ⟨(blk_cell BK399.out 0).trans rfl, (blk_cell BK399.out 1).trans rfl, (blk_cell BK399.out 2).trans rfl, (blk_cell BK399.out 3).trans rfl⟩ (fun hHeld => ?_)
            clear hK K
            refine norm_ (a' := ?_) ?_ ?_
            rotate_left
            ·show Act.put _ (some 84) _ = _
             simp only [puts_]
             rfl
            refine pure_ (i := 26) (N := some 85) (v := ?_) (a' := ?_) (bl 35 134217727) rfl rfl (any_of HT_.out (by kernel_rfl)) (fun _ _ _ h => h) (Or.inl ⟨by rfl, ?_⟩) ?_ ?_
            rotate_left
            ·intro w'
             go_simp
             with_reducible rfl
            rotate_left
            ·simp only [puts_]
             rfl
            refine pure_ (i := 27) (N := some 86) (v := ?_) (a' := ?_) (bl 35 268435455) rfl rfl (any_of HT_.out (by kernel_rfl)) (fun _ _ _ h => h) (Or.inl ⟨by rfl, ?_⟩) ?_ ?_
            rotate_left
            ·intro w'
             go_simp
             with_reducible rfl
            rotate_left
            ·simp only [puts_]
             rfl
            refine pure_ (i := 28) (N := some 87) (v := ?_) (a' := ?_) (bl 35 536870911) rfl rfl (any_of HT_.out (by kernel_rfl)) (fun _ _ _ h => h) (Or.inl ⟨by rfl, ?_⟩) ?_ ?_
            rotate_left
            ·intro w'
             go_simp
             with_reducible rfl
            rotate_left
            ·simp only [puts_]
             rfl
            refine pure_ (i := 29) (N := some 88) (v := ?_) (a' := ?_) (bl 35 1073741823) rfl rfl (any_of HT_.out (by kernel_rfl)) (fun _ _ _ h => h) (Or.inl ⟨by rfl, ?_⟩) ?_ ?_
            rotate_left
            ·intro w'
             go_simp
             with_reducible rfl
            rotate_left
            ·simp only [puts_]
             rfl
            refine pure_ (i := 31) (N := some 90) (v := ?_) (a' := ?_) (bl 35 3221225471) rfl rfl (any_of HT_.out (by kernel_rfl)) (fun _ _ _ h => h) (Or.inl ⟨by rfl, ?_⟩) ?_ ?_
            rotate_left
            ·intro w'
             go_simp
             with_reducible rfl
            rotate_left
            ·simp only [puts_]
             rfl
            refine one_ (i := 30) (N := some 89) (bl 35 4294967295) rfl rfl (one_of HT_.out (by kernel_rfl)) (by decide) (fun K hK => ?_)
            refine goes_ Try.func23 (by kernel_rfl) rfl #[.pointer (some ⟨g385, 0, none⟩)] (by rfl) rfl rfl (by (try simp only [List.map_toArray, List.map_cons, List.map_nil]); first | done | rfl | (simp only [List.length_drop, List.length_take]; rfl)) ?_
            with_reducible refine (aimd_Aimd_State.calls g385 t421 t422 t423 t424 t425 t426 t427 t428 t429 t440 t441 t442 t443 t444 t445 t446 t447 t448 t449 w _ ?side1 ?side2 A23.out).mono ?_
            (case side1 => repeat (first | (with_reducible first | exact HI385.out | apply IsS63.alloc | apply IsS63.drewN | apply IsS63.drew | apply IsS63.set_0 | apply IsS63.set_1 | apply IsS63.set_2 | apply IsS63.set_3 | apply IsS63.set_4 | apply IsS63.set_5 | apply IsS63.set_6 | apply IsS63.set_7 | apply IsS63.set_8 | refine IsS63.far ?_ NB385_375.out _ | refine IsS63.far ?_ NB385_399.out _) | exact HI385.out))
            (case side2 => repeat (first | (with_reducible first | exact HB.out | apply below_alloc | apply pw_below_drewN | apply below_drew1 | refine below_set ?_ (IsS63.ge HI385.out) | refine below_set ?_ (IsS71.ge HI396.out) | refine below_set ?_ GE375.out | refine below_set ?_ GE399.out) | exact HB.out))
            rintro e w37 ⟨rfl, hi, hb, hk⟩
            refine ⟨_, rfl, ?_⟩
            have n0_ := Aside0.mk (KeepBut.blk hk (g' := gb375) (o := .cells #[.int .i64 a0_0, .int .i64 a0_1, .int .i64 a0_2] 23 (0, 0)) (by (with_reducible repeat (first | refine blk_drewN ?_ _ | refine blk_drew ?_ | refine blk_alloc ?_ _)); exact BK375.out) NB375_385.out (by simp))
            have n1_ := Aside0.mk (IsS71.keepS (by repeat (first | (with_reducible first | exact HI396.out | apply IsS71.alloc | apply IsS71.drewN | apply IsS71.drew | apply IsS71.set_0 | apply IsS71.set_1 | apply IsS71.set_2 | apply IsS71.set_3 | apply IsS71.set_4 | apply IsS71.set_5 | apply IsS71.set_6 | apply IsS71.set_7 | apply IsS71.set_8 | refine IsS71.far ?_ NB396_375.out _ | refine IsS71.far ?_ NB396_399.out _) | exact HI396.out)) hk NB396_385.out)
            have n2_ := Aside0.mk (KeepBut.blk hk (g' := gb399) (o := .cells #[.int .i64 ((rd_T34 l1 x9_1).f0), .int .i64 ((rd_T34 l1 x9_1).f1), .int .i64 ((rd_T34 l1 x9_1).f2), .int .i64 ((rd_T34 l1 x9_1).f3)] 34 (0, 0)) (by (with_reducible repeat (first | refine blk_drewN ?_ _ | refine blk_drew ?_ | refine blk_alloc ?_ _)); exact BK399.out) NB399_385.out (by simp))
            have n3_ := Aside0.mk (hb)
            have n4_ := Aside0.mk (hi)
            clear BK375
            clear HI396
            clear BK399
            clear HB
            clear HI385
            have BK375 := n0_
            have HI396 := n1_
            have BK399 := n2_
            have HB := n3_
            have HI385 := n4_
            clear n0_ n1_ n2_ n3_ n4_
            (try clear hb)
            (try clear hb2)
            (try clear hk)
            (try clear hi)
            refine hK.out _ _ ⟨(blk_cell BK399.out 0).trans rfl, (blk_cell BK399.out 1).trans rfl, (blk_cell BK399.out 2).trans rfl, (blk_cell BK399.out 3).trans rfl⟩ (fun hHeld => ?_)
            clear hK K
            refine norm_ (a' := ?_) ?_ ?_
            rotate_left
            ·show Act.put _ (some 89) _ = _
             simp only [puts_]
             rfl
            refine one_ (i := 32) (N := some 91) (bl 35 8589934591) rfl rfl (one_of HT_.out (by kernel_rfl)) (by decide) (fun K hK => ?_)
            refine goes_ Try.func24 (by kernel_rfl) rfl #[.pointer (some ⟨g396, 0, none⟩)] (by rfl) rfl rfl (by (try simp only [List.map_toArray, List.map_cons, List.map_nil]); first | done | rfl | (simp only [List.length_drop, List.length_take]; rfl)) ?_
            with_reducible refine (flywheelref19_Aimd_State.calls g396 t431 t432 t433 t434 t435 t436 t437 t438 t439 t450 t451 t452 t453 t454 t455 t456 t457 t458 t459 w _ ?side1 ?side2 A24.out).mono ?_
            (case side1 => repeat (first | (with_reducible first | exact HI396.out | apply IsS71.alloc | apply IsS71.drewN | apply IsS71.drew | apply IsS71.set_0 | apply IsS71.set_1 | apply IsS71.set_2 | apply IsS71.set_3 | apply IsS71.set_4 | apply IsS71.set_5 | apply IsS71.set_6 | apply IsS71.set_7 | apply IsS71.set_8 | refine IsS71.far ?_ NB396_375.out _ | refine IsS71.far ?_ NB396_399.out _) | exact HI396.out))
            (case side2 => repeat (first | (with_reducible first | exact HB.out | apply below_alloc | apply pw_below_drewN | apply below_drew1 | refine below_set ?_ (IsS63.ge HI385.out) | refine below_set ?_ (IsS71.ge HI396.out) | refine below_set ?_ GE375.out | refine below_set ?_ GE399.out) | exact HB.out))
            rintro e w38 ⟨rfl, hi, hb, hk⟩
            refine ⟨_, rfl, ?_⟩
            have n0_ := Aside0.mk (KeepBut.blk hk (g' := gb375) (o := .cells #[.int .i64 a0_0, .int .i64 a0_1, .int .i64 a0_2] 23 (0, 0)) (by (with_reducible repeat (first | refine blk_drewN ?_ _ | refine blk_drew ?_ | refine blk_alloc ?_ _)); exact BK375.out) NB375_396.out (by simp))
            have n1_ := Aside0.mk (IsS63.keepS (by repeat (first | (with_reducible first | exact HI385.out | apply IsS63.alloc | apply IsS63.drewN | apply IsS63.drew | apply IsS63.set_0 | apply IsS63.set_1 | apply IsS63.set_2 | apply IsS63.set_3 | apply IsS63.set_4 | apply IsS63.set_5 | apply IsS63.set_6 | apply IsS63.set_7 | apply IsS63.set_8 | refine IsS63.far ?_ NB385_375.out _ | refine IsS63.far ?_ NB385_399.out _) | exact HI385.out)) hk NB385_396.out)
            have n2_ := Aside0.mk (KeepBut.blk hk (g' := gb399) (o := .cells #[.int .i64 ((rd_T34 l1 x9_1).f0), .int .i64 ((rd_T34 l1 x9_1).f1), .int .i64 ((rd_T34 l1 x9_1).f2), .int .i64 ((rd_T34 l1 x9_1).f3)] 34 (0, 0)) (by (with_reducible repeat (first | refine blk_drewN ?_ _ | refine blk_drew ?_ | refine blk_alloc ?_ _)); exact BK399.out) NB399_396.out (by simp))
            have n3_ := Aside0.mk (hb)
            have n4_ := Aside0.mk (hi)
            clear BK375
            clear HI385
            clear BK399
            clear HB
            clear HI396
            have BK375 := n0_
            have HI385 := n1_
            have BK399 := n2_
            have HB := n3_
            have HI396 := n4_
            clear n0_ n1_ n2_ n3_ n4_
            (try clear hb)
            (try clear hb2)
            (try clear hk)
            (try clear hi)
            refine hK.out _ _ ⟨(blk_cell BK399.out 0).trans rfl, (blk_cell BK399.out 1).trans rfl, (blk_cell BK399.out 2).trans rfl, (blk_cell BK399.out 3).trans rfl⟩ (fun hHeld => ?_)
            clear hK K
            refine norm_ (a' := ?_) ?_ ?_
            rotate_left
            ·show Act.put _ (some 91) _ = _
             simp only [puts_]
             rfl
            refine pure_ (i := 33) (N := some 92) (v := ?_) (a' := ?_) (bl 35 17179869183) rfl rfl (any_of HT_.out (by kernel_rfl)) (fun _ _ _ h => h) (Or.inl ⟨by rfl, ?_⟩) ?_ ?_
            rotate_left
            ·intro w'
             go_simp
             with_reducible rfl
            rotate_left
            ·simp only [puts_]
             rfl
            refine pure_ (i := 34) (N := some 93) (v := ?_) (a' := ?_) (bl 35 34359738367) rfl rfl (any_of HT_.out (by kernel_rfl)) (fun _ _ _ h => h) (Or.inl ⟨by rfl, ?_⟩) ?_ ?_
            rotate_left
            ·intro w'
             go_simp
             with_reducible rfl
            rotate_left
            ·simp only [puts_]
             rfl
            refine done_ (done_of HT_.out (by kernel_rfl)) ?_
            try go_wp2
            go_roundg k1
            case measure => have := HK1.out; omega
            case rel => exact ⟨(wrap64 (x9_1 + 1)), (t441), (t442), (t443), (t444), (t445), (t446), (t447), (t448), (t449), (t451), (t452), (t453), (t454), (t455), (t456), (t457), (t458), (t459), (by first | rfl | (simp; done) | (simp [*]; done)), H', ⟨by have := HK1.out; omega⟩, ⟨by (with_reducible repeat (first | refine blk_drewN ?_ _ | refine blk_drew ?_ | refine blk_alloc ?_ _)); exact BK375.out⟩, ⟨by repeat (first | (with_reducible first | exact HI385.out | apply IsS63.alloc | apply IsS63.drewN | apply IsS63.drew | apply IsS63.set_0 | apply IsS63.set_1 | apply IsS63.set_2 | apply IsS63.set_3 | apply IsS63.set_4 | apply IsS63.set_5 | apply IsS63.set_6 | apply IsS63.set_7 | apply IsS63.set_8 | refine IsS63.far ?_ NB385_375.out _ | refine IsS63.far ?_ NB385_399.out _) | exact HI385.out)⟩, ⟨by repeat (first | (with_reducible first | exact HI396.out | apply IsS71.alloc | apply IsS71.drewN | apply IsS71.drew | apply IsS71.set_0 | apply IsS71.set_1 | apply IsS71.set_2 | apply IsS71.set_3 | apply IsS71.set_4 | apply IsS71.set_5 | apply IsS71.set_6 | apply IsS71.set_7 | apply IsS71.set_8 | refine IsS71.far ?_ NB396_375.out _ | refine IsS71.far ?_ NB396_399.out _) | exact HI396.out)⟩, ⟨by repeat (first | (with_reducible first | exact HB.out | apply below_alloc | apply pw_below_drewN | apply below_drew1 | refine below_set ?_ (IsS63.ge HI385.out) | refine below_set ?_ (IsS71.ge HI396.out) | refine below_set ?_ GE375.out | refine below_set ?_ GE399.out) | exact HB.out)⟩⟩
           ·rw [if_neg c25] at H
            have c25b0 : (t440 == t450) = false := beq_eq_false_iff_ne.mpr c25
            have c25b1 : (t440 != t450) = true := bne_iff_ne.mpr c25
            obtain rfl := Option.some.inj H
            have p398 : 0 ≤ (x9_1 : Int) := of_decide_eq_true (by first | (with_reducible assumption) | assumption)
            have q398 : x9_1 < (l1.length : Int) := of_decide_eq_true (by first | (with_reducible assumption) | assumption)
            obtain ⟨ad398, e398, hx398_0, hx398_1, hx398_2, hx398_3⟩ := at_T34 HR1.out x9_1 p398 q398
            cases e398
            replace hx398_0 := (HB.out.cell (World.block_lt_of_cell? w _ hx398_0)).trans hx398_0
            replace hx398_1 := (HB.out.cell (World.block_lt_of_cell? w _ hx398_1)).trans hx398_1
            replace hx398_2 := (HB.out.cell (World.block_lt_of_cell? w _ hx398_2)).trans hx398_2
            replace hx398_3 := (HB.out.cell (World.block_lt_of_cell? w _ hx398_3)).trans hx398_3
            replace p398 := eq_true p398
            replace q398 := eq_true q398
            try go_wp2_with (first | ((with_reducible refine gate_dst (N := 10) rfl ?_); refine box_event ?hg (N := 10) ?hd (cs := #[.int .i64 0, .int .i64 0, .int .i64 0, .int .i64 0]) (t := 34) ?hr ?_; (case hd => rfl); (case hg => rfl); (case hr => first | (go_simp; done) | (go_simp; rfl)); intro gb399 hg w39 hbox hb; have n0_ := Aside0.mk (blk_below (g := gb375) (o := .cells #[.int .i64 a0_0, .int .i64 a0_1, .int .i64 a0_2] 23 (0, 0)) (by (with_reducible repeat (first | refine blk_drewN ?_ _ | refine blk_drew ?_ | refine blk_alloc ?_ _)); exact BK375.out) hb); have n1_ := Aside0.mk (IsS63.below (by repeat (first | (with_reducible first | exact HI385.out | apply IsS63.alloc | apply IsS63.drewN | apply IsS63.drew | apply IsS63.set_0 | apply IsS63.set_1 | apply IsS63.set_2 | apply IsS63.set_3 | apply IsS63.set_4 | apply IsS63.set_5 | apply IsS63.set_6 | apply IsS63.set_7 | apply IsS63.set_8 | refine IsS63.far ?_ NB385_375.out _) | exact HI385.out)) hb); have n2_ := Aside0.mk (IsS71.below (by repeat (first | (with_reducible first | exact HI396.out | apply IsS71.alloc | apply IsS71.drewN | apply IsS71.drew | apply IsS71.set_0 | apply IsS71.set_1 | apply IsS71.set_2 | apply IsS71.set_3 | apply IsS71.set_4 | apply IsS71.set_5 | apply IsS71.set_6 | apply IsS71.set_7 | apply IsS71.set_8 | refine IsS71.far ?_ NB396_375.out _) | exact HI396.out)) hb); have n3_ := Aside0.mk (below_step (by repeat (first | (with_reducible first | exact HB.out | apply below_alloc | apply pw_below_drewN | apply below_drew1 | refine below_set ?_ (IsS63.ge HI385.out) | refine below_set ?_ (IsS71.ge HI396.out) | refine below_set ?_ GE375.out) | exact HB.out)) hb); have n4_ := Aside0.mk (hbox); have n5_ := Aside0.mk ((by rw [hg]; exact (below_size (by repeat (first | (with_reducible first | exact HB.out | apply below_alloc | apply pw_below_drewN | apply below_drew1 | refine below_set ?_ (IsS63.ge HI385.out) | refine below_set ?_ (IsS71.ge HI396.out) | refine below_set ?_ GE375.out) | exact HB.out))) : w.heap.size ≤ gb399)); have n6_ := Aside0.mk ((by rw [hg]; exact (below_size (by repeat (first | (with_reducible first | exact HB.out | apply below_alloc | apply pw_below_drewN | apply below_drew1 | refine below_set ?_ (IsS63.ge HI385.out) | refine below_set ?_ (IsS71.ge HI396.out) | refine below_set ?_ GE375.out) | exact HB.out))) : w.heap.size ≤ gb399)); have n7_ := Aside0.mk ((by rw [hg]; exact Nat.ne_of_lt (blk_lt (g := gb375) (o := .cells #[.int .i64 a0_0, .int .i64 a0_1, .int .i64 a0_2] 23 (0, 0)) (by (with_reducible repeat (first | refine blk_drewN ?_ _ | refine blk_drew ?_ | refine blk_alloc ?_ _)); exact BK375.out)) : gb375 ≠ gb399)); have n8_ := Aside0.mk ((by rw [hg]; exact Nat.ne_of_gt (blk_lt (g := gb375) (o := .cells #[.int .i64 a0_0, .int .i64 a0_1, .int .i64 a0_2] 23 (0, 0)) (by (with_reducible repeat (first | refine blk_drewN ?_ _ | refine blk_drew ?_ | refine blk_alloc ?_ _)); exact BK375.out)) : gb399 ≠ gb375)); have n9_ := Aside0.mk ((by rw [hg]; exact Nat.ne_of_lt (IsS63.lt (show IsS63 w _ g385 x386000_1 x386001_1 x386002_1 x386003_1 x386004_1 x386005_1 x386006_1 x386007_1 x386008_1 from by repeat (first | (with_reducible first | exact HI385.out | apply IsS63.alloc | apply IsS63.drewN | apply IsS63.drew | apply IsS63.set_0 | apply IsS63.set_1 | apply IsS63.set_2 | apply IsS63.set_3 | apply IsS63.set_4 | apply IsS63.set_5 | apply IsS63.set_6 | apply IsS63.set_7 | apply IsS63.set_8 | refine IsS63.far ?_ NB385_375.out _) | exact HI385.out))) : g385 ≠ gb399)); have n10_ := Aside0.mk ((by rw [hg]; exact Nat.ne_of_gt (IsS63.lt (show IsS63 w _ g385 x386000_1 x386001_1 x386002_1 x386003_1 x386004_1 x386005_1 x386006_1 x386007_1 x386008_1 from by repeat (first | (with_reducible first | exact HI385.out | apply IsS63.alloc | apply IsS63.drewN | apply IsS63.drew | apply IsS63.set_0 | apply IsS63.set_1 | apply IsS63.set_2 | apply IsS63.set_3 | apply IsS63.set_4 | apply IsS63.set_5 | apply IsS63.set_6 | apply IsS63.set_7 | apply IsS63.set_8 | refine IsS63.far ?_ NB385_375.out _) | exact HI385.out))) : gb399 ≠ g385)); have n11_ := Aside0.mk ((by rw [hg]; exact Nat.ne_of_lt (IsS71.lt (show IsS71 w _ g396 x397000_1 x397001_1 x397002_1 x397003_1 x397004_1 x397005_1 x397006_1 x397007_1 x397008_1 from by repeat (first | (with_reducible first | exact HI396.out | apply IsS71.alloc | apply IsS71.drewN | apply IsS71.drew | apply IsS71.set_0 | apply IsS71.set_1 | apply IsS71.set_2 | apply IsS71.set_3 | apply IsS71.set_4 | apply IsS71.set_5 | apply IsS71.set_6 | apply IsS71.set_7 | apply IsS71.set_8 | refine IsS71.far ?_ NB396_375.out _) | exact HI396.out))) : g396 ≠ gb399)); have n12_ := Aside0.mk ((by rw [hg]; exact Nat.ne_of_gt (IsS71.lt (show IsS71 w _ g396 x397000_1 x397001_1 x397002_1 x397003_1 x397004_1 x397005_1 x397006_1 x397007_1 x397008_1 from by repeat (first | (with_reducible first | exact HI396.out | apply IsS71.alloc | apply IsS71.drewN | apply IsS71.drew | apply IsS71.set_0 | apply IsS71.set_1 | apply IsS71.set_2 | apply IsS71.set_3 | apply IsS71.set_4 | apply IsS71.set_5 | apply IsS71.set_6 | apply IsS71.set_7 | apply IsS71.set_8 | refine IsS71.far ?_ NB396_375.out _) | exact HI396.out))) : gb399 ≠ g396)); clear BK375; clear HI385; clear HI396; clear HB; have BK375 := n0_; have HI385 := n1_; have HI396 := n2_; have HB := n3_; have BK399 := n4_; have GW399 := n5_; have GE399 := n6_; have NB375_399 := n7_; have NB399_375 := n8_; have NB385_399 := n9_; have NB399_385 := n10_; have NB396_399 := n11_; have NB399_396 := n12_; clear n0_ n1_ n2_ n3_ n4_ n5_ n6_ n7_ n8_ n9_ n10_ n11_ n12_; clear hb hbox hg; have hnb40 := NB399_375.out; have hnc40 := NB375_399.out; have hnb41 := NB399_385.out; have hnc41 := NB385_399.out; have hnb42 := NB399_396.out; have hnc42 := NB396_399.out; have hcz43_0 : w39.cell? ⟨gb399, 0, none⟩ = some (.int .i64 0) := (blk_cell BK399.out 0).trans rfl; have hcz43_1 : w39.cell? ⟨gb399, 1, none⟩ = some (.int .i64 0) := (blk_cell BK399.out 1).trans rfl; have hcz43_2 : w39.cell? ⟨gb399, 2, none⟩ = some (.int .i64 0) := (blk_cell BK399.out 2).trans rfl; have hcz43_3 : w39.cell? ⟨gb399, 3, none⟩ = some (.int .i64 0) := (blk_cell BK399.out 3).trans rfl; have hfz43_0 := blk_frozen BK399.out 0; have hfz43_1 := blk_frozen BK399.out 1; have hfz43_2 := blk_frozen BK399.out 2; have hfz43_3 := blk_frozen BK399.out 3))
            have n0_ : Aside0 (((((w39.setCell ⟨gb399, 0, none⟩ (.int .i64 ((rd_T34 l1 x9_1).f0))).setCell ⟨gb399, 1, none⟩ (.int .i64 ((rd_T34 l1 x9_1).f1))).setCell ⟨gb399, 2, none⟩ (.int .i64 ((rd_T34 l1 x9_1).f2))).setCell ⟨gb399, 3, none⟩ (.int .i64 ((rd_T34 l1 x9_1).f3))).heap[gb375]? = some (.cells #[.int .i64 a0_0, .int .i64 a0_1, .int .i64 a0_2] 23 (0, 0))) := ⟨by (with_reducible repeat (first | refine blk_drewN ?_ _ | refine blk_drew ?_ | refine blk_alloc ?_ _)); refine blk_far ?_ NB375_399.out _; (with_reducible repeat (first | refine blk_drewN ?_ _ | refine blk_drew ?_ | refine blk_alloc ?_ _)); refine blk_far ?_ NB375_399.out _; (with_reducible repeat (first | refine blk_drewN ?_ _ | refine blk_drew ?_ | refine blk_alloc ?_ _)); refine blk_far ?_ NB375_399.out _; (with_reducible repeat (first | refine blk_drewN ?_ _ | refine blk_drew ?_ | refine blk_alloc ?_ _)); refine blk_far ?_ NB375_399.out _; (with_reducible repeat (first | refine blk_drewN ?_ _ | refine blk_drew ?_ | refine blk_alloc ?_ _)); exact BK375.out⟩
            have n1_ : Aside0 (((((w39.setCell ⟨gb399, 0, none⟩ (.int .i64 ((rd_T34 l1 x9_1).f0))).setCell ⟨gb399, 1, none⟩ (.int .i64 ((rd_T34 l1 x9_1).f1))).setCell ⟨gb399, 2, none⟩ (.int .i64 ((rd_T34 l1 x9_1).f2))).setCell ⟨gb399, 3, none⟩ (.int .i64 ((rd_T34 l1 x9_1).f3))).heap[gb399]? = some (.cells #[.int .i64 ((rd_T34 l1 x9_1).f0), .int .i64 ((rd_T34 l1 x9_1).f1), .int .i64 ((rd_T34 l1 x9_1).f2), .int .i64 ((rd_T34 l1 x9_1).f3)] 34 (0, 0))) := ⟨by (with_reducible repeat (first | refine blk_drewN ?_ _ | refine blk_drew ?_ | refine blk_alloc ?_ _)); refine blk_put (cs := #[.int .i64 ((rd_T34 l1 x9_1).f0), .int .i64 ((rd_T34 l1 x9_1).f1), .int .i64 ((rd_T34 l1 x9_1).f2), .int .i64 0]) ?_ 3 _ rfl; (with_reducible repeat (first | refine blk_drewN ?_ _ | refine blk_drew ?_ | refine blk_alloc ?_ _)); refine blk_put (cs := #[.int .i64 ((rd_T34 l1 x9_1).f0), .int .i64 ((rd_T34 l1 x9_1).f1), .int .i64 0, .int .i64 0]) ?_ 2 _ rfl; (with_reducible repeat (first | refine blk_drewN ?_ _ | refine blk_drew ?_ | refine blk_alloc ?_ _)); refine blk_put (cs := #[.int .i64 ((rd_T34 l1 x9_1).f0), .int .i64 0, .int .i64 0, .int .i64 0]) ?_ 1 _ rfl; (with_reducible repeat (first | refine blk_drewN ?_ _ | refine blk_drew ?_ | refine blk_alloc ?_ _)); refine blk_put (cs := #[.int .i64 0, .int .i64 0, .int .i64 0, .int .i64 0]) ?_ 0 _ rfl; (with_reducible repeat (first | refine blk_drewN ?_ _ | refine blk_drew ?_ | refine blk_alloc ?_ _)); exact BK399.out⟩
            have n2_ : Aside0 (IsS63 w ((((w39.setCell ⟨gb399, 0, none⟩ (.int .i64 ((rd_T34 l1 x9_1).f0))).setCell ⟨gb399, 1, none⟩ (.int .i64 ((rd_T34 l1 x9_1).f1))).setCell ⟨gb399, 2, none⟩ (.int .i64 ((rd_T34 l1 x9_1).f2))).setCell ⟨gb399, 3, none⟩ (.int .i64 ((rd_T34 l1 x9_1).f3))) g385 x386000_1 x386001_1 x386002_1 x386003_1 x386004_1 x386005_1 x386006_1 x386007_1 x386008_1) := ⟨by repeat (first | (with_reducible first | exact HI385.out | apply IsS63.alloc | apply IsS63.drewN | apply IsS63.drew | apply IsS63.set_0 | apply IsS63.set_1 | apply IsS63.set_2 | apply IsS63.set_3 | apply IsS63.set_4 | apply IsS63.set_5 | apply IsS63.set_6 | apply IsS63.set_7 | apply IsS63.set_8 | refine IsS63.far ?_ NB385_375.out _ | refine IsS63.far ?_ NB385_399.out _) | exact HI385.out)⟩
            have n3_ : Aside0 (IsS71 w ((((w39.setCell ⟨gb399, 0, none⟩ (.int .i64 ((rd_T34 l1 x9_1).f0))).setCell ⟨gb399, 1, none⟩ (.int .i64 ((rd_T34 l1 x9_1).f1))).setCell ⟨gb399, 2, none⟩ (.int .i64 ((rd_T34 l1 x9_1).f2))).setCell ⟨gb399, 3, none⟩ (.int .i64 ((rd_T34 l1 x9_1).f3))) g396 x397000_1 x397001_1 x397002_1 x397003_1 x397004_1 x397005_1 x397006_1 x397007_1 x397008_1) := ⟨by repeat (first | (with_reducible first | exact HI396.out | apply IsS71.alloc | apply IsS71.drewN | apply IsS71.drew | apply IsS71.set_0 | apply IsS71.set_1 | apply IsS71.set_2 | apply IsS71.set_3 | apply IsS71.set_4 | apply IsS71.set_5 | apply IsS71.set_6 | apply IsS71.set_7 | apply IsS71.set_8 | refine IsS71.far ?_ NB396_375.out _ | refine IsS71.far ?_ NB396_399.out _) | exact HI396.out)⟩
            have n4_ : Aside0 (Below w.heap.size w ((((w39.setCell ⟨gb399, 0, none⟩ (.int .i64 ((rd_T34 l1 x9_1).f0))).setCell ⟨gb399, 1, none⟩ (.int .i64 ((rd_T34 l1 x9_1).f1))).setCell ⟨gb399, 2, none⟩ (.int .i64 ((rd_T34 l1 x9_1).f2))).setCell ⟨gb399, 3, none⟩ (.int .i64 ((rd_T34 l1 x9_1).f3)))) := ⟨by repeat (first | (with_reducible first | exact HB.out | apply below_alloc | apply pw_below_drewN | apply below_drew1 | refine below_set ?_ (IsS63.ge HI385.out) | refine below_set ?_ (IsS71.ge HI396.out) | refine below_set ?_ GE375.out | refine below_set ?_ GE399.out) | exact HB.out)⟩
            (try clear BK375)
            (try clear BK399)
            (try clear HI385)
            (try clear HI396)
            (try clear HB)
            generalize ((((w39.setCell ⟨gb399, 0, none⟩ (.int .i64 ((rd_T34 l1 x9_1).f0))).setCell ⟨gb399, 1, none⟩ (.int .i64 ((rd_T34 l1 x9_1).f1))).setCell ⟨gb399, 2, none⟩ (.int .i64 ((rd_T34 l1 x9_1).f2))).setCell ⟨gb399, 3, none⟩ (.int .i64 ((rd_T34 l1 x9_1).f3))) = w44 at n0_ n1_ n2_ n3_ n4_ ⊢
            have BK375 := n0_
            have BK399 := n1_
            have HI385 := n2_
            have HI396 := n3_
            have HB := n4_
            clear n0_ n1_ n2_ n3_ n4_
            have n0_ := Aside0.mk (blk_drew BK375.out)
            have n1_ := Aside0.mk (blk_drew BK399.out)
            have n2_ := Aside0.mk (IsS63.drew HI385.out)
            have n3_ := Aside0.mk (IsS71.drew HI396.out)
            have n4_ := Aside0.mk (below_drew1 HB.out)
            clear BK375
            clear BK399
            clear HI385
            clear HI396
            clear HB
            have BK375 := n0_
            have BK399 := n1_
            have HI385 := n2_
            have HI396 := n3_
            have HB := n4_
            clear n0_ n1_ n2_ n3_ n4_
            refine start_ (n := 35) (S := fun w' => w'.cell? ⟨gb399, 0, none⟩ = some (.int .i64 ((rd_T34 l1 x9_1).f0)) ∧ w'.cell? ⟨gb399, 1, none⟩ = some (.int .i64 ((rd_T34 l1 x9_1).f1)) ∧ w'.cell? ⟨gb399, 2, none⟩ = some (.int .i64 ((rd_T34 l1 x9_1).f2)) ∧ w'.cell? ⟨gb399, 3, none⟩ = some (.int .i64 ((rd_T34 l1 x9_1).f3))) (ds := []) #[false, false, false, false, false, false, false, false, false, false, false, false, false, false, false, false, false, false, false, false, false, false, false, false, false, false, false, false, false, false, false, false, false, false, false] (by kernel_rfl) rfl rfl ⟨(blk_cell BK399.out 0).trans rfl, (blk_cell BK399.out 1).trans rfl, (blk_cell BK399.out 2).trans rfl, (blk_cell BK399.out 3).trans rfl⟩ (fun hHeld => ?_); refine with_tabW flywheellaw19_AimdPlays.tab9 flywheellaw19_AimdPlays.bits9 (fun HT_ HW_ => ?_)
            generalize w44.drew = w45 at BK375 BK399 HI385 HI396 HB hHeld ⊢
            refine pure_ (i := 0) (N := some 59) (v := ?_) (a' := ?_) (bl 35 1) rfl rfl (any_of HT_.out (by kernel_rfl)) (fun _ _ _ h => h) (Or.inl ⟨by rfl, ?_⟩) ?_ ?_
            rotate_left
            ·intro w'
             go_simp
             with_reducible rfl
            rotate_left
            ·simp only [puts_]
             rfl
            refine pure_ (i := 1) (N := some 60) (v := ?_) (a' := ?_) (bl 35 3) rfl rfl (any_of HT_.out (by kernel_rfl)) (fun _ _ _ h => h) (Or.inl ⟨by rfl, ?_⟩) ?_ ?_
            rotate_left
            ·intro w'
             go_simp
             with_reducible rfl
            rotate_left
            ·simp only [puts_]
             rfl
            refine pure_ (i := 3) (N := some 62) (v := ?_) (a' := ?_) (bl 35 11) rfl rfl (any_of HT_.out (by kernel_rfl)) (fun _ _ _ h => h) (Or.inl ⟨by rfl, ?_⟩) ?_ ?_
            rotate_left
            ·intro w'
             go_simp
             with_reducible rfl
            rotate_left
            ·simp only [puts_]
             rfl
            refine pure_ (i := 5) (N := some 64) (v := ?_) (a' := ?_) (bl 35 43) rfl rfl (any_of HT_.out (by kernel_rfl)) (fun _ _ _ h => h) (Or.inl ⟨by rfl, ?_⟩) ?_ ?_
            rotate_left
            ·intro w'
             go_simp
             with_reducible rfl
            rotate_left
            ·simp only [puts_]
             rfl
            refine pure_ (i := 7) (N := some 66) (v := ?_) (a' := ?_) (bl 35 171) rfl rfl (any_of HT_.out (by kernel_rfl)) (fun _ _ _ h => h) (Or.inl ⟨by rfl, ?_⟩) ?_ ?_
            rotate_left
            ·intro w'
             go_simp
             with_reducible rfl
            rotate_left
            ·simp only [puts_]
             rfl
            refine pure_ (i := 10) (N := some 69) (v := ?_) (a' := ?_) (bl 35 1195) rfl rfl (any_of HT_.out (by kernel_rfl)) (fun _ _ _ h => h) (Or.inl ⟨by rfl, ?_⟩) ?_ ?_
            rotate_left
            ·intro w'
             go_simp
             with_reducible rfl
            rotate_left
            ·simp only [puts_]
             rfl
            refine pure_ (i := 11) (N := some 70) (v := ?_) (a' := ?_) (bl 35 3243) rfl rfl (any_of HT_.out (by kernel_rfl)) (fun _ _ _ h => h) (Or.inl ⟨by rfl, ?_⟩) ?_ ?_
            rotate_left
            ·intro w'
             go_simp
             with_reducible rfl
            rotate_left
            ·simp only [puts_]
             rfl
            refine pure_ (i := 13) (N := some 72) (v := ?_) (a' := ?_) (bl 35 11435) rfl rfl (any_of HT_.out (by kernel_rfl)) (fun _ _ _ h => h) (Or.inl ⟨by rfl, ?_⟩) ?_ ?_
            rotate_left
            ·intro w'
             go_simp
             with_reducible rfl
            rotate_left
            ·simp only [puts_]
             rfl
            refine pure_ (i := 15) (N := some 74) (v := ?_) (a' := ?_) (bl 35 44203) rfl rfl (any_of HT_.out (by kernel_rfl)) (fun _ _ _ h => h) (Or.inl ⟨by rfl, ?_⟩) ?_ ?_
            rotate_left
            ·intro w'
             go_simp
             with_reducible rfl
            rotate_left
            ·simp only [puts_]
             rfl
            refine pure_ (i := 17) (N := some 76) (v := ?_) (a' := ?_) (bl 35 175275) rfl rfl (any_of HT_.out (by kernel_rfl)) (fun _ _ _ h => h) (Or.inl ⟨by rfl, ?_⟩) ?_ ?_
            rotate_left
            ·intro w'
             go_simp
             with_reducible rfl
            rotate_left
            ·simp only [puts_]
             rfl
            refine take_ (i := 2) (N := some 61) (v := ?_) (a' := ?_) (bl 35 175279) rfl rfl (take_ofW HT_.out HW_.out (by kernel_rfl)) (fun _ _ _ h => h) (Or.inl ⟨by rfl, ?_⟩) hHeld ?_ ?_
            rotate_left
            ·rintro w' ⟨s0, s1, s2, s3⟩
             go_simp
             with_reducible rfl
            rotate_left
            ·simp only [puts_]
             rfl
            refine take_ (i := 4) (N := some 63) (v := ?_) (a' := ?_) (bl 35 175295) rfl rfl (take_ofW HT_.out HW_.out (by kernel_rfl)) (fun _ _ _ h => h) (Or.inl ⟨by rfl, ?_⟩) hHeld ?_ ?_
            rotate_left
            ·rintro w' ⟨s0, s1, s2, s3⟩
             go_simp
             with_reducible rfl
            rotate_left
            ·simp only [puts_]
             rfl
            refine take_ (i := 6) (N := some 65) (v := ?_) (a' := ?_) (bl 35 175359) rfl rfl (take_ofW HT_.out HW_.out (by kernel_rfl)) (fun _ _ _ h => h) (Or.inl ⟨by rfl, ?_⟩) hHeld ?_ ?_
            rotate_left
            ·rintro w' ⟨s0, s1, s2, s3⟩
             go_simp
             with_reducible rfl
            rotate_left
            ·simp only [puts_]
             rfl
            refine take_ (i := 8) (N := some 67) (v := ?_) (a' := ?_) (bl 35 175615) rfl rfl (take_ofW HT_.out HW_.out (by kernel_rfl)) (fun _ _ _ h => h) (Or.inl ⟨by rfl, ?_⟩) hHeld ?_ ?_
            rotate_left
            ·rintro w' ⟨s0, s1, s2, s3⟩
             go_simp
             with_reducible rfl
            rotate_left
            ·simp only [puts_]
             rfl
            refine take_ (i := 12) (N := some 71) (v := ?_) (a' := ?_) (bl 35 179711) rfl rfl (take_ofW HT_.out HW_.out (by kernel_rfl)) (fun _ _ _ h => h) (Or.inl ⟨by rfl, ?_⟩) hHeld ?_ ?_
            rotate_left
            ·rintro w' ⟨s0, s1, s2, s3⟩
             go_simp
             with_reducible rfl
            rotate_left
            ·simp only [puts_]
             rfl
            refine take_ (i := 14) (N := some 73) (v := ?_) (a' := ?_) (bl 35 196095) rfl rfl (take_ofW HT_.out HW_.out (by kernel_rfl)) (fun _ _ _ h => h) (Or.inl ⟨by rfl, ?_⟩) hHeld ?_ ?_
            rotate_left
            ·rintro w' ⟨s0, s1, s2, s3⟩
             go_simp
             with_reducible rfl
            rotate_left
            ·simp only [puts_]
             rfl
            refine take_ (i := 16) (N := some 75) (v := ?_) (a' := ?_) (bl 35 261631) rfl rfl (take_ofW HT_.out HW_.out (by kernel_rfl)) (fun _ _ _ h => h) (Or.inl ⟨by rfl, ?_⟩) hHeld ?_ ?_
            rotate_left
            ·rintro w' ⟨s0, s1, s2, s3⟩
             go_simp
             with_reducible rfl
            rotate_left
            ·simp only [puts_]
             rfl
            refine take_ (i := 18) (N := some 77) (v := ?_) (a' := ?_) (bl 35 523775) rfl rfl (take_ofW HT_.out HW_.out (by kernel_rfl)) (fun _ _ _ h => h) (Or.inl ⟨by rfl, ?_⟩) hHeld ?_ ?_
            rotate_left
            ·rintro w' ⟨s0, s1, s2, s3⟩
             go_simp
             with_reducible rfl
            rotate_left
            ·simp only [puts_]
             rfl
            refine one_ (i := 9) (N := some 68) (bl 35 524287) rfl rfl (one_of HT_.out (by kernel_rfl)) (by decide) (fun K hK => ?_)
            refine goes_ Try.func18 (by kernel_rfl) rfl #[.pointer (some ⟨g385, 0, none⟩), .int .i64 ((rd_T34 l1 x9_1).f0), .int .i64 ((rd_T34 l1 x9_1).f1), .int .i64 ((rd_T34 l1 x9_1).f2), .int .i64 ((rd_T34 l1 x9_1).f3)] (by rfl) rfl rfl (by (try simp only [List.map_toArray, List.map_cons, List.map_nil]); first | done | rfl | (simp only [List.length_drop, List.length_take]; rfl)) ?_
            with_reducible refine (aimd_Aimd_Update.calls k1 g385 x386000_1 x386001_1 x386002_1 x386003_1 x386004_1 x386005_1 x386006_1 x386007_1 x386008_1 ((rd_T34 l1 x9_1).f0) ((rd_T34 l1 x9_1).f1) ((rd_T34 l1 x9_1).f2) ((rd_T34 l1 x9_1).f3) t400 t401 t402 t403 t404 t405 t406 t407 t408 t409 w _ ?side1 ?side2 A17.out).mono ?_
            (case side1 => repeat (first | (with_reducible first | exact HI385.out | apply IsS63.alloc | apply IsS63.drewN | apply IsS63.drew | apply IsS63.set_0 | apply IsS63.set_1 | apply IsS63.set_2 | apply IsS63.set_3 | apply IsS63.set_4 | apply IsS63.set_5 | apply IsS63.set_6 | apply IsS63.set_7 | apply IsS63.set_8 | refine IsS63.far ?_ NB385_375.out _ | refine IsS63.far ?_ NB385_399.out _) | exact HI385.out))
            (case side2 => repeat (first | (with_reducible first | exact HB.out | apply below_alloc | apply pw_below_drewN | apply below_drew1 | refine below_set ?_ (IsS63.ge HI385.out) | refine below_set ?_ (IsS71.ge HI396.out) | refine below_set ?_ GE375.out | refine below_set ?_ GE399.out) | exact HB.out))
            rintro e w46 ⟨rfl, hi, hb, hk⟩
            refine ⟨_, rfl, ?_⟩
            have n0_ := Aside0.mk (KeepBut.blk hk (g' := gb375) (o := .cells #[.int .i64 a0_0, .int .i64 a0_1, .int .i64 a0_2] 23 (0, 0)) (by (with_reducible repeat (first | refine blk_drewN ?_ _ | refine blk_drew ?_ | refine blk_alloc ?_ _)); exact BK375.out) NB375_385.out (by simp))
            have n1_ := Aside0.mk (IsS71.keepS (by repeat (first | (with_reducible first | exact HI396.out | apply IsS71.alloc | apply IsS71.drewN | apply IsS71.drew | apply IsS71.set_0 | apply IsS71.set_1 | apply IsS71.set_2 | apply IsS71.set_3 | apply IsS71.set_4 | apply IsS71.set_5 | apply IsS71.set_6 | apply IsS71.set_7 | apply IsS71.set_8 | refine IsS71.far ?_ NB396_375.out _ | refine IsS71.far ?_ NB396_399.out _) | exact HI396.out)) hk NB396_385.out)
            have n2_ := Aside0.mk (KeepBut.blk hk (g' := gb399) (o := .cells #[.int .i64 ((rd_T34 l1 x9_1).f0), .int .i64 ((rd_T34 l1 x9_1).f1), .int .i64 ((rd_T34 l1 x9_1).f2), .int .i64 ((rd_T34 l1 x9_1).f3)] 34 (0, 0)) (by (with_reducible repeat (first | refine blk_drewN ?_ _ | refine blk_drew ?_ | refine blk_alloc ?_ _)); exact BK399.out) NB399_385.out (by simp))
            have n3_ := Aside0.mk (hb)
            have n4_ := Aside0.mk (hi)
            clear BK375
            clear HI396
            clear BK399
            clear HB
            clear HI385
            have BK375 := n0_
            have HI396 := n1_
            have BK399 := n2_
            have HB := n3_
            have HI385 := n4_
            clear n0_ n1_ n2_ n3_ n4_
            (try clear hb)
            (try clear hb2)
            (try clear hk)
            (try clear hi)
            refine hK.out _ _ ⟨(blk_cell BK399.out 0).trans rfl, (blk_cell BK399.out 1).trans rfl, (blk_cell BK399.out 2).trans rfl, (blk_cell BK399.out 3).trans rfl⟩ (fun hHeld => ?_)
            clear hK K
            refine norm_ (a' := ?_) ?_ ?_
            rotate_left
            ·show Act.put _ (some 68) _ = _
             simp only [puts_]
             rfl
            refine one_ (i := 19) (N := some 78) (bl 35 1048575) rfl rfl (one_of HT_.out (by kernel_rfl)) (by decide) (fun K hK => ?_)
            refine goes_ Try.func21 (by kernel_rfl) rfl #[.pointer (some ⟨g396, 0, none⟩), .int .i64 ((rd_T34 l1 x9_1).f0), .int .i64 ((rd_T34 l1 x9_1).f1), .int .i64 ((rd_T34 l1 x9_1).f2), .int .i64 ((rd_T34 l1 x9_1).f3)] (by rfl) rfl rfl (by (try simp only [List.map_toArray, List.map_cons, List.map_nil]); first | done | rfl | (simp only [List.length_drop, List.length_take]; rfl)) ?_
            with_reducible refine (flywheelref19_Aimd_Update.calls k1 g396 x397000_1 x397001_1 x397002_1 x397003_1 x397004_1 x397005_1 x397006_1 x397007_1 x397008_1 ((rd_T34 l1 x9_1).f0) ((rd_T34 l1 x9_1).f1) ((rd_T34 l1 x9_1).f2) ((rd_T34 l1 x9_1).f3) t410 t411 t412 t413 t414 t415 t416 t417 t418 t419 w _ ?side1 ?side2 A18.out).mono ?_
            (case side1 => repeat (first | (with_reducible first | exact HI396.out | apply IsS71.alloc | apply IsS71.drewN | apply IsS71.drew | apply IsS71.set_0 | apply IsS71.set_1 | apply IsS71.set_2 | apply IsS71.set_3 | apply IsS71.set_4 | apply IsS71.set_5 | apply IsS71.set_6 | apply IsS71.set_7 | apply IsS71.set_8 | refine IsS71.far ?_ NB396_375.out _ | refine IsS71.far ?_ NB396_399.out _) | exact HI396.out))
            (case side2 => repeat (first | (with_reducible first | exact HB.out | apply below_alloc | apply pw_below_drewN | apply below_drew1 | refine below_set ?_ (IsS63.ge HI385.out) | refine below_set ?_ (IsS71.ge HI396.out) | refine below_set ?_ GE375.out | refine below_set ?_ GE399.out) | exact HB.out))
            rintro e w47 ⟨rfl, hi, hb, hk⟩
            refine ⟨_, rfl, ?_⟩
            have n0_ := Aside0.mk (KeepBut.blk hk (g' := gb375) (o := .cells #[.int .i64 a0_0, .int .i64 a0_1, .int .i64 a0_2] 23 (0, 0)) (by (with_reducible repeat (first | refine blk_drewN ?_ _ | refine blk_drew ?_ | refine blk_alloc ?_ _)); exact BK375.out) NB375_396.out (by simp))
            have n1_ := Aside0.mk (IsS63.keepS (by repeat (first | (with_reducible first | exact HI385.out | apply IsS63.alloc | apply IsS63.drewN | apply IsS63.drew | apply IsS63.set_0 | apply IsS63.set_1 | apply IsS63.set_2 | apply IsS63.set_3 | apply IsS63.set_4 | apply IsS63.set_5 | apply IsS63.set_6 | apply IsS63.set_7 | apply IsS63.set_8 | refine IsS63.far ?_ NB385_375.out _ | refine IsS63.far ?_ NB385_399.out _) | exact HI385.out)) hk NB385_396.out)
            have n2_ := Aside0.mk (KeepBut.blk hk (g' := gb399) (o := .cells #[.int .i64 ((rd_T34 l1 x9_1).f0), .int .i64 ((rd_T34 l1 x9_1).f1), .int .i64 ((rd_T34 l1 x9_1).f2), .int .i64 ((rd_T34 l1 x9_1).f3)] 34 (0, 0)) (by (with_reducible repeat (first | refine blk_drewN ?_ _ | refine blk_drew ?_ | refine blk_alloc ?_ _)); exact BK399.out) NB399_396.out (by simp))
            have n3_ := Aside0.mk (hb)
            have n4_ := Aside0.mk (hi)
            clear BK375
            clear HI385
            clear BK399
            clear HB
            clear HI396
            have BK375 := n0_
            have HI385 := n1_
            have BK399 := n2_
            have HB := n3_
            have HI396 := n4_
            clear n0_ n1_ n2_ n3_ n4_
            (try clear hb)
            (try clear hb2)
            (try clear hk)
            (try clear hi)
            refine hK.out _ _ ⟨(blk_cell BK399.out 0).trans rfl, (blk_cell BK399.out 1).trans rfl, (blk_cell BK399.out 2).trans rfl, (blk_cell BK399.out 3).trans rfl⟩ (fun hHeld => ?_)
            clear hK K
            refine norm_ (a' := ?_) ?_ ?_
            rotate_left
            ·show Act.put _ (some 78) _ = _
             simp only [puts_]
             rfl
            refine pure_ (i := 20) (N := some 79) (v := ?_) (a' := ?_) (bl 35 2097151) rfl rfl (any_of HT_.out (by kernel_rfl)) (fun _ _ _ h => h) (Or.inl ⟨by rfl, ?_⟩) ?_ ?_
            rotate_left
            ·intro w'
             go_simp
             with_reducible rfl
            rotate_left
            ·simp only [puts_]
             rfl
            refine pure_ (i := 21) (N := some 80) (v := ?_) (a' := ?_) (bl 35 4194303) rfl rfl (any_of HT_.out (by kernel_rfl)) (fun _ _ _ h => h) (Or.inl ⟨by rfl, ?_⟩) ?_ ?_
            rotate_left
            ·intro w'
             go_simp
             with_reducible rfl
            rotate_left
            ·simp only [puts_]
             rfl
            refine pure_ (i := 22) (N := some 81) (v := ?_) (a' := ?_) (bl 35 8388607) rfl rfl (any_of HT_.out (by kernel_rfl)) (fun _ _ _ h => h) (Or.inl ⟨by rfl, ?_⟩) ?_ ?_
            rotate_left
            ·intro w'
             go_simp
             with_reducible rfl
            rotate_left
            ·simp only [puts_]
             rfl
            refine pure_ (i := 24) (N := some 83) (v := ?_) (a' := ?_) (bl 35 25165823) rfl rfl (any_of HT_.out (by kernel_rfl)) (fun _ _ _ h => h) (Or.inl ⟨by rfl, ?_⟩) ?_ ?_
            rotate_left
            ·intro w'
             go_simp
             with_reducible rfl
            rotate_left
            ·simp only [puts_]
             rfl
            refine one_ (i := 23) (N := some 82) (bl 35 33554431) rfl rfl (one_of HT_.out (by kernel_rfl)) (by decide) (fun K hK => ?_)
            refine goes_ Try.func17 (by kernel_rfl) rfl #[.pointer (some ⟨g385, 0, none⟩)] (by rfl) rfl rfl (by (try simp only [List.map_toArray, List.map_cons, List.map_nil]); first | done | rfl | (simp only [List.length_drop, List.length_take]; rfl)) ?_
            with_reducible refine (aimd_Aimd_Rate.calls g385 t401 t402 t403 t404 t405 t406 t407 t408 t409 t420 t421 t422 t423 t424 t425 t426 t427 t428 t429 w _ ?side1 ?side2 A20.out).mono ?_
            (case side1 => repeat (first | (with_reducible first | exact HI385.out | apply IsS63.alloc | apply IsS63.drewN | apply IsS63.drew | apply IsS63.set_0 | apply IsS63.set_1 | apply IsS63.set_2 | apply IsS63.set_3 | apply IsS63.set_4 | apply IsS63.set_5 | apply IsS63.set_6 | apply IsS63.set_7 | apply IsS63.set_8 | refine IsS63.far ?_ NB385_375.out _ | refine IsS63.far ?_ NB385_399.out _) | exact HI385.out))
            (case side2 => repeat (first | (with_reducible first | exact HB.out | apply below_alloc | apply pw_below_drewN | apply below_drew1 | refine below_set ?_ (IsS63.ge HI385.out) | refine below_set ?_ (IsS71.ge HI396.out) | refine below_set ?_ GE375.out | refine below_set ?_ GE399.out) | exact HB.out))
            rintro e w48 ⟨rfl, hi, hb, hk⟩
            refine ⟨_, rfl, ?_⟩
            have n0_ := Aside0.mk (KeepBut.blk hk (g' := gb375) (o := .cells #[.int .i64 a0_0, .int .i64 a0_1, .int .i64 a0_2] 23 (0, 0)) (by (with_reducible repeat (first | refine blk_drewN ?_ _ | refine blk_drew ?_ | refine blk_alloc ?_ _)); exact BK375.out) NB375_385.out (by simp))
            have n1_ := Aside0.mk (IsS71.keepS (by repeat (first | (with_reducible first | exact HI396.out | apply IsS71.alloc | apply IsS71.drewN | apply IsS71.drew | apply IsS71.set_0 | apply IsS71.set_1 | apply IsS71.set_2 | apply IsS71.set_3 | apply IsS71.set_4 | apply IsS71.set_5 | apply IsS71.set_6 | apply IsS71.set_7 | apply IsS71.set_8 | refine IsS71.far ?_ NB396_375.out _ | refine IsS71.far ?_ NB396_399.out _) | exact HI396.out)) hk NB396_385.out)
            have n2_ := Aside0.mk (KeepBut.blk hk (g' := gb399) (o := .cells #[.int .i64 ((rd_T34 l1 x9_1).f0), .int .i64 ((rd_T34 l1 x9_1).f1), .int .i64 ((rd_T34 l1 x9_1).f2), .int .i64 ((rd_T34 l1 x9_1).f3)] 34 (0, 0)) (by (with_reducible repeat (first | refine blk_drewN ?_ _ | refine blk_drew ?_ | refine blk_alloc ?_ _)); exact BK399.out) NB399_385.out (by simp))
            have n3_ := Aside0.mk (hb)
            have n4_ := Aside0.mk (hi)
            clear BK375
            clear HI396
            clear BK399
            clear HB
            clear HI385
            have BK375 := n0_
            have HI396 := n1_
            have BK399 := n2_
            have HB := n3_
            have HI385 := n4_
            clear n0_ n1_ n2_ n3_ n4_
            (try clear hb)
            (try clear hb2)
            (try clear hk)
            (try clear hi)
            refine hK.out _ _ ⟨(blk_cell BK399.out 0).trans rfl, (blk_cell BK399.out 1).trans rfl, (blk_cell BK399.out 2).trans rfl, (blk_cell BK399.out 3).trans rfl⟩ (fun hHeld => ?_)
            clear hK K
            refine norm_ (a' := ?_) ?_ ?_
            rotate_left
            ·show Act.put _ (some 82) _ = _
             simp only [puts_]
             rfl
            refine one_ (i := 25) (N := some 84) (bl 35 67108863) rfl rfl (one_of HT_.out (by kernel_rfl)) (by decide) (fun K hK => ?_)
            refine goes_ Try.func22 (by kernel_rfl) rfl #[.pointer (some ⟨g396, 0, none⟩)] (by rfl) rfl rfl (by (try simp only [List.map_toArray, List.map_cons, List.map_nil]); first | done | rfl | (simp only [List.length_drop, List.length_take]; rfl)) ?_
            with_reducible refine (flywheelref19_Aimd_Rate.calls g396 t411 t412 t413 t414 t415 t416 t417 t418 t419 t430 t431 t432 t433 t434 t435 t436 t437 t438 t439 w _ ?side1 ?side2 A21.out).mono ?_
            (case side1 => repeat (first | (with_reducible first | exact HI396.out | apply IsS71.alloc | apply IsS71.drewN | apply IsS71.drew | apply IsS71.set_0 | apply IsS71.set_1 | apply IsS71.set_2 | apply IsS71.set_3 | apply IsS71.set_4 | apply IsS71.set_5 | apply IsS71.set_6 | apply IsS71.set_7 | apply IsS71.set_8 | refine IsS71.far ?_ NB396_375.out _ | refine IsS71.far ?_ NB396_399.out _) | exact HI396.out))
            (case side2 => repeat (first | (with_reducible first | exact HB.out | apply below_alloc | apply pw_below_drewN | apply below_drew1 | refine below_set ?_ (IsS63.ge HI385.out) | refine below_set ?_ (IsS71.ge HI396.out) | refine below_set ?_ GE375.out | refine below_set ?_ GE399.out) | exact HB.out))
            rintro e w49 ⟨rfl, hi, hb, hk⟩
            refine ⟨_, rfl, ?_⟩
            have n0_ := Aside0.mk (KeepBut.blk hk (g' := gb375) (o := .cells #[.int .i64 a0_0, .int .i64 a0_1, .int .i64 a0_2] 23 (0, 0)) (by (with_reducible repeat (first | refine blk_drewN ?_ _ | refine blk_drew ?_ | refine blk_alloc ?_ _)); exact BK375.out) NB375_396.out (by simp))
            have n1_ := Aside0.mk (IsS63.keepS (by repeat (first | (with_reducible first | exact HI385.out | apply IsS63.alloc | apply IsS63.drewN | apply IsS63.drew | apply IsS63.set_0 | apply IsS63.set_1 | apply IsS63.set_2 | apply IsS63.set_3 | apply IsS63.set_4 | apply IsS63.set_5 | apply IsS63.set_6 | apply IsS63.set_7 | apply IsS63.set_8 | refine IsS63.far ?_ NB385_375.out _ | refine IsS63.far ?_ NB385_399.out _) | exact HI385.out)) hk NB385_396.out)
            have n2_ := Aside0.mk (KeepBut.blk hk (g' := gb399) (o := .cells #[.int .i64 ((rd_T34 l1 x9_1).f0), .int .i64 ((rd_T34 l1 x9_1).f1), .int .i64 ((rd_T34 l1 x9_1).f2), .int .i64 ((rd_T34 l1 x9_1).f3)] 34 (0, 0)) (by (with_reducible repeat (first | refine blk_drewN ?_ _ | refine blk_drew ?_ | refine blk_alloc ?_ _)); exact BK399.out) NB399_396.out (by simp))
            have n3_ := Aside0.mk (hb)
            have n4_ := Aside0.mk (hi)
            clear BK375
            clear HI385
            clear BK399
            clear HB
            clear HI396
            have BK375 := n0_
            have HI385 := n1_
            have BK399 := n2_
            have HB := n3_
            have HI396 := n4_
            clear n0_ n1_ n2_ n3_ n4_
            (try clear hb)
            (try clear hb2)
            (try clear hk)
            (try clear hi)
            refine hK.out _ _ ⟨(blk_cell BK399.out 0).trans rfl, (blk_cell BK399.out 1).trans rfl, (blk_cell BK399.out 2).trans rfl, (blk_cell BK399.out 3).trans rfl⟩ (fun hHeld => ?_)
            clear hK K
            refine norm_ (a' := ?_) ?_ ?_
            rotate_left
            ·show Act.put _ (some 84) _ = _
             simp only [puts_]
             rfl
            refine pure_ (i := 26) (N := some 85) (v := ?_) (a' := ?_) (bl 35 134217727) rfl rfl (any_of HT_.out (by kernel_rfl)) (fun _ _ _ h => h) (Or.inl ⟨by rfl, ?_⟩) ?_ ?_
            rotate_left
            ·intro w'
             go_simp
             with_reducible rfl
            rotate_left
            ·simp only [puts_]
             rfl
            refine pure_ (i := 27) (N := some 86) (v := ?_) (a' := ?_) (bl 35 268435455) rfl rfl (any_of HT_.out (by kernel_rfl)) (fun _ _ _ h => h) (Or.inl ⟨by rfl, ?_⟩) ?_ ?_
            rotate_left
            ·intro w'
             go_simp
             with_reducible rfl
            rotate_left
            ·simp only [puts_]
             rfl
            refine pure_ (i := 28) (N := some 87) (v := ?_) (a' := ?_) (bl 35 536870911) rfl rfl (any_of HT_.out (by kernel_rfl)) (fun _ _ _ h => h) (Or.inl ⟨by rfl, ?_⟩) ?_ ?_
            rotate_left
            ·intro w'
             go_simp
             with_reducible rfl
            rotate_left
            ·simp only [puts_]
             rfl
            refine pure_ (i := 29) (N := some 88) (v := ?_) (a' := ?_) (bl 35 1073741823) rfl rfl (any_of HT_.out (by kernel_rfl)) (fun _ _ _ h => h) (Or.inl ⟨by rfl, ?_⟩) ?_ ?_
            rotate_left
            ·intro w'
             go_simp
             with_reducible rfl
            rotate_left
            ·simp only [puts_]
             rfl
            refine pure_ (i := 31) (N := some 90) (v := ?_) (a' := ?_) (bl 35 3221225471) rfl rfl (any_of HT_.out (by kernel_rfl)) (fun _ _ _ h => h) (Or.inl ⟨by rfl, ?_⟩) ?_ ?_
            rotate_left
            ·intro w'
             go_simp
             with_reducible rfl
            rotate_left
            ·simp only [puts_]
             rfl
            refine one_ (i := 30) (N := some 89) (bl 35 4294967295) rfl rfl (one_of HT_.out (by kernel_rfl)) (by decide) (fun K hK => ?_)
            refine goes_ Try.func23 (by kernel_rfl) rfl #[.pointer (some ⟨g385, 0, none⟩)] (by rfl) rfl rfl (by (try simp only [List.map_toArray, List.map_cons, List.map_nil]); first | done | rfl | (simp only [List.length_drop, List.length_take]; rfl)) ?_
            with_reducible refine (aimd_Aimd_State.calls g385 t421 t422 t423 t424 t425 t426 t427 t428 t429 t440 t441 t442 t443 t444 t445 t446 t447 t448 t449 w _ ?side1 ?side2 A23.out).mono ?_
            (case side1 => repeat (first | (with_reducible first | exact HI385.out | apply IsS63.alloc | apply IsS63.drewN | apply IsS63.drew | apply IsS63.set_0 | apply IsS63.set_1 | apply IsS63.set_2 | apply IsS63.set_3 | apply IsS63.set_4 | apply IsS63.set_5 | apply IsS63.set_6 | apply IsS63.set_7 | apply IsS63.set_8 | refine IsS63.far ?_ NB385_375.out _ | refine IsS63.far ?_ NB385_399.out _) | exact HI385.out))
            (case side2 => repeat (first | (with_reducible first | exact HB.out | apply below_alloc | apply pw_below_drewN | apply below_drew1 | refine below_set ?_ (IsS63.ge HI385.out) | refine below_set ?_ (IsS71.ge HI396.out) | refine below_set ?_ GE375.out | refine below_set ?_ GE399.out) | exact HB.out))
            rintro e w50 ⟨rfl, hi, hb, hk⟩
            refine ⟨_, rfl, ?_⟩
            have n0_ := Aside0.mk (KeepBut.blk hk (g' := gb375) (o := .cells #[.int .i64 a0_0, .int .i64 a0_1, .int .i64 a0_2] 23 (0, 0)) (by (with_reducible repeat (first | refine blk_drewN ?_ _ | refine blk_drew ?_ | refine blk_alloc ?_ _)); exact BK375.out) NB375_385.out (by simp))
            have n1_ := Aside0.mk (IsS71.keepS (by repeat (first | (with_reducible first | exact HI396.out | apply IsS71.alloc | apply IsS71.drewN | apply IsS71.drew | apply IsS71.set_0 | apply IsS71.set_1 | apply IsS71.set_2 | apply IsS71.set_3 | apply IsS71.set_4 | apply IsS71.set_5 | apply IsS71.set_6 | apply IsS71.set_7 | apply IsS71.set_8 | refine IsS71.far ?_ NB396_375.out _ | refine IsS71.far ?_ NB396_399.out _) | exact HI396.out)) hk NB396_385.out)
            have n2_ := Aside0.mk (KeepBut.blk hk (g' := gb399) (o := .cells #[.int .i64 ((rd_T34 l1 x9_1).f0), .int .i64 ((rd_T34 l1 x9_1).f1), .int .i64 ((rd_T34 l1 x9_1).f2), .int .i64 ((rd_T34 l1 x9_1).f3)] 34 (0, 0)) (by (with_reducible repeat (first | refine blk_drewN ?_ _ | refine blk_drew ?_ | refine blk_alloc ?_ _)); exact BK399.out) NB399_385.out (by simp))
            have n3_ := Aside0.mk (hb)
            have n4_ := Aside0.mk (hi)
            clear BK375
            clear HI396
            clear BK399
            clear HB
            clear HI385
            have BK375 := n0_
            have HI396 := n1_
            have BK399 := n2_
            have HB := n3_
            have HI385 := n4_
            clear n0_ n1_ n2_ n3_ n4_
            (try clear hb)
            (try clear hb2)
            (try clear hk)
            (try clear hi)
            refine hK.out _ _ ⟨(blk_cell BK399.out 0).trans rfl, (blk_cell BK399.out 1).trans rfl, (blk_cell BK399.out 2).trans rfl, (blk_cell BK399.out 3).trans rfl⟩ (fun hHeld => ?_)
            clear hK K
            refine norm_ (a' := ?_) ?_ ?_
            rotate_left
            ·show Act.put _ (some 89) _ = _
             simp only [puts_]
             rfl
            refine one_ (i := 32) (N := some 91) (bl 35 8589934591) rfl rfl (one_of HT_.out (by kernel_rfl)) (by decide) (fun K hK => ?_)
            refine goes_ Try.func24 (by kernel_rfl) rfl #[.pointer (some ⟨g396, 0, none⟩)] (by rfl) rfl rfl (by (try simp only [List.map_toArray, List.map_cons, List.map_nil]); first | done | rfl | (simp only [List.length_drop, List.length_take]; rfl)) ?_
            with_reducible refine (flywheelref19_Aimd_State.calls g396 t431 t432 t433 t434 t435 t436 t437 t438 t439 t450 t451 t452 t453 t454 t455 t456 t457 t458 t459 w _ ?side1 ?side2 A24.out).mono ?_
            (case side1 => repeat (first | (with_reducible first | exact HI396.out | apply IsS71.alloc | apply IsS71.drewN | apply IsS71.drew | apply IsS71.set_0 | apply IsS71.set_1 | apply IsS71.set_2 | apply IsS71.set_3 | apply IsS71.set_4 | apply IsS71.set_5 | apply IsS71.set_6 | apply IsS71.set_7 | apply IsS71.set_8 | refine IsS71.far ?_ NB396_375.out _ | refine IsS71.far ?_ NB396_399.out _) | exact HI396.out))
            (case side2 => repeat (first | (with_reducible first | exact HB.out | apply below_alloc | apply pw_below_drewN | apply below_drew1 | refine below_set ?_ (IsS63.ge HI385.out) | refine below_set ?_ (IsS71.ge HI396.out) | refine below_set ?_ GE375.out | refine below_set ?_ GE399.out) | exact HB.out))
            rintro e w51 ⟨rfl, hi, hb, hk⟩
            refine ⟨_, rfl, ?_⟩
            have n0_ := Aside0.mk (KeepBut.blk hk (g' := gb375) (o := .cells #[.int .i64 a0_0, .int .i64 a0_1, .int .i64 a0_2] 23 (0, 0)) (by (with_reducible repeat (first | refine blk_drewN ?_ _ | refine blk_drew ?_ | refine blk_alloc ?_ _)); exact BK375.out) NB375_396.out (by simp))
            have n1_ := Aside0.mk (IsS63.keepS (by repeat (first | (with_reducible first | exact HI385.out | apply IsS63.alloc | apply IsS63.drewN | apply IsS63.drew | apply IsS63.set_0 | apply IsS63.set_1 | apply IsS63.set_2 | apply IsS63.set_3 | apply IsS63.set_4 | apply IsS63.set_5 | apply IsS63.set_6 | apply IsS63.set_7 | apply IsS63.set_8 | refine IsS63.far ?_ NB385_375.out _ | refine IsS63.far ?_ NB385_399.out _) | exact HI385.out)) hk NB385_396.out)
            have n2_ := Aside0.mk (KeepBut.blk hk (g' := gb399) (o := .cells #[.int .i64 ((rd_T34 l1 x9_1).f0), .int .i64 ((rd_T34 l1 x9_1).f1), .int .i64 ((rd_T34 l1 x9_1).f2), .int .i64 ((rd_T34 l1 x9_1).f3)] 34 (0, 0)) (by (with_reducible repeat (first | refine blk_drewN ?_ _ | refine blk_drew ?_ | refine blk_alloc ?_ _)); exact BK399.out) NB399_396.out (by simp))
            have n3_ := Aside0.mk (hb)
            have n4_ := Aside0.mk (hi)
            clear BK375
            clear HI385
            clear BK399
            clear HB
            clear HI396
            have BK375 := n0_
            have HI385 := n1_
            have BK399 := n2_
            have HB := n3_
            have HI396 := n4_
            clear n0_ n1_ n2_ n3_ n4_
            (try clear hb)
            (try clear hb2)
            (try clear hk)
            (try clear hi)
            refine hK.out _ _ ⟨(blk_cell BK399.out 0).trans rfl, (blk_cell BK399.out 1).trans rfl, (blk_cell BK399.out 2).trans rfl, (blk_cell BK399.out 3).trans rfl⟩ (fun hHeld => ?_)
            clear hK K
            refine norm_ (a' := ?_) ?_ ?_
            rotate_left
            ·show Act.put _ (some 91) _ = _
             simp only [puts_]
             rfl
            refine pure_ (i := 33) (N := some 92) (v := ?_) (a' := ?_) (bl 35 17179869183) rfl rfl (any_of HT_.out (by kernel_rfl)) (fun _ _ _ h => h) (Or.inl ⟨by rfl, ?_⟩) ?_ ?_
            rotate_left
            ·intro w'
             go_simp
             with_reducible rfl
            rotate_left
            ·simp only [puts_]
             rfl
            refine pure_ (i := 34) (N := some 93) (v := ?_) (a' := ?_) (bl 35 34359738367) rfl rfl (any_of HT_.out (by kernel_rfl)) (fun _ _ _ h => h) (Or.inl ⟨by rfl, ?_⟩) ?_ ?_
            rotate_left
            ·intro w'
             go_simp
             with_reducible rfl
            rotate_left
            ·simp only [puts_]
             rfl
            refine done_ (done_of HT_.out (by kernel_rfl)) ?_
            try go_wp2
            go_ret
            exact ⟨by first | rfl | (simp [errW_none, errW_some] <;> rfl) | (simp [*, errW_none, errW_some] <;> rfl), by repeat (first | (with_reducible first | exact HB.out | apply below_alloc | apply pw_below_drewN | apply below_drew1 | refine below_set ?_ (IsS63.ge HI385.out) | refine below_set ?_ (IsS71.ge HI396.out) | refine below_set ?_ GE375.out | refine below_set ?_ GE399.out) | exact HB.out)⟩
          ·rw [if_neg c22] at H
           have c22b0 : (t420 == t430) = false := beq_eq_false_iff_ne.mpr c22
           have c22b1 : (t420 != t430) = true := bne_iff_ne.mpr c22
           obtain rfl := Option.some.inj H
           have p398 : 0 ≤ (x9_1 : Int) := of_decide_eq_true (by first | (with_reducible assumption) | assumption)
           have q398 : x9_1 < (l1.length : Int) := of_decide_eq_true (by first | (with_reducible assumption) | assumption)
           obtain ⟨ad398, e398, hx398_0, hx398_1, hx398_2, hx398_3⟩ := at_T34 HR1.out x9_1 p398 q398
           cases e398
           replace hx398_0 := (HB.out.cell (World.block_lt_of_cell? w _ hx398_0)).trans hx398_0
           replace hx398_1 := (HB.out.cell (World.block_lt_of_cell? w _ hx398_1)).trans hx398_1
           replace hx398_2 := (HB.out.cell (World.block_lt_of_cell? w _ hx398_2)).trans hx398_2
           replace hx398_3 := (HB.out.cell (World.block_lt_of_cell? w _ hx398_3)).trans hx398_3
           replace p398 := eq_true p398
           replace q398 := eq_true q398
           try go_wp2_with (first | ((with_reducible refine gate_dst (N := 10) rfl ?_); refine box_event ?hg (N := 10) ?hd (cs := #[.int .i64 0, .int .i64 0, .int .i64 0, .int .i64 0]) (t := 34) ?hr ?_; (case hd => rfl); (case hg => rfl); (case hr => first | (go_simp; done) | (go_simp; rfl)); intro gb399 hg w52 hbox hb; have n0_ := Aside0.mk (blk_below (g := gb375) (o := .cells #[.int .i64 a0_0, .int .i64 a0_1, .int .i64 a0_2] 23 (0, 0)) (by (with_reducible repeat (first | refine blk_drewN ?_ _ | refine blk_drew ?_ | refine blk_alloc ?_ _)); exact BK375.out) hb); have n1_ := Aside0.mk (IsS63.below (by repeat (first | (with_reducible first | exact HI385.out | apply IsS63.alloc | apply IsS63.drewN | apply IsS63.drew | apply IsS63.set_0 | apply IsS63.set_1 | apply IsS63.set_2 | apply IsS63.set_3 | apply IsS63.set_4 | apply IsS63.set_5 | apply IsS63.set_6 | apply IsS63.set_7 | apply IsS63.set_8 | refine IsS63.far ?_ NB385_375.out _) | exact HI385.out)) hb); have n2_ := Aside0.mk (IsS71.below (by repeat (first | (with_reducible first | exact HI396.out | apply IsS71.alloc | apply IsS71.drewN | apply IsS71.drew | apply IsS71.set_0 | apply IsS71.set_1 | apply IsS71.set_2 | apply IsS71.set_3 | apply IsS71.set_4 | apply IsS71.set_5 | apply IsS71.set_6 | apply IsS71.set_7 | apply IsS71.set_8 | refine IsS71.far ?_ NB396_375.out _) | exact HI396.out)) hb); have n3_ := Aside0.mk (below_step (by repeat (first | (with_reducible first | exact HB.out | apply below_alloc | apply pw_below_drewN | apply below_drew1 | refine below_set ?_ (IsS63.ge HI385.out) | refine below_set ?_ (IsS71.ge HI396.out) | refine below_set ?_ GE375.out) | exact HB.out)) hb); have n4_ := Aside0.mk (hbox); have n5_ := Aside0.mk ((by rw [hg]; exact (below_size (by repeat (first | (with_reducible first | exact HB.out | apply below_alloc | apply pw_below_drewN | apply below_drew1 | refine below_set ?_ (IsS63.ge HI385.out) | refine below_set ?_ (IsS71.ge HI396.out) | refine below_set ?_ GE375.out) | exact HB.out))) : w.heap.size ≤ gb399)); have n6_ := Aside0.mk ((by rw [hg]; exact (below_size (by repeat (first | (with_reducible first | exact HB.out | apply below_alloc | apply pw_below_drewN | apply below_drew1 | refine below_set ?_ (IsS63.ge HI385.out) | refine below_set ?_ (IsS71.ge HI396.out) | refine below_set ?_ GE375.out) | exact HB.out))) : w.heap.size ≤ gb399)); have n7_ := Aside0.mk ((by rw [hg]; exact Nat.ne_of_lt (blk_lt (g := gb375) (o := .cells #[.int .i64 a0_0, .int .i64 a0_1, .int .i64 a0_2] 23 (0, 0)) (by (with_reducible repeat (first | refine blk_drewN ?_ _ | refine blk_drew ?_ | refine blk_alloc ?_ _)); exact BK375.out)) : gb375 ≠ gb399)); have n8_ := Aside0.mk ((by rw [hg]; exact Nat.ne_of_gt (blk_lt (g := gb375) (o := .cells #[.int .i64 a0_0, .int .i64 a0_1, .int .i64 a0_2] 23 (0, 0)) (by (with_reducible repeat (first | refine blk_drewN ?_ _ | refine blk_drew ?_ | refine blk_alloc ?_ _)); exact BK375.out)) : gb399 ≠ gb375)); have n9_ := Aside0.mk ((by rw [hg]; exact Nat.ne_of_lt (IsS63.lt (show IsS63 w _ g385 x386000_1 x386001_1 x386002_1 x386003_1 x386004_1 x386005_1 x386006_1 x386007_1 x386008_1 from by repeat (first | (with_reducible first | exact HI385.out | apply IsS63.alloc | apply IsS63.drewN | apply IsS63.drew | apply IsS63.set_0 | apply IsS63.set_1 | apply IsS63.set_2 | apply IsS63.set_3 | apply IsS63.set_4 | apply IsS63.set_5 | apply IsS63.set_6 | apply IsS63.set_7 | apply IsS63.set_8 | refine IsS63.far ?_ NB385_375.out _) | exact HI385.out))) : g385 ≠ gb399)); have n10_ := Aside0.mk ((by rw [hg]; exact Nat.ne_of_gt (IsS63.lt (show IsS63 w _ g385 x386000_1 x386001_1 x386002_1 x386003_1 x386004_1 x386005_1 x386006_1 x386007_1 x386008_1 from by repeat (first | (with_reducible first | exact HI385.out | apply IsS63.alloc | apply IsS63.drewN | apply IsS63.drew | apply IsS63.set_0 | apply IsS63.set_1 | apply IsS63.set_2 | apply IsS63.set_3 | apply IsS63.set_4 | apply IsS63.set_5 | apply IsS63.set_6 | apply IsS63.set_7 | apply IsS63.set_8 | refine IsS63.far ?_ NB385_375.out _) | exact HI385.out))) : gb399 ≠ g385)); have n11_ := Aside0.mk ((by rw [hg]; exact Nat.ne_of_lt (IsS71.lt (show IsS71 w _ g396 x397000_1 x397001_1 x397002_1 x397003_1 x397004_1 x397005_1 x397006_1 x397007_1 x397008_1 from by repeat (first | (with_reducible first | exact HI396.out | apply IsS71.alloc | apply IsS71.drewN | apply IsS71.drew | apply IsS71.set_0 | apply IsS71.set_1 | apply IsS71.set_2 | apply IsS71.set_3 | apply IsS71.set_4 | apply IsS71.set_5 | apply IsS71.set_6 | apply IsS71.set_7 | apply IsS71.set_8 | refine IsS71.far ?_ NB396_375.out _) | exact HI396.out))) : g396 ≠ gb399)); have n12_ := Aside0.mk ((by rw [hg]; exact Nat.ne_of_gt (IsS71.lt (show IsS71 w _ g396 x397000_1 x397001_1 x397002_1 x397003_1 x397004_1 x397005_1 x397006_1 x397007_1 x397008_1 from by repeat (first | (with_reducible first | exact HI396.out | apply IsS71.alloc | apply IsS71.drewN | apply IsS71.drew | apply IsS71.set_0 | apply IsS71.set_1 | apply IsS71.set_2 | apply IsS71.set_3 | apply IsS71.set_4 | apply IsS71.set_5 | apply IsS71.set_6 | apply IsS71.set_7 | apply IsS71.set_8 | refine IsS71.far ?_ NB396_375.out _) | exact HI396.out))) : gb399 ≠ g396)); clear BK375; clear HI385; clear HI396; clear HB; have BK375 := n0_; have HI385 := n1_; have HI396 := n2_; have HB := n3_; have BK399 := n4_; have GW399 := n5_; have GE399 := n6_; have NB375_399 := n7_; have NB399_375 := n8_; have NB385_399 := n9_; have NB399_385 := n10_; have NB396_399 := n11_; have NB399_396 := n12_; clear n0_ n1_ n2_ n3_ n4_ n5_ n6_ n7_ n8_ n9_ n10_ n11_ n12_; clear hb hbox hg; have hnb53 := NB399_375.out; have hnc53 := NB375_399.out; have hnb54 := NB399_385.out; have hnc54 := NB385_399.out; have hnb55 := NB399_396.out; have hnc55 := NB396_399.out; have hcz56_0 : w52.cell? ⟨gb399, 0, none⟩ = some (.int .i64 0) := (blk_cell BK399.out 0).trans rfl; have hcz56_1 : w52.cell? ⟨gb399, 1, none⟩ = some (.int .i64 0) := (blk_cell BK399.out 1).trans rfl; have hcz56_2 : w52.cell? ⟨gb399, 2, none⟩ = some (.int .i64 0) := (blk_cell BK399.out 2).trans rfl; have hcz56_3 : w52.cell? ⟨gb399, 3, none⟩ = some (.int .i64 0) := (blk_cell BK399.out 3).trans rfl; have hfz56_0 := blk_frozen BK399.out 0; have hfz56_1 := blk_frozen BK399.out 1; have hfz56_2 := blk_frozen BK399.out 2; have hfz56_3 := blk_frozen BK399.out 3))
           have n0_ : Aside0 (((((w52.setCell ⟨gb399, 0, none⟩ (.int .i64 ((rd_T34 l1 x9_1).f0))).setCell ⟨gb399, 1, none⟩ (.int .i64 ((rd_T34 l1 x9_1).f1))).setCell ⟨gb399, 2, none⟩ (.int .i64 ((rd_T34 l1 x9_1).f2))).setCell ⟨gb399, 3, none⟩ (.int .i64 ((rd_T34 l1 x9_1).f3))).heap[gb375]? = some (.cells #[.int .i64 a0_0, .int .i64 a0_1, .int .i64 a0_2] 23 (0, 0))) := ⟨by (with_reducible repeat (first | refine blk_drewN ?_ _ | refine blk_drew ?_ | refine blk_alloc ?_ _)); refine blk_far ?_ NB375_399.out _; (with_reducible repeat (first | refine blk_drewN ?_ _ | refine blk_drew ?_ | refine blk_alloc ?_ _)); refine blk_far ?_ NB375_399.out _; (with_reducible repeat (first | refine blk_drewN ?_ _ | refine blk_drew ?_ | refine blk_alloc ?_ _)); refine blk_far ?_ NB375_399.out _; (with_reducible repeat (first | refine blk_drewN ?_ _ | refine blk_drew ?_ | refine blk_alloc ?_ _)); refine blk_far ?_ NB375_399.out _; (with_reducible repeat (first | refine blk_drewN ?_ _ | refine blk_drew ?_ | refine blk_alloc ?_ _)); exact BK375.out⟩
           have n1_ : Aside0 (((((w52.setCell ⟨gb399, 0, none⟩ (.int .i64 ((rd_T34 l1 x9_1).f0))).setCell ⟨gb399, 1, none⟩ (.int .i64 ((rd_T34 l1 x9_1).f1))).setCell ⟨gb399, 2, none⟩ (.int .i64 ((rd_T34 l1 x9_1).f2))).setCell ⟨gb399, 3, none⟩ (.int .i64 ((rd_T34 l1 x9_1).f3))).heap[gb399]? = some (.cells #[.int .i64 ((rd_T34 l1 x9_1).f0), .int .i64 ((rd_T34 l1 x9_1).f1), .int .i64 ((rd_T34 l1 x9_1).f2), .int .i64 ((rd_T34 l1 x9_1).f3)] 34 (0, 0))) := ⟨by (with_reducible repeat (first | refine blk_drewN ?_ _ | refine blk_drew ?_ | refine blk_alloc ?_ _)); refine blk_put (cs := #[.int .i64 ((rd_T34 l1 x9_1).f0), .int .i64 ((rd_T34 l1 x9_1).f1), .int .i64 ((rd_T34 l1 x9_1).f2), .int .i64 0]) ?_ 3 _ rfl; (with_reducible repeat (first | refine blk_drewN ?_ _ | refine blk_drew ?_ | refine blk_alloc ?_ _)); refine blk_put (cs := #[.int .i64 ((rd_T34 l1 x9_1).f0), .int .i64 ((rd_T34 l1 x9_1).f1), .int .i64 0, .int .i64 0]) ?_ 2 _ rfl; (with_reducible repeat (first | refine blk_drewN ?_ _ | refine blk_drew ?_ | refine blk_alloc ?_ _)); refine blk_put (cs := #[.int .i64 ((rd_T34 l1 x9_1).f0), .int .i64 0, .int .i64 0, .int .i64 0]) ?_ 1 _ rfl; (with_reducible repeat (first | refine blk_drewN ?_ _ | refine blk_drew ?_ | refine blk_alloc ?_ _)); refine blk_put (cs := #[.int .i64 0, .int .i64 0, .int .i64 0, .int .i64 0]) ?_ 0 _ rfl; (with_reducible repeat (first | refine blk_drewN ?_ _ | refine blk_drew ?_ | refine blk_alloc ?_ _)); exact BK399.out⟩
           have n2_ : Aside0 (IsS63 w ((((w52.setCell ⟨gb399, 0, none⟩ (.int .i64 ((rd_T34 l1 x9_1).f0))).setCell ⟨gb399, 1, none⟩ (.int .i64 ((rd_T34 l1 x9_1).f1))).setCell ⟨gb399, 2, none⟩ (.int .i64 ((rd_T34 l1 x9_1).f2))).setCell ⟨gb399, 3, none⟩ (.int .i64 ((rd_T34 l1 x9_1).f3))) g385 x386000_1 x386001_1 x386002_1 x386003_1 x386004_1 x386005_1 x386006_1 x386007_1 x386008_1) := ⟨by repeat (first | (with_reducible first | exact HI385.out | apply IsS63.alloc | apply IsS63.drewN | apply IsS63.drew | apply IsS63.set_0 | apply IsS63.set_1 | apply IsS63.set_2 | apply IsS63.set_3 | apply IsS63.set_4 | apply IsS63.set_5 | apply IsS63.set_6 | apply IsS63.set_7 | apply IsS63.set_8 | refine IsS63.far ?_ NB385_375.out _ | refine IsS63.far ?_ NB385_399.out _) | exact HI385.out)⟩
           have n3_ : Aside0 (IsS71 w ((((w52.setCell ⟨gb399, 0, none⟩ (.int .i64 ((rd_T34 l1 x9_1).f0))).setCell ⟨gb399, 1, none⟩ (.int .i64 ((rd_T34 l1 x9_1).f1))).setCell ⟨gb399, 2, none⟩ (.int .i64 ((rd_T34 l1 x9_1).f2))).setCell ⟨gb399, 3, none⟩ (.int .i64 ((rd_T34 l1 x9_1).f3))) g396 x397000_1 x397001_1 x397002_1 x397003_1 x397004_1 x397005_1 x397006_1 x397007_1 x397008_1) := ⟨by repeat (first | (with_reducible first | exact HI396.out | apply IsS71.alloc | apply IsS71.drewN | apply IsS71.drew | apply IsS71.set_0 | apply IsS71.set_1 | apply IsS71.set_2 | apply IsS71.set_3 | apply IsS71.set_4 | apply IsS71.set_5 | apply IsS71.set_6 | apply IsS71.set_7 | apply IsS71.set_8 | refine IsS71.far ?_ NB396_375.out _ | refine IsS71.far ?_ NB396_399.out _) | exact HI396.out)⟩
           have n4_ : Aside0 (Below w.heap.size w ((((w52.setCell ⟨gb399, 0, none⟩ (.int .i64 ((rd_T34 l1 x9_1).f0))).setCell ⟨gb399, 1, none⟩ (.int .i64 ((rd_T34 l1 x9_1).f1))).setCell ⟨gb399, 2, none⟩ (.int .i64 ((rd_T34 l1 x9_1).f2))).setCell ⟨gb399, 3, none⟩ (.int .i64 ((rd_T34 l1 x9_1).f3)))) := ⟨by repeat (first | (with_reducible first | exact HB.out | apply below_alloc | apply pw_below_drewN | apply below_drew1 | refine below_set ?_ (IsS63.ge HI385.out) | refine below_set ?_ (IsS71.ge HI396.out) | refine below_set ?_ GE375.out | refine below_set ?_ GE399.out) | exact HB.out)⟩
           (try clear BK375)
           (try clear BK399)
           (try clear HI385)
           (try clear HI396)
           (try clear HB)
           generalize ((((w52.setCell ⟨gb399, 0, none⟩ (.int .i64 ((rd_T34 l1 x9_1).f0))).setCell ⟨gb399, 1, none⟩ (.int .i64 ((rd_T34 l1 x9_1).f1))).setCell ⟨gb399, 2, none⟩ (.int .i64 ((rd_T34 l1 x9_1).f2))).setCell ⟨gb399, 3, none⟩ (.int .i64 ((rd_T34 l1 x9_1).f3))) = w57 at n0_ n1_ n2_ n3_ n4_ ⊢
           have BK375 := n0_
           have BK399 := n1_
           have HI385 := n2_
           have HI396 := n3_
           have HB := n4_
           clear n0_ n1_ n2_ n3_ n4_
           have n0_ := Aside0.mk (blk_drew BK375.out)
           have n1_ := Aside0.mk (blk_drew BK399.out)
           have n2_ := Aside0.mk (IsS63.drew HI385.out)
           have n3_ := Aside0.mk (IsS71.drew HI396.out)
           have n4_ := Aside0.mk (below_drew1 HB.out)
           clear BK375
           clear BK399
           clear HI385
           clear HI396
           clear HB
           have BK375 := n0_
           have BK399 := n1_
           have HI385 := n2_
           have HI396 := n3_
           have HB := n4_
           clear n0_ n1_ n2_ n3_ n4_
           refine start_ (n := 35) (S := fun w' => w'.cell? ⟨gb399, 0, none⟩ = some (.int .i64 ((rd_T34 l1 x9_1).f0)) ∧ w'.cell? ⟨gb399, 1, none⟩ = some (.int .i64 ((rd_T34 l1 x9_1).f1)) ∧ w'.cell? ⟨gb399, 2, none⟩ = some (.int .i64 ((rd_T34 l1 x9_1).f2)) ∧ w'.cell? ⟨gb399, 3, none⟩ = some (.int .i64 ((rd_T34 l1 x9_1).f3))) (ds := []) #[false, false, false, false, false, false, false, false, false, false, false, false, false, false, false, false, false, false, false, false, false, false, false, false, false, false, false, false, false, false, false, false, false, false, false] (by kernel_rfl) rfl rfl ⟨(blk_cell BK399.out 0).trans rfl, (blk_cell BK399.out 1).trans rfl, (blk_cell BK399.out 2).trans rfl, (blk_cell BK399.out 3).trans rfl⟩ (fun hHeld => ?_); refine with_tabW flywheellaw19_AimdPlays.tab9 flywheellaw19_AimdPlays.bits9 (fun HT_ HW_ => ?_)
           generalize w57.drew = w58 at BK375 BK399 HI385 HI396 HB hHeld ⊢
           refine pure_ (i := 0) (N := some 59) (v := ?_) (a' := ?_) (bl 35 1) rfl rfl (any_of HT_.out (by kernel_rfl)) (fun _ _ _ h => h) (Or.inl ⟨by rfl, ?_⟩) ?_ ?_
           rotate_left
           ·intro w'
            go_simp
            with_reducible rfl
           rotate_left
           ·simp only [puts_]
            rfl
           refine pure_ (i := 1) (N := some 60) (v := ?_) (a' := ?_) (bl 35 3) rfl rfl (any_of HT_.out (by kernel_rfl)) (fun _ _ _ h => h) (Or.inl ⟨by rfl, ?_⟩) ?_ ?_
           rotate_left
           ·intro w'
            go_simp
            with_reducible rfl
           rotate_left
           ·simp only [puts_]
            rfl
           refine pure_ (i := 3) (N := some 62) (v := ?_) (a' := ?_) (bl 35 11) rfl rfl (any_of HT_.out (by kernel_rfl)) (fun _ _ _ h => h) (Or.inl ⟨by rfl, ?_⟩) ?_ ?_
           rotate_left
           ·intro w'
            go_simp
            with_reducible rfl
           rotate_left
           ·simp only [puts_]
            rfl
           refine pure_ (i := 5) (N := some 64) (v := ?_) (a' := ?_) (bl 35 43) rfl rfl (any_of HT_.out (by kernel_rfl)) (fun _ _ _ h => h) (Or.inl ⟨by rfl, ?_⟩) ?_ ?_
           rotate_left
           ·intro w'
            go_simp
            with_reducible rfl
           rotate_left
           ·simp only [puts_]
            rfl
           refine pure_ (i := 7) (N := some 66) (v := ?_) (a' := ?_) (bl 35 171) rfl rfl (any_of HT_.out (by kernel_rfl)) (fun _ _ _ h => h) (Or.inl ⟨by rfl, ?_⟩) ?_ ?_
           rotate_left
           ·intro w'
            go_simp
            with_reducible rfl
           rotate_left
           ·simp only [puts_]
            rfl
           refine pure_ (i := 10) (N := some 69) (v := ?_) (a' := ?_) (bl 35 1195) rfl rfl (any_of HT_.out (by kernel_rfl)) (fun _ _ _ h => h) (Or.inl ⟨by rfl, ?_⟩) ?_ ?_
           rotate_left
           ·intro w'
            go_simp
            with_reducible rfl
           rotate_left
           ·simp only [puts_]
            rfl
           refine pure_ (i := 11) (N := some 70) (v := ?_) (a' := ?_) (bl 35 3243) rfl rfl (any_of HT_.out (by kernel_rfl)) (fun _ _ _ h => h) (Or.inl ⟨by rfl, ?_⟩) ?_ ?_
           rotate_left
           ·intro w'
            go_simp
            with_reducible rfl
           rotate_left
           ·simp only [puts_]
            rfl
           refine pure_ (i := 13) (N := some 72) (v := ?_) (a' := ?_) (bl 35 11435) rfl rfl (any_of HT_.out (by kernel_rfl)) (fun _ _ _ h => h) (Or.inl ⟨by rfl, ?_⟩) ?_ ?_
           rotate_left
           ·intro w'
            go_simp
            with_reducible rfl
           rotate_left
           ·simp only [puts_]
            rfl
           refine pure_ (i := 15) (N := some 74) (v := ?_) (a' := ?_) (bl 35 44203) rfl rfl (any_of HT_.out (by kernel_rfl)) (fun _ _ _ h => h) (Or.inl ⟨by rfl, ?_⟩) ?_ ?_
           rotate_left
           ·intro w'
            go_simp
            with_reducible rfl
           rotate_left
           ·simp only [puts_]
            rfl
           refine pure_ (i := 17) (N := some 76) (v := ?_) (a' := ?_) (bl 35 175275) rfl rfl (any_of HT_.out (by kernel_rfl)) (fun _ _ _ h => h) (Or.inl ⟨by rfl, ?_⟩) ?_ ?_
           rotate_left
           ·intro w'
            go_simp
            with_reducible rfl
           rotate_left
           ·simp only [puts_]
            rfl
           refine take_ (i := 2) (N := some 61) (v := ?_) (a' := ?_) (bl 35 175279) rfl rfl (take_ofW HT_.out HW_.out (by kernel_rfl)) (fun _ _ _ h => h) (Or.inl ⟨by rfl, ?_⟩) hHeld ?_ ?_
           rotate_left
           ·rintro w' ⟨s0, s1, s2, s3⟩
            go_simp
            with_reducible rfl
           rotate_left
           ·simp only [puts_]
            rfl
           refine take_ (i := 4) (N := some 63) (v := ?_) (a' := ?_) (bl 35 175295) rfl rfl (take_ofW HT_.out HW_.out (by kernel_rfl)) (fun _ _ _ h => h) (Or.inl ⟨by rfl, ?_⟩) hHeld ?_ ?_
           rotate_left
           ·rintro w' ⟨s0, s1, s2, s3⟩
            go_simp
            with_reducible rfl
           rotate_left
           ·simp only [puts_]
            rfl
           refine take_ (i := 6) (N := some 65) (v := ?_) (a' := ?_) (bl 35 175359) rfl rfl (take_ofW HT_.out HW_.out (by kernel_rfl)) (fun _ _ _ h => h) (Or.inl ⟨by rfl, ?_⟩) hHeld ?_ ?_
           rotate_left
           ·rintro w' ⟨s0, s1, s2, s3⟩
            go_simp
            with_reducible rfl
           rotate_left
           ·simp only [puts_]
            rfl
           refine take_ (i := 8) (N := some 67) (v := ?_) (a' := ?_) (bl 35 175615) rfl rfl (take_ofW HT_.out HW_.out (by kernel_rfl)) (fun _ _ _ h => h) (Or.inl ⟨by rfl, ?_⟩) hHeld ?_ ?_
           rotate_left
           ·rintro w' ⟨s0, s1, s2, s3⟩
            go_simp
            with_reducible rfl
           rotate_left
           ·simp only [puts_]
            rfl
           refine take_ (i := 12) (N := some 71) (v := ?_) (a' := ?_) (bl 35 179711) rfl rfl (take_ofW HT_.out HW_.out (by kernel_rfl)) (fun _ _ _ h => h) (Or.inl ⟨by rfl, ?_⟩) hHeld ?_ ?_
           rotate_left
           ·rintro w' ⟨s0, s1, s2, s3⟩
            go_simp
            with_reducible rfl
           rotate_left
           ·simp only [puts_]
            rfl
           refine take_ (i := 14) (N := some 73) (v := ?_) (a' := ?_) (bl 35 196095) rfl rfl (take_ofW HT_.out HW_.out (by kernel_rfl)) (fun _ _ _ h => h) (Or.inl ⟨by rfl, ?_⟩) hHeld ?_ ?_
           rotate_left
           ·rintro w' ⟨s0, s1, s2, s3⟩
            go_simp
            with_reducible rfl
           rotate_left
           ·simp only [puts_]
            rfl
           refine take_ (i := 16) (N := some 75) (v := ?_) (a' := ?_) (bl 35 261631) rfl rfl (take_ofW HT_.out HW_.out (by kernel_rfl)) (fun _ _ _ h => h) (Or.inl ⟨by rfl, ?_⟩) hHeld ?_ ?_
           rotate_left
           ·rintro w' ⟨s0, s1, s2, s3⟩
            go_simp
            with_reducible rfl
           rotate_left
           ·simp only [puts_]
            rfl
           refine take_ (i := 18) (N := some 77) (v := ?_) (a' := ?_) (bl 35 523775) rfl rfl (take_ofW HT_.out HW_.out (by kernel_rfl)) (fun _ _ _ h => h) (Or.inl ⟨by rfl, ?_⟩) hHeld ?_ ?_
           rotate_left
           ·rintro w' ⟨s0, s1, s2, s3⟩
            go_simp
            with_reducible rfl
           rotate_left
           ·simp only [puts_]
            rfl
           refine one_ (i := 9) (N := some 68) (bl 35 524287) rfl rfl (one_of HT_.out (by kernel_rfl)) (by decide) (fun K hK => ?_)
           refine goes_ Try.func18 (by kernel_rfl) rfl #[.pointer (some ⟨g385, 0, none⟩), .int .i64 ((rd_T34 l1 x9_1).f0), .int .i64 ((rd_T34 l1 x9_1).f1), .int .i64 ((rd_T34 l1 x9_1).f2), .int .i64 ((rd_T34 l1 x9_1).f3)] (by rfl) rfl rfl (by (try simp only [List.map_toArray, List.map_cons, List.map_nil]); first | done | rfl | (simp only [List.length_drop, List.length_take]; rfl)) ?_
           with_reducible refine (aimd_Aimd_Update.calls k1 g385 x386000_1 x386001_1 x386002_1 x386003_1 x386004_1 x386005_1 x386006_1 x386007_1 x386008_1 ((rd_T34 l1 x9_1).f0) ((rd_T34 l1 x9_1).f1) ((rd_T34 l1 x9_1).f2) ((rd_T34 l1 x9_1).f3) t400 t401 t402 t403 t404 t405 t406 t407 t408 t409 w _ ?side1 ?side2 A17.out).mono ?_
           (case side1 => repeat (first | (with_reducible first | exact HI385.out | apply IsS63.alloc | apply IsS63.drewN | apply IsS63.drew | apply IsS63.set_0 | apply IsS63.set_1 | apply IsS63.set_2 | apply IsS63.set_3 | apply IsS63.set_4 | apply IsS63.set_5 | apply IsS63.set_6 | apply IsS63.set_7 | apply IsS63.set_8 | refine IsS63.far ?_ NB385_375.out _ | refine IsS63.far ?_ NB385_399.out _) | exact HI385.out))
           (case side2 => repeat (first | (with_reducible first | exact HB.out | apply below_alloc | apply pw_below_drewN | apply below_drew1 | refine below_set ?_ (IsS63.ge HI385.out) | refine below_set ?_ (IsS71.ge HI396.out) | refine below_set ?_ GE375.out | refine below_set ?_ GE399.out) | exact HB.out))
           rintro e w59 ⟨rfl, hi, hb, hk⟩
           refine ⟨_, rfl, ?_⟩
           have n0_ := Aside0.mk (KeepBut.blk hk (g' := gb375) (o := .cells #[.int .i64 a0_0, .int .i64 a0_1, .int .i64 a0_2] 23 (0, 0)) (by (with_reducible repeat (first | refine blk_drewN ?_ _ | refine blk_drew ?_ | refine blk_alloc ?_ _)); exact BK375.out) NB375_385.out (by simp))
           have n1_ := Aside0.mk (IsS71.keepS (by repeat (first | (with_reducible first | exact HI396.out | apply IsS71.alloc | apply IsS71.drewN | apply IsS71.drew | apply IsS71.set_0 | apply IsS71.set_1 | apply IsS71.set_2 | apply IsS71.set_3 | apply IsS71.set_4 | apply IsS71.set_5 | apply IsS71.set_6 | apply IsS71.set_7 | apply IsS71.set_8 | refine IsS71.far ?_ NB396_375.out _ | refine IsS71.far ?_ NB396_399.out _) | exact HI396.out)) hk NB396_385.out)
           have n2_ := Aside0.mk (KeepBut.blk hk (g' := gb399) (o := .cells #[.int .i64 ((rd_T34 l1 x9_1).f0), .int .i64 ((rd_T34 l1 x9_1).f1), .int .i64 ((rd_T34 l1 x9_1).f2), .int .i64 ((rd_T34 l1 x9_1).f3)] 34 (0, 0)) (by (with_reducible repeat (first | refine blk_drewN ?_ _ | refine blk_drew ?_ | refine blk_alloc ?_ _)); exact BK399.out) NB399_385.out (by simp))
           have n3_ := Aside0.mk (hb)
           have n4_ := Aside0.mk (hi)
           clear BK375
           clear HI396
           clear BK399
           clear HB
           clear HI385
           have BK375 := n0_
           have HI396 := n1_
           have BK399 := n2_
           have HB := n3_
           have HI385 := n4_
           clear n0_ n1_ n2_ n3_ n4_
           (try clear hb)
           (try clear hb2)
           (try clear hk)
           (try clear hi)
           refine hK.out _ _ ⟨(blk_cell BK399.out 0).trans rfl, (blk_cell BK399.out 1).trans rfl, (blk_cell BK399.out 2).trans rfl, (blk_cell BK399.out 3).trans rfl⟩ (fun hHeld => ?_)
           clear hK K
           refine norm_ (a' := ?_) ?_ ?_
           rotate_left
           ·show Act.put _ (some 68) _ = _
            simp only [puts_]
            rfl
           refine one_ (i := 19) (N := some 78) (bl 35 1048575) rfl rfl (one_of HT_.out (by kernel_rfl)) (by decide) (fun K hK => ?_)
           refine goes_ Try.func21 (by kernel_rfl) rfl #[.pointer (some ⟨g396, 0, none⟩), .int .i64 ((rd_T34 l1 x9_1).f0), .int .i64 ((rd_T34 l1 x9_1).f1), .int .i64 ((rd_T34 l1 x9_1).f2), .int .i64 ((rd_T34 l1 x9_1).f3)] (by rfl) rfl rfl (by (try simp only [List.map_toArray, List.map_cons, List.map_nil]); first | done | rfl | (simp only [List.length_drop, List.length_take]; rfl)) ?_
           with_reducible refine (flywheelref19_Aimd_Update.calls k1 g396 x397000_1 x397001_1 x397002_1 x397003_1 x397004_1 x397005_1 x397006_1 x397007_1 x397008_1 ((rd_T34 l1 x9_1).f0) ((rd_T34 l1 x9_1).f1) ((rd_T34 l1 x9_1).f2) ((rd_T34 l1 x9_1).f3) t410 t411 t412 t413 t414 t415 t416 t417 t418 t419 w _ ?side1 ?side2 A18.out).mono ?_
           (case side1 => repeat (first | (with_reducible first | exact HI396.out | apply IsS71.alloc | apply IsS71.drewN | apply IsS71.drew | apply IsS71.set_0 | apply IsS71.set_1 | apply IsS71.set_2 | apply IsS71.set_3 | apply IsS71.set_4 | apply IsS71.set_5 | apply IsS71.set_6 | apply IsS71.set_7 | apply IsS71.set_8 | refine IsS71.far ?_ NB396_375.out _ | refine IsS71.far ?_ NB396_399.out _) | exact HI396.out))
           (case side2 => repeat (first | (with_reducible first | exact HB.out | apply below_alloc | apply pw_below_drewN | apply below_drew1 | refine below_set ?_ (IsS63.ge HI385.out) | refine below_set ?_ (IsS71.ge HI396.out) | refine below_set ?_ GE375.out | refine below_set ?_ GE399.out) | exact HB.out))
           rintro e w60 ⟨rfl, hi, hb, hk⟩
           refine ⟨_, rfl, ?_⟩
           have n0_ := Aside0.mk (KeepBut.blk hk (g' := gb375) (o := .cells #[.int .i64 a0_0, .int .i64 a0_1, .int .i64 a0_2] 23 (0, 0)) (by (with_reducible repeat (first | refine blk_drewN ?_ _ | refine blk_drew ?_ | refine blk_alloc ?_ _)); exact BK375.out) NB375_396.out (by simp))
           have n1_ := Aside0.mk (IsS63.keepS (by repeat (first | (with_reducible first | exact HI385.out | apply IsS63.alloc | apply IsS63.drewN | apply IsS63.drew | apply IsS63.set_0 | apply IsS63.set_1 | apply IsS63.set_2 | apply IsS63.set_3 | apply IsS63.set_4 | apply IsS63.set_5 | apply IsS63.set_6 | apply IsS63.set_7 | apply IsS63.set_8 | refine IsS63.far ?_ NB385_375.out _ | refine IsS63.far ?_ NB385_399.out _) | exact HI385.out)) hk NB385_396.out)
           have n2_ := Aside0.mk (KeepBut.blk hk (g' := gb399) (o := .cells #[.int .i64 ((rd_T34 l1 x9_1).f0), .int .i64 ((rd_T34 l1 x9_1).f1), .int .i64 ((rd_T34 l1 x9_1).f2), .int .i64 ((rd_T34 l1 x9_1).f3)] 34 (0, 0)) (by (with_reducible repeat (first | refine blk_drewN ?_ _ | refine blk_drew ?_ | refine blk_alloc ?_ _)); exact BK399.out) NB399_396.out (by simp))
           have n3_ := Aside0.mk (hb)
           have n4_ := Aside0.mk (hi)
           clear BK375
           clear HI385
           clear BK399
           clear HB
           clear HI396
           have BK375 := n0_
           have HI385 := n1_
           have BK399 := n2_
           have HB := n3_
           have HI396 := n4_
           clear n0_ n1_ n2_ n3_ n4_
           (try clear hb)
           (try clear hb2)
           (try clear hk)
           (try clear hi)
           refine hK.out _ _ ⟨(blk_cell BK399.out 0).trans rfl, (blk_cell BK399.out 1).trans rfl, (blk_cell BK399.out 2).trans rfl, (blk_cell BK399.out 3).trans rfl⟩ (fun hHeld => ?_)
           clear hK K
           refine norm_ (a' := ?_) ?_ ?_
           rotate_left
           ·show Act.put _ (some 78) _ = _
            simp only [puts_]
            rfl
           refine pure_ (i := 20) (N := some 79) (v := ?_) (a' := ?_) (bl 35 2097151) rfl rfl (any_of HT_.out (by kernel_rfl)) (fun _ _ _ h => h) (Or.inl ⟨by rfl, ?_⟩) ?_ ?_
           rotate_left
           ·intro w'
            go_simp
            with_reducible rfl
           rotate_left
           ·simp only [puts_]
            rfl
           refine pure_ (i := 21) (N := some 80) (v := ?_) (a' := ?_) (bl 35 4194303) rfl rfl (any_of HT_.out (by kernel_rfl)) (fun _ _ _ h => h) (Or.inl ⟨by rfl, ?_⟩) ?_ ?_
           rotate_left
           ·intro w'
            go_simp
            with_reducible rfl
           rotate_left
           ·simp only [puts_]
            rfl
           refine pure_ (i := 22) (N := some 81) (v := ?_) (a' := ?_) (bl 35 8388607) rfl rfl (any_of HT_.out (by kernel_rfl)) (fun _ _ _ h => h) (Or.inl ⟨by rfl, ?_⟩) ?_ ?_
           rotate_left
           ·intro w'
            go_simp
            with_reducible rfl
           rotate_left
           ·simp only [puts_]
            rfl
           refine pure_ (i := 24) (N := some 83) (v := ?_) (a' := ?_) (bl 35 25165823) rfl rfl (any_of HT_.out (by kernel_rfl)) (fun _ _ _ h => h) (Or.inl ⟨by rfl, ?_⟩) ?_ ?_
           rotate_left
           ·intro w'
            go_simp
            with_reducible rfl
           rotate_left
           ·simp only [puts_]
            rfl
           refine one_ (i := 23) (N := some 82) (bl 35 33554431) rfl rfl (one_of HT_.out (by kernel_rfl)) (by decide) (fun K hK => ?_)
           refine goes_ Try.func17 (by kernel_rfl) rfl #[.pointer (some ⟨g385, 0, none⟩)] (by rfl) rfl rfl (by (try simp only [List.map_toArray, List.map_cons, List.map_nil]); first | done | rfl | (simp only [List.length_drop, List.length_take]; rfl)) ?_
           with_reducible refine (aimd_Aimd_Rate.calls g385 t401 t402 t403 t404 t405 t406 t407 t408 t409 t420 t421 t422 t423 t424 t425 t426 t427 t428 t429 w _ ?side1 ?side2 A20.out).mono ?_
           (case side1 => repeat (first | (with_reducible first | exact HI385.out | apply IsS63.alloc | apply IsS63.drewN | apply IsS63.drew | apply IsS63.set_0 | apply IsS63.set_1 | apply IsS63.set_2 | apply IsS63.set_3 | apply IsS63.set_4 | apply IsS63.set_5 | apply IsS63.set_6 | apply IsS63.set_7 | apply IsS63.set_8 | refine IsS63.far ?_ NB385_375.out _ | refine IsS63.far ?_ NB385_399.out _) | exact HI385.out))
           (case side2 => repeat (first | (with_reducible first | exact HB.out | apply below_alloc | apply pw_below_drewN | apply below_drew1 | refine below_set ?_ (IsS63.ge HI385.out) | refine below_set ?_ (IsS71.ge HI396.out) | refine below_set ?_ GE375.out | refine below_set ?_ GE399.out) | exact HB.out))
           rintro e w61 ⟨rfl, hi, hb, hk⟩
           refine ⟨_, rfl, ?_⟩
           have n0_ := Aside0.mk (KeepBut.blk hk (g' := gb375) (o := .cells #[.int .i64 a0_0, .int .i64 a0_1, .int .i64 a0_2] 23 (0, 0)) (by (with_reducible repeat (first | refine blk_drewN ?_ _ | refine blk_drew ?_ | refine blk_alloc ?_ _)); exact BK375.out) NB375_385.out (by simp))
           have n1_ := Aside0.mk (IsS71.keepS (by repeat (first | (with_reducible first | exact HI396.out | apply IsS71.alloc | apply IsS71.drewN | apply IsS71.drew | apply IsS71.set_0 | apply IsS71.set_1 | apply IsS71.set_2 | apply IsS71.set_3 | apply IsS71.set_4 | apply IsS71.set_5 | apply IsS71.set_6 | apply IsS71.set_7 | apply IsS71.set_8 | refine IsS71.far ?_ NB396_375.out _ | refine IsS71.far ?_ NB396_399.out _) | exact HI396.out)) hk NB396_385.out)
           have n2_ := Aside0.mk (KeepBut.blk hk (g' := gb399) (o := .cells #[.int .i64 ((rd_T34 l1 x9_1).f0), .int .i64 ((rd_T34 l1 x9_1).f1), .int .i64 ((rd_T34 l1 x9_1).f2), .int .i64 ((rd_T34 l1 x9_1).f3)] 34 (0, 0)) (by (with_reducible repeat (first | refine blk_drewN ?_ _ | refine blk_drew ?_ | refine blk_alloc ?_ _)); exact BK399.out) NB399_385.out (by simp))
           have n3_ := Aside0.mk (hb)
           have n4_ := Aside0.mk (hi)
           clear BK375
           clear HI396
           clear BK399
           clear HB
           clear HI385
           have BK375 := n0_
           have HI396 := n1_
           have BK399 := n2_
           have HB := n3_
           have HI385 := n4_
           clear n0_ n1_ n2_ n3_ n4_
           (try clear hb)
           (try clear hb2)
           (try clear hk)
           (try clear hi)
           refine hK.out _ _ ⟨(blk_cell BK399.out 0).trans rfl, (blk_cell BK399.out 1).trans rfl, (blk_cell BK399.out 2).trans rfl, (blk_cell BK399.out 3).trans rfl⟩ (fun hHeld => ?_)
           clear hK K
           refine norm_ (a' := ?_) ?_ ?_
           rotate_left
           ·show Act.put _ (some 82) _ = _
            simp only [puts_]
            rfl
           refine one_ (i := 25) (N := some 84) (bl 35 67108863) rfl rfl (one_of HT_.out (by kernel_rfl)) (by decide) (fun K hK => ?_)
           refine goes_ Try.func22 (by kernel_rfl) rfl #[.pointer (some ⟨g396, 0, none⟩)] (by rfl) rfl rfl (by (try simp only [List.map_toArray, List.map_cons, List.map_nil]); first | done | rfl | (simp only [List.length_drop, List.length_take]; rfl)) ?_
           with_reducible refine (flywheelref19_Aimd_Rate.calls g396 t411 t412 t413 t414 t415 t416 t417 t418 t419 t430 t431 t432 t433 t434 t435 t436 t437 t438 t439 w _ ?side1 ?side2 A21.out).mono ?_
           (case side1 => repeat (first | (with_reducible first | exact HI396.out | apply IsS71.alloc | apply IsS71.drewN | apply IsS71.drew | apply IsS71.set_0 | apply IsS71.set_1 | apply IsS71.set_2 | apply IsS71.set_3 | apply IsS71.set_4 | apply IsS71.set_5 | apply IsS71.set_6 | apply IsS71.set_7 | apply IsS71.set_8 | refine IsS71.far ?_ NB396_375.out _ | refine IsS71.far ?_ NB396_399.out _) | exact HI396.out))
           (case side2 => repeat (first | (with_reducible first | exact HB.out | apply below_alloc | apply pw_below_drewN | apply below_drew1 | refine below_set ?_ (IsS63.ge HI385.out) | refine below_set ?_ (IsS71.ge HI396.out) | refine below_set ?_ GE375.out | refine below_set ?_ GE399.out) | exact HB.out))
           rintro e w62 ⟨rfl, hi, hb, hk⟩
           refine ⟨_, rfl, ?_⟩
           have n0_ := Aside0.mk (KeepBut.blk hk (g' := gb375) (o := .cells #[.int .i64 a0_0, .int .i64 a0_1, .int .i64 a0_2] 23 (0, 0)) (by (with_reducible repeat (first | refine blk_drewN ?_ _ | refine blk_drew ?_ | refine blk_alloc ?_ _)); exact BK375.out) NB375_396.out (by simp))
           have n1_ := Aside0.mk (IsS63.keepS (by repeat (first | (with_reducible first | exact HI385.out | apply IsS63.alloc | apply IsS63.drewN | apply IsS63.drew | apply IsS63.set_0 | apply IsS63.set_1 | apply IsS63.set_2 | apply IsS63.set_3 | apply IsS63.set_4 | apply IsS63.set_5 | apply IsS63.set_6 | apply IsS63.set_7 | apply IsS63.set_8 | refine IsS63.far ?_ NB385_375.out _ | refine IsS63.far ?_ NB385_399.out _) | exact HI385.out)) hk NB385_396.out)
           have n2_ := Aside0.mk (KeepBut.blk hk (g' := gb399) (o := .cells #[.int .i64 ((rd_T34 l1 x9_1).f0), .int .i64 ((rd_T34 l1 x9_1).f1), .int .i64 ((rd_T34 l1 x9_1).f2), .int .i64 ((rd_T34 l1 x9_1).f3)] 34 (0, 0)) (by (with_reducible repeat (first | refine blk_drewN ?_ _ | refine blk_drew ?_ | refine blk_alloc ?_ _)); exact BK399.out) NB399_396.out (by simp))
           have n3_ := Aside0.mk (hb)
           have n4_ := Aside0.mk (hi)
           clear BK375
           clear HI385
           clear BK399
           clear HB
           clear HI396
           have BK375 := n0_
           have HI385 := n1_
           have BK399 := n2_
           have HB := n3_
           have HI396 := n4_
           clear n0_ n1_ n2_ n3_ n4_
           (try clear hb)
           (try clear hb2)
           (try clear hk)
           (try clear hi)
           refine hK.out _ _ ⟨(blk_cell BK399.out 0).trans rfl, (blk_cell BK399.out 1).trans rfl, (blk_cell BK399.out 2).trans rfl, (blk_cell BK399.out 3).trans rfl⟩ (fun hHeld => ?_)
           clear hK K
           refine norm_ (a' := ?_) ?_ ?_
           rotate_left
           ·show Act.put _ (some 84) _ = _
            simp only [puts_]
            rfl
           refine pure_ (i := 26) (N := some 85) (v := ?_) (a' := ?_) (bl 35 134217727) rfl rfl (any_of HT_.out (by kernel_rfl)) (fun _ _ _ h => h) (Or.inl ⟨by rfl, ?_⟩) ?_ ?_
           rotate_left
           ·intro w'
            go_simp
            with_reducible rfl
           rotate_left
           ·simp only [puts_]
            rfl
           refine pure_ (i := 27) (N := some 86) (v := ?_) (a' := ?_) (bl 35 268435455) rfl rfl (any_of HT_.out (by kernel_rfl)) (fun _ _ _ h => h) (Or.inl ⟨by rfl, ?_⟩) ?_ ?_
           rotate_left
           ·intro w'
            go_simp
            with_reducible rfl
           rotate_left
           ·simp only [puts_]
            rfl
           refine pure_ (i := 28) (N := some 87) (v := ?_) (a' := ?_) (bl 35 536870911) rfl rfl (any_of HT_.out (by kernel_rfl)) (fun _ _ _ h => h) (Or.inl ⟨by rfl, ?_⟩) ?_ ?_
           rotate_left
           ·intro w'
            go_simp
            with_reducible rfl
           rotate_left
           ·simp only [puts_]
            rfl
           refine pure_ (i := 29) (N := some 88) (v := undef) (a' := ?_) (bl 35 1073741823) rfl rfl (any_of HT_.out (by kernel_rfl)) (fun _ _ _ h => h) (Or.inr ⟨by rfl, rfl⟩) ?_ ?_
           rotate_left
           ·simp only [puts_]
            rfl
           refine pure_ (i := 30) (N := some 89) (v := undef) (a' := ?_) (bl 35 2147483647) rfl rfl (any_of HT_.out (by kernel_rfl)) (fun _ _ _ h => h) (Or.inr ⟨by rfl, rfl⟩) ?_ ?_
           rotate_left
           ·simp only [puts_]
            rfl
           refine pure_ (i := 31) (N := some 90) (v := undef) (a' := ?_) (bl 35 4294967295) rfl rfl (any_of HT_.out (by kernel_rfl)) (fun _ _ _ h => h) (Or.inr ⟨by rfl, rfl⟩) ?_ ?_
           rotate_left
           ·simp only [puts_]
            rfl
           refine pure_ (i := 32) (N := some 91) (v := undef) (a' := ?_) (bl 35 8589934591) rfl rfl (any_of HT_.out (by kernel_rfl)) (fun _ _ _ h => h) (Or.inr ⟨by rfl, rfl⟩) ?_ ?_
           rotate_left
           ·simp only [puts_]
            rfl
           refine pure_ (i := 33) (N := some 92) (v := undef) (a' := ?_) (bl 35 17179869183) rfl rfl (any_of HT_.out (by kernel_rfl)) (fun _ _ _ h => h) (Or.inr ⟨by rfl, rfl⟩) ?_ ?_
           rotate_left
           ·simp only [puts_]
            rfl
           refine pure_ (i := 34) (N := some 93) (v := ?_) (a' := ?_) (bl 35 34359738367) rfl rfl (any_of HT_.out (by kernel_rfl)) (fun _ _ _ h => h) (Or.inl ⟨by rfl, ?_⟩) ?_ ?_
           rotate_left
           ·intro w'
            go_simp
            with_reducible rfl
           rotate_left
           ·simp only [puts_]
            rfl
           refine done_ (done_of HT_.out (by kernel_rfl)) ?_
           try go_wp2
           go_ret
           exact ⟨by first | rfl | (simp [errW_none, errW_some] <;> rfl) | (simp [*, errW_none, errW_some] <;> rfl), by repeat (first | (with_reducible first | exact HB.out | apply below_alloc | apply pw_below_drewN | apply below_drew1 | refine below_set ?_ (IsS63.ge HI385.out) | refine below_set ?_ (IsS71.ge HI396.out) | refine below_set ?_ GE375.out | refine below_set ?_ GE399.out) | exact HB.out)⟩
         ·rw [if_neg c19] at H
          have c19b0 : (t400 == t410) = false := beq_eq_false_iff_ne.mpr c19
          have c19b1 : (t400 != t410) = true := bne_iff_ne.mpr c19
          obtain rfl := Option.some.inj H
          have p398 : 0 ≤ (x9_1 : Int) := of_decide_eq_true (by first | (with_reducible assumption) | assumption)
          have q398 : x9_1 < (l1.length : Int) := of_decide_eq_true (by first | (with_reducible assumption) | assumption)
          obtain ⟨ad398, e398, hx398_0, hx398_1, hx398_2, hx398_3⟩ := at_T34 HR1.out x9_1 p398 q398
          cases e398
          replace hx398_0 := (HB.out.cell (World.block_lt_of_cell? w _ hx398_0)).trans hx398_0
          replace hx398_1 := (HB.out.cell (World.block_lt_of_cell? w _ hx398_1)).trans hx398_1
          replace hx398_2 := (HB.out.cell (World.block_lt_of_cell? w _ hx398_2)).trans hx398_2
          replace hx398_3 := (HB.out.cell (World.block_lt_of_cell? w _ hx398_3)).trans hx398_3
          replace p398 := eq_true p398
          replace q398 := eq_true q398
          try go_wp2_with (first | ((with_reducible refine gate_dst (N := 10) rfl ?_); refine box_event ?hg (N := 10) ?hd (cs := #[.int .i64 0, .int .i64 0, .int .i64 0, .int .i64 0]) (t := 34) ?hr ?_; (case hd => rfl); (case hg => rfl); (case hr => first | (go_simp; done) | (go_simp; rfl)); intro gb399 hg w63 hbox hb; have n0_ := Aside0.mk (blk_below (g := gb375) (o := .cells #[.int .i64 a0_0, .int .i64 a0_1, .int .i64 a0_2] 23 (0, 0)) (by (with_reducible repeat (first | refine blk_drewN ?_ _ | refine blk_drew ?_ | refine blk_alloc ?_ _)); exact BK375.out) hb); have n1_ := Aside0.mk (IsS63.below (by repeat (first | (with_reducible first | exact HI385.out | apply IsS63.alloc | apply IsS63.drewN | apply IsS63.drew | apply IsS63.set_0 | apply IsS63.set_1 | apply IsS63.set_2 | apply IsS63.set_3 | apply IsS63.set_4 | apply IsS63.set_5 | apply IsS63.set_6 | apply IsS63.set_7 | apply IsS63.set_8 | refine IsS63.far ?_ NB385_375.out _) | exact HI385.out)) hb); have n2_ := Aside0.mk (IsS71.below (by repeat (first | (with_reducible first | exact HI396.out | apply IsS71.alloc | apply IsS71.drewN | apply IsS71.drew | apply IsS71.set_0 | apply IsS71.set_1 | apply IsS71.set_2 | apply IsS71.set_3 | apply IsS71.set_4 | apply IsS71.set_5 | apply IsS71.set_6 | apply IsS71.set_7 | apply IsS71.set_8 | refine IsS71.far ?_ NB396_375.out _) | exact HI396.out)) hb); have n3_ := Aside0.mk (below_step (by repeat (first | (with_reducible first | exact HB.out | apply below_alloc | apply pw_below_drewN | apply below_drew1 | refine below_set ?_ (IsS63.ge HI385.out) | refine below_set ?_ (IsS71.ge HI396.out) | refine below_set ?_ GE375.out) | exact HB.out)) hb); have n4_ := Aside0.mk (hbox); have n5_ := Aside0.mk ((by rw [hg]; exact (below_size (by repeat (first | (with_reducible first | exact HB.out | apply below_alloc | apply pw_below_drewN | apply below_drew1 | refine below_set ?_ (IsS63.ge HI385.out) | refine below_set ?_ (IsS71.ge HI396.out) | refine below_set ?_ GE375.out) | exact HB.out))) : w.heap.size ≤ gb399)); have n6_ := Aside0.mk ((by rw [hg]; exact (below_size (by repeat (first | (with_reducible first | exact HB.out | apply below_alloc | apply pw_below_drewN | apply below_drew1 | refine below_set ?_ (IsS63.ge HI385.out) | refine below_set ?_ (IsS71.ge HI396.out) | refine below_set ?_ GE375.out) | exact HB.out))) : w.heap.size ≤ gb399)); have n7_ := Aside0.mk ((by rw [hg]; exact Nat.ne_of_lt (blk_lt (g := gb375) (o := .cells #[.int .i64 a0_0, .int .i64 a0_1, .int .i64 a0_2] 23 (0, 0)) (by (with_reducible repeat (first | refine blk_drewN ?_ _ | refine blk_drew ?_ | refine blk_alloc ?_ _)); exact BK375.out)) : gb375 ≠ gb399)); have n8_ := Aside0.mk ((by rw [hg]; exact Nat.ne_of_gt (blk_lt (g := gb375) (o := .cells #[.int .i64 a0_0, .int .i64 a0_1, .int .i64 a0_2] 23 (0, 0)) (by (with_reducible repeat (first | refine blk_drewN ?_ _ | refine blk_drew ?_ | refine blk_alloc ?_ _)); exact BK375.out)) : gb399 ≠ gb375)); have n9_ := Aside0.mk ((by rw [hg]; exact Nat.ne_of_lt (IsS63.lt (show IsS63 w _ g385 x386000_1 x386001_1 x386002_1 x386003_1 x386004_1 x386005_1 x386006_1 x386007_1 x386008_1 from by repeat (first | (with_reducible first | exact HI385.out | apply IsS63.alloc | apply IsS63.drewN | apply IsS63.drew | apply IsS63.set_0 | apply IsS63.set_1 | apply IsS63.set_2 | apply IsS63.set_3 | apply IsS63.set_4 | apply IsS63.set_5 | apply IsS63.set_6 | apply IsS63.set_7 | apply IsS63.set_8 | refine IsS63.far ?_ NB385_375.out _) | exact HI385.out))) : g385 ≠ gb399)); have n10_ := Aside0.mk ((by rw [hg]; exact Nat.ne_of_gt (IsS63.lt (show IsS63 w _ g385 x386000_1 x386001_1 x386002_1 x386003_1 x386004_1 x386005_1 x386006_1 x386007_1 x386008_1 from by repeat (first | (with_reducible first | exact HI385.out | apply IsS63.alloc | apply IsS63.drewN | apply IsS63.drew | apply IsS63.set_0 | apply IsS63.set_1 | apply IsS63.set_2 | apply IsS63.set_3 | apply IsS63.set_4 | apply IsS63.set_5 | apply IsS63.set_6 | apply IsS63.set_7 | apply IsS63.set_8 | refine IsS63.far ?_ NB385_375.out _) | exact HI385.out))) : gb399 ≠ g385)); have n11_ := Aside0.mk ((by rw [hg]; exact Nat.ne_of_lt (IsS71.lt (show IsS71 w _ g396 x397000_1 x397001_1 x397002_1 x397003_1 x397004_1 x397005_1 x397006_1 x397007_1 x397008_1 from by repeat (first | (with_reducible first | exact HI396.out | apply IsS71.alloc | apply IsS71.drewN | apply IsS71.drew | apply IsS71.set_0 | apply IsS71.set_1 | apply IsS71.set_2 | apply IsS71.set_3 | apply IsS71.set_4 | apply IsS71.set_5 | apply IsS71.set_6 | apply IsS71.set_7 | apply IsS71.set_8 | refine IsS71.far ?_ NB396_375.out _) | exact HI396.out))) : g396 ≠ gb399)); have n12_ := Aside0.mk ((by rw [hg]; exact Nat.ne_of_gt (IsS71.lt (show IsS71 w _ g396 x397000_1 x397001_1 x397002_1 x397003_1 x397004_1 x397005_1 x397006_1 x397007_1 x397008_1 from by repeat (first | (with_reducible first | exact HI396.out | apply IsS71.alloc | apply IsS71.drewN | apply IsS71.drew | apply IsS71.set_0 | apply IsS71.set_1 | apply IsS71.set_2 | apply IsS71.set_3 | apply IsS71.set_4 | apply IsS71.set_5 | apply IsS71.set_6 | apply IsS71.set_7 | apply IsS71.set_8 | refine IsS71.far ?_ NB396_375.out _) | exact HI396.out))) : gb399 ≠ g396)); clear BK375; clear HI385; clear HI396; clear HB; have BK375 := n0_; have HI385 := n1_; have HI396 := n2_; have HB := n3_; have BK399 := n4_; have GW399 := n5_; have GE399 := n6_; have NB375_399 := n7_; have NB399_375 := n8_; have NB385_399 := n9_; have NB399_385 := n10_; have NB396_399 := n11_; have NB399_396 := n12_; clear n0_ n1_ n2_ n3_ n4_ n5_ n6_ n7_ n8_ n9_ n10_ n11_ n12_; clear hb hbox hg; have hnb64 := NB399_375.out; have hnc64 := NB375_399.out; have hnb65 := NB399_385.out; have hnc65 := NB385_399.out; have hnb66 := NB399_396.out; have hnc66 := NB396_399.out; have hcz67_0 : w63.cell? ⟨gb399, 0, none⟩ = some (.int .i64 0) := (blk_cell BK399.out 0).trans rfl; have hcz67_1 : w63.cell? ⟨gb399, 1, none⟩ = some (.int .i64 0) := (blk_cell BK399.out 1).trans rfl; have hcz67_2 : w63.cell? ⟨gb399, 2, none⟩ = some (.int .i64 0) := (blk_cell BK399.out 2).trans rfl; have hcz67_3 : w63.cell? ⟨gb399, 3, none⟩ = some (.int .i64 0) := (blk_cell BK399.out 3).trans rfl; have hfz67_0 := blk_frozen BK399.out 0; have hfz67_1 := blk_frozen BK399.out 1; have hfz67_2 := blk_frozen BK399.out 2; have hfz67_3 := blk_frozen BK399.out 3))
          have n0_ : Aside0 (((((w63.setCell ⟨gb399, 0, none⟩ (.int .i64 ((rd_T34 l1 x9_1).f0))).setCell ⟨gb399, 1, none⟩ (.int .i64 ((rd_T34 l1 x9_1).f1))).setCell ⟨gb399, 2, none⟩ (.int .i64 ((rd_T34 l1 x9_1).f2))).setCell ⟨gb399, 3, none⟩ (.int .i64 ((rd_T34 l1 x9_1).f3))).heap[gb375]? = some (.cells #[.int .i64 a0_0, .int .i64 a0_1, .int .i64 a0_2] 23 (0, 0))) := ⟨by (with_reducible repeat (first | refine blk_drewN ?_ _ | refine blk_drew ?_ | refine blk_alloc ?_ _)); refine blk_far ?_ NB375_399.out _; (with_reducible repeat (first | refine blk_drewN ?_ _ | refine blk_drew ?_ | refine blk_alloc ?_ _)); refine blk_far ?_ NB375_399.out _; (with_reducible repeat (first | refine blk_drewN ?_ _ | refine blk_drew ?_ | refine blk_alloc ?_ _)); refine blk_far ?_ NB375_399.out _; (with_reducible repeat (first | refine blk_drewN ?_ _ | refine blk_drew ?_ | refine blk_alloc ?_ _)); refine blk_far ?_ NB375_399.out _; (with_reducible repeat (first | refine blk_drewN ?_ _ | refine blk_drew ?_ | refine blk_alloc ?_ _)); exact BK375.out⟩
          have n1_ : Aside0 (((((w63.setCell ⟨gb399, 0, none⟩ (.int .i64 ((rd_T34 l1 x9_1).f0))).setCell ⟨gb399, 1, none⟩ (.int .i64 ((rd_T34 l1 x9_1).f1))).setCell ⟨gb399, 2, none⟩ (.int .i64 ((rd_T34 l1 x9_1).f2))).setCell ⟨gb399, 3, none⟩ (.int .i64 ((rd_T34 l1 x9_1).f3))).heap[gb399]? = some (.cells #[.int .i64 ((rd_T34 l1 x9_1).f0), .int .i64 ((rd_T34 l1 x9_1).f1), .int .i64 ((rd_T34 l1 x9_1).f2), .int .i64 ((rd_T34 l1 x9_1).f3)] 34 (0, 0))) := ⟨by (with_reducible repeat (first | refine blk_drewN ?_ _ | refine blk_drew ?_ | refine blk_alloc ?_ _)); refine blk_put (cs := #[.int .i64 ((rd_T34 l1 x9_1).f0), .int .i64 ((rd_T34 l1 x9_1).f1), .int .i64 ((rd_T34 l1 x9_1).f2), .int .i64 0]) ?_ 3 _ rfl; (with_reducible repeat (first | refine blk_drewN ?_ _ | refine blk_drew ?_ | refine blk_alloc ?_ _)); refine blk_put (cs := #[.int .i64 ((rd_T34 l1 x9_1).f0), .int .i64 ((rd_T34 l1 x9_1).f1), .int .i64 0, .int .i64 0]) ?_ 2 _ rfl; (with_reducible repeat (first | refine blk_drewN ?_ _ | refine blk_drew ?_ | refine blk_alloc ?_ _)); refine blk_put (cs := #[.int .i64 ((rd_T34 l1 x9_1).f0), .int .i64 0, .int .i64 0, .int .i64 0]) ?_ 1 _ rfl; (with_reducible repeat (first | refine blk_drewN ?_ _ | refine blk_drew ?_ | refine blk_alloc ?_ _)); refine blk_put (cs := #[.int .i64 0, .int .i64 0, .int .i64 0, .int .i64 0]) ?_ 0 _ rfl; (with_reducible repeat (first | refine blk_drewN ?_ _ | refine blk_drew ?_ | refine blk_alloc ?_ _)); exact BK399.out⟩
          have n2_ : Aside0 (IsS63 w ((((w63.setCell ⟨gb399, 0, none⟩ (.int .i64 ((rd_T34 l1 x9_1).f0))).setCell ⟨gb399, 1, none⟩ (.int .i64 ((rd_T34 l1 x9_1).f1))).setCell ⟨gb399, 2, none⟩ (.int .i64 ((rd_T34 l1 x9_1).f2))).setCell ⟨gb399, 3, none⟩ (.int .i64 ((rd_T34 l1 x9_1).f3))) g385 x386000_1 x386001_1 x386002_1 x386003_1 x386004_1 x386005_1 x386006_1 x386007_1 x386008_1) := ⟨by repeat (first | (with_reducible first | exact HI385.out | apply IsS63.alloc | apply IsS63.drewN | apply IsS63.drew | apply IsS63.set_0 | apply IsS63.set_1 | apply IsS63.set_2 | apply IsS63.set_3 | apply IsS63.set_4 | apply IsS63.set_5 | apply IsS63.set_6 | apply IsS63.set_7 | apply IsS63.set_8 | refine IsS63.far ?_ NB385_375.out _ | refine IsS63.far ?_ NB385_399.out _) | exact HI385.out)⟩
          have n3_ : Aside0 (IsS71 w ((((w63.setCell ⟨gb399, 0, none⟩ (.int .i64 ((rd_T34 l1 x9_1).f0))).setCell ⟨gb399, 1, none⟩ (.int .i64 ((rd_T34 l1 x9_1).f1))).setCell ⟨gb399, 2, none⟩ (.int .i64 ((rd_T34 l1 x9_1).f2))).setCell ⟨gb399, 3, none⟩ (.int .i64 ((rd_T34 l1 x9_1).f3))) g396 x397000_1 x397001_1 x397002_1 x397003_1 x397004_1 x397005_1 x397006_1 x397007_1 x397008_1) := ⟨by repeat (first | (with_reducible first | exact HI396.out | apply IsS71.alloc | apply IsS71.drewN | apply IsS71.drew | apply IsS71.set_0 | apply IsS71.set_1 | apply IsS71.set_2 | apply IsS71.set_3 | apply IsS71.set_4 | apply IsS71.set_5 | apply IsS71.set_6 | apply IsS71.set_7 | apply IsS71.set_8 | refine IsS71.far ?_ NB396_375.out _ | refine IsS71.far ?_ NB396_399.out _) | exact HI396.out)⟩
          have n4_ : Aside0 (Below w.heap.size w ((((w63.setCell ⟨gb399, 0, none⟩ (.int .i64 ((rd_T34 l1 x9_1).f0))).setCell ⟨gb399, 1, none⟩ (.int .i64 ((rd_T34 l1 x9_1).f1))).setCell ⟨gb399, 2, none⟩ (.int .i64 ((rd_T34 l1 x9_1).f2))).setCell ⟨gb399, 3, none⟩ (.int .i64 ((rd_T34 l1 x9_1).f3)))) := ⟨by repeat (first | (with_reducible first | exact HB.out | apply below_alloc | apply pw_below_drewN | apply below_drew1 | refine below_set ?_ (IsS63.ge HI385.out) | refine below_set ?_ (IsS71.ge HI396.out) | refine below_set ?_ GE375.out | refine below_set ?_ GE399.out) | exact HB.out)⟩
          (try clear BK375)
          (try clear BK399)
          (try clear HI385)
          (try clear HI396)
          (try clear HB)
          generalize ((((w63.setCell ⟨gb399, 0, none⟩ (.int .i64 ((rd_T34 l1 x9_1).f0))).setCell ⟨gb399, 1, none⟩ (.int .i64 ((rd_T34 l1 x9_1).f1))).setCell ⟨gb399, 2, none⟩ (.int .i64 ((rd_T34 l1 x9_1).f2))).setCell ⟨gb399, 3, none⟩ (.int .i64 ((rd_T34 l1 x9_1).f3))) = w68 at n0_ n1_ n2_ n3_ n4_ ⊢
          have BK375 := n0_
          have BK399 := n1_
          have HI385 := n2_
          have HI396 := n3_
          have HB := n4_
          clear n0_ n1_ n2_ n3_ n4_
          have n0_ := Aside0.mk (blk_drew BK375.out)
          have n1_ := Aside0.mk (blk_drew BK399.out)
          have n2_ := Aside0.mk (IsS63.drew HI385.out)
          have n3_ := Aside0.mk (IsS71.drew HI396.out)
          have n4_ := Aside0.mk (below_drew1 HB.out)
          clear BK375
          clear BK399
          clear HI385
          clear HI396
          clear HB
          have BK375 := n0_
          have BK399 := n1_
          have HI385 := n2_
          have HI396 := n3_
          have HB := n4_
          clear n0_ n1_ n2_ n3_ n4_
          refine start_ (n := 35) (S := fun w' => w'.cell? ⟨gb399, 0, none⟩ = some (.int .i64 ((rd_T34 l1 x9_1).f0)) ∧ w'.cell? ⟨gb399, 1, none⟩ = some (.int .i64 ((rd_T34 l1 x9_1).f1)) ∧ w'.cell? ⟨gb399, 2, none⟩ = some (.int .i64 ((rd_T34 l1 x9_1).f2)) ∧ w'.cell? ⟨gb399, 3, none⟩ = some (.int .i64 ((rd_T34 l1 x9_1).f3))) (ds := []) #[false, false, false, false, false, false, false, false, false, false, false, false, false, false, false, false, false, false, false, false, false, false, false, false, false, false, false, false, false, false, false, false, false, false, false] (by kernel_rfl) rfl rfl ⟨(blk_cell BK399.out 0).trans rfl, (blk_cell BK399.out 1).trans rfl, (blk_cell BK399.out 2).trans rfl, (blk_cell BK399.out 3).trans rfl⟩ (fun hHeld => ?_); refine with_tabW flywheellaw19_AimdPlays.tab9 flywheellaw19_AimdPlays.bits9 (fun HT_ HW_ => ?_)
          generalize w68.drew = w69 at BK375 BK399 HI385 HI396 HB hHeld ⊢
          refine pure_ (i := 0) (N := some 59) (v := ?_) (a' := ?_) (bl 35 1) rfl rfl (any_of HT_.out (by kernel_rfl)) (fun _ _ _ h => h) (Or.inl ⟨by rfl, ?_⟩) ?_ ?_
          rotate_left
          ·intro w'
           go_simp
           with_reducible rfl
          rotate_left
          ·simp only [puts_]
           rfl
          refine pure_ (i := 1) (N := some 60) (v := ?_) (a' := ?_) (bl 35 3) rfl rfl (any_of HT_.out (by kernel_rfl)) (fun _ _ _ h => h) (Or.inl ⟨by rfl, ?_⟩) ?_ ?_
          rotate_left
          ·intro w'
           go_simp
           with_reducible rfl
          rotate_left
          ·simp only [puts_]
           rfl
          refine pure_ (i := 3) (N := some 62) (v := ?_) (a' := ?_) (bl 35 11) rfl rfl (any_of HT_.out (by kernel_rfl)) (fun _ _ _ h => h) (Or.inl ⟨by rfl, ?_⟩) ?_ ?_
          rotate_left
          ·intro w'
           go_simp
           with_reducible rfl
          rotate_left
          ·simp only [puts_]
           rfl
          refine pure_ (i := 5) (N := some 64) (v := ?_) (a' := ?_) (bl 35 43) rfl rfl (any_of HT_.out (by kernel_rfl)) (fun _ _ _ h => h) (Or.inl ⟨by rfl, ?_⟩) ?_ ?_
          rotate_left
          ·intro w'
           go_simp
           with_reducible rfl
          rotate_left
          ·simp only [puts_]
           rfl
          refine pure_ (i := 7) (N := some 66) (v := ?_) (a' := ?_) (bl 35 171) rfl rfl (any_of HT_.out (by kernel_rfl)) (fun _ _ _ h => h) (Or.inl ⟨by rfl, ?_⟩) ?_ ?_
          rotate_left
          ·intro w'
           go_simp
           with_reducible rfl
          rotate_left
          ·simp only [puts_]
           rfl
          refine pure_ (i := 10) (N := some 69) (v := ?_) (a' := ?_) (bl 35 1195) rfl rfl (any_of HT_.out (by kernel_rfl)) (fun _ _ _ h => h) (Or.inl ⟨by rfl, ?_⟩) ?_ ?_
          rotate_left
          ·intro w'
           go_simp
           with_reducible rfl
          rotate_left
          ·simp only [puts_]
           rfl
          refine pure_ (i := 11) (N := some 70) (v := ?_) (a' := ?_) (bl 35 3243) rfl rfl (any_of HT_.out (by kernel_rfl)) (fun _ _ _ h => h) (Or.inl ⟨by rfl, ?_⟩) ?_ ?_
          rotate_left
          ·intro w'
           go_simp
           with_reducible rfl
          rotate_left
          ·simp only [puts_]
           rfl
          refine pure_ (i := 13) (N := some 72) (v := ?_) (a' := ?_) (bl 35 11435) rfl rfl (any_of HT_.out (by kernel_rfl)) (fun _ _ _ h => h) (Or.inl ⟨by rfl, ?_⟩) ?_ ?_
          rotate_left
          ·intro w'
           go_simp
           with_reducible rfl
          rotate_left
          ·simp only [puts_]
           rfl
          refine pure_ (i := 15) (N := some 74) (v := ?_) (a' := ?_) (bl 35 44203) rfl rfl (any_of HT_.out (by kernel_rfl)) (fun _ _ _ h => h) (Or.inl ⟨by rfl, ?_⟩) ?_ ?_
          rotate_left
          ·intro w'
           go_simp
           with_reducible rfl
          rotate_left
          ·simp only [puts_]
           rfl
          refine pure_ (i := 17) (N := some 76) (v := ?_) (a' := ?_) (bl 35 175275) rfl rfl (any_of HT_.out (by kernel_rfl)) (fun _ _ _ h => h) (Or.inl ⟨by rfl, ?_⟩) ?_ ?_
          rotate_left
          ·intro w'
           go_simp
           with_reducible rfl
          rotate_left
          ·simp only [puts_]
           rfl
          refine take_ (i := 2) (N := some 61) (v := ?_) (a' := ?_) (bl 35 175279) rfl rfl (take_ofW HT_.out HW_.out (by kernel_rfl)) (fun _ _ _ h => h) (Or.inl ⟨by rfl, ?_⟩) hHeld ?_ ?_
          rotate_left
          ·rintro w' ⟨s0, s1, s2, s3⟩
           go_simp
           with_reducible rfl
          rotate_left
          ·simp only [puts_]
           rfl
          refine take_ (i := 4) (N := some 63) (v := ?_) (a' := ?_) (bl 35 175295) rfl rfl (take_ofW HT_.out HW_.out (by kernel_rfl)) (fun _ _ _ h => h) (Or.inl ⟨by rfl, ?_⟩) hHeld ?_ ?_
          rotate_left
          ·rintro w' ⟨s0, s1, s2, s3⟩
           go_simp
           with_reducible rfl
          rotate_left
          ·simp only [puts_]
           rfl
          refine take_ (i := 6) (N := some 65) (v := ?_) (a' := ?_) (bl 35 175359) rfl rfl (take_ofW HT_.out HW_.out (by kernel_rfl)) (fun _ _ _ h => h) (Or.inl ⟨by rfl, ?_⟩) hHeld ?_ ?_
          rotate_left
          ·rintro w' ⟨s0, s1, s2, s3⟩
           go_simp
           with_reducible rfl
          rotate_left
          ·simp only [puts_]
           rfl
          refine take_ (i := 8) (N := some 67) (v := ?_) (a' := ?_) (bl 35 175615) rfl rfl (take_ofW HT_.out HW_.out (by kernel_rfl)) (fun _ _ _ h => h) (Or.inl ⟨by rfl, ?_⟩) hHeld ?_ ?_
          rotate_left
          ·rintro w' ⟨s0, s1, s2, s3⟩
           go_simp
           with_reducible rfl
          rotate_left
          ·simp only [puts_]
           rfl
          refine take_ (i := 12) (N := some 71) (v := ?_) (a' := ?_) (bl 35 179711) rfl rfl (take_ofW HT_.out HW_.out (by kernel_rfl)) (fun _ _ _ h => h) (Or.inl ⟨by rfl, ?_⟩) hHeld ?_ ?_
          rotate_left
          ·rintro w' ⟨s0, s1, s2, s3⟩
           go_simp
           with_reducible rfl
          rotate_left
          ·simp only [puts_]
           rfl
          refine take_ (i := 14) (N := some 73) (v := ?_) (a' := ?_) (bl 35 196095) rfl rfl (take_ofW HT_.out HW_.out (by kernel_rfl)) (fun _ _ _ h => h) (Or.inl ⟨by rfl, ?_⟩) hHeld ?_ ?_
          rotate_left
          ·rintro w' ⟨s0, s1, s2, s3⟩
           go_simp
           with_reducible rfl
          rotate_left
          ·simp only [puts_]
           rfl
          refine take_ (i := 16) (N := some 75) (v := ?_) (a' := ?_) (bl 35 261631) rfl rfl (take_ofW HT_.out HW_.out (by kernel_rfl)) (fun _ _ _ h => h) (Or.inl ⟨by rfl, ?_⟩) hHeld ?_ ?_
          rotate_left
          ·rintro w' ⟨s0, s1, s2, s3⟩
           go_simp
           with_reducible rfl
          rotate_left
          ·simp only [puts_]
           rfl
          refine take_ (i := 18) (N := some 77) (v := ?_) (a' := ?_) (bl 35 523775) rfl rfl (take_ofW HT_.out HW_.out (by kernel_rfl)) (fun _ _ _ h => h) (Or.inl ⟨by rfl, ?_⟩) hHeld ?_ ?_
          rotate_left
          ·rintro w' ⟨s0, s1, s2, s3⟩
           go_simp
           with_reducible rfl
          rotate_left
          ·simp only [puts_]
           rfl
          refine one_ (i := 9) (N := some 68) (bl 35 524287) rfl rfl (one_of HT_.out (by kernel_rfl)) (by decide) (fun K hK => ?_)
          refine goes_ Try.func18 (by kernel_rfl) rfl #[.pointer (some ⟨g385, 0, none⟩), .int .i64 ((rd_T34 l1 x9_1).f0), .int .i64 ((rd_T34 l1 x9_1).f1), .int .i64 ((rd_T34 l1 x9_1).f2), .int .i64 ((rd_T34 l1 x9_1).f3)] (by rfl) rfl rfl (by (try simp only [List.map_toArray, List.map_cons, List.map_nil]); first | done | rfl | (simp only [List.length_drop, List.length_take]; rfl)) ?_
          with_reducible refine (aimd_Aimd_Update.calls k1 g385 x386000_1 x386001_1 x386002_1 x386003_1 x386004_1 x386005_1 x386006_1 x386007_1 x386008_1 ((rd_T34 l1 x9_1).f0) ((rd_T34 l1 x9_1).f1) ((rd_T34 l1 x9_1).f2) ((rd_T34 l1 x9_1).f3) t400 t401 t402 t403 t404 t405 t406 t407 t408 t409 w _ ?side1 ?side2 A17.out).mono ?_
          (case side1 => repeat (first | (with_reducible first | exact HI385.out | apply IsS63.alloc | apply IsS63.drewN | apply IsS63.drew | apply IsS63.set_0 | apply IsS63.set_1 | apply IsS63.set_2 | apply IsS63.set_3 | apply IsS63.set_4 | apply IsS63.set_5 | apply IsS63.set_6 | apply IsS63.set_7 | apply IsS63.set_8 | refine IsS63.far ?_ NB385_375.out _ | refine IsS63.far ?_ NB385_399.out _) | exact HI385.out))
          (case side2 => repeat (first | (with_reducible first | exact HB.out | apply below_alloc | apply pw_below_drewN | apply below_drew1 | refine below_set ?_ (IsS63.ge HI385.out) | refine below_set ?_ (IsS71.ge HI396.out) | refine below_set ?_ GE375.out | refine below_set ?_ GE399.out) | exact HB.out))
          rintro e w70 ⟨rfl, hi, hb, hk⟩
          refine ⟨_, rfl, ?_⟩
          have n0_ := Aside0.mk (KeepBut.blk hk (g' := gb375) (o := .cells #[.int .i64 a0_0, .int .i64 a0_1, .int .i64 a0_2] 23 (0, 0)) (by (with_reducible repeat (first | refine blk_drewN ?_ _ | refine blk_drew ?_ | refine blk_alloc ?_ _)); exact BK375.out) NB375_385.out (by simp))
          have n1_ := Aside0.mk (IsS71.keepS (by repeat (first | (with_reducible first | exact HI396.out | apply IsS71.alloc | apply IsS71.drewN | apply IsS71.drew | apply IsS71.set_0 | apply IsS71.set_1 | apply IsS71.set_2 | apply IsS71.set_3 | apply IsS71.set_4 | apply IsS71.set_5 | apply IsS71.set_6 | apply IsS71.set_7 | apply IsS71.set_8 | refine IsS71.far ?_ NB396_375.out _ | refine IsS71.far ?_ NB396_399.out _) | exact HI396.out)) hk NB396_385.out)
          have n2_ := Aside0.mk (KeepBut.blk hk (g' := gb399) (o := .cells #[.int .i64 ((rd_T34 l1 x9_1).f0), .int .i64 ((rd_T34 l1 x9_1).f1), .int .i64 ((rd_T34 l1 x9_1).f2), .int .i64 ((rd_T34 l1 x9_1).f3)] 34 (0, 0)) (by (with_reducible repeat (first | refine blk_drewN ?_ _ | refine blk_drew ?_ | refine blk_alloc ?_ _)); exact BK399.out) NB399_385.out (by simp))
          have n3_ := Aside0.mk (hb)
          have n4_ := Aside0.mk (hi)
          clear BK375
          clear HI396
          clear BK399
          clear HB
          clear HI385
          have BK375 := n0_
          have HI396 := n1_
          have BK399 := n2_
          have HB := n3_
          have HI385 := n4_
          clear n0_ n1_ n2_ n3_ n4_
          (try clear hb)
          (try clear hb2)
          (try clear hk)
          (try clear hi)
          refine hK.out _ _ ⟨(blk_cell BK399.out 0).trans rfl, (blk_cell BK399.out 1).trans rfl, (blk_cell BK399.out 2).trans rfl, (blk_cell BK399.out 3).trans rfl⟩ (fun hHeld => ?_)
          clear hK K
          refine norm_ (a' := ?_) ?_ ?_
          rotate_left
          ·show Act.put _ (some 68) _ = _
           simp only [puts_]
           rfl
          refine one_ (i := 19) (N := some 78) (bl 35 1048575) rfl rfl (one_of HT_.out (by kernel_rfl)) (by decide) (fun K hK => ?_)
          refine goes_ Try.func21 (by kernel_rfl) rfl #[.pointer (some ⟨g396, 0, none⟩), .int .i64 ((rd_T34 l1 x9_1).f0), .int .i64 ((rd_T34 l1 x9_1).f1), .int .i64 ((rd_T34 l1 x9_1).f2), .int .i64 ((rd_T34 l1 x9_1).f3)] (by rfl) rfl rfl (by (try simp only [List.map_toArray, List.map_cons, List.map_nil]); first | done | rfl | (simp only [List.length_drop, List.length_take]; rfl)) ?_
          with_reducible refine (flywheelref19_Aimd_Update.calls k1 g396 x397000_1 x397001_1 x397002_1 x397003_1 x397004_1 x397005_1 x397006_1 x397007_1 x397008_1 ((rd_T34 l1 x9_1).f0) ((rd_T34 l1 x9_1).f1) ((rd_T34 l1 x9_1).f2) ((rd_T34 l1 x9_1).f3) t410 t411 t412 t413 t414 t415 t416 t417 t418 t419 w _ ?side1 ?side2 A18.out).mono ?_
          (case side1 => repeat (first | (with_reducible first | exact HI396.out | apply IsS71.alloc | apply IsS71.drewN | apply IsS71.drew | apply IsS71.set_0 | apply IsS71.set_1 | apply IsS71.set_2 | apply IsS71.set_3 | apply IsS71.set_4 | apply IsS71.set_5 | apply IsS71.set_6 | apply IsS71.set_7 | apply IsS71.set_8 | refine IsS71.far ?_ NB396_375.out _ | refine IsS71.far ?_ NB396_399.out _) | exact HI396.out))
          (case side2 => repeat (first | (with_reducible first | exact HB.out | apply below_alloc | apply pw_below_drewN | apply below_drew1 | refine below_set ?_ (IsS63.ge HI385.out) | refine below_set ?_ (IsS71.ge HI396.out) | refine below_set ?_ GE375.out | refine below_set ?_ GE399.out) | exact HB.out))
          rintro e w71 ⟨rfl, hi, hb, hk⟩
          refine ⟨_, rfl, ?_⟩
          have n0_ := Aside0.mk (KeepBut.blk hk (g' := gb375) (o := .cells #[.int .i64 a0_0, .int .i64 a0_1, .int .i64 a0_2] 23 (0, 0)) (by (with_reducible repeat (first | refine blk_drewN ?_ _ | refine blk_drew ?_ | refine blk_alloc ?_ _)); exact BK375.out) NB375_396.out (by simp))
          have n1_ := Aside0.mk (IsS63.keepS (by repeat (first | (with_reducible first | exact HI385.out | apply IsS63.alloc | apply IsS63.drewN | apply IsS63.drew | apply IsS63.set_0 | apply IsS63.set_1 | apply IsS63.set_2 | apply IsS63.set_3 | apply IsS63.set_4 | apply IsS63.set_5 | apply IsS63.set_6 | apply IsS63.set_7 | apply IsS63.set_8 | refine IsS63.far ?_ NB385_375.out _ | refine IsS63.far ?_ NB385_399.out _) | exact HI385.out)) hk NB385_396.out)
          have n2_ := Aside0.mk (KeepBut.blk hk (g' := gb399) (o := .cells #[.int .i64 ((rd_T34 l1 x9_1).f0), .int .i64 ((rd_T34 l1 x9_1).f1), .int .i64 ((rd_T34 l1 x9_1).f2), .int .i64 ((rd_T34 l1 x9_1).f3)] 34 (0, 0)) (by (with_reducible repeat (first | refine blk_drewN ?_ _ | refine blk_drew ?_ | refine blk_alloc ?_ _)); exact BK399.out) NB399_396.out (by simp))
          have n3_ := Aside0.mk (hb)
          have n4_ := Aside0.mk (hi)
          clear BK375
          clear HI385
          clear BK399
          clear HB
          clear HI396
          have BK375 := n0_
          have HI385 := n1_
          have BK399 := n2_
          have HB := n3_
          have HI396 := n4_
          clear n0_ n1_ n2_ n3_ n4_
          (try clear hb)
          (try clear hb2)
          (try clear hk)
          (try clear hi)
          refine hK.out _ _ ⟨(blk_cell BK399.out 0).trans rfl, (blk_cell BK399.out 1).trans rfl, (blk_cell BK399.out 2).trans rfl, (blk_cell BK399.out 3).trans rfl⟩ (fun hHeld => ?_)
          clear hK K
          refine norm_ (a' := ?_) ?_ ?_
          rotate_left
          ·show Act.put _ (some 78) _ = _
           simp only [puts_]
           rfl
          refine pure_ (i := 20) (N := some 79) (v := ?_) (a' := ?_) (bl 35 2097151) rfl rfl (any_of HT_.out (by kernel_rfl)) (fun _ _ _ h => h) (Or.inl ⟨by rfl, ?_⟩) ?_ ?_
          rotate_left
          ·intro w'
           go_simp
           with_reducible rfl
          rotate_left
          ·simp only [puts_]
           rfl
          refine pure_ (i := 21) (N := some 80) (v := ?_) (a' := ?_) (bl 35 4194303) rfl rfl (any_of HT_.out (by kernel_rfl)) (fun _ _ _ h => h) (Or.inl ⟨by rfl, ?_⟩) ?_ ?_
          rotate_left
          ·intro w'
           go_simp
           with_reducible rfl
          rotate_left
          ·simp only [puts_]
           rfl
          refine pure_ (i := 22) (N := some 81) (v := undef) (a' := ?_) (bl 35 8388607) rfl rfl (any_of HT_.out (by kernel_rfl)) (fun _ _ _ h => h) (Or.inr ⟨by rfl, rfl⟩) ?_ ?_
          rotate_left
          ·simp only [puts_]
           rfl
          refine pure_ (i := 23) (N := some 82) (v := undef) (a' := ?_) (bl 35 16777215) rfl rfl (any_of HT_.out (by kernel_rfl)) (fun _ _ _ h => h) (Or.inr ⟨by rfl, rfl⟩) ?_ ?_
          rotate_left
          ·simp only [puts_]
           rfl
          refine pure_ (i := 24) (N := some 83) (v := undef) (a' := ?_) (bl 35 33554431) rfl rfl (any_of HT_.out (by kernel_rfl)) (fun _ _ _ h => h) (Or.inr ⟨by rfl, rfl⟩) ?_ ?_
          rotate_left
          ·simp only [puts_]
           rfl
          refine pure_ (i := 25) (N := some 84) (v := undef) (a' := ?_) (bl 35 67108863) rfl rfl (any_of HT_.out (by kernel_rfl)) (fun _ _ _ h => h) (Or.inr ⟨by rfl, rfl⟩) ?_ ?_
          rotate_left
          ·simp only [puts_]
           rfl
          refine pure_ (i := 26) (N := some 85) (v := undef) (a' := ?_) (bl 35 134217727) rfl rfl (any_of HT_.out (by kernel_rfl)) (fun _ _ _ h => h) (Or.inr ⟨by rfl, rfl⟩) ?_ ?_
          rotate_left
          ·simp only [puts_]
           rfl
          refine pure_ (i := 27) (N := some 86) (v := ?_) (a' := ?_) (bl 35 268435455) rfl rfl (any_of HT_.out (by kernel_rfl)) (fun _ _ _ h => h) (Or.inl ⟨by rfl, ?_⟩) ?_ ?_
          rotate_left
          ·intro w'
           go_simp
           with_reducible rfl
          rotate_left
          ·simp only [puts_]
           rfl
          refine pure_ (i := 28) (N := some 87) (v := ?_) (a' := ?_) (bl 35 536870911) rfl rfl (any_of HT_.out (by kernel_rfl)) (fun _ _ _ h => h) (Or.inl ⟨by rfl, ?_⟩) ?_ ?_
          rotate_left
          ·intro w'
           go_simp
           with_reducible rfl
          rotate_left
          ·simp only [puts_]
           rfl
          refine pure_ (i := 29) (N := some 88) (v := undef) (a' := ?_) (bl 35 1073741823) rfl rfl (any_of HT_.out (by kernel_rfl)) (fun _ _ _ h => h) (Or.inr ⟨by rfl, rfl⟩) ?_ ?_
          rotate_left
          ·simp only [puts_]
           rfl
          refine pure_ (i := 30) (N := some 89) (v := undef) (a' := ?_) (bl 35 2147483647) rfl rfl (any_of HT_.out (by kernel_rfl)) (fun _ _ _ h => h) (Or.inr ⟨by rfl, rfl⟩) ?_ ?_
          rotate_left
          ·simp only [puts_]
           rfl
          refine pure_ (i := 31) (N := some 90) (v := undef) (a' := ?_) (bl 35 4294967295) rfl rfl (any_of HT_.out (by kernel_rfl)) (fun _ _ _ h => h) (Or.inr ⟨by rfl, rfl⟩) ?_ ?_
          rotate_left
          ·simp only [puts_]
           rfl
          refine pure_ (i := 32) (N := some 91) (v := undef) (a' := ?_) (bl 35 8589934591) rfl rfl (any_of HT_.out (by kernel_rfl)) (fun _ _ _ h => h) (Or.inr ⟨by rfl, rfl⟩) ?_ ?_
          rotate_left
          ·simp only [puts_]
           rfl
          refine pure_ (i := 33) (N := some 92) (v := undef) (a' := ?_) (bl 35 17179869183) rfl rfl (any_of HT_.out (by kernel_rfl)) (fun _ _ _ h => h) (Or.inr ⟨by rfl, rfl⟩) ?_ ?_
          rotate_left
          ·simp only [puts_]
           rfl
          refine pure_ (i := 34) (N := some 93) (v := ?_) (a' := ?_) (bl 35 34359738367) rfl rfl (any_of HT_.out (by kernel_rfl)) (fun _ _ _ h => h) (Or.inl ⟨by rfl, ?_⟩) ?_ ?_
          rotate_left
          ·intro w'
           go_simp
           with_reducible rfl
          rotate_left
          ·simp only [puts_]
           rfl
          refine done_ (done_of HT_.out (by kernel_rfl)) ?_
          try go_wp2
          go_ret
          exact ⟨by first | rfl | (simp [errW_none, errW_some] <;> rfl) | (simp [*, errW_none, errW_some] <;> rfl), by repeat (first | (with_reducible first | exact HB.out | apply below_alloc | apply pw_below_drewN | apply below_drew1 | refine below_set ?_ (IsS63.ge HI385.out) | refine below_set ?_ (IsS71.ge HI396.out) | refine below_set ?_ GE375.out | refine below_set ?_ GE399.out) | exact HB.out)⟩
        ·rw [if_neg c16] at H
         exact absurd H (by simp)
       ·rw [if_neg c15] at H
        have c15b0 : decide (x9_1 < 200) = false := decide_eq_false c15
        clear c15
        replace H := Option.bind_eq_some_iff.mp H
        obtain ⟨t460, A720, H⟩ := H
        replace H : (some t460) = some r := H
        have A72 := Aside0.mk A720
        clear A720
        obtain rfl := Option.some.inj H
        go_wp2_with (first | ((with_reducible refine gate_callee (f := 16) rfl ?_); refine goesL_ (some 94) rfl rfl Try.func16 (by kernel_rfl) rfl #[] rfl (by (try simp only [List.map_toArray, List.map_cons, List.map_nil]); first | done | rfl | (simp only [List.length_drop, List.length_take]; rfl)) ?_; (with_reducible refine (flywheellaw19_wakes.calls k1  t460 _ A72.out).mono ?_); rintro e w73 ⟨rfl, hb⟩; refine ⟨_, rfl, ?_⟩; have n0_ := Aside0.mk (blk_below (g := gb375) (o := .cells #[.int .i64 a0_0, .int .i64 a0_1, .int .i64 a0_2] 23 (0, 0)) (by (with_reducible repeat (first | refine blk_drewN ?_ _ | refine blk_drew ?_ | refine blk_alloc ?_ _)); exact BK375.out) hb); have n1_ := Aside0.mk (IsS63.below (by repeat (first | (with_reducible first | exact HI385.out | apply IsS63.alloc | apply IsS63.drewN | apply IsS63.drew | apply IsS63.set_0 | apply IsS63.set_1 | apply IsS63.set_2 | apply IsS63.set_3 | apply IsS63.set_4 | apply IsS63.set_5 | apply IsS63.set_6 | apply IsS63.set_7 | apply IsS63.set_8 | refine IsS63.far ?_ NB385_375.out _) | exact HI385.out)) hb); have n2_ := Aside0.mk (IsS71.below (by repeat (first | (with_reducible first | exact HI396.out | apply IsS71.alloc | apply IsS71.drewN | apply IsS71.drew | apply IsS71.set_0 | apply IsS71.set_1 | apply IsS71.set_2 | apply IsS71.set_3 | apply IsS71.set_4 | apply IsS71.set_5 | apply IsS71.set_6 | apply IsS71.set_7 | apply IsS71.set_8 | refine IsS71.far ?_ NB396_375.out _) | exact HI396.out)) hb); have n3_ := Aside0.mk (below_step (by repeat (first | (with_reducible first | exact HB.out | apply below_alloc | apply pw_below_drewN | apply below_drew1 | refine below_set ?_ (IsS63.ge HI385.out) | refine below_set ?_ (IsS71.ge HI396.out) | refine below_set ?_ GE375.out) | exact HB.out)) hb); clear BK375; clear HI385; clear HI396; clear HB; have BK375 := n0_; have HI385 := n1_; have HI396 := n2_; have HB := n3_; clear n0_ n1_ n2_ n3_; (try clear hb); (try clear hb2); (try clear hk); (try clear hi)))
        go_ret
        exact ⟨by first | rfl | (simp [errW_none, errW_some] <;> rfl) | (simp [*, errW_none, errW_some] <;> rfl), by repeat (first | (with_reducible first | exact HB.out | apply below_alloc | apply pw_below_drewN | apply below_drew1 | refine below_set ?_ (IsS63.ge HI385.out) | refine below_set ?_ (IsS71.ge HI396.out) | refine below_set ?_ GE375.out) | exact HB.out)⟩
      ·rw [if_neg c14] at H
       have c14b0 : decide (x9_1 < (l1.length : Int)) = false := decide_eq_false c14
       clear c14
       replace H := Option.bind_eq_some_iff.mp H
       obtain ⟨t461, A740, H⟩ := H
       replace H : (some t461) = some r := H
       have A74 := Aside0.mk A740
       clear A740
       obtain rfl := Option.some.inj H
       go_wp2_with (first | ((with_reducible refine gate_callee (f := 16) rfl ?_); refine goesL_ (some 94) rfl rfl Try.func16 (by kernel_rfl) rfl #[] rfl (by (try simp only [List.map_toArray, List.map_cons, List.map_nil]); first | done | rfl | (simp only [List.length_drop, List.length_take]; rfl)) ?_; (with_reducible refine (flywheellaw19_wakes.calls k1  t461 _ A74.out).mono ?_); rintro e w75 ⟨rfl, hb⟩; refine ⟨_, rfl, ?_⟩; have n0_ := Aside0.mk (blk_below (g := gb375) (o := .cells #[.int .i64 a0_0, .int .i64 a0_1, .int .i64 a0_2] 23 (0, 0)) (by (with_reducible repeat (first | refine blk_drewN ?_ _ | refine blk_drew ?_ | refine blk_alloc ?_ _)); exact BK375.out) hb); have n1_ := Aside0.mk (IsS63.below (by repeat (first | (with_reducible first | exact HI385.out | apply IsS63.alloc | apply IsS63.drewN | apply IsS63.drew | apply IsS63.set_0 | apply IsS63.set_1 | apply IsS63.set_2 | apply IsS63.set_3 | apply IsS63.set_4 | apply IsS63.set_5 | apply IsS63.set_6 | apply IsS63.set_7 | apply IsS63.set_8 | refine IsS63.far ?_ NB385_375.out _) | exact HI385.out)) hb); have n2_ := Aside0.mk (IsS71.below (by repeat (first | (with_reducible first | exact HI396.out | apply IsS71.alloc | apply IsS71.drewN | apply IsS71.drew | apply IsS71.set_0 | apply IsS71.set_1 | apply IsS71.set_2 | apply IsS71.set_3 | apply IsS71.set_4 | apply IsS71.set_5 | apply IsS71.set_6 | apply IsS71.set_7 | apply IsS71.set_8 | refine IsS71.far ?_ NB396_375.out _) | exact HI396.out)) hb); have n3_ := Aside0.mk (below_step (by repeat (first | (with_reducible first | exact HB.out | apply below_alloc | apply pw_below_drewN | apply below_drew1 | refine below_set ?_ (IsS63.ge HI385.out) | refine below_set ?_ (IsS71.ge HI396.out) | refine below_set ?_ GE375.out) | exact HB.out)) hb); clear BK375; clear HI385; clear HI396; clear HB; have BK375 := n0_; have HI385 := n1_; have HI396 := n2_; have HB := n3_; clear n0_ n1_ n2_ n3_; (try clear hb); (try clear hb2); (try clear hk); (try clear hi)))
       go_ret
       exact ⟨by first | rfl | (simp [errW_none, errW_some] <;> rfl) | (simp [*, errW_none, errW_some] <;> rfl), by repeat (first | (with_reducible first | exact HB.out | apply below_alloc | apply pw_below_drewN | apply below_drew1 | refine below_set ?_ (IsS63.ge HI385.out) | refine below_set ?_ (IsS71.ge HI396.out) | refine below_set ?_ GE375.out) | exact HB.out)⟩
   ·rw [if_neg c7] at H
    have c7b0 : (t386 == t397) = false := beq_eq_false_iff_ne.mpr c7
    have c7b1 : (t386 != t397) = true := bne_iff_ne.mpr c7
    obtain rfl := Option.some.inj H
    go_enter Try.func5, Try.ntmps5
    go_wp2_with (first | ((with_reducible refine gate_dst (N := 2) rfl ?_); refine box_event ?hg (N := 2) ?hd (cs := #[.int .i64 a0_0, .int .i64 a0_1, .int .i64 a0_2]) (t := 23) ?hr ?_; (case hd => rfl); (case hg => rfl); (case hr => first | (go_simp; done) | (go_simp; rfl)); intro gb375 hg w76 hbox hb; have n0_ := Aside0.mk (below_step (by repeat (first | (with_reducible first | exact HB.out | apply below_alloc | apply pw_below_drewN | apply below_drew1) | exact HB.out)) hb); have n1_ := Aside0.mk (hbox); have n2_ := Aside0.mk ((by rw [hg]; exact (below_size (by repeat (first | (with_reducible first | exact HB.out | apply below_alloc | apply pw_below_drewN | apply below_drew1) | exact HB.out))) : w.heap.size ≤ gb375)); have n3_ := Aside0.mk ((by rw [hg]; exact (below_size (by repeat (first | (with_reducible first | exact HB.out | apply below_alloc | apply pw_below_drewN | apply below_drew1) | exact HB.out))) : w.heap.size ≤ gb375)); clear HB; have HB := n0_; have BK375 := n1_; have GW375 := n2_; have GE375 := n3_; clear n0_ n1_ n2_ n3_; clear hb hbox hg; have hcz77_0 : w76.cell? ⟨gb375, 0, none⟩ = some (.int .i64 a0_0) := (blk_cell BK375.out 0).trans rfl; have hcz77_1 : w76.cell? ⟨gb375, 1, none⟩ = some (.int .i64 a0_1) := (blk_cell BK375.out 1).trans rfl; have hcz77_2 : w76.cell? ⟨gb375, 2, none⟩ = some (.int .i64 a0_2) := (blk_cell BK375.out 2).trans rfl; have hfz77_0 := blk_frozen BK375.out 0; have hfz77_1 := blk_frozen BK375.out 1; have hfz77_2 := blk_frozen BK375.out 2) | ((with_reducible refine gate_callee (f := 14) rfl ?_); refine goesL_ (some 18) rfl rfl Try.func14 (by kernel_rfl) rfl #[.int .i64 a0_0, .int .i64 a0_1, .int .i64 a0_2] rfl (by (try simp only [List.map_toArray, List.map_cons, List.map_nil]); first | done | rfl | (simp only [List.length_drop, List.length_take]; rfl)) ?_; (with_reducible refine (aimd_New.made.calls a0_0 a0_1 a0_2 t376 t377 t378 t379 t380 t381 t382 t383 t384 t386 _ _ (Below.refl _ _) A4.out).mono ?_); rintro e w78 ⟨g385, rfl, hi, hb, hb2⟩; refine ⟨_, rfl, ?_⟩; have n0_ := Aside0.mk (blk_below (g := gb375) (o := .cells #[.int .i64 a0_0, .int .i64 a0_1, .int .i64 a0_2] 23 (0, 0)) (by (with_reducible repeat (first | refine blk_drewN ?_ _ | refine blk_drew ?_ | refine blk_alloc ?_ _)); exact BK375.out) hb2); have n1_ := Aside0.mk (below_step (by repeat (first | (with_reducible first | exact HB.out | apply below_alloc | apply pw_below_drewN | apply below_drew1 | refine below_set ?_ GE375.out) | exact HB.out)) hb2); have n2_ := Aside0.mk ((IsS63.rebase hi (below_size (by repeat (first | (with_reducible first | exact HB.out | apply below_alloc | apply pw_below_drewN | apply below_drew1 | refine below_set ?_ GE375.out) | exact HB.out))))); have n3_ := Aside0.mk (IsS63.ne_blk hi (blk_below (g := gb375) (o := .cells #[.int .i64 a0_0, .int .i64 a0_1, .int .i64 a0_2] 23 (0, 0)) (by (with_reducible repeat (first | refine blk_drewN ?_ _ | refine blk_drew ?_ | refine blk_alloc ?_ _)); exact BK375.out) hb2) (by decide)); have n4_ := Aside0.mk (Ne.symm (IsS63.ne_blk hi (blk_below (g := gb375) (o := .cells #[.int .i64 a0_0, .int .i64 a0_1, .int .i64 a0_2] 23 (0, 0)) (by (with_reducible repeat (first | refine blk_drewN ?_ _ | refine blk_drew ?_ | refine blk_alloc ?_ _)); exact BK375.out) hb2) (by decide))); clear BK375; clear HB; have BK375 := n0_; have HB := n1_; have HI385 := n2_; have NB385_375 := n3_; have NB375_385 := n4_; clear n0_ n1_ n2_ n3_ n4_; (try clear hb); (try clear hb2); (try clear hk); (try clear hi); have hnb79 := NB375_385.out; have hnc79 := NB385_375.out; have hcz80_0 : w78.cell? ⟨gb375, 0, none⟩ = some (.int .i64 a0_0) := (blk_cell BK375.out 0).trans rfl; have hcz80_1 : w78.cell? ⟨gb375, 1, none⟩ = some (.int .i64 a0_1) := (blk_cell BK375.out 1).trans rfl; have hcz80_2 : w78.cell? ⟨gb375, 2, none⟩ = some (.int .i64 a0_2) := (blk_cell BK375.out 2).trans rfl; have hfz80_0 := blk_frozen BK375.out 0; have hfz80_1 := blk_frozen BK375.out 1; have hfz80_2 := blk_frozen BK375.out 2) | ((with_reducible refine gate_callee (f := 20) rfl ?_); refine goesL_ (some 28) rfl rfl Try.func20 (by kernel_rfl) rfl #[.int .i64 a0_0, .int .i64 a0_1, .int .i64 a0_2] rfl (by (try simp only [List.map_toArray, List.map_cons, List.map_nil]); first | done | rfl | (simp only [List.length_drop, List.length_take]; rfl)) ?_; (with_reducible refine (flywheelref19_New.made.calls a0_0 a0_1 a0_2 t387 t388 t389 t390 t391 t392 t393 t394 t395 t397 _ _ (Below.refl _ _) A6.out).mono ?_); rintro e w81 ⟨g396, rfl, hi, hb, hb2⟩; refine ⟨_, rfl, ?_⟩; have n0_ := Aside0.mk (blk_below (g := gb375) (o := .cells #[.int .i64 a0_0, .int .i64 a0_1, .int .i64 a0_2] 23 (0, 0)) (by (with_reducible repeat (first | refine blk_drewN ?_ _ | refine blk_drew ?_ | refine blk_alloc ?_ _)); exact BK375.out) hb2); have n1_ := Aside0.mk (IsS63.below (by repeat (first | (with_reducible first | exact HI385.out | apply IsS63.alloc | apply IsS63.drewN | apply IsS63.drew | apply IsS63.set_0 | apply IsS63.set_1 | apply IsS63.set_2 | apply IsS63.set_3 | apply IsS63.set_4 | apply IsS63.set_5 | apply IsS63.set_6 | apply IsS63.set_7 | apply IsS63.set_8 | refine IsS63.far ?_ NB385_375.out _) | exact HI385.out)) hb2); have n2_ := Aside0.mk (below_step (by repeat (first | (with_reducible first | exact HB.out | apply below_alloc | apply pw_below_drewN | apply below_drew1 | refine below_set ?_ (IsS63.ge HI385.out) | refine below_set ?_ GE375.out) | exact HB.out)) hb2); have n3_ := Aside0.mk ((IsS71.rebase hi (below_size (by repeat (first | (with_reducible first | exact HB.out | apply below_alloc | apply pw_below_drewN | apply below_drew1 | refine below_set ?_ (IsS63.ge HI385.out) | refine below_set ?_ GE375.out) | exact HB.out))))); have n4_ := Aside0.mk ((Nat.ne_of_gt (Nat.lt_of_lt_of_le (IsS63.lt (by repeat (first | (with_reducible first | exact HI385.out | apply IsS63.alloc | apply IsS63.drewN | apply IsS63.drew | apply IsS63.set_0 | apply IsS63.set_1 | apply IsS63.set_2 | apply IsS63.set_3 | apply IsS63.set_4 | apply IsS63.set_5 | apply IsS63.set_6 | apply IsS63.set_7 | apply IsS63.set_8 | refine IsS63.far ?_ NB385_375.out _) | exact HI385.out))) (IsS71.ge hi)))); have n5_ := Aside0.mk (Ne.symm (Nat.ne_of_gt (Nat.lt_of_lt_of_le (IsS63.lt (by repeat (first | (with_reducible first | exact HI385.out | apply IsS63.alloc | apply IsS63.drewN | apply IsS63.drew | apply IsS63.set_0 | apply IsS63.set_1 | apply IsS63.set_2 | apply IsS63.set_3 | apply IsS63.set_4 | apply IsS63.set_5 | apply IsS63.set_6 | apply IsS63.set_7 | apply IsS63.set_8 | refine IsS63.far ?_ NB385_375.out _) | exact HI385.out))) (IsS71.ge hi)))); have n6_ := Aside0.mk (IsS71.ne_blk hi (blk_below (g := gb375) (o := .cells #[.int .i64 a0_0, .int .i64 a0_1, .int .i64 a0_2] 23 (0, 0)) (by (with_reducible repeat (first | refine blk_drewN ?_ _ | refine blk_drew ?_ | refine blk_alloc ?_ _)); exact BK375.out) hb2) (by decide)); have n7_ := Aside0.mk (Ne.symm (IsS71.ne_blk hi (blk_below (g := gb375) (o := .cells #[.int .i64 a0_0, .int .i64 a0_1, .int .i64 a0_2] 23 (0, 0)) (by (with_reducible repeat (first | refine blk_drewN ?_ _ | refine blk_drew ?_ | refine blk_alloc ?_ _)); exact BK375.out) hb2) (by decide))); clear BK375; clear HI385; clear HB; have BK375 := n0_; have HI385 := n1_; have HB := n2_; have HI396 := n3_; have NB396_385 := n4_; have NB385_396 := n5_; have NB396_375 := n6_; have NB375_396 := n7_; clear n0_ n1_ n2_ n3_ n4_ n5_ n6_ n7_; (try clear hb); (try clear hb2); (try clear hk); (try clear hi)))
    go_ret
    exact ⟨by first | rfl | (simp [errW_none, errW_some] <;> rfl) | (simp [*, errW_none, errW_some] <;> rfl), by repeat (first | (with_reducible first | exact HB.out | apply below_alloc | apply pw_below_drewN | apply below_drew1 | refine below_set ?_ (IsS63.ge HI385.out) | refine below_set ?_ (IsS71.ge HI396.out) | refine below_set ?_ GE375.out) | exact HB.out)⟩
  ·rw [if_neg c5] at H
   have c5b0 : (flywheelref19_New.made.f a0_0 a0_1 a0_2).isSome = false := by simpa using c5
   clear c5
   replace H := Option.bind_eq_some_iff.mp H
   obtain ⟨t462, A820, H⟩ := H
   replace H : (if t386 = t462 then (some false) else (some false)) = some r := H
   have A82 := Aside0.mk A820
   clear A820
   by_cases c83 : t386 = t462
   ·rw [if_pos c83] at H
    have c83b0 : (t386 == t462) = true := beq_iff_eq.mpr c83
    have c83b1 : (t386 != t462) = false := bne_eq_false_iff_eq.mpr c83
    clear c83
    obtain rfl := Option.some.inj H
    go_enter Try.func5, Try.ntmps5
    go_wp2_with (first | ((with_reducible refine gate_dst (N := 2) rfl ?_); refine box_event ?hg (N := 2) ?hd (cs := #[.int .i64 a0_0, .int .i64 a0_1, .int .i64 a0_2]) (t := 23) ?hr ?_; (case hd => rfl); (case hg => rfl); (case hr => first | (go_simp; done) | (go_simp; rfl)); intro gb375 hg w84 hbox hb; have n0_ := Aside0.mk (below_step (by repeat (first | (with_reducible first | exact HB.out | apply below_alloc | apply pw_below_drewN | apply below_drew1) | exact HB.out)) hb); have n1_ := Aside0.mk (hbox); have n2_ := Aside0.mk ((by rw [hg]; exact (below_size (by repeat (first | (with_reducible first | exact HB.out | apply below_alloc | apply pw_below_drewN | apply below_drew1) | exact HB.out))) : w.heap.size ≤ gb375)); have n3_ := Aside0.mk ((by rw [hg]; exact (below_size (by repeat (first | (with_reducible first | exact HB.out | apply below_alloc | apply pw_below_drewN | apply below_drew1) | exact HB.out))) : w.heap.size ≤ gb375)); clear HB; have HB := n0_; have BK375 := n1_; have GW375 := n2_; have GE375 := n3_; clear n0_ n1_ n2_ n3_; clear hb hbox hg; have hcz85_0 : w84.cell? ⟨gb375, 0, none⟩ = some (.int .i64 a0_0) := (blk_cell BK375.out 0).trans rfl; have hcz85_1 : w84.cell? ⟨gb375, 1, none⟩ = some (.int .i64 a0_1) := (blk_cell BK375.out 1).trans rfl; have hcz85_2 : w84.cell? ⟨gb375, 2, none⟩ = some (.int .i64 a0_2) := (blk_cell BK375.out 2).trans rfl; have hfz85_0 := blk_frozen BK375.out 0; have hfz85_1 := blk_frozen BK375.out 1; have hfz85_2 := blk_frozen BK375.out 2) | ((with_reducible refine gate_callee (f := 14) rfl ?_); refine goesL_ (some 18) rfl rfl Try.func14 (by kernel_rfl) rfl #[.int .i64 a0_0, .int .i64 a0_1, .int .i64 a0_2] rfl (by (try simp only [List.map_toArray, List.map_cons, List.map_nil]); first | done | rfl | (simp only [List.length_drop, List.length_take]; rfl)) ?_; (with_reducible refine (aimd_New.made.calls a0_0 a0_1 a0_2 t376 t377 t378 t379 t380 t381 t382 t383 t384 t386 _ _ (Below.refl _ _) A4.out).mono ?_); rintro e w86 ⟨g385, rfl, hi, hb, hb2⟩; refine ⟨_, rfl, ?_⟩; have n0_ := Aside0.mk (blk_below (g := gb375) (o := .cells #[.int .i64 a0_0, .int .i64 a0_1, .int .i64 a0_2] 23 (0, 0)) (by (with_reducible repeat (first | refine blk_drewN ?_ _ | refine blk_drew ?_ | refine blk_alloc ?_ _)); exact BK375.out) hb2); have n1_ := Aside0.mk (below_step (by repeat (first | (with_reducible first | exact HB.out | apply below_alloc | apply pw_below_drewN | apply below_drew1 | refine below_set ?_ GE375.out) | exact HB.out)) hb2); have n2_ := Aside0.mk ((IsS63.rebase hi (below_size (by repeat (first | (with_reducible first | exact HB.out | apply below_alloc | apply pw_below_drewN | apply below_drew1 | refine below_set ?_ GE375.out) | exact HB.out))))); have n3_ := Aside0.mk (IsS63.ne_blk hi (blk_below (g := gb375) (o := .cells #[.int .i64 a0_0, .int .i64 a0_1, .int .i64 a0_2] 23 (0, 0)) (by (with_reducible repeat (first | refine blk_drewN ?_ _ | refine blk_drew ?_ | refine blk_alloc ?_ _)); exact BK375.out) hb2) (by decide)); have n4_ := Aside0.mk (Ne.symm (IsS63.ne_blk hi (blk_below (g := gb375) (o := .cells #[.int .i64 a0_0, .int .i64 a0_1, .int .i64 a0_2] 23 (0, 0)) (by (with_reducible repeat (first | refine blk_drewN ?_ _ | refine blk_drew ?_ | refine blk_alloc ?_ _)); exact BK375.out) hb2) (by decide))); clear BK375; clear HB; have BK375 := n0_; have HB := n1_; have HI385 := n2_; have NB385_375 := n3_; have NB375_385 := n4_; clear n0_ n1_ n2_ n3_ n4_; (try clear hb); (try clear hb2); (try clear hk); (try clear hi); have hnb87 := NB375_385.out; have hnc87 := NB385_375.out; have hcz88_0 : w86.cell? ⟨gb375, 0, none⟩ = some (.int .i64 a0_0) := (blk_cell BK375.out 0).trans rfl; have hcz88_1 : w86.cell? ⟨gb375, 1, none⟩ = some (.int .i64 a0_1) := (blk_cell BK375.out 1).trans rfl; have hcz88_2 : w86.cell? ⟨gb375, 2, none⟩ = some (.int .i64 a0_2) := (blk_cell BK375.out 2).trans rfl; have hfz88_0 := blk_frozen BK375.out 0; have hfz88_1 := blk_frozen BK375.out 1; have hfz88_2 := blk_frozen BK375.out 2) | ((with_reducible refine gate_callee (f := 20) rfl ?_); refine goesL_ (some 28) rfl rfl Try.func20 (by kernel_rfl) rfl #[.int .i64 a0_0, .int .i64 a0_1, .int .i64 a0_2] rfl (by (try simp only [List.map_toArray, List.map_cons, List.map_nil]); first | done | rfl | (simp only [List.length_drop, List.length_take]; rfl)) ?_; (with_reducible refine (flywheelref19_New.nil.calls a0_0 a0_1 a0_2 t462 _ A82.out).mono ?_); rintro e w89 ⟨rfl, hb⟩; refine ⟨_, rfl, ?_⟩; have n0_ := Aside0.mk (blk_below (g := gb375) (o := .cells #[.int .i64 a0_0, .int .i64 a0_1, .int .i64 a0_2] 23 (0, 0)) (by (with_reducible repeat (first | refine blk_drewN ?_ _ | refine blk_drew ?_ | refine blk_alloc ?_ _)); exact BK375.out) hb); have n1_ := Aside0.mk (IsS63.below (by repeat (first | (with_reducible first | exact HI385.out | apply IsS63.alloc | apply IsS63.drewN | apply IsS63.drew | apply IsS63.set_0 | apply IsS63.set_1 | apply IsS63.set_2 | apply IsS63.set_3 | apply IsS63.set_4 | apply IsS63.set_5 | apply IsS63.set_6 | apply IsS63.set_7 | apply IsS63.set_8 | refine IsS63.far ?_ NB385_375.out _) | exact HI385.out)) hb); have n2_ := Aside0.mk (below_step (by repeat (first | (with_reducible first | exact HB.out | apply below_alloc | apply pw_below_drewN | apply below_drew1 | refine below_set ?_ (IsS63.ge HI385.out) | refine below_set ?_ GE375.out) | exact HB.out)) hb); clear BK375; clear HI385; clear HB; have BK375 := n0_; have HI385 := n1_; have HB := n2_; clear n0_ n1_ n2_; (try clear hb); (try clear hb2); (try clear hk); (try clear hi)))
    go_ret
    exact ⟨by first | rfl | (simp [errW_none, errW_some] <;> rfl) | (simp [*, errW_none, errW_some] <;> rfl), by repeat (first | (with_reducible first | exact HB.out | apply below_alloc | apply pw_below_drewN | apply below_drew1 | refine below_set ?_ (IsS63.ge HI385.out) | refine below_set ?_ GE375.out) | exact HB.out)⟩
   ·rw [if_neg c83] at H
    have c83b0 : (t386 == t462) = false := beq_eq_false_iff_ne.mpr c83
    have c83b1 : (t386 != t462) = true := bne_iff_ne.mpr c83
    obtain rfl := Option.some.inj H
    go_enter Try.func5, Try.ntmps5
    go_wp2_with (first | ((with_reducible refine gate_dst (N := 2) rfl ?_); refine box_event ?hg (N := 2) ?hd (cs := #[.int .i64 a0_0, .int .i64 a0_1, .int .i64 a0_2]) (t := 23) ?hr ?_; (case hd => rfl); (case hg => rfl); (case hr => first | (go_simp; done) | (go_simp; rfl)); intro gb375 hg w90 hbox hb; have n0_ := Aside0.mk (below_step (by repeat (first | (with_reducible first | exact HB.out | apply below_alloc | apply pw_below_drewN | apply below_drew1) | exact HB.out)) hb); have n1_ := Aside0.mk (hbox); have n2_ := Aside0.mk ((by rw [hg]; exact (below_size (by repeat (first | (with_reducible first | exact HB.out | apply below_alloc | apply pw_below_drewN | apply below_drew1) | exact HB.out))) : w.heap.size ≤ gb375)); have n3_ := Aside0.mk ((by rw [hg]; exact (below_size (by repeat (first | (with_reducible first | exact HB.out | apply below_alloc | apply pw_below_drewN | apply below_drew1) | exact HB.out))) : w.heap.size ≤ gb375)); clear HB; have HB := n0_; have BK375 := n1_; have GW375 := n2_; have GE375 := n3_; clear n0_ n1_ n2_ n3_; clear hb hbox hg; have hcz91_0 : w90.cell? ⟨gb375, 0, none⟩ = some (.int .i64 a0_0) := (blk_cell BK375.out 0).trans rfl; have hcz91_1 : w90.cell? ⟨gb375, 1, none⟩ = some (.int .i64 a0_1) := (blk_cell BK375.out 1).trans rfl; have hcz91_2 : w90.cell? ⟨gb375, 2, none⟩ = some (.int .i64 a0_2) := (blk_cell BK375.out 2).trans rfl; have hfz91_0 := blk_frozen BK375.out 0; have hfz91_1 := blk_frozen BK375.out 1; have hfz91_2 := blk_frozen BK375.out 2) | ((with_reducible refine gate_callee (f := 14) rfl ?_); refine goesL_ (some 18) rfl rfl Try.func14 (by kernel_rfl) rfl #[.int .i64 a0_0, .int .i64 a0_1, .int .i64 a0_2] rfl (by (try simp only [List.map_toArray, List.map_cons, List.map_nil]); first | done | rfl | (simp only [List.length_drop, List.length_take]; rfl)) ?_; (with_reducible refine (aimd_New.made.calls a0_0 a0_1 a0_2 t376 t377 t378 t379 t380 t381 t382 t383 t384 t386 _ _ (Below.refl _ _) A4.out).mono ?_); rintro e w92 ⟨g385, rfl, hi, hb, hb2⟩; refine ⟨_, rfl, ?_⟩; have n0_ := Aside0.mk (blk_below (g := gb375) (o := .cells #[.int .i64 a0_0, .int .i64 a0_1, .int .i64 a0_2] 23 (0, 0)) (by (with_reducible repeat (first | refine blk_drewN ?_ _ | refine blk_drew ?_ | refine blk_alloc ?_ _)); exact BK375.out) hb2); have n1_ := Aside0.mk (below_step (by repeat (first | (with_reducible first | exact HB.out | apply below_alloc | apply pw_below_drewN | apply below_drew1 | refine below_set ?_ GE375.out) | exact HB.out)) hb2); have n2_ := Aside0.mk ((IsS63.rebase hi (below_size (by repeat (first | (with_reducible first | exact HB.out | apply below_alloc | apply pw_below_drewN | apply below_drew1 | refine below_set ?_ GE375.out) | exact HB.out))))); have n3_ := Aside0.mk (IsS63.ne_blk hi (blk_below (g := gb375) (o := .cells #[.int .i64 a0_0, .int .i64 a0_1, .int .i64 a0_2] 23 (0, 0)) (by (with_reducible repeat (first | refine blk_drewN ?_ _ | refine blk_drew ?_ | refine blk_alloc ?_ _)); exact BK375.out) hb2) (by decide)); have n4_ := Aside0.mk (Ne.symm (IsS63.ne_blk hi (blk_below (g := gb375) (o := .cells #[.int .i64 a0_0, .int .i64 a0_1, .int .i64 a0_2] 23 (0, 0)) (by (with_reducible repeat (first | refine blk_drewN ?_ _ | refine blk_drew ?_ | refine blk_alloc ?_ _)); exact BK375.out) hb2) (by decide))); clear BK375; clear HB; have BK375 := n0_; have HB := n1_; have HI385 := n2_; have NB385_375 := n3_; have NB375_385 := n4_; clear n0_ n1_ n2_ n3_ n4_; (try clear hb); (try clear hb2); (try clear hk); (try clear hi); have hnb93 := NB375_385.out; have hnc93 := NB385_375.out; have hcz94_0 : w92.cell? ⟨gb375, 0, none⟩ = some (.int .i64 a0_0) := (blk_cell BK375.out 0).trans rfl; have hcz94_1 : w92.cell? ⟨gb375, 1, none⟩ = some (.int .i64 a0_1) := (blk_cell BK375.out 1).trans rfl; have hcz94_2 : w92.cell? ⟨gb375, 2, none⟩ = some (.int .i64 a0_2) := (blk_cell BK375.out 2).trans rfl; have hfz94_0 := blk_frozen BK375.out 0; have hfz94_1 := blk_frozen BK375.out 1; have hfz94_2 := blk_frozen BK375.out 2) | ((with_reducible refine gate_callee (f := 20) rfl ?_); refine goesL_ (some 28) rfl rfl Try.func20 (by kernel_rfl) rfl #[.int .i64 a0_0, .int .i64 a0_1, .int .i64 a0_2] rfl (by (try simp only [List.map_toArray, List.map_cons, List.map_nil]); first | done | rfl | (simp only [List.length_drop, List.length_take]; rfl)) ?_; (with_reducible refine (flywheelref19_New.nil.calls a0_0 a0_1 a0_2 t462 _ A82.out).mono ?_); rintro e w95 ⟨rfl, hb⟩; refine ⟨_, rfl, ?_⟩; have n0_ := Aside0.mk (blk_below (g := gb375) (o := .cells #[.int .i64 a0_0, .int .i64 a0_1, .int .i64 a0_2] 23 (0, 0)) (by (with_reducible repeat (first | refine blk_drewN ?_ _ | refine blk_drew ?_ | refine blk_alloc ?_ _)); exact BK375.out) hb); have n1_ := Aside0.mk (IsS63.below (by repeat (first | (with_reducible first | exact HI385.out | apply IsS63.alloc | apply IsS63.drewN | apply IsS63.drew | apply IsS63.set_0 | apply IsS63.set_1 | apply IsS63.set_2 | apply IsS63.set_3 | apply IsS63.set_4 | apply IsS63.set_5 | apply IsS63.set_6 | apply IsS63.set_7 | apply IsS63.set_8 | refine IsS63.far ?_ NB385_375.out _) | exact HI385.out)) hb); have n2_ := Aside0.mk (below_step (by repeat (first | (with_reducible first | exact HB.out | apply below_alloc | apply pw_below_drewN | apply below_drew1 | refine below_set ?_ (IsS63.ge HI385.out) | refine below_set ?_ GE375.out) | exact HB.out)) hb); clear BK375; clear HI385; clear HB; have BK375 := n0_; have HI385 := n1_; have HB := n2_; clear n0_ n1_ n2_; (try clear hb); (try clear hb2); (try clear hk); (try clear hi)))
    go_ret
    exact ⟨by first | rfl | (simp [errW_none, errW_some] <;> rfl) | (simp [*, errW_none, errW_some] <;> rfl), by repeat (first | (with_reducible first | exact HB.out | apply below_alloc | apply pw_below_drewN | apply below_drew1 | refine below_set ?_ (IsS63.ge HI385.out) | refine below_set ?_ GE375.out) | exact HB.out)⟩
 ·rw [if_neg c3] at H
  have c3b0 : (aimd_New.made.f a0_0 a0_1 a0_2).isSome = false := by simpa using c3
  clear c3
  replace H := Option.bind_eq_some_iff.mp H
  obtain ⟨t463, A960, H⟩ := H
  replace H : (if (flywheelref19_New.made.f a0_0 a0_1 a0_2).isSome = true then ((flywheelref19_New.made.f a0_0 a0_1 a0_2).bind fun bt464 => (if t463 = bt464.2.2.2.2.2.2.2.2.2 then (some false) else (some false))) else ((flywheelref19_New.nil.f a0_0 a0_1 a0_2).bind fun t475 => (if t463 = t475 then (flywheellaw19_AimdPlays.l5000 k l1 0) else (some false)))) = some r := H
  have A96 := Aside0.mk A960
  clear A960
  by_cases c97 : (flywheelref19_New.made.f a0_0 a0_1 a0_2).isSome = true
  ·rw [if_pos c97] at H
   have c97b0 : (flywheelref19_New.made.f a0_0 a0_1 a0_2).isSome = true := c97
   clear c97
   replace H := Option.bind_eq_some_iff.mp H
   obtain ⟨⟨t464, t465, t466, t467, t468, t469, t470, t471, t472, t474⟩, A980, H⟩ := H
   replace H : (if t463 = t474 then (some false) else (some false)) = some r := H
   have A98 := Aside0.mk A980
   clear A980
   by_cases c99 : t463 = t474
   ·rw [if_pos c99] at H
    have c99b0 : (t463 == t474) = true := beq_iff_eq.mpr c99
    have c99b1 : (t463 != t474) = false := bne_eq_false_iff_eq.mpr c99
    clear c99
    obtain rfl := Option.some.inj H
    go_enter Try.func5, Try.ntmps5
    go_wp2_with (first | ((with_reducible refine gate_dst (N := 2) rfl ?_); refine box_event ?hg (N := 2) ?hd (cs := #[.int .i64 a0_0, .int .i64 a0_1, .int .i64 a0_2]) (t := 23) ?hr ?_; (case hd => rfl); (case hg => rfl); (case hr => first | (go_simp; done) | (go_simp; rfl)); intro gb375 hg w100 hbox hb; have n0_ := Aside0.mk (below_step (by repeat (first | (with_reducible first | exact HB.out | apply below_alloc | apply pw_below_drewN | apply below_drew1) | exact HB.out)) hb); have n1_ := Aside0.mk (hbox); have n2_ := Aside0.mk ((by rw [hg]; exact (below_size (by repeat (first | (with_reducible first | exact HB.out | apply below_alloc | apply pw_below_drewN | apply below_drew1) | exact HB.out))) : w.heap.size ≤ gb375)); have n3_ := Aside0.mk ((by rw [hg]; exact (below_size (by repeat (first | (with_reducible first | exact HB.out | apply below_alloc | apply pw_below_drewN | apply below_drew1) | exact HB.out))) : w.heap.size ≤ gb375)); clear HB; have HB := n0_; have BK375 := n1_; have GW375 := n2_; have GE375 := n3_; clear n0_ n1_ n2_ n3_; clear hb hbox hg; have hcz101_0 : w100.cell? ⟨gb375, 0, none⟩ = some (.int .i64 a0_0) := (blk_cell BK375.out 0).trans rfl; have hcz101_1 : w100.cell? ⟨gb375, 1, none⟩ = some (.int .i64 a0_1) := (blk_cell BK375.out 1).trans rfl; have hcz101_2 : w100.cell? ⟨gb375, 2, none⟩ = some (.int .i64 a0_2) := (blk_cell BK375.out 2).trans rfl; have hfz101_0 := blk_frozen BK375.out 0; have hfz101_1 := blk_frozen BK375.out 1; have hfz101_2 := blk_frozen BK375.out 2) | ((with_reducible refine gate_callee (f := 14) rfl ?_); refine goesL_ (some 18) rfl rfl Try.func14 (by kernel_rfl) rfl #[.int .i64 a0_0, .int .i64 a0_1, .int .i64 a0_2] rfl (by (try simp only [List.map_toArray, List.map_cons, List.map_nil]); first | done | rfl | (simp only [List.length_drop, List.length_take]; rfl)) ?_; (with_reducible refine (aimd_New.nil.calls a0_0 a0_1 a0_2 t463 _ A96.out).mono ?_); rintro e w102 ⟨rfl, hb⟩; refine ⟨_, rfl, ?_⟩; have n0_ := Aside0.mk (blk_below (g := gb375) (o := .cells #[.int .i64 a0_0, .int .i64 a0_1, .int .i64 a0_2] 23 (0, 0)) (by (with_reducible repeat (first | refine blk_drewN ?_ _ | refine blk_drew ?_ | refine blk_alloc ?_ _)); exact BK375.out) hb); have n1_ := Aside0.mk (below_step (by repeat (first | (with_reducible first | exact HB.out | apply below_alloc | apply pw_below_drewN | apply below_drew1 | refine below_set ?_ GE375.out) | exact HB.out)) hb); clear BK375; clear HB; have BK375 := n0_; have HB := n1_; clear n0_ n1_; (try clear hb); (try clear hb2); (try clear hk); (try clear hi); have hcz103_0 : w102.cell? ⟨gb375, 0, none⟩ = some (.int .i64 a0_0) := (blk_cell BK375.out 0).trans rfl; have hcz103_1 : w102.cell? ⟨gb375, 1, none⟩ = some (.int .i64 a0_1) := (blk_cell BK375.out 1).trans rfl; have hcz103_2 : w102.cell? ⟨gb375, 2, none⟩ = some (.int .i64 a0_2) := (blk_cell BK375.out 2).trans rfl; have hfz103_0 := blk_frozen BK375.out 0; have hfz103_1 := blk_frozen BK375.out 1; have hfz103_2 := blk_frozen BK375.out 2) | ((with_reducible refine gate_callee (f := 20) rfl ?_); refine goesL_ (some 28) rfl rfl Try.func20 (by kernel_rfl) rfl #[.int .i64 a0_0, .int .i64 a0_1, .int .i64 a0_2] rfl (by (try simp only [List.map_toArray, List.map_cons, List.map_nil]); first | done | rfl | (simp only [List.length_drop, List.length_take]; rfl)) ?_; (with_reducible refine (flywheelref19_New.made.calls a0_0 a0_1 a0_2 t464 t465 t466 t467 t468 t469 t470 t471 t472 t474 _ _ (Below.refl _ _) A98.out).mono ?_); rintro e w104 ⟨g473, rfl, hi, hb, hb2⟩; refine ⟨_, rfl, ?_⟩; have n0_ := Aside0.mk (blk_below (g := gb375) (o := .cells #[.int .i64 a0_0, .int .i64 a0_1, .int .i64 a0_2] 23 (0, 0)) (by (with_reducible repeat (first | refine blk_drewN ?_ _ | refine blk_drew ?_ | refine blk_alloc ?_ _)); exact BK375.out) hb2); have n1_ := Aside0.mk (below_step (by repeat (first | (with_reducible first | exact HB.out | apply below_alloc | apply pw_below_drewN | apply below_drew1 | refine below_set ?_ GE375.out) | exact HB.out)) hb2); have n2_ := Aside0.mk ((IsS71.rebase hi (below_size (by repeat (first | (with_reducible first | exact HB.out | apply below_alloc | apply pw_below_drewN | apply below_drew1 | refine below_set ?_ GE375.out) | exact HB.out))))); have n3_ := Aside0.mk (IsS71.ne_blk hi (blk_below (g := gb375) (o := .cells #[.int .i64 a0_0, .int .i64 a0_1, .int .i64 a0_2] 23 (0, 0)) (by (with_reducible repeat (first | refine blk_drewN ?_ _ | refine blk_drew ?_ | refine blk_alloc ?_ _)); exact BK375.out) hb2) (by decide)); have n4_ := Aside0.mk (Ne.symm (IsS71.ne_blk hi (blk_below (g := gb375) (o := .cells #[.int .i64 a0_0, .int .i64 a0_1, .int .i64 a0_2] 23 (0, 0)) (by (with_reducible repeat (first | refine blk_drewN ?_ _ | refine blk_drew ?_ | refine blk_alloc ?_ _)); exact BK375.out) hb2) (by decide))); clear BK375; clear HB; have BK375 := n0_; have HB := n1_; have HI473 := n2_; have NB473_375 := n3_; have NB375_473 := n4_; clear n0_ n1_ n2_ n3_ n4_; (try clear hb); (try clear hb2); (try clear hk); (try clear hi)))
    go_ret
    exact ⟨by first | rfl | (simp [errW_none, errW_some] <;> rfl) | (simp [*, errW_none, errW_some] <;> rfl), by repeat (first | (with_reducible first | exact HB.out | apply below_alloc | apply pw_below_drewN | apply below_drew1 | refine below_set ?_ (IsS71.ge HI473.out) | refine below_set ?_ GE375.out) | exact HB.out)⟩
   ·rw [if_neg c99] at H
    have c99b0 : (t463 == t474) = false := beq_eq_false_iff_ne.mpr c99
    have c99b1 : (t463 != t474) = true := bne_iff_ne.mpr c99
    obtain rfl := Option.some.inj H
    go_enter Try.func5, Try.ntmps5
    go_wp2_with (first | ((with_reducible refine gate_dst (N := 2) rfl ?_); refine box_event ?hg (N := 2) ?hd (cs := #[.int .i64 a0_0, .int .i64 a0_1, .int .i64 a0_2]) (t := 23) ?hr ?_; (case hd => rfl); (case hg => rfl); (case hr => first | (go_simp; done) | (go_simp; rfl)); intro gb375 hg w105 hbox hb; have n0_ := Aside0.mk (below_step (by repeat (first | (with_reducible first | exact HB.out | apply below_alloc | apply pw_below_drewN | apply below_drew1) | exact HB.out)) hb); have n1_ := Aside0.mk (hbox); have n2_ := Aside0.mk ((by rw [hg]; exact (below_size (by repeat (first | (with_reducible first | exact HB.out | apply below_alloc | apply pw_below_drewN | apply below_drew1) | exact HB.out))) : w.heap.size ≤ gb375)); have n3_ := Aside0.mk ((by rw [hg]; exact (below_size (by repeat (first | (with_reducible first | exact HB.out | apply below_alloc | apply pw_below_drewN | apply below_drew1) | exact HB.out))) : w.heap.size ≤ gb375)); clear HB; have HB := n0_; have BK375 := n1_; have GW375 := n2_; have GE375 := n3_; clear n0_ n1_ n2_ n3_; clear hb hbox hg; have hcz106_0 : w105.cell? ⟨gb375, 0, none⟩ = some (.int .i64 a0_0) := (blk_cell BK375.out 0).trans rfl; have hcz106_1 : w105.cell? ⟨gb375, 1, none⟩ = some (.int .i64 a0_1) := (blk_cell BK375.out 1).trans rfl; have hcz106_2 : w105.cell? ⟨gb375, 2, none⟩ = some (.int .i64 a0_2) := (blk_cell BK375.out 2).trans rfl; have hfz106_0 := blk_frozen BK375.out 0; have hfz106_1 := blk_frozen BK375.out 1; have hfz106_2 := blk_frozen BK375.out 2) | ((with_reducible refine gate_callee (f := 14) rfl ?_); refine goesL_ (some 18) rfl rfl Try.func14 (by kernel_rfl) rfl #[.int .i64 a0_0, .int .i64 a0_1, .int .i64 a0_2] rfl (by (try simp only [List.map_toArray, List.map_cons, List.map_nil]); first | done | rfl | (simp only [List.length_drop, List.length_take]; rfl)) ?_; (with_reducible refine (aimd_New.nil.calls a0_0 a0_1 a0_2 t463 _ A96.out).mono ?_); rintro e w107 ⟨rfl, hb⟩; refine ⟨_, rfl, ?_⟩; have n0_ := Aside0.mk (blk_below (g := gb375) (o := .cells #[.int .i64 a0_0, .int .i64 a0_1, .int .i64 a0_2] 23 (0, 0)) (by (with_reducible repeat (first | refine blk_drewN ?_ _ | refine blk_drew ?_ | refine blk_alloc ?_ _)); exact BK375.out) hb); have n1_ := Aside0.mk (below_step (by repeat (first | (with_reducible first | exact HB.out | apply below_alloc | apply pw_below_drewN | apply below_drew1 | refine below_set ?_ GE375.out) | exact HB.out)) hb); clear BK375; clear HB; have BK375 := n0_; have HB := n1_; clear n0_ n1_; (try clear hb); (try clear hb2); (try clear hk); (try clear hi); have hcz108_0 : w107.cell? ⟨gb375, 0, none⟩ = some (.int .i64 a0_0) := (blk_cell BK375.out 0).trans rfl; have hcz108_1 : w107.cell? ⟨gb375, 1, none⟩ = some (.int .i64 a0_1) := (blk_cell BK375.out 1).trans rfl; have hcz108_2 : w107.cell? ⟨gb375, 2, none⟩ = some (.int .i64 a0_2) := (blk_cell BK375.out 2).trans rfl; have hfz108_0 := blk_frozen BK375.out 0; have hfz108_1 := blk_frozen BK375.out 1; have hfz108_2 := blk_frozen BK375.out 2) | ((with_reducible refine gate_callee (f := 20) rfl ?_); refine goesL_ (some 28) rfl rfl Try.func20 (by kernel_rfl) rfl #[.int .i64 a0_0, .int .i64 a0_1, .int .i64 a0_2] rfl (by (try simp only [List.map_toArray, List.map_cons, List.map_nil]); first | done | rfl | (simp only [List.length_drop, List.length_take]; rfl)) ?_; (with_reducible refine (flywheelref19_New.made.calls a0_0 a0_1 a0_2 t464 t465 t466 t467 t468 t469 t470 t471 t472 t474 _ _ (Below.refl _ _) A98.out).mono ?_); rintro e w109 ⟨g473, rfl, hi, hb, hb2⟩; refine ⟨_, rfl, ?_⟩; have n0_ := Aside0.mk (blk_below (g := gb375) (o := .cells #[.int .i64 a0_0, .int .i64 a0_1, .int .i64 a0_2] 23 (0, 0)) (by (with_reducible repeat (first | refine blk_drewN ?_ _ | refine blk_drew ?_ | refine blk_alloc ?_ _)); exact BK375.out) hb2); have n1_ := Aside0.mk (below_step (by repeat (first | (with_reducible first | exact HB.out | apply below_alloc | apply pw_below_drewN | apply below_drew1 | refine below_set ?_ GE375.out) | exact HB.out)) hb2); have n2_ := Aside0.mk ((IsS71.rebase hi (below_size (by repeat (first | (with_reducible first | exact HB.out | apply below_alloc | apply pw_below_drewN | apply below_drew1 | refine below_set ?_ GE375.out) | exact HB.out))))); have n3_ := Aside0.mk (IsS71.ne_blk hi (blk_below (g := gb375) (o := .cells #[.int .i64 a0_0, .int .i64 a0_1, .int .i64 a0_2] 23 (0, 0)) (by (with_reducible repeat (first | refine blk_drewN ?_ _ | refine blk_drew ?_ | refine blk_alloc ?_ _)); exact BK375.out) hb2) (by decide)); have n4_ := Aside0.mk (Ne.symm (IsS71.ne_blk hi (blk_below (g := gb375) (o := .cells #[.int .i64 a0_0, .int .i64 a0_1, .int .i64 a0_2] 23 (0, 0)) (by (with_reducible repeat (first | refine blk_drewN ?_ _ | refine blk_drew ?_ | refine blk_alloc ?_ _)); exact BK375.out) hb2) (by decide))); clear BK375; clear HB; have BK375 := n0_; have HB := n1_; have HI473 := n2_; have NB473_375 := n3_; have NB375_473 := n4_; clear n0_ n1_ n2_ n3_ n4_; (try clear hb); (try clear hb2); (try clear hk); (try clear hi)))
    go_ret
    exact ⟨by first | rfl | (simp [errW_none, errW_some] <;> rfl) | (simp [*, errW_none, errW_some] <;> rfl), by repeat (first | (with_reducible first | exact HB.out | apply below_alloc | apply pw_below_drewN | apply below_drew1 | refine below_set ?_ (IsS71.ge HI473.out) | refine below_set ?_ GE375.out) | exact HB.out)⟩
  ·rw [if_neg c97] at H
   have c97b0 : (flywheelref19_New.made.f a0_0 a0_1 a0_2).isSome = false := by simpa using c97
   clear c97
   replace H := Option.bind_eq_some_iff.mp H
   obtain ⟨t475, A1100, H⟩ := H
   replace H : (if t463 = t475 then (flywheellaw19_AimdPlays.l5000 k l1 0) else (some false)) = some r := H
   have A110 := Aside0.mk A1100
   clear A1100
   by_cases c111 : t463 = t475
   ·rw [if_pos c111] at H
    have c111b0 : (t463 == t475) = true := beq_iff_eq.mpr c111
    have c111b1 : (t463 != t475) = false := bne_eq_false_iff_eq.mpr c111
    clear c111
    have H' := Aside0.mk H
    clear H
    go_enter Try.func5, Try.ntmps5
    go_wp2_with (first | ((with_reducible refine gate_dst (N := 2) rfl ?_); refine box_event ?hg (N := 2) ?hd (cs := #[.int .i64 a0_0, .int .i64 a0_1, .int .i64 a0_2]) (t := 23) ?hr ?_; (case hd => rfl); (case hg => rfl); (case hr => first | (go_simp; done) | (go_simp; rfl)); intro gb375 hg w112 hbox hb; have n0_ := Aside0.mk (below_step (by repeat (first | (with_reducible first | exact HB.out | apply below_alloc | apply pw_below_drewN | apply below_drew1) | exact HB.out)) hb); have n1_ := Aside0.mk (hbox); have n2_ := Aside0.mk ((by rw [hg]; exact (below_size (by repeat (first | (with_reducible first | exact HB.out | apply below_alloc | apply pw_below_drewN | apply below_drew1) | exact HB.out))) : w.heap.size ≤ gb375)); have n3_ := Aside0.mk ((by rw [hg]; exact (below_size (by repeat (first | (with_reducible first | exact HB.out | apply below_alloc | apply pw_below_drewN | apply below_drew1) | exact HB.out))) : w.heap.size ≤ gb375)); clear HB; have HB := n0_; have BK375 := n1_; have GW375 := n2_; have GE375 := n3_; clear n0_ n1_ n2_ n3_; clear hb hbox hg; have hcz113_0 : w112.cell? ⟨gb375, 0, none⟩ = some (.int .i64 a0_0) := (blk_cell BK375.out 0).trans rfl; have hcz113_1 : w112.cell? ⟨gb375, 1, none⟩ = some (.int .i64 a0_1) := (blk_cell BK375.out 1).trans rfl; have hcz113_2 : w112.cell? ⟨gb375, 2, none⟩ = some (.int .i64 a0_2) := (blk_cell BK375.out 2).trans rfl; have hfz113_0 := blk_frozen BK375.out 0; have hfz113_1 := blk_frozen BK375.out 1; have hfz113_2 := blk_frozen BK375.out 2) | ((with_reducible refine gate_callee (f := 14) rfl ?_); refine goesL_ (some 18) rfl rfl Try.func14 (by kernel_rfl) rfl #[.int .i64 a0_0, .int .i64 a0_1, .int .i64 a0_2] rfl (by (try simp only [List.map_toArray, List.map_cons, List.map_nil]); first | done | rfl | (simp only [List.length_drop, List.length_take]; rfl)) ?_; (with_reducible refine (aimd_New.nil.calls a0_0 a0_1 a0_2 t463 _ A96.out).mono ?_); rintro e w114 ⟨rfl, hb⟩; refine ⟨_, rfl, ?_⟩; have n0_ := Aside0.mk (blk_below (g := gb375) (o := .cells #[.int .i64 a0_0, .int .i64 a0_1, .int .i64 a0_2] 23 (0, 0)) (by (with_reducible repeat (first | refine blk_drewN ?_ _ | refine blk_drew ?_ | refine blk_alloc ?_ _)); exact BK375.out) hb); have n1_ := Aside0.mk (below_step (by repeat (first | (with_reducible first | exact HB.out | apply below_alloc | apply pw_below_drewN | apply below_drew1 | refine below_set ?_ GE375.out) | exact HB.out)) hb); clear BK375; clear HB; have BK375 := n0_; have HB := n1_; clear n0_ n1_; (try clear hb); (try clear hb2); (try clear hk); (try clear hi); have hcz115_0 : w114.cell? ⟨gb375, 0, none⟩ = some (.int .i64 a0_0) := (blk_cell BK375.out 0).trans rfl; have hcz115_1 : w114.cell? ⟨gb375, 1, none⟩ = some (.int .i64 a0_1) := (blk_cell BK375.out 1).trans rfl; have hcz115_2 : w114.cell? ⟨gb375, 2, none⟩ = some (.int .i64 a0_2) := (blk_cell BK375.out 2).trans rfl; have hfz115_0 := blk_frozen BK375.out 0; have hfz115_1 := blk_frozen BK375.out 1; have hfz115_2 := blk_frozen BK375.out 2) | ((with_reducible refine gate_callee (f := 20) rfl ?_); refine goesL_ (some 28) rfl rfl Try.func20 (by kernel_rfl) rfl #[.int .i64 a0_0, .int .i64 a0_1, .int .i64 a0_2] rfl (by (try simp only [List.map_toArray, List.map_cons, List.map_nil]); first | done | rfl | (simp only [List.length_drop, List.length_take]; rfl)) ?_; (with_reducible refine (flywheelref19_New.nil.calls a0_0 a0_1 a0_2 t475 _ A110.out).mono ?_); rintro e w116 ⟨rfl, hb⟩; refine ⟨_, rfl, ?_⟩; have n0_ := Aside0.mk (blk_below (g := gb375) (o := .cells #[.int .i64 a0_0, .int .i64 a0_1, .int .i64 a0_2] 23 (0, 0)) (by (with_reducible repeat (first | refine blk_drewN ?_ _ | refine blk_drew ?_ | refine blk_alloc ?_ _)); exact BK375.out) hb); have n1_ := Aside0.mk (below_step (by repeat (first | (with_reducible first | exact HB.out | apply below_alloc | apply pw_below_drewN | apply below_drew1 | refine below_set ?_ GE375.out) | exact HB.out)) hb); clear BK375; clear HB; have BK375 := n0_; have HB := n1_; clear n0_ n1_; (try clear hb); (try clear hb2); (try clear hk); (try clear hi)))
    go_loopg [9] k (fun kq v9 w' => ∃ (x9_1 : Int), v9 = .int .i64 x9_1 ∧ Aside0 (flywheellaw19_AimdPlays.l5000 kq l1 x9_1 = some r) ∧ Aside0 (kq ≤ k) ∧ Aside0 (w'.heap[gb375]? = some (.cells #[.int .i64 a0_0, .int .i64 a0_1, .int .i64 a0_2] 23 (0, 0))) ∧ Aside0 (Below w.heap.size w w'))
    case atStart => exact ⟨(0), (by first | rfl | (simp; done) | (simp [*]; done)), H', ⟨Nat.le_refl _⟩, ⟨by (with_reducible repeat (first | refine blk_drewN ?_ _ | refine blk_drew ?_ | refine blk_alloc ?_ _)); exact BK375.out⟩, ⟨by repeat (first | (with_reducible first | exact HB.out | apply below_alloc | apply pw_below_drewN | apply below_drew1 | refine below_set ?_ GE375.out) | exact HB.out)⟩⟩
    case round =>
     clear H'
     try clear c1
     try clear c2
     try clear p2
     try clear c3
     try clear c3b0
     try clear p3
     try clear q3
     try clear hx3
     try clear c5
     try clear c5b0
     try clear c6
     try clear c7
     try clear c7b0
     try clear c7b1
     try clear c8
     try clear c9
     try clear c11
     try clear c14
     try clear c14b0
     try clear c15
     try clear c15b0
     try clear c16
     try clear c17
     try clear c18
     try clear c19
     try clear c19b0
     try clear c19b1
     try clear c20
     try clear c21
     try clear c22
     try clear p39
     try clear q39
     try clear hx39
     try clear c64
     try clear c65
     try clear c66
     try clear c79
     try clear c83
     try clear c83b0
     try clear c83b1
     try clear c87
     try clear c93
     try clear c97
     try clear c97b0
     try clear c99
     try clear c99b0
     try clear c99b1
     try clear c111
     try clear c111b0
     try clear c111b1
     try clear hcz101_0
     try clear hcz101_1
     try clear hcz101_2
     try clear hcz103_0
     try clear hcz103_1
     try clear hcz103_2
     try clear hcz106_0
     try clear hcz106_1
     try clear hcz106_2
     try clear hcz108_0
     try clear hcz108_1
     try clear hcz108_2
     try clear hcz113_0
     try clear hcz113_1
     try clear hcz113_2
     try clear hcz115_0
     try clear hcz115_1
     try clear hcz115_2
     try clear hcz67_0
     try clear hcz67_1
     try clear hcz67_2
     try clear hcz67_3
     try clear hcz77_0
     try clear hcz77_1
     try clear hcz77_2
     try clear hcz80_0
     try clear hcz80_1
     try clear hcz80_2
     try clear hcz85_0
     try clear hcz85_1
     try clear hcz85_2
     try clear hcz88_0
     try clear hcz88_1
     try clear hcz88_2
     try clear hcz91_0
     try clear hcz91_1
     try clear hcz91_2
     try clear hcz94_0
     try clear hcz94_1
     try clear hcz94_2
     try clear hfz101_0
     try clear hfz101_1
     try clear hfz101_2
     try clear hfz103_0
     try clear hfz103_1
     try clear hfz103_2
     try clear hfz106_0
     try clear hfz106_1
     try clear hfz106_2
     try clear hfz108_0
     try clear hfz108_1
     try clear hfz108_2
     try clear hfz113_0
     try clear hfz113_1
     try clear hfz113_2
     try clear hfz115_0
     try clear hfz115_1
     try clear hfz115_2
     try clear hfz67_0
     try clear hfz67_1
     try clear hfz67_2
     try clear hfz67_3
     try clear hfz77_0
     try clear hfz77_1
     try clear hfz77_2
     try clear hfz80_0
     try clear hfz80_1
     try clear hfz80_2
     try clear hfz85_0
     try clear hfz85_1
     try clear hfz85_2
     try clear hfz88_0
     try clear hfz88_1
     try clear hfz88_2
     try clear hfz91_0
     try clear hfz91_1
     try clear hfz91_2
     try clear hfz94_0
     try clear hfz94_1
     try clear hfz94_2
     try clear hx398_0
     try clear hx398_1
     try clear hx398_2
     try clear hx398_3
     try clear p398
     try clear q398
     obtain ⟨x9_1, rfl, HA, HK1, BK375, HB⟩ := hrel
     cases gk with
     | zero => exact absurd HA.out (by simp [flywheellaw19_AimdPlays.l5000])
     | succ k1 =>
      have H := HA.out
      clear HA
      simp only [flywheellaw19_AimdPlays.l5000] at H
      by_cases c117 : x9_1 < (l1.length : Int)
      ·rw [if_pos c117] at H
       have c117b0 : decide (x9_1 < (l1.length : Int)) = true := decide_eq_true c117
       clear c117
       by_cases c118 : x9_1 < 200
       ·rw [if_pos c118] at H
        have c118b0 : decide (x9_1 < 200) = true := decide_eq_true c118
        clear c118
        replace H := Option.bind_eq_some_iff.mp H
        obtain ⟨t476, A1190, H⟩ := H
        replace H : (some t476) = some r := H
        have A119 := Aside0.mk A1190
        clear A1190
        obtain rfl := Option.some.inj H
        go_wp2_with (first | ((with_reducible refine gate_callee (f := 16) rfl ?_); refine goesL_ (some 94) rfl rfl Try.func16 (by kernel_rfl) rfl #[] rfl (by (try simp only [List.map_toArray, List.map_cons, List.map_nil]); first | done | rfl | (simp only [List.length_drop, List.length_take]; rfl)) ?_; (with_reducible refine (flywheellaw19_wakes.calls k1  t476 _ A119.out).mono ?_); rintro e w120 ⟨rfl, hb⟩; refine ⟨_, rfl, ?_⟩; have n0_ := Aside0.mk (blk_below (g := gb375) (o := .cells #[.int .i64 a0_0, .int .i64 a0_1, .int .i64 a0_2] 23 (0, 0)) (by (with_reducible repeat (first | refine blk_drewN ?_ _ | refine blk_drew ?_ | refine blk_alloc ?_ _)); exact BK375.out) hb); have n1_ := Aside0.mk (below_step (by repeat (first | (with_reducible first | exact HB.out | apply below_alloc | apply pw_below_drewN | apply below_drew1 | refine below_set ?_ GE375.out) | exact HB.out)) hb); clear BK375; clear HB; have BK375 := n0_; have HB := n1_; clear n0_ n1_; (try clear hb); (try clear hb2); (try clear hk); (try clear hi)))
        go_ret
        exact ⟨by first | rfl | (simp [errW_none, errW_some] <;> rfl) | (simp [*, errW_none, errW_some] <;> rfl), by repeat (first | (with_reducible first | exact HB.out | apply below_alloc | apply pw_below_drewN | apply below_drew1 | refine below_set ?_ GE375.out) | exact HB.out)⟩
       ·rw [if_neg c118] at H
        have c118b0 : decide (x9_1 < 200) = false := decide_eq_false c118
        clear c118
        replace H := Option.bind_eq_some_iff.mp H
        obtain ⟨t477, A1210, H⟩ := H
        replace H : (some t477) = some r := H
        have A121 := Aside0.mk A1210
        clear A1210
        obtain rfl := Option.some.inj H
        go_wp2_with (first | ((with_reducible refine gate_callee (f := 16) rfl ?_); refine goesL_ (some 94) rfl rfl Try.func16 (by kernel_rfl) rfl #[] rfl (by (try simp only [List.map_toArray, List.map_cons, List.map_nil]); first | done | rfl | (simp only [List.length_drop, List.length_take]; rfl)) ?_; (with_reducible refine (flywheellaw19_wakes.calls k1  t477 _ A121.out).mono ?_); rintro e w122 ⟨rfl, hb⟩; refine ⟨_, rfl, ?_⟩; have n0_ := Aside0.mk (blk_below (g := gb375) (o := .cells #[.int .i64 a0_0, .int .i64 a0_1, .int .i64 a0_2] 23 (0, 0)) (by (with_reducible repeat (first | refine blk_drewN ?_ _ | refine blk_drew ?_ | refine blk_alloc ?_ _)); exact BK375.out) hb); have n1_ := Aside0.mk (below_step (by repeat (first | (with_reducible first | exact HB.out | apply below_alloc | apply pw_below_drewN | apply below_drew1 | refine below_set ?_ GE375.out) | exact HB.out)) hb); clear BK375; clear HB; have BK375 := n0_; have HB := n1_; clear n0_ n1_; (try clear hb); (try clear hb2); (try clear hk); (try clear hi)))
        go_ret
        exact ⟨by first | rfl | (simp [errW_none, errW_some] <;> rfl) | (simp [*, errW_none, errW_some] <;> rfl), by repeat (first | (with_reducible first | exact HB.out | apply below_alloc | apply pw_below_drewN | apply below_drew1 | refine below_set ?_ GE375.out) | exact HB.out)⟩
      ·rw [if_neg c117] at H
       have c117b0 : decide (x9_1 < (l1.length : Int)) = false := decide_eq_false c117
       clear c117
       replace H := Option.bind_eq_some_iff.mp H
       obtain ⟨t478, A1230, H⟩ := H
       replace H : (some t478) = some r := H
       have A123 := Aside0.mk A1230
       clear A1230
       obtain rfl := Option.some.inj H
       go_wp2_with (first | ((with_reducible refine gate_callee (f := 16) rfl ?_); refine goesL_ (some 94) rfl rfl Try.func16 (by kernel_rfl) rfl #[] rfl (by (try simp only [List.map_toArray, List.map_cons, List.map_nil]); first | done | rfl | (simp only [List.length_drop, List.length_take]; rfl)) ?_; (with_reducible refine (flywheellaw19_wakes.calls k1  t478 _ A123.out).mono ?_); rintro e w124 ⟨rfl, hb⟩; refine ⟨_, rfl, ?_⟩; have n0_ := Aside0.mk (blk_below (g := gb375) (o := .cells #[.int .i64 a0_0, .int .i64 a0_1, .int .i64 a0_2] 23 (0, 0)) (by (with_reducible repeat (first | refine blk_drewN ?_ _ | refine blk_drew ?_ | refine blk_alloc ?_ _)); exact BK375.out) hb); have n1_ := Aside0.mk (below_step (by repeat (first | (with_reducible first | exact HB.out | apply below_alloc | apply pw_below_drewN | apply below_drew1 | refine below_set ?_ GE375.out) | exact HB.out)) hb); clear BK375; clear HB; have BK375 := n0_; have HB := n1_; clear n0_ n1_; (try clear hb); (try clear hb2); (try clear hk); (try clear hi)))
       go_ret
       exact ⟨by first | rfl | (simp [errW_none, errW_some] <;> rfl) | (simp [*, errW_none, errW_some] <;> rfl), by repeat (first | (with_reducible first | exact HB.out | apply below_alloc | apply pw_below_drewN | apply below_drew1 | refine below_set ?_ GE375.out) | exact HB.out)⟩
   ·rw [if_neg c111] at H
    have c111b0 : (t463 == t475) = false := beq_eq_false_iff_ne.mpr c111
    have c111b1 : (t463 != t475) = true := bne_iff_ne.mpr c111
    obtain rfl := Option.some.inj H
    go_enter Try.func5, Try.ntmps5
    go_wp2_with (first | ((with_reducible refine gate_dst (N := 2) rfl ?_); refine box_event ?hg (N := 2) ?hd (cs := #[.int .i64 a0_0, .int .i64 a0_1, .int .i64 a0_2]) (t := 23) ?hr ?_; (case hd => rfl); (case hg => rfl); (case hr => first | (go_simp; done) | (go_simp; rfl)); intro gb375 hg w125 hbox hb; have n0_ := Aside0.mk (below_step (by repeat (first | (with_reducible first | exact HB.out | apply below_alloc | apply pw_below_drewN | apply below_drew1) | exact HB.out)) hb); have n1_ := Aside0.mk (hbox); have n2_ := Aside0.mk ((by rw [hg]; exact (below_size (by repeat (first | (with_reducible first | exact HB.out | apply below_alloc | apply pw_below_drewN | apply below_drew1) | exact HB.out))) : w.heap.size ≤ gb375)); have n3_ := Aside0.mk ((by rw [hg]; exact (below_size (by repeat (first | (with_reducible first | exact HB.out | apply below_alloc | apply pw_below_drewN | apply below_drew1) | exact HB.out))) : w.heap.size ≤ gb375)); clear HB; have HB := n0_; have BK375 := n1_; have GW375 := n2_; have GE375 := n3_; clear n0_ n1_ n2_ n3_; clear hb hbox hg; have hcz126_0 : w125.cell? ⟨gb375, 0, none⟩ = some (.int .i64 a0_0) := (blk_cell BK375.out 0).trans rfl; have hcz126_1 : w125.cell? ⟨gb375, 1, none⟩ = some (.int .i64 a0_1) := (blk_cell BK375.out 1).trans rfl; have hcz126_2 : w125.cell? ⟨gb375, 2, none⟩ = some (.int .i64 a0_2) := (blk_cell BK375.out 2).trans rfl; have hfz126_0 := blk_frozen BK375.out 0; have hfz126_1 := blk_frozen BK375.out 1; have hfz126_2 := blk_frozen BK375.out 2) | ((with_reducible refine gate_callee (f := 14) rfl ?_); refine goesL_ (some 18) rfl rfl Try.func14 (by kernel_rfl) rfl #[.int .i64 a0_0, .int .i64 a0_1, .int .i64 a0_2] rfl (by (try simp only [List.map_toArray, List.map_cons, List.map_nil]); first | done | rfl | (simp only [List.length_drop, List.length_take]; rfl)) ?_; (with_reducible refine (aimd_New.nil.calls a0_0 a0_1 a0_2 t463 _ A96.out).mono ?_); rintro e w127 ⟨rfl, hb⟩; refine ⟨_, rfl, ?_⟩; have n0_ := Aside0.mk (blk_below (g := gb375) (o := .cells #[.int .i64 a0_0, .int .i64 a0_1, .int .i64 a0_2] 23 (0, 0)) (by (with_reducible repeat (first | refine blk_drewN ?_ _ | refine blk_drew ?_ | refine blk_alloc ?_ _)); exact BK375.out) hb); have n1_ := Aside0.mk (below_step (by repeat (first | (with_reducible first | exact HB.out | apply below_alloc | apply pw_below_drewN | apply below_drew1 | refine below_set ?_ GE375.out) | exact HB.out)) hb); clear BK375; clear HB; have BK375 := n0_; have HB := n1_; clear n0_ n1_; (try clear hb); (try clear hb2); (try clear hk); (try clear hi); have hcz128_0 : w127.cell? ⟨gb375, 0, none⟩ = some (.int .i64 a0_0) := (blk_cell BK375.out 0).trans rfl; have hcz128_1 : w127.cell? ⟨gb375, 1, none⟩ = some (.int .i64 a0_1) := (blk_cell BK375.out 1).trans rfl; have hcz128_2 : w127.cell? ⟨gb375, 2, none⟩ = some (.int .i64 a0_2) := (blk_cell BK375.out 2).trans rfl; have hfz128_0 := blk_frozen BK375.out 0; have hfz128_1 := blk_frozen BK375.out 1; have hfz128_2 := blk_frozen BK375.out 2) | ((with_reducible refine gate_callee (f := 20) rfl ?_); refine goesL_ (some 28) rfl rfl Try.func20 (by kernel_rfl) rfl #[.int .i64 a0_0, .int .i64 a0_1, .int .i64 a0_2] rfl (by (try simp only [List.map_toArray, List.map_cons, List.map_nil]); first | done | rfl | (simp only [List.length_drop, List.length_take]; rfl)) ?_; (with_reducible refine (flywheelref19_New.nil.calls a0_0 a0_1 a0_2 t475 _ A110.out).mono ?_); rintro e w129 ⟨rfl, hb⟩; refine ⟨_, rfl, ?_⟩; have n0_ := Aside0.mk (blk_below (g := gb375) (o := .cells #[.int .i64 a0_0, .int .i64 a0_1, .int .i64 a0_2] 23 (0, 0)) (by (with_reducible repeat (first | refine blk_drewN ?_ _ | refine blk_drew ?_ | refine blk_alloc ?_ _)); exact BK375.out) hb); have n1_ := Aside0.mk (below_step (by repeat (first | (with_reducible first | exact HB.out | apply below_alloc | apply pw_below_drewN | apply below_drew1 | refine below_set ?_ GE375.out) | exact HB.out)) hb); clear BK375; clear HB; have BK375 := n0_; have HB := n1_; clear n0_ n1_; (try clear hb); (try clear hb2); (try clear hk); (try clear hi)))
    go_ret
    exact ⟨by first | rfl | (simp [errW_none, errW_some] <;> rfl) | (simp [*, errW_none, errW_some] <;> rfl), by repeat (first | (with_reducible first | exact HB.out | apply below_alloc | apply pw_below_drewN | apply below_drew1 | refine below_set ?_ GE375.out) | exact HB.out)⟩
def flywheellaw19_AimdPlays.Pure : Prop := ∀ (a0_0 : Int) (a0_1 : Int) (a0_2 : Int) (l1 : List (S34)), (Lit.int .i64 a0_0).wf = true → (Lit.int .i64 a0_1).wf = true → (Lit.int .i64 a0_2).wf = true → l1.length ≤ maxLen → l1.length * 32 ≤ 140737488351232 → (∀ x ∈ l1, (Lit.int .i64 x.f0).wf = true ∧ (Lit.int .i64 x.f1).wf = true ∧ (Lit.int .i64 x.f2).wf = true ∧ (Lit.int .i64 x.f3).wf = true) → ∃ k, flywheellaw19_AimdPlays.f k a0_0 a0_1 a0_2 l1 = some true
theorem flywheellaw19_AimdPlays.walk (P : flywheellaw19_AimdPlays.Pure) (a0_0 : Int) (a0_1 : Int) (a0_2 : Int) (A1 : Option Addr) (c1 : Nat) (l1 : List (S34)) (w : World) (w0_0 : (Lit.int .i64 a0_0).wf = true) (w0_1 : (Lit.int .i64 a0_1).wf = true) (w0_2 : (Lit.int .i64 a0_2).wf = true) (hm1 : l1.length ≤ maxLen) (y1 : l1.length * 32 ≤ 140737488351232) (hw1 : (∀ x ∈ l1, (Lit.int .i64 x.f0).wf = true ∧ (Lit.int .i64 x.f1).wf = true ∧ (Lit.int .i64 x.f2).wf = true ∧ (Lit.int .i64 x.f3).wf = true)) (hr1 : Kd.C k34 w A1 l1.length l1) (hc1 : l1.length ≤ c1) :
  Calls Try.prog 5 #[.agg #[.int .i64 a0_0, .int .i64 a0_1, .int .i64 a0_2], .slice A1 l1.length c1] w fun e w' => e = .returned (.bool true) ∧ Below w.heap.size w w' := by
 obtain ⟨k, h⟩ := P a0_0 a0_1 a0_2 l1 w0_0 w0_1 w0_2 hm1 y1 hw1
 refine (flywheellaw19_AimdPlays.calls k a0_0 a0_1 a0_2 A1 c1 l1 true w hr1 hc1 h).mono ?_
 rintro e w' ⟨rfl, hd⟩
 exact ⟨rfl, hd⟩
end Go.Proofs.Ytaelmmbodigheaa.P
end

section
namespace Go.Proofs.Ytaelmmbodigheaa.P
open Go.RowKit Go.Proofs.YtaelmmbodigheaaW.PrintWords Go.Proofs.YtaelmmbodigheaaW.PrintLast Go.Proofs.YtaelmmbodigheaaW.PrintMore
attribute [local go_sem] max2_int min2_int max_two min_two max_three min_three max_four min_four   -- for this text's walks alone
set_option linter.unusedVariables false
set_option linter.unusedSimpArgs false
end Go.Proofs.Ytaelmmbodigheaa.P
end

section
namespace Go.Proofs.Ytaelmmbodigheaa.P
open Go.RowKit Go.Proofs.YtaelmmbodigheaaW.PrintWords Go.Proofs.YtaelmmbodigheaaW.PrintLast Go.Proofs.YtaelmmbodigheaaW.PrintMore
attribute [local go_sem] max2_int min2_int max_two min_two max_three min_three max_four min_four   -- for this text's walks alone
set_option linter.unusedVariables false
set_option linter.unusedSimpArgs false
end Go.Proofs.Ytaelmmbodigheaa.P
end

section
namespace Go.Proofs.Ytaelmmbodigheaa.P
open Go.RowKit Go.Proofs.YtaelmmbodigheaaW.PrintWords Go.Proofs.YtaelmmbodigheaaW.PrintLast Go.Proofs.YtaelmmbodigheaaW.PrintMore
attribute [local go_sem] max2_int min2_int max_two min_two max_three min_three max_four min_four   -- for this text's walks alone
set_option linter.unusedVariables false
set_option linter.unusedSimpArgs false
end Go.Proofs.Ytaelmmbodigheaa.P
end

section
namespace Go.Proofs.Ytaelmmbodigheaa.P
open Go.RowKit Go.Proofs.YtaelmmbodigheaaW.PrintWords Go.Proofs.YtaelmmbodigheaaW.PrintLast Go.Proofs.YtaelmmbodigheaaW.PrintMore
attribute [local go_sem] max2_int min2_int max_two min_two max_three min_three max_four min_four   -- for this text's walks alone
set_option linter.unusedVariables false
set_option linter.unusedSimpArgs false
end Go.Proofs.Ytaelmmbodigheaa.P
end

section
namespace Go.Proofs.Ytaelmmbodigheaa.P
open Go.RowKit Go.Proofs.YtaelmmbodigheaaW.PrintWords Go.Proofs.YtaelmmbodigheaaW.PrintLast Go.Proofs.YtaelmmbodigheaaW.PrintMore
attribute [local go_sem] max2_int min2_int max_two min_two max_three min_three max_four min_four   -- for this text's walks alone
set_option linter.unusedVariables false
set_option linter.unusedSimpArgs false
end Go.Proofs.Ytaelmmbodigheaa.P
end

section
namespace Go.Proofs.Ytaelmmbodigheaa.P
open Go.RowKit
set_option linter.unusedVariables false
set_option linter.unusedSimpArgs false
theorem rclamp_eq (a lo hi : Int) : flywheelref01_Clamp.f a lo hi = some (if a < lo then lo else if a > hi then hi else a) := by
  unfold flywheelref01_Clamp.f
  split
  · rfl
  · split <;> rfl
end Go.Proofs.Ytaelmmbodigheaa.P
end

section
namespace Go.Proofs.Ytaelmmbodigheaa.P
open Go.RowKit
set_option linter.unusedVariables false
set_option linter.unusedSimpArgs false
theorem clamp_eq (a lo hi : Int) : sat_Clamp.f a lo hi = some (if a < lo then lo else if a > hi then hi else a) := by
  unfold sat_Clamp.f
  split
  · rfl
  · split <;> rfl
end Go.Proofs.Ytaelmmbodigheaa.P
end

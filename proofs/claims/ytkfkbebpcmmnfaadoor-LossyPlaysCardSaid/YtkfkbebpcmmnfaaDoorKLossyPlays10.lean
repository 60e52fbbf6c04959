-- PUT TOGETHER by a program of this session: of the claim's texts, what is used
import Derived.Test.YtkfkbebpcmmnfaaDoorKLossyPlays7
import Derived.Test.YtkfkbebpcmmnfaaDoorKLossyPlays8
import Derived.Test.YtkfkbebpcmmnfaaDoorKLossyPlays9
section
namespace Go.Proofs.YtkfkbebpcmmnfaaDoor.P
open Go.RowKit Go.Proofs.YtkfkbebpcmmnfaaDoorW.PrintWords Go.Proofs.YtkfkbebpcmmnfaaDoorW.PrintLast Go.Proofs.YtkfkbebpcmmnfaaDoorW.PrintMore
attribute [local go_sem] max2_int min2_int max_two min_two max_three min_three max_four min_four   -- for this text's walks alone
set_option linter.unusedVariables false
set_option linter.unusedSimpArgs false
mutual
def flywheellaw20_LossyPlays.j0 : Nat → List (S36) → Bool → Int → Int → Int → Bool → Int → Int → Int → Int → Bool → Int → Option (Bool)
 | 0, _, _, _, _, _, _, _, _, _, _, _, _ => none
 | k + 1, x1, x39, x220000, x220001, x220002, x220003, x220004, x227000, x227001, x227002, x227003, x227004 => if x39 = true then (some false) else (flywheellaw20_LossyPlays.l0 k x1 0 x220000 x220001 x220002 x220003 x220004 x227000 x227001 x227002 x227003 x227004)
def flywheellaw20_LossyPlays.l0 : Nat → List (S36) → Int → Int → Int → Int → Bool → Int → Int → Int → Int → Bool → Int → Option (Bool)
 | 0, _, _, _, _, _, _, _, _, _, _, _, _ => none
 | k + 1, x1, x9, x220000, x220001, x220002, x220003, x220004, x227000, x227001, x227002, x227003, x227004 => if x9 < (x1.length : Int) then (if x9 < 300 then (flywheellaw20_LossyPlays.j2 k x1 x9 true x220000 x220001 x220002 x220003 x220004 x227000 x227001 x227002 x227003 x227004) else (flywheellaw20_LossyPlays.j2 k x1 x9 false x220000 x220001 x220002 x220003 x220004 x227000 x227001 x227002 x227003 x227004)) else (flywheellaw20_LossyPlays.j2 k x1 x9 false x220000 x220001 x220002 x220003 x220004 x227000 x227001 x227002 x227003 x227004)
def flywheellaw20_LossyPlays.j2 : Nat → List (S36) → Int → Bool → Int → Int → Int → Bool → Int → Int → Int → Int → Bool → Int → Option (Bool)
 | 0, _, _, _, _, _, _, _, _, _, _, _, _, _ => none
 | k + 1, x1, x9, x51, x220000, x220001, x220002, x220003, x220004, x227000, x227001, x227002, x227003, x227004 => if x51 = true then (if 0 ≤ x9 then (if x9 < (x1.length : Int) then ((lossy_Lossy_Update.f x220000 x220001 x220002 x220003 x220004 ((rd_T36 x1 x9).f0) ((rd_T36 x1 x9).f1)).bind fun bt231 => ((flywheelref20_Lossy_Update.f k x227000 x227001 x227002 x227003 x227004 ((rd_T36 x1 x9).f0) ((rd_T36 x1 x9).f1)).bind fun bt239 => (if bt231.1 = bt239.1 then ((lossy_Lossy_Rate.f bt231.2.1 bt231.2.2.1 bt231.2.2.2.1 bt231.2.2.2.2.1 bt231.2.2.2.2.2).bind fun bt245 => ((flywheelref20_Lossy_Rate.f bt239.2.1 bt239.2.2.1 bt239.2.2.2.1 bt239.2.2.2.2.1 bt239.2.2.2.2.2).bind fun bt251 => (if bt245.1 = bt251.1 then (flywheellaw20_LossyPlays.l0 k x1 (wrap64 (x9 + 1)) bt245.2.1 bt245.2.2.1 bt245.2.2.2.1 bt245.2.2.2.2.1 bt245.2.2.2.2.2 bt251.2.1 bt251.2.2.1 bt251.2.2.2.1 bt251.2.2.2.2.1 bt251.2.2.2.2.2) else (some false)))) else (some false)))) else (none)) else (none)) else ((flywheellaw20_wakes.f).bind fun t228 => (some t228))
def flywheellaw20_LossyPlays.j3 : Nat → List (S36) → Bool → Int → Int → Int → Bool → Int → Option (Bool)
 | 0, _, _, _, _, _, _, _ => none
 | k + 1, x1, x39, x220000, x220001, x220002, x220003, x220004 => if x39 = true then (some false) else (flywheellaw20_LossyPlays.l5000 k x1 0 x220000 x220001 x220002 x220003 x220004)
def flywheellaw20_LossyPlays.l5000 : Nat → List (S36) → Int → Int → Int → Int → Bool → Int → Option (Bool)
 | 0, _, _, _, _, _, _, _ => none
 | k + 1, x1, x9, x220000, x220001, x220002, x220003, x220004 => if x9 < (x1.length : Int) then (if x9 < 300 then (flywheellaw20_LossyPlays.j5 k x1 x9 false x220000 x220001 x220002 x220003 x220004) else (flywheellaw20_LossyPlays.j5 k x1 x9 false x220000 x220001 x220002 x220003 x220004)) else (flywheellaw20_LossyPlays.j5 k x1 x9 false x220000 x220001 x220002 x220003 x220004)
def flywheellaw20_LossyPlays.j5 : Nat → List (S36) → Int → Bool → Int → Int → Int → Bool → Int → Option (Bool)
 | 0, _, _, _, _, _, _, _, _ => none
 | k + 1, x1, x9, x51, x220000, x220001, x220002, x220003, x220004 => if x51 = true then (if 0 ≤ x9 then (if x9 < (x1.length : Int) then ((lossy_Lossy_Update.f x220000 x220001 x220002 x220003 x220004 ((rd_T36 x1 x9).f0) ((rd_T36 x1 x9).f1)).bind fun bt261 => (none)) else (none)) else (none)) else ((flywheellaw20_wakes.f).bind fun t258 => (some t258))
def flywheellaw20_LossyPlays.j6 : Nat → List (S36) → Bool → Option (Bool)
 | 0, _, _ => none
 | k + 1, x1, x39 => if x39 = true then (some false) else (flywheellaw20_LossyPlays.l5001 k x1 0)
def flywheellaw20_LossyPlays.l5001 : Nat → List (S36) → Int → Option (Bool)
 | 0, _, _ => none
 | k + 1, x1, x9 => if x9 < (x1.length : Int) then (if x9 < 300 then (flywheellaw20_LossyPlays.j8 k x1 x9 true) else (flywheellaw20_LossyPlays.j8 k x1 x9 false)) else (flywheellaw20_LossyPlays.j8 k x1 x9 false)
def flywheellaw20_LossyPlays.j8 : Nat → List (S36) → Int → Bool → Option (Bool)
 | 0, _, _, _ => none
 | k + 1, x1, x9, x51 => if x51 = true then (if 0 ≤ x9 then (if x9 < (x1.length : Int) then (none) else (none)) else (none)) else ((flywheellaw20_wakes.f).bind fun t277 => (some t277))
def flywheellaw20_LossyPlays.j9 : Nat → List (S36) → Bool → Option (Bool)
 | 0, _, _ => none
 | k + 1, x1, x39 => if x39 = true then (some false) else (flywheellaw20_LossyPlays.l5002 k x1 0)
def flywheellaw20_LossyPlays.l5002 : Nat → List (S36) → Int → Option (Bool)
 | 0, _, _ => none
 | k + 1, x1, x9 => if x9 < (x1.length : Int) then (if x9 < 300 then (flywheellaw20_LossyPlays.j11 k x1 x9 false) else (flywheellaw20_LossyPlays.j11 k x1 x9 false)) else (flywheellaw20_LossyPlays.j11 k x1 x9 false)
def flywheellaw20_LossyPlays.j11 : Nat → List (S36) → Int → Bool → Option (Bool)
 | 0, _, _, _ => none
 | k + 1, x1, x9, x51 => if x51 = true then (if 0 ≤ x9 then (if x9 < (x1.length : Int) then (none) else (none)) else (none)) else ((flywheellaw20_wakes.f).bind fun t281 => (some t281))
end
def flywheellaw20_LossyPlays.f (k : Nat) (a0_0 : Int) (a0_1 : Int) (a0_2 : Int) (l1 : List (S36)) : Option (Bool) := if (lossy_New.made.f a0_0 a0_1 a0_2).isSome = true then ((lossy_New.made.f a0_0 a0_1 a0_2).bind fun bt214 => (if (flywheelref20_New.made.f a0_0 a0_1 a0_2).isSome = true then ((flywheelref20_New.made.f a0_0 a0_1 a0_2).bind fun bt221 => (if bt214.2.2.2.2.2 = bt221.2.2.2.2.2 then (flywheellaw20_LossyPlays.j0 k l1 false bt214.1 bt214.2.1 bt214.2.2.1 bt214.2.2.2.1 bt214.2.2.2.2.1 bt221.1 bt221.2.1 bt221.2.2.1 bt221.2.2.2.1 bt221.2.2.2.2.1) else (flywheellaw20_LossyPlays.j0 k l1 true bt214.1 bt214.2.1 bt214.2.2.1 bt214.2.2.2.1 bt214.2.2.2.2.1 bt221.1 bt221.2.1 bt221.2.2.1 bt221.2.2.2.1 bt221.2.2.2.2.1))) else ((flywheelref20_New.nil.f a0_0 a0_1 a0_2).bind fun t257 => (if bt214.2.2.2.2.2 = t257 then (flywheellaw20_LossyPlays.j3 k l1 true bt214.1 bt214.2.1 bt214.2.2.1 bt214.2.2.2.1 bt214.2.2.2.2.1) else (flywheellaw20_LossyPlays.j3 k l1 true bt214.1 bt214.2.1 bt214.2.2.1 bt214.2.2.2.1 bt214.2.2.2.2.1))))) else ((lossy_New.nil.f a0_0 a0_1 a0_2).bind fun t269 => (if (flywheelref20_New.made.f a0_0 a0_1 a0_2).isSome = true then ((flywheelref20_New.made.f a0_0 a0_1 a0_2).bind fun bt270 => (if t269 = bt270.2.2.2.2.2 then (flywheellaw20_LossyPlays.j6 k l1 true) else (flywheellaw20_LossyPlays.j6 k l1 true))) else ((flywheelref20_New.nil.f a0_0 a0_1 a0_2).bind fun t280 => (if t269 = t280 then (flywheellaw20_LossyPlays.j9 k l1 false) else (flywheellaw20_LossyPlays.j9 k l1 true)))))
def flywheellaw20_LossyPlays.T8 : Bool × List (List Nat × List Nat) := (true, [([], []), ([], []), ([], []), ([1, 2], [1, 2]), ([3], [3]), ([4], [4]), ([], []), ([], []), ([6, 7], [6, 7]), ([8], [8]), ([9], [9]), ([0, 5, 10], [0, 5, 10]), ([], []), ([], []), ([], []), ([13, 14], [13, 14]), ([15], [15]), ([16], [16]), ([], []), ([], []), ([18, 19], [18, 19]), ([20], [20]), ([21], [21]), ([12, 17, 22, 11], [12, 17, 22]), ([11, 23], [11, 23]), ([24, 23], [24]), ([25], [25]), ([26, 25, 25], [25, 26]), ([25], [25]), ([28, 27, 25], [25, 28]), ([27, 29, 25], [25, 27, 29]), ([25, 30], [25, 30])])
def flywheellaw20_LossyPlays.B8 : List Nat := [0, 0, 0, 6, 14, 30, 0, 0, 192, 448, 960, 2047, 0, 0, 0, 24576, 57344, 122880, 0, 0, 786432, 1835008, 3932160, 8388607, 16777215, 33554431, 67108863, 134217727, 67108863, 536870911, 1073741823, 2147483647]
theorem flywheellaw20_LossyPlays.tab8 : rtab .any (opsOf Tryd.f4 8) = flywheellaw20_LossyPlays.T8 := by kernel_rfl
theorem flywheellaw20_LossyPlays.bits8 : waitsOk flywheellaw20_LossyPlays.T8.2 flywheellaw20_LossyPlays.B8 = true := by kernel_rfl
set_option maxHeartbeats 8000000 in
set_option maxRecDepth 100000 in
theorem flywheellaw20_LossyPlays.calls (k : Nat) (a0_0 : Int) (a0_1 : Int) (a0_2 : Int) (A1 : Option Addr) (c1 : Nat) (l1 : List (S36)) (r : Bool) (w : World) (hr1 : Kd.C k36 w A1 l1.length l1) (hc1 : l1.length ≤ c1) (hG : GL w) (h : flywheellaw20_LossyPlays.f k a0_0 a0_1 a0_2 l1 = some r) :
  Calls Tryd.prog 4 #[.agg #[.int .i64 a0_0, .int .i64 a0_1, .int .i64 a0_2], .slice A1 l1.length c1] w fun e w' => e = .returned (.bool r) ∧ Below w.heap.size w w' := by
 have HTB := Aside0.mk hG
 clear hG
 have hu23 := Tryd.underlying23
 have hpn24_eql : ∀ (a_ : Addr) (W_ : World), (Go.binOp .eql 24 (.pointer (some a_)) (.pointer none)).run Tryd.prog W_ = .ok (.bool false) W_ := fun _ _ => by kernel_rfl
 have hnn24_eql : ∀ (W_ : World), (Go.binOp .eql 24 (.pointer none) (.pointer none)).run Tryd.prog W_ = .ok (.bool true) W_ := fun _ => by kernel_rfl
 have hpn32_eql : ∀ (a_ : Addr) (W_ : World), (Go.binOp .eql 32 (.pointer (some a_)) (.pointer none)).run Tryd.prog W_ = .ok (.bool false) W_ := fun _ _ => by kernel_rfl
 have hnn32_eql : ∀ (W_ : World), (Go.binOp .eql 32 (.pointer none) (.pointer none)).run Tryd.prog W_ = .ok (.bool true) W_ := fun _ => by kernel_rfl
 have hpn32_neq : ∀ (a_ : Addr) (W_ : World), (Go.binOp .neq 32 (.pointer (some a_)) (.pointer none)).run Tryd.prog W_ = .ok (.bool true) W_ := fun _ _ => by kernel_rfl
 have hnn32_neq : ∀ (W_ : World), (Go.binOp .neq 32 (.pointer none) (.pointer none)).run Tryd.prog W_ = .ok (.bool false) W_ := fun _ => by kernel_rfl
 have HR1 := Aside0.mk hr1
 have HC1 := Aside0.mk hc1
 clear hr1 hc1
 have HB := Aside0.mk (Below.refl w.heap.size w)
 have H : (if (lossy_New.made.f a0_0 a0_1 a0_2).isSome = true then ((lossy_New.made.f a0_0 a0_1 a0_2).bind fun bt214 => (if (flywheelref20_New.made.f a0_0 a0_1 a0_2).isSome = true then ((flywheelref20_New.made.f a0_0 a0_1 a0_2).bind fun bt221 => (if bt214.2.2.2.2.2 = bt221.2.2.2.2.2 then (flywheellaw20_LossyPlays.j0 k l1 false bt214.1 bt214.2.1 bt214.2.2.1 bt214.2.2.2.1 bt214.2.2.2.2.1 bt221.1 bt221.2.1 bt221.2.2.1 bt221.2.2.2.1 bt221.2.2.2.2.1) else (flywheellaw20_LossyPlays.j0 k l1 true bt214.1 bt214.2.1 bt214.2.2.1 bt214.2.2.2.1 bt214.2.2.2.2.1 bt221.1 bt221.2.1 bt221.2.2.1 bt221.2.2.2.1 bt221.2.2.2.2.1))) else ((flywheelref20_New.nil.f a0_0 a0_1 a0_2).bind fun t257 => (if bt214.2.2.2.2.2 = t257 then (flywheellaw20_LossyPlays.j3 k l1 true bt214.1 bt214.2.1 bt214.2.2.1 bt214.2.2.2.1 bt214.2.2.2.2.1) else (flywheellaw20_LossyPlays.j3 k l1 true bt214.1 bt214.2.1 bt214.2.2.1 bt214.2.2.2.1 bt214.2.2.2.2.1))))) else ((lossy_New.nil.f a0_0 a0_1 a0_2).bind fun t269 => (if (flywheelref20_New.made.f a0_0 a0_1 a0_2).isSome = true then ((flywheelref20_New.made.f a0_0 a0_1 a0_2).bind fun bt270 => (if t269 = bt270.2.2.2.2.2 then (flywheellaw20_LossyPlays.j6 k l1 true) else (flywheellaw20_LossyPlays.j6 k l1 true))) else ((flywheelref20_New.nil.f a0_0 a0_1 a0_2).bind fun t280 => (if t269 = t280 then (flywheellaw20_LossyPlays.j9 k l1 false) else (flywheellaw20_LossyPlays.j9 k l1 true)))))) = some r := h
 clear h
 by_cases c3 : (lossy_New.made.f a0_0 a0_1 a0_2).isSome = true
 ·rw [if_pos c3] at H
  have c3b0 : (lossy_New.made.f a0_0 a0_1 a0_2).isSome = true := c3
  clear c3
  replace H := Option.bind_eq_some_iff.mp H
  obtain ⟨⟨t214, t215, t216, t217, t218, t220⟩, A40, H⟩ := H
  replace H : (if (flywheelref20_New.made.f a0_0 a0_1 a0_2).isSome = true then ((flywheelref20_New.made.f a0_0 a0_1 a0_2).bind fun bt221 => (if t220 = bt221.2.2.2.2.2 then (flywheellaw20_LossyPlays.j0 k l1 false t214 t215 t216 t217 t218 bt221.1 bt221.2.1 bt221.2.2.1 bt221.2.2.2.1 bt221.2.2.2.2.1) else (flywheellaw20_LossyPlays.j0 k l1 true t214 t215 t216 t217 t218 bt221.1 bt221.2.1 bt221.2.2.1 bt221.2.2.2.1 bt221.2.2.2.2.1))) else ((flywheelref20_New.nil.f a0_0 a0_1 a0_2).bind fun t257 => (if t220 = t257 then (flywheellaw20_LossyPlays.j3 k l1 true t214 t215 t216 t217 t218) else (flywheellaw20_LossyPlays.j3 k l1 true t214 t215 t216 t217 t218)))) = some r := H
  have A4 := Aside0.mk A40
  clear A40
  by_cases c5 : (flywheelref20_New.made.f a0_0 a0_1 a0_2).isSome = true
  ·rw [if_pos c5] at H
   have c5b0 : (flywheelref20_New.made.f a0_0 a0_1 a0_2).isSome = true := c5
   clear c5
   replace H := Option.bind_eq_some_iff.mp H
   obtain ⟨⟨t221, t222, t223, t224, t225, t227⟩, A60, H⟩ := H
   replace H : (if t220 = t227 then (flywheellaw20_LossyPlays.j0 k l1 false t214 t215 t216 t217 t218 t221 t222 t223 t224 t225) else (flywheellaw20_LossyPlays.j0 k l1 true t214 t215 t216 t217 t218 t221 t222 t223 t224 t225)) = some r := H
   have A6 := Aside0.mk A60
   clear A60
   have HC7 := Aside0.mk H
   clear H
   go_enter Tryd.func4, Tryd.ntmps4
   go_upto_region 3 with (first | ((with_reducible refine gate_dst (N := 2) rfl ?_); refine box_event ?hg (N := 2) ?hd (cs := #[.int .i64 a0_0, .int .i64 a0_1, .int .i64 a0_2]) (t := 23) ?hr ?_; (case hd => rfl); (case hg => rfl); (case hr => first | (go_simp; done) | (go_simp; rfl)); intro gb213 hg w8 hbox hb; have n0_ := Aside0.mk (below_step (by repeat (first | (with_reducible first | exact HB.out | apply below_alloc | apply pw_below_drewN | apply below_drew1) | exact HB.out)) hb); have n1_ := Aside0.mk (hbox); have n2_ := Aside0.mk ((by rw [hg]; exact (below_size (by repeat (first | (with_reducible first | exact HB.out | apply below_alloc | apply pw_below_drewN | apply below_drew1) | exact HB.out))) : w.heap.size ≤ gb213)); have n3_ := Aside0.mk ((by rw [hg]; exact (below_size (by repeat (first | (with_reducible first | exact HB.out | apply below_alloc | apply pw_below_drewN | apply below_drew1) | exact HB.out))) : w.heap.size ≤ gb213)); clear HB; have HB := n0_; have BK213 := n1_; have GW213 := n2_; have GE213 := n3_; clear n0_ n1_ n2_ n3_; clear hb hbox hg; have hcz9_0 : w8.cell? ⟨gb213, 0, none⟩ = some (.int .i64 a0_0) := (blk_cell BK213.out 0).trans rfl; have hcz9_1 : w8.cell? ⟨gb213, 1, none⟩ = some (.int .i64 a0_1) := (blk_cell BK213.out 1).trans rfl; have hcz9_2 : w8.cell? ⟨gb213, 2, none⟩ = some (.int .i64 a0_2) := (blk_cell BK213.out 2).trans rfl; have hfz9_0 := blk_frozen BK213.out 0; have hfz9_1 := blk_frozen BK213.out 1; have hfz9_2 := blk_frozen BK213.out 2) | ((with_reducible refine gate_callee (f := 7) rfl ?_); refine goesL_ (some 17) rfl rfl Tryd.func7 (by kernel_rfl) rfl #[.int .i64 a0_0, .int .i64 a0_1, .int .i64 a0_2] rfl (by (try simp only [List.map_toArray, List.map_cons, List.map_nil]); first | done | rfl | (simp only [List.length_drop, List.length_take]; rfl)) ?_; (with_reducible refine (lossy_New.made.calls a0_0 a0_1 a0_2 t214 t215 t216 t217 t218 t220 _ _ (Below.refl _ _) A4.out).mono ?_); rintro e w10 ⟨g219, rfl, hi, hb, hb2⟩; refine ⟨_, rfl, ?_⟩; have n0_ := Aside0.mk (blk_below (g := gb213) (o := .cells #[.int .i64 a0_0, .int .i64 a0_1, .int .i64 a0_2] 23 (0, 0)) (by (with_reducible repeat (first | refine blk_drewN ?_ _ | refine blk_drew ?_ | refine blk_alloc ?_ _)); exact BK213.out) hb2); have n1_ := Aside0.mk (below_step (by repeat (first | (with_reducible first | exact HB.out | apply below_alloc | apply pw_below_drewN | apply below_drew1 | refine below_set ?_ GE213.out) | exact HB.out)) hb2); have n2_ := Aside0.mk ((IsS42.rebase hi (below_size (by repeat (first | (with_reducible first | exact HB.out | apply below_alloc | apply pw_below_drewN | apply below_drew1 | refine below_set ?_ GE213.out) | exact HB.out))))); have n3_ := Aside0.mk (IsS42.ne_blk hi (blk_below (g := gb213) (o := .cells #[.int .i64 a0_0, .int .i64 a0_1, .int .i64 a0_2] 23 (0, 0)) (by (with_reducible repeat (first | refine blk_drewN ?_ _ | refine blk_drew ?_ | refine blk_alloc ?_ _)); exact BK213.out) hb2) (by decide)); have n4_ := Aside0.mk (Ne.symm (IsS42.ne_blk hi (blk_below (g := gb213) (o := .cells #[.int .i64 a0_0, .int .i64 a0_1, .int .i64 a0_2] 23 (0, 0)) (by (with_reducible repeat (first | refine blk_drewN ?_ _ | refine blk_drew ?_ | refine blk_alloc ?_ _)); exact BK213.out) hb2) (by decide))); clear BK213; clear HB; have BK213 := n0_; have HB := n1_; have HI219 := n2_; have NB219_213 := n3_; have NB213_219 := n4_; clear n0_ n1_ n2_ n3_ n4_; (try clear hb); (try clear hb2); (try clear hk); (try clear hi); have hnb11 := NB213_219.out; have hnc11 := NB219_213.out; have hcz12_0 : w10.cell? ⟨gb213, 0, none⟩ = some (.int .i64 a0_0) := (blk_cell BK213.out 0).trans rfl; have hcz12_1 : w10.cell? ⟨gb213, 1, none⟩ = some (.int .i64 a0_1) := (blk_cell BK213.out 1).trans rfl; have hcz12_2 : w10.cell? ⟨gb213, 2, none⟩ = some (.int .i64 a0_2) := (blk_cell BK213.out 2).trans rfl; have hfz12_0 := blk_frozen BK213.out 0; have hfz12_1 := blk_frozen BK213.out 1; have hfz12_2 := blk_frozen BK213.out 2) | ((with_reducible refine gate_callee (f := 10) rfl ?_); refine goesL_ (some 27) rfl rfl Tryd.func10 (by kernel_rfl) rfl #[.int .i64 a0_0, .int .i64 a0_1, .int .i64 a0_2] rfl (by (try simp only [List.map_toArray, List.map_cons, List.map_nil]); first | done | rfl | (simp only [List.length_drop, List.length_take]; rfl)) ?_; (with_reducible refine (flywheelref20_New.made.calls a0_0 a0_1 a0_2 t221 t222 t223 t224 t225 t227 _ _ (Below.refl _ _) A6.out).mono ?_); rintro e w13 ⟨g226, rfl, hi, hb, hb2⟩; refine ⟨_, rfl, ?_⟩; have n0_ := Aside0.mk (blk_below (g := gb213) (o := .cells #[.int .i64 a0_0, .int .i64 a0_1, .int .i64 a0_2] 23 (0, 0)) (by (with_reducible repeat (first | refine blk_drewN ?_ _ | refine blk_drew ?_ | refine blk_alloc ?_ _)); exact BK213.out) hb2); have n1_ := Aside0.mk (IsS42.below (by repeat (first | (with_reducible first | exact HI219.out | apply IsS42.alloc | apply IsS42.drewN | apply IsS42.drew | apply IsS42.set_0 | apply IsS42.set_1 | apply IsS42.set_2 | apply IsS42.set_3 | apply IsS42.set_4 | refine IsS42.far ?_ NB219_213.out _) | exact HI219.out)) hb2); have n2_ := Aside0.mk (below_step (by repeat (first | (with_reducible first | exact HB.out | apply below_alloc | apply pw_below_drewN | apply below_drew1 | refine below_set ?_ (IsS42.ge HI219.out) | refine below_set ?_ GE213.out) | exact HB.out)) hb2); have n3_ := Aside0.mk ((IsS49.rebase hi (below_size (by repeat (first | (with_reducible first | exact HB.out | apply below_alloc | apply pw_below_drewN | apply below_drew1 | refine below_set ?_ (IsS42.ge HI219.out) | refine below_set ?_ GE213.out) | exact HB.out))))); have n4_ := Aside0.mk ((Nat.ne_of_gt (Nat.lt_of_lt_of_le (IsS42.lt (by repeat (first | (with_reducible first | exact HI219.out | apply IsS42.alloc | apply IsS42.drewN | apply IsS42.drew | apply IsS42.set_0 | apply IsS42.set_1 | apply IsS42.set_2 | apply IsS42.set_3 | apply IsS42.set_4 | refine IsS42.far ?_ NB219_213.out _) | exact HI219.out))) (IsS49.ge hi)))); have n5_ := Aside0.mk (Ne.symm (Nat.ne_of_gt (Nat.lt_of_lt_of_le (IsS42.lt (by repeat (first | (with_reducible first | exact HI219.out | apply IsS42.alloc | apply IsS42.drewN | apply IsS42.drew | apply IsS42.set_0 | apply IsS42.set_1 | apply IsS42.set_2 | apply IsS42.set_3 | apply IsS42.set_4 | refine IsS42.far ?_ NB219_213.out _) | exact HI219.out))) (IsS49.ge hi)))); have n6_ := Aside0.mk (IsS49.ne_blk hi (blk_below (g := gb213) (o := .cells #[.int .i64 a0_0, .int .i64 a0_1, .int .i64 a0_2] 23 (0, 0)) (by (with_reducible repeat (first | refine blk_drewN ?_ _ | refine blk_drew ?_ | refine blk_alloc ?_ _)); exact BK213.out) hb2) (by decide)); have n7_ := Aside0.mk (Ne.symm (IsS49.ne_blk hi (blk_below (g := gb213) (o := .cells #[.int .i64 a0_0, .int .i64 a0_1, .int .i64 a0_2] 23 (0, 0)) (by (with_reducible repeat (first | refine blk_drewN ?_ _ | refine blk_drew ?_ | refine blk_alloc ?_ _)); exact BK213.out) hb2) (by decide))); clear BK213; clear HI219; clear HB; have BK213 := n0_; have HI219 := n1_; have HB := n2_; have HI226 := n3_; have NB226_219 := n4_; have NB219_226 := n5_; have NB226_213 := n6_; have NB213_226 := n7_; clear n0_ n1_ n2_ n3_ n4_ n5_ n6_ n7_; (try clear hb); (try clear hb2); (try clear hk); (try clear hi)))
   (try simp only [Act.put, List.setIfInBounds_toArray, List.set_cons_zero, List.set_cons_succ])
   go_cut [39] (fun v39 wc => ∃ (kq : Nat) (x39_6 : Bool), v39 = .bool x39_6 ∧ Aside0 (flywheellaw20_LossyPlays.j0 kq l1 x39_6 t214 t215 t216 t217 t218 t221 t222 t223 t224 t225 = some r) ∧ Aside0 (kq ≤ k) ∧ Aside0 (wc.heap[gb213]? = some (.cells #[.int .i64 a0_0, .int .i64 a0_1, .int .i64 a0_2] 23 (0, 0))) ∧ Aside0 (IsS42 w wc g219 t214 t215 t216 t217 t218) ∧ Aside0 (IsS49 w wc g226 t221 t222 t223 t224 t225) ∧ Aside0 (Below w.heap.size w wc))
   case first =>
    have H := HC7.out
    clear HC7
    by_cases c14 : t220 = t227
    ·rw [if_pos c14] at H
     have c14b0 : (t220 == t227) = true := beq_iff_eq.mpr c14
     have c14b1 : (t220 != t227) = false := bne_eq_false_iff_eq.mpr c14
     clear c14
     (first | rw [c14b0] | (simp only [i64_w, i32_w]; rw [c14b0]) | skip)
     have H' := Aside0.mk H
     clear H
     go_wp2
     go_meet
     case rel => exact ⟨_, (false), (by first | rfl | (simp; done) | (simp [*]; done)), H', ⟨by first | omega | exact Nat.le_refl _⟩, ⟨by (with_reducible repeat (first | refine blk_drewN ?_ _ | refine blk_drew ?_ | refine blk_alloc ?_ _)); exact BK213.out⟩, ⟨by repeat (first | (with_reducible first | exact HI219.out | apply IsS42.alloc | apply IsS42.drewN | apply IsS42.drew | apply IsS42.set_0 | apply IsS42.set_1 | apply IsS42.set_2 | apply IsS42.set_3 | apply IsS42.set_4 | refine IsS42.far ?_ NB219_213.out _) | exact HI219.out)⟩, ⟨by repeat (first | (with_reducible first | exact HI226.out | apply IsS49.alloc | apply IsS49.drewN | apply IsS49.drew | apply IsS49.set_0 | apply IsS49.set_1 | apply IsS49.set_2 | apply IsS49.set_3 | apply IsS49.set_4 | refine IsS49.far ?_ NB226_213.out _) | exact HI226.out)⟩, ⟨by repeat (first | (with_reducible first | exact HB.out | apply below_alloc | apply pw_below_drewN | apply below_drew1 | refine below_set ?_ (IsS42.ge HI219.out) | refine below_set ?_ (IsS49.ge HI226.out) | refine below_set ?_ GE213.out) | exact HB.out)⟩⟩
    ·rw [if_neg c14] at H
     have c14b0 : (t220 == t227) = false := beq_eq_false_iff_ne.mpr c14
     have c14b1 : (t220 != t227) = true := bne_iff_ne.mpr c14
     (first | rw [c14b0] | (simp only [i64_w, i32_w]; rw [c14b0]) | skip)
     have H' := Aside0.mk H
     clear H
     go_wp2
     go_meet
     case rel => exact ⟨_, (true), (by first | rfl | (simp; done) | (simp [*]; done)), H', ⟨by first | omega | exact Nat.le_refl _⟩, ⟨by (with_reducible repeat (first | refine blk_drewN ?_ _ | refine blk_drew ?_ | refine blk_alloc ?_ _)); exact BK213.out⟩, ⟨by repeat (first | (with_reducible first | exact HI219.out | apply IsS42.alloc | apply IsS42.drewN | apply IsS42.drew | apply IsS42.set_0 | apply IsS42.set_1 | apply IsS42.set_2 | apply IsS42.set_3 | apply IsS42.set_4 | refine IsS42.far ?_ NB219_213.out _) | exact HI219.out)⟩, ⟨by repeat (first | (with_reducible first | exact HI226.out | apply IsS49.alloc | apply IsS49.drewN | apply IsS49.drew | apply IsS49.set_0 | apply IsS49.set_1 | apply IsS49.set_2 | apply IsS49.set_3 | apply IsS49.set_4 | refine IsS49.far ?_ NB226_213.out _) | exact HI226.out)⟩, ⟨by repeat (first | (with_reducible first | exact HB.out | apply below_alloc | apply pw_below_drewN | apply below_drew1 | refine below_set ?_ (IsS42.ge HI219.out) | refine below_set ?_ (IsS49.ge HI226.out) | refine below_set ?_ GE213.out) | exact HB.out)⟩⟩
   case rest =>
    clear HC7
    try clear c1
    try clear p2
    try clear c3
    try clear c3b0
    try clear c4
    try clear c5
    try clear c5b0
    try clear c7
    try clear c10
    try clear c11
    try clear c14
    try clear c14b0
    try clear c14b1
    try clear hcz12_0
    try clear hcz12_1
    try clear hcz12_2
    try clear hcz9_0
    try clear hcz9_1
    try clear hcz9_2
    try clear hfz12_0
    try clear hfz12_1
    try clear hfz12_2
    try clear hfz9_0
    try clear hfz9_1
    try clear hfz9_2
    obtain ⟨kq, x39_6, rfl, HA, HJ6, BK213, HI219, HI226, HB⟩ := hcut
    cases kq with
    | zero => exact absurd HA.out (by simp [flywheellaw20_LossyPlays.j0])
    | succ kj6 =>
     have H := HA.out
     clear HA
     simp only [flywheellaw20_LossyPlays.j0] at H
     by_cases c15 : x39_6 = true
     ·subst c15
      have H1 : (some false) = some r := by rw [if_pos rfl] at H; exact H
      clear H
      have H := H1
      clear H1
      obtain rfl := Option.some.inj H
      go_wp2
      go_ret
      exact ⟨by first | rfl | (simp [errW_none, errW_some] <;> rfl) | (simp [*, errW_none, errW_some] <;> rfl), by repeat (first | (with_reducible first | exact HB.out | apply below_alloc | apply pw_below_drewN | apply below_drew1 | refine below_set ?_ (IsS42.ge HI219.out) | refine below_set ?_ (IsS49.ge HI226.out) | refine below_set ?_ GE213.out) | exact HB.out)⟩
     ·replace c15 := Bool.eq_false_iff.mpr c15
      subst c15
      have H1 : (flywheellaw20_LossyPlays.l0 kj6 l1 0 t214 t215 t216 t217 t218 t221 t222 t223 t224 t225) = some r := by rw [if_neg (show ¬ (false = true) by decide)] at H; exact H
      clear H
      have H := H1
      clear H1
      have H' := Aside0.mk H
      clear H
      go_wp2
      go_loopg [9] kj6 (fun kq v9 w' => ∃ (x9_2 : Int) (x220000_2 : Int) (x220001_2 : Int) (x220002_2 : Int) (x220003_2 : Bool) (x220004_2 : Int) (x227000_2 : Int) (x227001_2 : Int) (x227002_2 : Int) (x227003_2 : Bool) (x227004_2 : Int), v9 = .int .i64 x9_2 ∧ Aside0 (flywheellaw20_LossyPlays.l0 kq l1 x9_2 x220000_2 x220001_2 x220002_2 x220003_2 x220004_2 x227000_2 x227001_2 x227002_2 x227003_2 x227004_2 = some r) ∧ Aside0 (kq ≤ kj6) ∧ Aside0 (w'.heap[gb213]? = some (.cells #[.int .i64 a0_0, .int .i64 a0_1, .int .i64 a0_2] 23 (0, 0))) ∧ Aside0 (IsS42 w w' g219 x220000_2 x220001_2 x220002_2 x220003_2 x220004_2) ∧ Aside0 (IsS49 w w' g226 x227000_2 x227001_2 x227002_2 x227003_2 x227004_2) ∧ Aside0 (Below w.heap.size w w'))
      case atStart => exact ⟨(0), (t214), (t215), (t216), (t217), (t218), (t221), (t222), (t223), (t224), (t225), (by first | rfl | (simp; done) | (simp [*]; done)), H', ⟨Nat.le_refl _⟩, ⟨by (with_reducible repeat (first | refine blk_drewN ?_ _ | refine blk_drew ?_ | refine blk_alloc ?_ _)); exact BK213.out⟩, ⟨by repeat (first | (with_reducible first | exact HI219.out | apply IsS42.alloc | apply IsS42.drewN | apply IsS42.drew | apply IsS42.set_0 | apply IsS42.set_1 | apply IsS42.set_2 | apply IsS42.set_3 | apply IsS42.set_4 | refine IsS42.far ?_ NB219_213.out _) | exact HI219.out)⟩, ⟨by repeat (first | (with_reducible first | exact HI226.out | apply IsS49.alloc | apply IsS49.drewN | apply IsS49.drew | apply IsS49.set_0 | apply IsS49.set_1 | apply IsS49.set_2 | apply IsS49.set_3 | apply IsS49.set_4 | refine IsS49.far ?_ NB226_213.out _) | exact HI226.out)⟩, ⟨by repeat (first | (with_reducible first | exact HB.out | apply below_alloc | apply pw_below_drewN | apply below_drew1 | refine below_set ?_ (IsS42.ge HI219.out) | refine below_set ?_ (IsS49.ge HI226.out) | refine below_set ?_ GE213.out) | exact HB.out)⟩⟩
      case round =>
       clear H'
       try clear c1
       try clear p2
       try clear c3
       try clear c3b0
       try clear c4
       try clear c5
       try clear c5b0
       try clear c7
       try clear c10
       try clear c11
       try clear c14
       try clear c14b0
       try clear c14b1
       try clear c15
       try clear hcz12_0
       try clear hcz12_1
       try clear hcz12_2
       try clear hcz9_0
       try clear hcz9_1
       try clear hcz9_2
       try clear hfz12_0
       try clear hfz12_1
       try clear hfz12_2
       try clear hfz9_0
       try clear hfz9_1
       try clear hfz9_2
       try clear p2
       obtain ⟨x9_2, x220000_2, x220001_2, x220002_2, x220003_2, x220004_2, x227000_2, x227001_2, x227002_2, x227003_2, x227004_2, rfl, HA, HK2, BK213, HI219, HI226, HB⟩ := hrel
       cases gk with
       | zero => exact absurd HA.out (by simp [flywheellaw20_LossyPlays.l0])
       | succ k2 =>
        have H := HA.out
        clear HA
        simp only [flywheellaw20_LossyPlays.l0] at H
        have HC16 := Aside0.mk H
        clear H
        go_upto_region 6 with (fail)
        go_cut [51] (fun v51 wc => ∃ (kq : Nat) (x51_15 : Bool), v51 = .bool x51_15 ∧ Aside0 (flywheellaw20_LossyPlays.j2 kq l1 x9_2 x51_15 x220000_2 x220001_2 x220002_2 x220003_2 x220004_2 x227000_2 x227001_2 x227002_2 x227003_2 x227004_2 = some r) ∧ Aside0 (kq ≤ k2) ∧ Aside0 (wc.heap[gb213]? = some (.cells #[.int .i64 a0_0, .int .i64 a0_1, .int .i64 a0_2] 23 (0, 0))) ∧ Aside0 (IsS42 w wc g219 x220000_2 x220001_2 x220002_2 x220003_2 x220004_2) ∧ Aside0 (IsS49 w wc g226 x227000_2 x227001_2 x227002_2 x227003_2 x227004_2) ∧ Aside0 (Below w.heap.size w wc))
        case first =>
         have H := HC16.out
         clear HC16
         by_cases c17 : x9_2 < (l1.length : Int)
         ·rw [if_pos c17] at H
          have c17b0 : decide (x9_2 < (l1.length : Int)) = true := decide_eq_true c17
          clear c17
          (first | rw [c17b0] | (simp only [i64_w, i32_w]; rw [c17b0]) | skip)
          by_cases c18 : x9_2 < 300
          ·rw [if_pos c18] at H
           have c18b0 : decide (x9_2 < 300) = true := decide_eq_true c18
           clear c18
           have H' := Aside0.mk H
           clear H
           go_wp2
           go_meet
           case rel => exact ⟨_, (true), (by first | rfl | (simp; done) | (simp [*]; done)), H', ⟨by have := HJ6.out; have := HK2.out; first | omega | exact Nat.le_refl _⟩, ⟨by (with_reducible repeat (first | refine blk_drewN ?_ _ | refine blk_drew ?_ | refine blk_alloc ?_ _)); exact BK213.out⟩, ⟨by repeat (first | (with_reducible first | exact HI219.out | apply IsS42.alloc | apply IsS42.drewN | apply IsS42.drew | apply IsS42.set_0 | apply IsS42.set_1 | apply IsS42.set_2 | apply IsS42.set_3 | apply IsS42.set_4 | refine IsS42.far ?_ NB219_213.out _) | exact HI219.out)⟩, ⟨by repeat (first | (with_reducible first | exact HI226.out | apply IsS49.alloc | apply IsS49.drewN | apply IsS49.drew | apply IsS49.set_0 | apply IsS49.set_1 | apply IsS49.set_2 | apply IsS49.set_3 | apply IsS49.set_4 | refine IsS49.far ?_ NB226_213.out _) | exact HI226.out)⟩, ⟨by repeat (first | (with_reducible first | exact HB.out | apply below_alloc | apply pw_below_drewN | apply below_drew1 | refine below_set ?_ (IsS42.ge HI219.out) | refine below_set ?_ (IsS49.ge HI226.out) | refine below_set ?_ GE213.out) | exact HB.out)⟩⟩
          ·rw [if_neg c18] at H
           have c18b0 : decide (x9_2 < 300) = false := decide_eq_false c18
           clear c18
           have H' := Aside0.mk H
           clear H
           go_wp2
           go_meet
           case rel => exact ⟨_, (false), (by first | rfl | (simp; done) | (simp [*]; done)), H', ⟨by have := HJ6.out; have := HK2.out; first | omega | exact Nat.le_refl _⟩, ⟨by (with_reducible repeat (first | refine blk_drewN ?_ _ | refine blk_drew ?_ | refine blk_alloc ?_ _)); exact BK213.out⟩, ⟨by repeat (first | (with_reducible first | exact HI219.out | apply IsS42.alloc | apply IsS42.drewN | apply IsS42.drew | apply IsS42.set_0 | apply IsS42.set_1 | apply IsS42.set_2 | apply IsS42.set_3 | apply IsS42.set_4 | refine IsS42.far ?_ NB219_213.out _) | exact HI219.out)⟩, ⟨by repeat (first | (with_reducible first | exact HI226.out | apply IsS49.alloc | apply IsS49.drewN | apply IsS49.drew | apply IsS49.set_0 | apply IsS49.set_1 | apply IsS49.set_2 | apply IsS49.set_3 | apply IsS49.set_4 | refine IsS49.far ?_ NB226_213.out _) | exact HI226.out)⟩, ⟨by repeat (first | (with_reducible first | exact HB.out | apply below_alloc | apply pw_below_drewN | apply below_drew1 | refine below_set ?_ (IsS42.ge HI219.out) | refine below_set ?_ (IsS49.ge HI226.out) | refine below_set ?_ GE213.out) | exact HB.out)⟩⟩
         ·rw [if_neg c17] at H
          have c17b0 : decide (x9_2 < (l1.length : Int)) = false := decide_eq_false c17
          clear c17
          (first | rw [c17b0] | (simp only [i64_w, i32_w]; rw [c17b0]) | skip)
          have H' := Aside0.mk H
          clear H
          go_wp2
          go_meet
          case rel => exact ⟨_, (false), (by first | rfl | (simp; done) | (simp [*]; done)), H', ⟨by have := HJ6.out; have := HK2.out; first | omega | exact Nat.le_refl _⟩, ⟨by (with_reducible repeat (first | refine blk_drewN ?_ _ | refine blk_drew ?_ | refine blk_alloc ?_ _)); exact BK213.out⟩, ⟨by repeat (first | (with_reducible first | exact HI219.out | apply IsS42.alloc | apply IsS42.drewN | apply IsS42.drew | apply IsS42.set_0 | apply IsS42.set_1 | apply IsS42.set_2 | apply IsS42.set_3 | apply IsS42.set_4 | refine IsS42.far ?_ NB219_213.out _) | exact HI219.out)⟩, ⟨by repeat (first | (with_reducible first | exact HI226.out | apply IsS49.alloc | apply IsS49.drewN | apply IsS49.drew | apply IsS49.set_0 | apply IsS49.set_1 | apply IsS49.set_2 | apply IsS49.set_3 | apply IsS49.set_4 | refine IsS49.far ?_ NB226_213.out _) | exact HI226.out)⟩, ⟨by repeat (first | (with_reducible first | exact HB.out | apply below_alloc | apply pw_below_drewN | apply below_drew1 | refine below_set ?_ (IsS42.ge HI219.out) | refine below_set ?_ (IsS49.ge HI226.out) | refine below_set ?_ GE213.out) | exact HB.out)⟩⟩
        case rest =>
         clear HC16
         try clear c1
         try clear p2
         try clear c3
         try clear c3b0
         try clear c4
         try clear c5
         try clear c5b0
         try clear c7
         try clear c10
         try clear c11
         try clear c14
         try clear c14b0
         try clear c14b1
         try clear c15
         try clear c17
         try clear c17b0
         try clear c18
         try clear c18b0
         try clear hcz12_0
         try clear hcz12_1
         try clear hcz12_2
         try clear hcz9_0
         try clear hcz9_1
         try clear hcz9_2
         try clear hfz12_0
         try clear hfz12_1
         try clear hfz12_2
         try clear hfz9_0
         try clear hfz9_1
         try clear hfz9_2
         try clear p2
         obtain ⟨kq, x51_15, rfl, HA, HJ15, BK213, HI219, HI226, HB⟩ := hcut
         cases kq with
         | zero => exact absurd HA.out (by simp [flywheellaw20_LossyPlays.j2])
         | succ kj15 =>
          have H := HA.out
          clear HA
          simp only [flywheellaw20_LossyPlays.j2] at H
          by_cases c19 : x51_15 = true
          ·subst c19
           have H1 : (if 0 ≤ x9_2 then (if x9_2 < (l1.length : Int) then ((lossy_Lossy_Update.f x220000_2 x220001_2 x220002_2 x220003_2 x220004_2 ((rd_T36 l1 x9_2).f0) ((rd_T36 l1 x9_2).f1)).bind fun bt231 => ((flywheelref20_Lossy_Update.f kj15 x227000_2 x227001_2 x227002_2 x227003_2 x227004_2 ((rd_T36 l1 x9_2).f0) ((rd_T36 l1 x9_2).f1)).bind fun bt239 => (if bt231.1 = bt239.1 then ((lossy_Lossy_Rate.f bt231.2.1 bt231.2.2.1 bt231.2.2.2.1 bt231.2.2.2.2.1 bt231.2.2.2.2.2).bind fun bt245 => ((flywheelref20_Lossy_Rate.f bt239.2.1 bt239.2.2.1 bt239.2.2.2.1 bt239.2.2.2.2.1 bt239.2.2.2.2.2).bind fun bt251 => (if bt245.1 = bt251.1 then (flywheellaw20_LossyPlays.l0 kj15 l1 (wrap64 (x9_2 + 1)) bt245.2.1 bt245.2.2.1 bt245.2.2.2.1 bt245.2.2.2.2.1 bt245.2.2.2.2.2 bt251.2.1 bt251.2.2.1 bt251.2.2.2.1 bt251.2.2.2.2.1 bt251.2.2.2.2.2) else (some false)))) else (some false)))) else (none)) else (none)) = some r := by rw [if_pos rfl] at H; exact H
           clear H
           have H := H1
           clear H1
           by_cases c20 : 0 ≤ x9_2
           ·rw [if_pos c20] at H
            have c20b0 : decide (0 ≤ x9_2) = true := decide_eq_true c20
            clear c20
            by_cases c21 : x9_2 < (l1.length : Int)
            ·rw [if_pos c21] at H
             have c21b0 : decide (x9_2 < (l1.length : Int)) = true := decide_eq_true c21
             clear c21
             replace H := Option.bind_eq_some_iff.mp H
             obtain ⟨⟨t231, t232, t233, t234, t235, t236⟩, A220, H⟩ := H
             replace H : ((flywheelref20_Lossy_Update.f kj15 x227000_2 x227001_2 x227002_2 x227003_2 x227004_2 ((rd_T36 l1 x9_2).f0) ((rd_T36 l1 x9_2).f1)).bind fun bt239 => (if t231 = bt239.1 then ((lossy_Lossy_Rate.f t232 t233 t234 t235 t236).bind fun bt245 => ((flywheelref20_Lossy_Rate.f bt239.2.1 bt239.2.2.1 bt239.2.2.2.1 bt239.2.2.2.2.1 bt239.2.2.2.2.2).bind fun bt251 => (if bt245.1 = bt251.1 then (flywheellaw20_LossyPlays.l0 kj15 l1 (wrap64 (x9_2 + 1)) bt245.2.1 bt245.2.2.1 bt245.2.2.2.1 bt245.2.2.2.2.1 bt245.2.2.2.2.2 bt251.2.1 bt251.2.2.1 bt251.2.2.2.1 bt251.2.2.2.2.1 bt251.2.2.2.2.2) else (some false)))) else (some false))) = some r := H
             have A22 := Aside0.mk A220
             clear A220
             replace H := Option.bind_eq_some_iff.mp H
             obtain ⟨⟨t239, t240, t241, t242, t243, t244⟩, A230, H⟩ := H
             replace H : (if t231 = t239 then ((lossy_Lossy_Rate.f t232 t233 t234 t235 t236).bind fun bt245 => ((flywheelref20_Lossy_Rate.f t240 t241 t242 t243 t244).bind fun bt251 => (if bt245.1 = bt251.1 then (flywheellaw20_LossyPlays.l0 kj15 l1 (wrap64 (x9_2 + 1)) bt245.2.1 bt245.2.2.1 bt245.2.2.2.1 bt245.2.2.2.2.1 bt245.2.2.2.2.2 bt251.2.1 bt251.2.2.1 bt251.2.2.2.1 bt251.2.2.2.2.1 bt251.2.2.2.2.2) else (some false)))) else (some false)) = some r := H
             have A23 := Aside0.mk A230
             clear A230
             by_cases c24 : t231 = t239
             ·rw [if_pos c24] at H
              have c24b0 : (t231 == t239) = true := beq_iff_eq.mpr c24
              have c24b1 : (t231 != t239) = false := bne_eq_false_iff_eq.mpr c24
              clear c24
              replace H := Option.bind_eq_some_iff.mp H
              obtain ⟨⟨t245, t246, t247, t248, t249, t250⟩, A250, H⟩ := H
              replace H : ((flywheelref20_Lossy_Rate.f t240 t241 t242 t243 t244).bind fun bt251 => (if t245 = bt251.1 then (flywheellaw20_LossyPlays.l0 kj15 l1 (wrap64 (x9_2 + 1)) t246 t247 t248 t249 t250 bt251.2.1 bt251.2.2.1 bt251.2.2.2.1 bt251.2.2.2.2.1 bt251.2.2.2.2.2) else (some false))) = some r := H
              have A25 := Aside0.mk A250
              clear A250
              replace H := Option.bind_eq_some_iff.mp H
              obtain ⟨⟨t251, t252, t253, t254, t255, t256⟩, A260, H⟩ := H
              replace H : (if t245 = t251 then (flywheellaw20_LossyPlays.l0 kj15 l1 (wrap64 (x9_2 + 1)) t246 t247 t248 t249 t250 t252 t253 t254 t255 t256) else (some false)) = some r := H
              have A26 := Aside0.mk A260
              clear A260
              by_cases c27 : t245 = t251
              ·rw [if_pos c27] at H
               have c27b0 : (t245 == t251) = true := beq_iff_eq.mpr c27
               have c27b1 : (t245 != t251) = false := bne_eq_false_iff_eq.mpr c27
               clear c27
               have H' := Aside0.mk H
               clear H
               try go_wp2
               have n0_ := Aside0.mk (blk_drew BK213.out)
               have n1_ := Aside0.mk (IsS42.drew HI219.out)
               have n2_ := Aside0.mk (IsS49.drew HI226.out)
               have n3_ := Aside0.mk (below_drew1 HB.out)
               clear BK213
               clear HI219
               clear HI226
               clear HB
               have BK213 := n0_
               have HI219 := n1_
               have HI226 := n2_
               have HB := n3_
               clear n0_ n1_ n2_ n3_
               have p229 : 0 ≤ (x9_2 : Int) := of_decide_eq_true (by first | (with_reducible assumption) | assumption)
               have q229 : x9_2 < (l1.length : Int) := of_decide_eq_true (by first | (with_reducible assumption) | assumption)
               obtain ⟨ad229, e229, hx229_0, hx229_1⟩ := at_T36 HR1.out x9_2 p229 q229
               have hw229_1 := hx229_1
               have hw229_0 := hx229_0
               cases e229
               replace hx229_0 := (HB.out.cell (World.block_lt_of_cell? w _ hx229_0)).trans hx229_0
               replace hx229_1 := (HB.out.cell (World.block_lt_of_cell? w _ hx229_1)).trans hx229_1
               replace p229 := eq_true p229
               replace q229 := eq_true q229
               have p230 : 0 ≤ (x9_2 : Int) := of_decide_eq_true (by first | (with_reducible assumption) | assumption)
               have q230 : x9_2 < (l1.length : Int) := of_decide_eq_true (by first | (with_reducible assumption) | assumption)
               obtain ⟨ad230, e230, hx230_0, hx230_1⟩ := at_T36 HR1.out x9_2 p230 q230
               have hw230_1 := hx230_1
               have hw230_0 := hx230_0
               obtain rfl : ad229 = ad230 := (by injection e230)
               replace hx230_0 := (HB.out.cell (World.block_lt_of_cell? w _ hx230_0)).trans hx230_0
               replace hx230_1 := (HB.out.cell (World.block_lt_of_cell? w _ hx230_1)).trans hx230_1
               replace p230 := eq_true p230
               replace q230 := eq_true q230
               have p237 : 0 ≤ (x9_2 : Int) := of_decide_eq_true (by first | (with_reducible assumption) | assumption)
               have q237 : x9_2 < (l1.length : Int) := of_decide_eq_true (by first | (with_reducible assumption) | assumption)
               obtain ⟨ad237, e237, hx237_0, hx237_1⟩ := at_T36 HR1.out x9_2 p237 q237
               have hw237_1 := hx237_1
               have hw237_0 := hx237_0
               obtain rfl : ad229 = ad237 := (by injection e237)
               replace hx237_0 := (HB.out.cell (World.block_lt_of_cell? w _ hx237_0)).trans hx237_0
               replace hx237_1 := (HB.out.cell (World.block_lt_of_cell? w _ hx237_1)).trans hx237_1
               replace p237 := eq_true p237
               replace q237 := eq_true q237
               have p238 : 0 ≤ (x9_2 : Int) := of_decide_eq_true (by first | (with_reducible assumption) | assumption)
               have q238 : x9_2 < (l1.length : Int) := of_decide_eq_true (by first | (with_reducible assumption) | assumption)
               obtain ⟨ad238, e238, hx238_0, hx238_1⟩ := at_T36 HR1.out x9_2 p238 q238
               have hw238_1 := hx238_1
               have hw238_0 := hx238_0
               obtain rfl : ad229 = ad238 := (by injection e238)
               replace hx238_0 := (HB.out.cell (World.block_lt_of_cell? w _ hx238_0)).trans hx238_0
               replace hx238_1 := (HB.out.cell (World.block_lt_of_cell? w _ hx238_1)).trans hx238_1
               replace p238 := eq_true p238
               replace q238 := eq_true q238
               refine start_ (n := 32) (S := fun w' => w'.cell? (ad229.add ((x9_2).toNat * 2)) = some (.int .i64 ((rd_T36 l1 x9_2).f0)) ∧ w'.cell? ⟨(ad229.add ((x9_2).toNat * 2)).block, (ad229.add ((x9_2).toNat * 2)).off + 1, none⟩ = some (.int .i64 ((rd_T36 l1 x9_2).f1)) ∧ w'.cell? (ad229.add ((x9_2).toNat * 2)) = some (.int .i64 ((rd_T36 l1 x9_2).f0)) ∧ w'.cell? ⟨(ad229.add ((x9_2).toNat * 2)).block, (ad229.add ((x9_2).toNat * 2)).off + 1, none⟩ = some (.int .i64 ((rd_T36 l1 x9_2).f1)) ∧ w'.cell? (ad229.add ((x9_2).toNat * 2)) = some (.int .i64 ((rd_T36 l1 x9_2).f0)) ∧ w'.cell? ⟨(ad229.add ((x9_2).toNat * 2)).block, (ad229.add ((x9_2).toNat * 2)).off + 1, none⟩ = some (.int .i64 ((rd_T36 l1 x9_2).f1)) ∧ w'.cell? (ad229.add ((x9_2).toNat * 2)) = some (.int .i64 ((rd_T36 l1 x9_2).f0)) ∧ w'.cell? ⟨(ad229.add ((x9_2).toNat * 2)).block, (ad229.add ((x9_2).toNat * 2)).off + 1, none⟩ = some (.int .i64 ((rd_T36 l1 x9_2).f1))) (ds := []) #[false, false, false, false, false, false, false, false, false, false, false, false, false, false, false, false, false, false, false, false, false, false, false, false, false, false, false, false, false, false, false, false] (by kernel_rfl) rfl rfl ⟨((HB.out.cell (World.block_lt_of_cell? w _ hw229_0)).trans hw229_0), ((HB.out.cell (World.block_lt_of_cell? w _ hw229_1)).trans hw229_1), ((HB.out.cell (World.block_lt_of_cell? w _ hw230_0)).trans hw230_0), ((HB.out.cell (World.block_lt_of_cell? w _ hw230_1)).trans hw230_1), ((HB.out.cell (World.block_lt_of_cell? w _ hw237_0)).trans hw237_0), ((HB.out.cell (World.block_lt_of_cell? w _ hw237_1)).trans hw237_1), ((HB.out.cell (World.block_lt_of_cell? w _ hw238_0)).trans hw238_0), ((HB.out.cell (World.block_lt_of_cell? w _ hw238_1)).trans hw238_1)⟩ (fun hHeld => ?_); refine with_tabW flywheellaw20_LossyPlays.tab8 flywheellaw20_LossyPlays.bits8 (fun HT_ HW_ => ?_)
               generalize wc.drew = w28 at BK213 HI219 HI226 HB hx229_0 hx229_1 hx230_0 hx230_1 hx237_0 hx237_1 hx238_0 hx238_1 hHeld ⊢
               refine pure_ (i := 0) (N := some 54) (v := ?_) (a' := ?_) #[true, false, false, false, false, false, false, false, false, false, false, false, false, false, false, false, false, false, false, false, false, false, false, false, false, false, false, false, false, false, false, false] rfl rfl (any_of HT_.out (by kernel_rfl)) (fun _ _ _ h => h) (Or.inl ⟨by rfl, ?_⟩) ?_ ?_
               rotate_left
               ·intro w'
                go_simp
                with_reducible rfl
               rotate_left
               ·simp only [Act.put, List.setIfInBounds_toArray, List.set_cons_zero, List.set_cons_succ, i64_w, i32_w]
                rfl
               refine pure_ (i := 1) (N := some 55) (v := ?_) (a' := ?_) #[true, true, false, false, false, false, false, false, false, false, false, false, false, false, false, false, false, false, false, false, false, false, false, false, false, false, false, false, false, false, false, false] rfl rfl (any_of HT_.out (by kernel_rfl)) (fun _ _ _ h => h) (Or.inl ⟨by rfl, ?_⟩) ?_ ?_
               rotate_left
               ·intro w'
                go_simp
                with_reducible rfl
               rotate_left
               ·simp only [Act.put, List.setIfInBounds_toArray, List.set_cons_zero, List.set_cons_succ, i64_w, i32_w]
                rfl
               refine pure_ (i := 2) (N := some 56) (v := ?_) (a' := ?_) #[true, true, true, false, false, false, false, false, false, false, false, false, false, false, false, false, false, false, false, false, false, false, false, false, false, false, false, false, false, false, false, false] rfl rfl (any_of HT_.out (by kernel_rfl)) (fun _ _ _ h => h) (Or.inl ⟨by rfl, ?_⟩) ?_ ?_
               rotate_left
               ·intro w'
                go_simp
                with_reducible rfl
               rotate_left
               ·simp only [Act.put, List.setIfInBounds_toArray, List.set_cons_zero, List.set_cons_succ, i64_w, i32_w]
                rfl
               refine pure_ (i := 3) (N := some 57) (v := ?_) (a' := ?_) #[true, true, true, true, false, false, false, false, false, false, false, false, false, false, false, false, false, false, false, false, false, false, false, false, false, false, false, false, false, false, false, false] rfl rfl (any_of HT_.out (by kernel_rfl)) (fun _ _ _ h => h) (Or.inl ⟨by rfl, ?_⟩) ?_ ?_
               rotate_left
               ·intro w'
                go_simp
                with_reducible rfl
               rotate_left
               ·simp only [Act.put, List.setIfInBounds_toArray, List.set_cons_zero, List.set_cons_succ, i64_w, i32_w]
                rfl
               refine pure_ (i := 4) (N := some 58) (v := ?_) (a' := ?_) #[true, true, true, true, true, false, false, false, false, false, false, false, false, false, false, false, false, false, false, false, false, false, false, false, false, false, false, false, false, false, false, false] rfl rfl (any_of HT_.out (by kernel_rfl)) (fun _ _ _ h => h) (Or.inl ⟨by rfl, ?_⟩) ?_ ?_
               rotate_left
               ·intro w'
                go_simp
                with_reducible rfl
               rotate_left
               ·simp only [Act.put, List.setIfInBounds_toArray, List.set_cons_zero, List.set_cons_succ, i64_w, i32_w]
                rfl
               refine pure_ (i := 6) (N := some 60) (v := ?_) (a' := ?_) #[true, true, true, true, true, false, true, false, false, false, false, false, false, false, false, false, false, false, false, false, false, false, false, false, false, false, false, false, false, false, false, false] rfl rfl (any_of HT_.out (by kernel_rfl)) (fun _ _ _ h => h) (Or.inl ⟨by rfl, ?_⟩) ?_ ?_
               rotate_left
               ·intro w'
                go_simp
                with_reducible rfl
               rotate_left
               ·simp only [Act.put, List.setIfInBounds_toArray, List.set_cons_zero, List.set_cons_succ, i64_w, i32_w]
                rfl
               refine pure_ (i := 7) (N := some 61) (v := ?_) (a' := ?_) #[true, true, true, true, true, false, true, true, false, false, false, false, false, false, false, false, false, false, false, false, false, false, false, false, false, false, false, false, false, false, false, false] rfl rfl (any_of HT_.out (by kernel_rfl)) (fun _ _ _ h => h) (Or.inl ⟨by rfl, ?_⟩) ?_ ?_
               rotate_left
               ·intro w'
                go_simp
                with_reducible rfl
               rotate_left
               ·simp only [Act.put, List.setIfInBounds_toArray, List.set_cons_zero, List.set_cons_succ, i64_w, i32_w]
                rfl
               refine pure_ (i := 8) (N := some 62) (v := ?_) (a' := ?_) #[true, true, true, true, true, false, true, true, true, false, false, false, false, false, false, false, false, false, false, false, false, false, false, false, false, false, false, false, false, false, false, false] rfl rfl (any_of HT_.out (by kernel_rfl)) (fun _ _ _ h => h) (Or.inl ⟨by rfl, ?_⟩) ?_ ?_
               rotate_left
               ·intro w'
                go_simp
                with_reducible rfl
               rotate_left
               ·simp only [Act.put, List.setIfInBounds_toArray, List.set_cons_zero, List.set_cons_succ, i64_w, i32_w]
                rfl
               refine pure_ (i := 9) (N := some 63) (v := ?_) (a' := ?_) #[true, true, true, true, true, false, true, true, true, true, false, false, false, false, false, false, false, false, false, false, false, false, false, false, false, false, false, false, false, false, false, false] rfl rfl (any_of HT_.out (by kernel_rfl)) (fun _ _ _ h => h) (Or.inl ⟨by rfl, ?_⟩) ?_ ?_
               rotate_left
               ·intro w'
                go_simp
                with_reducible rfl
               rotate_left
               ·simp only [Act.put, List.setIfInBounds_toArray, List.set_cons_zero, List.set_cons_succ, i64_w, i32_w]
                rfl
               refine pure_ (i := 12) (N := some 66) (v := ?_) (a' := ?_) #[true, true, true, true, true, false, true, true, true, true, false, false, true, false, false, false, false, false, false, false, false, false, false, false, false, false, false, false, false, false, false, false] rfl rfl (any_of HT_.out (by kernel_rfl)) (fun _ _ _ h => h) (Or.inl ⟨by rfl, ?_⟩) ?_ ?_
               rotate_left
               ·intro w'
                go_simp
                with_reducible rfl
               rotate_left
               ·simp only [Act.put, List.setIfInBounds_toArray, List.set_cons_zero, List.set_cons_succ, i64_w, i32_w]
                rfl
               refine pure_ (i := 13) (N := some 67) (v := ?_) (a' := ?_) #[true, true, true, true, true, false, true, true, true, true, false, false, true, true, false, false, false, false, false, false, false, false, false, false, false, false, false, false, false, false, false, false] rfl rfl (any_of HT_.out (by kernel_rfl)) (fun _ _ _ h => h) (Or.inl ⟨by rfl, ?_⟩) ?_ ?_
               rotate_left
               ·intro w'
                go_simp
                with_reducible rfl
               rotate_left
               ·simp only [Act.put, List.setIfInBounds_toArray, List.set_cons_zero, List.set_cons_succ, i64_w, i32_w]
                rfl
               refine pure_ (i := 14) (N := some 68) (v := ?_) (a' := ?_) #[true, true, true, true, true, false, true, true, true, true, false, false, true, true, true, false, false, false, false, false, false, false, false, false, false, false, false, false, false, false, false, false] rfl rfl (any_of HT_.out (by kernel_rfl)) (fun _ _ _ h => h) (Or.inl ⟨by rfl, ?_⟩) ?_ ?_
               rotate_left
               ·intro w'
                go_simp
                with_reducible rfl
               rotate_left
               ·simp only [Act.put, List.setIfInBounds_toArray, List.set_cons_zero, List.set_cons_succ, i64_w, i32_w]
                rfl
               refine pure_ (i := 15) (N := some 69) (v := ?_) (a' := ?_) #[true, true, true, true, true, false, true, true, true, true, false, false, true, true, true, true, false, false, false, false, false, false, false, false, false, false, false, false, false, false, false, false] rfl rfl (any_of HT_.out (by kernel_rfl)) (fun _ _ _ h => h) (Or.inl ⟨by rfl, ?_⟩) ?_ ?_
               rotate_left
               ·intro w'
                go_simp
                with_reducible rfl
               rotate_left
               ·simp only [Act.put, List.setIfInBounds_toArray, List.set_cons_zero, List.set_cons_succ, i64_w, i32_w]
                rfl
               refine pure_ (i := 16) (N := some 70) (v := ?_) (a' := ?_) #[true, true, true, true, true, false, true, true, true, true, false, false, true, true, true, true, true, false, false, false, false, false, false, false, false, false, false, false, false, false, false, false] rfl rfl (any_of HT_.out (by kernel_rfl)) (fun _ _ _ h => h) (Or.inl ⟨by rfl, ?_⟩) ?_ ?_
               rotate_left
               ·intro w'
                go_simp
                with_reducible rfl
               rotate_left
               ·simp only [Act.put, List.setIfInBounds_toArray, List.set_cons_zero, List.set_cons_succ, i64_w, i32_w]
                rfl
               refine pure_ (i := 18) (N := some 72) (v := ?_) (a' := ?_) #[true, true, true, true, true, false, true, true, true, true, false, false, true, true, true, true, true, false, true, false, false, false, false, false, false, false, false, false, false, false, false, false] rfl rfl (any_of HT_.out (by kernel_rfl)) (fun _ _ _ h => h) (Or.inl ⟨by rfl, ?_⟩) ?_ ?_
               rotate_left
               ·intro w'
                go_simp
                with_reducible rfl
               rotate_left
               ·simp only [Act.put, List.setIfInBounds_toArray, List.set_cons_zero, List.set_cons_succ, i64_w, i32_w]
                rfl
               refine pure_ (i := 19) (N := some 73) (v := ?_) (a' := ?_) #[true, true, true, true, true, false, true, true, true, true, false, false, true, true, true, true, true, false, true, true, false, false, false, false, false, false, false, false, false, false, false, false] rfl rfl (any_of HT_.out (by kernel_rfl)) (fun _ _ _ h => h) (Or.inl ⟨by rfl, ?_⟩) ?_ ?_
               rotate_left
               ·intro w'
                go_simp
                with_reducible rfl
               rotate_left
               ·simp only [Act.put, List.setIfInBounds_toArray, List.set_cons_zero, List.set_cons_succ, i64_w, i32_w]
                rfl
               refine pure_ (i := 20) (N := some 74) (v := ?_) (a' := ?_) #[true, true, true, true, true, false, true, true, true, true, false, false, true, true, true, true, true, false, true, true, true, false, false, false, false, false, false, false, false, false, false, false] rfl rfl (any_of HT_.out (by kernel_rfl)) (fun _ _ _ h => h) (Or.inl ⟨by rfl, ?_⟩) ?_ ?_
               rotate_left
               ·intro w'
                go_simp
                with_reducible rfl
               rotate_left
               ·simp only [Act.put, List.setIfInBounds_toArray, List.set_cons_zero, List.set_cons_succ, i64_w, i32_w]
                rfl
               refine pure_ (i := 21) (N := some 75) (v := ?_) (a' := ?_) #[true, true, true, true, true, false, true, true, true, true, false, false, true, true, true, true, true, false, true, true, true, true, false, false, false, false, false, false, false, false, false, false] rfl rfl (any_of HT_.out (by kernel_rfl)) (fun _ _ _ h => h) (Or.inl ⟨by rfl, ?_⟩) ?_ ?_
               rotate_left
               ·intro w'
                go_simp
                with_reducible rfl
               rotate_left
               ·simp only [Act.put, List.setIfInBounds_toArray, List.set_cons_zero, List.set_cons_succ, i64_w, i32_w]
                rfl
               refine take_ (i := 5) (N := some 59) (v := ?_) (a' := ?_) #[true, true, true, true, true, true, true, true, true, true, false, false, true, true, true, true, true, false, true, true, true, true, false, false, false, false, false, false, false, false, false, false] rfl rfl (take_ofW HT_.out HW_.out (by kernel_rfl)) (fun _ _ _ h => h) (Or.inl ⟨by rfl, ?_⟩) hHeld ?_ ?_
               rotate_left
               ·rintro w' ⟨s0, s1, s2, s3, s4, s5, s6, s7⟩
                go_simp
                with_reducible rfl
               rotate_left
               ·simp only [Act.put, List.setIfInBounds_toArray, List.set_cons_zero, List.set_cons_succ, i64_w, i32_w]
                rfl
               refine take_ (i := 10) (N := some 64) (v := ?_) (a' := ?_) #[true, true, true, true, true, true, true, true, true, true, true, false, true, true, true, true, true, false, true, true, true, true, false, false, false, false, false, false, false, false, false, false] rfl rfl (take_ofW HT_.out HW_.out (by kernel_rfl)) (fun _ _ _ h => h) (Or.inl ⟨by rfl, ?_⟩) hHeld ?_ ?_
               rotate_left
               ·rintro w' ⟨s0, s1, s2, s3, s4, s5, s6, s7⟩
                go_simp
                with_reducible rfl
               rotate_left
               ·simp only [Act.put, List.setIfInBounds_toArray, List.set_cons_zero, List.set_cons_succ, i64_w, i32_w]
                rfl
               refine take_ (i := 17) (N := some 71) (v := ?_) (a' := ?_) #[true, true, true, true, true, true, true, true, true, true, true, false, true, true, true, true, true, true, true, true, true, true, false, false, false, false, false, false, false, false, false, false] rfl rfl (take_ofW HT_.out HW_.out (by kernel_rfl)) (fun _ _ _ h => h) (Or.inl ⟨by rfl, ?_⟩) hHeld ?_ ?_
               rotate_left
               ·rintro w' ⟨s0, s1, s2, s3, s4, s5, s6, s7⟩
                go_simp
                with_reducible rfl
               rotate_left
               ·simp only [Act.put, List.setIfInBounds_toArray, List.set_cons_zero, List.set_cons_succ, i64_w, i32_w]
                rfl
               refine take_ (i := 22) (N := some 76) (v := ?_) (a' := ?_) #[true, true, true, true, true, true, true, true, true, true, true, false, true, true, true, true, true, true, true, true, true, true, true, false, false, false, false, false, false, false, false, false] rfl rfl (take_ofW HT_.out HW_.out (by kernel_rfl)) (fun _ _ _ h => h) (Or.inl ⟨by rfl, ?_⟩) hHeld ?_ ?_
               rotate_left
               ·rintro w' ⟨s0, s1, s2, s3, s4, s5, s6, s7⟩
                go_simp
                with_reducible rfl
               rotate_left
               ·simp only [Act.put, List.setIfInBounds_toArray, List.set_cons_zero, List.set_cons_succ, i64_w, i32_w]
                rfl
               refine one_ (i := 11) (N := some 65) #[true, true, true, true, true, true, true, true, true, true, true, true, true, true, true, true, true, true, true, true, true, true, true, false, false, false, false, false, false, false, false, false] rfl rfl (one_of HT_.out (by kernel_rfl)) (by decide) (fun K hK => ?_)
               refine goes_ Tryd.func9 (by kernel_rfl) rfl #[.pointer (some ⟨g219, 0, none⟩), .int .i64 ((rd_T36 l1 x9_2).f0), .int .i64 ((rd_T36 l1 x9_2).f1)] (by rfl) rfl rfl (by (try simp only [List.map_toArray, List.map_cons, List.map_nil]); first | done | rfl | (simp only [List.length_drop, List.length_take]; rfl)) ?_
               with_reducible refine (lossy_Lossy_Update.calls g219 x220000_2 x220001_2 x220002_2 x220003_2 x220004_2 ((rd_T36 l1 x9_2).f0) ((rd_T36 l1 x9_2).f1) t231 t232 t233 t234 t235 t236 w _ ?side1 ?side2 ?sideG A22.out).mono ?_
               (case sideG => first | exact HTB.out | exact GL.below HTB.out (by repeat (first | (with_reducible first | exact HB.out | apply below_alloc | apply pw_below_drewN | apply below_drew1) | exact HB.out)))
               (case side1 => repeat (first | (with_reducible first | exact HI219.out | apply IsS42.alloc | apply IsS42.drewN | apply IsS42.drew | apply IsS42.set_0 | apply IsS42.set_1 | apply IsS42.set_2 | apply IsS42.set_3 | apply IsS42.set_4 | refine IsS42.far ?_ NB219_213.out _) | exact HI219.out))
               (case side2 => repeat (first | (with_reducible first | exact HB.out | apply below_alloc | apply pw_below_drewN | apply below_drew1 | refine below_set ?_ (IsS42.ge HI219.out) | refine below_set ?_ (IsS49.ge HI226.out) | refine below_set ?_ GE213.out) | exact HB.out))
               rintro e w29 ⟨rfl, hi, hb, hk⟩
               refine ⟨_, rfl, ?_⟩
               have n0_ := Aside0.mk (KeepBut.blk hk (g' := gb213) (o := .cells #[.int .i64 a0_0, .int .i64 a0_1, .int .i64 a0_2] 23 (0, 0)) (by (with_reducible repeat (first | refine blk_drewN ?_ _ | refine blk_drew ?_ | refine blk_alloc ?_ _)); exact BK213.out) NB213_219.out (by simp))
               have n1_ := Aside0.mk (IsS49.keepS (by repeat (first | (with_reducible first | exact HI226.out | apply IsS49.alloc | apply IsS49.drewN | apply IsS49.drew | apply IsS49.set_0 | apply IsS49.set_1 | apply IsS49.set_2 | apply IsS49.set_3 | apply IsS49.set_4 | refine IsS49.far ?_ NB226_213.out _) | exact HI226.out)) hk NB226_219.out)
               have n2_ := Aside0.mk (hb)
               have n3_ := Aside0.mk (hi)
               clear BK213
               clear HI226
               clear HB
               clear HI219
               have BK213 := n0_
               have HI226 := n1_
               have HB := n2_
               have HI219 := n3_
               clear n0_ n1_ n2_ n3_
               (try clear hb)
               (try clear hb2)
               (try clear hk)
               (try clear hi)
               refine hK.out _ _ ⟨((HB.out.cell (World.block_lt_of_cell? w _ hw229_0)).trans hw229_0), ((HB.out.cell (World.block_lt_of_cell? w _ hw229_1)).trans hw229_1), ((HB.out.cell (World.block_lt_of_cell? w _ hw230_0)).trans hw230_0), ((HB.out.cell (World.block_lt_of_cell? w _ hw230_1)).trans hw230_1), ((HB.out.cell (World.block_lt_of_cell? w _ hw237_0)).trans hw237_0), ((HB.out.cell (World.block_lt_of_cell? w _ hw237_1)).trans hw237_1), ((HB.out.cell (World.block_lt_of_cell? w _ hw238_0)).trans hw238_0), ((HB.out.cell (World.block_lt_of_cell? w _ hw238_1)).trans hw238_1)⟩ (fun hHeld => ?_)
               clear hK K
               refine norm_ (a' := ?_) ?_ ?_
               rotate_left
               ·show Act.put _ (some 65) _ = _
                simp only [Act.put, List.setIfInBounds_toArray, List.set_cons_zero, List.set_cons_succ, i64_w, i32_w]
                rfl
               refine one_ (i := 23) (N := some 77) #[true, true, true, true, true, true, true, true, true, true, true, true, true, true, true, true, true, true, true, true, true, true, true, true, false, false, false, false, false, false, false, false] rfl rfl (one_of HT_.out (by kernel_rfl)) (by decide) (fun K hK => ?_)
               refine goes_ Tryd.func11 (by kernel_rfl) rfl #[.pointer (some ⟨g226, 0, none⟩), .int .i64 ((rd_T36 l1 x9_2).f0), .int .i64 ((rd_T36 l1 x9_2).f1)] (by rfl) rfl rfl (by (try simp only [List.map_toArray, List.map_cons, List.map_nil]); first | done | rfl | (simp only [List.length_drop, List.length_take]; rfl)) ?_
               with_reducible refine (flywheelref20_Lossy_Update.calls kj15 g226 x227000_2 x227001_2 x227002_2 x227003_2 x227004_2 ((rd_T36 l1 x9_2).f0) ((rd_T36 l1 x9_2).f1) t239 t240 t241 t242 t243 t244 w _ ?side1 ?side2 A23.out).mono ?_
               (case side1 => repeat (first | (with_reducible first | exact HI226.out | apply IsS49.alloc | apply IsS49.drewN | apply IsS49.drew | apply IsS49.set_0 | apply IsS49.set_1 | apply IsS49.set_2 | apply IsS49.set_3 | apply IsS49.set_4 | refine IsS49.far ?_ NB226_213.out _) | exact HI226.out))
               (case side2 => repeat (first | (with_reducible first | exact HB.out | apply below_alloc | apply pw_below_drewN | apply below_drew1 | refine below_set ?_ (IsS42.ge HI219.out) | refine below_set ?_ (IsS49.ge HI226.out) | refine below_set ?_ GE213.out) | exact HB.out))
               rintro e w30 ⟨rfl, hi, hb, hk⟩
               refine ⟨_, rfl, ?_⟩
               have n0_ := Aside0.mk (KeepBut.blk hk (g' := gb213) (o := .cells #[.int .i64 a0_0, .int .i64 a0_1, .int .i64 a0_2] 23 (0, 0)) (by (with_reducible repeat (first | refine blk_drewN ?_ _ | refine blk_drew ?_ | refine blk_alloc ?_ _)); exact BK213.out) NB213_226.out (by simp))
               have n1_ := Aside0.mk (IsS42.keepS (by repeat (first | (with_reducible first | exact HI219.out | apply IsS42.alloc | apply IsS42.drewN | apply IsS42.drew | apply IsS42.set_0 | apply IsS42.set_1 | apply IsS42.set_2 | apply IsS42.set_3 | apply IsS42.set_4 | refine IsS42.far ?_ NB219_213.out _) | exact HI219.out)) hk NB219_226.out)
               have n2_ := Aside0.mk (hb)
               have n3_ := Aside0.mk (hi)
               clear BK213
               clear HI219
               clear HB
               clear HI226
               have BK213 := n0_
               have HI219 := n1_
               have HB := n2_
               have HI226 := n3_
               clear n0_ n1_ n2_ n3_
               (try clear hb)
               (try clear hb2)
               (try clear hk)
               (try clear hi)
               refine hK.out _ _ ⟨((HB.out.cell (World.block_lt_of_cell? w _ hw229_0)).trans hw229_0), ((HB.out.cell (World.block_lt_of_cell? w _ hw229_1)).trans hw229_1), ((HB.out.cell (World.block_lt_of_cell? w _ hw230_0)).trans hw230_0), ((HB.out.cell (World.block_lt_of_cell? w _ hw230_1)).trans hw230_1), ((HB.out.cell (World.block_lt_of_cell? w _ hw237_0)).trans hw237_0), ((HB.out.cell (World.block_lt_of_cell? w _ hw237_1)).trans hw237_1), ((HB.out.cell (World.block_lt_of_cell? w _ hw238_0)).trans hw238_0), ((HB.out.cell (World.block_lt_of_cell? w _ hw238_1)).trans hw238_1)⟩ (fun hHeld => ?_)
               clear hK K
               refine norm_ (a' := ?_) ?_ ?_
               rotate_left
               ·show Act.put _ (some 77) _ = _
                simp only [Act.put, List.setIfInBounds_toArray, List.set_cons_zero, List.set_cons_succ, i64_w, i32_w]
                rfl
               refine pure_ (i := 24) (N := some 78) (v := ?_) (a' := ?_) #[true, true, true, true, true, true, true, true, true, true, true, true, true, true, true, true, true, true, true, true, true, true, true, true, true, false, false, false, false, false, false, false] rfl rfl (any_of HT_.out (by kernel_rfl)) (fun _ _ _ h => h) (Or.inl ⟨by rfl, ?_⟩) ?_ ?_
               rotate_left
               ·intro w'
                go_simp
                with_reducible rfl
               rotate_left
               ·simp only [Act.put, List.setIfInBounds_toArray, List.set_cons_zero, List.set_cons_succ, i64_w, i32_w]
                rfl
               refine pure_ (i := 25) (N := some 79) (v := ?_) (a' := ?_) #[true, true, true, true, true, true, true, true, true, true, true, true, true, true, true, true, true, true, true, true, true, true, true, true, true, true, false, false, false, false, false, false] rfl rfl (any_of HT_.out (by kernel_rfl)) (fun _ _ _ h => h) (Or.inl ⟨by rfl, ?_⟩) ?_ ?_
               rotate_left
               ·intro w'
                go_simp
                with_reducible rfl
               rotate_left
               ·simp only [Act.put, List.setIfInBounds_toArray, List.set_cons_zero, List.set_cons_succ, i64_w, i32_w]
                rfl
               refine pure_ (i := 26) (N := some 80) (v := ?_) (a' := ?_) #[true, true, true, true, true, true, true, true, true, true, true, true, true, true, true, true, true, true, true, true, true, true, true, true, true, true, true, false, false, false, false, false] rfl rfl (any_of HT_.out (by kernel_rfl)) (fun _ _ _ h => h) (Or.inl ⟨by rfl, ?_⟩) ?_ ?_
               rotate_left
               ·intro w'
                go_simp
                with_reducible rfl
               rotate_left
               ·simp only [Act.put, List.setIfInBounds_toArray, List.set_cons_zero, List.set_cons_succ, i64_w, i32_w]
                rfl
               refine pure_ (i := 28) (N := some 82) (v := ?_) (a' := ?_) #[true, true, true, true, true, true, true, true, true, true, true, true, true, true, true, true, true, true, true, true, true, true, true, true, true, true, true, false, true, false, false, false] rfl rfl (any_of HT_.out (by kernel_rfl)) (fun _ _ _ h => h) (Or.inl ⟨by rfl, ?_⟩) ?_ ?_
               rotate_left
               ·intro w'
                go_simp
                with_reducible rfl
               rotate_left
               ·simp only [Act.put, List.setIfInBounds_toArray, List.set_cons_zero, List.set_cons_succ, i64_w, i32_w]
                rfl
               refine one_ (i := 27) (N := some 81) #[true, true, true, true, true, true, true, true, true, true, true, true, true, true, true, true, true, true, true, true, true, true, true, true, true, true, true, true, true, false, false, false] rfl rfl (one_of HT_.out (by kernel_rfl)) (by decide) (fun K hK => ?_)
               refine goes_ Tryd.func12 (by kernel_rfl) rfl #[.pointer (some ⟨g219, 0, none⟩)] (by rfl) rfl rfl (by (try simp only [List.map_toArray, List.map_cons, List.map_nil]); first | done | rfl | (simp only [List.length_drop, List.length_take]; rfl)) ?_
               with_reducible refine (lossy_Lossy_Rate.calls g219 t232 t233 t234 t235 t236 t245 t246 t247 t248 t249 t250 w _ ?side1 ?side2 A25.out).mono ?_
               (case side1 => repeat (first | (with_reducible first | exact HI219.out | apply IsS42.alloc | apply IsS42.drewN | apply IsS42.drew | apply IsS42.set_0 | apply IsS42.set_1 | apply IsS42.set_2 | apply IsS42.set_3 | apply IsS42.set_4 | refine IsS42.far ?_ NB219_213.out _) | exact HI219.out))
               (case side2 => repeat (first | (with_reducible first | exact HB.out | apply below_alloc | apply pw_below_drewN | apply below_drew1 | refine below_set ?_ (IsS42.ge HI219.out) | refine below_set ?_ (IsS49.ge HI226.out) | refine below_set ?_ GE213.out) | exact HB.out))
               rintro e w31 ⟨rfl, hi, hb, hk⟩
               refine ⟨_, rfl, ?_⟩
               have n0_ := Aside0.mk (KeepBut.blk hk (g' := gb213) (o := .cells #[.int .i64 a0_0, .int .i64 a0_1, .int .i64 a0_2] 23 (0, 0)) (by (with_reducible repeat (first | refine blk_drewN ?_ _ | refine blk_drew ?_ | refine blk_alloc ?_ _)); exact BK213.out) NB213_219.out (by simp))
               have n1_ := Aside0.mk (IsS49.keepS (by repeat (first | (with_reducible first | exact HI226.out | apply IsS49.alloc | apply IsS49.drewN | apply IsS49.drew | apply IsS49.set_0 | apply IsS49.set_1 | apply IsS49.set_2 | apply IsS49.set_3 | apply IsS49.set_4 | refine IsS49.far ?_ NB226_213.out _) | exact HI226.out)) hk NB226_219.out)
               have n2_ := Aside0.mk (hb)
               have n3_ := Aside0.mk (hi)
               clear BK213
               clear HI226
               clear HB
               clear HI219
               have BK213 := n0_
               have HI226 := n1_
               have HB := n2_
               have HI219 := n3_
               clear n0_ n1_ n2_ n3_
               (try clear hb)
               (try clear hb2)
               (try clear hk)
               (try clear hi)
               refine hK.out _ _ ⟨((HB.out.cell (World.block_lt_of_cell? w _ hw229_0)).trans hw229_0), ((HB.out.cell (World.block_lt_of_cell? w _ hw229_1)).trans hw229_1), ((HB.out.cell (World.block_lt_of_cell? w _ hw230_0)).trans hw230_0), ((HB.out.cell (World.block_lt_of_cell? w _ hw230_1)).trans hw230_1), ((HB.out.cell (World.block_lt_of_cell? w _ hw237_0)).trans hw237_0), ((HB.out.cell (World.block_lt_of_cell? w _ hw237_1)).trans hw237_1), ((HB.out.cell (World.block_lt_of_cell? w _ hw238_0)).trans hw238_0), ((HB.out.cell (World.block_lt_of_cell? w _ hw238_1)).trans hw238_1)⟩ (fun hHeld => ?_)
               clear hK K
               refine norm_ (a' := ?_) ?_ ?_
               rotate_left
               ·show Act.put _ (some 81) _ = _
                simp only [Act.put, List.setIfInBounds_toArray, List.set_cons_zero, List.set_cons_succ, i64_w, i32_w]
                rfl
               refine one_ (i := 29) (N := some 83) #[true, true, true, true, true, true, true, true, true, true, true, true, true, true, true, true, true, true, true, true, true, true, true, true, true, true, true, true, true, true, false, false] rfl rfl (one_of HT_.out (by kernel_rfl)) (by decide) (fun K hK => ?_)
               refine goes_ Tryd.func13 (by kernel_rfl) rfl #[.pointer (some ⟨g226, 0, none⟩)] (by rfl) rfl rfl (by (try simp only [List.map_toArray, List.map_cons, List.map_nil]); first | done | rfl | (simp only [List.length_drop, List.length_take]; rfl)) ?_
               with_reducible refine (flywheelref20_Lossy_Rate.calls g226 t240 t241 t242 t243 t244 t251 t252 t253 t254 t255 t256 w _ ?side1 ?side2 A26.out).mono ?_
               (case side1 => repeat (first | (with_reducible first | exact HI226.out | apply IsS49.alloc | apply IsS49.drewN | apply IsS49.drew | apply IsS49.set_0 | apply IsS49.set_1 | apply IsS49.set_2 | apply IsS49.set_3 | apply IsS49.set_4 | refine IsS49.far ?_ NB226_213.out _) | exact HI226.out))
               (case side2 => repeat (first | (with_reducible first | exact HB.out | apply below_alloc | apply pw_below_drewN | apply below_drew1 | refine below_set ?_ (IsS42.ge HI219.out) | refine below_set ?_ (IsS49.ge HI226.out) | refine below_set ?_ GE213.out) | exact HB.out))
               rintro e w32 ⟨rfl, hi, hb, hk⟩
               refine ⟨_, rfl, ?_⟩
               have n0_ := Aside0.mk (KeepBut.blk hk (g' := gb213) (o := .cells #[.int .i64 a0_0, .int .i64 a0_1, .int .i64 a0_2] 23 (0, 0)) (by (with_reducible repeat (first | refine blk_drewN ?_ _ | refine blk_drew ?_ | refine blk_alloc ?_ _)); exact BK213.out) NB213_226.out (by simp))
               have n1_ := Aside0.mk (IsS42.keepS (by repeat (first | (with_reducible first | exact HI219.out | apply IsS42.alloc | apply IsS42.drewN | apply IsS42.drew | apply IsS42.set_0 | apply IsS42.set_1 | apply IsS42.set_2 | apply IsS42.set_3 | apply IsS42.set_4 | refine IsS42.far ?_ NB219_213.out _) | exact HI219.out)) hk NB219_226.out)
               have n2_ := Aside0.mk (hb)
               have n3_ := Aside0.mk (hi)
               clear BK213
               clear HI219
               clear HB
               clear HI226
               have BK213 := n0_
               have HI219 := n1_
               have HB := n2_
               have HI226 := n3_
               clear n0_ n1_ n2_ n3_
               (try clear hb)
               (try clear hb2)
               (try clear hk)
               (try clear hi)
               refine hK.out _ _ ⟨((HB.out.cell (World.block_lt_of_cell? w _ hw229_0)).trans hw229_0), ((HB.out.cell (World.block_lt_of_cell? w _ hw229_1)).trans hw229_1), ((HB.out.cell (World.block_lt_of_cell? w _ hw230_0)).trans hw230_0), ((HB.out.cell (World.block_lt_of_cell? w _ hw230_1)).trans hw230_1), ((HB.out.cell (World.block_lt_of_cell? w _ hw237_0)).trans hw237_0), ((HB.out.cell (World.block_lt_of_cell? w _ hw237_1)).trans hw237_1), ((HB.out.cell (World.block_lt_of_cell? w _ hw238_0)).trans hw238_0), ((HB.out.cell (World.block_lt_of_cell? w _ hw238_1)).trans hw238_1)⟩ (fun hHeld => ?_)
               clear hK K
               refine norm_ (a' := ?_) ?_ ?_
               rotate_left
               ·show Act.put _ (some 83) _ = _
                simp only [Act.put, List.setIfInBounds_toArray, List.set_cons_zero, List.set_cons_succ, i64_w, i32_w]
                rfl
               refine pure_ (i := 30) (N := some 84) (v := ?_) (a' := ?_) #[true, true, true, true, true, true, true, true, true, true, true, true, true, true, true, true, true, true, true, true, true, true, true, true, true, true, true, true, true, true, true, false] rfl rfl (any_of HT_.out (by kernel_rfl)) (fun _ _ _ h => h) (Or.inl ⟨by rfl, ?_⟩) ?_ ?_
               rotate_left
               ·intro w'
                go_simp
                with_reducible rfl
               rotate_left
               ·simp only [Act.put, List.setIfInBounds_toArray, List.set_cons_zero, List.set_cons_succ, i64_w, i32_w]
                rfl
               refine pure_ (i := 31) (N := some 85) (v := ?_) (a' := ?_) #[true, true, true, true, true, true, true, true, true, true, true, true, true, true, true, true, true, true, true, true, true, true, true, true, true, true, true, true, true, true, true, true] rfl rfl (any_of HT_.out (by kernel_rfl)) (fun _ _ _ h => h) (Or.inl ⟨by rfl, ?_⟩) ?_ ?_
               rotate_left
               ·intro w'
                go_simp
                with_reducible rfl
               rotate_left
               ·simp only [Act.put, List.setIfInBounds_toArray, List.set_cons_zero, List.set_cons_succ, i64_w, i32_w]
                rfl
               refine done_ (done_of HT_.out (by kernel_rfl)) ?_
               try go_wp2
               go_roundg kj15
               case measure => have := HJ6.out; have := HK2.out; have := HJ15.out; omega
               case rel => exact ⟨(wrap64 (x9_2 + 1)), (t246), (t247), (t248), (t249), (t250), (t252), (t253), (t254), (t255), (t256), (by first | rfl | (simp; done) | (simp [*]; done)), H', ⟨by have := HJ6.out; have := HK2.out; have := HJ15.out; omega⟩, ⟨by (with_reducible repeat (first | refine blk_drewN ?_ _ | refine blk_drew ?_ | refine blk_alloc ?_ _)); exact BK213.out⟩, ⟨by repeat (first | (with_reducible first | exact HI219.out | apply IsS42.alloc | apply IsS42.drewN | apply IsS42.drew | apply IsS42.set_0 | apply IsS42.set_1 | apply IsS42.set_2 | apply IsS42.set_3 | apply IsS42.set_4 | refine IsS42.far ?_ NB219_213.out _) | exact HI219.out)⟩, ⟨by repeat (first | (with_reducible first | exact HI226.out | apply IsS49.alloc | apply IsS49.drewN | apply IsS49.drew | apply IsS49.set_0 | apply IsS49.set_1 | apply IsS49.set_2 | apply IsS49.set_3 | apply IsS49.set_4 | refine IsS49.far ?_ NB226_213.out _) | exact HI226.out)⟩, ⟨by repeat (first | (with_reducible first | exact HB.out | apply below_alloc | apply pw_below_drewN | apply below_drew1 | refine below_set ?_ (IsS42.ge HI219.out) | refine below_set ?_ (IsS49.ge HI226.out) | refine below_set ?_ GE213.out) | exact HB.out)⟩⟩
              ·rw [if_neg c27] at H
               have c27b0 : (t245 == t251) = false := beq_eq_false_iff_ne.mpr c27
               have c27b1 : (t245 != t251) = true := bne_iff_ne.mpr c27
               obtain rfl := Option.some.inj H
               try go_wp2
               have n0_ := Aside0.mk (blk_drew BK213.out)
               have n1_ := Aside0.mk (IsS42.drew HI219.out)
               have n2_ := Aside0.mk (IsS49.drew HI226.out)
               have n3_ := Aside0.mk (below_drew1 HB.out)
               clear BK213
               clear HI219
               clear HI226
               clear HB
               have BK213 := n0_
               have HI219 := n1_
               have HI226 := n2_
               have HB := n3_
               clear n0_ n1_ n2_ n3_
               have p229 : 0 ≤ (x9_2 : Int) := of_decide_eq_true (by first | (with_reducible assumption) | assumption)
               have q229 : x9_2 < (l1.length : Int) := of_decide_eq_true (by first | (with_reducible assumption) | assumption)
               obtain ⟨ad229, e229, hx229_0, hx229_1⟩ := at_T36 HR1.out x9_2 p229 q229
               have hw229_1 := hx229_1
               have hw229_0 := hx229_0
               cases e229
               replace hx229_0 := (HB.out.cell (World.block_lt_of_cell? w _ hx229_0)).trans hx229_0
               replace hx229_1 := (HB.out.cell (World.block_lt_of_cell? w _ hx229_1)).trans hx229_1
               replace p229 := eq_true p229
               replace q229 := eq_true q229
               have p230 : 0 ≤ (x9_2 : Int) := of_decide_eq_true (by first | (with_reducible assumption) | assumption)
               have q230 : x9_2 < (l1.length : Int) := of_decide_eq_true (by first | (with_reducible assumption) | assumption)
               obtain ⟨ad230, e230, hx230_0, hx230_1⟩ := at_T36 HR1.out x9_2 p230 q230
               have hw230_1 := hx230_1
               have hw230_0 := hx230_0
               obtain rfl : ad229 = ad230 := (by injection e230)
               replace hx230_0 := (HB.out.cell (World.block_lt_of_cell? w _ hx230_0)).trans hx230_0
               replace hx230_1 := (HB.out.cell (World.block_lt_of_cell? w _ hx230_1)).trans hx230_1
               replace p230 := eq_true p230
               replace q230 := eq_true q230
               have p237 : 0 ≤ (x9_2 : Int) := of_decide_eq_true (by first | (with_reducible assumption) | assumption)
               have q237 : x9_2 < (l1.length : Int) := of_decide_eq_true (by first | (with_reducible assumption) | assumption)
               obtain ⟨ad237, e237, hx237_0, hx237_1⟩ := at_T36 HR1.out x9_2 p237 q237
               have hw237_1 := hx237_1
               have hw237_0 := hx237_0
               obtain rfl : ad229 = ad237 := (by injection e237)
               replace hx237_0 := (HB.out.cell (World.block_lt_of_cell? w _ hx237_0)).trans hx237_0
               replace hx237_1 := (HB.out.cell (World.block_lt_of_cell? w _ hx237_1)).trans hx237_1
               replace p237 := eq_true p237
               replace q237 := eq_true q237
               have p238 : 0 ≤ (x9_2 : Int) := of_decide_eq_true (by first | (with_reducible assumption) | assumption)
               have q238 : x9_2 < (l1.length : Int) := of_decide_eq_true (by first | (with_reducible assumption) | assumption)
               obtain ⟨ad238, e238, hx238_0, hx238_1⟩ := at_T36 HR1.out x9_2 p238 q238
               have hw238_1 := hx238_1
               have hw238_0 := hx238_0
               obtain rfl : ad229 = ad238 := (by injection e238)
               replace hx238_0 := (HB.out.cell (World.block_lt_of_cell? w _ hx238_0)).trans hx238_0
               replace hx238_1 := (HB.out.cell (World.block_lt_of_cell? w _ hx238_1)).trans hx238_1
               replace p238 := eq_true p238
               replace q238 := eq_true q238
               refine start_ (n := 32) (S := fun w' => w'.cell? (ad229.add ((x9_2).toNat * 2)) = some (.int .i64 ((rd_T36 l1 x9_2).f0)) ∧ w'.cell? ⟨(ad229.add ((x9_2).toNat * 2)).block, (ad229.add ((x9_2).toNat * 2)).off + 1, none⟩ = some (.int .i64 ((rd_T36 l1 x9_2).f1)) ∧ w'.cell? (ad229.add ((x9_2).toNat * 2)) = some (.int .i64 ((rd_T36 l1 x9_2).f0)) ∧ w'.cell? ⟨(ad229.add ((x9_2).toNat * 2)).block, (ad229.add ((x9_2).toNat * 2)).off + 1, none⟩ = some (.int .i64 ((rd_T36 l1 x9_2).f1)) ∧ w'.cell? (ad229.add ((x9_2).toNat * 2)) = some (.int .i64 ((rd_T36 l1 x9_2).f0)) ∧ w'.cell? ⟨(ad229.add ((x9_2).toNat * 2)).block, (ad229.add ((x9_2).toNat * 2)).off + 1, none⟩ = some (.int .i64 ((rd_T36 l1 x9_2).f1)) ∧ w'.cell? (ad229.add ((x9_2).toNat * 2)) = some (.int .i64 ((rd_T36 l1 x9_2).f0)) ∧ w'.cell? ⟨(ad229.add ((x9_2).toNat * 2)).block, (ad229.add ((x9_2).toNat * 2)).off + 1, none⟩ = some (.int .i64 ((rd_T36 l1 x9_2).f1))) (ds := []) #[false, false, false, false, false, false, false, false, false, false, false, false, false, false, false, false, false, false, false, false, false, false, false, false, false, false, false, false, false, false, false, false] (by kernel_rfl) rfl rfl ⟨((HB.out.cell (World.block_lt_of_cell? w _ hw229_0)).trans hw229_0), ((HB.out.cell (World.block_lt_of_cell? w _ hw229_1)).trans hw229_1), ((HB.out.cell (World.block_lt_of_cell? w _ hw230_0)).trans hw230_0), ((HB.out.cell (World.block_lt_of_cell? w _ hw230_1)).trans hw230_1), ((HB.out.cell (World.block_lt_of_cell? w _ hw237_0)).trans hw237_0), ((HB.out.cell (World.block_lt_of_cell? w _ hw237_1)).trans hw237_1), ((HB.out.cell (World.block_lt_of_cell? w _ hw238_0)).trans hw238_0), ((HB.out.cell (World.block_lt_of_cell? w _ hw238_1)).trans hw238_1)⟩ (fun hHeld => ?_); refine with_tabW flywheellaw20_LossyPlays.tab8 flywheellaw20_LossyPlays.bits8 (fun HT_ HW_ => ?_)
               generalize wc.drew = w33 at BK213 HI219 HI226 HB hx229_0 hx229_1 hx230_0 hx230_1 hx237_0 hx237_1 hx238_0 hx238_1 hHeld ⊢
               refine pure_ (i := 0) (N := some 54) (v := ?_) (a' := ?_) #[true, false, false, false, false, false, false, false, false, false, false, false, false, false, false, false, false, false, false, false, false, false, false, false, false, false, false, false, false, false, false, false] rfl rfl (any_of HT_.out (by kernel_rfl)) (fun _ _ _ h => h) (Or.inl ⟨by rfl, ?_⟩) ?_ ?_
               rotate_left
               ·intro w'
                go_simp
                with_reducible rfl
               rotate_left
               ·simp only [Act.put, List.setIfInBounds_toArray, List.set_cons_zero, List.set_cons_succ, i64_w, i32_w]
                rfl
               refine pure_ (i := 1) (N := some 55) (v := ?_) (a' := ?_) #[true, true, false, false, false, false, false, false, false, false, false, false, false, false, false, false, false, false, false, false, false, false, false, false, false, false, false, false, false, false, false, false] rfl rfl (any_of HT_.out (by kernel_rfl)) (fun _ _ _ h => h) (Or.inl ⟨by rfl, ?_⟩) ?_ ?_
               rotate_left
               ·intro w'
                go_simp
                with_reducible rfl
               rotate_left
               ·simp only [Act.put, List.setIfInBounds_toArray, List.set_cons_zero, List.set_cons_succ, i64_w, i32_w]
                rfl
               refine pure_ (i := 2) (N := some 56) (v := ?_) (a' := ?_) #[true, true, true, false, false, false, false, false, false, false, false, false, false, false, false, false, false, false, false, false, false, false, false, false, false, false, false, false, false, false, false, false] rfl rfl (any_of HT_.out (by kernel_rfl)) (fun _ _ _ h => h) (Or.inl ⟨by rfl, ?_⟩) ?_ ?_
               rotate_left
               ·intro w'
                go_simp
                with_reducible rfl
               rotate_left
               ·simp only [Act.put, List.setIfInBounds_toArray, List.set_cons_zero, List.set_cons_succ, i64_w, i32_w]
                rfl
               refine pure_ (i := 3) (N := some 57) (v := ?_) (a' := ?_) #[true, true, true, true, false, false, false, false, false, false, false, false, false, false, false, false, false, false, false, false, false, false, false, false, false, false, false, false, false, false, false, false] rfl rfl (any_of HT_.out (by kernel_rfl)) (fun _ _ _ h => h) (Or.inl ⟨by rfl, ?_⟩) ?_ ?_
               rotate_left
               ·intro w'
                go_simp
                with_reducible rfl
               rotate_left
               ·simp only [Act.put, List.setIfInBounds_toArray, List.set_cons_zero, List.set_cons_succ, i64_w, i32_w]
                rfl
               refine pure_ (i := 4) (N := some 58) (v := ?_) (a' := ?_) #[true, true, true, true, true, false, false, false, false, false, false, false, false, false, false, false, false, false, false, false, false, false, false, false, false, false, false, false, false, false, false, false] rfl rfl (any_of HT_.out (by kernel_rfl)) (fun _ _ _ h => h) (Or.inl ⟨by rfl, ?_⟩) ?_ ?_
               rotate_left
               ·intro w'
                go_simp
                with_reducible rfl
               rotate_left
               ·simp only [Act.put, List.setIfInBounds_toArray, List.set_cons_zero, List.set_cons_succ, i64_w, i32_w]
                rfl
               refine pure_ (i := 6) (N := some 60) (v := ?_) (a' := ?_) #[true, true, true, true, true, false, true, false, false, false, false, false, false, false, false, false, false, false, false, false, false, false, false, false, false, false, false, false, false, false, false, false] rfl rfl (any_of HT_.out (by kernel_rfl)) (fun _ _ _ h => h) (Or.inl ⟨by rfl, ?_⟩) ?_ ?_
               rotate_left
               ·intro w'
                go_simp
                with_reducible rfl
               rotate_left
               ·simp only [Act.put, List.setIfInBounds_toArray, List.set_cons_zero, List.set_cons_succ, i64_w, i32_w]
                rfl
               refine pure_ (i := 7) (N := some 61) (v := ?_) (a' := ?_) #[true, true, true, true, true, false, true, true, false, false, false, false, false, false, false, false, false, false, false, false, false, false, false, false, false, false, false, false, false, false, false, false] rfl rfl (any_of HT_.out (by kernel_rfl)) (fun _ _ _ h => h) (Or.inl ⟨by rfl, ?_⟩) ?_ ?_
               rotate_left
               ·intro w'
                go_simp
                with_reducible rfl
               rotate_left
               ·simp only [Act.put, List.setIfInBounds_toArray, List.set_cons_zero, List.set_cons_succ, i64_w, i32_w]
                rfl
               refine pure_ (i := 8) (N := some 62) (v := ?_) (a' := ?_) #[true, true, true, true, true, false, true, true, true, false, false, false, false, false, false, false, false, false, false, false, false, false, false, false, false, false, false, false, false, false, false, false] rfl rfl (any_of HT_.out (by kernel_rfl)) (fun _ _ _ h => h) (Or.inl ⟨by rfl, ?_⟩) ?_ ?_
               rotate_left
               ·intro w'
                go_simp
                with_reducible rfl
               rotate_left
               ·simp only [Act.put, List.setIfInBounds_toArray, List.set_cons_zero, List.set_cons_succ, i64_w, i32_w]
                rfl
               refine pure_ (i := 9) (N := some 63) (v := ?_) (a' := ?_) #[true, true, true, true, true, false, true, true, true, true, false, false, false, false, false, false, false, false, false, false, false, false, false, false, false, false, false, false, false, false, false, false] rfl rfl (any_of HT_.out (by kernel_rfl)) (fun _ _ _ h => h) (Or.inl ⟨by rfl, ?_⟩) ?_ ?_
               rotate_left
               ·intro w'
                go_simp
                with_reducible rfl
               rotate_left
               ·simp only [Act.put, List.setIfInBounds_toArray, List.set_cons_zero, List.set_cons_succ, i64_w, i32_w]
                rfl
               refine pure_ (i := 12) (N := some 66) (v := ?_) (a' := ?_) #[true, true, true, true, true, false, true, true, true, true, false, false, true, false, false, false, false, false, false, false, false, false, false, false, false, false, false, false, false, false, false, false] rfl rfl (any_of HT_.out (by kernel_rfl)) (fun _ _ _ h => h) (Or.inl ⟨by rfl, ?_⟩) ?_ ?_
               rotate_left
               ·intro w'
                go_simp
                with_reducible rfl
               rotate_left
               ·simp only [Act.put, List.setIfInBounds_toArray, List.set_cons_zero, List.set_cons_succ, i64_w, i32_w]
                rfl
               refine pure_ (i := 13) (N := some 67) (v := ?_) (a' := ?_) #[true, true, true, true, true, false, true, true, true, true, false, false, true, true, false, false, false, false, false, false, false, false, false, false, false, false, false, false, false, false, false, false] rfl rfl (any_of HT_.out (by kernel_rfl)) (fun _ _ _ h => h) (Or.inl ⟨by rfl, ?_⟩) ?_ ?_
               rotate_left
               ·intro w'
                go_simp
                with_reducible rfl
               rotate_left
               ·simp only [Act.put, List.setIfInBounds_toArray, List.set_cons_zero, List.set_cons_succ, i64_w, i32_w]
                rfl
               refine pure_ (i := 14) (N := some 68) (v := ?_) (a' := ?_) #[true, true, true, true, true, false, true, true, true, true, false, false, true, true, true, false, false, false, false, false, false, false, false, false, false, false, false, false, false, false, false, false] rfl rfl (any_of HT_.out (by kernel_rfl)) (fun _ _ _ h => h) (Or.inl ⟨by rfl, ?_⟩) ?_ ?_
               rotate_left
               ·intro w'
                go_simp
                with_reducible rfl
               rotate_left
               ·simp only [Act.put, List.setIfInBounds_toArray, List.set_cons_zero, List.set_cons_succ, i64_w, i32_w]
                rfl
               refine pure_ (i := 15) (N := some 69) (v := ?_) (a' := ?_) #[true, true, true, true, true, false, true, true, true, true, false, false, true, true, true, true, false, false, false, false, false, false, false, false, false, false, false, false, false, false, false, false] rfl rfl (any_of HT_.out (by kernel_rfl)) (fun _ _ _ h => h) (Or.inl ⟨by rfl, ?_⟩) ?_ ?_
               rotate_left
               ·intro w'
                go_simp
                with_reducible rfl
               rotate_left
               ·simp only [Act.put, List.setIfInBounds_toArray, List.set_cons_zero, List.set_cons_succ, i64_w, i32_w]
                rfl
               refine pure_ (i := 16) (N := some 70) (v := ?_) (a' := ?_) #[true, true, true, true, true, false, true, true, true, true, false, false, true, true, true, true, true, false, false, false, false, false, false, false, false, false, false, false, false, false, false, false] rfl rfl (any_of HT_.out (by kernel_rfl)) (fun _ _ _ h => h) (Or.inl ⟨by rfl, ?_⟩) ?_ ?_
               rotate_left
               ·intro w'
                go_simp
                with_reducible rfl
               rotate_left
               ·simp only [Act.put, List.setIfInBounds_toArray, List.set_cons_zero, List.set_cons_succ, i64_w, i32_w]
                rfl
               refine pure_ (i := 18) (N := some 72) (v := ?_) (a' := ?_) #[true, true, true, true, true, false, true, true, true, true, false, false, true, true, true, true, true, false, true, false, false, false, false, false, false, false, false, false, false, false, false, false] rfl rfl (any_of HT_.out (by kernel_rfl)) (fun _ _ _ h => h) (Or.inl ⟨by rfl, ?_⟩) ?_ ?_
               rotate_left
               ·intro w'
                go_simp
                with_reducible rfl
               rotate_left
               ·simp only [Act.put, List.setIfInBounds_toArray, List.set_cons_zero, List.set_cons_succ, i64_w, i32_w]
                rfl
               refine pure_ (i := 19) (N := some 73) (v := ?_) (a' := ?_) #[true, true, true, true, true, false, true, true, true, true, false, false, true, true, true, true, true, false, true, true, false, false, false, false, false, false, false, false, false, false, false, false] rfl rfl (any_of HT_.out (by kernel_rfl)) (fun _ _ _ h => h) (Or.inl ⟨by rfl, ?_⟩) ?_ ?_
               rotate_left
               ·intro w'
                go_simp
                with_reducible rfl
               rotate_left
               ·simp only [Act.put, List.setIfInBounds_toArray, List.set_cons_zero, List.set_cons_succ, i64_w, i32_w]
                rfl
               refine pure_ (i := 20) (N := some 74) (v := ?_) (a' := ?_) #[true, true, true, true, true, false, true, true, true, true, false, false, true, true, true, true, true, false, true, true, true, false, false, false, false, false, false, false, false, false, false, false] rfl rfl (any_of HT_.out (by kernel_rfl)) (fun _ _ _ h => h) (Or.inl ⟨by rfl, ?_⟩) ?_ ?_
               rotate_left
               ·intro w'
                go_simp
                with_reducible rfl
               rotate_left
               ·simp only [Act.put, List.setIfInBounds_toArray, List.set_cons_zero, List.set_cons_succ, i64_w, i32_w]
                rfl
               refine pure_ (i := 21) (N := some 75) (v := ?_) (a' := ?_) #[true, true, true, true, true, false, true, true, true, true, false, false, true, true, true, true, true, false, true, true, true, true, false, false, false, false, false, false, false, false, false, false] rfl rfl (any_of HT_.out (by kernel_rfl)) (fun _ _ _ h => h) (Or.inl ⟨by rfl, ?_⟩) ?_ ?_
               rotate_left
               ·intro w'
                go_simp
                with_reducible rfl
               rotate_left
               ·simp only [Act.put, List.setIfInBounds_toArray, List.set_cons_zero, List.set_cons_succ, i64_w, i32_w]
                rfl
               refine take_ (i := 5) (N := some 59) (v := ?_) (a' := ?_) #[true, true, true, true, true, true, true, true, true, true, false, false, true, true, true, true, true, false, true, true, true, true, false, false, false, false, false, false, false, false, false, false] rfl rfl (take_ofW HT_.out HW_.out (by kernel_rfl)) (fun _ _ _ h => h) (Or.inl ⟨by rfl, ?_⟩) hHeld ?_ ?_
               rotate_left
               ·rintro w' ⟨s0, s1, s2, s3, s4, s5, s6, s7⟩
                go_simp
                with_reducible rfl
               rotate_left
               ·simp only [Act.put, List.setIfInBounds_toArray, List.set_cons_zero, List.set_cons_succ, i64_w, i32_w]
                rfl
               refine take_ (i := 10) (N := some 64) (v := ?_) (a' := ?_) #[true, true, true, true, true, true, true, true, true, true, true, false, true, true, true, true, true, false, true, true, true, true, false, false, false, false, false, false, false, false, false, false] rfl rfl (take_ofW HT_.out HW_.out (by kernel_rfl)) (fun _ _ _ h => h) (Or.inl ⟨by rfl, ?_⟩) hHeld ?_ ?_
               rotate_left
               ·rintro w' ⟨s0, s1, s2, s3, s4, s5, s6, s7⟩
                go_simp
                with_reducible rfl
               rotate_left
               ·simp only [Act.put, List.setIfInBounds_toArray, List.set_cons_zero, List.set_cons_succ, i64_w, i32_w]
                rfl
               refine take_ (i := 17) (N := some 71) (v := ?_) (a' := ?_) #[true, true, true, true, true, true, true, true, true, true, true, false, true, true, true, true, true, true, true, true, true, true, false, false, false, false, false, false, false, false, false, false] rfl rfl (take_ofW HT_.out HW_.out (by kernel_rfl)) (fun _ _ _ h => h) (Or.inl ⟨by rfl, ?_⟩) hHeld ?_ ?_
               rotate_left
               ·rintro w' ⟨s0, s1, s2, s3, s4, s5, s6, s7⟩
                go_simp
                with_reducible rfl
               rotate_left
               ·simp only [Act.put, List.setIfInBounds_toArray, List.set_cons_zero, List.set_cons_succ, i64_w, i32_w]
                rfl
               refine take_ (i := 22) (N := some 76) (v := ?_) (a' := ?_) #[true, true, true, true, true, true, true, true, true, true, true, false, true, true, true, true, true, true, true, true, true, true, true, false, false, false, false, false, false, false, false, false] rfl rfl (take_ofW HT_.out HW_.out (by kernel_rfl)) (fun _ _ _ h => h) (Or.inl ⟨by rfl, ?_⟩) hHeld ?_ ?_
               rotate_left
               ·rintro w' ⟨s0, s1, s2, s3, s4, s5, s6, s7⟩
                go_simp
                with_reducible rfl
               rotate_left
               ·simp only [Act.put, List.setIfInBounds_toArray, List.set_cons_zero, List.set_cons_succ, i64_w, i32_w]
                rfl
               refine one_ (i := 11) (N := some 65) #[true, true, true, true, true, true, true, true, true, true, true, true, true, true, true, true, true, true, true, true, true, true, true, false, false, false, false, false, false, false, false, false] rfl rfl (one_of HT_.out (by kernel_rfl)) (by decide) (fun K hK => ?_)
               refine goes_ Tryd.func9 (by kernel_rfl) rfl #[.pointer (some ⟨g219, 0, none⟩), .int .i64 ((rd_T36 l1 x9_2).f0), .int .i64 ((rd_T36 l1 x9_2).f1)] (by rfl) rfl rfl (by (try simp only [List.map_toArray, List.map_cons, List.map_nil]); first | done | rfl | (simp only [List.length_drop, List.length_take]; rfl)) ?_
               with_reducible refine (lossy_Lossy_Update.calls g219 x220000_2 x220001_2 x220002_2 x220003_2 x220004_2 ((rd_T36 l1 x9_2).f0) ((rd_T36 l1 x9_2).f1) t231 t232 t233 t234 t235 t236 w _ ?side1 ?side2 ?sideG A22.out).mono ?_
               (case sideG => first | exact HTB.out | exact GL.below HTB.out (by repeat (first | (with_reducible first | exact HB.out | apply below_alloc | apply pw_below_drewN | apply below_drew1) | exact HB.out)))
               (case side1 => repeat (first | (with_reducible first | exact HI219.out | apply IsS42.alloc | apply IsS42.drewN | apply IsS42.drew | apply IsS42.set_0 | apply IsS42.set_1 | apply IsS42.set_2 | apply IsS42.set_3 | apply IsS42.set_4 | refine IsS42.far ?_ NB219_213.out _) | exact HI219.out))
               (case side2 => repeat (first | (with_reducible first | exact HB.out | apply below_alloc | apply pw_below_drewN | apply below_drew1 | refine below_set ?_ (IsS42.ge HI219.out) | refine below_set ?_ (IsS49.ge HI226.out) | refine below_set ?_ GE213.out) | exact HB.out))
               rintro e w34 ⟨rfl, hi, hb, hk⟩
               refine ⟨_, rfl, ?_⟩
               have n0_ := Aside0.mk (KeepBut.blk hk (g' := gb213) (o := .cells #[.int .i64 a0_0, .int .i64 a0_1, .int .i64 a0_2] 23 (0, 0)) (by (with_reducible repeat (first | refine blk_drewN ?_ _ | refine blk_drew ?_ | refine blk_alloc ?_ _)); exact BK213.out) NB213_219.out (by simp))
               have n1_ := Aside0.mk (IsS49.keepS (by repeat (first | (with_reducible first | exact HI226.out | apply IsS49.alloc | apply IsS49.drewN | apply IsS49.drew | apply IsS49.set_0 | apply IsS49.set_1 | apply IsS49.set_2 | apply IsS49.set_3 | apply IsS49.set_4 | refine IsS49.far ?_ NB226_213.out _) | exact HI226.out)) hk NB226_219.out)
               have n2_ := Aside0.mk (hb)
               have n3_ := Aside0.mk (hi)
               clear BK213
               clear HI226
               clear HB
               clear HI219
               have BK213 := n0_
               have HI226 := n1_
               have HB := n2_
               have HI219 := n3_
               clear n0_ n1_ n2_ n3_
               (try clear hb)
               (try clear hb2)
               (try clear hk)
               (try clear hi)
               refine hK.out _ _ ⟨((HB.out.cell (World.block_lt_of_cell? w _ hw229_0)).trans hw229_0), ((HB.out.cell (World.block_lt_of_cell? w _ hw229_1)).trans hw229_1), ((HB.out.cell (World.block_lt_of_cell? w _ hw230_0)).trans hw230_0), ((HB.out.cell (World.block_lt_of_cell? w _ hw230_1)).trans hw230_1), ((HB.out.cell (World.block_lt_of_cell? w _ hw237_0)).trans hw237_0), ((HB.out.cell (World.block_lt_of_cell? w _ hw237_1)).trans hw237_1), ((HB.out.cell (World.block_lt_of_cell? w _ hw238_0)).trans hw238_0), ((HB.out.cell (World.block_lt_of_cell? w _ hw238_1)).trans hw238_1)⟩ (fun hHeld => ?_)
               clear hK K
               refine norm_ (a' := ?_) ?_ ?_
               rotate_left
               ·show Act.put _ (some 65) _ = _
                simp only [Act.put, List.setIfInBounds_toArray, List.set_cons_zero, List.set_cons_succ, i64_w, i32_w]
                rfl
               refine one_ (i := 23) (N := some 77) #[true, true, true, true, true, true, true, true, true, true, true, true, true, true, true, true, true, true, true, true, true, true, true, true, false, false, false, false, false, false, false, false] rfl rfl (one_of HT_.out (by kernel_rfl)) (by decide) (fun K hK => ?_)
               refine goes_ Tryd.func11 (by kernel_rfl) rfl #[.pointer (some ⟨g226, 0, none⟩), .int .i64 ((rd_T36 l1 x9_2).f0), .int .i64 ((rd_T36 l1 x9_2).f1)] (by rfl) rfl rfl (by (try simp only [List.map_toArray, List.map_cons, List.map_nil]); first | done | rfl | (simp only [List.length_drop, List.length_take]; rfl)) ?_
               with_reducible refine (flywheelref20_Lossy_Update.calls kj15 g226 x227000_2 x227001_2 x227002_2 x227003_2 x227004_2 ((rd_T36 l1 x9_2).f0) ((rd_T36 l1 x9_2).f1) t239 t240 t241 t242 t243 t244 w _ ?side1 ?side2 A23.out).mono ?_
               (case side1 => repeat (first | (with_reducible first | exact HI226.out | apply IsS49.alloc | apply IsS49.drewN | apply IsS49.drew | apply IsS49.set_0 | apply IsS49.set_1 | apply IsS49.set_2 | apply IsS49.set_3 | apply IsS49.set_4 | refine IsS49.far ?_ NB226_213.out _) | exact HI226.out))
               (case side2 => repeat (first | (with_reducible first | exact HB.out | apply below_alloc | apply pw_below_drewN | apply below_drew1 | refine below_set ?_ (IsS42.ge HI219.out) | refine below_set ?_ (IsS49.ge HI226.out) | refine below_set ?_ GE213.out) | exact HB.out))
               rintro e w35 ⟨rfl, hi, hb, hk⟩
               refine ⟨_, rfl, ?_⟩
               have n0_ := Aside0.mk (KeepBut.blk hk (g' := gb213) (o := .cells #[.int .i64 a0_0, .int .i64 a0_1, .int .i64 a0_2] 23 (0, 0)) (by (with_reducible repeat (first | refine blk_drewN ?_ _ | refine blk_drew ?_ | refine blk_alloc ?_ _)); exact BK213.out) NB213_226.out (by simp))
               have n1_ := Aside0.mk (IsS42.keepS (by repeat (first | (with_reducible first | exact HI219.out | apply IsS42.alloc | apply IsS42.drewN | apply IsS42.drew | apply IsS42.set_0 | apply IsS42.set_1 | apply IsS42.set_2 | apply IsS42.set_3 | apply IsS42.set_4 | refine IsS42.far ?_ NB219_213.out _) | exact HI219.out)) hk NB219_226.out)
               have n2_ := Aside0.mk (hb)
               have n3_ := Aside0.mk (hi)
               clear BK213
               clear HI219
               clear HB
               clear HI226
               have BK213 := n0_
               have HI219 := n1_
               have HB := n2_
               have HI226 := n3_
               clear n0_ n1_ n2_ n3_
               (try clear hb)
               (try clear hb2)
               (try clear hk)
               (try clear hi)
               refine hK.out _ _ ⟨((HB.out.cell (World.block_lt_of_cell? w _ hw229_0)).trans hw229_0), ((HB.out.cell (World.block_lt_of_cell? w _ hw229_1)).trans hw229_1), ((HB.out.cell (World.block_lt_of_cell? w _ hw230_0)).trans hw230_0), ((HB.out.cell (World.block_lt_of_cell? w _ hw230_1)).trans hw230_1), ((HB.out.cell (World.block_lt_of_cell? w _ hw237_0)).trans hw237_0), ((HB.out.cell (World.block_lt_of_cell? w _ hw237_1)).trans hw237_1), ((HB.out.cell (World.block_lt_of_cell? w _ hw238_0)).trans hw238_0), ((HB.out.cell (World.block_lt_of_cell? w _ hw238_1)).trans hw238_1)⟩ (fun hHeld => ?_)
               clear hK K
               refine norm_ (a' := ?_) ?_ ?_
               rotate_left
               ·show Act.put _ (some 77) _ = _
                simp only [Act.put, List.setIfInBounds_toArray, List.set_cons_zero, List.set_cons_succ, i64_w, i32_w]
                rfl
               refine pure_ (i := 24) (N := some 78) (v := ?_) (a' := ?_) #[true, true, true, true, true, true, true, true, true, true, true, true, true, true, true, true, true, true, true, true, true, true, true, true, true, false, false, false, false, false, false, false] rfl rfl (any_of HT_.out (by kernel_rfl)) (fun _ _ _ h => h) (Or.inl ⟨by rfl, ?_⟩) ?_ ?_
               rotate_left
               ·intro w'
                go_simp
                with_reducible rfl
               rotate_left
               ·simp only [Act.put, List.setIfInBounds_toArray, List.set_cons_zero, List.set_cons_succ, i64_w, i32_w]
                rfl
               refine pure_ (i := 25) (N := some 79) (v := ?_) (a' := ?_) #[true, true, true, true, true, true, true, true, true, true, true, true, true, true, true, true, true, true, true, true, true, true, true, true, true, true, false, false, false, false, false, false] rfl rfl (any_of HT_.out (by kernel_rfl)) (fun _ _ _ h => h) (Or.inl ⟨by rfl, ?_⟩) ?_ ?_
               rotate_left
               ·intro w'
                go_simp
                with_reducible rfl
               rotate_left
               ·simp only [Act.put, List.setIfInBounds_toArray, List.set_cons_zero, List.set_cons_succ, i64_w, i32_w]
                rfl
               refine pure_ (i := 26) (N := some 80) (v := ?_) (a' := ?_) #[true, true, true, true, true, true, true, true, true, true, true, true, true, true, true, true, true, true, true, true, true, true, true, true, true, true, true, false, false, false, false, false] rfl rfl (any_of HT_.out (by kernel_rfl)) (fun _ _ _ h => h) (Or.inl ⟨by rfl, ?_⟩) ?_ ?_
               rotate_left
               ·intro w'
                go_simp
                with_reducible rfl
               rotate_left
               ·simp only [Act.put, List.setIfInBounds_toArray, List.set_cons_zero, List.set_cons_succ, i64_w, i32_w]
                rfl
               refine pure_ (i := 28) (N := some 82) (v := ?_) (a' := ?_) #[true, true, true, true, true, true, true, true, true, true, true, true, true, true, true, true, true, true, true, true, true, true, true, true, true, true, true, false, true, false, false, false] rfl rfl (any_of HT_.out (by kernel_rfl)) (fun _ _ _ h => h) (Or.inl ⟨by rfl, ?_⟩) ?_ ?_
               rotate_left
               ·intro w'
                go_simp
                with_reducible rfl
               rotate_left
               ·simp only [Act.put, List.setIfInBounds_toArray, List.set_cons_zero, List.set_cons_succ, i64_w, i32_w]
                rfl
               refine one_ (i := 27) (N := some 81) #[true, true, true, true, true, true, true, true, true, true, true, true, true, true, true, true, true, true, true, true, true, true, true, true, true, true, true, true, true, false, false, false] rfl rfl (one_of HT_.out (by kernel_rfl)) (by decide) (fun K hK => ?_)
               refine goes_ Tryd.func12 (by kernel_rfl) rfl #[.pointer (some ⟨g219, 0, none⟩)] (by rfl) rfl rfl (by (try simp only [List.map_toArray, List.map_cons, List.map_nil]); first | done | rfl | (simp only [List.length_drop, List.length_take]; rfl)) ?_
               with_reducible refine (lossy_Lossy_Rate.calls g219 t232 t233 t234 t235 t236 t245 t246 t247 t248 t249 t250 w _ ?side1 ?side2 A25.out).mono ?_
               (case side1 => repeat (first | (with_reducible first | exact HI219.out | apply IsS42.alloc | apply IsS42.drewN | apply IsS42.drew | apply IsS42.set_0 | apply IsS42.set_1 | apply IsS42.set_2 | apply IsS42.set_3 | apply IsS42.set_4 | refine IsS42.far ?_ NB219_213.out _) | exact HI219.out))
               (case side2 => repeat (first | (with_reducible first | exact HB.out | apply below_alloc | apply pw_below_drewN | apply below_drew1 | refine below_set ?_ (IsS42.ge HI219.out) | refine below_set ?_ (IsS49.ge HI226.out) | refine below_set ?_ GE213.out) | exact HB.out))
               rintro e w36 ⟨rfl, hi, hb, hk⟩
               refine ⟨_, rfl, ?_⟩
               have n0_ := Aside0.mk (KeepBut.blk hk (g' := gb213) (o := .cells #[.int .i64 a0_0, .int .i64 a0_1, .int .i64 a0_2] 23 (0, 0)) (by (with_reducible repeat (first | refine blk_drewN ?_ _ | refine blk_drew ?_ | refine blk_alloc ?_ _)); exact BK213.out) NB213_219.out (by simp))
               have n1_ := Aside0.mk (IsS49.keepS (by repeat (first | (with_reducible first | exact HI226.out | apply IsS49.alloc | apply IsS49.drewN | apply IsS49.drew | apply IsS49.set_0 | apply IsS49.set_1 | apply IsS49.set_2 | apply IsS49.set_3 | apply IsS49.set_4 | refine IsS49.far ?_ NB226_213.out _) | exact HI226.out)) hk NB226_219.out)
               have n2_ := Aside0.mk (hb)
               have n3_ := Aside0.mk (hi)
               clear BK213
               clear HI226
               clear HB
               clear HI219
               have BK213 := n0_
               have HI226 := n1_
               have HB := n2_
               have HI219 := n3_
               clear n0_ n1_ n2_ n3_
               (try clear hb)
               (try clear hb2)
               (try clear hk)
               (try clear hi)
               refine hK.out _ _ ⟨((HB.out.cell (World.block_lt_of_cell? w _ hw229_0)).trans hw229_0), ((HB.out.cell (World.block_lt_of_cell? w _ hw229_1)).trans hw229_1), ((HB.out.cell (World.block_lt_of_cell? w _ hw230_0)).trans hw230_0), ((HB.out.cell (World.block_lt_of_cell? w _ hw230_1)).trans hw230_1), ((HB.out.cell (World.block_lt_of_cell? w _ hw237_0)).trans hw237_0), ((HB.out.cell (World.block_lt_of_cell? w _ hw237_1)).trans hw237_1), ((HB.out.cell (World.block_lt_of_cell? w _ hw238_0)).trans hw238_0), ((HB.out.cell (World.block_lt_of_cell? w _ hw238_1)).trans hw238_1)⟩ (fun hHeld => ?_)
               clear hK K
               refine norm_ (a' := ?_) ?_ ?_
               rotate_left
               ·show Act.put _ (some 81) _ = _
                simp only [Act.put, List.setIfInBounds_toArray, List.set_cons_zero, List.set_cons_succ, i64_w, i32_w]
                rfl
               refine one_ (i := 29) (N := some 83) #[true, true, true, true, true, true, true, true, true, true, true, true, true, true, true, true, true, true, true, true, true, true, true, true, true, true, true, true, true, true, false, false] rfl rfl (one_of HT_.out (by kernel_rfl)) (by decide) (fun K hK => ?_)
               refine goes_ Tryd.func13 (by kernel_rfl) rfl #[.pointer (some ⟨g226, 0, none⟩)] (by rfl) rfl rfl (by (try simp only [List.map_toArray, List.map_cons, List.map_nil]); first | done | rfl | (simp only [List.length_drop, List.length_take]; rfl)) ?_
               with_reducible refine (flywheelref20_Lossy_Rate.calls g226 t240 t241 t242 t243 t244 t251 t252 t253 t254 t255 t256 w _ ?side1 ?side2 A26.out).mono ?_
               (case side1 => repeat (first | (with_reducible first | exact HI226.out | apply IsS49.alloc | apply IsS49.drewN | apply IsS49.drew | apply IsS49.set_0 | apply IsS49.set_1 | apply IsS49.set_2 | apply IsS49.set_3 | apply IsS49.set_4 | refine IsS49.far ?_ NB226_213.out _) | exact HI226.out))
               (case side2 => repeat (first | (with_reducible first | exact HB.out | apply below_alloc | apply pw_below_drewN | apply below_drew1 | refine below_set ?_ (IsS42.ge HI219.out) | refine below_set ?_ (IsS49.ge HI226.out) | refine below_set ?_ GE213.out) | exact HB.out))
               rintro e w37 ⟨rfl, hi, hb, hk⟩
               refine ⟨_, rfl, ?_⟩
               have n0_ := Aside0.mk (KeepBut.blk hk (g' := gb213) (o := .cells #[.int .i64 a0_0, .int .i64 a0_1, .int .i64 a0_2] 23 (0, 0)) (by (with_reducible repeat (first | refine blk_drewN ?_ _ | refine blk_drew ?_ | refine blk_alloc ?_ _)); exact BK213.out) NB213_226.out (by simp))
               have n1_ := Aside0.mk (IsS42.keepS (by repeat (first | (with_reducible first | exact HI219.out | apply IsS42.alloc | apply IsS42.drewN | apply IsS42.drew | apply IsS42.set_0 | apply IsS42.set_1 | apply IsS42.set_2 | apply IsS42.set_3 | apply IsS42.set_4 | refine IsS42.far ?_ NB219_213.out _) | exact HI219.out)) hk NB219_226.out)
               have n2_ := Aside0.mk (hb)
               have n3_ := Aside0.mk (hi)
               clear BK213
               clear HI219
               clear HB
               clear HI226
               have BK213 := n0_
               have HI219 := n1_
               have HB := n2_
               have HI226 := n3_
               clear n0_ n1_ n2_ n3_
               (try clear hb)
               (try clear hb2)
               (try clear hk)
               (try clear hi)
               refine hK.out _ _ ⟨((HB.out.cell (World.block_lt_of_cell? w _ hw229_0)).trans hw229_0), ((HB.out.cell (World.block_lt_of_cell? w _ hw229_1)).trans hw229_1), ((HB.out.cell (World.block_lt_of_cell? w _ hw230_0)).trans hw230_0), ((HB.out.cell (World.block_lt_of_cell? w _ hw230_1)).trans hw230_1), ((HB.out.cell (World.block_lt_of_cell? w _ hw237_0)).trans hw237_0), ((HB.out.cell (World.block_lt_of_cell? w _ hw237_1)).trans hw237_1), ((HB.out.cell (World.block_lt_of_cell? w _ hw238_0)).trans hw238_0), ((HB.out.cell (World.block_lt_of_cell? w _ hw238_1)).trans hw238_1)⟩ (fun hHeld => ?_)
               clear hK K
               refine norm_ (a' := ?_) ?_ ?_
               rotate_left
               ·show Act.put _ (some 83) _ = _
                simp only [Act.put, List.setIfInBounds_toArray, List.set_cons_zero, List.set_cons_succ, i64_w, i32_w]
                rfl
               refine pure_ (i := 30) (N := some 84) (v := ?_) (a' := ?_) #[true, true, true, true, true, true, true, true, true, true, true, true, true, true, true, true, true, true, true, true, true, true, true, true, true, true, true, true, true, true, true, false] rfl rfl (any_of HT_.out (by kernel_rfl)) (fun _ _ _ h => h) (Or.inl ⟨by rfl, ?_⟩) ?_ ?_
               rotate_left
               ·intro w'
                go_simp
                with_reducible rfl
               rotate_left
               ·simp only [Act.put, List.setIfInBounds_toArray, List.set_cons_zero, List.set_cons_succ, i64_w, i32_w]
                rfl
               refine pure_ (i := 31) (N := some 85) (v := ?_) (a' := ?_) #[true, true, true, true, true, true, true, true, true, true, true, true, true, true, true, true, true, true, true, true, true, true, true, true, true, true, true, true, true, true, true, true] rfl rfl (any_of HT_.out (by kernel_rfl)) (fun _ _ _ h => h) (Or.inl ⟨by rfl, ?_⟩) ?_ ?_
               rotate_left
               ·intro w'
                go_simp
                with_reducible rfl
               rotate_left
               ·simp only [Act.put, List.setIfInBounds_toArray, List.set_cons_zero, List.set_cons_succ, i64_w, i32_w]
                rfl
               refine done_ (done_of HT_.out (by kernel_rfl)) ?_
               try go_wp2
               go_ret
               exact ⟨by first | rfl | (simp [errW_none, errW_some] <;> rfl) | (simp [*, errW_none, errW_some] <;> rfl), by repeat (first | (with_reducible first | exact HB.out | apply below_alloc | apply pw_below_drewN | apply below_drew1 | refine below_set ?_ (IsS42.ge HI219.out) | refine below_set ?_ (IsS49.ge HI226.out) | refine below_set ?_ GE213.out) | exact HB.out)⟩
             ·rw [if_neg c24] at H
              have c24b0 : (t231 == t239) = false := beq_eq_false_iff_ne.mpr c24
              have c24b1 : (t231 != t239) = true := bne_iff_ne.mpr c24
              obtain rfl := Option.some.inj H
              try go_wp2
              have n0_ := Aside0.mk (blk_drew BK213.out)
              have n1_ := Aside0.mk (IsS42.drew HI219.out)
              have n2_ := Aside0.mk (IsS49.drew HI226.out)
              have n3_ := Aside0.mk (below_drew1 HB.out)
              clear BK213
              clear HI219
              clear HI226
              clear HB
              have BK213 := n0_
              have HI219 := n1_
              have HI226 := n2_
              have HB := n3_
              clear n0_ n1_ n2_ n3_
              have p229 : 0 ≤ (x9_2 : Int) := of_decide_eq_true (by first | (with_reducible assumption) | assumption)
              have q229 : x9_2 < (l1.length : Int) := of_decide_eq_true (by first | (with_reducible assumption) | assumption)
              obtain ⟨ad229, e229, hx229_0, hx229_1⟩ := at_T36 HR1.out x9_2 p229 q229
              have hw229_1 := hx229_1
              have hw229_0 := hx229_0
              cases e229
              replace hx229_0 := (HB.out.cell (World.block_lt_of_cell? w _ hx229_0)).trans hx229_0
              replace hx229_1 := (HB.out.cell (World.block_lt_of_cell? w _ hx229_1)).trans hx229_1
              replace p229 := eq_true p229
              replace q229 := eq_true q229
              have p230 : 0 ≤ (x9_2 : Int) := of_decide_eq_true (by first | (with_reducible assumption) | assumption)
              have q230 : x9_2 < (l1.length : Int) := of_decide_eq_true (by first | (with_reducible assumption) | assumption)
              obtain ⟨ad230, e230, hx230_0, hx230_1⟩ := at_T36 HR1.out x9_2 p230 q230
              have hw230_1 := hx230_1
              have hw230_0 := hx230_0
              obtain rfl : ad229 = ad230 := (by injection e230)
              replace hx230_0 := (HB.out.cell (World.block_lt_of_cell? w _ hx230_0)).trans hx230_0
              replace hx230_1 := (HB.out.cell (World.block_lt_of_cell? w _ hx230_1)).trans hx230_1
              replace p230 := eq_true p230
              replace q230 := eq_true q230
              have p237 : 0 ≤ (x9_2 : Int) := of_decide_eq_true (by first | (with_reducible assumption) | assumption)
              have q237 : x9_2 < (l1.length : Int) := of_decide_eq_true (by first | (with_reducible assumption) | assumption)
              obtain ⟨ad237, e237, hx237_0, hx237_1⟩ := at_T36 HR1.out x9_2 p237 q237
              have hw237_1 := hx237_1
              have hw237_0 := hx237_0
              obtain rfl : ad229 = ad237 := (by injection e237)
              replace hx237_0 := (HB.out.cell (World.block_lt_of_cell? w _ hx237_0)).trans hx237_0
              replace hx237_1 := (HB.out.cell (World.block_lt_of_cell? w _ hx237_1)).trans hx237_1
              replace p237 := eq_true p237
              replace q237 := eq_true q237
              have p238 : 0 ≤ (x9_2 : Int) := of_decide_eq_true (by first | (with_reducible assumption) | assumption)
              have q238 : x9_2 < (l1.length : Int) := of_decide_eq_true (by first | (with_reducible assumption) | assumption)
              obtain ⟨ad238, e238, hx238_0, hx238_1⟩ := at_T36 HR1.out x9_2 p238 q238
              have hw238_1 := hx238_1
              have hw238_0 := hx238_0
              obtain rfl : ad229 = ad238 := (by injection e238)
              replace hx238_0 := (HB.out.cell (World.block_lt_of_cell? w _ hx238_0)).trans hx238_0
              replace hx238_1 := (HB.out.cell (World.block_lt_of_cell? w _ hx238_1)).trans hx238_1
              replace p238 := eq_true p238
              replace q238 := eq_true q238
              refine start_ (n := 32) (S := fun w' => w'.cell? (ad229.add ((x9_2).toNat * 2)) = some (.int .i64 ((rd_T36 l1 x9_2).f0)) ∧ w'.cell? ⟨(ad229.add ((x9_2).toNat * 2)).block, (ad229.add ((x9_2).toNat * 2)).off + 1, none⟩ = some (.int .i64 ((rd_T36 l1 x9_2).f1)) ∧ w'.cell? (ad229.add ((x9_2).toNat * 2)) = some (.int .i64 ((rd_T36 l1 x9_2).f0)) ∧ w'.cell? ⟨(ad229.add ((x9_2).toNat * 2)).block, (ad229.add ((x9_2).toNat * 2)).off + 1, none⟩ = some (.int .i64 ((rd_T36 l1 x9_2).f1)) ∧ w'.cell? (ad229.add ((x9_2).toNat * 2)) = some (.int .i64 ((rd_T36 l1 x9_2).f0)) ∧ w'.cell? ⟨(ad229.add ((x9_2).toNat * 2)).block, (ad229.add ((x9_2).toNat * 2)).off + 1, none⟩ = some (.int .i64 ((rd_T36 l1 x9_2).f1)) ∧ w'.cell? (ad229.add ((x9_2).toNat * 2)) = some (.int .i64 ((rd_T36 l1 x9_2).f0)) ∧ w'.cell? ⟨(ad229.add ((x9_2).toNat * 2)).block, (ad229.add ((x9_2).toNat * 2)).off + 1, none⟩ = some (.int .i64 ((rd_T36 l1 x9_2).f1))) (ds := []) #[false, false, false, false, false, false, false, false, false, false, false, false, false, false, false, false, false, false, false, false, false, false, false, false, false, false, false, false, false, false, false, false] (by kernel_rfl) rfl rfl ⟨((HB.out.cell (World.block_lt_of_cell? w _ hw229_0)).trans hw229_0), ((HB.out.cell (World.block_lt_of_cell? w _ hw229_1)).trans hw229_1), ((HB.out.cell (World.block_lt_of_cell? w _ hw230_0)).trans hw230_0), ((HB.out.cell (World.block_lt_of_cell? w _ hw230_1)).trans hw230_1), ((HB.out.cell (World.block_lt_of_cell? w _ hw237_0)).trans hw237_0), ((HB.out.cell (World.block_lt_of_cell? w _ hw237_1)).trans hw237_1), ((HB.out.cell (World.block_lt_of_cell? w _ hw238_0)).trans hw238_0), ((HB.out.cell (World.block_lt_of_cell? w _ hw238_1)).trans hw238_1)⟩ (fun hHeld => ?_); refine with_tabW flywheellaw20_LossyPlays.tab8 flywheellaw20_LossyPlays.bits8 (fun HT_ HW_ => ?_)
              generalize wc.drew = w38 at BK213 HI219 HI226 HB hx229_0 hx229_1 hx230_0 hx230_1 hx237_0 hx237_1 hx238_0 hx238_1 hHeld ⊢
              refine pure_ (i := 0) (N := some 54) (v := ?_) (a' := ?_) #[true, false, false, false, false, false, false, false, false, false, false, false, false, false, false, false, false, false, false, false, false, false, false, false, false, false, false, false, false, false, false, false] rfl rfl (any_of HT_.out (by kernel_rfl)) (fun _ _ _ h => h) (Or.inl ⟨by rfl, ?_⟩) ?_ ?_
              rotate_left
              ·intro w'
               go_simp
               with_reducible rfl
              rotate_left
              ·simp only [Act.put, List.setIfInBounds_toArray, List.set_cons_zero, List.set_cons_succ, i64_w, i32_w]
               rfl
              refine pure_ (i := 1) (N := some 55) (v := ?_) (a' := ?_) #[true, true, false, false, false, false, false, false, false, false, false, false, false, false, false, false, false, false, false, false, false, false, false, false, false, false, false, false, false, false, false, false] rfl rfl (any_of HT_.out (by kernel_rfl)) (fun _ _ _ h => h) (Or.inl ⟨by rfl, ?_⟩) ?_ ?_
              rotate_left
              ·intro w'
               go_simp
               with_reducible rfl
              rotate_left
              ·simp only [Act.put, List.setIfInBounds_toArray, List.set_cons_zero, List.set_cons_succ, i64_w, i32_w]
               rfl
              refine pure_ (i := 2) (N := some 56) (v := ?_) (a' := ?_) #[true, true, true, false, false, false, false, false, false, false, false, false, false, false, false, false, false, false, false, false, false, false, false, false, false, false, false, false, false, false, false, false] rfl rfl (any_of HT_.out (by kernel_rfl)) (fun _ _ _ h => h) (Or.inl ⟨by rfl, ?_⟩) ?_ ?_
              rotate_left
              ·intro w'
               go_simp
               with_reducible rfl
              rotate_left
              ·simp only [Act.put, List.setIfInBounds_toArray, List.set_cons_zero, List.set_cons_succ, i64_w, i32_w]
               rfl
              refine pure_ (i := 3) (N := some 57) (v := ?_) (a' := ?_) #[true, true, true, true, false, false, false, false, false, false, false, false, false, false, false, false, false, false, false, false, false, false, false, false, false, false, false, false, false, false, false, false] rfl rfl (any_of HT_.out (by kernel_rfl)) (fun _ _ _ h => h) (Or.inl ⟨by rfl, ?_⟩) ?_ ?_
              rotate_left
              ·intro w'
               go_simp
               with_reducible rfl
              rotate_left
              ·simp only [Act.put, List.setIfInBounds_toArray, List.set_cons_zero, List.set_cons_succ, i64_w, i32_w]
               rfl
              refine pure_ (i := 4) (N := some 58) (v := ?_) (a' := ?_) #[true, true, true, true, true, false, false, false, false, false, false, false, false, false, false, false, false, false, false, false, false, false, false, false, false, false, false, false, false, false, false, false] rfl rfl (any_of HT_.out (by kernel_rfl)) (fun _ _ _ h => h) (Or.inl ⟨by rfl, ?_⟩) ?_ ?_
              rotate_left
              ·intro w'
               go_simp
               with_reducible rfl
              rotate_left
              ·simp only [Act.put, List.setIfInBounds_toArray, List.set_cons_zero, List.set_cons_succ, i64_w, i32_w]
               rfl
              refine pure_ (i := 6) (N := some 60) (v := ?_) (a' := ?_) #[true, true, true, true, true, false, true, false, false, false, false, false, false, false, false, false, false, false, false, false, false, false, false, false, false, false, false, false, false, false, false, false] rfl rfl (any_of HT_.out (by kernel_rfl)) (fun _ _ _ h => h) (Or.inl ⟨by rfl, ?_⟩) ?_ ?_
              rotate_left
              ·intro w'
               go_simp
               with_reducible rfl
              rotate_left
              ·simp only [Act.put, List.setIfInBounds_toArray, List.set_cons_zero, List.set_cons_succ, i64_w, i32_w]
               rfl
              refine pure_ (i := 7) (N := some 61) (v := ?_) (a' := ?_) #[true, true, true, true, true, false, true, true, false, false, false, false, false, false, false, false, false, false, false, false, false, false, false, false, false, false, false, false, false, false, false, false] rfl rfl (any_of HT_.out (by kernel_rfl)) (fun _ _ _ h => h) (Or.inl ⟨by rfl, ?_⟩) ?_ ?_
              rotate_left
              ·intro w'
               go_simp
               with_reducible rfl
              rotate_left
              ·simp only [Act.put, List.setIfInBounds_toArray, List.set_cons_zero, List.set_cons_succ, i64_w, i32_w]
               rfl
              refine pure_ (i := 8) (N := some 62) (v := ?_) (a' := ?_) #[true, true, true, true, true, false, true, true, true, false, false, false, false, false, false, false, false, false, false, false, false, false, false, false, false, false, false, false, false, false, false, false] rfl rfl (any_of HT_.out (by kernel_rfl)) (fun _ _ _ h => h) (Or.inl ⟨by rfl, ?_⟩) ?_ ?_
              rotate_left
              ·intro w'
               go_simp
               with_reducible rfl
              rotate_left
              ·simp only [Act.put, List.setIfInBounds_toArray, List.set_cons_zero, List.set_cons_succ, i64_w, i32_w]
               rfl
              refine pure_ (i := 9) (N := some 63) (v := ?_) (a' := ?_) #[true, true, true, true, true, false, true, true, true, true, false, false, false, false, false, false, false, false, false, false, false, false, false, false, false, false, false, false, false, false, false, false] rfl rfl (any_of HT_.out (by kernel_rfl)) (fun _ _ _ h => h) (Or.inl ⟨by rfl, ?_⟩) ?_ ?_
              rotate_left
              ·intro w'
               go_simp
               with_reducible rfl
              rotate_left
              ·simp only [Act.put, List.setIfInBounds_toArray, List.set_cons_zero, List.set_cons_succ, i64_w, i32_w]
               rfl
              refine pure_ (i := 12) (N := some 66) (v := ?_) (a' := ?_) #[true, true, true, true, true, false, true, true, true, true, false, false, true, false, false, false, false, false, false, false, false, false, false, false, false, false, false, false, false, false, false, false] rfl rfl (any_of HT_.out (by kernel_rfl)) (fun _ _ _ h => h) (Or.inl ⟨by rfl, ?_⟩) ?_ ?_
              rotate_left
              ·intro w'
               go_simp
               with_reducible rfl
              rotate_left
              ·simp only [Act.put, List.setIfInBounds_toArray, List.set_cons_zero, List.set_cons_succ, i64_w, i32_w]
               rfl
              refine pure_ (i := 13) (N := some 67) (v := ?_) (a' := ?_) #[true, true, true, true, true, false, true, true, true, true, false, false, true, true, false, false, false, false, false, false, false, false, false, false, false, false, false, false, false, false, false, false] rfl rfl (any_of HT_.out (by kernel_rfl)) (fun _ _ _ h => h) (Or.inl ⟨by rfl, ?_⟩) ?_ ?_
              rotate_left
              ·intro w'
               go_simp
               with_reducible rfl
              rotate_left
              ·simp only [Act.put, List.setIfInBounds_toArray, List.set_cons_zero, List.set_cons_succ, i64_w, i32_w]
               rfl
              refine pure_ (i := 14) (N := some 68) (v := ?_) (a' := ?_) #[true, true, true, true, true, false, true, true, true, true, false, false, true, true, true, false, false, false, false, false, false, false, false, false, false, false, false, false, false, false, false, false] rfl rfl (any_of HT_.out (by kernel_rfl)) (fun _ _ _ h => h) (Or.inl ⟨by rfl, ?_⟩) ?_ ?_
              rotate_left
              ·intro w'
               go_simp
               with_reducible rfl
              rotate_left
              ·simp only [Act.put, List.setIfInBounds_toArray, List.set_cons_zero, List.set_cons_succ, i64_w, i32_w]
               rfl
              refine pure_ (i := 15) (N := some 69) (v := ?_) (a' := ?_) #[true, true, true, true, true, false, true, true, true, true, false, false, true, true, true, true, false, false, false, false, false, false, false, false, false, false, false, false, false, false, false, false] rfl rfl (any_of HT_.out (by kernel_rfl)) (fun _ _ _ h => h) (Or.inl ⟨by rfl, ?_⟩) ?_ ?_
              rotate_left
              ·intro w'
               go_simp
               with_reducible rfl
              rotate_left
              ·simp only [Act.put, List.setIfInBounds_toArray, List.set_cons_zero, List.set_cons_succ, i64_w, i32_w]
               rfl
              refine pure_ (i := 16) (N := some 70) (v := ?_) (a' := ?_) #[true, true, true, true, true, false, true, true, true, true, false, false, true, true, true, true, true, false, false, false, false, false, false, false, false, false, false, false, false, false, false, false] rfl rfl (any_of HT_.out (by kernel_rfl)) (fun _ _ _ h => h) (Or.inl ⟨by rfl, ?_⟩) ?_ ?_
              rotate_left
              ·intro w'
               go_simp
               with_reducible rfl
              rotate_left
              ·simp only [Act.put, List.setIfInBounds_toArray, List.set_cons_zero, List.set_cons_succ, i64_w, i32_w]
               rfl
              refine pure_ (i := 18) (N := some 72) (v := ?_) (a' := ?_) #[true, true, true, true, true, false, true, true, true, true, false, false, true, true, true, true, true, false, true, false, false, false, false, false, false, false, false, false, false, false, false, false] rfl rfl (any_of HT_.out (by kernel_rfl)) (fun _ _ _ h => h) (Or.inl ⟨by rfl, ?_⟩) ?_ ?_
              rotate_left
              ·intro w'
               go_simp
               with_reducible rfl
              rotate_left
              ·simp only [Act.put, List.setIfInBounds_toArray, List.set_cons_zero, List.set_cons_succ, i64_w, i32_w]
               rfl
              refine pure_ (i := 19) (N := some 73) (v := ?_) (a' := ?_) #[true, true, true, true, true, false, true, true, true, true, false, false, true, true, true, true, true, false, true, true, false, false, false, false, false, false, false, false, false, false, false, false] rfl rfl (any_of HT_.out (by kernel_rfl)) (fun _ _ _ h => h) (Or.inl ⟨by rfl, ?_⟩) ?_ ?_
              rotate_left
              ·intro w'
               go_simp
               with_reducible rfl
              rotate_left
              ·simp only [Act.put, List.setIfInBounds_toArray, List.set_cons_zero, List.set_cons_succ, i64_w, i32_w]
               rfl
              refine pure_ (i := 20) (N := some 74) (v := ?_) (a' := ?_) #[true, true, true, true, true, false, true, true, true, true, false, false, true, true, true, true, true, false, true, true, true, false, false, false, false, false, false, false, false, false, false, false] rfl rfl (any_of HT_.out (by kernel_rfl)) (fun _ _ _ h => h) (Or.inl ⟨by rfl, ?_⟩) ?_ ?_
              rotate_left
              ·intro w'
               go_simp
               with_reducible rfl
              rotate_left
              ·simp only [Act.put, List.setIfInBounds_toArray, List.set_cons_zero, List.set_cons_succ, i64_w, i32_w]
               rfl
              refine pure_ (i := 21) (N := some 75) (v := ?_) (a' := ?_) #[true, true, true, true, true, false, true, true, true, true, false, false, true, true, true, true, true, false, true, true, true, true, false, false, false, false, false, false, false, false, false, false] rfl rfl (any_of HT_.out (by kernel_rfl)) (fun _ _ _ h => h) (Or.inl ⟨by rfl, ?_⟩) ?_ ?_
              rotate_left
              ·intro w'
               go_simp
               with_reducible rfl
              rotate_left
              ·simp only [Act.put, List.setIfInBounds_toArray, List.set_cons_zero, List.set_cons_succ, i64_w, i32_w]
               rfl
              refine take_ (i := 5) (N := some 59) (v := ?_) (a' := ?_) #[true, true, true, true, true, true, true, true, true, true, false, false, true, true, true, true, true, false, true, true, true, true, false, false, false, false, false, false, false, false, false, false] rfl rfl (take_ofW HT_.out HW_.out (by kernel_rfl)) (fun _ _ _ h => h) (Or.inl ⟨by rfl, ?_⟩) hHeld ?_ ?_
              rotate_left
              ·rintro w' ⟨s0, s1, s2, s3, s4, s5, s6, s7⟩
               go_simp
               with_reducible rfl
              rotate_left
              ·simp only [Act.put, List.setIfInBounds_toArray, List.set_cons_zero, List.set_cons_succ, i64_w, i32_w]
               rfl
              refine take_ (i := 10) (N := some 64) (v := ?_) (a' := ?_) #[true, true, true, true, true, true, true, true, true, true, true, false, true, true, true, true, true, false, true, true, true, true, false, false, false, false, false, false, false, false, false, false] rfl rfl (take_ofW HT_.out HW_.out (by kernel_rfl)) (fun _ _ _ h => h) (Or.inl ⟨by rfl, ?_⟩) hHeld ?_ ?_
              rotate_left
              ·rintro w' ⟨s0, s1, s2, s3, s4, s5, s6, s7⟩
               go_simp
               with_reducible rfl
              rotate_left
              ·simp only [Act.put, List.setIfInBounds_toArray, List.set_cons_zero, List.set_cons_succ, i64_w, i32_w]
               rfl
              refine take_ (i := 17) (N := some 71) (v := ?_) (a' := ?_) #[true, true, true, true, true, true, true, true, true, true, true, false, true, true, true, true, true, true, true, true, true, true, false, false, false, false, false, false, false, false, false, false] rfl rfl (take_ofW HT_.out HW_.out (by kernel_rfl)) (fun _ _ _ h => h) (Or.inl ⟨by rfl, ?_⟩) hHeld ?_ ?_
              rotate_left
              ·rintro w' ⟨s0, s1, s2, s3, s4, s5, s6, s7⟩
               go_simp
               with_reducible rfl
              rotate_left
              ·simp only [Act.put, List.setIfInBounds_toArray, List.set_cons_zero, List.set_cons_succ, i64_w, i32_w]
               rfl
              refine take_ (i := 22) (N := some 76) (v := ?_) (a' := ?_) #[true, true, true, true, true, true, true, true, true, true, true, false, true, true, true, true, true, true, true, true, true, true, true, false, false, false, false, false, false, false, false, false] rfl rfl (take_ofW HT_.out HW_.out (by kernel_rfl)) (fun _ _ _ h => h) (Or.inl ⟨by rfl, ?_⟩) hHeld ?_ ?_
              rotate_left
              ·rintro w' ⟨s0, s1, s2, s3, s4, s5, s6, s7⟩
               go_simp
               with_reducible rfl
              rotate_left
              ·simp only [Act.put, List.setIfInBounds_toArray, List.set_cons_zero, List.set_cons_succ, i64_w, i32_w]
               rfl
              refine one_ (i := 11) (N := some 65) #[true, true, true, true, true, true, true, true, true, true, true, true, true, true, true, true, true, true, true, true, true, true, true, false, false, false, false, false, false, false, false, false] rfl rfl (one_of HT_.out (by kernel_rfl)) (by decide) (fun K hK => ?_)
              refine goes_ Tryd.func9 (by kernel_rfl) rfl #[.pointer (some ⟨g219, 0, none⟩), .int .i64 ((rd_T36 l1 x9_2).f0), .int .i64 ((rd_T36 l1 x9_2).f1)] (by rfl) rfl rfl (by (try simp only [List.map_toArray, List.map_cons, List.map_nil]); first | done | rfl | (simp only [List.length_drop, List.length_take]; rfl)) ?_
              with_reducible refine (lossy_Lossy_Update.calls g219 x220000_2 x220001_2 x220002_2 x220003_2 x220004_2 ((rd_T36 l1 x9_2).f0) ((rd_T36 l1 x9_2).f1) t231 t232 t233 t234 t235 t236 w _ ?side1 ?side2 ?sideG A22.out).mono ?_
              (case sideG => first | exact HTB.out | exact GL.below HTB.out (by repeat (first | (with_reducible first | exact HB.out | apply below_alloc | apply pw_below_drewN | apply below_drew1) | exact HB.out)))
              (case side1 => repeat (first | (with_reducible first | exact HI219.out | apply IsS42.alloc | apply IsS42.drewN | apply IsS42.drew | apply IsS42.set_0 | apply IsS42.set_1 | apply IsS42.set_2 | apply IsS42.set_3 | apply IsS42.set_4 | refine IsS42.far ?_ NB219_213.out _) | exact HI219.out))
              (case side2 => repeat (first | (with_reducible first | exact HB.out | apply below_alloc | apply pw_below_drewN | apply below_drew1 | refine below_set ?_ (IsS42.ge HI219.out) | refine below_set ?_ (IsS49.ge HI226.out) | refine below_set ?_ GE213.out) | exact HB.out))
              rintro e w39 ⟨rfl, hi, hb, hk⟩
              refine ⟨_, rfl, ?_⟩
              have n0_ := Aside0.mk (KeepBut.blk hk (g' := gb213) (o := .cells #[.int .i64 a0_0, .int .i64 a0_1, .int .i64 a0_2] 23 (0, 0)) (by (with_reducible repeat (first | refine blk_drewN ?_ _ | refine blk_drew ?_ | refine blk_alloc ?_ _)); exact BK213.out) NB213_219.out (by simp))
              have n1_ := Aside0.mk (IsS49.keepS (by repeat (first | (with_reducible first | exact HI226.out | apply IsS49.alloc | apply IsS49.drewN | apply IsS49.drew | apply IsS49.set_0 | apply IsS49.set_1 | apply IsS49.set_2 | apply IsS49.set_3 | apply IsS49.set_4 | refine IsS49.far ?_ NB226_213.out _) | exact HI226.out)) hk NB226_219.out)
              have n2_ := Aside0.mk (hb)
              have n3_ := Aside0.mk (hi)
              clear BK213
              clear HI226
              clear HB
              clear HI219
              have BK213 := n0_
              have HI226 := n1_
              have HB := n2_
              have HI219 := n3_
              clear n0_ n1_ n2_ n3_
              (try clear hb)
              (try clear hb2)
              (try clear hk)
              (try clear hi)
              refine hK.out _ _ ⟨((HB.out.cell (World.block_lt_of_cell? w _ hw229_0)).trans hw229_0), ((HB.out.cell (World.block_lt_of_cell? w _ hw229_1)).trans hw229_1), ((HB.out.cell (World.block_lt_of_cell? w _ hw230_0)).trans hw230_0), ((HB.out.cell (World.block_lt_of_cell? w _ hw230_1)).trans hw230_1), ((HB.out.cell (World.block_lt_of_cell? w _ hw237_0)).trans hw237_0), ((HB.out.cell (World.block_lt_of_cell? w _ hw237_1)).trans hw237_1), ((HB.out.cell (World.block_lt_of_cell? w _ hw238_0)).trans hw238_0), ((HB.out.cell (World.block_lt_of_cell? w _ hw238_1)).trans hw238_1)⟩ (fun hHeld => ?_)
              clear hK K
              refine norm_ (a' := ?_) ?_ ?_
              rotate_left
              ·show Act.put _ (some 65) _ = _
               simp only [Act.put, List.setIfInBounds_toArray, List.set_cons_zero, List.set_cons_succ, i64_w, i32_w]
               rfl
              refine one_ (i := 23) (N := some 77) #[true, true, true, true, true, true, true, true, true, true, true, true, true, true, true, true, true, true, true, true, true, true, true, true, false, false, false, false, false, false, false, false] rfl rfl (one_of HT_.out (by kernel_rfl)) (by decide) (fun K hK => ?_)
              refine goes_ Tryd.func11 (by kernel_rfl) rfl #[.pointer (some ⟨g226, 0, none⟩), .int .i64 ((rd_T36 l1 x9_2).f0), .int .i64 ((rd_T36 l1 x9_2).f1)] (by rfl) rfl rfl (by (try simp only [List.map_toArray, List.map_cons, List.map_nil]); first | done | rfl | (simp only [List.length_drop, List.length_take]; rfl)) ?_
              with_reducible refine (flywheelref20_Lossy_Update.calls kj15 g226 x227000_2 x227001_2 x227002_2 x227003_2 x227004_2 ((rd_T36 l1 x9_2).f0) ((rd_T36 l1 x9_2).f1) t239 t240 t241 t242 t243 t244 w _ ?side1 ?side2 A23.out).mono ?_
              (case side1 => repeat (first | (with_reducible first | exact HI226.out | apply IsS49.alloc | apply IsS49.drewN | apply IsS49.drew | apply IsS49.set_0 | apply IsS49.set_1 | apply IsS49.set_2 | apply IsS49.set_3 | apply IsS49.set_4 | refine IsS49.far ?_ NB226_213.out _) | exact HI226.out))
              (case side2 => repeat (first | (with_reducible first | exact HB.out | apply below_alloc | apply pw_below_drewN | apply below_drew1 | refine below_set ?_ (IsS42.ge HI219.out) | refine below_set ?_ (IsS49.ge HI226.out) | refine below_set ?_ GE213.out) | exact HB.out))
              rintro e w40 ⟨rfl, hi, hb, hk⟩
              refine ⟨_, rfl, ?_⟩
              have n0_ := Aside0.mk (KeepBut.blk hk (g' := gb213) (o := .cells #[.int .i64 a0_0, .int .i64 a0_1, .int .i64 a0_2] 23 (0, 0)) (by (with_reducible repeat (first | refine blk_drewN ?_ _ | refine blk_drew ?_ | refine blk_alloc ?_ _)); exact BK213.out) NB213_226.out (by simp))
              have n1_ := Aside0.mk (IsS42.keepS (by repeat (first | (with_reducible first | exact HI219.out | apply IsS42.alloc | apply IsS42.drewN | apply IsS42.drew | apply IsS42.set_0 | apply IsS42.set_1 | apply IsS42.set_2 | apply IsS42.set_3 | apply IsS42.set_4 | refine IsS42.far ?_ NB219_213.out _) | exact HI219.out)) hk NB219_226.out)
              have n2_ := Aside0.mk (hb)
              have n3_ := Aside0.mk (hi)
              clear BK213
              clear HI219
              clear HB
              clear HI226
              have BK213 := n0_
              have HI219 := n1_
              have HB := n2_
              have HI226 := n3_
              clear n0_ n1_ n2_ n3_
              (try clear hb)
              (try clear hb2)
              (try clear hk)
              (try clear hi)
              refine hK.out _ _ ⟨((HB.out.cell (World.block_lt_of_cell? w _ hw229_0)).trans hw229_0), ((HB.out.cell (World.block_lt_of_cell? w _ hw229_1)).trans hw229_1), ((HB.out.cell (World.block_lt_of_cell? w _ hw230_0)).trans hw230_0), ((HB.out.cell (World.block_lt_of_cell? w _ hw230_1)).trans hw230_1), ((HB.out.cell (World.block_lt_of_cell? w _ hw237_0)).trans hw237_0), ((HB.out.cell (World.block_lt_of_cell? w _ hw237_1)).trans hw237_1), ((HB.out.cell (World.block_lt_of_cell? w _ hw238_0)).trans hw238_0), ((HB.out.cell (World.block_lt_of_cell? w _ hw238_1)).trans hw238_1)⟩ (fun hHeld => ?_)
              clear hK K
              refine norm_ (a' := ?_) ?_ ?_
              rotate_left
              ·show Act.put _ (some 77) _ = _
               simp only [Act.put, List.setIfInBounds_toArray, List.set_cons_zero, List.set_cons_succ, i64_w, i32_w]
               rfl
              refine pure_ (i := 24) (N := some 78) (v := ?_) (a' := ?_) #[true, true, true, true, true, true, true, true, true, true, true, true, true, true, true, true, true, true, true, true, true, true, true, true, true, false, false, false, false, false, false, false] rfl rfl (any_of HT_.out (by kernel_rfl)) (fun _ _ _ h => h) (Or.inl ⟨by rfl, ?_⟩) ?_ ?_
              rotate_left
              ·intro w'
               go_simp
               with_reducible rfl
              rotate_left
              ·simp only [Act.put, List.setIfInBounds_toArray, List.set_cons_zero, List.set_cons_succ, i64_w, i32_w]
               rfl
              refine pure_ (i := 25) (N := some 79) (v := ?_) (a' := ?_) #[true, true, true, true, true, true, true, true, true, true, true, true, true, true, true, true, true, true, true, true, true, true, true, true, true, true, false, false, false, false, false, false] rfl rfl (any_of HT_.out (by kernel_rfl)) (fun _ _ _ h => h) (Or.inl ⟨by rfl, ?_⟩) ?_ ?_
              rotate_left
              ·intro w'
               go_simp
               with_reducible rfl
              rotate_left
              ·simp only [Act.put, List.setIfInBounds_toArray, List.set_cons_zero, List.set_cons_succ, i64_w, i32_w]
               rfl
              refine pure_ (i := 26) (N := some 80) (v := undef) (a' := ?_) #[true, true, true, true, true, true, true, true, true, true, true, true, true, true, true, true, true, true, true, true, true, true, true, true, true, true, true, false, false, false, false, false] rfl rfl (any_of HT_.out (by kernel_rfl)) (fun _ _ _ h => h) (Or.inr ⟨by rfl, rfl⟩) ?_ ?_
              rotate_left
              ·simp only [Act.put, List.setIfInBounds_toArray, List.set_cons_zero, List.set_cons_succ, i64_w, i32_w]
               rfl
              refine pure_ (i := 27) (N := some 81) (v := undef) (a' := ?_) #[true, true, true, true, true, true, true, true, true, true, true, true, true, true, true, true, true, true, true, true, true, true, true, true, true, true, true, true, false, false, false, false] rfl rfl (any_of HT_.out (by kernel_rfl)) (fun _ _ _ h => h) (Or.inr ⟨by rfl, rfl⟩) ?_ ?_
              rotate_left
              ·simp only [Act.put, List.setIfInBounds_toArray, List.set_cons_zero, List.set_cons_succ, i64_w, i32_w]
               rfl
              refine pure_ (i := 28) (N := some 82) (v := undef) (a' := ?_) #[true, true, true, true, true, true, true, true, true, true, true, true, true, true, true, true, true, true, true, true, true, true, true, true, true, true, true, true, true, false, false, false] rfl rfl (any_of HT_.out (by kernel_rfl)) (fun _ _ _ h => h) (Or.inr ⟨by rfl, rfl⟩) ?_ ?_
              rotate_left
              ·simp only [Act.put, List.setIfInBounds_toArray, List.set_cons_zero, List.set_cons_succ, i64_w, i32_w]
               rfl
              refine pure_ (i := 29) (N := some 83) (v := undef) (a' := ?_) #[true, true, true, true, true, true, true, true, true, true, true, true, true, true, true, true, true, true, true, true, true, true, true, true, true, true, true, true, true, true, false, false] rfl rfl (any_of HT_.out (by kernel_rfl)) (fun _ _ _ h => h) (Or.inr ⟨by rfl, rfl⟩) ?_ ?_
              rotate_left
              ·simp only [Act.put, List.setIfInBounds_toArray, List.set_cons_zero, List.set_cons_succ, i64_w, i32_w]
               rfl
              refine pure_ (i := 30) (N := some 84) (v := undef) (a' := ?_) #[true, true, true, true, true, true, true, true, true, true, true, true, true, true, true, true, true, true, true, true, true, true, true, true, true, true, true, true, true, true, true, false] rfl rfl (any_of HT_.out (by kernel_rfl)) (fun _ _ _ h => h) (Or.inr ⟨by rfl, rfl⟩) ?_ ?_
              rotate_left
              ·simp only [Act.put, List.setIfInBounds_toArray, List.set_cons_zero, List.set_cons_succ, i64_w, i32_w]
               rfl
              refine pure_ (i := 31) (N := some 85) (v := ?_) (a' := ?_) #[true, true, true, true, true, true, true, true, true, true, true, true, true, true, true, true, true, true, true, true, true, true, true, true, true, true, true, true, true, true, true, true] rfl rfl (any_of HT_.out (by kernel_rfl)) (fun _ _ _ h => h) (Or.inl ⟨by rfl, ?_⟩) ?_ ?_
              rotate_left
              ·intro w'
               go_simp
               with_reducible rfl
              rotate_left
              ·simp only [Act.put, List.setIfInBounds_toArray, List.set_cons_zero, List.set_cons_succ, i64_w, i32_w]
               rfl
              refine done_ (done_of HT_.out (by kernel_rfl)) ?_
              try go_wp2
              go_ret
              exact ⟨by first | rfl | (simp [errW_none, errW_some] <;> rfl) | (simp [*, errW_none, errW_some] <;> rfl), by repeat (first | (with_reducible first | exact HB.out | apply below_alloc | apply pw_below_drewN | apply below_drew1 | refine below_set ?_ (IsS42.ge HI219.out) | refine below_set ?_ (IsS49.ge HI226.out) | refine below_set ?_ GE213.out) | exact HB.out)⟩
            ·rw [if_neg c21] at H
             exact absurd H (by simp)
           ·rw [if_neg c20] at H
            exact absurd H (by simp)
          ·replace c19 := Bool.eq_false_iff.mpr c19
           subst c19
           have H1 : ((flywheellaw20_wakes.f).bind fun t228 => (some t228)) = some r := by rw [if_neg (show ¬ (false = true) by decide)] at H; exact H
           clear H
           have H := H1
           clear H1
           replace H := Option.bind_eq_some_iff.mp H
           obtain ⟨t228, A410, H⟩ := H
           replace H : (some t228) = some r := H
           have A41 := Aside0.mk A410
           clear A410
           obtain rfl := Option.some.inj H
           go_wp2_with (first | ((with_reducible refine gate_callee (f := 8) rfl ?_); refine goesL_ (some 86) rfl rfl Tryd.func8 (by kernel_rfl) rfl #[] rfl (by (try simp only [List.map_toArray, List.map_cons, List.map_nil]); first | done | rfl | (simp only [List.length_drop, List.length_take]; rfl)) ?_; (with_reducible refine (flywheellaw20_wakes.calls  t228 _ ?sideG A41.out).mono ?_); (case sideG => first | exact HTB.out | exact GL.below HTB.out (by repeat (first | (with_reducible first | exact HB.out | apply below_alloc | apply pw_below_drewN | apply below_drew1 | refine below_set ?_ (IsS42.ge HI219.out) | refine below_set ?_ (IsS49.ge HI226.out) | refine below_set ?_ GE213.out) | exact HB.out))); rintro e w42 ⟨rfl, hb⟩; refine ⟨_, rfl, ?_⟩; have n0_ := Aside0.mk (blk_below (g := gb213) (o := .cells #[.int .i64 a0_0, .int .i64 a0_1, .int .i64 a0_2] 23 (0, 0)) (by (with_reducible repeat (first | refine blk_drewN ?_ _ | refine blk_drew ?_ | refine blk_alloc ?_ _)); exact BK213.out) hb); have n1_ := Aside0.mk (IsS42.below (by repeat (first | (with_reducible first | exact HI219.out | apply IsS42.alloc | apply IsS42.drewN | apply IsS42.drew | apply IsS42.set_0 | apply IsS42.set_1 | apply IsS42.set_2 | apply IsS42.set_3 | apply IsS42.set_4 | refine IsS42.far ?_ NB219_213.out _) | exact HI219.out)) hb); have n2_ := Aside0.mk (IsS49.below (by repeat (first | (with_reducible first | exact HI226.out | apply IsS49.alloc | apply IsS49.drewN | apply IsS49.drew | apply IsS49.set_0 | apply IsS49.set_1 | apply IsS49.set_2 | apply IsS49.set_3 | apply IsS49.set_4 | refine IsS49.far ?_ NB226_213.out _) | exact HI226.out)) hb); have n3_ := Aside0.mk (below_step (by repeat (first | (with_reducible first | exact HB.out | apply below_alloc | apply pw_below_drewN | apply below_drew1 | refine below_set ?_ (IsS42.ge HI219.out) | refine below_set ?_ (IsS49.ge HI226.out) | refine below_set ?_ GE213.out) | exact HB.out)) hb); clear BK213; clear HI219; clear HI226; clear HB; have BK213 := n0_; have HI219 := n1_; have HI226 := n2_; have HB := n3_; clear n0_ n1_ n2_ n3_; (try clear hb); (try clear hb2); (try clear hk); (try clear hi)))
           go_ret
           exact ⟨by first | rfl | (simp [errW_none, errW_some] <;> rfl) | (simp [*, errW_none, errW_some] <;> rfl), by repeat (first | (with_reducible first | exact HB.out | apply below_alloc | apply pw_below_drewN | apply below_drew1 | refine below_set ?_ (IsS42.ge HI219.out) | refine below_set ?_ (IsS49.ge HI226.out) | refine below_set ?_ GE213.out) | exact HB.out)⟩
  ·rw [if_neg c5] at H
   have c5b0 : (flywheelref20_New.made.f a0_0 a0_1 a0_2).isSome = false := by simpa using c5
   clear c5
   replace H := Option.bind_eq_some_iff.mp H
   obtain ⟨t257, A430, H⟩ := H
   replace H : (if t220 = t257 then (flywheellaw20_LossyPlays.j3 k l1 true t214 t215 t216 t217 t218) else (flywheellaw20_LossyPlays.j3 k l1 true t214 t215 t216 t217 t218)) = some r := H
   have A43 := Aside0.mk A430
   clear A430
   have HC44 := Aside0.mk H
   clear H
   go_enter Tryd.func4, Tryd.ntmps4
   go_upto_region 3 with (first | ((with_reducible refine gate_dst (N := 2) rfl ?_); refine box_event ?hg (N := 2) ?hd (cs := #[.int .i64 a0_0, .int .i64 a0_1, .int .i64 a0_2]) (t := 23) ?hr ?_; (case hd => rfl); (case hg => rfl); (case hr => first | (go_simp; done) | (go_simp; rfl)); intro gb213 hg w45 hbox hb; have n0_ := Aside0.mk (below_step (by repeat (first | (with_reducible first | exact HB.out | apply below_alloc | apply pw_below_drewN | apply below_drew1) | exact HB.out)) hb); have n1_ := Aside0.mk (hbox); have n2_ := Aside0.mk ((by rw [hg]; exact (below_size (by repeat (first | (with_reducible first | exact HB.out | apply below_alloc | apply pw_below_drewN | apply below_drew1) | exact HB.out))) : w.heap.size ≤ gb213)); have n3_ := Aside0.mk ((by rw [hg]; exact (below_size (by repeat (first | (with_reducible first | exact HB.out | apply below_alloc | apply pw_below_drewN | apply below_drew1) | exact HB.out))) : w.heap.size ≤ gb213)); clear HB; have HB := n0_; have BK213 := n1_; have GW213 := n2_; have GE213 := n3_; clear n0_ n1_ n2_ n3_; clear hb hbox hg; have hcz46_0 : w45.cell? ⟨gb213, 0, none⟩ = some (.int .i64 a0_0) := (blk_cell BK213.out 0).trans rfl; have hcz46_1 : w45.cell? ⟨gb213, 1, none⟩ = some (.int .i64 a0_1) := (blk_cell BK213.out 1).trans rfl; have hcz46_2 : w45.cell? ⟨gb213, 2, none⟩ = some (.int .i64 a0_2) := (blk_cell BK213.out 2).trans rfl; have hfz46_0 := blk_frozen BK213.out 0; have hfz46_1 := blk_frozen BK213.out 1; have hfz46_2 := blk_frozen BK213.out 2) | ((with_reducible refine gate_callee (f := 7) rfl ?_); refine goesL_ (some 17) rfl rfl Tryd.func7 (by kernel_rfl) rfl #[.int .i64 a0_0, .int .i64 a0_1, .int .i64 a0_2] rfl (by (try simp only [List.map_toArray, List.map_cons, List.map_nil]); first | done | rfl | (simp only [List.length_drop, List.length_take]; rfl)) ?_; (with_reducible refine (lossy_New.made.calls a0_0 a0_1 a0_2 t214 t215 t216 t217 t218 t220 _ _ (Below.refl _ _) A4.out).mono ?_); rintro e w47 ⟨g219, rfl, hi, hb, hb2⟩; refine ⟨_, rfl, ?_⟩; have n0_ := Aside0.mk (blk_below (g := gb213) (o := .cells #[.int .i64 a0_0, .int .i64 a0_1, .int .i64 a0_2] 23 (0, 0)) (by (with_reducible repeat (first | refine blk_drewN ?_ _ | refine blk_drew ?_ | refine blk_alloc ?_ _)); exact BK213.out) hb2); have n1_ := Aside0.mk (below_step (by repeat (first | (with_reducible first | exact HB.out | apply below_alloc | apply pw_below_drewN | apply below_drew1 | refine below_set ?_ GE213.out) | exact HB.out)) hb2); have n2_ := Aside0.mk ((IsS42.rebase hi (below_size (by repeat (first | (with_reducible first | exact HB.out | apply below_alloc | apply pw_below_drewN | apply below_drew1 | refine below_set ?_ GE213.out) | exact HB.out))))); have n3_ := Aside0.mk (IsS42.ne_blk hi (blk_below (g := gb213) (o := .cells #[.int .i64 a0_0, .int .i64 a0_1, .int .i64 a0_2] 23 (0, 0)) (by (with_reducible repeat (first | refine blk_drewN ?_ _ | refine blk_drew ?_ | refine blk_alloc ?_ _)); exact BK213.out) hb2) (by decide)); have n4_ := Aside0.mk (Ne.symm (IsS42.ne_blk hi (blk_below (g := gb213) (o := .cells #[.int .i64 a0_0, .int .i64 a0_1, .int .i64 a0_2] 23 (0, 0)) (by (with_reducible repeat (first | refine blk_drewN ?_ _ | refine blk_drew ?_ | refine blk_alloc ?_ _)); exact BK213.out) hb2) (by decide))); clear BK213; clear HB; have BK213 := n0_; have HB := n1_; have HI219 := n2_; have NB219_213 := n3_; have NB213_219 := n4_; clear n0_ n1_ n2_ n3_ n4_; (try clear hb); (try clear hb2); (try clear hk); (try clear hi); have hnb48 := NB213_219.out; have hnc48 := NB219_213.out; have hcz49_0 : w47.cell? ⟨gb213, 0, none⟩ = some (.int .i64 a0_0) := (blk_cell BK213.out 0).trans rfl; have hcz49_1 : w47.cell? ⟨gb213, 1, none⟩ = some (.int .i64 a0_1) := (blk_cell BK213.out 1).trans rfl; have hcz49_2 : w47.cell? ⟨gb213, 2, none⟩ = some (.int .i64 a0_2) := (blk_cell BK213.out 2).trans rfl; have hfz49_0 := blk_frozen BK213.out 0; have hfz49_1 := blk_frozen BK213.out 1; have hfz49_2 := blk_frozen BK213.out 2) | ((with_reducible refine gate_callee (f := 10) rfl ?_); refine goesL_ (some 27) rfl rfl Tryd.func10 (by kernel_rfl) rfl #[.int .i64 a0_0, .int .i64 a0_1, .int .i64 a0_2] rfl (by (try simp only [List.map_toArray, List.map_cons, List.map_nil]); first | done | rfl | (simp only [List.length_drop, List.length_take]; rfl)) ?_; (with_reducible refine (flywheelref20_New.nil.calls a0_0 a0_1 a0_2 t257 _ A43.out).mono ?_); rintro e w50 ⟨rfl, hb⟩; refine ⟨_, rfl, ?_⟩; have n0_ := Aside0.mk (blk_below (g := gb213) (o := .cells #[.int .i64 a0_0, .int .i64 a0_1, .int .i64 a0_2] 23 (0, 0)) (by (with_reducible repeat (first | refine blk_drewN ?_ _ | refine blk_drew ?_ | refine blk_alloc ?_ _)); exact BK213.out) hb); have n1_ := Aside0.mk (IsS42.below (by repeat (first | (with_reducible first | exact HI219.out | apply IsS42.alloc | apply IsS42.drewN | apply IsS42.drew | apply IsS42.set_0 | apply IsS42.set_1 | apply IsS42.set_2 | apply IsS42.set_3 | apply IsS42.set_4 | refine IsS42.far ?_ NB219_213.out _) | exact HI219.out)) hb); have n2_ := Aside0.mk (below_step (by repeat (first | (with_reducible first | exact HB.out | apply below_alloc | apply pw_below_drewN | apply below_drew1 | refine below_set ?_ (IsS42.ge HI219.out) | refine below_set ?_ GE213.out) | exact HB.out)) hb); clear BK213; clear HI219; clear HB; have BK213 := n0_; have HI219 := n1_; have HB := n2_; clear n0_ n1_ n2_; (try clear hb); (try clear hb2); (try clear hk); (try clear hi)))
   (try simp only [Act.put, List.setIfInBounds_toArray, List.set_cons_zero, List.set_cons_succ])
   go_cut [39] (fun v39 wc => ∃ (kq : Nat) (x39_43 : Bool), v39 = .bool x39_43 ∧ Aside0 (flywheellaw20_LossyPlays.j3 kq l1 x39_43 t214 t215 t216 t217 t218 = some r) ∧ Aside0 (kq ≤ k) ∧ Aside0 (wc.heap[gb213]? = some (.cells #[.int .i64 a0_0, .int .i64 a0_1, .int .i64 a0_2] 23 (0, 0))) ∧ Aside0 (IsS42 w wc g219 t214 t215 t216 t217 t218) ∧ Aside0 (Below w.heap.size w wc))
   case first =>
    have H := HC44.out
    clear HC44
    by_cases c51 : t220 = t257
    ·rw [if_pos c51] at H
     have c51b0 : (t220 == t257) = true := beq_iff_eq.mpr c51
     have c51b1 : (t220 != t257) = false := bne_eq_false_iff_eq.mpr c51
     clear c51
     (first | rw [c51b0] | (simp only [i64_w, i32_w]; rw [c51b0]) | skip)
     have H' := Aside0.mk H
     clear H
     go_wp2
     go_meet
     case rel => exact ⟨_, (true), (by first | rfl | (simp; done) | (simp [*]; done)), H', ⟨by first | omega | exact Nat.le_refl _⟩, ⟨by (with_reducible repeat (first | refine blk_drewN ?_ _ | refine blk_drew ?_ | refine blk_alloc ?_ _)); exact BK213.out⟩, ⟨by repeat (first | (with_reducible first | exact HI219.out | apply IsS42.alloc | apply IsS42.drewN | apply IsS42.drew | apply IsS42.set_0 | apply IsS42.set_1 | apply IsS42.set_2 | apply IsS42.set_3 | apply IsS42.set_4 | refine IsS42.far ?_ NB219_213.out _) | exact HI219.out)⟩, ⟨by repeat (first | (with_reducible first | exact HB.out | apply below_alloc | apply pw_below_drewN | apply below_drew1 | refine below_set ?_ (IsS42.ge HI219.out) | refine below_set ?_ GE213.out) | exact HB.out)⟩⟩
    ·rw [if_neg c51] at H
     have c51b0 : (t220 == t257) = false := beq_eq_false_iff_ne.mpr c51
     have c51b1 : (t220 != t257) = true := bne_iff_ne.mpr c51
     (first | rw [c51b0] | (simp only [i64_w, i32_w]; rw [c51b0]) | skip)
     have H' := Aside0.mk H
     clear H
     go_wp2
     go_meet
     case rel => exact ⟨_, (true), (by first | rfl | (simp; done) | (simp [*]; done)), H', ⟨by first | omega | exact Nat.le_refl _⟩, ⟨by (with_reducible repeat (first | refine blk_drewN ?_ _ | refine blk_drew ?_ | refine blk_alloc ?_ _)); exact BK213.out⟩, ⟨by repeat (first | (with_reducible first | exact HI219.out | apply IsS42.alloc | apply IsS42.drewN | apply IsS42.drew | apply IsS42.set_0 | apply IsS42.set_1 | apply IsS42.set_2 | apply IsS42.set_3 | apply IsS42.set_4 | refine IsS42.far ?_ NB219_213.out _) | exact HI219.out)⟩, ⟨by repeat (first | (with_reducible first | exact HB.out | apply below_alloc | apply pw_below_drewN | apply below_drew1 | refine below_set ?_ (IsS42.ge HI219.out) | refine below_set ?_ GE213.out) | exact HB.out)⟩⟩
   case rest =>
    clear HC44
    try clear c1
    try clear c2
    try clear p2
    try clear q2
    try clear hx2
    try clear c4
    try clear c5
    try clear c5b0
    try clear c7
    try clear c8
    try clear c9
    try clear c10
    try clear c11
    try clear c12
    try clear c13
    try clear c19
    try clear c20
    try clear c21
    try clear p22
    try clear q22
    try clear hx22
    try clear p23
    try clear q23
    try clear hx23
    try clear c24
    try clear c24b0
    try clear c24b1
    try clear c48
    try clear c51
    try clear c51b0
    try clear c51b1
    try clear hcz46_0
    try clear hcz46_1
    try clear hcz46_2
    try clear hcz49_0
    try clear hcz49_1
    try clear hcz49_2
    try clear hfz46_0
    try clear hfz46_1
    try clear hfz46_2
    try clear hfz49_0
    try clear hfz49_1
    try clear hfz49_2
    try clear hx229_0
    try clear hx229_1
    try clear hx230_0
    try clear hx230_1
    try clear hx237_0
    try clear hx237_1
    try clear hx238_0
    try clear hx238_1
    try clear p229
    try clear p230
    try clear p237
    try clear p238
    try clear q229
    try clear q230
    try clear q237
    try clear q238
    obtain ⟨kq, x39_43, rfl, HA, HJ43, BK213, HI219, HB⟩ := hcut
    cases kq with
    | zero => exact absurd HA.out (by simp [flywheellaw20_LossyPlays.j3])
    | succ kj43 =>
     have H := HA.out
     clear HA
     simp only [flywheellaw20_LossyPlays.j3] at H
     by_cases c52 : x39_43 = true
     ·subst c52
      have H1 : (some false) = some r := by rw [if_pos rfl] at H; exact H
      clear H
      have H := H1
      clear H1
      obtain rfl := Option.some.inj H
      go_wp2
      go_ret
      exact ⟨by first | rfl | (simp [errW_none, errW_some] <;> rfl) | (simp [*, errW_none, errW_some] <;> rfl), by repeat (first | (with_reducible first | exact HB.out | apply below_alloc | apply pw_below_drewN | apply below_drew1 | refine below_set ?_ (IsS42.ge HI219.out) | refine below_set ?_ GE213.out) | exact HB.out)⟩
     ·replace c52 := Bool.eq_false_iff.mpr c52
      subst c52
      have H1 : (flywheellaw20_LossyPlays.l5000 kj43 l1 0 t214 t215 t216 t217 t218) = some r := by rw [if_neg (show ¬ (false = true) by decide)] at H; exact H
      clear H
      have H := H1
      clear H1
      have H' := Aside0.mk H
      clear H
      go_wp2
      go_loopg [9] kj43 (fun kq v9 w' => ∃ (x9_2 : Int) (x220000_2 : Int) (x220001_2 : Int) (x220002_2 : Int) (x220003_2 : Bool) (x220004_2 : Int), v9 = .int .i64 x9_2 ∧ Aside0 (flywheellaw20_LossyPlays.l5000 kq l1 x9_2 x220000_2 x220001_2 x220002_2 x220003_2 x220004_2 = some r) ∧ Aside0 (kq ≤ kj43) ∧ Aside0 (w'.heap[gb213]? = some (.cells #[.int .i64 a0_0, .int .i64 a0_1, .int .i64 a0_2] 23 (0, 0))) ∧ Aside0 (IsS42 w w' g219 x220000_2 x220001_2 x220002_2 x220003_2 x220004_2) ∧ Aside0 (Below w.heap.size w w'))
      case atStart => exact ⟨(0), (t214), (t215), (t216), (t217), (t218), (by first | rfl | (simp; done) | (simp [*]; done)), H', ⟨Nat.le_refl _⟩, ⟨by (with_reducible repeat (first | refine blk_drewN ?_ _ | refine blk_drew ?_ | refine blk_alloc ?_ _)); exact BK213.out⟩, ⟨by repeat (first | (with_reducible first | exact HI219.out | apply IsS42.alloc | apply IsS42.drewN | apply IsS42.drew | apply IsS42.set_0 | apply IsS42.set_1 | apply IsS42.set_2 | apply IsS42.set_3 | apply IsS42.set_4 | refine IsS42.far ?_ NB219_213.out _) | exact HI219.out)⟩, ⟨by repeat (first | (with_reducible first | exact HB.out | apply below_alloc | apply pw_below_drewN | apply below_drew1 | refine below_set ?_ (IsS42.ge HI219.out) | refine below_set ?_ GE213.out) | exact HB.out)⟩⟩
      case round =>
       clear H'
       try clear c1
       try clear c2
       try clear p2
       try clear q2
       try clear hx2
       try clear c4
       try clear c5
       try clear c5b0
       try clear c7
       try clear c8
       try clear c9
       try clear c10
       try clear c11
       try clear c12
       try clear c13
       try clear c19
       try clear c20
       try clear c21
       try clear p22
       try clear q22
       try clear hx22
       try clear p23
       try clear q23
       try clear hx23
       try clear c24
       try clear c24b0
       try clear c24b1
       try clear c48
       try clear c51
       try clear c51b0
       try clear c51b1
       try clear c52
       try clear hcz46_0
       try clear hcz46_1
       try clear hcz46_2
       try clear hcz49_0
       try clear hcz49_1
       try clear hcz49_2
       try clear hfz46_0
       try clear hfz46_1
       try clear hfz46_2
       try clear hfz49_0
       try clear hfz49_1
       try clear hfz49_2
       try clear hx229_0
       try clear hx229_1
       try clear hx230_0
       try clear hx230_1
       try clear hx237_0
       try clear hx237_1
       try clear hx238_0
       try clear hx238_1
       try clear p2
       try clear p22
       try clear p229
       try clear p23
       try clear p230
       try clear p237
       try clear p238
       try clear q2
       try clear q22
       try clear q229
       try clear q23
       try clear q230
       try clear q237
       try clear q238
       obtain ⟨x9_2, x220000_2, x220001_2, x220002_2, x220003_2, x220004_2, rfl, HA, HK2, BK213, HI219, HB⟩ := hrel
       cases gk with
       | zero => exact absurd HA.out (by simp [flywheellaw20_LossyPlays.l5000])
       | succ k2 =>
        have H := HA.out
        clear HA
        simp only [flywheellaw20_LossyPlays.l5000] at H
        have HC53 := Aside0.mk H
        clear H
        go_upto_region 6 with (fail)
        go_cut [51] (fun v51 wc => ∃ (kq : Nat) (x51_52 : Bool), v51 = .bool x51_52 ∧ Aside0 (flywheellaw20_LossyPlays.j5 kq l1 x9_2 x51_52 x220000_2 x220001_2 x220002_2 x220003_2 x220004_2 = some r) ∧ Aside0 (kq ≤ k2) ∧ Aside0 (wc.heap[gb213]? = some (.cells #[.int .i64 a0_0, .int .i64 a0_1, .int .i64 a0_2] 23 (0, 0))) ∧ Aside0 (IsS42 w wc g219 x220000_2 x220001_2 x220002_2 x220003_2 x220004_2) ∧ Aside0 (Below w.heap.size w wc))
        case first =>
         have H := HC53.out
         clear HC53
         by_cases c54 : x9_2 < (l1.length : Int)
         ·rw [if_pos c54] at H
          have c54b0 : decide (x9_2 < (l1.length : Int)) = true := decide_eq_true c54
          clear c54
          (first | rw [c54b0] | (simp only [i64_w, i32_w]; rw [c54b0]) | skip)
          by_cases c55 : x9_2 < 300
          ·rw [if_pos c55] at H
           have c55b0 : decide (x9_2 < 300) = true := decide_eq_true c55
           clear c55
           have H' := Aside0.mk H
           clear H
           go_wp2
           go_meet
           case rel => exact ⟨_, (false), (by first | rfl | (simp; done) | (simp [*]; done)), H', ⟨by have := HJ43.out; have := HK2.out; first | omega | exact Nat.le_refl _⟩, ⟨by (with_reducible repeat (first | refine blk_drewN ?_ _ | refine blk_drew ?_ | refine blk_alloc ?_ _)); exact BK213.out⟩, ⟨by repeat (first | (with_reducible first | exact HI219.out | apply IsS42.alloc | apply IsS42.drewN | apply IsS42.drew | apply IsS42.set_0 | apply IsS42.set_1 | apply IsS42.set_2 | apply IsS42.set_3 | apply IsS42.set_4 | refine IsS42.far ?_ NB219_213.out _) | exact HI219.out)⟩, ⟨by repeat (first | (with_reducible first | exact HB.out | apply below_alloc | apply pw_below_drewN | apply below_drew1 | refine below_set ?_ (IsS42.ge HI219.out) | refine below_set ?_ GE213.out) | exact HB.out)⟩⟩
          ·rw [if_neg c55] at H
           have c55b0 : decide (x9_2 < 300) = false := decide_eq_false c55
           clear c55
           have H' := Aside0.mk H
           clear H
           go_wp2
           go_meet
           case rel => exact ⟨_, (false), (by first | rfl | (simp; done) | (simp [*]; done)), H', ⟨by have := HJ43.out; have := HK2.out; first | omega | exact Nat.le_refl _⟩, ⟨by (with_reducible repeat (first | refine blk_drewN ?_ _ | refine blk_drew ?_ | refine blk_alloc ?_ _)); exact BK213.out⟩, ⟨by repeat (first | (with_reducible first | exact HI219.out | apply IsS42.alloc | apply IsS42.drewN | apply IsS42.drew | apply IsS42.set_0 | apply IsS42.set_1 | apply IsS42.set_2 | apply IsS42.set_3 | apply IsS42.set_4 | refine IsS42.far ?_ NB219_213.out _) | exact HI219.out)⟩, ⟨by repeat (first | (with_reducible first | exact HB.out | apply below_alloc | apply pw_below_drewN | apply below_drew1 | refine below_set ?_ (IsS42.ge HI219.out) | refine below_set ?_ GE213.out) | exact HB.out)⟩⟩
         ·rw [if_neg c54] at H
          have c54b0 : decide (x9_2 < (l1.length : Int)) = false := decide_eq_false c54
          clear c54
          (first | rw [c54b0] | (simp only [i64_w, i32_w]; rw [c54b0]) | skip)
          have H' := Aside0.mk H
          clear H
          go_wp2
          go_meet
          case rel => exact ⟨_, (false), (by first | rfl | (simp; done) | (simp [*]; done)), H', ⟨by have := HJ43.out; have := HK2.out; first | omega | exact Nat.le_refl _⟩, ⟨by (with_reducible repeat (first | refine blk_drewN ?_ _ | refine blk_drew ?_ | refine blk_alloc ?_ _)); exact BK213.out⟩, ⟨by repeat (first | (with_reducible first | exact HI219.out | apply IsS42.alloc | apply IsS42.drewN | apply IsS42.drew | apply IsS42.set_0 | apply IsS42.set_1 | apply IsS42.set_2 | apply IsS42.set_3 | apply IsS42.set_4 | refine IsS42.far ?_ NB219_213.out _) | exact HI219.out)⟩, ⟨by repeat (first | (with_reducible first | exact HB.out | apply below_alloc | apply pw_below_drewN | apply below_drew1 | refine below_set ?_ (IsS42.ge HI219.out) | refine below_set ?_ GE213.out) | exact HB.out)⟩⟩
        case rest =>
         clear HC53
         try clear c1
         try clear c2
         try clear p2
         try clear q2
         try clear hx2
         try clear c4
         try clear c5
         try clear c5b0
         try clear c7
         try clear c8
         try clear c9
         try clear c10
         try clear c11
         try clear c12
         try clear c13
         try clear c19
         try clear c20
         try clear c21
         try clear p22
         try clear q22
         try clear hx22
         try clear p23
         try clear q23
         try clear hx23
         try clear c24
         try clear c24b0
         try clear c24b1
         try clear c48
         try clear c51
         try clear c51b0
         try clear c51b1
         try clear c52
         try clear c54
         try clear c54b0
         try clear c55
         try clear c55b0
         try clear hcz46_0
         try clear hcz46_1
         try clear hcz46_2
         try clear hcz49_0
         try clear hcz49_1
         try clear hcz49_2
         try clear hfz46_0
         try clear hfz46_1
         try clear hfz46_2
         try clear hfz49_0
         try clear hfz49_1
         try clear hfz49_2
         try clear hx229_0
         try clear hx229_1
         try clear hx230_0
         try clear hx230_1
         try clear hx237_0
         try clear hx237_1
         try clear hx238_0
         try clear hx238_1
         try clear p2
         try clear p22
         try clear p229
         try clear p23
         try clear p230
         try clear p237
         try clear p238
         try clear q2
         try clear q22
         try clear q229
         try clear q23
         try clear q230
         try clear q237
         try clear q238
         obtain ⟨kq, x51_52, rfl, HA, HJ52, BK213, HI219, HB⟩ := hcut
         cases kq with
         | zero => exact absurd HA.out (by simp [flywheellaw20_LossyPlays.j5])
         | succ kj52 =>
          have H := HA.out
          clear HA
          simp only [flywheellaw20_LossyPlays.j5] at H
          by_cases c56 : x51_52 = true
          ·subst c56
           have H1 : (if 0 ≤ x9_2 then (if x9_2 < (l1.length : Int) then ((lossy_Lossy_Update.f x220000_2 x220001_2 x220002_2 x220003_2 x220004_2 ((rd_T36 l1 x9_2).f0) ((rd_T36 l1 x9_2).f1)).bind fun bt261 => (none)) else (none)) else (none)) = some r := by rw [if_pos rfl] at H; exact H
           clear H
           have H := H1
           clear H1
           by_cases c57 : 0 ≤ x9_2
           ·rw [if_pos c57] at H
            have c57b0 : decide (0 ≤ x9_2) = true := decide_eq_true c57
            clear c57
            by_cases c58 : x9_2 < (l1.length : Int)
            ·rw [if_pos c58] at H
             have c58b0 : decide (x9_2 < (l1.length : Int)) = true := decide_eq_true c58
             clear c58
             replace H := Option.bind_eq_some_iff.mp H
             obtain ⟨⟨t261, t262, t263, t264, t265, t266⟩, A590, H⟩ := H
             replace H : (none) = some r := H
             have A59 := Aside0.mk A590
             clear A590
             exact absurd H (by simp)
            ·rw [if_neg c58] at H
             exact absurd H (by simp)
           ·rw [if_neg c57] at H
            exact absurd H (by simp)
          ·replace c56 := Bool.eq_false_iff.mpr c56
           subst c56
           have H1 : ((flywheellaw20_wakes.f).bind fun t258 => (some t258)) = some r := by rw [if_neg (show ¬ (false = true) by decide)] at H; exact H
           clear H
           have H := H1
           clear H1
           replace H := Option.bind_eq_some_iff.mp H
           obtain ⟨t258, A600, H⟩ := H
           replace H : (some t258) = some r := H
           have A60 := Aside0.mk A600
           clear A600
           obtain rfl := Option.some.inj H
           go_wp2_with (first | ((with_reducible refine gate_callee (f := 8) rfl ?_); refine goesL_ (some 86) rfl rfl Tryd.func8 (by kernel_rfl) rfl #[] rfl (by (try simp only [List.map_toArray, List.map_cons, List.map_nil]); first | done | rfl | (simp only [List.length_drop, List.length_take]; rfl)) ?_; (with_reducible refine (flywheellaw20_wakes.calls  t258 _ ?sideG A60.out).mono ?_); (case sideG => first | exact HTB.out | exact GL.below HTB.out (by repeat (first | (with_reducible first | exact HB.out | apply below_alloc | apply pw_below_drewN | apply below_drew1 | refine below_set ?_ (IsS42.ge HI219.out) | refine below_set ?_ GE213.out) | exact HB.out))); rintro e w61 ⟨rfl, hb⟩; refine ⟨_, rfl, ?_⟩; have n0_ := Aside0.mk (blk_below (g := gb213) (o := .cells #[.int .i64 a0_0, .int .i64 a0_1, .int .i64 a0_2] 23 (0, 0)) (by (with_reducible repeat (first | refine blk_drewN ?_ _ | refine blk_drew ?_ | refine blk_alloc ?_ _)); exact BK213.out) hb); have n1_ := Aside0.mk (IsS42.below (by repeat (first | (with_reducible first | exact HI219.out | apply IsS42.alloc | apply IsS42.drewN | apply IsS42.drew | apply IsS42.set_0 | apply IsS42.set_1 | apply IsS42.set_2 | apply IsS42.set_3 | apply IsS42.set_4 | refine IsS42.far ?_ NB219_213.out _) | exact HI219.out)) hb); have n2_ := Aside0.mk (below_step (by repeat (first | (with_reducible first | exact HB.out | apply below_alloc | apply pw_below_drewN | apply below_drew1 | refine below_set ?_ (IsS42.ge HI219.out) | refine below_set ?_ GE213.out) | exact HB.out)) hb); clear BK213; clear HI219; clear HB; have BK213 := n0_; have HI219 := n1_; have HB := n2_; clear n0_ n1_ n2_; (try clear hb); (try clear hb2); (try clear hk); (try clear hi)))
           go_ret
           exact ⟨by first | rfl | (simp [errW_none, errW_some] <;> rfl) | (simp [*, errW_none, errW_some] <;> rfl), by repeat (first | (with_reducible first | exact HB.out | apply below_alloc | apply pw_below_drewN | apply below_drew1 | refine below_set ?_ (IsS42.ge HI219.out) | refine below_set ?_ GE213.out) | exact HB.out)⟩
 ·rw [if_neg c3] at H
  have c3b0 : (lossy_New.made.f a0_0 a0_1 a0_2).isSome = false := by simpa using c3
  clear c3
  replace H := Option.bind_eq_some_iff.mp H
  obtain ⟨t269, A620, H⟩ := H
  replace H : (if (flywheelref20_New.made.f a0_0 a0_1 a0_2).isSome = true then ((flywheelref20_New.made.f a0_0 a0_1 a0_2).bind fun bt270 => (if t269 = bt270.2.2.2.2.2 then (flywheellaw20_LossyPlays.j6 k l1 true) else (flywheellaw20_LossyPlays.j6 k l1 true))) else ((flywheelref20_New.nil.f a0_0 a0_1 a0_2).bind fun t280 => (if t269 = t280 then (flywheellaw20_LossyPlays.j9 k l1 false) else (flywheellaw20_LossyPlays.j9 k l1 true)))) = some r := H
  have A62 := Aside0.mk A620
  clear A620
  by_cases c63 : (flywheelref20_New.made.f a0_0 a0_1 a0_2).isSome = true
  ·rw [if_pos c63] at H
   have c63b0 : (flywheelref20_New.made.f a0_0 a0_1 a0_2).isSome = true := c63
   clear c63
   replace H := Option.bind_eq_some_iff.mp H
   obtain ⟨⟨t270, t271, t272, t273, t274, t276⟩, A640, H⟩ := H
   replace H : (if t269 = t276 then (flywheellaw20_LossyPlays.j6 k l1 true) else (flywheellaw20_LossyPlays.j6 k l1 true)) = some r := H
   have A64 := Aside0.mk A640
   clear A640
   have HC65 := Aside0.mk H
   clear H
   go_enter Tryd.func4, Tryd.ntmps4
   go_upto_region 3 with (first | ((with_reducible refine gate_dst (N := 2) rfl ?_); refine box_event ?hg (N := 2) ?hd (cs := #[.int .i64 a0_0, .int .i64 a0_1, .int .i64 a0_2]) (t := 23) ?hr ?_; (case hd => rfl); (case hg => rfl); (case hr => first | (go_simp; done) | (go_simp; rfl)); intro gb213 hg w66 hbox hb; have n0_ := Aside0.mk (below_step (by repeat (first | (with_reducible first | exact HB.out | apply below_alloc | apply pw_below_drewN | apply below_drew1) | exact HB.out)) hb); have n1_ := Aside0.mk (hbox); have n2_ := Aside0.mk ((by rw [hg]; exact (below_size (by repeat (first | (with_reducible first | exact HB.out | apply below_alloc | apply pw_below_drewN | apply below_drew1) | exact HB.out))) : w.heap.size ≤ gb213)); have n3_ := Aside0.mk ((by rw [hg]; exact (below_size (by repeat (first | (with_reducible first | exact HB.out | apply below_alloc | apply pw_below_drewN | apply below_drew1) | exact HB.out))) : w.heap.size ≤ gb213)); clear HB; have HB := n0_; have BK213 := n1_; have GW213 := n2_; have GE213 := n3_; clear n0_ n1_ n2_ n3_; clear hb hbox hg; have hcz67_0 : w66.cell? ⟨gb213, 0, none⟩ = some (.int .i64 a0_0) := (blk_cell BK213.out 0).trans rfl; have hcz67_1 : w66.cell? ⟨gb213, 1, none⟩ = some (.int .i64 a0_1) := (blk_cell BK213.out 1).trans rfl; have hcz67_2 : w66.cell? ⟨gb213, 2, none⟩ = some (.int .i64 a0_2) := (blk_cell BK213.out 2).trans rfl; have hfz67_0 := blk_frozen BK213.out 0; have hfz67_1 := blk_frozen BK213.out 1; have hfz67_2 := blk_frozen BK213.out 2) | ((with_reducible refine gate_callee (f := 7) rfl ?_); refine goesL_ (some 17) rfl rfl Tryd.func7 (by kernel_rfl) rfl #[.int .i64 a0_0, .int .i64 a0_1, .int .i64 a0_2] rfl (by (try simp only [List.map_toArray, List.map_cons, List.map_nil]); first | done | rfl | (simp only [List.length_drop, List.length_take]; rfl)) ?_; (with_reducible refine (lossy_New.nil.calls a0_0 a0_1 a0_2 t269 _ A62.out).mono ?_); rintro e w68 ⟨rfl, hb⟩; refine ⟨_, rfl, ?_⟩; have n0_ := Aside0.mk (blk_below (g := gb213) (o := .cells #[.int .i64 a0_0, .int .i64 a0_1, .int .i64 a0_2] 23 (0, 0)) (by (with_reducible repeat (first | refine blk_drewN ?_ _ | refine blk_drew ?_ | refine blk_alloc ?_ _)); exact BK213.out) hb); have n1_ := Aside0.mk (below_step (by repeat (first | (with_reducible first | exact HB.out | apply below_alloc | apply pw_below_drewN | apply below_drew1 | refine below_set ?_ GE213.out) | exact HB.out)) hb); clear BK213; clear HB; have BK213 := n0_; have HB := n1_; clear n0_ n1_; (try clear hb); (try clear hb2); (try clear hk); (try clear hi); have hcz69_0 : w68.cell? ⟨gb213, 0, none⟩ = some (.int .i64 a0_0) := (blk_cell BK213.out 0).trans rfl; have hcz69_1 : w68.cell? ⟨gb213, 1, none⟩ = some (.int .i64 a0_1) := (blk_cell BK213.out 1).trans rfl; have hcz69_2 : w68.cell? ⟨gb213, 2, none⟩ = some (.int .i64 a0_2) := (blk_cell BK213.out 2).trans rfl; have hfz69_0 := blk_frozen BK213.out 0; have hfz69_1 := blk_frozen BK213.out 1; have hfz69_2 := blk_frozen BK213.out 2) | ((with_reducible refine gate_callee (f := 10) rfl ?_); refine goesL_ (some 27) rfl rfl Tryd.func10 (by kernel_rfl) rfl #[.int .i64 a0_0, .int .i64 a0_1, .int .i64 a0_2] rfl (by (try simp only [List.map_toArray, List.map_cons, List.map_nil]); first | done | rfl | (simp only [List.length_drop, List.length_take]; rfl)) ?_; (with_reducible refine (flywheelref20_New.made.calls a0_0 a0_1 a0_2 t270 t271 t272 t273 t274 t276 _ _ (Below.refl _ _) A64.out).mono ?_); rintro e w70 ⟨g275, rfl, hi, hb, hb2⟩; refine ⟨_, rfl, ?_⟩; have n0_ := Aside0.mk (blk_below (g := gb213) (o := .cells #[.int .i64 a0_0, .int .i64 a0_1, .int .i64 a0_2] 23 (0, 0)) (by (with_reducible repeat (first | refine blk_drewN ?_ _ | refine blk_drew ?_ | refine blk_alloc ?_ _)); exact BK213.out) hb2); have n1_ := Aside0.mk (below_step (by repeat (first | (with_reducible first | exact HB.out | apply below_alloc | apply pw_below_drewN | apply below_drew1 | refine below_set ?_ GE213.out) | exact HB.out)) hb2); have n2_ := Aside0.mk ((IsS49.rebase hi (below_size (by repeat (first | (with_reducible first | exact HB.out | apply below_alloc | apply pw_below_drewN | apply below_drew1 | refine below_set ?_ GE213.out) | exact HB.out))))); have n3_ := Aside0.mk (IsS49.ne_blk hi (blk_below (g := gb213) (o := .cells #[.int .i64 a0_0, .int .i64 a0_1, .int .i64 a0_2] 23 (0, 0)) (by (with_reducible repeat (first | refine blk_drewN ?_ _ | refine blk_drew ?_ | refine blk_alloc ?_ _)); exact BK213.out) hb2) (by decide)); have n4_ := Aside0.mk (Ne.symm (IsS49.ne_blk hi (blk_below (g := gb213) (o := .cells #[.int .i64 a0_0, .int .i64 a0_1, .int .i64 a0_2] 23 (0, 0)) (by (with_reducible repeat (first | refine blk_drewN ?_ _ | refine blk_drew ?_ | refine blk_alloc ?_ _)); exact BK213.out) hb2) (by decide))); clear BK213; clear HB; have BK213 := n0_; have HB := n1_; have HI275 := n2_; have NB275_213 := n3_; have NB213_275 := n4_; clear n0_ n1_ n2_ n3_ n4_; (try clear hb); (try clear hb2); (try clear hk); (try clear hi)))
   (try simp only [Act.put, List.setIfInBounds_toArray, List.set_cons_zero, List.set_cons_succ])
   go_cut [39] (fun v39 wc => ∃ (kq : Nat) (x39_64 : Bool), v39 = .bool x39_64 ∧ Aside0 (flywheellaw20_LossyPlays.j6 kq l1 x39_64 = some r) ∧ Aside0 (kq ≤ k) ∧ Aside0 (wc.heap[gb213]? = some (.cells #[.int .i64 a0_0, .int .i64 a0_1, .int .i64 a0_2] 23 (0, 0))) ∧ Aside0 (Below w.heap.size w wc))
   case first =>
    have H := HC65.out
    clear HC65
    by_cases c71 : t269 = t276
    ·rw [if_pos c71] at H
     have c71b0 : (t269 == t276) = true := beq_iff_eq.mpr c71
     have c71b1 : (t269 != t276) = false := bne_eq_false_iff_eq.mpr c71
     clear c71
     (first | rw [c71b0] | (simp only [i64_w, i32_w]; rw [c71b0]) | skip)
     have H' := Aside0.mk H
     clear H
     go_wp2
     go_meet
     case rel => exact ⟨_, (true), (by first | rfl | (simp; done) | (simp [*]; done)), H', ⟨by first | omega | exact Nat.le_refl _⟩, ⟨by (with_reducible repeat (first | refine blk_drewN ?_ _ | refine blk_drew ?_ | refine blk_alloc ?_ _)); exact BK213.out⟩, ⟨by repeat (first | (with_reducible first | exact HB.out | apply below_alloc | apply pw_below_drewN | apply below_drew1 | refine below_set ?_ (IsS49.ge HI275.out) | refine below_set ?_ GE213.out) | exact HB.out)⟩⟩
    ·rw [if_neg c71] at H
     have c71b0 : (t269 == t276) = false := beq_eq_false_iff_ne.mpr c71
     have c71b1 : (t269 != t276) = true := bne_iff_ne.mpr c71
     (first | rw [c71b0] | (simp only [i64_w, i32_w]; rw [c71b0]) | skip)
     have H' := Aside0.mk H
     clear H
     go_wp2
     go_meet
     case rel => exact ⟨_, (true), (by first | rfl | (simp; done) | (simp [*]; done)), H', ⟨by first | omega | exact Nat.le_refl _⟩, ⟨by (with_reducible repeat (first | refine blk_drewN ?_ _ | refine blk_drew ?_ | refine blk_alloc ?_ _)); exact BK213.out⟩, ⟨by repeat (first | (with_reducible first | exact HB.out | apply below_alloc | apply pw_below_drewN | apply below_drew1 | refine below_set ?_ (IsS49.ge HI275.out) | refine below_set ?_ GE213.out) | exact HB.out)⟩⟩
   case rest =>
    clear HC65
    try clear c1
    try clear c2
    try clear p2
    try clear q2
    try clear hx2
    try clear c3
    try clear c3b0
    try clear c4
    try clear c5
    try clear c5b0
    try clear c6
    try clear c7
    try clear c8
    try clear c9
    try clear c10
    try clear c11
    try clear c12
    try clear c13
    try clear c19
    try clear c20
    try clear c21
    try clear p22
    try clear q22
    try clear hx22
    try clear p23
    try clear q23
    try clear hx23
    try clear c24
    try clear c24b0
    try clear c24b1
    try clear c48
    try clear c51
    try clear c51b0
    try clear c51b1
    try clear c52
    try clear c54
    try clear c54b0
    try clear c55
    try clear c55b0
    try clear c56
    try clear c57
    try clear c57b0
    try clear c58
    try clear c58b0
    try clear c63
    try clear c63b0
    try clear c71
    try clear c71b0
    try clear c71b1
    try clear hcz46_0
    try clear hcz46_1
    try clear hcz46_2
    try clear hcz49_0
    try clear hcz49_1
    try clear hcz49_2
    try clear hcz67_0
    try clear hcz67_1
    try clear hcz67_2
    try clear hcz69_0
    try clear hcz69_1
    try clear hcz69_2
    try clear hfz46_0
    try clear hfz46_1
    try clear hfz46_2
    try clear hfz49_0
    try clear hfz49_1
    try clear hfz49_2
    try clear hfz67_0
    try clear hfz67_1
    try clear hfz67_2
    try clear hfz69_0
    try clear hfz69_1
    try clear hfz69_2
    try clear hx229_0
    try clear hx229_1
    try clear hx230_0
    try clear hx230_1
    try clear hx237_0
    try clear hx237_1
    try clear hx238_0
    try clear hx238_1
    try clear p2
    try clear p22
    try clear p229
    try clear p23
    try clear p230
    try clear p237
    try clear p238
    try clear q2
    try clear q22
    try clear q229
    try clear q23
    try clear q230
    try clear q237
    try clear q238
    obtain ⟨kq, x39_64, rfl, HA, HJ64, BK213, HB⟩ := hcut
    cases kq with
    | zero => exact absurd HA.out (by simp [flywheellaw20_LossyPlays.j6])
    | succ kj64 =>
     have H := HA.out
     clear HA
     simp only [flywheellaw20_LossyPlays.j6] at H
     by_cases c72 : x39_64 = true
     ·subst c72
      have H1 : (some false) = some r := by rw [if_pos rfl] at H; exact H
      clear H
      have H := H1
      clear H1
      obtain rfl := Option.some.inj H
      go_wp2
      go_ret
      exact ⟨by first | rfl | (simp [errW_none, errW_some] <;> rfl) | (simp [*, errW_none, errW_some] <;> rfl), by repeat (first | (with_reducible first | exact HB.out | apply below_alloc | apply pw_below_drewN | apply below_drew1 | refine below_set ?_ GE213.out) | exact HB.out)⟩
     ·replace c72 := Bool.eq_false_iff.mpr c72
      subst c72
      have H1 : (flywheellaw20_LossyPlays.l5001 kj64 l1 0) = some r := by rw [if_neg (show ¬ (false = true) by decide)] at H; exact H
      clear H
      have H := H1
      clear H1
      have H' := Aside0.mk H
      clear H
      go_wp2
      go_loopg [9] kj64 (fun kq v9 w' => ∃ (x9_2 : Int), v9 = .int .i64 x9_2 ∧ Aside0 (flywheellaw20_LossyPlays.l5001 kq l1 x9_2 = some r) ∧ Aside0 (kq ≤ kj64) ∧ Aside0 (w'.heap[gb213]? = some (.cells #[.int .i64 a0_0, .int .i64 a0_1, .int .i64 a0_2] 23 (0, 0))) ∧ Aside0 (Below w.heap.size w w'))
      case atStart => exact ⟨(0), (by first | rfl | (simp; done) | (simp [*]; done)), H', ⟨Nat.le_refl _⟩, ⟨by (with_reducible repeat (first | refine blk_drewN ?_ _ | refine blk_drew ?_ | refine blk_alloc ?_ _)); exact BK213.out⟩, ⟨by repeat (first | (with_reducible first | exact HB.out | apply below_alloc | apply pw_below_drewN | apply below_drew1 | refine below_set ?_ GE213.out) | exact HB.out)⟩⟩
      case round =>
       clear H'
       try clear c1
       try clear c2
       try clear p2
       try clear q2
       try clear hx2
       try clear c3
       try clear c3b0
       try clear c4
       try clear c5
       try clear c5b0
       try clear c6
       try clear c7
       try clear c8
       try clear c9
       try clear c10
       try clear c11
       try clear c12
       try clear c13
       try clear c19
       try clear c20
       try clear c21
       try clear p22
       try clear q22
       try clear hx22
       try clear p23
       try clear q23
       try clear hx23
       try clear c24
       try clear c24b0
       try clear c24b1
       try clear c48
       try clear c51
       try clear c51b0
       try clear c51b1
       try clear c52
       try clear c54
       try clear c54b0
       try clear c55
       try clear c55b0
       try clear c56
       try clear c57
       try clear c57b0
       try clear c58
       try clear c58b0
       try clear c63
       try clear c63b0
       try clear c71
       try clear c71b0
       try clear c71b1
       try clear c72
       try clear hcz46_0
       try clear hcz46_1
       try clear hcz46_2
       try clear hcz49_0
       try clear hcz49_1
       try clear hcz49_2
       try clear hcz67_0
       try clear hcz67_1
       try clear hcz67_2
       try clear hcz69_0
       try clear hcz69_1
       try clear hcz69_2
       try clear hfz46_0
       try clear hfz46_1
       try clear hfz46_2
       try clear hfz49_0
       try clear hfz49_1
       try clear hfz49_2
       try clear hfz67_0
       try clear hfz67_1
       try clear hfz67_2
       try clear hfz69_0
       try clear hfz69_1
       try clear hfz69_2
       try clear hx229_0
       try clear hx229_1
       try clear hx230_0
       try clear hx230_1
       try clear hx237_0
       try clear hx237_1
       try clear hx238_0
       try clear hx238_1
       try clear p2
       try clear p22
       try clear p229
       try clear p23
       try clear p230
       try clear p237
       try clear p238
       try clear q2
       try clear q22
       try clear q229
       try clear q23
       try clear q230
       try clear q237
       try clear q238
       obtain ⟨x9_2, rfl, HA, HK2, BK213, HB⟩ := hrel
       cases gk with
       | zero => exact absurd HA.out (by simp [flywheellaw20_LossyPlays.l5001])
       | succ k2 =>
        have H := HA.out
        clear HA
        simp only [flywheellaw20_LossyPlays.l5001] at H
        have HC73 := Aside0.mk H
        clear H
        go_upto_region 6 with (fail)
        go_cut [51] (fun v51 wc => ∃ (kq : Nat) (x51_72 : Bool), v51 = .bool x51_72 ∧ Aside0 (flywheellaw20_LossyPlays.j8 kq l1 x9_2 x51_72 = some r) ∧ Aside0 (kq ≤ k2) ∧ Aside0 (wc.heap[gb213]? = some (.cells #[.int .i64 a0_0, .int .i64 a0_1, .int .i64 a0_2] 23 (0, 0))) ∧ Aside0 (Below w.heap.size w wc))
        case first =>
         have H := HC73.out
         clear HC73
         by_cases c74 : x9_2 < (l1.length : Int)
         ·rw [if_pos c74] at H
          have c74b0 : decide (x9_2 < (l1.length : Int)) = true := decide_eq_true c74
          clear c74
          (first | rw [c74b0] | (simp only [i64_w, i32_w]; rw [c74b0]) | skip)
          by_cases c75 : x9_2 < 300
          ·rw [if_pos c75] at H
           have c75b0 : decide (x9_2 < 300) = true := decide_eq_true c75
           clear c75
           have H' := Aside0.mk H
           clear H
           go_wp2
           go_meet
           case rel => exact ⟨_, (true), (by first | rfl | (simp; done) | (simp [*]; done)), H', ⟨by have := HJ64.out; have := HK2.out; first | omega | exact Nat.le_refl _⟩, ⟨by (with_reducible repeat (first | refine blk_drewN ?_ _ | refine blk_drew ?_ | refine blk_alloc ?_ _)); exact BK213.out⟩, ⟨by repeat (first | (with_reducible first | exact HB.out | apply below_alloc | apply pw_below_drewN | apply below_drew1 | refine below_set ?_ GE213.out) | exact HB.out)⟩⟩
          ·rw [if_neg c75] at H
           have c75b0 : decide (x9_2 < 300) = false := decide_eq_false c75
           clear c75
           have H' := Aside0.mk H
           clear H
           go_wp2
           go_meet
           case rel => exact ⟨_, (false), (by first | rfl | (simp; done) | (simp [*]; done)), H', ⟨by have := HJ64.out; have := HK2.out; first | omega | exact Nat.le_refl _⟩, ⟨by (with_reducible repeat (first | refine blk_drewN ?_ _ | refine blk_drew ?_ | refine blk_alloc ?_ _)); exact BK213.out⟩, ⟨by repeat (first | (with_reducible first | exact HB.out | apply below_alloc | apply pw_below_drewN | apply below_drew1 | refine below_set ?_ GE213.out) | exact HB.out)⟩⟩
         ·rw [if_neg c74] at H
          have c74b0 : decide (x9_2 < (l1.length : Int)) = false := decide_eq_false c74
          clear c74
          (first | rw [c74b0] | (simp only [i64_w, i32_w]; rw [c74b0]) | skip)
          have H' := Aside0.mk H
          clear H
          go_wp2
          go_meet
          case rel => exact ⟨_, (false), (by first | rfl | (simp; done) | (simp [*]; done)), H', ⟨by have := HJ64.out; have := HK2.out; first | omega | exact Nat.le_refl _⟩, ⟨by (with_reducible repeat (first | refine blk_drewN ?_ _ | refine blk_drew ?_ | refine blk_alloc ?_ _)); exact BK213.out⟩, ⟨by repeat (first | (with_reducible first | exact HB.out | apply below_alloc | apply pw_below_drewN | apply below_drew1 | refine below_set ?_ GE213.out) | exact HB.out)⟩⟩
        case rest =>
         clear HC73
         try clear c1
         try clear c2
         try clear p2
         try clear q2
         try clear hx2
         try clear c3
         try clear c3b0
         try clear c4
         try clear c5
         try clear c5b0
         try clear c6
         try clear c7
         try clear c8
         try clear c9
         try clear c10
         try clear c11
         try clear c12
         try clear c13
         try clear c19
         try clear c20
         try clear c21
         try clear p22
         try clear q22
         try clear hx22
         try clear p23
         try clear q23
         try clear hx23
         try clear c24
         try clear c24b0
         try clear c24b1
         try clear c48
         try clear c51
         try clear c51b0
         try clear c51b1
         try clear c52
         try clear c54
         try clear c54b0
         try clear c55
         try clear c55b0
         try clear c56
         try clear c57
         try clear c57b0
         try clear c58
         try clear c58b0
         try clear c63
         try clear c63b0
         try clear c71
         try clear c71b0
         try clear c71b1
         try clear c72
         try clear c74
         try clear c74b0
         try clear c75
         try clear c75b0
         try clear hcz46_0
         try clear hcz46_1
         try clear hcz46_2
         try clear hcz49_0
         try clear hcz49_1
         try clear hcz49_2
         try clear hcz67_0
         try clear hcz67_1
         try clear hcz67_2
         try clear hcz69_0
         try clear hcz69_1
         try clear hcz69_2
         try clear hfz46_0
         try clear hfz46_1
         try clear hfz46_2
         try clear hfz49_0
         try clear hfz49_1
         try clear hfz49_2
         try clear hfz67_0
         try clear hfz67_1
         try clear hfz67_2
         try clear hfz69_0
         try clear hfz69_1
         try clear hfz69_2
         try clear hx229_0
         try clear hx229_1
         try clear hx230_0
         try clear hx230_1
         try clear hx237_0
         try clear hx237_1
         try clear hx238_0
         try clear hx238_1
         try clear p2
         try clear p22
         try clear p229
         try clear p23
         try clear p230
         try clear p237
         try clear p238
         try clear q2
         try clear q22
         try clear q229
         try clear q23
         try clear q230
         try clear q237
         try clear q238
         obtain ⟨kq, x51_72, rfl, HA, HJ72, BK213, HB⟩ := hcut
         cases kq with
         | zero => exact absurd HA.out (by simp [flywheellaw20_LossyPlays.j8])
         | succ kj72 =>
          have H := HA.out
          clear HA
          simp only [flywheellaw20_LossyPlays.j8] at H
          by_cases c76 : x51_72 = true
          ·subst c76
           have H1 : (if 0 ≤ x9_2 then (if x9_2 < (l1.length : Int) then (none) else (none)) else (none)) = some r := by rw [if_pos rfl] at H; exact H
           clear H
           have H := H1
           clear H1
           by_cases c77 : 0 ≤ x9_2
           ·rw [if_pos c77] at H
            have c77b0 : decide (0 ≤ x9_2) = true := decide_eq_true c77
            clear c77
            by_cases c78 : x9_2 < (l1.length : Int)
            ·rw [if_pos c78] at H
             have c78b0 : decide (x9_2 < (l1.length : Int)) = true := decide_eq_true c78
             clear c78
             exact absurd H (by simp)
            ·rw [if_neg c78] at H
             exact absurd H (by simp)
           ·rw [if_neg c77] at H
            exact absurd H (by simp)
          ·replace c76 := Bool.eq_false_iff.mpr c76
           subst c76
           have H1 : ((flywheellaw20_wakes.f).bind fun t277 => (some t277)) = some r := by rw [if_neg (show ¬ (false = true) by decide)] at H; exact H
           clear H
           have H := H1
           clear H1
           replace H := Option.bind_eq_some_iff.mp H
           obtain ⟨t277, A790, H⟩ := H
           replace H : (some t277) = some r := H
           have A79 := Aside0.mk A790
           clear A790
           obtain rfl := Option.some.inj H
           go_wp2_with (first | ((with_reducible refine gate_callee (f := 8) rfl ?_); refine goesL_ (some 86) rfl rfl Tryd.func8 (by kernel_rfl) rfl #[] rfl (by (try simp only [List.map_toArray, List.map_cons, List.map_nil]); first | done | rfl | (simp only [List.length_drop, List.length_take]; rfl)) ?_; (with_reducible refine (flywheellaw20_wakes.calls  t277 _ ?sideG A79.out).mono ?_); (case sideG => first | exact HTB.out | exact GL.below HTB.out (by repeat (first | (with_reducible first | exact HB.out | apply below_alloc | apply pw_below_drewN | apply below_drew1 | refine below_set ?_ GE213.out) | exact HB.out))); rintro e w80 ⟨rfl, hb⟩; refine ⟨_, rfl, ?_⟩; have n0_ := Aside0.mk (blk_below (g := gb213) (o := .cells #[.int .i64 a0_0, .int .i64 a0_1, .int .i64 a0_2] 23 (0, 0)) (by (with_reducible repeat (first | refine blk_drewN ?_ _ | refine blk_drew ?_ | refine blk_alloc ?_ _)); exact BK213.out) hb); have n1_ := Aside0.mk (below_step (by repeat (first | (with_reducible first | exact HB.out | apply below_alloc | apply pw_below_drewN | apply below_drew1 | refine below_set ?_ GE213.out) | exact HB.out)) hb); clear BK213; clear HB; have BK213 := n0_; have HB := n1_; clear n0_ n1_; (try clear hb); (try clear hb2); (try clear hk); (try clear hi)))
           go_ret
           exact ⟨by first | rfl | (simp [errW_none, errW_some] <;> rfl) | (simp [*, errW_none, errW_some] <;> rfl), by repeat (first | (with_reducible first | exact HB.out | apply below_alloc | apply pw_below_drewN | apply below_drew1 | refine below_set ?_ GE213.out) | exact HB.out)⟩
  ·rw [if_neg c63] at H
   have c63b0 : (flywheelref20_New.made.f a0_0 a0_1 a0_2).isSome = false := by simpa using c63
   clear c63
   replace H := Option.bind_eq_some_iff.mp H
   obtain ⟨t280, A810, H⟩ := H
   replace H : (if t269 = t280 then (flywheellaw20_LossyPlays.j9 k l1 false) else (flywheellaw20_LossyPlays.j9 k l1 true)) = some r := H
   have A81 := Aside0.mk A810
   clear A810
   have HC82 := Aside0.mk H
   clear H
   go_enter Tryd.func4, Tryd.ntmps4
   go_upto_region 3 with (first | ((with_reducible refine gate_dst (N := 2) rfl ?_); refine box_event ?hg (N := 2) ?hd (cs := #[.int .i64 a0_0, .int .i64 a0_1, .int .i64 a0_2]) (t := 23) ?hr ?_; (case hd => rfl); (case hg => rfl); (case hr => first | (go_simp; done) | (go_simp; rfl)); intro gb213 hg w83 hbox hb; have n0_ := Aside0.mk (below_step (by repeat (first | (with_reducible first | exact HB.out | apply below_alloc | apply pw_below_drewN | apply below_drew1) | exact HB.out)) hb); have n1_ := Aside0.mk (hbox); have n2_ := Aside0.mk ((by rw [hg]; exact (below_size (by repeat (first | (with_reducible first | exact HB.out | apply below_alloc | apply pw_below_drewN | apply below_drew1) | exact HB.out))) : w.heap.size ≤ gb213)); have n3_ := Aside0.mk ((by rw [hg]; exact (below_size (by repeat (first | (with_reducible first | exact HB.out | apply below_alloc | apply pw_below_drewN | apply below_drew1) | exact HB.out))) : w.heap.size ≤ gb213)); clear HB; have HB := n0_; have BK213 := n1_; have GW213 := n2_; have GE213 := n3_; clear n0_ n1_ n2_ n3_; clear hb hbox hg; have hcz84_0 : w83.cell? ⟨gb213, 0, none⟩ = some (.int .i64 a0_0) := (blk_cell BK213.out 0).trans rfl; have hcz84_1 : w83.cell? ⟨gb213, 1, none⟩ = some (.int .i64 a0_1) := (blk_cell BK213.out 1).trans rfl; have hcz84_2 : w83.cell? ⟨gb213, 2, none⟩ = some (.int .i64 a0_2) := (blk_cell BK213.out 2).trans rfl; have hfz84_0 := blk_frozen BK213.out 0; have hfz84_1 := blk_frozen BK213.out 1; have hfz84_2 := blk_frozen BK213.out 2) | ((with_reducible refine gate_callee (f := 7) rfl ?_); refine goesL_ (some 17) rfl rfl Tryd.func7 (by kernel_rfl) rfl #[.int .i64 a0_0, .int .i64 a0_1, .int .i64 a0_2] rfl (by (try simp only [List.map_toArray, List.map_cons, List.map_nil]); first | done | rfl | (simp only [List.length_drop, List.length_take]; rfl)) ?_; (with_reducible refine (lossy_New.nil.calls a0_0 a0_1 a0_2 t269 _ A62.out).mono ?_); rintro e w85 ⟨rfl, hb⟩; refine ⟨_, rfl, ?_⟩; have n0_ := Aside0.mk (blk_below (g := gb213) (o := .cells #[.int .i64 a0_0, .int .i64 a0_1, .int .i64 a0_2] 23 (0, 0)) (by (with_reducible repeat (first | refine blk_drewN ?_ _ | refine blk_drew ?_ | refine blk_alloc ?_ _)); exact BK213.out) hb); have n1_ := Aside0.mk (below_step (by repeat (first | (with_reducible first | exact HB.out | apply below_alloc | apply pw_below_drewN | apply below_drew1 | refine below_set ?_ GE213.out) | exact HB.out)) hb); clear BK213; clear HB; have BK213 := n0_; have HB := n1_; clear n0_ n1_; (try clear hb); (try clear hb2); (try clear hk); (try clear hi); have hcz86_0 : w85.cell? ⟨gb213, 0, none⟩ = some (.int .i64 a0_0) := (blk_cell BK213.out 0).trans rfl; have hcz86_1 : w85.cell? ⟨gb213, 1, none⟩ = some (.int .i64 a0_1) := (blk_cell BK213.out 1).trans rfl; have hcz86_2 : w85.cell? ⟨gb213, 2, none⟩ = some (.int .i64 a0_2) := (blk_cell BK213.out 2).trans rfl; have hfz86_0 := blk_frozen BK213.out 0; have hfz86_1 := blk_frozen BK213.out 1; have hfz86_2 := blk_frozen BK213.out 2) | ((with_reducible refine gate_callee (f := 10) rfl ?_); refine goesL_ (some 27) rfl rfl Tryd.func10 (by kernel_rfl) rfl #[.int .i64 a0_0, .int .i64 a0_1, .int .i64 a0_2] rfl (by (try simp only [List.map_toArray, List.map_cons, List.map_nil]); first | done | rfl | (simp only [List.length_drop, List.length_take]; rfl)) ?_; (with_reducible refine (flywheelref20_New.nil.calls a0_0 a0_1 a0_2 t280 _ A81.out).mono ?_); rintro e w87 ⟨rfl, hb⟩; refine ⟨_, rfl, ?_⟩; have n0_ := Aside0.mk (blk_below (g := gb213) (o := .cells #[.int .i64 a0_0, .int .i64 a0_1, .int .i64 a0_2] 23 (0, 0)) (by (with_reducible repeat (first | refine blk_drewN ?_ _ | refine blk_drew ?_ | refine blk_alloc ?_ _)); exact BK213.out) hb); have n1_ := Aside0.mk (below_step (by repeat (first | (with_reducible first | exact HB.out | apply below_alloc | apply pw_below_drewN | apply below_drew1 | refine below_set ?_ GE213.out) | exact HB.out)) hb); clear BK213; clear HB; have BK213 := n0_; have HB := n1_; clear n0_ n1_; (try clear hb); (try clear hb2); (try clear hk); (try clear hi)))
   (try simp only [Act.put, List.setIfInBounds_toArray, List.set_cons_zero, List.set_cons_succ])
   go_cut [39] (fun v39 wc => ∃ (kq : Nat) (x39_81 : Bool), v39 = .bool x39_81 ∧ Aside0 (flywheellaw20_LossyPlays.j9 kq l1 x39_81 = some r) ∧ Aside0 (kq ≤ k) ∧ Aside0 (wc.heap[gb213]? = some (.cells #[.int .i64 a0_0, .int .i64 a0_1, .int .i64 a0_2] 23 (0, 0))) ∧ Aside0 (Below w.heap.size w wc))
   case first =>
    have H := HC82.out
    clear HC82
    by_cases c88 : t269 = t280
    ·rw [if_pos c88] at H
     have c88b0 : (t269 == t280) = true := beq_iff_eq.mpr c88
     have c88b1 : (t269 != t280) = false := bne_eq_false_iff_eq.mpr c88
     clear c88
     (first | rw [c88b0] | (simp only [i64_w, i32_w]; rw [c88b0]) | skip)
     have H' := Aside0.mk H
     clear H
     go_wp2
     go_meet
     case rel => exact ⟨_, (false), (by first | rfl | (simp; done) | (simp [*]; done)), H', ⟨by first | omega | exact Nat.le_refl _⟩, ⟨by (with_reducible repeat (first | refine blk_drewN ?_ _ | refine blk_drew ?_ | refine blk_alloc ?_ _)); exact BK213.out⟩, ⟨by repeat (first | (with_reducible first | exact HB.out | apply below_alloc | apply pw_below_drewN | apply below_drew1 | refine below_set ?_ GE213.out) | exact HB.out)⟩⟩
    ·rw [if_neg c88] at H
     have c88b0 : (t269 == t280) = false := beq_eq_false_iff_ne.mpr c88
     have c88b1 : (t269 != t280) = true := bne_iff_ne.mpr c88
     (first | rw [c88b0] | (simp only [i64_w, i32_w]; rw [c88b0]) | skip)
     have H' := Aside0.mk H
     clear H
     go_wp2
     go_meet
     case rel => exact ⟨_, (true), (by first | rfl | (simp; done) | (simp [*]; done)), H', ⟨by first | omega | exact Nat.le_refl _⟩, ⟨by (with_reducible repeat (first | refine blk_drewN ?_ _ | refine blk_drew ?_ | refine blk_alloc ?_ _)); exact BK213.out⟩, ⟨by repeat (first | (with_reducible first | exact HB.out | apply below_alloc | apply pw_below_drewN | apply below_drew1 | refine below_set ?_ GE213.out) | exact HB.out)⟩⟩
   case rest =>
    clear HC82
    try clear c1
    try clear c2
    try clear p2
    try clear q2
    try clear hx2
    try clear c3
    try clear c3b0
    try clear c4
    try clear c5
    try clear c5b0
    try clear c6
    try clear c7
    try clear c8
    try clear c9
    try clear c10
    try clear c11
    try clear c12
    try clear c13
    try clear c19
    try clear c20
    try clear c21
    try clear p22
    try clear q22
    try clear hx22
    try clear p23
    try clear q23
    try clear hx23
    try clear c24
    try clear c24b0
    try clear c24b1
    try clear c48
    try clear c51
    try clear c51b0
    try clear c51b1
    try clear c52
    try clear c54
    try clear c54b0
    try clear c55
    try clear c55b0
    try clear c56
    try clear c57
    try clear c57b0
    try clear c58
    try clear c58b0
    try clear c63
    try clear c63b0
    try clear c71
    try clear c71b0
    try clear c71b1
    try clear c72
    try clear c74
    try clear c74b0
    try clear c75
    try clear c75b0
    try clear c76
    try clear c77
    try clear c77b0
    try clear c78
    try clear c78b0
    try clear c88
    try clear c88b0
    try clear c88b1
    try clear hcz46_0
    try clear hcz46_1
    try clear hcz46_2
    try clear hcz49_0
    try clear hcz49_1
    try clear hcz49_2
    try clear hcz67_0
    try clear hcz67_1
    try clear hcz67_2
    try clear hcz69_0
    try clear hcz69_1
    try clear hcz69_2
    try clear hcz84_0
    try clear hcz84_1
    try clear hcz84_2
    try clear hcz86_0
    try clear hcz86_1
    try clear hcz86_2
    try clear hfz46_0
    try clear hfz46_1
    try clear hfz46_2
    try clear hfz49_0
    try clear hfz49_1
    try clear hfz49_2
    try clear hfz67_0
    try clear hfz67_1
    try clear hfz67_2
    try clear hfz69_0
    try clear hfz69_1
    try clear hfz69_2
    try clear hfz84_0
    try clear hfz84_1
    try clear hfz84_2
    try clear hfz86_0
    try clear hfz86_1
    try clear hfz86_2
    try clear hx229_0
    try clear hx229_1
    try clear hx230_0
    try clear hx230_1
    try clear hx237_0
    try clear hx237_1
    try clear hx238_0
    try clear hx238_1
    try clear p2
    try clear p22
    try clear p229
    try clear p23
    try clear p230
    try clear p237
    try clear p238
    try clear q2
    try clear q22
    try clear q229
    try clear q23
    try clear q230
    try clear q237
    try clear q238
    obtain ⟨kq, x39_81, rfl, HA, HJ81, BK213, HB⟩ := hcut
    cases kq with
    | zero => exact absurd HA.out (by simp [flywheellaw20_LossyPlays.j9])
    | succ kj81 =>
     have H := HA.out
     clear HA
     simp only [flywheellaw20_LossyPlays.j9] at H
     by_cases c89 : x39_81 = true
     ·subst c89
      have H1 : (some false) = some r := by rw [if_pos rfl] at H; exact H
      clear H
      have H := H1
      clear H1
      obtain rfl := Option.some.inj H
      go_wp2
      go_ret
      exact ⟨by first | rfl | (simp [errW_none, errW_some] <;> rfl) | (simp [*, errW_none, errW_some] <;> rfl), by repeat (first | (with_reducible first | exact HB.out | apply below_alloc | apply pw_below_drewN | apply below_drew1 | refine below_set ?_ GE213.out) | exact HB.out)⟩
     ·replace c89 := Bool.eq_false_iff.mpr c89
      subst c89
      have H1 : (flywheellaw20_LossyPlays.l5002 kj81 l1 0) = some r := by rw [if_neg (show ¬ (false = true) by decide)] at H; exact H
      clear H
      have H := H1
      clear H1
      have H' := Aside0.mk H
      clear H
      go_wp2
      go_loopg [9] kj81 (fun kq v9 w' => ∃ (x9_2 : Int), v9 = .int .i64 x9_2 ∧ Aside0 (flywheellaw20_LossyPlays.l5002 kq l1 x9_2 = some r) ∧ Aside0 (kq ≤ kj81) ∧ Aside0 (w'.heap[gb213]? = some (.cells #[.int .i64 a0_0, .int .i64 a0_1, .int .i64 a0_2] 23 (0, 0))) ∧ Aside0 (Below w.heap.size w w'))
      case atStart => exact ⟨(0), (by first | rfl | (simp; done) | (simp [*]; done)), H', ⟨Nat.le_refl _⟩, ⟨by (with_reducible repeat (first | refine blk_drewN ?_ _ | refine blk_drew ?_ | refine blk_alloc ?_ _)); exact BK213.out⟩, ⟨by repeat (first | (with_reducible first | exact HB.out | apply below_alloc | apply pw_below_drewN | apply below_drew1 | refine below_set ?_ GE213.out) | exact HB.out)⟩⟩
      case round =>
       clear H'
       try clear c1
       try clear c2
       try clear p2
       try clear q2
       try clear hx2
       try clear c3
       try clear c3b0
       try clear c4
       try clear c5
       try clear c5b0
       try clear c6
       try clear c7
       try clear c8
       try clear c9
       try clear c10
       try clear c11
       try clear c12
       try clear c13
       try clear c19
       try clear c20
       try clear c21
       try clear p22
       try clear q22
       try clear hx22
       try clear p23
       try clear q23
       try clear hx23
       try clear c24
       try clear c24b0
       try clear c24b1
       try clear c48
       try clear c51
       try clear c51b0
       try clear c51b1
       try clear c52
       try clear c54
       try clear c54b0
       try clear c55
       try clear c55b0
       try clear c56
       try clear c57
       try clear c57b0
       try clear c58
       try clear c58b0
       try clear c63
       try clear c63b0
       try clear c71
       try clear c71b0
       try clear c71b1
       try clear c72
       try clear c74
       try clear c74b0
       try clear c75
       try clear c75b0
       try clear c76
       try clear c77
       try clear c77b0
       try clear c78
       try clear c78b0
       try clear c88
       try clear c88b0
       try clear c88b1
       try clear c89
       try clear hcz46_0
       try clear hcz46_1
       try clear hcz46_2
       try clear hcz49_0
       try clear hcz49_1
       try clear hcz49_2
       try clear hcz67_0
       try clear hcz67_1
       try clear hcz67_2
       try clear hcz69_0
       try clear hcz69_1
       try clear hcz69_2
       try clear hcz84_0
       try clear hcz84_1
       try clear hcz84_2
       try clear hcz86_0
       try clear hcz86_1
       try clear hcz86_2
       try clear hfz46_0
       try clear hfz46_1
       try clear hfz46_2
       try clear hfz49_0
       try clear hfz49_1
       try clear hfz49_2
       try clear hfz67_0
       try clear hfz67_1
       try clear hfz67_2
       try clear hfz69_0
       try clear hfz69_1
       try clear hfz69_2
       try clear hfz84_0
       try clear hfz84_1
       try clear hfz84_2
       try clear hfz86_0
       try clear hfz86_1
       try clear hfz86_2
       try clear hx229_0
       try clear hx229_1
       try clear hx230_0
       try clear hx230_1
       try clear hx237_0
       try clear hx237_1
       try clear hx238_0
       try clear hx238_1
       try clear p2
       try clear p22
       try clear p229
       try clear p23
       try clear p230
       try clear p237
       try clear p238
       try clear q2
       try clear q22
       try clear q229
       try clear q23
       try clear q230
       try clear q237
       try clear q238
       obtain ⟨x9_2, rfl, HA, HK2, BK213, HB⟩ := hrel
       cases gk with
       | zero => exact absurd HA.out (by simp [flywheellaw20_LossyPlays.l5002])
       | succ k2 =>
        have H := HA.out
        clear HA
        simp only [flywheellaw20_LossyPlays.l5002] at H
        have HC90 := Aside0.mk H
        clear H
        go_upto_region 6 with (fail)
        go_cut [51] (fun v51 wc => ∃ (kq : Nat) (x51_89 : Bool), v51 = .bool x51_89 ∧ Aside0 (flywheellaw20_LossyPlays.j11 kq l1 x9_2 x51_89 = some r) ∧ Aside0 (kq ≤ k2) ∧ Aside0 (wc.heap[gb213]? = some (.cells #[.int .i64 a0_0, .int .i64 a0_1, .int .i64 a0_2] 23 (0, 0))) ∧ Aside0 (Below w.heap.size w wc))
        case first =>
         have H := HC90.out
         clear HC90
         by_cases c91 : x9_2 < (l1.length : Int)
         ·rw [if_pos c91] at H
          have c91b0 : decide (x9_2 < (l1.length : Int)) = true := decide_eq_true c91
          clear c91
          (first | rw [c91b0] | (simp only [i64_w, i32_w]; rw [c91b0]) | skip)
          by_cases c92 : x9_2 < 300
          ·rw [if_pos c92] at H
           have c92b0 : decide (x9_2 < 300) = true := decide_eq_true c92
           clear c92
           have H' := Aside0.mk H
           clear H
           go_wp2
           go_meet
           case rel => exact ⟨_, (false), (by first | rfl | (simp; done) | (simp [*]; done)), H', ⟨by have := HJ81.out; have := HK2.out; first | omega | exact Nat.le_refl _⟩, ⟨by (with_reducible repeat (first | refine blk_drewN ?_ _ | refine blk_drew ?_ | refine blk_alloc ?_ _)); exact BK213.out⟩, ⟨by repeat (first | (with_reducible first | exact HB.out | apply below_alloc | apply pw_below_drewN | apply below_drew1 | refine below_set ?_ GE213.out) | exact HB.out)⟩⟩
          ·rw [if_neg c92] at H
           have c92b0 : decide (x9_2 < 300) = false := decide_eq_false c92
           clear c92
           have H' := Aside0.mk H
           clear H
           go_wp2
           go_meet
           case rel => exact ⟨_, (false), (by first | rfl | (simp; done) | (simp [*]; done)), H', ⟨by have := HJ81.out; have := HK2.out; first | omega | exact Nat.le_refl _⟩, ⟨by (with_reducible repeat (first | refine blk_drewN ?_ _ | refine blk_drew ?_ | refine blk_alloc ?_ _)); exact BK213.out⟩, ⟨by repeat (first | (with_reducible first | exact HB.out | apply below_alloc | apply pw_below_drewN | apply below_drew1 | refine below_set ?_ GE213.out) | exact HB.out)⟩⟩
         ·rw [if_neg c91] at H
          have c91b0 : decide (x9_2 < (l1.length : Int)) = false := decide_eq_false c91
          clear c91
          (first | rw [c91b0] | (simp only [i64_w, i32_w]; rw [c91b0]) | skip)
          have H' := Aside0.mk H
          clear H
          go_wp2
          go_meet
          case rel => exact ⟨_, (false), (by first | rfl | (simp; done) | (simp [*]; done)), H', ⟨by have := HJ81.out; have := HK2.out; first | omega | exact Nat.le_refl _⟩, ⟨by (with_reducible repeat (first | refine blk_drewN ?_ _ | refine blk_drew ?_ | refine blk_alloc ?_ _)); exact BK213.out⟩, ⟨by repeat (first | (with_reducible first | exact HB.out | apply below_alloc | apply pw_below_drewN | apply below_drew1 | refine below_set ?_ GE213.out) | exact HB.out)⟩⟩
        case rest =>
         clear HC90
         try clear c1
         try clear c2
         try clear p2
         try clear q2
         try clear hx2
         try clear c3
         try clear c3b0
         try clear c4
         try clear c5
         try clear c5b0
         try clear c6
         try clear c7
         try clear c8
         try clear c9
         try clear c10
         try clear c11
         try clear c12
         try clear c13
         try clear c19
         try clear c20
         try clear c21
         try clear p22
         try clear q22
         try clear hx22
         try clear p23
         try clear q23
         try clear hx23
         try clear c24
         try clear c24b0
         try clear c24b1
         try clear c48
         try clear c51
         try clear c51b0
         try clear c51b1
         try clear c52
         try clear c54
         try clear c54b0
         try clear c55
         try clear c55b0
         try clear c56
         try clear c57
         try clear c57b0
         try clear c58
         try clear c58b0
         try clear c63
         try clear c63b0
         try clear c71
         try clear c71b0
         try clear c71b1
         try clear c72
         try clear c74
         try clear c74b0
         try clear c75
         try clear c75b0
         try clear c76
         try clear c77
         try clear c77b0
         try clear c78
         try clear c78b0
         try clear c88
         try clear c88b0
         try clear c88b1
         try clear c89
         try clear c91
         try clear c91b0
         try clear c92
         try clear c92b0
         try clear hcz46_0
         try clear hcz46_1
         try clear hcz46_2
         try clear hcz49_0
         try clear hcz49_1
         try clear hcz49_2
         try clear hcz67_0
         try clear hcz67_1
         try clear hcz67_2
         try clear hcz69_0
         try clear hcz69_1
         try clear hcz69_2
         try clear hcz84_0
         try clear hcz84_1
         try clear hcz84_2
         try clear hcz86_0
         try clear hcz86_1
         try clear hcz86_2
         try clear hfz46_0
         try clear hfz46_1
         try clear hfz46_2
         try clear hfz49_0
         try clear hfz49_1
         try clear hfz49_2
         try clear hfz67_0
         try clear hfz67_1
         try clear hfz67_2
         try clear hfz69_0
         try clear hfz69_1
         try clear hfz69_2
         try clear hfz84_0
         try clear hfz84_1
         try clear hfz84_2
         try clear hfz86_0
         try clear hfz86_1
         try clear hfz86_2
         try clear hx229_0
         try clear hx229_1
         try clear hx230_0
         try clear hx230_1
         try clear hx237_0
         try clear hx237_1
         try clear hx238_0
         try clear hx238_1
         try clear p2
         try clear p22
         try clear p229
         try clear p23
         try clear p230
         try clear p237
         try clear p238
         try clear q2
         try clear q22
         try clear q229
         try clear q23
         try clear q230
         try clear q237
         try clear q238
         obtain ⟨kq, x51_89, rfl, HA, HJ89, BK213, HB⟩ := hcut
         cases kq with
         | zero => exact absurd HA.out (by simp [flywheellaw20_LossyPlays.j11])
         | succ kj89 =>
          have H := HA.out
          clear HA
          simp only [flywheellaw20_LossyPlays.j11] at H
          by_cases c93 : x51_89 = true
          ·subst c93
           have H1 : (if 0 ≤ x9_2 then (if x9_2 < (l1.length : Int) then (none) else (none)) else (none)) = some r := by rw [if_pos rfl] at H; exact H
           clear H
           have H := H1
           clear H1
           by_cases c94 : 0 ≤ x9_2
           ·rw [if_pos c94] at H
            have c94b0 : decide (0 ≤ x9_2) = true := decide_eq_true c94
            clear c94
            by_cases c95 : x9_2 < (l1.length : Int)
            ·rw [if_pos c95] at H
             have c95b0 : decide (x9_2 < (l1.length : Int)) = true := decide_eq_true c95
             clear c95
             exact absurd H (by simp)
            ·rw [if_neg c95] at H
             exact absurd H (by simp)
           ·rw [if_neg c94] at H
            exact absurd H (by simp)
          ·replace c93 := Bool.eq_false_iff.mpr c93
           subst c93
           have H1 : ((flywheellaw20_wakes.f).bind fun t281 => (some t281)) = some r := by rw [if_neg (show ¬ (false = true) by decide)] at H; exact H
           clear H
           have H := H1
           clear H1
           replace H := Option.bind_eq_some_iff.mp H
           obtain ⟨t281, A960, H⟩ := H
           replace H : (some t281) = some r := H
           have A96 := Aside0.mk A960
           clear A960
           obtain rfl := Option.some.inj H
           go_wp2_with (first | ((with_reducible refine gate_callee (f := 8) rfl ?_); refine goesL_ (some 86) rfl rfl Tryd.func8 (by kernel_rfl) rfl #[] rfl (by (try simp only [List.map_toArray, List.map_cons, List.map_nil]); first | done | rfl | (simp only [List.length_drop, List.length_take]; rfl)) ?_; (with_reducible refine (flywheellaw20_wakes.calls  t281 _ ?sideG A96.out).mono ?_); (case sideG => first | exact HTB.out | exact GL.below HTB.out (by repeat (first | (with_reducible first | exact HB.out | apply below_alloc | apply pw_below_drewN | apply below_drew1 | refine below_set ?_ GE213.out) | exact HB.out))); rintro e w97 ⟨rfl, hb⟩; refine ⟨_, rfl, ?_⟩; have n0_ := Aside0.mk (blk_below (g := gb213) (o := .cells #[.int .i64 a0_0, .int .i64 a0_1, .int .i64 a0_2] 23 (0, 0)) (by (with_reducible repeat (first | refine blk_drewN ?_ _ | refine blk_drew ?_ | refine blk_alloc ?_ _)); exact BK213.out) hb); have n1_ := Aside0.mk (below_step (by repeat (first | (with_reducible first | exact HB.out | apply below_alloc | apply pw_below_drewN | apply below_drew1 | refine below_set ?_ GE213.out) | exact HB.out)) hb); clear BK213; clear HB; have BK213 := n0_; have HB := n1_; clear n0_ n1_; (try clear hb); (try clear hb2); (try clear hk); (try clear hi)))
           go_ret
           exact ⟨by first | rfl | (simp [errW_none, errW_some] <;> rfl) | (simp [*, errW_none, errW_some] <;> rfl), by repeat (first | (with_reducible first | exact HB.out | apply below_alloc | apply pw_below_drewN | apply below_drew1 | refine below_set ?_ GE213.out) | exact HB.out)⟩
def flywheellaw20_LossyPlays.Pure : Prop := ∀ (a0_0 : Int) (a0_1 : Int) (a0_2 : Int) (l1 : List (S36)), (Lit.int .i64 a0_0).wf = true → (Lit.int .i64 a0_1).wf = true → (Lit.int .i64 a0_2).wf = true → l1.length ≤ maxLen → l1.length * 16 ≤ 140737488351232 → (∀ x ∈ l1, (Lit.int .i64 x.f0).wf = true ∧ (Lit.int .i64 x.f1).wf = true) → ∃ k, flywheellaw20_LossyPlays.f k a0_0 a0_1 a0_2 l1 = some true
theorem flywheellaw20_LossyPlays.walk (P : flywheellaw20_LossyPlays.Pure) (a0_0 : Int) (a0_1 : Int) (a0_2 : Int) (A1 : Option Addr) (c1 : Nat) (l1 : List (S36)) (w : World) (w0_0 : (Lit.int .i64 a0_0).wf = true) (w0_1 : (Lit.int .i64 a0_1).wf = true) (w0_2 : (Lit.int .i64 a0_2).wf = true) (hm1 : l1.length ≤ maxLen) (y1 : l1.length * 16 ≤ 140737488351232) (hw1 : (∀ x ∈ l1, (Lit.int .i64 x.f0).wf = true ∧ (Lit.int .i64 x.f1).wf = true)) (hr1 : Kd.C k36 w A1 l1.length l1) (hc1 : l1.length ≤ c1) (hG : GL w) :
  Calls Tryd.prog 4 #[.agg #[.int .i64 a0_0, .int .i64 a0_1, .int .i64 a0_2], .slice A1 l1.length c1] w fun e w' => e = .returned (.bool true) ∧ Below w.heap.size w w' := by
 obtain ⟨k, h⟩ := P a0_0 a0_1 a0_2 l1 w0_0 w0_1 w0_2 hm1 y1 hw1
 refine (flywheellaw20_LossyPlays.calls k a0_0 a0_1 a0_2 A1 c1 l1 true w hr1 hc1 hG h).mono ?_
 rintro e w' ⟨rfl, hd⟩
 exact ⟨rfl, hd⟩
end Go.Proofs.YtkfkbebpcmmnfaaDoor.P
end

section
namespace Go.Proofs.YtkfkbebpcmmnfaaDoor.P
open Go.RowKit Go.Proofs.YtkfkbebpcmmnfaaDoorW.PrintWords Go.Proofs.YtkfkbebpcmmnfaaDoorW.PrintLast Go.Proofs.YtkfkbebpcmmnfaaDoorW.PrintMore
attribute [local go_sem] max2_int min2_int max_two min_two max_three min_three max_four min_four   -- for this text's walks alone
set_option linter.unusedVariables false
set_option linter.unusedSimpArgs false
end Go.Proofs.YtkfkbebpcmmnfaaDoor.P
end

section
namespace Go.Proofs.YtkfkbebpcmmnfaaDoor.P
open Go.RowKit Go.Proofs.YtkfkbebpcmmnfaaDoorW.PrintWords Go.Proofs.YtkfkbebpcmmnfaaDoorW.PrintLast Go.Proofs.YtkfkbebpcmmnfaaDoorW.PrintMore
attribute [local go_sem] max2_int min2_int max_two min_two max_three min_three max_four min_four   -- for this text's walks alone
set_option linter.unusedVariables false
set_option linter.unusedSimpArgs false
end Go.Proofs.YtkfkbebpcmmnfaaDoor.P
end

section
namespace Go.Proofs.YtkfkbebpcmmnfaaDoor.P
open Go.RowKit
set_option linter.unusedVariables false
set_option linter.unusedSimpArgs false
theorem clamp_eq (a lo hi : Int) : sat_Clamp.f a lo hi = some (if a < lo then lo else if a > hi then hi else a) := by
  unfold sat_Clamp.f
  split
  · rfl
  · split <;> rfl
end Go.Proofs.YtkfkbebpcmmnfaaDoor.P
end

section
namespace Go.Proofs.YtkfkbebpcmmnfaaDoor.P
open Go.RowKit
set_option linter.unusedVariables false
set_option linter.unusedSimpArgs false
theorem rclamp_eq (a lo hi : Int) : flywheelref01_Clamp.f a lo hi = some (if a < lo then lo else if a > hi then hi else a) := by
  unfold flywheelref01_Clamp.f
  split
  · rfl
  · split <;> rfl
end Go.Proofs.YtkfkbebpcmmnfaaDoor.P
end

-- PUT TOGETHER by a program of this session: of the claim's texts, what is used
import Derived.Test.YtkfkbebpcmmnfaaKGuardBounds7
import Derived.Test.YtkfkbebpcmmnfaaKGuardBounds8
section
namespace Go.Proofs.Ytkfkbebpcmmnfaa.P
open Go.RowKit Go.Proofs.YtkfkbebpcmmnfaaW.PrintWords Go.Proofs.YtkfkbebpcmmnfaaW.PrintLast Go.Proofs.YtkfkbebpcmmnfaaW.PrintMore
attribute [local go_sem] max2_int min2_int max_two min_two max_three min_three max_four min_four   -- for this text's walks alone
set_option linter.unusedVariables false
set_option linter.unusedSimpArgs false
mutual
def flywheellaw28_GuardBounds.l0 : Nat → List (S24) → Int → Int → Int → Int → Int → Int → Int → Int → Int → Int → Int → Int → List (S85) → Int → Int → Int → Int → Int → Int → Int → Int → Int → Int → Int → Int → List (S85) → Int → Int → Int → Int → Bool → Bool → Option (Bool)
 | 0, _, _, _, _, _, _, _, _, _, _, _, _, _, _, _, _, _, _, _, _, _, _, _, _, _, _, _, _, _, _, _, _, _ => none
 | k + 1, x1, x7, x528000, x528001, x528002, x528003, x528004, x528005, x528006, x528007, x528008, x528009, x528010, x528011, x528012, x547000, x547001, x547002, x547003, x547004, x547005, x547006, x547007, x547008, x547009, x547010, x547011, x547012, x547013, x547014, x547015, x547016, x547017 => if x7 < (x1.length : Int) then (flywheellaw28_GuardBounds.j1 k x1 x7 (decide (x7 < 200)) x528000 x528001 x528002 x528003 x528004 x528005 x528006 x528007 x528008 x528009 x528010 x528011 x528012 x547000 x547001 x547002 x547003 x547004 x547005 x547006 x547007 x547008 x547009 x547010 x547011 x547012 x547013 x547014 x547015 x547016 x547017) else (flywheellaw28_GuardBounds.j1 k x1 x7 false x528000 x528001 x528002 x528003 x528004 x528005 x528006 x528007 x528008 x528009 x528010 x528011 x528012 x547000 x547001 x547002 x547003 x547004 x547005 x547006 x547007 x547008 x547009 x547010 x547011 x547012 x547013 x547014 x547015 x547016 x547017)
def flywheellaw28_GuardBounds.j1 : Nat → List (S24) → Int → Bool → Int → Int → Int → Int → Int → Int → Int → Int → Int → Int → Int → List (S85) → Int → Int → Int → Int → Int → Int → Int → Int → Int → Int → Int → Int → List (S85) → Int → Int → Int → Int → Bool → Bool → Option (Bool)
 | 0, _, _, _, _, _, _, _, _, _, _, _, _, _, _, _, _, _, _, _, _, _, _, _, _, _, _, _, _, _, _, _, _, _, _ => none
 | k + 1, x1, x7, x33, x528000, x528001, x528002, x528003, x528004, x528005, x528006, x528007, x528008, x528009, x528010, x528011, x528012, x547000, x547001, x547002, x547003, x547004, x547005, x547006, x547007, x547008, x547009, x547010, x547011, x547012, x547013, x547014, x547015, x547016, x547017 => if x33 = true then (if 0 ≤ x7 then (if x7 < (x1.length : Int) then (if ((rd_T24 x1 x7).f0) = 0 then ((guard_Guard_Hear.f x547000 x547001 x547002 x547003 x547004 x547005 x547006 x547007 x547008 x547009 x547010 x547011 x547012 x547013 x547014 x547015 x547016 x547017 ((rd_T24 x1 x7).f1) ((rd_T24 x1 x7).f2) ((rd_T24 x1 x7).f3) ((rd_T24 x1 x7).f5) ((rd_T24 x1 x7).f4)).bind fun bt557 => (flywheellaw28_GuardBounds.j2 k x1 x7 x528000 x528001 x528002 x528003 x528004 x528005 x528006 x528007 x528008 x528009 x528010 x528011 x528012 bt557.2.1 bt557.2.2.1 bt557.2.2.2.1 bt557.2.2.2.2.1 bt557.2.2.2.2.2.1 bt557.2.2.2.2.2.2.1 bt557.2.2.2.2.2.2.2.1 bt557.2.2.2.2.2.2.2.2.1 bt557.2.2.2.2.2.2.2.2.2.1 bt557.2.2.2.2.2.2.2.2.2.2.1 bt557.2.2.2.2.2.2.2.2.2.2.2.1 x547011 bt557.2.2.2.2.2.2.2.2.2.2.2.2.1 bt557.2.2.2.2.2.2.2.2.2.2.2.2.2.1 bt557.2.2.2.2.2.2.2.2.2.2.2.2.2.2.1 bt557.2.2.2.2.2.2.2.2.2.2.2.2.2.2.2.1 bt557.2.2.2.2.2.2.2.2.2.2.2.2.2.2.2.2.1 bt557.2.2.2.2.2.2.2.2.2.2.2.2.2.2.2.2.2)) else ((guard_Guard_Target.f x547000 x547001 x547002 x547003 x547004 x547005 x547006 x547007 x547008 x547009 x547010 x547011 x547012 x547013 x547014 x547015 x547016 x547017).bind fun bt575 => ((guard_Guard_Tick.f bt575.2.1 bt575.2.2.1 bt575.2.2.2.1 bt575.2.2.2.2.1 bt575.2.2.2.2.2.1 bt575.2.2.2.2.2.2.1 bt575.2.2.2.2.2.2.2.1 bt575.2.2.2.2.2.2.2.2.1 bt575.2.2.2.2.2.2.2.2.2.1 bt575.2.2.2.2.2.2.2.2.2.2.1 bt575.2.2.2.2.2.2.2.2.2.2.2.1 x547011 bt575.2.2.2.2.2.2.2.2.2.2.2.2.1 bt575.2.2.2.2.2.2.2.2.2.2.2.2.2.1 bt575.2.2.2.2.2.2.2.2.2.2.2.2.2.2.1 bt575.2.2.2.2.2.2.2.2.2.2.2.2.2.2.2.1 bt575.2.2.2.2.2.2.2.2.2.2.2.2.2.2.2.2.1 bt575.2.2.2.2.2.2.2.2.2.2.2.2.2.2.2.2.2 ((rd_T24 x1 x7).f4)).bind fun bt594 => (if bt594.1 > bt575.1 then (some false) else (flywheellaw28_GuardBounds.j2 k x1 x7 x528000 x528001 x528002 x528003 x528004 x528005 x528006 x528007 x528008 x528009 x528010 x528011 x528012 bt594.2.1 bt594.2.2.1 bt594.2.2.2.1 bt594.2.2.2.2.1 bt594.2.2.2.2.2.1 bt594.2.2.2.2.2.2.1 bt594.2.2.2.2.2.2.2.1 bt594.2.2.2.2.2.2.2.2.1 bt594.2.2.2.2.2.2.2.2.2.1 bt594.2.2.2.2.2.2.2.2.2.2.1 bt594.2.2.2.2.2.2.2.2.2.2.2.1 x547011 bt594.2.2.2.2.2.2.2.2.2.2.2.2.1 bt594.2.2.2.2.2.2.2.2.2.2.2.2.2.1 bt594.2.2.2.2.2.2.2.2.2.2.2.2.2.2.1 bt594.2.2.2.2.2.2.2.2.2.2.2.2.2.2.2.1 bt594.2.2.2.2.2.2.2.2.2.2.2.2.2.2.2.2.1 bt594.2.2.2.2.2.2.2.2.2.2.2.2.2.2.2.2.2))))) else (none)) else (none)) else ((flywheellaw28_wakes.f).bind fun t550 => (some t550))
def flywheellaw28_GuardBounds.j2 : Nat → List (S24) → Int → Int → Int → Int → Int → Int → Int → Int → Int → Int → Int → Int → List (S85) → Int → Int → Int → Int → Int → Int → Int → Int → Int → Int → Int → Int → List (S85) → Int → Int → Int → Int → Bool → Bool → Option (Bool)
 | 0, _, _, _, _, _, _, _, _, _, _, _, _, _, _, _, _, _, _, _, _, _, _, _, _, _, _, _, _, _, _, _, _, _ => none
 | k + 1, x1, x7, x528000, x528001, x528002, x528003, x528004, x528005, x528006, x528007, x528008, x528009, x528010, x528011, x528012, x547000, x547001, x547002, x547003, x547004, x547005, x547006, x547007, x547008, x547009, x547010, x547011, x547012, x547013, x547014, x547015, x547016, x547017 => (guard_Guard_Target.f x547000 x547001 x547002 x547003 x547004 x547005 x547006 x547007 x547008 x547009 x547010 x547011 x547012 x547013 x547014 x547015 x547016 x547017).bind fun bt612 => (if bt612.1 < x528001 then (some false) else ((guard_Guard_Target.f bt612.2.1 bt612.2.2.1 bt612.2.2.2.1 bt612.2.2.2.2.1 bt612.2.2.2.2.2.1 bt612.2.2.2.2.2.2.1 bt612.2.2.2.2.2.2.2.1 bt612.2.2.2.2.2.2.2.2.1 bt612.2.2.2.2.2.2.2.2.2.1 bt612.2.2.2.2.2.2.2.2.2.2.1 bt612.2.2.2.2.2.2.2.2.2.2.2.1 x547011 bt612.2.2.2.2.2.2.2.2.2.2.2.2.1 bt612.2.2.2.2.2.2.2.2.2.2.2.2.2.1 bt612.2.2.2.2.2.2.2.2.2.2.2.2.2.2.1 bt612.2.2.2.2.2.2.2.2.2.2.2.2.2.2.2.1 bt612.2.2.2.2.2.2.2.2.2.2.2.2.2.2.2.2.1 bt612.2.2.2.2.2.2.2.2.2.2.2.2.2.2.2.2.2).bind fun bt630 => (if bt630.1 > x528002 then (some false) else (flywheellaw28_GuardBounds.l0 k x1 (wrap64 (x7 + 1)) x528000 x528001 x528002 x528003 x528004 x528005 x528006 x528007 x528008 x528009 x528010 x528011 x528012 bt630.2.1 bt630.2.2.1 bt630.2.2.2.1 bt630.2.2.2.2.1 bt630.2.2.2.2.2.1 bt630.2.2.2.2.2.2.1 bt630.2.2.2.2.2.2.2.1 bt630.2.2.2.2.2.2.2.2.1 bt630.2.2.2.2.2.2.2.2.2.1 bt630.2.2.2.2.2.2.2.2.2.2.1 bt630.2.2.2.2.2.2.2.2.2.2.2.1 x547011 bt630.2.2.2.2.2.2.2.2.2.2.2.2.1 bt630.2.2.2.2.2.2.2.2.2.2.2.2.2.1 bt630.2.2.2.2.2.2.2.2.2.2.2.2.2.2.1 bt630.2.2.2.2.2.2.2.2.2.2.2.2.2.2.2.1 bt630.2.2.2.2.2.2.2.2.2.2.2.2.2.2.2.2.1 bt630.2.2.2.2.2.2.2.2.2.2.2.2.2.2.2.2.2))))
def flywheellaw28_GuardBounds.l5000 : Nat → List (S24) → Int → Option (Bool)
 | 0, _, _ => none
 | k + 1, x1, x7 => if x7 < (x1.length : Int) then (flywheellaw28_GuardBounds.j4 k x1 x7 (decide (x7 < 200))) else (flywheellaw28_GuardBounds.j4 k x1 x7 false)
def flywheellaw28_GuardBounds.j4 : Nat → List (S24) → Int → Bool → Option (Bool)
 | 0, _, _, _ => none
 | k + 1, x1, x7, x33 => if x33 = true then (if 0 ≤ x7 then (if x7 < (x1.length : Int) then (if ((rd_T24 x1 x7).f0) = 0 then (none) else (none)) else (none)) else (none)) else ((flywheellaw28_wakes.f).bind fun t651 => (some t651))
end
def flywheellaw28_GuardBounds.f (k : Nat) (a0_0 : Int) (a0_1 : Int) (a0_2 : Int) (a0_3 : Int) (a0_4 : Int) (a0_5 : Int) (a0_6 : Int) (a0_7 : Int) (a0_8 : Int) (a0_9 : Int) (a0_10 : Int) (l0_11 : List (S85)) (a0_12 : Int) (l1 : List (S24)) : Option (Bool) := if (guard_New.made.f a0_0 a0_1 a0_2 a0_3 a0_4 a0_5 a0_6 a0_7 a0_8 a0_9 a0_10 l0_11 a0_12).isSome = true then ((guard_New.made.f a0_0 a0_1 a0_2 a0_3 a0_4 a0_5 a0_6 a0_7 a0_8 a0_9 a0_10 l0_11 a0_12).bind fun bt528 => (if bt528.2.2.2.2.2.2.2.2.2.2.2.2.2.2.2.2.2.2 = 0 then (flywheellaw28_GuardBounds.l0 k l1 0 a0_0 a0_1 a0_2 a0_3 a0_4 a0_5 a0_6 a0_7 a0_8 a0_9 a0_10 l0_11 a0_12 bt528.1 bt528.2.1 bt528.2.2.1 bt528.2.2.2.1 bt528.2.2.2.2.1 bt528.2.2.2.2.2.1 bt528.2.2.2.2.2.2.1 bt528.2.2.2.2.2.2.2.1 bt528.2.2.2.2.2.2.2.2.1 bt528.2.2.2.2.2.2.2.2.2.1 bt528.2.2.2.2.2.2.2.2.2.2.1 bt528.2.2.2.2.2.2.2.2.2.2.2.1 bt528.2.2.2.2.2.2.2.2.2.2.2.2.1 bt528.2.2.2.2.2.2.2.2.2.2.2.2.2.1 bt528.2.2.2.2.2.2.2.2.2.2.2.2.2.2.1 bt528.2.2.2.2.2.2.2.2.2.2.2.2.2.2.2.1 bt528.2.2.2.2.2.2.2.2.2.2.2.2.2.2.2.2.1 bt528.2.2.2.2.2.2.2.2.2.2.2.2.2.2.2.2.2.1) else (if bt528.2.2.2.2.2.2.2.2.2.2.2.2.2.2.2.2.2.2 = 290 then ((flywheelref28_Good.f a0_0 a0_1 a0_2 a0_3 a0_4 a0_5 a0_6 a0_7 a0_8 a0_9 a0_10 l0_11 a0_12).bind fun t548 => (if t548 = true then (some false) else ((flywheellaw28_wakes.f).bind fun t549 => (some t549)))) else (some false)))) else ((guard_New.nil.f a0_0 a0_1 a0_2 a0_3 a0_4 a0_5 a0_6 a0_7 a0_8 a0_9 a0_10 l0_11 a0_12).bind fun t648 => (if t648 = 0 then (flywheellaw28_GuardBounds.l5000 k l1 0) else (if t648 = 290 then ((flywheelref28_Good.f a0_0 a0_1 a0_2 a0_3 a0_4 a0_5 a0_6 a0_7 a0_8 a0_9 a0_10 l0_11 a0_12).bind fun t649 => (if t649 = true then (some false) else ((flywheellaw28_wakes.f).bind fun t650 => (some t650)))) else (some false))))
def flywheellaw28_GuardBounds.T8 : Bool × List (List Nat × List Nat) := (true, [([], []), ([], []), ([], []), ([1, 2], [1, 2]), ([3], [3]), ([4], [4]), ([], []), ([], []), ([6, 7], [6, 7]), ([8], [8]), ([9], [9]), ([], []), ([], []), ([11, 12], [11, 12]), ([13], [13]), ([14], [14]), ([], []), ([], []), ([16, 17], [16, 17]), ([18], [18]), ([19], [19]), ([], []), ([], []), ([21, 22], [21, 22]), ([23], [23]), ([24], [24]), ([0, 5, 10, 15, 20, 25], [0, 5, 10, 15, 20, 25])])
def flywheellaw28_GuardBounds.B8 : List Nat := [0, 0, 0, 6, 14, 30, 0, 0, 192, 448, 960, 0, 0, 6144, 14336, 30720, 0, 0, 196608, 458752, 983040, 0, 0, 6291456, 14680064, 31457280, 67108863]
theorem flywheellaw28_GuardBounds.tab8 : rtab .any (opsOf Try.f6 8) = flywheellaw28_GuardBounds.T8 := by kernel_rfl
theorem flywheellaw28_GuardBounds.bits8 : waitsOk flywheellaw28_GuardBounds.T8.2 flywheellaw28_GuardBounds.B8 = true := by kernel_rfl
def flywheellaw28_GuardBounds.T12 : Bool × List (List Nat × List Nat) := (true, [([], []), ([0], [0]), ([], []), ([2], [2]), ([1, 3], [1, 3]), ([4, 1], [4]), ([5], [5]), ([6, 5, 5], [5, 6]), ([5], [5]), ([8, 5], [5, 8]), ([7, 9, 5], [5, 7, 9]), ([5, 10], [5, 10])])
def flywheellaw28_GuardBounds.B12 : List Nat := [0, 1, 0, 4, 15, 31, 63, 127, 63, 319, 1023, 2047]
theorem flywheellaw28_GuardBounds.tab12 : rtab .any (opsOf Try.f6 12) = flywheellaw28_GuardBounds.T12 := by kernel_rfl
theorem flywheellaw28_GuardBounds.bits12 : waitsOk flywheellaw28_GuardBounds.T12.2 flywheellaw28_GuardBounds.B12 = true := by kernel_rfl
set_option maxHeartbeats 8000000 in
set_option maxRecDepth 100000 in
theorem flywheellaw28_GuardBounds.calls (k : Nat) (a0_0 : Int) (a0_1 : Int) (a0_2 : Int) (a0_3 : Int) (a0_4 : Int) (a0_5 : Int) (a0_6 : Int) (a0_7 : Int) (a0_8 : Int) (a0_9 : Int) (a0_10 : Int) (A0_11 : Option Addr) (c0_11 : Nat) (l0_11 : List (S85)) (a0_12 : Int) (A1 : Option Addr) (c1 : Nat) (l1 : List (S24)) (r : Bool) (w : World) (hr0_11 : Kd.C k85 w A0_11 l0_11.length l0_11) (hc0_11 : l0_11.length ≤ c0_11) (hr1 : Kd.C k24 w A1 l1.length l1) (hc1 : l1.length ≤ c1) (h : flywheellaw28_GuardBounds.f k a0_0 a0_1 a0_2 a0_3 a0_4 a0_5 a0_6 a0_7 a0_8 a0_9 a0_10 l0_11 a0_12 l1 = some r) :
  Calls Try.prog 6 #[.agg #[.int .i64 a0_0, .int .i64 a0_1, .int .i64 a0_2, .int .i64 a0_3, .int .i64 a0_4, .int .i64 a0_5, .int .i64 a0_6, .int .i64 a0_7, .int .i64 a0_8, .int .i64 a0_9, .int .i64 a0_10, .slice A0_11 l0_11.length c0_11, .int .i64 a0_12], .slice A1 l1.length c1] w fun e w' => e = .returned (.bool r) ∧ Below w.heap.size w w' := by
 have hu27 := Try.underlying27
 have HR0_11 := Aside0.mk hr0_11
 have HC0_11 := Aside0.mk hc0_11
 clear hr0_11 hc0_11
 have HR1 := Aside0.mk hr1
 have HC1 := Aside0.mk hc1
 clear hr1 hc1
 have HB := Aside0.mk (Below.refl w.heap.size w)
 have H : (if (guard_New.made.f a0_0 a0_1 a0_2 a0_3 a0_4 a0_5 a0_6 a0_7 a0_8 a0_9 a0_10 l0_11 a0_12).isSome = true then ((guard_New.made.f a0_0 a0_1 a0_2 a0_3 a0_4 a0_5 a0_6 a0_7 a0_8 a0_9 a0_10 l0_11 a0_12).bind fun bt528 => (if bt528.2.2.2.2.2.2.2.2.2.2.2.2.2.2.2.2.2.2 = 0 then (flywheellaw28_GuardBounds.l0 k l1 0 a0_0 a0_1 a0_2 a0_3 a0_4 a0_5 a0_6 a0_7 a0_8 a0_9 a0_10 l0_11 a0_12 bt528.1 bt528.2.1 bt528.2.2.1 bt528.2.2.2.1 bt528.2.2.2.2.1 bt528.2.2.2.2.2.1 bt528.2.2.2.2.2.2.1 bt528.2.2.2.2.2.2.2.1 bt528.2.2.2.2.2.2.2.2.1 bt528.2.2.2.2.2.2.2.2.2.1 bt528.2.2.2.2.2.2.2.2.2.2.1 bt528.2.2.2.2.2.2.2.2.2.2.2.1 bt528.2.2.2.2.2.2.2.2.2.2.2.2.1 bt528.2.2.2.2.2.2.2.2.2.2.2.2.2.1 bt528.2.2.2.2.2.2.2.2.2.2.2.2.2.2.1 bt528.2.2.2.2.2.2.2.2.2.2.2.2.2.2.2.1 bt528.2.2.2.2.2.2.2.2.2.2.2.2.2.2.2.2.1 bt528.2.2.2.2.2.2.2.2.2.2.2.2.2.2.2.2.2.1) else (if bt528.2.2.2.2.2.2.2.2.2.2.2.2.2.2.2.2.2.2 = 290 then ((flywheelref28_Good.f a0_0 a0_1 a0_2 a0_3 a0_4 a0_5 a0_6 a0_7 a0_8 a0_9 a0_10 l0_11 a0_12).bind fun t548 => (if t548 = true then (some false) else ((flywheellaw28_wakes.f).bind fun t549 => (some t549)))) else (some false)))) else ((guard_New.nil.f a0_0 a0_1 a0_2 a0_3 a0_4 a0_5 a0_6 a0_7 a0_8 a0_9 a0_10 l0_11 a0_12).bind fun t648 => (if t648 = 0 then (flywheellaw28_GuardBounds.l5000 k l1 0) else (if t648 = 290 then ((flywheelref28_Good.f a0_0 a0_1 a0_2 a0_3 a0_4 a0_5 a0_6 a0_7 a0_8 a0_9 a0_10 l0_11 a0_12).bind fun t649 => (if t649 = true then (some false) else ((flywheellaw28_wakes.f).bind fun t650 => (some t650)))) else (some false))))) = some r := h
 clear h
 by_cases c3 : (guard_New.made.f a0_0 a0_1 a0_2 a0_3 a0_4 a0_5 a0_6 a0_7 a0_8 a0_9 a0_10 l0_11 a0_12).isSome = true
 ·rw [if_pos c3] at H
  have c3b0 : (guard_New.made.f a0_0 a0_1 a0_2 a0_3 a0_4 a0_5 a0_6 a0_7 a0_8 a0_9 a0_10 l0_11 a0_12).isSome = true := c3
  clear c3
  replace H := Option.bind_eq_some_iff.mp H
  obtain ⟨⟨t528, t529, t530, t531, t532, t533, t534, t535, t536, t537, t538, t539, t540, t541, t542, t543, t544, t545, t547⟩, A40, H⟩ := H
  replace H : (if t547 = 0 then (flywheellaw28_GuardBounds.l0 k l1 0 a0_0 a0_1 a0_2 a0_3 a0_4 a0_5 a0_6 a0_7 a0_8 a0_9 a0_10 l0_11 a0_12 t528 t529 t530 t531 t532 t533 t534 t535 t536 t537 t538 t539 t540 t541 t542 t543 t544 t545) else (if t547 = 290 then ((flywheelref28_Good.f a0_0 a0_1 a0_2 a0_3 a0_4 a0_5 a0_6 a0_7 a0_8 a0_9 a0_10 l0_11 a0_12).bind fun t548 => (if t548 = true then (some false) else ((flywheellaw28_wakes.f).bind fun t549 => (some t549)))) else (some false))) = some r := H
  have A4 := Aside0.mk A40
  clear A40
  by_cases c5 : t547 = 0
  ·rw [if_pos c5] at H
   have c5b0 : (t547 == 0) = true := beq_iff_eq.mpr c5
   have c5b1 : (t547 != 0) = false := bne_eq_false_iff_eq.mpr c5
   clear c5
   have H' := Aside0.mk H
   clear H
   go_enter Try.func6, Try.ntmps6
   go_wp2_with (first | ((with_reducible refine gate_dst (N := 2) rfl ?_); refine box_event ?hg (N := 2) ?hd (cs := #[.int .i64 a0_0, .int .i64 a0_1, .int .i64 a0_2, .int .i64 a0_3, .int .i64 a0_4, .int .i64 a0_5, .int .i64 a0_6, .int .i64 a0_7, .int .i64 a0_8, .int .i64 a0_9, .int .i64 a0_10, .slice A0_11 l0_11.length c0_11, .int .i64 a0_12]) (t := 27) ?hr ?_; (case hd => rfl); (case hg => rfl); (case hr => first | (go_simp; done) | (go_simp; rfl)); intro gb527 hg w6 hbox hb; have n0_ := Aside0.mk (below_step (by repeat (first | (with_reducible first | exact HB.out | apply below_alloc | apply pw_below_drewN | apply below_drew1) | exact HB.out)) hb); have n1_ := Aside0.mk (hbox); have n2_ := Aside0.mk ((by rw [hg]; exact (below_size (by repeat (first | (with_reducible first | exact HB.out | apply below_alloc | apply pw_below_drewN | apply below_drew1) | exact HB.out))) : w.heap.size ≤ gb527)); have n3_ := Aside0.mk ((by rw [hg]; exact (below_size (by repeat (first | (with_reducible first | exact HB.out | apply below_alloc | apply pw_below_drewN | apply below_drew1) | exact HB.out))) : w.heap.size ≤ gb527)); clear HB; have HB := n0_; have BK527 := n1_; have GW527 := n2_; have GE527 := n3_; clear n0_ n1_ n2_ n3_; clear hb hbox hg; have hcz7_0 : w6.cell? ⟨gb527, 0, none⟩ = some (.int .i64 a0_0) := (blk_cell BK527.out 0).trans rfl; have hcz7_1 : w6.cell? ⟨gb527, 1, none⟩ = some (.int .i64 a0_1) := (blk_cell BK527.out 1).trans rfl; have hcz7_2 : w6.cell? ⟨gb527, 2, none⟩ = some (.int .i64 a0_2) := (blk_cell BK527.out 2).trans rfl; have hcz7_3 : w6.cell? ⟨gb527, 3, none⟩ = some (.int .i64 a0_3) := (blk_cell BK527.out 3).trans rfl; have hcz7_4 : w6.cell? ⟨gb527, 4, none⟩ = some (.int .i64 a0_4) := (blk_cell BK527.out 4).trans rfl; have hcz7_5 : w6.cell? ⟨gb527, 5, none⟩ = some (.int .i64 a0_5) := (blk_cell BK527.out 5).trans rfl; have hcz7_6 : w6.cell? ⟨gb527, 6, none⟩ = some (.int .i64 a0_6) := (blk_cell BK527.out 6).trans rfl; have hcz7_7 : w6.cell? ⟨gb527, 7, none⟩ = some (.int .i64 a0_7) := (blk_cell BK527.out 7).trans rfl; have hcz7_8 : w6.cell? ⟨gb527, 8, none⟩ = some (.int .i64 a0_8) := (blk_cell BK527.out 8).trans rfl; have hcz7_9 : w6.cell? ⟨gb527, 9, none⟩ = some (.int .i64 a0_9) := (blk_cell BK527.out 9).trans rfl; have hcz7_10 : w6.cell? ⟨gb527, 10, none⟩ = some (.int .i64 a0_10) := (blk_cell BK527.out 10).trans rfl; have hcz7_11 : w6.cell? ⟨gb527, 11, none⟩ = some (.slice A0_11 l0_11.length c0_11) := (blk_cell BK527.out 11).trans rfl; have hcz7_12 : w6.cell? ⟨gb527, 12, none⟩ = some (.int .i64 a0_12) := (blk_cell BK527.out 12).trans rfl; have hfz7_0 := blk_frozen BK527.out 0; have hfz7_1 := blk_frozen BK527.out 1; have hfz7_2 := blk_frozen BK527.out 2; have hfz7_3 := blk_frozen BK527.out 3; have hfz7_4 := blk_frozen BK527.out 4; have hfz7_5 := blk_frozen BK527.out 5; have hfz7_6 := blk_frozen BK527.out 6; have hfz7_7 := blk_frozen BK527.out 7; have hfz7_8 := blk_frozen BK527.out 8; have hfz7_9 := blk_frozen BK527.out 9; have hfz7_10 := blk_frozen BK527.out 10; have hfz7_11 := blk_frozen BK527.out 11; have hfz7_12 := blk_frozen BK527.out 12) | ((with_reducible refine gate_callee (f := 10) rfl ?_); refine goesL_ (some 11) rfl rfl Try.func10 (by kernel_rfl) rfl #[.agg #[.int .i64 a0_0, .int .i64 a0_1, .int .i64 a0_2, .int .i64 a0_3, .int .i64 a0_4, .int .i64 a0_5, .int .i64 a0_6, .int .i64 a0_7, .int .i64 a0_8, .int .i64 a0_9, .int .i64 a0_10, .slice A0_11 l0_11.length c0_11, .int .i64 a0_12]] rfl (by (try simp only [List.map_toArray, List.map_cons, List.map_nil]); first | done | rfl | (simp only [List.length_drop, List.length_take]; rfl)) ?_; (with_reducible refine (guard_New.made.calls a0_0 a0_1 a0_2 a0_3 a0_4 a0_5 a0_6 a0_7 a0_8 a0_9 a0_10 _ _ l0_11 a0_12 t528 t529 t530 t531 t532 t533 t534 t535 t536 t537 t538 t539 t540 t541 t542 t543 t544 t545 t547 w _ ?side1 ?side2 ?side3 A4.out).mono ?_); (case side1 => repeat (first | (with_reducible first | exact HB.out | apply below_alloc | apply pw_below_drewN | apply below_drew1 | refine below_set ?_ GE527.out) | exact HB.out)); (case side2 => exact HR0_11.out); (case side3 => exact HC0_11.out); rintro e w8 ⟨g546, rfl, hi, hb, hb2⟩; refine ⟨_, rfl, ?_⟩; have n0_ := Aside0.mk (blk_below (g := gb527) (o := .cells #[.int .i64 a0_0, .int .i64 a0_1, .int .i64 a0_2, .int .i64 a0_3, .int .i64 a0_4, .int .i64 a0_5, .int .i64 a0_6, .int .i64 a0_7, .int .i64 a0_8, .int .i64 a0_9, .int .i64 a0_10, .slice A0_11 l0_11.length c0_11, .int .i64 a0_12] 27 (0, 0)) (by (with_reducible repeat (first | refine blk_drewN ?_ _ | refine blk_drew ?_ | refine blk_alloc ?_ _)); exact BK527.out) hb2); have n1_ := Aside0.mk (hb); have n2_ := Aside0.mk (hi); have n3_ := Aside0.mk (IsS48.ne_blk hi (blk_below (g := gb527) (o := .cells #[.int .i64 a0_0, .int .i64 a0_1, .int .i64 a0_2, .int .i64 a0_3, .int .i64 a0_4, .int .i64 a0_5, .int .i64 a0_6, .int .i64 a0_7, .int .i64 a0_8, .int .i64 a0_9, .int .i64 a0_10, .slice A0_11 l0_11.length c0_11, .int .i64 a0_12] 27 (0, 0)) (by (with_reducible repeat (first | refine blk_drewN ?_ _ | refine blk_drew ?_ | refine blk_alloc ?_ _)); exact BK527.out) hb2) (by decide)); have n4_ := Aside0.mk (Ne.symm (IsS48.ne_blk hi (blk_below (g := gb527) (o := .cells #[.int .i64 a0_0, .int .i64 a0_1, .int .i64 a0_2, .int .i64 a0_3, .int .i64 a0_4, .int .i64 a0_5, .int .i64 a0_6, .int .i64 a0_7, .int .i64 a0_8, .int .i64 a0_9, .int .i64 a0_10, .slice A0_11 l0_11.length c0_11, .int .i64 a0_12] 27 (0, 0)) (by (with_reducible repeat (first | refine blk_drewN ?_ _ | refine blk_drew ?_ | refine blk_alloc ?_ _)); exact BK527.out) hb2) (by decide))); clear BK527; clear HB; have BK527 := n0_; have HB := n1_; have HI546 := n2_; have NB546_527 := n3_; have NB527_546 := n4_; clear n0_ n1_ n2_ n3_ n4_; (try clear hb); (try clear hb2); (try clear hk); (try clear hi)))
   go_loopg [7] k (fun kq v7 w' => ∃ (x7_1 : Int) (x547000_1 : Int) (x547001_1 : Int) (x547002_1 : Int) (x547003_1 : Int) (x547004_1 : Int) (x547005_1 : Int) (x547006_1 : Int) (x547007_1 : Int) (x547008_1 : Int) (x547009_1 : Int) (x547010_1 : Int) (x547012_1 : Int) (x547013_1 : Int) (x547014_1 : Int) (x547015_1 : Int) (x547016_1 : Bool) (x547017_1 : Bool), v7 = .int .i64 x7_1 ∧ Aside0 (flywheellaw28_GuardBounds.l0 kq l1 x7_1 a0_0 a0_1 a0_2 a0_3 a0_4 a0_5 a0_6 a0_7 a0_8 a0_9 a0_10 l0_11 a0_12 x547000_1 x547001_1 x547002_1 x547003_1 x547004_1 x547005_1 x547006_1 x547007_1 x547008_1 x547009_1 x547010_1 t539 x547012_1 x547013_1 x547014_1 x547015_1 x547016_1 x547017_1 = some r) ∧ Aside0 (kq ≤ k) ∧ Aside0 (w'.heap[gb527]? = some (.cells #[.int .i64 a0_0, .int .i64 a0_1, .int .i64 a0_2, .int .i64 a0_3, .int .i64 a0_4, .int .i64 a0_5, .int .i64 a0_6, .int .i64 a0_7, .int .i64 a0_8, .int .i64 a0_9, .int .i64 a0_10, (.slice A0_11 l0_11.length c0_11), .int .i64 a0_12] 27 (0, 0))) ∧ Aside0 (IsS48 w w' g546 x547000_1 x547001_1 x547002_1 x547003_1 x547004_1 x547005_1 x547006_1 x547007_1 x547008_1 x547009_1 x547010_1 t539 x547012_1 x547013_1 x547014_1 x547015_1 x547016_1 x547017_1) ∧ Aside0 (Below w.heap.size w w'))
   case atStart => exact ⟨(0), (t528), (t529), (t530), (t531), (t532), (t533), (t534), (t535), (t536), (t537), (t538), (t540), (t541), (t542), (t543), (t544), (t545), (by first | rfl | (simp; done) | (simp [*]; done)), H', ⟨Nat.le_refl _⟩, ⟨by (with_reducible repeat (first | refine blk_drewN ?_ _ | refine blk_drew ?_ | refine blk_alloc ?_ _)); exact BK527.out⟩, ⟨by repeat (first | (with_reducible first | exact HI546.out | apply IsS48.alloc | apply IsS48.drewN | apply IsS48.drew | apply IsS48.set_0 | apply IsS48.set_1 | apply IsS48.set_2 | apply IsS48.set_3 | apply IsS48.set_4 | apply IsS48.set_5 | apply IsS48.set_6 | apply IsS48.set_7 | apply IsS48.set_8 | apply IsS48.set_9 | apply IsS48.set_10 | apply IsS48.set_12 | apply IsS48.set_13 | apply IsS48.set_14 | apply IsS48.set_15 | apply IsS48.set_16 | apply IsS48.set_17 | refine IsS48.far ?_ NB546_527.out _) | exact HI546.out)⟩, ⟨by repeat (first | (with_reducible first | exact HB.out | apply below_alloc | apply pw_below_drewN | apply below_drew1 | refine below_set ?_ (IsS48.ge HI546.out) | refine below_set ?_ GE527.out) | exact HB.out)⟩⟩
   case round =>
    clear H'
    try clear c1
    try clear p2
    try clear c3
    try clear c3b0
    try clear c5
    try clear c5b0
    try clear c5b1
    try clear c6
    try clear hcz7_0
    try clear hcz7_1
    try clear hcz7_10
    try clear hcz7_11
    try clear hcz7_12
    try clear hcz7_2
    try clear hcz7_3
    try clear hcz7_4
    try clear hcz7_5
    try clear hcz7_6
    try clear hcz7_7
    try clear hcz7_8
    try clear hcz7_9
    try clear hfz7_0
    try clear hfz7_1
    try clear hfz7_10
    try clear hfz7_11
    try clear hfz7_12
    try clear hfz7_2
    try clear hfz7_3
    try clear hfz7_4
    try clear hfz7_5
    try clear hfz7_6
    try clear hfz7_7
    try clear hfz7_8
    try clear hfz7_9
    obtain ⟨x7_1, x547000_1, x547001_1, x547002_1, x547003_1, x547004_1, x547005_1, x547006_1, x547007_1, x547008_1, x547009_1, x547010_1, x547012_1, x547013_1, x547014_1, x547015_1, x547016_1, x547017_1, rfl, HA, HK1, BK527, HI546, HB⟩ := hrel
    cases gk with
    | zero => exact absurd HA.out (by simp [flywheellaw28_GuardBounds.l0])
    | succ k1 =>
     have H := HA.out
     clear HA
     simp only [flywheellaw28_GuardBounds.l0] at H
     have HC9 := Aside0.mk H
     clear H
     go_upto_region 5 with (fail)
     go_cut [33] (fun v33 wc => ∃ (kq : Nat) (x33_8 : Bool), v33 = .bool x33_8 ∧ Aside0 (flywheellaw28_GuardBounds.j1 kq l1 x7_1 x33_8 a0_0 a0_1 a0_2 a0_3 a0_4 a0_5 a0_6 a0_7 a0_8 a0_9 a0_10 l0_11 a0_12 x547000_1 x547001_1 x547002_1 x547003_1 x547004_1 x547005_1 x547006_1 x547007_1 x547008_1 x547009_1 x547010_1 t539 x547012_1 x547013_1 x547014_1 x547015_1 x547016_1 x547017_1 = some r) ∧ Aside0 (kq ≤ k1) ∧ Aside0 (wc.heap[gb527]? = some (.cells #[.int .i64 a0_0, .int .i64 a0_1, .int .i64 a0_2, .int .i64 a0_3, .int .i64 a0_4, .int .i64 a0_5, .int .i64 a0_6, .int .i64 a0_7, .int .i64 a0_8, .int .i64 a0_9, .int .i64 a0_10, (.slice A0_11 l0_11.length c0_11), .int .i64 a0_12] 27 (0, 0))) ∧ Aside0 (IsS48 w wc g546 x547000_1 x547001_1 x547002_1 x547003_1 x547004_1 x547005_1 x547006_1 x547007_1 x547008_1 x547009_1 x547010_1 t539 x547012_1 x547013_1 x547014_1 x547015_1 x547016_1 x547017_1) ∧ Aside0 (Below w.heap.size w wc))
     case first =>
      have H := HC9.out
      clear HC9
      by_cases c10 : x7_1 < (l1.length : Int)
      ·rw [if_pos c10] at H
       have c10b0 : decide (x7_1 < (l1.length : Int)) = true := decide_eq_true c10
       clear c10
       (first | rw [c10b0] | (simp only [i64_w, i32_w]; rw [c10b0]) | skip)
       have H' := Aside0.mk H
       clear H
       go_wp2
       go_meet
       case rel => exact ⟨_, (decide (x7_1 < 200)), (by first | rfl | (simp; done) | (simp [*]; done)), H', ⟨by have := HK1.out; first | omega | exact Nat.le_refl _⟩, ⟨by (with_reducible repeat (first | refine blk_drewN ?_ _ | refine blk_drew ?_ | refine blk_alloc ?_ _)); exact BK527.out⟩, ⟨by repeat (first | (with_reducible first | exact HI546.out | apply IsS48.alloc | apply IsS48.drewN | apply IsS48.drew | apply IsS48.set_0 | apply IsS48.set_1 | apply IsS48.set_2 | apply IsS48.set_3 | apply IsS48.set_4 | apply IsS48.set_5 | apply IsS48.set_6 | apply IsS48.set_7 | apply IsS48.set_8 | apply IsS48.set_9 | apply IsS48.set_10 | apply IsS48.set_12 | apply IsS48.set_13 | apply IsS48.set_14 | apply IsS48.set_15 | apply IsS48.set_16 | apply IsS48.set_17 | refine IsS48.far ?_ NB546_527.out _) | exact HI546.out)⟩, ⟨by repeat (first | (with_reducible first | exact HB.out | apply below_alloc | apply pw_below_drewN | apply below_drew1 | refine below_set ?_ (IsS48.ge HI546.out) | refine below_set ?_ GE527.out) | exact HB.out)⟩⟩
      ·rw [if_neg c10] at H
       have c10b0 : decide (x7_1 < (l1.length : Int)) = false := decide_eq_false c10
       clear c10
       (first | rw [c10b0] | (simp only [i64_w, i32_w]; rw [c10b0]) | skip)
       have H' := Aside0.mk H
       clear H
       go_wp2
       go_meet
       case rel => exact ⟨_, (false), (by first | rfl | (simp; done) | (simp [*]; done)), H', ⟨by have := HK1.out; first | omega | exact Nat.le_refl _⟩, ⟨by (with_reducible repeat (first | refine blk_drewN ?_ _ | refine blk_drew ?_ | refine blk_alloc ?_ _)); exact BK527.out⟩, ⟨by repeat (first | (with_reducible first | exact HI546.out | apply IsS48.alloc | apply IsS48.drewN | apply IsS48.drew | apply IsS48.set_0 | apply IsS48.set_1 | apply IsS48.set_2 | apply IsS48.set_3 | apply IsS48.set_4 | apply IsS48.set_5 | apply IsS48.set_6 | apply IsS48.set_7 | apply IsS48.set_8 | apply IsS48.set_9 | apply IsS48.set_10 | apply IsS48.set_12 | apply IsS48.set_13 | apply IsS48.set_14 | apply IsS48.set_15 | apply IsS48.set_16 | apply IsS48.set_17 | refine IsS48.far ?_ NB546_527.out _) | exact HI546.out)⟩, ⟨by repeat (first | (with_reducible first | exact HB.out | apply below_alloc | apply pw_below_drewN | apply below_drew1 | refine below_set ?_ (IsS48.ge HI546.out) | refine below_set ?_ GE527.out) | exact HB.out)⟩⟩
     case rest =>
      clear HC9
      try clear c1
      try clear p2
      try clear c3
      try clear c3b0
      try clear c5
      try clear c5b0
      try clear c5b1
      try clear c6
      try clear c10
      try clear c10b0
      try clear hcz7_0
      try clear hcz7_1
      try clear hcz7_10
      try clear hcz7_11
      try clear hcz7_12
      try clear hcz7_2
      try clear hcz7_3
      try clear hcz7_4
      try clear hcz7_5
      try clear hcz7_6
      try clear hcz7_7
      try clear hcz7_8
      try clear hcz7_9
      try clear hfz7_0
      try clear hfz7_1
      try clear hfz7_10
      try clear hfz7_11
      try clear hfz7_12
      try clear hfz7_2
      try clear hfz7_3
      try clear hfz7_4
      try clear hfz7_5
      try clear hfz7_6
      try clear hfz7_7
      try clear hfz7_8
      try clear hfz7_9
      try clear p2
      obtain ⟨kq, x33_8, rfl, HA, HJ8, BK527, HI546, HB⟩ := hcut
      cases kq with
      | zero => exact absurd HA.out (by simp [flywheellaw28_GuardBounds.j1])
      | succ kj8 =>
       have H := HA.out
       clear HA
       simp only [flywheellaw28_GuardBounds.j1] at H
       by_cases c11 : x33_8 = true
       ·subst c11
        have H1 : (if 0 ≤ x7_1 then (if x7_1 < (l1.length : Int) then (if ((rd_T24 l1 x7_1).f0) = 0 then ((guard_Guard_Hear.f x547000_1 x547001_1 x547002_1 x547003_1 x547004_1 x547005_1 x547006_1 x547007_1 x547008_1 x547009_1 x547010_1 t539 x547012_1 x547013_1 x547014_1 x547015_1 x547016_1 x547017_1 ((rd_T24 l1 x7_1).f1) ((rd_T24 l1 x7_1).f2) ((rd_T24 l1 x7_1).f3) ((rd_T24 l1 x7_1).f5) ((rd_T24 l1 x7_1).f4)).bind fun bt557 => (flywheellaw28_GuardBounds.j2 kj8 l1 x7_1 a0_0 a0_1 a0_2 a0_3 a0_4 a0_5 a0_6 a0_7 a0_8 a0_9 a0_10 l0_11 a0_12 bt557.2.1 bt557.2.2.1 bt557.2.2.2.1 bt557.2.2.2.2.1 bt557.2.2.2.2.2.1 bt557.2.2.2.2.2.2.1 bt557.2.2.2.2.2.2.2.1 bt557.2.2.2.2.2.2.2.2.1 bt557.2.2.2.2.2.2.2.2.2.1 bt557.2.2.2.2.2.2.2.2.2.2.1 bt557.2.2.2.2.2.2.2.2.2.2.2.1 t539 bt557.2.2.2.2.2.2.2.2.2.2.2.2.1 bt557.2.2.2.2.2.2.2.2.2.2.2.2.2.1 bt557.2.2.2.2.2.2.2.2.2.2.2.2.2.2.1 bt557.2.2.2.2.2.2.2.2.2.2.2.2.2.2.2.1 bt557.2.2.2.2.2.2.2.2.2.2.2.2.2.2.2.2.1 bt557.2.2.2.2.2.2.2.2.2.2.2.2.2.2.2.2.2)) else ((guard_Guard_Target.f x547000_1 x547001_1 x547002_1 x547003_1 x547004_1 x547005_1 x547006_1 x547007_1 x547008_1 x547009_1 x547010_1 t539 x547012_1 x547013_1 x547014_1 x547015_1 x547016_1 x547017_1).bind fun bt575 => ((guard_Guard_Tick.f bt575.2.1 bt575.2.2.1 bt575.2.2.2.1 bt575.2.2.2.2.1 bt575.2.2.2.2.2.1 bt575.2.2.2.2.2.2.1 bt575.2.2.2.2.2.2.2.1 bt575.2.2.2.2.2.2.2.2.1 bt575.2.2.2.2.2.2.2.2.2.1 bt575.2.2.2.2.2.2.2.2.2.2.1 bt575.2.2.2.2.2.2.2.2.2.2.2.1 t539 bt575.2.2.2.2.2.2.2.2.2.2.2.2.1 bt575.2.2.2.2.2.2.2.2.2.2.2.2.2.1 bt575.2.2.2.2.2.2.2.2.2.2.2.2.2.2.1 bt575.2.2.2.2.2.2.2.2.2.2.2.2.2.2.2.1 bt575.2.2.2.2.2.2.2.2.2.2.2.2.2.2.2.2.1 bt575.2.2.2.2.2.2.2.2.2.2.2.2.2.2.2.2.2 ((rd_T24 l1 x7_1).f4)).bind fun bt594 => (if bt594.1 > bt575.1 then (some false) else (flywheellaw28_GuardBounds.j2 kj8 l1 x7_1 a0_0 a0_1 a0_2 a0_3 a0_4 a0_5 a0_6 a0_7 a0_8 a0_9 a0_10 l0_11 a0_12 bt594.2.1 bt594.2.2.1 bt594.2.2.2.1 bt594.2.2.2.2.1 bt594.2.2.2.2.2.1 bt594.2.2.2.2.2.2.1 bt594.2.2.2.2.2.2.2.1 bt594.2.2.2.2.2.2.2.2.1 bt594.2.2.2.2.2.2.2.2.2.1 bt594.2.2.2.2.2.2.2.2.2.2.1 bt594.2.2.2.2.2.2.2.2.2.2.2.1 t539 bt594.2.2.2.2.2.2.2.2.2.2.2.2.1 bt594.2.2.2.2.2.2.2.2.2.2.2.2.2.1 bt594.2.2.2.2.2.2.2.2.2.2.2.2.2.2.1 bt594.2.2.2.2.2.2.2.2.2.2.2.2.2.2.2.1 bt594.2.2.2.2.2.2.2.2.2.2.2.2.2.2.2.2.1 bt594.2.2.2.2.2.2.2.2.2.2.2.2.2.2.2.2.2))))) else (none)) else (none)) = some r := by rw [if_pos rfl] at H; exact H
        clear H
        have H := H1
        clear H1
        by_cases c12 : 0 ≤ x7_1
        ·rw [if_pos c12] at H
         have c12b0 : decide (0 ≤ x7_1) = true := decide_eq_true c12
         clear c12
         by_cases c13 : x7_1 < (l1.length : Int)
         ·rw [if_pos c13] at H
          have c13b0 : decide (x7_1 < (l1.length : Int)) = true := decide_eq_true c13
          clear c13
          have HC14 := Aside0.mk H
          clear H
          have p551 : 0 ≤ (x7_1 : Int) := of_decide_eq_true (by first | (with_reducible assumption) | assumption)
          have q551 : x7_1 < (l1.length : Int) := of_decide_eq_true (by first | (with_reducible assumption) | assumption)
          obtain ⟨ad551, e551, hx551_0, hx551_1, hx551_2, hx551_3, hx551_4, hx551_5⟩ := at_T24 HR1.out x7_1 p551 q551
          cases e551
          replace hx551_0 := (HB.out.cell (World.block_lt_of_cell? w _ hx551_0)).trans hx551_0
          replace hx551_1 := (HB.out.cell (World.block_lt_of_cell? w _ hx551_1)).trans hx551_1
          replace hx551_2 := (HB.out.cell (World.block_lt_of_cell? w _ hx551_2)).trans hx551_2
          replace hx551_3 := (HB.out.cell (World.block_lt_of_cell? w _ hx551_3)).trans hx551_3
          replace hx551_4 := (HB.out.cell (World.block_lt_of_cell? w _ hx551_4)).trans hx551_4
          replace hx551_5 := (HB.out.cell (World.block_lt_of_cell? w _ hx551_5)).trans hx551_5
          replace p551 := eq_true p551
          replace q551 := eq_true q551
          go_upto_if 41 with (fail)
          go_cut [] (fun wc => ∃ (kq : Nat) (x547000_13 : Int) (x547001_13 : Int) (x547002_13 : Int) (x547003_13 : Int) (x547004_13 : Int) (x547005_13 : Int) (x547006_13 : Int) (x547007_13 : Int) (x547008_13 : Int) (x547009_13 : Int) (x547010_13 : Int) (x547012_13 : Int) (x547013_13 : Int) (x547014_13 : Int) (x547015_13 : Int) (x547016_13 : Bool) (x547017_13 : Bool), Aside0 (flywheellaw28_GuardBounds.j2 kq l1 x7_1 a0_0 a0_1 a0_2 a0_3 a0_4 a0_5 a0_6 a0_7 a0_8 a0_9 a0_10 l0_11 a0_12 x547000_13 x547001_13 x547002_13 x547003_13 x547004_13 x547005_13 x547006_13 x547007_13 x547008_13 x547009_13 x547010_13 t539 x547012_13 x547013_13 x547014_13 x547015_13 x547016_13 x547017_13 = some r) ∧ Aside0 (kq ≤ kj8) ∧ Aside0 (wc.heap[gb527]? = some (.cells #[.int .i64 a0_0, .int .i64 a0_1, .int .i64 a0_2, .int .i64 a0_3, .int .i64 a0_4, .int .i64 a0_5, .int .i64 a0_6, .int .i64 a0_7, .int .i64 a0_8, .int .i64 a0_9, .int .i64 a0_10, (.slice A0_11 l0_11.length c0_11), .int .i64 a0_12] 27 (0, 0))) ∧ Aside0 (IsS48 w wc g546 x547000_13 x547001_13 x547002_13 x547003_13 x547004_13 x547005_13 x547006_13 x547007_13 x547008_13 x547009_13 x547010_13 t539 x547012_13 x547013_13 x547014_13 x547015_13 x547016_13 x547017_13) ∧ Aside0 (Below w.heap.size w wc))
          case first =>
           have H := HC14.out
           clear HC14
           by_cases c15 : ((rd_T24 l1 x7_1).f0) = 0
           ·rw [if_pos c15] at H
            have c15b0 : (((rd_T24 l1 x7_1).f0) == 0) = true := beq_iff_eq.mpr c15
            have c15b1 : (((rd_T24 l1 x7_1).f0) != 0) = false := bne_eq_false_iff_eq.mpr c15
            clear c15
            (first | rw [c15b0] | (simp only [i64_w, i32_w]; rw [c15b0]) | skip)
            replace H := Option.bind_eq_some_iff.mp H
            obtain ⟨⟨t557, t558, t559, t560, t561, t562, t563, t564, t565, t566, t567, t568, t569, t570, t571, t572, t573, t574⟩, A160, H⟩ := H
            replace H : (flywheellaw28_GuardBounds.j2 kj8 l1 x7_1 a0_0 a0_1 a0_2 a0_3 a0_4 a0_5 a0_6 a0_7 a0_8 a0_9 a0_10 l0_11 a0_12 t558 t559 t560 t561 t562 t563 t564 t565 t566 t567 t568 t539 t569 t570 t571 t572 t573 t574) = some r := H
            have A16 := Aside0.mk A160
            clear A160
            have H' := Aside0.mk H
            clear H
            try go_wp2
            have n0_ := Aside0.mk (blk_drew BK527.out)
            have n1_ := Aside0.mk (IsS48.drew HI546.out)
            have n2_ := Aside0.mk (below_drew1 HB.out)
            clear BK527
            clear HI546
            clear HB
            have BK527 := n0_
            have HI546 := n1_
            have HB := n2_
            clear n0_ n1_ n2_
            have p552 : 0 ≤ (x7_1 : Int) := of_decide_eq_true (by first | (with_reducible assumption) | assumption)
            have q552 : x7_1 < (l1.length : Int) := of_decide_eq_true (by first | (with_reducible assumption) | assumption)
            obtain ⟨ad552, e552, hx552_0, hx552_1, hx552_2, hx552_3, hx552_4, hx552_5⟩ := at_T24 HR1.out x7_1 p552 q552
            have hw552_5 := hx552_5
            have hw552_4 := hx552_4
            have hw552_3 := hx552_3
            have hw552_2 := hx552_2
            have hw552_1 := hx552_1
            have hw552_0 := hx552_0
            obtain rfl : ad551 = ad552 := (by injection e552)
            replace hx552_0 := (HB.out.cell (World.block_lt_of_cell? w _ hx552_0)).trans hx552_0
            replace hx552_1 := (HB.out.cell (World.block_lt_of_cell? w _ hx552_1)).trans hx552_1
            replace hx552_2 := (HB.out.cell (World.block_lt_of_cell? w _ hx552_2)).trans hx552_2
            replace hx552_3 := (HB.out.cell (World.block_lt_of_cell? w _ hx552_3)).trans hx552_3
            replace hx552_4 := (HB.out.cell (World.block_lt_of_cell? w _ hx552_4)).trans hx552_4
            replace hx552_5 := (HB.out.cell (World.block_lt_of_cell? w _ hx552_5)).trans hx552_5
            replace p552 := eq_true p552
            replace q552 := eq_true q552
            have p553 : 0 ≤ (x7_1 : Int) := of_decide_eq_true (by first | (with_reducible assumption) | assumption)
            have q553 : x7_1 < (l1.length : Int) := of_decide_eq_true (by first | (with_reducible assumption) | assumption)
            obtain ⟨ad553, e553, hx553_0, hx553_1, hx553_2, hx553_3, hx553_4, hx553_5⟩ := at_T24 HR1.out x7_1 p553 q553
            have hw553_5 := hx553_5
            have hw553_4 := hx553_4
            have hw553_3 := hx553_3
            have hw553_2 := hx553_2
            have hw553_1 := hx553_1
            have hw553_0 := hx553_0
            obtain rfl : ad551 = ad553 := (by injection e553)
            replace hx553_0 := (HB.out.cell (World.block_lt_of_cell? w _ hx553_0)).trans hx553_0
            replace hx553_1 := (HB.out.cell (World.block_lt_of_cell? w _ hx553_1)).trans hx553_1
            replace hx553_2 := (HB.out.cell (World.block_lt_of_cell? w _ hx553_2)).trans hx553_2
            replace hx553_3 := (HB.out.cell (World.block_lt_of_cell? w _ hx553_3)).trans hx553_3
            replace hx553_4 := (HB.out.cell (World.block_lt_of_cell? w _ hx553_4)).trans hx553_4
            replace hx553_5 := (HB.out.cell (World.block_lt_of_cell? w _ hx553_5)).trans hx553_5
            replace p553 := eq_true p553
            replace q553 := eq_true q553
            have p554 : 0 ≤ (x7_1 : Int) := of_decide_eq_true (by first | (with_reducible assumption) | assumption)
            have q554 : x7_1 < (l1.length : Int) := of_decide_eq_true (by first | (with_reducible assumption) | assumption)
            obtain ⟨ad554, e554, hx554_0, hx554_1, hx554_2, hx554_3, hx554_4, hx554_5⟩ := at_T24 HR1.out x7_1 p554 q554
            have hw554_5 := hx554_5
            have hw554_4 := hx554_4
            have hw554_3 := hx554_3
            have hw554_2 := hx554_2
            have hw554_1 := hx554_1
            have hw554_0 := hx554_0
            obtain rfl : ad551 = ad554 := (by injection e554)
            replace hx554_0 := (HB.out.cell (World.block_lt_of_cell? w _ hx554_0)).trans hx554_0
            replace hx554_1 := (HB.out.cell (World.block_lt_of_cell? w _ hx554_1)).trans hx554_1
            replace hx554_2 := (HB.out.cell (World.block_lt_of_cell? w _ hx554_2)).trans hx554_2
            replace hx554_3 := (HB.out.cell (World.block_lt_of_cell? w _ hx554_3)).trans hx554_3
            replace hx554_4 := (HB.out.cell (World.block_lt_of_cell? w _ hx554_4)).trans hx554_4
            replace hx554_5 := (HB.out.cell (World.block_lt_of_cell? w _ hx554_5)).trans hx554_5
            replace p554 := eq_true p554
            replace q554 := eq_true q554
            have p555 : 0 ≤ (x7_1 : Int) := of_decide_eq_true (by first | (with_reducible assumption) | assumption)
            have q555 : x7_1 < (l1.length : Int) := of_decide_eq_true (by first | (with_reducible assumption) | assumption)
            obtain ⟨ad555, e555, hx555_0, hx555_1, hx555_2, hx555_3, hx555_4, hx555_5⟩ := at_T24 HR1.out x7_1 p555 q555
            have hw555_5 := hx555_5
            have hw555_4 := hx555_4
            have hw555_3 := hx555_3
            have hw555_2 := hx555_2
            have hw555_1 := hx555_1
            have hw555_0 := hx555_0
            obtain rfl : ad551 = ad555 := (by injection e555)
            replace hx555_0 := (HB.out.cell (World.block_lt_of_cell? w _ hx555_0)).trans hx555_0
            replace hx555_1 := (HB.out.cell (World.block_lt_of_cell? w _ hx555_1)).trans hx555_1
            replace hx555_2 := (HB.out.cell (World.block_lt_of_cell? w _ hx555_2)).trans hx555_2
            replace hx555_3 := (HB.out.cell (World.block_lt_of_cell? w _ hx555_3)).trans hx555_3
            replace hx555_4 := (HB.out.cell (World.block_lt_of_cell? w _ hx555_4)).trans hx555_4
            replace hx555_5 := (HB.out.cell (World.block_lt_of_cell? w _ hx555_5)).trans hx555_5
            replace p555 := eq_true p555
            replace q555 := eq_true q555
            have p556 : 0 ≤ (x7_1 : Int) := of_decide_eq_true (by first | (with_reducible assumption) | assumption)
            have q556 : x7_1 < (l1.length : Int) := of_decide_eq_true (by first | (with_reducible assumption) | assumption)
            obtain ⟨ad556, e556, hx556_0, hx556_1, hx556_2, hx556_3, hx556_4, hx556_5⟩ := at_T24 HR1.out x7_1 p556 q556
            have hw556_5 := hx556_5
            have hw556_4 := hx556_4
            have hw556_3 := hx556_3
            have hw556_2 := hx556_2
            have hw556_1 := hx556_1
            have hw556_0 := hx556_0
            obtain rfl : ad551 = ad556 := (by injection e556)
            replace hx556_0 := (HB.out.cell (World.block_lt_of_cell? w _ hx556_0)).trans hx556_0
            replace hx556_1 := (HB.out.cell (World.block_lt_of_cell? w _ hx556_1)).trans hx556_1
            replace hx556_2 := (HB.out.cell (World.block_lt_of_cell? w _ hx556_2)).trans hx556_2
            replace hx556_3 := (HB.out.cell (World.block_lt_of_cell? w _ hx556_3)).trans hx556_3
            replace hx556_4 := (HB.out.cell (World.block_lt_of_cell? w _ hx556_4)).trans hx556_4
            replace hx556_5 := (HB.out.cell (World.block_lt_of_cell? w _ hx556_5)).trans hx556_5
            replace p556 := eq_true p556
            replace q556 := eq_true q556
            refine start_ (n := 27) (S := fun w' => w'.cell? (ad551.add ((x7_1).toNat * 6)) = some (.int .i64 ((rd_T24 l1 x7_1).f0)) ∧ w'.cell? ⟨(ad551.add ((x7_1).toNat * 6)).block, (ad551.add ((x7_1).toNat * 6)).off + 1, none⟩ = some (.int .i64 ((rd_T24 l1 x7_1).f1)) ∧ w'.cell? ⟨(ad551.add ((x7_1).toNat * 6)).block, (ad551.add ((x7_1).toNat * 6)).off + 2, none⟩ = some (.int .i64 ((rd_T24 l1 x7_1).f2)) ∧ w'.cell? ⟨(ad551.add ((x7_1).toNat * 6)).block, (ad551.add ((x7_1).toNat * 6)).off + 3, none⟩ = some (.int .i64 ((rd_T24 l1 x7_1).f3)) ∧ w'.cell? ⟨(ad551.add ((x7_1).toNat * 6)).block, (ad551.add ((x7_1).toNat * 6)).off + 4, none⟩ = some (.int .i64 ((rd_T24 l1 x7_1).f4)) ∧ w'.cell? ⟨(ad551.add ((x7_1).toNat * 6)).block, (ad551.add ((x7_1).toNat * 6)).off + 5, none⟩ = some (.bool ((rd_T24 l1 x7_1).f5)) ∧ w'.cell? (ad551.add ((x7_1).toNat * 6)) = some (.int .i64 ((rd_T24 l1 x7_1).f0)) ∧ w'.cell? ⟨(ad551.add ((x7_1).toNat * 6)).block, (ad551.add ((x7_1).toNat * 6)).off + 1, none⟩ = some (.int .i64 ((rd_T24 l1 x7_1).f1)) ∧ w'.cell? ⟨(ad551.add ((x7_1).toNat * 6)).block, (ad551.add ((x7_1).toNat * 6)).off + 2, none⟩ = some (.int .i64 ((rd_T24 l1 x7_1).f2)) ∧ w'.cell? ⟨(ad551.add ((x7_1).toNat * 6)).block, (ad551.add ((x7_1).toNat * 6)).off + 3, none⟩ = some (.int .i64 ((rd_T24 l1 x7_1).f3)) ∧ w'.cell? ⟨(ad551.add ((x7_1).toNat * 6)).block, (ad551.add ((x7_1).toNat * 6)).off + 4, none⟩ = some (.int .i64 ((rd_T24 l1 x7_1).f4)) ∧ w'.cell? ⟨(ad551.add ((x7_1).toNat * 6)).block, (ad551.add ((x7_1).toNat * 6)).off + 5, none⟩ = some (.bool ((rd_T24 l1 x7_1).f5)) ∧ w'.cell? (ad551.add ((x7_1).toNat * 6)) = some (.int .i64 ((rd_T24 l1 x7_1).f0)) ∧ w'.cell? ⟨(ad551.add ((x7_1).toNat * 6)).block, (ad551.add ((x7_1).toNat * 6)).off + 1, none⟩ = some (.int .i64 ((rd_T24 l1 x7_1).f1)) ∧ w'.cell? ⟨(ad551.add ((x7_1).toNat * 6)).block, (ad551.add ((x7_1).toNat * 6)).off + 2, none⟩ = some (.int .i64 ((rd_T24 l1 x7_1).f2)) ∧ w'.cell? ⟨(ad551.add ((x7_1).toNat * 6)).block, (ad551.add ((x7_1).toNat * 6)).off + 3, none⟩ = some (.int .i64 ((rd_T24 l1 x7_1).f3)) ∧ w'.cell? ⟨(ad551.add ((x7_1).toNat * 6)).block, (ad551.add ((x7_1).toNat * 6)).off + 4, none⟩ = some (.int .i64 ((rd_T24 l1 x7_1).f4)) ∧ w'.cell? ⟨(ad551.add ((x7_1).toNat * 6)).block, (ad551.add ((x7_1).toNat * 6)).off + 5, none⟩ = some (.bool ((rd_T24 l1 x7_1).f5)) ∧ w'.cell? (ad551.add ((x7_1).toNat * 6)) = some (.int .i64 ((rd_T24 l1 x7_1).f0)) ∧ w'.cell? ⟨(ad551.add ((x7_1).toNat * 6)).block, (ad551.add ((x7_1).toNat * 6)).off + 1, none⟩ = some (.int .i64 ((rd_T24 l1 x7_1).f1)) ∧ w'.cell? ⟨(ad551.add ((x7_1).toNat * 6)).block, (ad551.add ((x7_1).toNat * 6)).off + 2, none⟩ = some (.int .i64 ((rd_T24 l1 x7_1).f2)) ∧ w'.cell? ⟨(ad551.add ((x7_1).toNat * 6)).block, (ad551.add ((x7_1).toNat * 6)).off + 3, none⟩ = some (.int .i64 ((rd_T24 l1 x7_1).f3)) ∧ w'.cell? ⟨(ad551.add ((x7_1).toNat * 6)).block, (ad551.add ((x7_1).toNat * 6)).off + 4, none⟩ = some (.int .i64 ((rd_T24 l1 x7_1).f4)) ∧ w'.cell? ⟨(ad551.add ((x7_1).toNat * 6)).block, (ad551.add ((x7_1).toNat * 6)).off + 5, none⟩ = some (.bool ((rd_T24 l1 x7_1).f5)) ∧ w'.cell? (ad551.add ((x7_1).toNat * 6)) = some (.int .i64 ((rd_T24 l1 x7_1).f0)) ∧ w'.cell? ⟨(ad551.add ((x7_1).toNat * 6)).block, (ad551.add ((x7_1).toNat * 6)).off + 1, none⟩ = some (.int .i64 ((rd_T24 l1 x7_1).f1)) ∧ w'.cell? ⟨(ad551.add ((x7_1).toNat * 6)).block, (ad551.add ((x7_1).toNat * 6)).off + 2, none⟩ = some (.int .i64 ((rd_T24 l1 x7_1).f2)) ∧ w'.cell? ⟨(ad551.add ((x7_1).toNat * 6)).block, (ad551.add ((x7_1).toNat * 6)).off + 3, none⟩ = some (.int .i64 ((rd_T24 l1 x7_1).f3)) ∧ w'.cell? ⟨(ad551.add ((x7_1).toNat * 6)).block, (ad551.add ((x7_1).toNat * 6)).off + 4, none⟩ = some (.int .i64 ((rd_T24 l1 x7_1).f4)) ∧ w'.cell? ⟨(ad551.add ((x7_1).toNat * 6)).block, (ad551.add ((x7_1).toNat * 6)).off + 5, none⟩ = some (.bool ((rd_T24 l1 x7_1).f5))) (ds := []) #[false, false, false, false, false, false, false, false, false, false, false, false, false, false, false, false, false, false, false, false, false, false, false, false, false, false, false] (by kernel_rfl) rfl rfl ⟨((HB.out.cell (World.block_lt_of_cell? w _ hw552_0)).trans hw552_0), ((HB.out.cell (World.block_lt_of_cell? w _ hw552_1)).trans hw552_1), ((HB.out.cell (World.block_lt_of_cell? w _ hw552_2)).trans hw552_2), ((HB.out.cell (World.block_lt_of_cell? w _ hw552_3)).trans hw552_3), ((HB.out.cell (World.block_lt_of_cell? w _ hw552_4)).trans hw552_4), ((HB.out.cell (World.block_lt_of_cell? w _ hw552_5)).trans hw552_5), ((HB.out.cell (World.block_lt_of_cell? w _ hw553_0)).trans hw553_0), ((HB.out.cell (World.block_lt_of_cell? w _ hw553_1)).trans hw553_1), ((HB.out.cell (World.block_lt_of_cell? w _ hw553_2)).trans hw553_2), ((HB.out.cell (World.block_lt_of_cell? w _ hw553_3)).trans hw553_3), ((HB.out.cell (World.block_lt_of_cell? w _ hw553_4)).trans hw553_4), ((HB.out.cell (World.block_lt_of_cell? w _ hw553_5)).trans hw553_5), ((HB.out.cell (World.block_lt_of_cell? w _ hw554_0)).trans hw554_0), ((HB.out.cell (World.block_lt_of_cell? w _ hw554_1)).trans hw554_1), ((HB.out.cell (World.block_lt_of_cell? w _ hw554_2)).trans hw554_2), ((HB.out.cell (World.block_lt_of_cell? w _ hw554_3)).trans hw554_3), ((HB.out.cell (World.block_lt_of_cell? w _ hw554_4)).trans hw554_4), ((HB.out.cell (World.block_lt_of_cell? w _ hw554_5)).trans hw554_5), ((HB.out.cell (World.block_lt_of_cell? w _ hw555_0)).trans hw555_0), ((HB.out.cell (World.block_lt_of_cell? w _ hw555_1)).trans hw555_1), ((HB.out.cell (World.block_lt_of_cell? w _ hw555_2)).trans hw555_2), ((HB.out.cell (World.block_lt_of_cell? w _ hw555_3)).trans hw555_3), ((HB.out.cell (World.block_lt_of_cell? w _ hw555_4)).trans hw555_4), ((HB.out.cell (World.block_lt_of_cell? w _ hw555_5)).trans hw555_5), ((HB.out.cell (World.block_lt_of_cell? w _ hw556_0)).trans hw556_0), ((HB.out.cell (World.block_lt_of_cell? w _ hw556_1)).trans hw556_1), ((HB.out.cell (World.block_lt_of_cell? w _ hw556_2)).trans hw556_2), ((HB.out.cell (World.block_lt_of_cell? w _ hw556_3)).trans hw556_3), ((HB.out.cell (World.block_lt_of_cell? w _ hw556_4)).trans hw556_4), ((HB.out.cell (World.block_lt_of_cell? w _ hw556_5)).trans hw556_5)⟩ (fun hHeld => ?_); refine with_tabW flywheellaw28_GuardBounds.tab8 flywheellaw28_GuardBounds.bits8 (fun HT_ HW_ => ?_)
            generalize wc.drew = w17 at BK527 HI546 HB hx552_0 hx552_1 hx552_2 hx552_3 hx552_4 hx552_5 hx553_0 hx553_1 hx553_2 hx553_3 hx553_4 hx553_5 hx554_0 hx554_1 hx554_2 hx554_3 hx554_4 hx554_5 hx555_0 hx555_1 hx555_2 hx555_3 hx555_4 hx555_5 hx556_0 hx556_1 hx556_2 hx556_3 hx556_4 hx556_5 hHeld ⊢
            refine pure_ (i := 0) (N := some 42) (v := ?_) (a' := ?_) #[true, false, false, false, false, false, false, false, false, false, false, false, false, false, false, false, false, false, false, false, false, false, false, false, false, false, false] rfl rfl (any_of HT_.out (by kernel_rfl)) (fun _ _ _ h => h) (Or.inl ⟨by rfl, ?_⟩) ?_ ?_
            rotate_left
            ·intro w'
             go_simp
             with_reducible rfl
            rotate_left
            ·simp only [Act.put, List.setIfInBounds_toArray, List.set_cons_zero, List.set_cons_succ, i64_w, i32_w]
             rfl
            refine pure_ (i := 1) (N := some 43) (v := ?_) (a' := ?_) #[true, true, false, false, false, false, false, false, false, false, false, false, false, false, false, false, false, false, false, false, false, false, false, false, false, false, false] rfl rfl (any_of HT_.out (by kernel_rfl)) (fun _ _ _ h => h) (Or.inl ⟨by rfl, ?_⟩) ?_ ?_
            rotate_left
            ·intro w'
             go_simp
             with_reducible rfl
            rotate_left
            ·simp only [Act.put, List.setIfInBounds_toArray, List.set_cons_zero, List.set_cons_succ, i64_w, i32_w]
             rfl
            refine pure_ (i := 2) (N := some 44) (v := ?_) (a' := ?_) #[true, true, true, false, false, false, false, false, false, false, false, false, false, false, false, false, false, false, false, false, false, false, false, false, false, false, false] rfl rfl (any_of HT_.out (by kernel_rfl)) (fun _ _ _ h => h) (Or.inl ⟨by rfl, ?_⟩) ?_ ?_
            rotate_left
            ·intro w'
             go_simp
             with_reducible rfl
            rotate_left
            ·simp only [Act.put, List.setIfInBounds_toArray, List.set_cons_zero, List.set_cons_succ, i64_w, i32_w]
             rfl
            refine pure_ (i := 3) (N := some 45) (v := ?_) (a' := ?_) #[true, true, true, true, false, false, false, false, false, false, false, false, false, false, false, false, false, false, false, false, false, false, false, false, false, false, false] rfl rfl (any_of HT_.out (by kernel_rfl)) (fun _ _ _ h => h) (Or.inl ⟨by rfl, ?_⟩) ?_ ?_
            rotate_left
            ·intro w'
             go_simp
             with_reducible rfl
            rotate_left
            ·simp only [Act.put, List.setIfInBounds_toArray, List.set_cons_zero, List.set_cons_succ, i64_w, i32_w]
             rfl
            refine pure_ (i := 4) (N := some 46) (v := ?_) (a' := ?_) #[true, true, true, true, true, false, false, false, false, false, false, false, false, false, false, false, false, false, false, false, false, false, false, false, false, false, false] rfl rfl (any_of HT_.out (by kernel_rfl)) (fun _ _ _ h => h) (Or.inl ⟨by rfl, ?_⟩) ?_ ?_
            rotate_left
            ·intro w'
             go_simp
             with_reducible rfl
            rotate_left
            ·simp only [Act.put, List.setIfInBounds_toArray, List.set_cons_zero, List.set_cons_succ, i64_w, i32_w]
             rfl
            refine pure_ (i := 6) (N := some 48) (v := ?_) (a' := ?_) #[true, true, true, true, true, false, true, false, false, false, false, false, false, false, false, false, false, false, false, false, false, false, false, false, false, false, false] rfl rfl (any_of HT_.out (by kernel_rfl)) (fun _ _ _ h => h) (Or.inl ⟨by rfl, ?_⟩) ?_ ?_
            rotate_left
            ·intro w'
             go_simp
             with_reducible rfl
            rotate_left
            ·simp only [Act.put, List.setIfInBounds_toArray, List.set_cons_zero, List.set_cons_succ, i64_w, i32_w]
             rfl
            refine pure_ (i := 7) (N := some 49) (v := ?_) (a' := ?_) #[true, true, true, true, true, false, true, true, false, false, false, false, false, false, false, false, false, false, false, false, false, false, false, false, false, false, false] rfl rfl (any_of HT_.out (by kernel_rfl)) (fun _ _ _ h => h) (Or.inl ⟨by rfl, ?_⟩) ?_ ?_
            rotate_left
            ·intro w'
             go_simp
             with_reducible rfl
            rotate_left
            ·simp only [Act.put, List.setIfInBounds_toArray, List.set_cons_zero, List.set_cons_succ, i64_w, i32_w]
             rfl
            refine pure_ (i := 8) (N := some 50) (v := ?_) (a' := ?_) #[true, true, true, true, true, false, true, true, true, false, false, false, false, false, false, false, false, false, false, false, false, false, false, false, false, false, false] rfl rfl (any_of HT_.out (by kernel_rfl)) (fun _ _ _ h => h) (Or.inl ⟨by rfl, ?_⟩) ?_ ?_
            rotate_left
            ·intro w'
             go_simp
             with_reducible rfl
            rotate_left
            ·simp only [Act.put, List.setIfInBounds_toArray, List.set_cons_zero, List.set_cons_succ, i64_w, i32_w]
             rfl
            refine pure_ (i := 9) (N := some 51) (v := ?_) (a' := ?_) #[true, true, true, true, true, false, true, true, true, true, false, false, false, false, false, false, false, false, false, false, false, false, false, false, false, false, false] rfl rfl (any_of HT_.out (by kernel_rfl)) (fun _ _ _ h => h) (Or.inl ⟨by rfl, ?_⟩) ?_ ?_
            rotate_left
            ·intro w'
             go_simp
             with_reducible rfl
            rotate_left
            ·simp only [Act.put, List.setIfInBounds_toArray, List.set_cons_zero, List.set_cons_succ, i64_w, i32_w]
             rfl
            refine pure_ (i := 11) (N := some 53) (v := ?_) (a' := ?_) #[true, true, true, true, true, false, true, true, true, true, false, true, false, false, false, false, false, false, false, false, false, false, false, false, false, false, false] rfl rfl (any_of HT_.out (by kernel_rfl)) (fun _ _ _ h => h) (Or.inl ⟨by rfl, ?_⟩) ?_ ?_
            rotate_left
            ·intro w'
             go_simp
             with_reducible rfl
            rotate_left
            ·simp only [Act.put, List.setIfInBounds_toArray, List.set_cons_zero, List.set_cons_succ, i64_w, i32_w]
             rfl
            refine pure_ (i := 12) (N := some 54) (v := ?_) (a' := ?_) #[true, true, true, true, true, false, true, true, true, true, false, true, true, false, false, false, false, false, false, false, false, false, false, false, false, false, false] rfl rfl (any_of HT_.out (by kernel_rfl)) (fun _ _ _ h => h) (Or.inl ⟨by rfl, ?_⟩) ?_ ?_
            rotate_left
            ·intro w'
             go_simp
             with_reducible rfl
            rotate_left
            ·simp only [Act.put, List.setIfInBounds_toArray, List.set_cons_zero, List.set_cons_succ, i64_w, i32_w]
             rfl
            refine pure_ (i := 13) (N := some 55) (v := ?_) (a' := ?_) #[true, true, true, true, true, false, true, true, true, true, false, true, true, true, false, false, false, false, false, false, false, false, false, false, false, false, false] rfl rfl (any_of HT_.out (by kernel_rfl)) (fun _ _ _ h => h) (Or.inl ⟨by rfl, ?_⟩) ?_ ?_
            rotate_left
            ·intro w'
             go_simp
             with_reducible rfl
            rotate_left
            ·simp only [Act.put, List.setIfInBounds_toArray, List.set_cons_zero, List.set_cons_succ, i64_w, i32_w]
             rfl
            refine pure_ (i := 14) (N := some 56) (v := ?_) (a' := ?_) #[true, true, true, true, true, false, true, true, true, true, false, true, true, true, true, false, false, false, false, false, false, false, false, false, false, false, false] rfl rfl (any_of HT_.out (by kernel_rfl)) (fun _ _ _ h => h) (Or.inl ⟨by rfl, ?_⟩) ?_ ?_
            rotate_left
            ·intro w'
             go_simp
             with_reducible rfl
            rotate_left
            ·simp only [Act.put, List.setIfInBounds_toArray, List.set_cons_zero, List.set_cons_succ, i64_w, i32_w]
             rfl
            refine pure_ (i := 16) (N := some 58) (v := ?_) (a' := ?_) #[true, true, true, true, true, false, true, true, true, true, false, true, true, true, true, false, true, false, false, false, false, false, false, false, false, false, false] rfl rfl (any_of HT_.out (by kernel_rfl)) (fun _ _ _ h => h) (Or.inl ⟨by rfl, ?_⟩) ?_ ?_
            rotate_left
            ·intro w'
             go_simp
             with_reducible rfl
            rotate_left
            ·simp only [Act.put, List.setIfInBounds_toArray, List.set_cons_zero, List.set_cons_succ, i64_w, i32_w]
             rfl
            refine pure_ (i := 17) (N := some 59) (v := ?_) (a' := ?_) #[true, true, true, true, true, false, true, true, true, true, false, true, true, true, true, false, true, true, false, false, false, false, false, false, false, false, false] rfl rfl (any_of HT_.out (by kernel_rfl)) (fun _ _ _ h => h) (Or.inl ⟨by rfl, ?_⟩) ?_ ?_
            rotate_left
            ·intro w'
             go_simp
             with_reducible rfl
            rotate_left
            ·simp only [Act.put, List.setIfInBounds_toArray, List.set_cons_zero, List.set_cons_succ, i64_w, i32_w]
             rfl
            refine pure_ (i := 18) (N := some 60) (v := ?_) (a' := ?_) #[true, true, true, true, true, false, true, true, true, true, false, true, true, true, true, false, true, true, true, false, false, false, false, false, false, false, false] rfl rfl (any_of HT_.out (by kernel_rfl)) (fun _ _ _ h => h) (Or.inl ⟨by rfl, ?_⟩) ?_ ?_
            rotate_left
            ·intro w'
             go_simp
             with_reducible rfl
            rotate_left
            ·simp only [Act.put, List.setIfInBounds_toArray, List.set_cons_zero, List.set_cons_succ, i64_w, i32_w]
             rfl
            refine pure_ (i := 19) (N := some 61) (v := ?_) (a' := ?_) #[true, true, true, true, true, false, true, true, true, true, false, true, true, true, true, false, true, true, true, true, false, false, false, false, false, false, false] rfl rfl (any_of HT_.out (by kernel_rfl)) (fun _ _ _ h => h) (Or.inl ⟨by rfl, ?_⟩) ?_ ?_
            rotate_left
            ·intro w'
             go_simp
             with_reducible rfl
            rotate_left
            ·simp only [Act.put, List.setIfInBounds_toArray, List.set_cons_zero, List.set_cons_succ, i64_w, i32_w]
             rfl
            refine pure_ (i := 21) (N := some 63) (v := ?_) (a' := ?_) #[true, true, true, true, true, false, true, true, true, true, false, true, true, true, true, false, true, true, true, true, false, true, false, false, false, false, false] rfl rfl (any_of HT_.out (by kernel_rfl)) (fun _ _ _ h => h) (Or.inl ⟨by rfl, ?_⟩) ?_ ?_
            rotate_left
            ·intro w'
             go_simp
             with_reducible rfl
            rotate_left
            ·simp only [Act.put, List.setIfInBounds_toArray, List.set_cons_zero, List.set_cons_succ, i64_w, i32_w]
             rfl
            refine pure_ (i := 22) (N := some 64) (v := ?_) (a' := ?_) #[true, true, true, true, true, false, true, true, true, true, false, true, true, true, true, false, true, true, true, true, false, true, true, false, false, false, false] rfl rfl (any_of HT_.out (by kernel_rfl)) (fun _ _ _ h => h) (Or.inl ⟨by rfl, ?_⟩) ?_ ?_
            rotate_left
            ·intro w'
             go_simp
             with_reducible rfl
            rotate_left
            ·simp only [Act.put, List.setIfInBounds_toArray, List.set_cons_zero, List.set_cons_succ, i64_w, i32_w]
             rfl
            refine pure_ (i := 23) (N := some 65) (v := ?_) (a' := ?_) #[true, true, true, true, true, false, true, true, true, true, false, true, true, true, true, false, true, true, true, true, false, true, true, true, false, false, false] rfl rfl (any_of HT_.out (by kernel_rfl)) (fun _ _ _ h => h) (Or.inl ⟨by rfl, ?_⟩) ?_ ?_
            rotate_left
            ·intro w'
             go_simp
             with_reducible rfl
            rotate_left
            ·simp only [Act.put, List.setIfInBounds_toArray, List.set_cons_zero, List.set_cons_succ, i64_w, i32_w]
             rfl
            refine pure_ (i := 24) (N := some 66) (v := ?_) (a' := ?_) #[true, true, true, true, true, false, true, true, true, true, false, true, true, true, true, false, true, true, true, true, false, true, true, true, true, false, false] rfl rfl (any_of HT_.out (by kernel_rfl)) (fun _ _ _ h => h) (Or.inl ⟨by rfl, ?_⟩) ?_ ?_
            rotate_left
            ·intro w'
             go_simp
             with_reducible rfl
            rotate_left
            ·simp only [Act.put, List.setIfInBounds_toArray, List.set_cons_zero, List.set_cons_succ, i64_w, i32_w]
             rfl
            refine take_ (i := 5) (N := some 47) (v := ?_) (a' := ?_) #[true, true, true, true, true, true, true, true, true, true, false, true, true, true, true, false, true, true, true, true, false, true, true, true, true, false, false] rfl rfl (take_ofW HT_.out HW_.out (by kernel_rfl)) (fun _ _ _ h => h) (Or.inl ⟨by rfl, ?_⟩) hHeld ?_ ?_
            rotate_left
            ·rintro w' ⟨s0, s1, s2, s3, s4, s5, s6, s7, s8, s9, s10, s11, s12, s13, s14, s15, s16, s17, s18, s19, s20, s21, s22, s23, s24, s25, s26, s27, s28, s29⟩
             go_simp
             with_reducible rfl
            rotate_left
            ·simp only [Act.put, List.setIfInBounds_toArray, List.set_cons_zero, List.set_cons_succ, i64_w, i32_w]
             rfl
            refine take_ (i := 10) (N := some 52) (v := ?_) (a' := ?_) #[true, true, true, true, true, true, true, true, true, true, true, true, true, true, true, false, true, true, true, true, false, true, true, true, true, false, false] rfl rfl (take_ofW HT_.out HW_.out (by kernel_rfl)) (fun _ _ _ h => h) (Or.inl ⟨by rfl, ?_⟩) hHeld ?_ ?_
            rotate_left
            ·rintro w' ⟨s0, s1, s2, s3, s4, s5, s6, s7, s8, s9, s10, s11, s12, s13, s14, s15, s16, s17, s18, s19, s20, s21, s22, s23, s24, s25, s26, s27, s28, s29⟩
             go_simp
             with_reducible rfl
            rotate_left
            ·simp only [Act.put, List.setIfInBounds_toArray, List.set_cons_zero, List.set_cons_succ, i64_w, i32_w]
             rfl
            refine take_ (i := 15) (N := some 57) (v := ?_) (a' := ?_) #[true, true, true, true, true, true, true, true, true, true, true, true, true, true, true, true, true, true, true, true, false, true, true, true, true, false, false] rfl rfl (take_ofW HT_.out HW_.out (by kernel_rfl)) (fun _ _ _ h => h) (Or.inl ⟨by rfl, ?_⟩) hHeld ?_ ?_
            rotate_left
            ·rintro w' ⟨s0, s1, s2, s3, s4, s5, s6, s7, s8, s9, s10, s11, s12, s13, s14, s15, s16, s17, s18, s19, s20, s21, s22, s23, s24, s25, s26, s27, s28, s29⟩
             go_simp
             with_reducible rfl
            rotate_left
            ·simp only [Act.put, List.setIfInBounds_toArray, List.set_cons_zero, List.set_cons_succ, i64_w, i32_w]
             rfl
            refine take_ (i := 20) (N := some 62) (v := ?_) (a' := ?_) #[true, true, true, true, true, true, true, true, true, true, true, true, true, true, true, true, true, true, true, true, true, true, true, true, true, false, false] rfl rfl (take_ofW HT_.out HW_.out (by kernel_rfl)) (fun _ _ _ h => h) (Or.inl ⟨by rfl, ?_⟩) hHeld ?_ ?_
            rotate_left
            ·rintro w' ⟨s0, s1, s2, s3, s4, s5, s6, s7, s8, s9, s10, s11, s12, s13, s14, s15, s16, s17, s18, s19, s20, s21, s22, s23, s24, s25, s26, s27, s28, s29⟩
             go_simp
             with_reducible rfl
            rotate_left
            ·simp only [Act.put, List.setIfInBounds_toArray, List.set_cons_zero, List.set_cons_succ, i64_w, i32_w]
             rfl
            refine take_ (i := 25) (N := some 67) (v := ?_) (a' := ?_) #[true, true, true, true, true, true, true, true, true, true, true, true, true, true, true, true, true, true, true, true, true, true, true, true, true, true, false] rfl rfl (take_ofW HT_.out HW_.out (by kernel_rfl)) (fun _ _ _ h => h) (Or.inl ⟨by rfl, ?_⟩) hHeld ?_ ?_
            rotate_left
            ·rintro w' ⟨s0, s1, s2, s3, s4, s5, s6, s7, s8, s9, s10, s11, s12, s13, s14, s15, s16, s17, s18, s19, s20, s21, s22, s23, s24, s25, s26, s27, s28, s29⟩
             go_simp
             with_reducible rfl
            rotate_left
            ·simp only [Act.put, List.setIfInBounds_toArray, List.set_cons_zero, List.set_cons_succ, i64_w, i32_w]
             rfl
            refine one_ (i := 26) (N := some 68) #[true, true, true, true, true, true, true, true, true, true, true, true, true, true, true, true, true, true, true, true, true, true, true, true, true, true, true] rfl rfl (one_of HT_.out (by kernel_rfl)) (by decide) (fun K hK => ?_)
            refine goes_ Try.func11 (by kernel_rfl) rfl #[.pointer (some ⟨g546, 0, none⟩), .int .i64 ((rd_T24 l1 x7_1).f1), .int .i64 ((rd_T24 l1 x7_1).f2), .int .i64 ((rd_T24 l1 x7_1).f3), .bool ((rd_T24 l1 x7_1).f5), .int .i64 ((rd_T24 l1 x7_1).f4)] (by rfl) rfl rfl (by (try simp only [List.map_toArray, List.map_cons, List.map_nil]); first | done | rfl | (simp only [List.length_drop, List.length_take]; rfl)) ?_
            with_reducible refine (guard_Guard_Hear.calls g546 x547000_1 x547001_1 x547002_1 x547003_1 x547004_1 x547005_1 x547006_1 x547007_1 x547008_1 x547009_1 x547010_1 t539 x547012_1 x547013_1 x547014_1 x547015_1 x547016_1 x547017_1 ((rd_T24 l1 x7_1).f1) ((rd_T24 l1 x7_1).f2) ((rd_T24 l1 x7_1).f3) ((rd_T24 l1 x7_1).f5) ((rd_T24 l1 x7_1).f4) t557 t558 t559 t560 t561 t562 t563 t564 t565 t566 t567 t568 t569 t570 t571 t572 t573 t574 w _ ?side1 ?side2 A16.out).mono ?_
            (case side1 => repeat (first | (with_reducible first | exact HI546.out | apply IsS48.alloc | apply IsS48.drewN | apply IsS48.drew | apply IsS48.set_0 | apply IsS48.set_1 | apply IsS48.set_2 | apply IsS48.set_3 | apply IsS48.set_4 | apply IsS48.set_5 | apply IsS48.set_6 | apply IsS48.set_7 | apply IsS48.set_8 | apply IsS48.set_9 | apply IsS48.set_10 | apply IsS48.set_12 | apply IsS48.set_13 | apply IsS48.set_14 | apply IsS48.set_15 | apply IsS48.set_16 | apply IsS48.set_17 | refine IsS48.far ?_ NB546_527.out _) | exact HI546.out))
            (case side2 => repeat (first | (with_reducible first | exact HB.out | apply below_alloc | apply pw_below_drewN | apply below_drew1 | refine below_set ?_ (IsS48.ge HI546.out) | refine below_set ?_ GE527.out) | exact HB.out))
            rintro e w18 ⟨rfl, hi, hb, hk⟩
            refine ⟨_, rfl, ?_⟩
            have n0_ := Aside0.mk (KeepBut.blk hk (g' := gb527) (o := .cells #[.int .i64 a0_0, .int .i64 a0_1, .int .i64 a0_2, .int .i64 a0_3, .int .i64 a0_4, .int .i64 a0_5, .int .i64 a0_6, .int .i64 a0_7, .int .i64 a0_8, .int .i64 a0_9, .int .i64 a0_10, .slice A0_11 l0_11.length c0_11, .int .i64 a0_12] 27 (0, 0)) (by (with_reducible repeat (first | refine blk_drewN ?_ _ | refine blk_drew ?_ | refine blk_alloc ?_ _)); exact BK527.out) NB527_546.out (by simp))
            have n1_ := Aside0.mk (hb)
            have n2_ := Aside0.mk (hi)
            clear BK527
            clear HB
            clear HI546
            have BK527 := n0_
            have HB := n1_
            have HI546 := n2_
            clear n0_ n1_ n2_
            (try clear hb)
            (try clear hb2)
            (try clear hk)
            (try clear hi)
            refine hK.out _ _ ⟨((HB.out.cell (World.block_lt_of_cell? w _ hw552_0)).trans hw552_0), ((HB.out.cell (World.block_lt_of_cell? w _ hw552_1)).trans hw552_1), ((HB.out.cell (World.block_lt_of_cell? w _ hw552_2)).trans hw552_2), ((HB.out.cell (World.block_lt_of_cell? w _ hw552_3)).trans hw552_3), ((HB.out.cell (World.block_lt_of_cell? w _ hw552_4)).trans hw552_4), ((HB.out.cell (World.block_lt_of_cell? w _ hw552_5)).trans hw552_5), ((HB.out.cell (World.block_lt_of_cell? w _ hw553_0)).trans hw553_0), ((HB.out.cell (World.block_lt_of_cell? w _ hw553_1)).trans hw553_1), ((HB.out.cell (World.block_lt_of_cell? w _ hw553_2)).trans hw553_2), ((HB.out.cell (World.block_lt_of_cell? w _ hw553_3)).trans hw553_3), ((HB.out.cell (World.block_lt_of_cell? w _ hw553_4)).trans hw553_4), ((HB.out.cell (World.block_lt_of_cell? w _ hw553_5)).trans hw553_5), ((HB.out.cell (World.block_lt_of_cell? w _ hw554_0)).trans hw554_0), ((HB.out.cell (World.block_lt_of_cell? w _ hw554_1)).trans hw554_1), ((HB.out.cell (World.block_lt_of_cell? w _ hw554_2)).trans hw554_2), ((HB.out.cell (World.block_lt_of_cell? w _ hw554_3)).trans hw554_3), ((HB.out.cell (World.block_lt_of_cell? w _ hw554_4)).trans hw554_4), ((HB.out.cell (World.block_lt_of_cell? w _ hw554_5)).trans hw554_5), ((HB.out.cell (World.block_lt_of_cell? w _ hw555_0)).trans hw555_0), ((HB.out.cell (World.block_lt_of_cell? w _ hw555_1)).trans hw555_1), ((HB.out.cell (World.block_lt_of_cell? w _ hw555_2)).trans hw555_2), ((HB.out.cell (World.block_lt_of_cell? w _ hw555_3)).trans hw555_3), ((HB.out.cell (World.block_lt_of_cell? w _ hw555_4)).trans hw555_4), ((HB.out.cell (World.block_lt_of_cell? w _ hw555_5)).trans hw555_5), ((HB.out.cell (World.block_lt_of_cell? w _ hw556_0)).trans hw556_0), ((HB.out.cell (World.block_lt_of_cell? w _ hw556_1)).trans hw556_1), ((HB.out.cell (World.block_lt_of_cell? w _ hw556_2)).trans hw556_2), ((HB.out.cell (World.block_lt_of_cell? w _ hw556_3)).trans hw556_3), ((HB.out.cell (World.block_lt_of_cell? w _ hw556_4)).trans hw556_4), ((HB.out.cell (World.block_lt_of_cell? w _ hw556_5)).trans hw556_5)⟩ (fun hHeld => ?_)
            clear hK K
            refine norm_ (a' := ?_) ?_ ?_
            rotate_left
            ·show Act.put _ (some 68) _ = _
             simp only [Act.put, List.setIfInBounds_toArray, List.set_cons_zero, List.set_cons_succ, i64_w, i32_w]
             rfl
            refine done_ (done_of HT_.out (by kernel_rfl)) ?_
            try go_wp2
            go_meet
            case rel => exact ⟨_, (t558), (t559), (t560), (t561), (t562), (t563), (t564), (t565), (t566), (t567), (t568), (t569), (t570), (t571), (t572), (t573), (t574), H', ⟨by have := HK1.out; have := HJ8.out; first | omega | exact Nat.le_refl _⟩, ⟨by (with_reducible repeat (first | refine blk_drewN ?_ _ | refine blk_drew ?_ | refine blk_alloc ?_ _)); exact BK527.out⟩, ⟨by repeat (first | (with_reducible first | exact HI546.out | apply IsS48.alloc | apply IsS48.drewN | apply IsS48.drew | apply IsS48.set_0 | apply IsS48.set_1 | apply IsS48.set_2 | apply IsS48.set_3 | apply IsS48.set_4 | apply IsS48.set_5 | apply IsS48.set_6 | apply IsS48.set_7 | apply IsS48.set_8 | apply IsS48.set_9 | apply IsS48.set_10 | apply IsS48.set_12 | apply IsS48.set_13 | apply IsS48.set_14 | apply IsS48.set_15 | apply IsS48.set_16 | apply IsS48.set_17 | refine IsS48.far ?_ NB546_527.out _) | exact HI546.out)⟩, ⟨by repeat (first | (with_reducible first | exact HB.out | apply below_alloc | apply pw_below_drewN | apply below_drew1 | refine below_set ?_ (IsS48.ge HI546.out) | refine below_set ?_ GE527.out) | exact HB.out)⟩⟩
           ·rw [if_neg c15] at H
            have c15b0 : (((rd_T24 l1 x7_1).f0) == 0) = false := beq_eq_false_iff_ne.mpr c15
            have c15b1 : (((rd_T24 l1 x7_1).f0) != 0) = true := bne_iff_ne.mpr c15
            (first | rw [c15b0] | (simp only [i64_w, i32_w]; rw [c15b0]) | skip)
            replace H := Option.bind_eq_some_iff.mp H
            obtain ⟨⟨t575, t576, t577, t578, t579, t580, t581, t582, t583, t584, t585, t586, t587, t588, t589, t590, t591, t592⟩, A190, H⟩ := H
            replace H : ((guard_Guard_Tick.f t576 t577 t578 t579 t580 t581 t582 t583 t584 t585 t586 t539 t587 t588 t589 t590 t591 t592 ((rd_T24 l1 x7_1).f4)).bind fun bt594 => (if bt594.1 > t575 then (some false) else (flywheellaw28_GuardBounds.j2 kj8 l1 x7_1 a0_0 a0_1 a0_2 a0_3 a0_4 a0_5 a0_6 a0_7 a0_8 a0_9 a0_10 l0_11 a0_12 bt594.2.1 bt594.2.2.1 bt594.2.2.2.1 bt594.2.2.2.2.1 bt594.2.2.2.2.2.1 bt594.2.2.2.2.2.2.1 bt594.2.2.2.2.2.2.2.1 bt594.2.2.2.2.2.2.2.2.1 bt594.2.2.2.2.2.2.2.2.2.1 bt594.2.2.2.2.2.2.2.2.2.2.1 bt594.2.2.2.2.2.2.2.2.2.2.2.1 t539 bt594.2.2.2.2.2.2.2.2.2.2.2.2.1 bt594.2.2.2.2.2.2.2.2.2.2.2.2.2.1 bt594.2.2.2.2.2.2.2.2.2.2.2.2.2.2.1 bt594.2.2.2.2.2.2.2.2.2.2.2.2.2.2.2.1 bt594.2.2.2.2.2.2.2.2.2.2.2.2.2.2.2.2.1 bt594.2.2.2.2.2.2.2.2.2.2.2.2.2.2.2.2.2))) = some r := H
            have A19 := Aside0.mk A190
            clear A190
            replace H := Option.bind_eq_some_iff.mp H
            obtain ⟨⟨t594, t595, t596, t597, t598, t599, t600, t601, t602, t603, t604, t605, t606, t607, t608, t609, t610, t611⟩, A200, H⟩ := H
            replace H : (if t594 > t575 then (some false) else (flywheellaw28_GuardBounds.j2 kj8 l1 x7_1 a0_0 a0_1 a0_2 a0_3 a0_4 a0_5 a0_6 a0_7 a0_8 a0_9 a0_10 l0_11 a0_12 t595 t596 t597 t598 t599 t600 t601 t602 t603 t604 t605 t539 t606 t607 t608 t609 t610 t611)) = some r := H
            have A20 := Aside0.mk A200
            clear A200
            by_cases c21 : t594 > t575
            ·rw [if_pos c21] at H
             have c21b0 : decide (t575 < t594) = true := decide_eq_true c21
             clear c21
             obtain rfl := Option.some.inj H
             go_wp2_with (first | ((with_reducible refine gate_callee (f := 16) rfl ?_); refine goesL_ (some 70) rfl rfl Try.func16 (by kernel_rfl) rfl #[.pointer (some ⟨g546, 0, none⟩)] rfl (by (try simp only [List.map_toArray, List.map_cons, List.map_nil]); first | done | rfl | (simp only [List.length_drop, List.length_take]; rfl)) ?_; (with_reducible refine (guard_Guard_Target.calls g546 x547000_1 x547001_1 x547002_1 x547003_1 x547004_1 x547005_1 x547006_1 x547007_1 x547008_1 x547009_1 x547010_1 t539 x547012_1 x547013_1 x547014_1 x547015_1 x547016_1 x547017_1 t575 t576 t577 t578 t579 t580 t581 t582 t583 t584 t585 t586 t587 t588 t589 t590 t591 t592 w _ ?side1 ?side2 A19.out).mono ?_); (case side1 => repeat (first | (with_reducible first | exact HI546.out | apply IsS48.alloc | apply IsS48.drewN | apply IsS48.drew | apply IsS48.set_0 | apply IsS48.set_1 | apply IsS48.set_2 | apply IsS48.set_3 | apply IsS48.set_4 | apply IsS48.set_5 | apply IsS48.set_6 | apply IsS48.set_7 | apply IsS48.set_8 | apply IsS48.set_9 | apply IsS48.set_10 | apply IsS48.set_12 | apply IsS48.set_13 | apply IsS48.set_14 | apply IsS48.set_15 | apply IsS48.set_16 | apply IsS48.set_17 | refine IsS48.far ?_ NB546_527.out _) | exact HI546.out)); (case side2 => repeat (first | (with_reducible first | exact HB.out | apply below_alloc | apply pw_below_drewN | apply below_drew1 | refine below_set ?_ (IsS48.ge HI546.out) | refine below_set ?_ GE527.out) | exact HB.out)); rintro e w22 ⟨rfl, hi, hb, hk⟩; refine ⟨_, rfl, ?_⟩; have n0_ := Aside0.mk (KeepBut.blk hk (g' := gb527) (o := .cells #[.int .i64 a0_0, .int .i64 a0_1, .int .i64 a0_2, .int .i64 a0_3, .int .i64 a0_4, .int .i64 a0_5, .int .i64 a0_6, .int .i64 a0_7, .int .i64 a0_8, .int .i64 a0_9, .int .i64 a0_10, .slice A0_11 l0_11.length c0_11, .int .i64 a0_12] 27 (0, 0)) (by (with_reducible repeat (first | refine blk_drewN ?_ _ | refine blk_drew ?_ | refine blk_alloc ?_ _)); exact BK527.out) NB527_546.out (by simp)); have n1_ := Aside0.mk (hb); have n2_ := Aside0.mk (hi); clear BK527; clear HB; clear HI546; have BK527 := n0_; have HB := n1_; have HI546 := n2_; clear n0_ n1_ n2_; (try clear hb); (try clear hb2); (try clear hk); (try clear hi); have p593 : 0 ≤ (x7_1 : Int) := of_decide_eq_true (by first | (with_reducible assumption) | assumption); have q593 : x7_1 < (l1.length : Int) := of_decide_eq_true (by first | (with_reducible assumption) | assumption); obtain ⟨ad593, e593, hx593_0, hx593_1, hx593_2, hx593_3, hx593_4, hx593_5⟩ := at_T24 HR1.out x7_1 p593 q593; obtain rfl : ad551 = ad593 := (by injection e593); replace hx593_0 := (HB.out.cell (World.block_lt_of_cell? w _ hx593_0)).trans hx593_0; replace hx593_1 := (HB.out.cell (World.block_lt_of_cell? w _ hx593_1)).trans hx593_1; replace hx593_2 := (HB.out.cell (World.block_lt_of_cell? w _ hx593_2)).trans hx593_2; replace hx593_3 := (HB.out.cell (World.block_lt_of_cell? w _ hx593_3)).trans hx593_3; replace hx593_4 := (HB.out.cell (World.block_lt_of_cell? w _ hx593_4)).trans hx593_4; replace hx593_5 := (HB.out.cell (World.block_lt_of_cell? w _ hx593_5)).trans hx593_5; replace p593 := eq_true p593; replace q593 := eq_true q593) | ((with_reducible refine gate_callee (f := 17) rfl ?_); refine goesL_ (some 77) rfl rfl Try.func17 (by kernel_rfl) rfl #[.pointer (some ⟨g546, 0, none⟩), .int .i64 ((rd_T24 l1 x7_1).f4)] rfl (by (try simp only [List.map_toArray, List.map_cons, List.map_nil]); first | done | rfl | (simp only [List.length_drop, List.length_take]; rfl)) ?_; (with_reducible refine (guard_Guard_Tick.calls g546 t576 t577 t578 t579 t580 t581 t582 t583 t584 t585 t586 t539 t587 t588 t589 t590 t591 t592 ((rd_T24 l1 x7_1).f4) t594 t595 t596 t597 t598 t599 t600 t601 t602 t603 t604 t605 t606 t607 t608 t609 t610 t611 w _ ?side1 ?side2 A20.out).mono ?_); (case side1 => repeat (first | (with_reducible first | exact HI546.out | apply IsS48.alloc | apply IsS48.drewN | apply IsS48.drew | apply IsS48.set_0 | apply IsS48.set_1 | apply IsS48.set_2 | apply IsS48.set_3 | apply IsS48.set_4 | apply IsS48.set_5 | apply IsS48.set_6 | apply IsS48.set_7 | apply IsS48.set_8 | apply IsS48.set_9 | apply IsS48.set_10 | apply IsS48.set_12 | apply IsS48.set_13 | apply IsS48.set_14 | apply IsS48.set_15 | apply IsS48.set_16 | apply IsS48.set_17 | refine IsS48.far ?_ NB546_527.out _) | exact HI546.out)); (case side2 => repeat (first | (with_reducible first | exact HB.out | apply below_alloc | apply pw_below_drewN | apply below_drew1 | refine below_set ?_ (IsS48.ge HI546.out) | refine below_set ?_ GE527.out) | exact HB.out)); rintro e w23 ⟨rfl, hi, hb, hk⟩; refine ⟨_, rfl, ?_⟩; have n0_ := Aside0.mk (KeepBut.blk hk (g' := gb527) (o := .cells #[.int .i64 a0_0, .int .i64 a0_1, .int .i64 a0_2, .int .i64 a0_3, .int .i64 a0_4, .int .i64 a0_5, .int .i64 a0_6, .int .i64 a0_7, .int .i64 a0_8, .int .i64 a0_9, .int .i64 a0_10, .slice A0_11 l0_11.length c0_11, .int .i64 a0_12] 27 (0, 0)) (by (with_reducible repeat (first | refine blk_drewN ?_ _ | refine blk_drew ?_ | refine blk_alloc ?_ _)); exact BK527.out) NB527_546.out (by simp)); have n1_ := Aside0.mk (hb); have n2_ := Aside0.mk (hi); clear BK527; clear HB; clear HI546; have BK527 := n0_; have HB := n1_; have HI546 := n2_; clear n0_ n1_ n2_; (try clear hb); (try clear hb2); (try clear hk); (try clear hi)))
             go_ret
             exact ⟨by first | rfl | (simp [errW_none, errW_some] <;> rfl) | (simp [*, errW_none, errW_some] <;> rfl), by repeat (first | (with_reducible first | exact HB.out | apply below_alloc | apply pw_below_drewN | apply below_drew1 | refine below_set ?_ (IsS48.ge HI546.out) | refine below_set ?_ GE527.out) | exact HB.out)⟩
            ·rw [if_neg c21] at H
             have c21b0 : decide (t575 < t594) = false := decide_eq_false c21
             clear c21
             have H' := Aside0.mk H
             clear H
             go_wp2_with (first | ((with_reducible refine gate_callee (f := 16) rfl ?_); refine goesL_ (some 70) rfl rfl Try.func16 (by kernel_rfl) rfl #[.pointer (some ⟨g546, 0, none⟩)] rfl (by (try simp only [List.map_toArray, List.map_cons, List.map_nil]); first | done | rfl | (simp only [List.length_drop, List.length_take]; rfl)) ?_; (with_reducible refine (guard_Guard_Target.calls g546 x547000_1 x547001_1 x547002_1 x547003_1 x547004_1 x547005_1 x547006_1 x547007_1 x547008_1 x547009_1 x547010_1 t539 x547012_1 x547013_1 x547014_1 x547015_1 x547016_1 x547017_1 t575 t576 t577 t578 t579 t580 t581 t582 t583 t584 t585 t586 t587 t588 t589 t590 t591 t592 w _ ?side1 ?side2 A19.out).mono ?_); (case side1 => repeat (first | (with_reducible first | exact HI546.out | apply IsS48.alloc | apply IsS48.drewN | apply IsS48.drew | apply IsS48.set_0 | apply IsS48.set_1 | apply IsS48.set_2 | apply IsS48.set_3 | apply IsS48.set_4 | apply IsS48.set_5 | apply IsS48.set_6 | apply IsS48.set_7 | apply IsS48.set_8 | apply IsS48.set_9 | apply IsS48.set_10 | apply IsS48.set_12 | apply IsS48.set_13 | apply IsS48.set_14 | apply IsS48.set_15 | apply IsS48.set_16 | apply IsS48.set_17 | refine IsS48.far ?_ NB546_527.out _) | exact HI546.out)); (case side2 => repeat (first | (with_reducible first | exact HB.out | apply below_alloc | apply pw_below_drewN | apply below_drew1 | refine below_set ?_ (IsS48.ge HI546.out) | refine below_set ?_ GE527.out) | exact HB.out)); rintro e w24 ⟨rfl, hi, hb, hk⟩; refine ⟨_, rfl, ?_⟩; have n0_ := Aside0.mk (KeepBut.blk hk (g' := gb527) (o := .cells #[.int .i64 a0_0, .int .i64 a0_1, .int .i64 a0_2, .int .i64 a0_3, .int .i64 a0_4, .int .i64 a0_5, .int .i64 a0_6, .int .i64 a0_7, .int .i64 a0_8, .int .i64 a0_9, .int .i64 a0_10, .slice A0_11 l0_11.length c0_11, .int .i64 a0_12] 27 (0, 0)) (by (with_reducible repeat (first | refine blk_drewN ?_ _ | refine blk_drew ?_ | refine blk_alloc ?_ _)); exact BK527.out) NB527_546.out (by simp)); have n1_ := Aside0.mk (hb); have n2_ := Aside0.mk (hi); clear BK527; clear HB; clear HI546; have BK527 := n0_; have HB := n1_; have HI546 := n2_; clear n0_ n1_ n2_; (try clear hb); (try clear hb2); (try clear hk); (try clear hi); have p593 : 0 ≤ (x7_1 : Int) := of_decide_eq_true (by first | (with_reducible assumption) | assumption); have q593 : x7_1 < (l1.length : Int) := of_decide_eq_true (by first | (with_reducible assumption) | assumption); obtain ⟨ad593, e593, hx593_0, hx593_1, hx593_2, hx593_3, hx593_4, hx593_5⟩ := at_T24 HR1.out x7_1 p593 q593; obtain rfl : ad551 = ad593 := (by injection e593); replace hx593_0 := (HB.out.cell (World.block_lt_of_cell? w _ hx593_0)).trans hx593_0; replace hx593_1 := (HB.out.cell (World.block_lt_of_cell? w _ hx593_1)).trans hx593_1; replace hx593_2 := (HB.out.cell (World.block_lt_of_cell? w _ hx593_2)).trans hx593_2; replace hx593_3 := (HB.out.cell (World.block_lt_of_cell? w _ hx593_3)).trans hx593_3; replace hx593_4 := (HB.out.cell (World.block_lt_of_cell? w _ hx593_4)).trans hx593_4; replace hx593_5 := (HB.out.cell (World.block_lt_of_cell? w _ hx593_5)).trans hx593_5; replace p593 := eq_true p593; replace q593 := eq_true q593) | ((with_reducible refine gate_callee (f := 17) rfl ?_); refine goesL_ (some 77) rfl rfl Try.func17 (by kernel_rfl) rfl #[.pointer (some ⟨g546, 0, none⟩), .int .i64 ((rd_T24 l1 x7_1).f4)] rfl (by (try simp only [List.map_toArray, List.map_cons, List.map_nil]); first | done | rfl | (simp only [List.length_drop, List.length_take]; rfl)) ?_; (with_reducible refine (guard_Guard_Tick.calls g546 t576 t577 t578 t579 t580 t581 t582 t583 t584 t585 t586 t539 t587 t588 t589 t590 t591 t592 ((rd_T24 l1 x7_1).f4) t594 t595 t596 t597 t598 t599 t600 t601 t602 t603 t604 t605 t606 t607 t608 t609 t610 t611 w _ ?side1 ?side2 A20.out).mono ?_); (case side1 => repeat (first | (with_reducible first | exact HI546.out | apply IsS48.alloc | apply IsS48.drewN | apply IsS48.drew | apply IsS48.set_0 | apply IsS48.set_1 | apply IsS48.set_2 | apply IsS48.set_3 | apply IsS48.set_4 | apply IsS48.set_5 | apply IsS48.set_6 | apply IsS48.set_7 | apply IsS48.set_8 | apply IsS48.set_9 | apply IsS48.set_10 | apply IsS48.set_12 | apply IsS48.set_13 | apply IsS48.set_14 | apply IsS48.set_15 | apply IsS48.set_16 | apply IsS48.set_17 | refine IsS48.far ?_ NB546_527.out _) | exact HI546.out)); (case side2 => repeat (first | (with_reducible first | exact HB.out | apply below_alloc | apply pw_below_drewN | apply below_drew1 | refine below_set ?_ (IsS48.ge HI546.out) | refine below_set ?_ GE527.out) | exact HB.out)); rintro e w25 ⟨rfl, hi, hb, hk⟩; refine ⟨_, rfl, ?_⟩; have n0_ := Aside0.mk (KeepBut.blk hk (g' := gb527) (o := .cells #[.int .i64 a0_0, .int .i64 a0_1, .int .i64 a0_2, .int .i64 a0_3, .int .i64 a0_4, .int .i64 a0_5, .int .i64 a0_6, .int .i64 a0_7, .int .i64 a0_8, .int .i64 a0_9, .int .i64 a0_10, .slice A0_11 l0_11.length c0_11, .int .i64 a0_12] 27 (0, 0)) (by (with_reducible repeat (first | refine blk_drewN ?_ _ | refine blk_drew ?_ | refine blk_alloc ?_ _)); exact BK527.out) NB527_546.out (by simp)); have n1_ := Aside0.mk (hb); have n2_ := Aside0.mk (hi); clear BK527; clear HB; clear HI546; have BK527 := n0_; have HB := n1_; have HI546 := n2_; clear n0_ n1_ n2_; (try clear hb); (try clear hb2); (try clear hk); (try clear hi)))
             go_meet
             case rel => exact ⟨_, (t595), (t596), (t597), (t598), (t599), (t600), (t601), (t602), (t603), (t604), (t605), (t606), (t607), (t608), (t609), (t610), (t611), H', ⟨by have := HK1.out; have := HJ8.out; first | omega | exact Nat.le_refl _⟩, ⟨by (with_reducible repeat (first | refine blk_drewN ?_ _ | refine blk_drew ?_ | refine blk_alloc ?_ _)); exact BK527.out⟩, ⟨by repeat (first | (with_reducible first | exact HI546.out | apply IsS48.alloc | apply IsS48.drewN | apply IsS48.drew | apply IsS48.set_0 | apply IsS48.set_1 | apply IsS48.set_2 | apply IsS48.set_3 | apply IsS48.set_4 | apply IsS48.set_5 | apply IsS48.set_6 | apply IsS48.set_7 | apply IsS48.set_8 | apply IsS48.set_9 | apply IsS48.set_10 | apply IsS48.set_12 | apply IsS48.set_13 | apply IsS48.set_14 | apply IsS48.set_15 | apply IsS48.set_16 | apply IsS48.set_17 | refine IsS48.far ?_ NB546_527.out _) | exact HI546.out)⟩, ⟨by repeat (first | (with_reducible first | exact HB.out | apply below_alloc | apply pw_below_drewN | apply below_drew1 | refine below_set ?_ (IsS48.ge HI546.out) | refine below_set ?_ GE527.out) | exact HB.out)⟩⟩
          case rest =>
           clear HC14
           try clear c1
           try clear c2
           try clear p2
           try clear c3
           try clear c3b0
           try clear c5
           try clear c5b0
           try clear c5b1
           try clear p5
           try clear q5
           try clear hx5
           try clear c6
           try clear c10
           try clear c10b0
           try clear c11
           try clear c12
           try clear c12b0
           try clear c13
           try clear c13b0
           try clear c15
           try clear c15b0
           try clear c15b1
           try clear c16
           try clear c17
           try clear c21
           try clear c21b0
           try clear hcz7_0
           try clear hcz7_1
           try clear hcz7_10
           try clear hcz7_11
           try clear hcz7_12
           try clear hcz7_2
           try clear hcz7_3
           try clear hcz7_4
           try clear hcz7_5
           try clear hcz7_6
           try clear hcz7_7
           try clear hcz7_8
           try clear hcz7_9
           try clear hfz7_0
           try clear hfz7_1
           try clear hfz7_10
           try clear hfz7_11
           try clear hfz7_12
           try clear hfz7_2
           try clear hfz7_3
           try clear hfz7_4
           try clear hfz7_5
           try clear hfz7_6
           try clear hfz7_7
           try clear hfz7_8
           try clear hfz7_9
           try clear hx551_0
           try clear hx551_1
           try clear hx551_2
           try clear hx551_3
           try clear hx551_4
           try clear hx551_5
           try clear hx552_0
           try clear hx552_1
           try clear hx552_2
           try clear hx552_3
           try clear hx552_4
           try clear hx552_5
           try clear hx553_0
           try clear hx553_1
           try clear hx553_2
           try clear hx553_3
           try clear hx553_4
           try clear hx553_5
           try clear hx554_0
           try clear hx554_1
           try clear hx554_2
           try clear hx554_3
           try clear hx554_4
           try clear hx554_5
           try clear hx555_0
           try clear hx555_1
           try clear hx555_2
           try clear hx555_3
           try clear hx555_4
           try clear hx555_5
           try clear hx556_0
           try clear hx556_1
           try clear hx556_2
           try clear hx556_3
           try clear hx556_4
           try clear hx556_5
           try clear hx593_0
           try clear hx593_1
           try clear hx593_2
           try clear hx593_3
           try clear hx593_4
           try clear hx593_5
           try clear p2
           try clear p551
           try clear p552
           try clear p553
           try clear p554
           try clear p555
           try clear p556
           try clear p593
           try clear q551
           try clear q552
           try clear q553
           try clear q554
           try clear q555
           try clear q556
           try clear q593
           obtain ⟨kq, x547000_13, x547001_13, x547002_13, x547003_13, x547004_13, x547005_13, x547006_13, x547007_13, x547008_13, x547009_13, x547010_13, x547012_13, x547013_13, x547014_13, x547015_13, x547016_13, x547017_13, HA, HJ13, BK527, HI546, HB⟩ := hcut
           cases kq with
           | zero => exact absurd HA.out (by simp [flywheellaw28_GuardBounds.j2])
           | succ kj13 =>
            have H := HA.out
            clear HA
            simp only [flywheellaw28_GuardBounds.j2] at H
            replace H := Option.bind_eq_some_iff.mp H
            obtain ⟨⟨t612, t613, t614, t615, t616, t617, t618, t619, t620, t621, t622, t623, t624, t625, t626, t627, t628, t629⟩, A260, H⟩ := H
            replace H : (if t612 < a0_1 then (some false) else ((guard_Guard_Target.f t613 t614 t615 t616 t617 t618 t619 t620 t621 t622 t623 t539 t624 t625 t626 t627 t628 t629).bind fun bt630 => (if bt630.1 > a0_2 then (some false) else (flywheellaw28_GuardBounds.l0 kj13 l1 (wrap64 (x7_1 + 1)) a0_0 a0_1 a0_2 a0_3 a0_4 a0_5 a0_6 a0_7 a0_8 a0_9 a0_10 l0_11 a0_12 bt630.2.1 bt630.2.2.1 bt630.2.2.2.1 bt630.2.2.2.2.1 bt630.2.2.2.2.2.1 bt630.2.2.2.2.2.2.1 bt630.2.2.2.2.2.2.2.1 bt630.2.2.2.2.2.2.2.2.1 bt630.2.2.2.2.2.2.2.2.2.1 bt630.2.2.2.2.2.2.2.2.2.2.1 bt630.2.2.2.2.2.2.2.2.2.2.2.1 t539 bt630.2.2.2.2.2.2.2.2.2.2.2.2.1 bt630.2.2.2.2.2.2.2.2.2.2.2.2.2.1 bt630.2.2.2.2.2.2.2.2.2.2.2.2.2.2.1 bt630.2.2.2.2.2.2.2.2.2.2.2.2.2.2.2.1 bt630.2.2.2.2.2.2.2.2.2.2.2.2.2.2.2.2.1 bt630.2.2.2.2.2.2.2.2.2.2.2.2.2.2.2.2.2)))) = some r := H
            have A26 := Aside0.mk A260
            clear A260
            by_cases c27 : t612 < a0_1
            ·rw [if_pos c27] at H
             have c27b0 : decide (t612 < a0_1) = true := decide_eq_true c27
             clear c27
             obtain rfl := Option.some.inj H
             try go_wp2
             have n0_ := Aside0.mk (blk_drew BK527.out)
             have n1_ := Aside0.mk (IsS48.drew HI546.out)
             have n2_ := Aside0.mk (below_drew1 HB.out)
             clear BK527
             clear HI546
             clear HB
             have BK527 := n0_
             have HI546 := n1_
             have HB := n2_
             clear n0_ n1_ n2_
             refine start_ (n := 12) (S := fun w' => w'.cell? ⟨gb527, 0, none⟩ = some (.int .i64 a0_0) ∧ w'.cell? ⟨gb527, 1, none⟩ = some (.int .i64 a0_1) ∧ w'.cell? ⟨gb527, 2, none⟩ = some (.int .i64 a0_2) ∧ w'.cell? ⟨gb527, 3, none⟩ = some (.int .i64 a0_3) ∧ w'.cell? ⟨gb527, 4, none⟩ = some (.int .i64 a0_4) ∧ w'.cell? ⟨gb527, 5, none⟩ = some (.int .i64 a0_5) ∧ w'.cell? ⟨gb527, 6, none⟩ = some (.int .i64 a0_6) ∧ w'.cell? ⟨gb527, 7, none⟩ = some (.int .i64 a0_7) ∧ w'.cell? ⟨gb527, 8, none⟩ = some (.int .i64 a0_8) ∧ w'.cell? ⟨gb527, 9, none⟩ = some (.int .i64 a0_9) ∧ w'.cell? ⟨gb527, 10, none⟩ = some (.int .i64 a0_10) ∧ w'.cell? ⟨gb527, 11, none⟩ = some (.slice A0_11 l0_11.length c0_11) ∧ w'.cell? ⟨gb527, 12, none⟩ = some (.int .i64 a0_12)) (ds := []) #[false, false, false, false, false, false, false, false, false, false, false, false] (by kernel_rfl) rfl rfl ⟨(blk_cell BK527.out 0).trans rfl, (blk_cell BK527.out 1).trans rfl, (blk_cell BK527.out 2).trans rfl, (blk_cell BK527.out 3).trans rfl, (blk_cell BK527.out 4).trans rfl, (blk_cell BK527.out 5).trans rfl, (blk_cell BK527.out 6).trans rfl, (blk_cell BK527.out 7).trans rfl, (blk_cell BK527.out 8).trans rfl, (blk_cell BK527.out 9).trans rfl, (blk_cell BK527.out 10).trans rfl, (blk_cell BK527.out 11).trans rfl, (blk_cell BK527.out 12).trans rfl⟩ (fun hHeld => ?_); refine with_tabW flywheellaw28_GuardBounds.tab12 flywheellaw28_GuardBounds.bits12 (fun HT_ HW_ => ?_)
             generalize wc.drew = w28 at BK527 HI546 HB hHeld ⊢
             refine pure_ (i := 0) (N := some 80) (v := ?_) (a' := ?_) #[true, false, false, false, false, false, false, false, false, false, false, false] rfl rfl (any_of HT_.out (by kernel_rfl)) (fun _ _ _ h => h) (Or.inl ⟨by rfl, ?_⟩) ?_ ?_
             rotate_left
             ·intro w'
              go_simp
              with_reducible rfl
             rotate_left
             ·simp only [Act.put, List.setIfInBounds_toArray, List.set_cons_zero, List.set_cons_succ, i64_w, i32_w]
              rfl
             refine pure_ (i := 2) (N := some 82) (v := ?_) (a' := ?_) #[true, false, true, false, false, false, false, false, false, false, false, false] rfl rfl (any_of HT_.out (by kernel_rfl)) (fun _ _ _ h => h) (Or.inl ⟨by rfl, ?_⟩) ?_ ?_
             rotate_left
             ·intro w'
              go_simp
              with_reducible rfl
             rotate_left
             ·simp only [Act.put, List.setIfInBounds_toArray, List.set_cons_zero, List.set_cons_succ, i64_w, i32_w]
              rfl
             refine take_ (i := 3) (N := some 83) (v := ?_) (a' := ?_) #[true, false, true, true, false, false, false, false, false, false, false, false] rfl rfl (take_ofW HT_.out HW_.out (by kernel_rfl)) (fun _ _ _ h => h) (Or.inl ⟨by rfl, ?_⟩) hHeld ?_ ?_
             rotate_left
             ·rintro w' ⟨s0, s1, s2, s3, s4, s5, s6, s7, s8, s9, s10, s11, s12⟩
              go_simp
              with_reducible rfl
             rotate_left
             ·simp only [Act.put, List.setIfInBounds_toArray, List.set_cons_zero, List.set_cons_succ, i64_w, i32_w]
              rfl
             refine one_ (i := 1) (N := some 81) #[true, true, true, true, false, false, false, false, false, false, false, false] rfl rfl (one_of HT_.out (by kernel_rfl)) (by decide) (fun K hK => ?_)
             refine goes_ Try.func16 (by kernel_rfl) rfl #[.pointer (some ⟨g546, 0, none⟩)] (by rfl) rfl rfl (by (try simp only [List.map_toArray, List.map_cons, List.map_nil]); first | done | rfl | (simp only [List.length_drop, List.length_take]; rfl)) ?_
             with_reducible refine (guard_Guard_Target.calls g546 x547000_13 x547001_13 x547002_13 x547003_13 x547004_13 x547005_13 x547006_13 x547007_13 x547008_13 x547009_13 x547010_13 t539 x547012_13 x547013_13 x547014_13 x547015_13 x547016_13 x547017_13 t612 t613 t614 t615 t616 t617 t618 t619 t620 t621 t622 t623 t624 t625 t626 t627 t628 t629 w _ ?side1 ?side2 A26.out).mono ?_
             (case side1 => repeat (first | (with_reducible first | exact HI546.out | apply IsS48.alloc | apply IsS48.drewN | apply IsS48.drew | apply IsS48.set_0 | apply IsS48.set_1 | apply IsS48.set_2 | apply IsS48.set_3 | apply IsS48.set_4 | apply IsS48.set_5 | apply IsS48.set_6 | apply IsS48.set_7 | apply IsS48.set_8 | apply IsS48.set_9 | apply IsS48.set_10 | apply IsS48.set_12 | apply IsS48.set_13 | apply IsS48.set_14 | apply IsS48.set_15 | apply IsS48.set_16 | apply IsS48.set_17 | refine IsS48.far ?_ NB546_527.out _) | exact HI546.out))
             (case side2 => repeat (first | (with_reducible first | exact HB.out | apply below_alloc | apply pw_below_drewN | apply below_drew1 | refine below_set ?_ (IsS48.ge HI546.out) | refine below_set ?_ GE527.out) | exact HB.out))
             rintro e w29 ⟨rfl, hi, hb, hk⟩
             refine ⟨_, rfl, ?_⟩
             have n0_ := Aside0.mk (KeepBut.blk hk (g' := gb527) (o := .cells #[.int .i64 a0_0, .int .i64 a0_1, .int .i64 a0_2, .int .i64 a0_3, .int .i64 a0_4, .int .i64 a0_5, .int .i64 a0_6, .int .i64 a0_7, .int .i64 a0_8, .int .i64 a0_9, .int .i64 a0_10, .slice A0_11 l0_11.length c0_11, .int .i64 a0_12] 27 (0, 0)) (by (with_reducible repeat (first | refine blk_drewN ?_ _ | refine blk_drew ?_ | refine blk_alloc ?_ _)); exact BK527.out) NB527_546.out (by simp))
             have n1_ := Aside0.mk (hb)
             have n2_ := Aside0.mk (hi)
             clear BK527
             clear HB
             clear HI546
             have BK527 := n0_
             have HB := n1_
             have HI546 := n2_
             clear n0_ n1_ n2_
             (try clear hb)
             (try clear hb2)
             (try clear hk)
             (try clear hi)
             refine hK.out _ _ ⟨(blk_cell BK527.out 0).trans rfl, (blk_cell BK527.out 1).trans rfl, (blk_cell BK527.out 2).trans rfl, (blk_cell BK527.out 3).trans rfl, (blk_cell BK527.out 4).trans rfl, (blk_cell BK527.out 5).trans rfl, (blk_cell BK527.out 6).trans rfl, (blk_cell BK527.out 7).trans rfl, (blk_cell BK527.out 8).trans rfl, (blk_cell BK527.out 9).trans rfl, (blk_cell BK527.out 10).trans rfl, (blk_cell BK527.out 11).trans rfl, (blk_cell BK527.out 12).trans rfl⟩ (fun hHeld => ?_)
             clear hK K
             refine norm_ (a' := ?_) ?_ ?_
             rotate_left
             ·show Act.put _ (some 81) _ = _
              simp only [Act.put, List.setIfInBounds_toArray, List.set_cons_zero, List.set_cons_succ, i64_w, i32_w]
              rfl
             refine pure_ (i := 4) (N := some 84) (v := ?_) (a' := ?_) #[true, true, true, true, true, false, false, false, false, false, false, false] rfl rfl (any_of HT_.out (by kernel_rfl)) (fun _ _ _ h => h) (Or.inl ⟨by rfl, ?_⟩) ?_ ?_
             rotate_left
             ·intro w'
              go_simp
              with_reducible rfl
             rotate_left
             ·simp only [Act.put, List.setIfInBounds_toArray, List.set_cons_zero, List.set_cons_succ, i64_w, i32_w]
              rfl
             refine pure_ (i := 5) (N := some 85) (v := ?_) (a' := ?_) #[true, true, true, true, true, true, false, false, false, false, false, false] rfl rfl (any_of HT_.out (by kernel_rfl)) (fun _ _ _ h => h) (Or.inl ⟨by rfl, ?_⟩) ?_ ?_
             rotate_left
             ·intro w'
              go_simp
              with_reducible rfl
             rotate_left
             ·simp only [Act.put, List.setIfInBounds_toArray, List.set_cons_zero, List.set_cons_succ, i64_w, i32_w]
              rfl
             refine pure_ (i := 6) (N := some 86) (v := undef) (a' := ?_) #[true, true, true, true, true, true, true, false, false, false, false, false] rfl rfl (any_of HT_.out (by kernel_rfl)) (fun _ _ _ h => h) (Or.inr ⟨by rfl, rfl⟩) ?_ ?_
             rotate_left
             ·simp only [Act.put, List.setIfInBounds_toArray, List.set_cons_zero, List.set_cons_succ, i64_w, i32_w]
              rfl
             refine pure_ (i := 7) (N := some 87) (v := undef) (a' := ?_) #[true, true, true, true, true, true, true, true, false, false, false, false] rfl rfl (any_of HT_.out (by kernel_rfl)) (fun _ _ _ h => h) (Or.inr ⟨by rfl, rfl⟩) ?_ ?_
             rotate_left
             ·simp only [Act.put, List.setIfInBounds_toArray, List.set_cons_zero, List.set_cons_succ, i64_w, i32_w]
              rfl
             refine pure_ (i := 8) (N := some 88) (v := undef) (a' := ?_) #[true, true, true, true, true, true, true, true, true, false, false, false] rfl rfl (any_of HT_.out (by kernel_rfl)) (fun _ _ _ h => h) (Or.inr ⟨by rfl, rfl⟩) ?_ ?_
             rotate_left
             ·simp only [Act.put, List.setIfInBounds_toArray, List.set_cons_zero, List.set_cons_succ, i64_w, i32_w]
              rfl
             refine pure_ (i := 9) (N := some 89) (v := undef) (a' := ?_) #[true, true, true, true, true, true, true, true, true, true, false, false] rfl rfl (any_of HT_.out (by kernel_rfl)) (fun _ _ _ h => h) (Or.inr ⟨by rfl, rfl⟩) ?_ ?_
             rotate_left
             ·simp only [Act.put, List.setIfInBounds_toArray, List.set_cons_zero, List.set_cons_succ, i64_w, i32_w]
              rfl
             refine pure_ (i := 10) (N := some 90) (v := undef) (a' := ?_) #[true, true, true, true, true, true, true, true, true, true, true, false] rfl rfl (any_of HT_.out (by kernel_rfl)) (fun _ _ _ h => h) (Or.inr ⟨by rfl, rfl⟩) ?_ ?_
             rotate_left
             ·simp only [Act.put, List.setIfInBounds_toArray, List.set_cons_zero, List.set_cons_succ, i64_w, i32_w]
              rfl
             refine pure_ (i := 11) (N := some 91) (v := ?_) (a' := ?_) #[true, true, true, true, true, true, true, true, true, true, true, true] rfl rfl (any_of HT_.out (by kernel_rfl)) (fun _ _ _ h => h) (Or.inl ⟨by rfl, ?_⟩) ?_ ?_
             rotate_left
             ·intro w'
              go_simp
              with_reducible rfl
             rotate_left
             ·simp only [Act.put, List.setIfInBounds_toArray, List.set_cons_zero, List.set_cons_succ, i64_w, i32_w]
              rfl
             refine done_ (done_of HT_.out (by kernel_rfl)) ?_
             try go_wp2
             go_ret
             exact ⟨by first | rfl | (simp [errW_none, errW_some] <;> rfl) | (simp [*, errW_none, errW_some] <;> rfl), by repeat (first | (with_reducible first | exact HB.out | apply below_alloc | apply pw_below_drewN | apply below_drew1 | refine below_set ?_ (IsS48.ge HI546.out) | refine below_set ?_ GE527.out) | exact HB.out)⟩
            ·rw [if_neg c27] at H
             have c27b0 : decide (t612 < a0_1) = false := decide_eq_false c27
             clear c27
             replace H := Option.bind_eq_some_iff.mp H
             obtain ⟨⟨t630, t631, t632, t633, t634, t635, t636, t637, t638, t639, t640, t641, t642, t643, t644, t645, t646, t647⟩, A300, H⟩ := H
             replace H : (if t630 > a0_2 then (some false) else (flywheellaw28_GuardBounds.l0 kj13 l1 (wrap64 (x7_1 + 1)) a0_0 a0_1 a0_2 a0_3 a0_4 a0_5 a0_6 a0_7 a0_8 a0_9 a0_10 l0_11 a0_12 t631 t632 t633 t634 t635 t636 t637 t638 t639 t640 t641 t539 t642 t643 t644 t645 t646 t647)) = some r := H
             have A30 := Aside0.mk A300
             clear A300
             by_cases c31 : t630 > a0_2
             ·rw [if_pos c31] at H
              have c31b0 : decide (a0_2 < t630) = true := decide_eq_true c31
              clear c31
              obtain rfl := Option.some.inj H
              try go_wp2
              have n0_ := Aside0.mk (blk_drew BK527.out)
              have n1_ := Aside0.mk (IsS48.drew HI546.out)
              have n2_ := Aside0.mk (below_drew1 HB.out)
              clear BK527
              clear HI546
              clear HB
              have BK527 := n0_
              have HI546 := n1_
              have HB := n2_
              clear n0_ n1_ n2_
              refine start_ (n := 12) (S := fun w' => w'.cell? ⟨gb527, 0, none⟩ = some (.int .i64 a0_0) ∧ w'.cell? ⟨gb527, 1, none⟩ = some (.int .i64 a0_1) ∧ w'.cell? ⟨gb527, 2, none⟩ = some (.int .i64 a0_2) ∧ w'.cell? ⟨gb527, 3, none⟩ = some (.int .i64 a0_3) ∧ w'.cell? ⟨gb527, 4, none⟩ = some (.int .i64 a0_4) ∧ w'.cell? ⟨gb527, 5, none⟩ = some (.int .i64 a0_5) ∧ w'.cell? ⟨gb527, 6, none⟩ = some (.int .i64 a0_6) ∧ w'.cell? ⟨gb527, 7, none⟩ = some (.int .i64 a0_7) ∧ w'.cell? ⟨gb527, 8, none⟩ = some (.int .i64 a0_8) ∧ w'.cell? ⟨gb527, 9, none⟩ = some (.int .i64 a0_9) ∧ w'.cell? ⟨gb527, 10, none⟩ = some (.int .i64 a0_10) ∧ w'.cell? ⟨gb527, 11, none⟩ = some (.slice A0_11 l0_11.length c0_11) ∧ w'.cell? ⟨gb527, 12, none⟩ = some (.int .i64 a0_12)) (ds := []) #[false, false, false, false, false, false, false, false, false, false, false, false] (by kernel_rfl) rfl rfl ⟨(blk_cell BK527.out 0).trans rfl, (blk_cell BK527.out 1).trans rfl, (blk_cell BK527.out 2).trans rfl, (blk_cell BK527.out 3).trans rfl, (blk_cell BK527.out 4).trans rfl, (blk_cell BK527.out 5).trans rfl, (blk_cell BK527.out 6).trans rfl, (blk_cell BK527.out 7).trans rfl, (blk_cell BK527.out 8).trans rfl, (blk_cell BK527.out 9).trans rfl, (blk_cell BK527.out 10).trans rfl, (blk_cell BK527.out 11).trans rfl, (blk_cell BK527.out 12).trans rfl⟩ (fun hHeld => ?_); refine with_tabW flywheellaw28_GuardBounds.tab12 flywheellaw28_GuardBounds.bits12 (fun HT_ HW_ => ?_)
              generalize wc.drew = w32 at BK527 HI546 HB hHeld ⊢
              refine pure_ (i := 0) (N := some 80) (v := ?_) (a' := ?_) #[true, false, false, false, false, false, false, false, false, false, false, false] rfl rfl (any_of HT_.out (by kernel_rfl)) (fun _ _ _ h => h) (Or.inl ⟨by rfl, ?_⟩) ?_ ?_
              rotate_left
              ·intro w'
               go_simp
               with_reducible rfl
              rotate_left
              ·simp only [Act.put, List.setIfInBounds_toArray, List.set_cons_zero, List.set_cons_succ, i64_w, i32_w]
               rfl
              refine pure_ (i := 2) (N := some 82) (v := ?_) (a' := ?_) #[true, false, true, false, false, false, false, false, false, false, false, false] rfl rfl (any_of HT_.out (by kernel_rfl)) (fun _ _ _ h => h) (Or.inl ⟨by rfl, ?_⟩) ?_ ?_
              rotate_left
              ·intro w'
               go_simp
               with_reducible rfl
              rotate_left
              ·simp only [Act.put, List.setIfInBounds_toArray, List.set_cons_zero, List.set_cons_succ, i64_w, i32_w]
               rfl
              refine take_ (i := 3) (N := some 83) (v := ?_) (a' := ?_) #[true, false, true, true, false, false, false, false, false, false, false, false] rfl rfl (take_ofW HT_.out HW_.out (by kernel_rfl)) (fun _ _ _ h => h) (Or.inl ⟨by rfl, ?_⟩) hHeld ?_ ?_
              rotate_left
              ·rintro w' ⟨s0, s1, s2, s3, s4, s5, s6, s7, s8, s9, s10, s11, s12⟩
               go_simp
               with_reducible rfl
              rotate_left
              ·simp only [Act.put, List.setIfInBounds_toArray, List.set_cons_zero, List.set_cons_succ, i64_w, i32_w]
               rfl
              refine one_ (i := 1) (N := some 81) #[true, true, true, true, false, false, false, false, false, false, false, false] rfl rfl (one_of HT_.out (by kernel_rfl)) (by decide) (fun K hK => ?_)
              refine goes_ Try.func16 (by kernel_rfl) rfl #[.pointer (some ⟨g546, 0, none⟩)] (by rfl) rfl rfl (by (try simp only [List.map_toArray, List.map_cons, List.map_nil]); first | done | rfl | (simp only [List.length_drop, List.length_take]; rfl)) ?_
              with_reducible refine (guard_Guard_Target.calls g546 x547000_13 x547001_13 x547002_13 x547003_13 x547004_13 x547005_13 x547006_13 x547007_13 x547008_13 x547009_13 x547010_13 t539 x547012_13 x547013_13 x547014_13 x547015_13 x547016_13 x547017_13 t612 t613 t614 t615 t616 t617 t618 t619 t620 t621 t622 t623 t624 t625 t626 t627 t628 t629 w _ ?side1 ?side2 A26.out).mono ?_
              (case side1 => repeat (first | (with_reducible first | exact HI546.out | apply IsS48.alloc | apply IsS48.drewN | apply IsS48.drew | apply IsS48.set_0 | apply IsS48.set_1 | apply IsS48.set_2 | apply IsS48.set_3 | apply IsS48.set_4 | apply IsS48.set_5 | apply IsS48.set_6 | apply IsS48.set_7 | apply IsS48.set_8 | apply IsS48.set_9 | apply IsS48.set_10 | apply IsS48.set_12 | apply IsS48.set_13 | apply IsS48.set_14 | apply IsS48.set_15 | apply IsS48.set_16 | apply IsS48.set_17 | refine IsS48.far ?_ NB546_527.out _) | exact HI546.out))
              (case side2 => repeat (first | (with_reducible first | exact HB.out | apply below_alloc | apply pw_below_drewN | apply below_drew1 | refine below_set ?_ (IsS48.ge HI546.out) | refine below_set ?_ GE527.out) | exact HB.out))
              rintro e w33 ⟨rfl, hi, hb, hk⟩
              refine ⟨_, rfl, ?_⟩
              have n0_ := Aside0.mk (KeepBut.blk hk (g' := gb527) (o := .cells #[.int .i64 a0_0, .int .i64 a0_1, .int .i64 a0_2, .int .i64 a0_3, .int .i64 a0_4, .int .i64 a0_5, .int .i64 a0_6, .int .i64 a0_7, .int .i64 a0_8, .int .i64 a0_9, .int .i64 a0_10, .slice A0_11 l0_11.length c0_11, .int .i64 a0_12] 27 (0, 0)) (by (with_reducible repeat (first | refine blk_drewN ?_ _ | refine blk_drew ?_ | refine blk_alloc ?_ _)); exact BK527.out) NB527_546.out (by simp))
              have n1_ := Aside0.mk (hb)
              have n2_ := Aside0.mk (hi)
              clear BK527
              clear HB
              clear HI546
              have BK527 := n0_
              have HB := n1_
              have HI546 := n2_
              clear n0_ n1_ n2_
              (try clear hb)
              (try clear hb2)
              (try clear hk)
              (try clear hi)
              refine hK.out _ _ ⟨(blk_cell BK527.out 0).trans rfl, (blk_cell BK527.out 1).trans rfl, (blk_cell BK527.out 2).trans rfl, (blk_cell BK527.out 3).trans rfl, (blk_cell BK527.out 4).trans rfl, (blk_cell BK527.out 5).trans rfl, (blk_cell BK527.out 6).trans rfl, (blk_cell BK527.out 7).trans rfl, (blk_cell BK527.out 8).trans rfl, (blk_cell BK527.out 9).trans rfl, (blk_cell BK527.out 10).trans rfl, (blk_cell BK527.out 11).trans rfl, (blk_cell BK527.out 12).trans rfl⟩ (fun hHeld => ?_)
              clear hK K
              refine norm_ (a' := ?_) ?_ ?_
              rotate_left
              ·show Act.put _ (some 81) _ = _
               simp only [Act.put, List.setIfInBounds_toArray, List.set_cons_zero, List.set_cons_succ, i64_w, i32_w]
               rfl
              refine pure_ (i := 4) (N := some 84) (v := ?_) (a' := ?_) #[true, true, true, true, true, false, false, false, false, false, false, false] rfl rfl (any_of HT_.out (by kernel_rfl)) (fun _ _ _ h => h) (Or.inl ⟨by rfl, ?_⟩) ?_ ?_
              rotate_left
              ·intro w'
               go_simp
               with_reducible rfl
              rotate_left
              ·simp only [Act.put, List.setIfInBounds_toArray, List.set_cons_zero, List.set_cons_succ, i64_w, i32_w]
               rfl
              refine pure_ (i := 5) (N := some 85) (v := ?_) (a' := ?_) #[true, true, true, true, true, true, false, false, false, false, false, false] rfl rfl (any_of HT_.out (by kernel_rfl)) (fun _ _ _ h => h) (Or.inl ⟨by rfl, ?_⟩) ?_ ?_
              rotate_left
              ·intro w'
               go_simp
               with_reducible rfl
              rotate_left
              ·simp only [Act.put, List.setIfInBounds_toArray, List.set_cons_zero, List.set_cons_succ, i64_w, i32_w]
               rfl
              refine pure_ (i := 6) (N := some 86) (v := ?_) (a' := ?_) #[true, true, true, true, true, true, true, false, false, false, false, false] rfl rfl (any_of HT_.out (by kernel_rfl)) (fun _ _ _ h => h) (Or.inl ⟨by rfl, ?_⟩) ?_ ?_
              rotate_left
              ·intro w'
               go_simp
               with_reducible rfl
              rotate_left
              ·simp only [Act.put, List.setIfInBounds_toArray, List.set_cons_zero, List.set_cons_succ, i64_w, i32_w]
               rfl
              refine pure_ (i := 8) (N := some 88) (v := ?_) (a' := ?_) #[true, true, true, true, true, true, true, false, true, false, false, false] rfl rfl (any_of HT_.out (by kernel_rfl)) (fun _ _ _ h => h) (Or.inl ⟨by rfl, ?_⟩) ?_ ?_
              rotate_left
              ·intro w'
               go_simp
               with_reducible rfl
              rotate_left
              ·simp only [Act.put, List.setIfInBounds_toArray, List.set_cons_zero, List.set_cons_succ, i64_w, i32_w]
               rfl
              refine take_ (i := 9) (N := some 89) (v := ?_) (a' := ?_) #[true, true, true, true, true, true, true, false, true, true, false, false] rfl rfl (take_ofW HT_.out HW_.out (by kernel_rfl)) (fun _ _ _ h => h) (Or.inl ⟨by rfl, ?_⟩) hHeld ?_ ?_
              rotate_left
              ·rintro w' ⟨s0, s1, s2, s3, s4, s5, s6, s7, s8, s9, s10, s11, s12⟩
               go_simp
               with_reducible rfl
              rotate_left
              ·simp only [Act.put, List.setIfInBounds_toArray, List.set_cons_zero, List.set_cons_succ, i64_w, i32_w]
               rfl
              refine one_ (i := 7) (N := some 87) #[true, true, true, true, true, true, true, true, true, true, false, false] rfl rfl (one_of HT_.out (by kernel_rfl)) (by decide) (fun K hK => ?_)
              refine goes_ Try.func16 (by kernel_rfl) rfl #[.pointer (some ⟨g546, 0, none⟩)] (by rfl) rfl rfl (by (try simp only [List.map_toArray, List.map_cons, List.map_nil]); first | done | rfl | (simp only [List.length_drop, List.length_take]; rfl)) ?_
              with_reducible refine (guard_Guard_Target.calls g546 t613 t614 t615 t616 t617 t618 t619 t620 t621 t622 t623 t539 t624 t625 t626 t627 t628 t629 t630 t631 t632 t633 t634 t635 t636 t637 t638 t639 t640 t641 t642 t643 t644 t645 t646 t647 w _ ?side1 ?side2 A30.out).mono ?_
              (case side1 => repeat (first | (with_reducible first | exact HI546.out | apply IsS48.alloc | apply IsS48.drewN | apply IsS48.drew | apply IsS48.set_0 | apply IsS48.set_1 | apply IsS48.set_2 | apply IsS48.set_3 | apply IsS48.set_4 | apply IsS48.set_5 | apply IsS48.set_6 | apply IsS48.set_7 | apply IsS48.set_8 | apply IsS48.set_9 | apply IsS48.set_10 | apply IsS48.set_12 | apply IsS48.set_13 | apply IsS48.set_14 | apply IsS48.set_15 | apply IsS48.set_16 | apply IsS48.set_17 | refine IsS48.far ?_ NB546_527.out _) | exact HI546.out))
              (case side2 => repeat (first | (with_reducible first | exact HB.out | apply below_alloc | apply pw_below_drewN | apply below_drew1 | refine below_set ?_ (IsS48.ge HI546.out) | refine below_set ?_ GE527.out) | exact HB.out))
              rintro e w34 ⟨rfl, hi, hb, hk⟩
              refine ⟨_, rfl, ?_⟩
              have n0_ := Aside0.mk (KeepBut.blk hk (g' := gb527) (o := .cells #[.int .i64 a0_0, .int .i64 a0_1, .int .i64 a0_2, .int .i64 a0_3, .int .i64 a0_4, .int .i64 a0_5, .int .i64 a0_6, .int .i64 a0_7, .int .i64 a0_8, .int .i64 a0_9, .int .i64 a0_10, .slice A0_11 l0_11.length c0_11, .int .i64 a0_12] 27 (0, 0)) (by (with_reducible repeat (first | refine blk_drewN ?_ _ | refine blk_drew ?_ | refine blk_alloc ?_ _)); exact BK527.out) NB527_546.out (by simp))
              have n1_ := Aside0.mk (hb)
              have n2_ := Aside0.mk (hi)
              clear BK527
              clear HB
              clear HI546
              have BK527 := n0_
              have HB := n1_
              have HI546 := n2_
              clear n0_ n1_ n2_
              (try clear hb)
              (try clear hb2)
              (try clear hk)
              (try clear hi)
              refine hK.out _ _ ⟨(blk_cell BK527.out 0).trans rfl, (blk_cell BK527.out 1).trans rfl, (blk_cell BK527.out 2).trans rfl, (blk_cell BK527.out 3).trans rfl, (blk_cell BK527.out 4).trans rfl, (blk_cell BK527.out 5).trans rfl, (blk_cell BK527.out 6).trans rfl, (blk_cell BK527.out 7).trans rfl, (blk_cell BK527.out 8).trans rfl, (blk_cell BK527.out 9).trans rfl, (blk_cell BK527.out 10).trans rfl, (blk_cell BK527.out 11).trans rfl, (blk_cell BK527.out 12).trans rfl⟩ (fun hHeld => ?_)
              clear hK K
              refine norm_ (a' := ?_) ?_ ?_
              rotate_left
              ·show Act.put _ (some 87) _ = _
               simp only [Act.put, List.setIfInBounds_toArray, List.set_cons_zero, List.set_cons_succ, i64_w, i32_w]
               rfl
              refine pure_ (i := 10) (N := some 90) (v := ?_) (a' := ?_) #[true, true, true, true, true, true, true, true, true, true, true, false] rfl rfl (any_of HT_.out (by kernel_rfl)) (fun _ _ _ h => h) (Or.inl ⟨by rfl, ?_⟩) ?_ ?_
              rotate_left
              ·intro w'
               go_simp
               with_reducible rfl
              rotate_left
              ·simp only [Act.put, List.setIfInBounds_toArray, List.set_cons_zero, List.set_cons_succ, i64_w, i32_w]
               rfl
              refine pure_ (i := 11) (N := some 91) (v := ?_) (a' := ?_) #[true, true, true, true, true, true, true, true, true, true, true, true] rfl rfl (any_of HT_.out (by kernel_rfl)) (fun _ _ _ h => h) (Or.inl ⟨by rfl, ?_⟩) ?_ ?_
              rotate_left
              ·intro w'
               go_simp
               with_reducible rfl
              rotate_left
              ·simp only [Act.put, List.setIfInBounds_toArray, List.set_cons_zero, List.set_cons_succ, i64_w, i32_w]
               rfl
              refine done_ (done_of HT_.out (by kernel_rfl)) ?_
              try go_wp2
              go_ret
              exact ⟨by first | rfl | (simp [errW_none, errW_some] <;> rfl) | (simp [*, errW_none, errW_some] <;> rfl), by repeat (first | (with_reducible first | exact HB.out | apply below_alloc | apply pw_below_drewN | apply below_drew1 | refine below_set ?_ (IsS48.ge HI546.out) | refine below_set ?_ GE527.out) | exact HB.out)⟩
             ·rw [if_neg c31] at H
              have c31b0 : decide (a0_2 < t630) = false := decide_eq_false c31
              clear c31
              have H' := Aside0.mk H
              clear H
              try go_wp2
              have n0_ := Aside0.mk (blk_drew BK527.out)
              have n1_ := Aside0.mk (IsS48.drew HI546.out)
              have n2_ := Aside0.mk (below_drew1 HB.out)
              clear BK527
              clear HI546
              clear HB
              have BK527 := n0_
              have HI546 := n1_
              have HB := n2_
              clear n0_ n1_ n2_
              refine start_ (n := 12) (S := fun w' => w'.cell? ⟨gb527, 0, none⟩ = some (.int .i64 a0_0) ∧ w'.cell? ⟨gb527, 1, none⟩ = some (.int .i64 a0_1) ∧ w'.cell? ⟨gb527, 2, none⟩ = some (.int .i64 a0_2) ∧ w'.cell? ⟨gb527, 3, none⟩ = some (.int .i64 a0_3) ∧ w'.cell? ⟨gb527, 4, none⟩ = some (.int .i64 a0_4) ∧ w'.cell? ⟨gb527, 5, none⟩ = some (.int .i64 a0_5) ∧ w'.cell? ⟨gb527, 6, none⟩ = some (.int .i64 a0_6) ∧ w'.cell? ⟨gb527, 7, none⟩ = some (.int .i64 a0_7) ∧ w'.cell? ⟨gb527, 8, none⟩ = some (.int .i64 a0_8) ∧ w'.cell? ⟨gb527, 9, none⟩ = some (.int .i64 a0_9) ∧ w'.cell? ⟨gb527, 10, none⟩ = some (.int .i64 a0_10) ∧ w'.cell? ⟨gb527, 11, none⟩ = some (.slice A0_11 l0_11.length c0_11) ∧ w'.cell? ⟨gb527, 12, none⟩ = some (.int .i64 a0_12)) (ds := []) #[false, false, false, false, false, false, false, false, false, false, false, false] (by kernel_rfl) rfl rfl ⟨(blk_cell BK527.out 0).trans rfl, (blk_cell BK527.out 1).trans rfl, (blk_cell BK527.out 2).trans rfl, (blk_cell BK527.out 3).trans rfl, (blk_cell BK527.out 4).trans rfl, (blk_cell BK527.out 5).trans rfl, (blk_cell BK527.out 6).trans rfl, (blk_cell BK527.out 7).trans rfl, (blk_cell BK527.out 8).trans rfl, (blk_cell BK527.out 9).trans rfl, (blk_cell BK527.out 10).trans rfl, (blk_cell BK527.out 11).trans rfl, (blk_cell BK527.out 12).trans rfl⟩ (fun hHeld => ?_); refine with_tabW flywheellaw28_GuardBounds.tab12 flywheellaw28_GuardBounds.bits12 (fun HT_ HW_ => ?_)
              generalize wc.drew = w35 at BK527 HI546 HB hHeld ⊢
              refine pure_ (i := 0) (N := some 80) (v := ?_) (a' := ?_) #[true, false, false, false, false, false, false, false, false, false, false, false] rfl rfl (any_of HT_.out (by kernel_rfl)) (fun _ _ _ h => h) (Or.inl ⟨by rfl, ?_⟩) ?_ ?_
              rotate_left
              ·intro w'
               go_simp
               with_reducible rfl
              rotate_left
              ·simp only [Act.put, List.setIfInBounds_toArray, List.set_cons_zero, List.set_cons_succ, i64_w, i32_w]
               rfl
              refine pure_ (i := 2) (N := some 82) (v := ?_) (a' := ?_) #[true, false, true, false, false, false, false, false, false, false, false, false] rfl rfl (any_of HT_.out (by kernel_rfl)) (fun _ _ _ h => h) (Or.inl ⟨by rfl, ?_⟩) ?_ ?_
              rotate_left
              ·intro w'
               go_simp
               with_reducible rfl
              rotate_left
              ·simp only [Act.put, List.setIfInBounds_toArray, List.set_cons_zero, List.set_cons_succ, i64_w, i32_w]
               rfl
              refine take_ (i := 3) (N := some 83) (v := ?_) (a' := ?_) #[true, false, true, true, false, false, false, false, false, false, false, false] rfl rfl (take_ofW HT_.out HW_.out (by kernel_rfl)) (fun _ _ _ h => h) (Or.inl ⟨by rfl, ?_⟩) hHeld ?_ ?_
              rotate_left
              ·rintro w' ⟨s0, s1, s2, s3, s4, s5, s6, s7, s8, s9, s10, s11, s12⟩
               go_simp
               with_reducible rfl
              rotate_left
              ·simp only [Act.put, List.setIfInBounds_toArray, List.set_cons_zero, List.set_cons_succ, i64_w, i32_w]
               rfl
              refine one_ (i := 1) (N := some 81) #[true, true, true, true, false, false, false, false, false, false, false, false] rfl rfl (one_of HT_.out (by kernel_rfl)) (by decide) (fun K hK => ?_)
              refine goes_ Try.func16 (by kernel_rfl) rfl #[.pointer (some ⟨g546, 0, none⟩)] (by rfl) rfl rfl (by (try simp only [List.map_toArray, List.map_cons, List.map_nil]); first | done | rfl | (simp only [List.length_drop, List.length_take]; rfl)) ?_
              with_reducible refine (guard_Guard_Target.calls g546 x547000_13 x547001_13 x547002_13 x547003_13 x547004_13 x547005_13 x547006_13 x547007_13 x547008_13 x547009_13 x547010_13 t539 x547012_13 x547013_13 x547014_13 x547015_13 x547016_13 x547017_13 t612 t613 t614 t615 t616 t617 t618 t619 t620 t621 t622 t623 t624 t625 t626 t627 t628 t629 w _ ?side1 ?side2 A26.out).mono ?_
              (case side1 => repeat (first | (with_reducible first | exact HI546.out | apply IsS48.alloc | apply IsS48.drewN | apply IsS48.drew | apply IsS48.set_0 | apply IsS48.set_1 | apply IsS48.set_2 | apply IsS48.set_3 | apply IsS48.set_4 | apply IsS48.set_5 | apply IsS48.set_6 | apply IsS48.set_7 | apply IsS48.set_8 | apply IsS48.set_9 | apply IsS48.set_10 | apply IsS48.set_12 | apply IsS48.set_13 | apply IsS48.set_14 | apply IsS48.set_15 | apply IsS48.set_16 | apply IsS48.set_17 | refine IsS48.far ?_ NB546_527.out _) | exact HI546.out))
              (case side2 => repeat (first | (with_reducible first | exact HB.out | apply below_alloc | apply pw_below_drewN | apply below_drew1 | refine below_set ?_ (IsS48.ge HI546.out) | refine below_set ?_ GE527.out) | exact HB.out))
              rintro e w36 ⟨rfl, hi, hb, hk⟩
              refine ⟨_, rfl, ?_⟩
              have n0_ := Aside0.mk (KeepBut.blk hk (g' := gb527) (o := .cells #[.int .i64 a0_0, .int .i64 a0_1, .int .i64 a0_2, .int .i64 a0_3, .int .i64 a0_4, .int .i64 a0_5, .int .i64 a0_6, .int .i64 a0_7, .int .i64 a0_8, .int .i64 a0_9, .int .i64 a0_10, .slice A0_11 l0_11.length c0_11, .int .i64 a0_12] 27 (0, 0)) (by (with_reducible repeat (first | refine blk_drewN ?_ _ | refine blk_drew ?_ | refine blk_alloc ?_ _)); exact BK527.out) NB527_546.out (by simp))
              have n1_ := Aside0.mk (hb)
              have n2_ := Aside0.mk (hi)
              clear BK527
              clear HB
              clear HI546
              have BK527 := n0_
              have HB := n1_
              have HI546 := n2_
              clear n0_ n1_ n2_
              (try clear hb)
              (try clear hb2)
              (try clear hk)
              (try clear hi)
              refine hK.out _ _ ⟨(blk_cell BK527.out 0).trans rfl, (blk_cell BK527.out 1).trans rfl, (blk_cell BK527.out 2).trans rfl, (blk_cell BK527.out 3).trans rfl, (blk_cell BK527.out 4).trans rfl, (blk_cell BK527.out 5).trans rfl, (blk_cell BK527.out 6).trans rfl, (blk_cell BK527.out 7).trans rfl, (blk_cell BK527.out 8).trans rfl, (blk_cell BK527.out 9).trans rfl, (blk_cell BK527.out 10).trans rfl, (blk_cell BK527.out 11).trans rfl, (blk_cell BK527.out 12).trans rfl⟩ (fun hHeld => ?_)
              clear hK K
              refine norm_ (a' := ?_) ?_ ?_
              rotate_left
              ·show Act.put _ (some 81) _ = _
               simp only [Act.put, List.setIfInBounds_toArray, List.set_cons_zero, List.set_cons_succ, i64_w, i32_w]
               rfl
              refine pure_ (i := 4) (N := some 84) (v := ?_) (a' := ?_) #[true, true, true, true, true, false, false, false, false, false, false, false] rfl rfl (any_of HT_.out (by kernel_rfl)) (fun _ _ _ h => h) (Or.inl ⟨by rfl, ?_⟩) ?_ ?_
              rotate_left
              ·intro w'
               go_simp
               with_reducible rfl
              rotate_left
              ·simp only [Act.put, List.setIfInBounds_toArray, List.set_cons_zero, List.set_cons_succ, i64_w, i32_w]
               rfl
              refine pure_ (i := 5) (N := some 85) (v := ?_) (a' := ?_) #[true, true, true, true, true, true, false, false, false, false, false, false] rfl rfl (any_of HT_.out (by kernel_rfl)) (fun _ _ _ h => h) (Or.inl ⟨by rfl, ?_⟩) ?_ ?_
              rotate_left
              ·intro w'
               go_simp
               with_reducible rfl
              rotate_left
              ·simp only [Act.put, List.setIfInBounds_toArray, List.set_cons_zero, List.set_cons_succ, i64_w, i32_w]
               rfl
              refine pure_ (i := 6) (N := some 86) (v := ?_) (a' := ?_) #[true, true, true, true, true, true, true, false, false, false, false, false] rfl rfl (any_of HT_.out (by kernel_rfl)) (fun _ _ _ h => h) (Or.inl ⟨by rfl, ?_⟩) ?_ ?_
              rotate_left
              ·intro w'
               go_simp
               with_reducible rfl
              rotate_left
              ·simp only [Act.put, List.setIfInBounds_toArray, List.set_cons_zero, List.set_cons_succ, i64_w, i32_w]
               rfl
              refine pure_ (i := 8) (N := some 88) (v := ?_) (a' := ?_) #[true, true, true, true, true, true, true, false, true, false, false, false] rfl rfl (any_of HT_.out (by kernel_rfl)) (fun _ _ _ h => h) (Or.inl ⟨by rfl, ?_⟩) ?_ ?_
              rotate_left
              ·intro w'
               go_simp
               with_reducible rfl
              rotate_left
              ·simp only [Act.put, List.setIfInBounds_toArray, List.set_cons_zero, List.set_cons_succ, i64_w, i32_w]
               rfl
              refine take_ (i := 9) (N := some 89) (v := ?_) (a' := ?_) #[true, true, true, true, true, true, true, false, true, true, false, false] rfl rfl (take_ofW HT_.out HW_.out (by kernel_rfl)) (fun _ _ _ h => h) (Or.inl ⟨by rfl, ?_⟩) hHeld ?_ ?_
              rotate_left
              ·rintro w' ⟨s0, s1, s2, s3, s4, s5, s6, s7, s8, s9, s10, s11, s12⟩
               go_simp
               with_reducible rfl
              rotate_left
              ·simp only [Act.put, List.setIfInBounds_toArray, List.set_cons_zero, List.set_cons_succ, i64_w, i32_w]
               rfl
              refine one_ (i := 7) (N := some 87) #[true, true, true, true, true, true, true, true, true, true, false, false] rfl rfl (one_of HT_.out (by kernel_rfl)) (by decide) (fun K hK => ?_)
              refine goes_ Try.func16 (by kernel_rfl) rfl #[.pointer (some ⟨g546, 0, none⟩)] (by rfl) rfl rfl (by (try simp only [List.map_toArray, List.map_cons, List.map_nil]); first | done | rfl | (simp only [List.length_drop, List.length_take]; rfl)) ?_
              with_reducible refine (guard_Guard_Target.calls g546 t613 t614 t615 t616 t617 t618 t619 t620 t621 t622 t623 t539 t624 t625 t626 t627 t628 t629 t630 t631 t632 t633 t634 t635 t636 t637 t638 t639 t640 t641 t642 t643 t644 t645 t646 t647 w _ ?side1 ?side2 A30.out).mono ?_
              (case side1 => repeat (first | (with_reducible first | exact HI546.out | apply IsS48.alloc | apply IsS48.drewN | apply IsS48.drew | apply IsS48.set_0 | apply IsS48.set_1 | apply IsS48.set_2 | apply IsS48.set_3 | apply IsS48.set_4 | apply IsS48.set_5 | apply IsS48.set_6 | apply IsS48.set_7 | apply IsS48.set_8 | apply IsS48.set_9 | apply IsS48.set_10 | apply IsS48.set_12 | apply IsS48.set_13 | apply IsS48.set_14 | apply IsS48.set_15 | apply IsS48.set_16 | apply IsS48.set_17 | refine IsS48.far ?_ NB546_527.out _) | exact HI546.out))
              (case side2 => repeat (first | (with_reducible first | exact HB.out | apply below_alloc | apply pw_below_drewN | apply below_drew1 | refine below_set ?_ (IsS48.ge HI546.out) | refine below_set ?_ GE527.out) | exact HB.out))
              rintro e w37 ⟨rfl, hi, hb, hk⟩
              refine ⟨_, rfl, ?_⟩
              have n0_ := Aside0.mk (KeepBut.blk hk (g' := gb527) (o := .cells #[.int .i64 a0_0, .int .i64 a0_1, .int .i64 a0_2, .int .i64 a0_3, .int .i64 a0_4, .int .i64 a0_5, .int .i64 a0_6, .int .i64 a0_7, .int .i64 a0_8, .int .i64 a0_9, .int .i64 a0_10, .slice A0_11 l0_11.length c0_11, .int .i64 a0_12] 27 (0, 0)) (by (with_reducible repeat (first | refine blk_drewN ?_ _ | refine blk_drew ?_ | refine blk_alloc ?_ _)); exact BK527.out) NB527_546.out (by simp))
              have n1_ := Aside0.mk (hb)
              have n2_ := Aside0.mk (hi)
              clear BK527
              clear HB
              clear HI546
              have BK527 := n0_
              have HB := n1_
              have HI546 := n2_
              clear n0_ n1_ n2_
              (try clear hb)
              (try clear hb2)
              (try clear hk)
              (try clear hi)
              refine hK.out _ _ ⟨(blk_cell BK527.out 0).trans rfl, (blk_cell BK527.out 1).trans rfl, (blk_cell BK527.out 2).trans rfl, (blk_cell BK527.out 3).trans rfl, (blk_cell BK527.out 4).trans rfl, (blk_cell BK527.out 5).trans rfl, (blk_cell BK527.out 6).trans rfl, (blk_cell BK527.out 7).trans rfl, (blk_cell BK527.out 8).trans rfl, (blk_cell BK527.out 9).trans rfl, (blk_cell BK527.out 10).trans rfl, (blk_cell BK527.out 11).trans rfl, (blk_cell BK527.out 12).trans rfl⟩ (fun hHeld => ?_)
              clear hK K
              refine norm_ (a' := ?_) ?_ ?_
              rotate_left
              ·show Act.put _ (some 87) _ = _
               simp only [Act.put, List.setIfInBounds_toArray, List.set_cons_zero, List.set_cons_succ, i64_w, i32_w]
               rfl
              refine pure_ (i := 10) (N := some 90) (v := ?_) (a' := ?_) #[true, true, true, true, true, true, true, true, true, true, true, false] rfl rfl (any_of HT_.out (by kernel_rfl)) (fun _ _ _ h => h) (Or.inl ⟨by rfl, ?_⟩) ?_ ?_
              rotate_left
              ·intro w'
               go_simp
               with_reducible rfl
              rotate_left
              ·simp only [Act.put, List.setIfInBounds_toArray, List.set_cons_zero, List.set_cons_succ, i64_w, i32_w]
               rfl
              refine pure_ (i := 11) (N := some 91) (v := ?_) (a' := ?_) #[true, true, true, true, true, true, true, true, true, true, true, true] rfl rfl (any_of HT_.out (by kernel_rfl)) (fun _ _ _ h => h) (Or.inl ⟨by rfl, ?_⟩) ?_ ?_
              rotate_left
              ·intro w'
               go_simp
               with_reducible rfl
              rotate_left
              ·simp only [Act.put, List.setIfInBounds_toArray, List.set_cons_zero, List.set_cons_succ, i64_w, i32_w]
               rfl
              refine done_ (done_of HT_.out (by kernel_rfl)) ?_
              try go_wp2
              go_roundg kj13
              case measure => have := HK1.out; have := HJ8.out; have := HJ13.out; omega
              case rel => exact ⟨(wrap64 (x7_1 + 1)), (t631), (t632), (t633), (t634), (t635), (t636), (t637), (t638), (t639), (t640), (t641), (t642), (t643), (t644), (t645), (t646), (t647), (by first | rfl | (simp; done) | (simp [*]; done)), H', ⟨by have := HK1.out; have := HJ8.out; have := HJ13.out; omega⟩, ⟨by (with_reducible repeat (first | refine blk_drewN ?_ _ | refine blk_drew ?_ | refine blk_alloc ?_ _)); exact BK527.out⟩, ⟨by repeat (first | (with_reducible first | exact HI546.out | apply IsS48.alloc | apply IsS48.drewN | apply IsS48.drew | apply IsS48.set_0 | apply IsS48.set_1 | apply IsS48.set_2 | apply IsS48.set_3 | apply IsS48.set_4 | apply IsS48.set_5 | apply IsS48.set_6 | apply IsS48.set_7 | apply IsS48.set_8 | apply IsS48.set_9 | apply IsS48.set_10 | apply IsS48.set_12 | apply IsS48.set_13 | apply IsS48.set_14 | apply IsS48.set_15 | apply IsS48.set_16 | apply IsS48.set_17 | refine IsS48.far ?_ NB546_527.out _) | exact HI546.out)⟩, ⟨by repeat (first | (with_reducible first | exact HB.out | apply below_alloc | apply pw_below_drewN | apply below_drew1 | refine below_set ?_ (IsS48.ge HI546.out) | refine below_set ?_ GE527.out) | exact HB.out)⟩⟩
         ·rw [if_neg c13] at H
          exact absurd H (by simp)
        ·rw [if_neg c12] at H
         exact absurd H (by simp)
       ·replace c11 := Bool.eq_false_iff.mpr c11
        subst c11
        have H1 : ((flywheellaw28_wakes.f).bind fun t550 => (some t550)) = some r := by rw [if_neg (show ¬ (false = true) by decide)] at H; exact H
        clear H
        have H := H1
        clear H1
        replace H := Option.bind_eq_some_iff.mp H
        obtain ⟨t550, A380, H⟩ := H
        replace H : (some t550) = some r := H
        have A38 := Aside0.mk A380
        clear A380
        obtain rfl := Option.some.inj H
        go_wp2_with (first | ((with_reducible refine gate_callee (f := 14) rfl ?_); refine goesL_ (some 92) rfl rfl Try.func14 (by kernel_rfl) rfl #[] rfl (by (try simp only [List.map_toArray, List.map_cons, List.map_nil]); first | done | rfl | (simp only [List.length_drop, List.length_take]; rfl)) ?_; (with_reducible refine (flywheellaw28_wakes.calls  t550 _ A38.out).mono ?_); rintro e w39 ⟨rfl, hb⟩; refine ⟨_, rfl, ?_⟩; have n0_ := Aside0.mk (blk_below (g := gb527) (o := .cells #[.int .i64 a0_0, .int .i64 a0_1, .int .i64 a0_2, .int .i64 a0_3, .int .i64 a0_4, .int .i64 a0_5, .int .i64 a0_6, .int .i64 a0_7, .int .i64 a0_8, .int .i64 a0_9, .int .i64 a0_10, .slice A0_11 l0_11.length c0_11, .int .i64 a0_12] 27 (0, 0)) (by (with_reducible repeat (first | refine blk_drewN ?_ _ | refine blk_drew ?_ | refine blk_alloc ?_ _)); exact BK527.out) hb); have n1_ := Aside0.mk (IsS48.below (by repeat (first | (with_reducible first | exact HI546.out | apply IsS48.alloc | apply IsS48.drewN | apply IsS48.drew | apply IsS48.set_0 | apply IsS48.set_1 | apply IsS48.set_2 | apply IsS48.set_3 | apply IsS48.set_4 | apply IsS48.set_5 | apply IsS48.set_6 | apply IsS48.set_7 | apply IsS48.set_8 | apply IsS48.set_9 | apply IsS48.set_10 | apply IsS48.set_12 | apply IsS48.set_13 | apply IsS48.set_14 | apply IsS48.set_15 | apply IsS48.set_16 | apply IsS48.set_17 | refine IsS48.far ?_ NB546_527.out _) | exact HI546.out)) hb); have n2_ := Aside0.mk (below_step (by repeat (first | (with_reducible first | exact HB.out | apply below_alloc | apply pw_below_drewN | apply below_drew1 | refine below_set ?_ (IsS48.ge HI546.out) | refine below_set ?_ GE527.out) | exact HB.out)) hb); clear BK527; clear HI546; clear HB; have BK527 := n0_; have HI546 := n1_; have HB := n2_; clear n0_ n1_ n2_; (try clear hb); (try clear hb2); (try clear hk); (try clear hi)))
        go_ret
        exact ⟨by first | rfl | (simp [errW_none, errW_some] <;> rfl) | (simp [*, errW_none, errW_some] <;> rfl), by repeat (first | (with_reducible first | exact HB.out | apply below_alloc | apply pw_below_drewN | apply below_drew1 | refine below_set ?_ (IsS48.ge HI546.out) | refine below_set ?_ GE527.out) | exact HB.out)⟩
  ·rw [if_neg c5] at H
   have c5b0 : (t547 == 0) = false := beq_eq_false_iff_ne.mpr c5
   have c5b1 : (t547 != 0) = true := bne_iff_ne.mpr c5
   by_cases c40 : t547 = 290
   ·rw [if_pos c40] at H
    have c40b0 : (t547 == 290) = true := beq_iff_eq.mpr c40
    have c40b1 : (t547 != 290) = false := bne_eq_false_iff_eq.mpr c40
    clear c40
    replace H := Option.bind_eq_some_iff.mp H
    obtain ⟨t548, A410, H⟩ := H
    replace H : (if t548 = true then (some false) else ((flywheellaw28_wakes.f).bind fun t549 => (some t549))) = some r := H
    have A41 := Aside0.mk A410
    clear A410
    by_cases c42 : t548 = true
    ·subst c42
     have H1 : (some false) = some r := by rw [if_pos rfl] at H; exact H
     clear H
     have H := H1
     clear H1
     obtain rfl := Option.some.inj H
     go_enter Try.func6, Try.ntmps6
     go_wp2_with (first | ((with_reducible refine gate_dst (N := 2) rfl ?_); refine box_event ?hg (N := 2) ?hd (cs := #[.int .i64 a0_0, .int .i64 a0_1, .int .i64 a0_2, .int .i64 a0_3, .int .i64 a0_4, .int .i64 a0_5, .int .i64 a0_6, .int .i64 a0_7, .int .i64 a0_8, .int .i64 a0_9, .int .i64 a0_10, .slice A0_11 l0_11.length c0_11, .int .i64 a0_12]) (t := 27) ?hr ?_; (case hd => rfl); (case hg => rfl); (case hr => first | (go_simp; done) | (go_simp; rfl)); intro gb527 hg w43 hbox hb; have n0_ := Aside0.mk (below_step (by repeat (first | (with_reducible first | exact HB.out | apply below_alloc | apply pw_below_drewN | apply below_drew1) | exact HB.out)) hb); have n1_ := Aside0.mk (hbox); have n2_ := Aside0.mk ((by rw [hg]; exact (below_size (by repeat (first | (with_reducible first | exact HB.out | apply below_alloc | apply pw_below_drewN | apply below_drew1) | exact HB.out))) : w.heap.size ≤ gb527)); have n3_ := Aside0.mk ((by rw [hg]; exact (below_size (by repeat (first | (with_reducible first | exact HB.out | apply below_alloc | apply pw_below_drewN | apply below_drew1) | exact HB.out))) : w.heap.size ≤ gb527)); clear HB; have HB := n0_; have BK527 := n1_; have GW527 := n2_; have GE527 := n3_; clear n0_ n1_ n2_ n3_; clear hb hbox hg; have hcz44_0 : w43.cell? ⟨gb527, 0, none⟩ = some (.int .i64 a0_0) := (blk_cell BK527.out 0).trans rfl; have hcz44_1 : w43.cell? ⟨gb527, 1, none⟩ = some (.int .i64 a0_1) := (blk_cell BK527.out 1).trans rfl; have hcz44_2 : w43.cell? ⟨gb527, 2, none⟩ = some (.int .i64 a0_2) := (blk_cell BK527.out 2).trans rfl; have hcz44_3 : w43.cell? ⟨gb527, 3, none⟩ = some (.int .i64 a0_3) := (blk_cell BK527.out 3).trans rfl; have hcz44_4 : w43.cell? ⟨gb527, 4, none⟩ = some (.int .i64 a0_4) := (blk_cell BK527.out 4).trans rfl; have hcz44_5 : w43.cell? ⟨gb527, 5, none⟩ = some (.int .i64 a0_5) := (blk_cell BK527.out 5).trans rfl; have hcz44_6 : w43.cell? ⟨gb527, 6, none⟩ = some (.int .i64 a0_6) := (blk_cell BK527.out 6).trans rfl; have hcz44_7 : w43.cell? ⟨gb527, 7, none⟩ = some (.int .i64 a0_7) := (blk_cell BK527.out 7).trans rfl; have hcz44_8 : w43.cell? ⟨gb527, 8, none⟩ = some (.int .i64 a0_8) := (blk_cell BK527.out 8).trans rfl; have hcz44_9 : w43.cell? ⟨gb527, 9, none⟩ = some (.int .i64 a0_9) := (blk_cell BK527.out 9).trans rfl; have hcz44_10 : w43.cell? ⟨gb527, 10, none⟩ = some (.int .i64 a0_10) := (blk_cell BK527.out 10).trans rfl; have hcz44_11 : w43.cell? ⟨gb527, 11, none⟩ = some (.slice A0_11 l0_11.length c0_11) := (blk_cell BK527.out 11).trans rfl; have hcz44_12 : w43.cell? ⟨gb527, 12, none⟩ = some (.int .i64 a0_12) := (blk_cell BK527.out 12).trans rfl; have hfz44_0 := blk_frozen BK527.out 0; have hfz44_1 := blk_frozen BK527.out 1; have hfz44_2 := blk_frozen BK527.out 2; have hfz44_3 := blk_frozen BK527.out 3; have hfz44_4 := blk_frozen BK527.out 4; have hfz44_5 := blk_frozen BK527.out 5; have hfz44_6 := blk_frozen BK527.out 6; have hfz44_7 := blk_frozen BK527.out 7; have hfz44_8 := blk_frozen BK527.out 8; have hfz44_9 := blk_frozen BK527.out 9; have hfz44_10 := blk_frozen BK527.out 10; have hfz44_11 := blk_frozen BK527.out 11; have hfz44_12 := blk_frozen BK527.out 12) | ((with_reducible refine gate_callee (f := 10) rfl ?_); refine goesL_ (some 11) rfl rfl Try.func10 (by kernel_rfl) rfl #[.agg #[.int .i64 a0_0, .int .i64 a0_1, .int .i64 a0_2, .int .i64 a0_3, .int .i64 a0_4, .int .i64 a0_5, .int .i64 a0_6, .int .i64 a0_7, .int .i64 a0_8, .int .i64 a0_9, .int .i64 a0_10, .slice A0_11 l0_11.length c0_11, .int .i64 a0_12]] rfl (by (try simp only [List.map_toArray, List.map_cons, List.map_nil]); first | done | rfl | (simp only [List.length_drop, List.length_take]; rfl)) ?_; (with_reducible refine (guard_New.made.calls a0_0 a0_1 a0_2 a0_3 a0_4 a0_5 a0_6 a0_7 a0_8 a0_9 a0_10 _ _ l0_11 a0_12 t528 t529 t530 t531 t532 t533 t534 t535 t536 t537 t538 t539 t540 t541 t542 t543 t544 t545 t547 w _ ?side1 ?side2 ?side3 A4.out).mono ?_); (case side1 => repeat (first | (with_reducible first | exact HB.out | apply below_alloc | apply pw_below_drewN | apply below_drew1 | refine below_set ?_ GE527.out) | exact HB.out)); (case side2 => exact HR0_11.out); (case side3 => exact HC0_11.out); rintro e w45 ⟨g546, rfl, hi, hb, hb2⟩; refine ⟨_, rfl, ?_⟩; have n0_ := Aside0.mk (blk_below (g := gb527) (o := .cells #[.int .i64 a0_0, .int .i64 a0_1, .int .i64 a0_2, .int .i64 a0_3, .int .i64 a0_4, .int .i64 a0_5, .int .i64 a0_6, .int .i64 a0_7, .int .i64 a0_8, .int .i64 a0_9, .int .i64 a0_10, .slice A0_11 l0_11.length c0_11, .int .i64 a0_12] 27 (0, 0)) (by (with_reducible repeat (first | refine blk_drewN ?_ _ | refine blk_drew ?_ | refine blk_alloc ?_ _)); exact BK527.out) hb2); have n1_ := Aside0.mk (hb); have n2_ := Aside0.mk (hi); have n3_ := Aside0.mk (IsS48.ne_blk hi (blk_below (g := gb527) (o := .cells #[.int .i64 a0_0, .int .i64 a0_1, .int .i64 a0_2, .int .i64 a0_3, .int .i64 a0_4, .int .i64 a0_5, .int .i64 a0_6, .int .i64 a0_7, .int .i64 a0_8, .int .i64 a0_9, .int .i64 a0_10, .slice A0_11 l0_11.length c0_11, .int .i64 a0_12] 27 (0, 0)) (by (with_reducible repeat (first | refine blk_drewN ?_ _ | refine blk_drew ?_ | refine blk_alloc ?_ _)); exact BK527.out) hb2) (by decide)); have n4_ := Aside0.mk (Ne.symm (IsS48.ne_blk hi (blk_below (g := gb527) (o := .cells #[.int .i64 a0_0, .int .i64 a0_1, .int .i64 a0_2, .int .i64 a0_3, .int .i64 a0_4, .int .i64 a0_5, .int .i64 a0_6, .int .i64 a0_7, .int .i64 a0_8, .int .i64 a0_9, .int .i64 a0_10, .slice A0_11 l0_11.length c0_11, .int .i64 a0_12] 27 (0, 0)) (by (with_reducible repeat (first | refine blk_drewN ?_ _ | refine blk_drew ?_ | refine blk_alloc ?_ _)); exact BK527.out) hb2) (by decide))); clear BK527; clear HB; have BK527 := n0_; have HB := n1_; have HI546 := n2_; have NB546_527 := n3_; have NB527_546 := n4_; clear n0_ n1_ n2_ n3_ n4_; (try clear hb); (try clear hb2); (try clear hk); (try clear hi); have hnb46 := NB527_546.out; have hnc46 := NB546_527.out; have hcz47_0 : w45.cell? ⟨gb527, 0, none⟩ = some (.int .i64 a0_0) := (blk_cell BK527.out 0).trans rfl; have hcz47_1 : w45.cell? ⟨gb527, 1, none⟩ = some (.int .i64 a0_1) := (blk_cell BK527.out 1).trans rfl; have hcz47_2 : w45.cell? ⟨gb527, 2, none⟩ = some (.int .i64 a0_2) := (blk_cell BK527.out 2).trans rfl; have hcz47_3 : w45.cell? ⟨gb527, 3, none⟩ = some (.int .i64 a0_3) := (blk_cell BK527.out 3).trans rfl; have hcz47_4 : w45.cell? ⟨gb527, 4, none⟩ = some (.int .i64 a0_4) := (blk_cell BK527.out 4).trans rfl; have hcz47_5 : w45.cell? ⟨gb527, 5, none⟩ = some (.int .i64 a0_5) := (blk_cell BK527.out 5).trans rfl; have hcz47_6 : w45.cell? ⟨gb527, 6, none⟩ = some (.int .i64 a0_6) := (blk_cell BK527.out 6).trans rfl; have hcz47_7 : w45.cell? ⟨gb527, 7, none⟩ = some (.int .i64 a0_7) := (blk_cell BK527.out 7).trans rfl; have hcz47_8 : w45.cell? ⟨gb527, 8, none⟩ = some (.int .i64 a0_8) := (blk_cell BK527.out 8).trans rfl; have hcz47_9 : w45.cell? ⟨gb527, 9, none⟩ = some (.int .i64 a0_9) := (blk_cell BK527.out 9).trans rfl; have hcz47_10 : w45.cell? ⟨gb527, 10, none⟩ = some (.int .i64 a0_10) := (blk_cell BK527.out 10).trans rfl; have hcz47_11 : w45.cell? ⟨gb527, 11, none⟩ = some (.slice A0_11 l0_11.length c0_11) := (blk_cell BK527.out 11).trans rfl; have hcz47_12 : w45.cell? ⟨gb527, 12, none⟩ = some (.int .i64 a0_12) := (blk_cell BK527.out 12).trans rfl; have hfz47_0 := blk_frozen BK527.out 0; have hfz47_1 := blk_frozen BK527.out 1; have hfz47_2 := blk_frozen BK527.out 2; have hfz47_3 := blk_frozen BK527.out 3; have hfz47_4 := blk_frozen BK527.out 4; have hfz47_5 := blk_frozen BK527.out 5; have hfz47_6 := blk_frozen BK527.out 6; have hfz47_7 := blk_frozen BK527.out 7; have hfz47_8 := blk_frozen BK527.out 8; have hfz47_9 := blk_frozen BK527.out 9; have hfz47_10 := blk_frozen BK527.out 10; have hfz47_11 := blk_frozen BK527.out 11; have hfz47_12 := blk_frozen BK527.out 12) | (go_at_call 15; (with_reducible refine (flywheelref28_Good.calls a0_0 a0_1 a0_2 a0_3 a0_4 a0_5 a0_6 a0_7 a0_8 a0_9 a0_10 _ _ l0_11 a0_12 true _ ?side1 ?side2 A41.out).mono ?_); (case side1 => repeat (first | exact (Kd.C_below HR0_11.out HB.out) | (with_reducible refine Kd.C_alloc ?_ _) | (with_reducible refine Kd.C_drewN ?_ _) | (with_reducible refine Kd.C_drew ?_))); (case side2 => exact HC0_11.out); rintro e w48 ⟨rfl, hb⟩; have n0_ := Aside0.mk (blk_below (g := gb527) (o := .cells #[.int .i64 a0_0, .int .i64 a0_1, .int .i64 a0_2, .int .i64 a0_3, .int .i64 a0_4, .int .i64 a0_5, .int .i64 a0_6, .int .i64 a0_7, .int .i64 a0_8, .int .i64 a0_9, .int .i64 a0_10, .slice A0_11 l0_11.length c0_11, .int .i64 a0_12] 27 (0, 0)) (by (with_reducible repeat (first | refine blk_drewN ?_ _ | refine blk_drew ?_ | refine blk_alloc ?_ _)); exact BK527.out) hb); have n1_ := Aside0.mk (IsS48.below (by repeat (first | (with_reducible first | exact HI546.out | apply IsS48.alloc | apply IsS48.drewN | apply IsS48.drew | apply IsS48.set_0 | apply IsS48.set_1 | apply IsS48.set_2 | apply IsS48.set_3 | apply IsS48.set_4 | apply IsS48.set_5 | apply IsS48.set_6 | apply IsS48.set_7 | apply IsS48.set_8 | apply IsS48.set_9 | apply IsS48.set_10 | apply IsS48.set_12 | apply IsS48.set_13 | apply IsS48.set_14 | apply IsS48.set_15 | apply IsS48.set_16 | apply IsS48.set_17 | refine IsS48.far ?_ NB546_527.out _) | exact HI546.out)) hb); have n2_ := Aside0.mk (below_step (by repeat (first | (with_reducible first | exact HB.out | apply below_alloc | apply pw_below_drewN | apply below_drew1 | refine below_set ?_ (IsS48.ge HI546.out) | refine below_set ?_ GE527.out) | exact HB.out)) hb); clear BK527; clear HI546; clear HB; have BK527 := n0_; have HI546 := n1_; have HB := n2_; clear n0_ n1_ n2_; (try clear hb); (try clear hb2); (try clear hk); (try clear hi)))
     go_ret
     exact ⟨by first | rfl | (simp [errW_none, errW_some] <;> rfl) | (simp [*, errW_none, errW_some] <;> rfl), by repeat (first | (with_reducible first | exact HB.out | apply below_alloc | apply pw_below_drewN | apply below_drew1 | refine below_set ?_ (IsS48.ge HI546.out) | refine below_set ?_ GE527.out) | exact HB.out)⟩
    ·replace c42 := Bool.eq_false_iff.mpr c42
     subst c42
     have H1 : ((flywheellaw28_wakes.f).bind fun t549 => (some t549)) = some r := by rw [if_neg (show ¬ (false = true) by decide)] at H; exact H
     clear H
     have H := H1
     clear H1
     replace H := Option.bind_eq_some_iff.mp H
     obtain ⟨t549, A490, H⟩ := H
     replace H : (some t549) = some r := H
     have A49 := Aside0.mk A490
     clear A490
     obtain rfl := Option.some.inj H
     go_enter Try.func6, Try.ntmps6
     go_wp2_with (first | ((with_reducible refine gate_dst (N := 2) rfl ?_); refine box_event ?hg (N := 2) ?hd (cs := #[.int .i64 a0_0, .int .i64 a0_1, .int .i64 a0_2, .int .i64 a0_3, .int .i64 a0_4, .int .i64 a0_5, .int .i64 a0_6, .int .i64 a0_7, .int .i64 a0_8, .int .i64 a0_9, .int .i64 a0_10, .slice A0_11 l0_11.length c0_11, .int .i64 a0_12]) (t := 27) ?hr ?_; (case hd => rfl); (case hg => rfl); (case hr => first | (go_simp; done) | (go_simp; rfl)); intro gb527 hg w50 hbox hb; have n0_ := Aside0.mk (below_step (by repeat (first | (with_reducible first | exact HB.out | apply below_alloc | apply pw_below_drewN | apply below_drew1) | exact HB.out)) hb); have n1_ := Aside0.mk (hbox); have n2_ := Aside0.mk ((by rw [hg]; exact (below_size (by repeat (first | (with_reducible first | exact HB.out | apply below_alloc | apply pw_below_drewN | apply below_drew1) | exact HB.out))) : w.heap.size ≤ gb527)); have n3_ := Aside0.mk ((by rw [hg]; exact (below_size (by repeat (first | (with_reducible first | exact HB.out | apply below_alloc | apply pw_below_drewN | apply below_drew1) | exact HB.out))) : w.heap.size ≤ gb527)); clear HB; have HB := n0_; have BK527 := n1_; have GW527 := n2_; have GE527 := n3_; clear n0_ n1_ n2_ n3_; clear hb hbox hg; have hcz51_0 : w50.cell? ⟨gb527, 0, none⟩ = some (.int .i64 a0_0) := (blk_cell BK527.out 0).trans rfl; have hcz51_1 : w50.cell? ⟨gb527, 1, none⟩ = some (.int .i64 a0_1) := (blk_cell BK527.out 1).trans rfl; have hcz51_2 : w50.cell? ⟨gb527, 2, none⟩ = some (.int .i64 a0_2) := (blk_cell BK527.out 2).trans rfl; have hcz51_3 : w50.cell? ⟨gb527, 3, none⟩ = some (.int .i64 a0_3) := (blk_cell BK527.out 3).trans rfl; have hcz51_4 : w50.cell? ⟨gb527, 4, none⟩ = some (.int .i64 a0_4) := (blk_cell BK527.out 4).trans rfl; have hcz51_5 : w50.cell? ⟨gb527, 5, none⟩ = some (.int .i64 a0_5) := (blk_cell BK527.out 5).trans rfl; have hcz51_6 : w50.cell? ⟨gb527, 6, none⟩ = some (.int .i64 a0_6) := (blk_cell BK527.out 6).trans rfl; have hcz51_7 : w50.cell? ⟨gb527, 7, none⟩ = some (.int .i64 a0_7) := (blk_cell BK527.out 7).trans rfl; have hcz51_8 : w50.cell? ⟨gb527, 8, none⟩ = some (.int .i64 a0_8) := (blk_cell BK527.out 8).trans rfl; have hcz51_9 : w50.cell? ⟨gb527, 9, none⟩ = some (.int .i64 a0_9) := (blk_cell BK527.out 9).trans rfl; have hcz51_10 : w50.cell? ⟨gb527, 10, none⟩ = some (.int .i64 a0_10) := (blk_cell BK527.out 10).trans rfl; have hcz51_11 : w50.cell? ⟨gb527, 11, none⟩ = some (.slice A0_11 l0_11.length c0_11) := (blk_cell BK527.out 11).trans rfl; have hcz51_12 : w50.cell? ⟨gb527, 12, none⟩ = some (.int .i64 a0_12) := (blk_cell BK527.out 12).trans rfl; have hfz51_0 := blk_frozen BK527.out 0; have hfz51_1 := blk_frozen BK527.out 1; have hfz51_2 := blk_frozen BK527.out 2; have hfz51_3 := blk_frozen BK527.out 3; have hfz51_4 := blk_frozen BK527.out 4; have hfz51_5 := blk_frozen BK527.out 5; have hfz51_6 := blk_frozen BK527.out 6; have hfz51_7 := blk_frozen BK527.out 7; have hfz51_8 := blk_frozen BK527.out 8; have hfz51_9 := blk_frozen BK527.out 9; have hfz51_10 := blk_frozen BK527.out 10; have hfz51_11 := blk_frozen BK527.out 11; have hfz51_12 := blk_frozen BK527.out 12) | ((with_reducible refine gate_callee (f := 10) rfl ?_); refine goesL_ (some 11) rfl rfl Try.func10 (by kernel_rfl) rfl #[.agg #[.int .i64 a0_0, .int .i64 a0_1, .int .i64 a0_2, .int .i64 a0_3, .int .i64 a0_4, .int .i64 a0_5, .int .i64 a0_6, .int .i64 a0_7, .int .i64 a0_8, .int .i64 a0_9, .int .i64 a0_10, .slice A0_11 l0_11.length c0_11, .int .i64 a0_12]] rfl (by (try simp only [List.map_toArray, List.map_cons, List.map_nil]); first | done | rfl | (simp only [List.length_drop, List.length_take]; rfl)) ?_; (with_reducible refine (guard_New.made.calls a0_0 a0_1 a0_2 a0_3 a0_4 a0_5 a0_6 a0_7 a0_8 a0_9 a0_10 _ _ l0_11 a0_12 t528 t529 t530 t531 t532 t533 t534 t535 t536 t537 t538 t539 t540 t541 t542 t543 t544 t545 t547 w _ ?side1 ?side2 ?side3 A4.out).mono ?_); (case side1 => repeat (first | (with_reducible first | exact HB.out | apply below_alloc | apply pw_below_drewN | apply below_drew1 | refine below_set ?_ GE527.out) | exact HB.out)); (case side2 => exact HR0_11.out); (case side3 => exact HC0_11.out); rintro e w52 ⟨g546, rfl, hi, hb, hb2⟩; refine ⟨_, rfl, ?_⟩; have n0_ := Aside0.mk (blk_below (g := gb527) (o := .cells #[.int .i64 a0_0, .int .i64 a0_1, .int .i64 a0_2, .int .i64 a0_3, .int .i64 a0_4, .int .i64 a0_5, .int .i64 a0_6, .int .i64 a0_7, .int .i64 a0_8, .int .i64 a0_9, .int .i64 a0_10, .slice A0_11 l0_11.length c0_11, .int .i64 a0_12] 27 (0, 0)) (by (with_reducible repeat (first | refine blk_drewN ?_ _ | refine blk_drew ?_ | refine blk_alloc ?_ _)); exact BK527.out) hb2); have n1_ := Aside0.mk (hb); have n2_ := Aside0.mk (hi); have n3_ := Aside0.mk (IsS48.ne_blk hi (blk_below (g := gb527) (o := .cells #[.int .i64 a0_0, .int .i64 a0_1, .int .i64 a0_2, .int .i64 a0_3, .int .i64 a0_4, .int .i64 a0_5, .int .i64 a0_6, .int .i64 a0_7, .int .i64 a0_8, .int .i64 a0_9, .int .i64 a0_10, .slice A0_11 l0_11.length c0_11, .int .i64 a0_12] 27 (0, 0)) (by (with_reducible repeat (first | refine blk_drewN ?_ _ | refine blk_drew ?_ | refine blk_alloc ?_ _)); exact BK527.out) hb2) (by decide)); have n4_ := Aside0.mk (Ne.symm (IsS48.ne_blk hi (blk_below (g := gb527) (o := .cells #[.int .i64 a0_0, .int .i64 a0_1, .int .i64 a0_2, .int .i64 a0_3, .int .i64 a0_4, .int .i64 a0_5, .int .i64 a0_6, .int .i64 a0_7, .int .i64 a0_8, .int .i64 a0_9, .int .i64 a0_10, .slice A0_11 l0_11.length c0_11, .int .i64 a0_12] 27 (0, 0)) (by (with_reducible repeat (first | refine blk_drewN ?_ _ | refine blk_drew ?_ | refine blk_alloc ?_ _)); exact BK527.out) hb2) (by decide))); clear BK527; clear HB; have BK527 := n0_; have HB := n1_; have HI546 := n2_; have NB546_527 := n3_; have NB527_546 := n4_; clear n0_ n1_ n2_ n3_ n4_; (try clear hb); (try clear hb2); (try clear hk); (try clear hi); have hnb53 := NB527_546.out; have hnc53 := NB546_527.out; have hcz54_0 : w52.cell? ⟨gb527, 0, none⟩ = some (.int .i64 a0_0) := (blk_cell BK527.out 0).trans rfl; have hcz54_1 : w52.cell? ⟨gb527, 1, none⟩ = some (.int .i64 a0_1) := (blk_cell BK527.out 1).trans rfl; have hcz54_2 : w52.cell? ⟨gb527, 2, none⟩ = some (.int .i64 a0_2) := (blk_cell BK527.out 2).trans rfl; have hcz54_3 : w52.cell? ⟨gb527, 3, none⟩ = some (.int .i64 a0_3) := (blk_cell BK527.out 3).trans rfl; have hcz54_4 : w52.cell? ⟨gb527, 4, none⟩ = some (.int .i64 a0_4) := (blk_cell BK527.out 4).trans rfl; have hcz54_5 : w52.cell? ⟨gb527, 5, none⟩ = some (.int .i64 a0_5) := (blk_cell BK527.out 5).trans rfl; have hcz54_6 : w52.cell? ⟨gb527, 6, none⟩ = some (.int .i64 a0_6) := (blk_cell BK527.out 6).trans rfl; have hcz54_7 : w52.cell? ⟨gb527, 7, none⟩ = some (.int .i64 a0_7) := (blk_cell BK527.out 7).trans rfl; have hcz54_8 : w52.cell? ⟨gb527, 8, none⟩ = some (.int .i64 a0_8) := (blk_cell BK527.out 8).trans rfl; have hcz54_9 : w52.cell? ⟨gb527, 9, none⟩ = some (.int .i64 a0_9) := (blk_cell BK527.out 9).trans rfl; have hcz54_10 : w52.cell? ⟨gb527, 10, none⟩ = some (.int .i64 a0_10) := (blk_cell BK527.out 10).trans rfl; have hcz54_11 : w52.cell? ⟨gb527, 11, none⟩ = some (.slice A0_11 l0_11.length c0_11) := (blk_cell BK527.out 11).trans rfl; have hcz54_12 : w52.cell? ⟨gb527, 12, none⟩ = some (.int .i64 a0_12) := (blk_cell BK527.out 12).trans rfl; have hfz54_0 := blk_frozen BK527.out 0; have hfz54_1 := blk_frozen BK527.out 1; have hfz54_2 := blk_frozen BK527.out 2; have hfz54_3 := blk_frozen BK527.out 3; have hfz54_4 := blk_frozen BK527.out 4; have hfz54_5 := blk_frozen BK527.out 5; have hfz54_6 := blk_frozen BK527.out 6; have hfz54_7 := blk_frozen BK527.out 7; have hfz54_8 := blk_frozen BK527.out 8; have hfz54_9 := blk_frozen BK527.out 9; have hfz54_10 := blk_frozen BK527.out 10; have hfz54_11 := blk_frozen BK527.out 11; have hfz54_12 := blk_frozen BK527.out 12) | (go_at_call 15; (with_reducible refine (flywheelref28_Good.calls a0_0 a0_1 a0_2 a0_3 a0_4 a0_5 a0_6 a0_7 a0_8 a0_9 a0_10 _ _ l0_11 a0_12 false _ ?side1 ?side2 A41.out).mono ?_); (case side1 => repeat (first | exact (Kd.C_below HR0_11.out HB.out) | (with_reducible refine Kd.C_alloc ?_ _) | (with_reducible refine Kd.C_drewN ?_ _) | (with_reducible refine Kd.C_drew ?_))); (case side2 => exact HC0_11.out); rintro e w55 ⟨rfl, hb⟩; have n0_ := Aside0.mk (blk_below (g := gb527) (o := .cells #[.int .i64 a0_0, .int .i64 a0_1, .int .i64 a0_2, .int .i64 a0_3, .int .i64 a0_4, .int .i64 a0_5, .int .i64 a0_6, .int .i64 a0_7, .int .i64 a0_8, .int .i64 a0_9, .int .i64 a0_10, .slice A0_11 l0_11.length c0_11, .int .i64 a0_12] 27 (0, 0)) (by (with_reducible repeat (first | refine blk_drewN ?_ _ | refine blk_drew ?_ | refine blk_alloc ?_ _)); exact BK527.out) hb); have n1_ := Aside0.mk (IsS48.below (by repeat (first | (with_reducible first | exact HI546.out | apply IsS48.alloc | apply IsS48.drewN | apply IsS48.drew | apply IsS48.set_0 | apply IsS48.set_1 | apply IsS48.set_2 | apply IsS48.set_3 | apply IsS48.set_4 | apply IsS48.set_5 | apply IsS48.set_6 | apply IsS48.set_7 | apply IsS48.set_8 | apply IsS48.set_9 | apply IsS48.set_10 | apply IsS48.set_12 | apply IsS48.set_13 | apply IsS48.set_14 | apply IsS48.set_15 | apply IsS48.set_16 | apply IsS48.set_17 | refine IsS48.far ?_ NB546_527.out _) | exact HI546.out)) hb); have n2_ := Aside0.mk (below_step (by repeat (first | (with_reducible first | exact HB.out | apply below_alloc | apply pw_below_drewN | apply below_drew1 | refine below_set ?_ (IsS48.ge HI546.out) | refine below_set ?_ GE527.out) | exact HB.out)) hb); clear BK527; clear HI546; clear HB; have BK527 := n0_; have HI546 := n1_; have HB := n2_; clear n0_ n1_ n2_; (try clear hb); (try clear hb2); (try clear hk); (try clear hi)) | (go_at_call 14; (with_reducible refine (flywheellaw28_wakes.calls  t549 _ A49.out).mono ?_); rintro e w56 ⟨rfl, hb⟩; have n0_ := Aside0.mk (blk_below (g := gb527) (o := .cells #[.int .i64 a0_0, .int .i64 a0_1, .int .i64 a0_2, .int .i64 a0_3, .int .i64 a0_4, .int .i64 a0_5, .int .i64 a0_6, .int .i64 a0_7, .int .i64 a0_8, .int .i64 a0_9, .int .i64 a0_10, .slice A0_11 l0_11.length c0_11, .int .i64 a0_12] 27 (0, 0)) (by (with_reducible repeat (first | refine blk_drewN ?_ _ | refine blk_drew ?_ | refine blk_alloc ?_ _)); exact BK527.out) hb); have n1_ := Aside0.mk (IsS48.below (by repeat (first | (with_reducible first | exact HI546.out | apply IsS48.alloc | apply IsS48.drewN | apply IsS48.drew | apply IsS48.set_0 | apply IsS48.set_1 | apply IsS48.set_2 | apply IsS48.set_3 | apply IsS48.set_4 | apply IsS48.set_5 | apply IsS48.set_6 | apply IsS48.set_7 | apply IsS48.set_8 | apply IsS48.set_9 | apply IsS48.set_10 | apply IsS48.set_12 | apply IsS48.set_13 | apply IsS48.set_14 | apply IsS48.set_15 | apply IsS48.set_16 | apply IsS48.set_17 | refine IsS48.far ?_ NB546_527.out _) | exact HI546.out)) hb); have n2_ := Aside0.mk (below_step (by repeat (first | (with_reducible first | exact HB.out | apply below_alloc | apply pw_below_drewN | apply below_drew1 | refine below_set ?_ (IsS48.ge HI546.out) | refine below_set ?_ GE527.out) | exact HB.out)) hb); clear BK527; clear HI546; clear HB; have BK527 := n0_; have HI546 := n1_; have HB := n2_; clear n0_ n1_ n2_; (try clear hb); (try clear hb2); (try clear hk); (try clear hi)))
     go_ret
     exact ⟨by first | rfl | (simp [errW_none, errW_some] <;> rfl) | (simp [*, errW_none, errW_some] <;> rfl), by repeat (first | (with_reducible first | exact HB.out | apply below_alloc | apply pw_below_drewN | apply below_drew1 | refine below_set ?_ (IsS48.ge HI546.out) | refine below_set ?_ GE527.out) | exact HB.out)⟩
   ·rw [if_neg c40] at H
    have c40b0 : (t547 == 290) = false := beq_eq_false_iff_ne.mpr c40
    have c40b1 : (t547 != 290) = true := bne_iff_ne.mpr c40
    obtain rfl := Option.some.inj H
    go_enter Try.func6, Try.ntmps6
    go_wp2_with (first | ((with_reducible refine gate_dst (N := 2) rfl ?_); refine box_event ?hg (N := 2) ?hd (cs := #[.int .i64 a0_0, .int .i64 a0_1, .int .i64 a0_2, .int .i64 a0_3, .int .i64 a0_4, .int .i64 a0_5, .int .i64 a0_6, .int .i64 a0_7, .int .i64 a0_8, .int .i64 a0_9, .int .i64 a0_10, .slice A0_11 l0_11.length c0_11, .int .i64 a0_12]) (t := 27) ?hr ?_; (case hd => rfl); (case hg => rfl); (case hr => first | (go_simp; done) | (go_simp; rfl)); intro gb527 hg w57 hbox hb; have n0_ := Aside0.mk (below_step (by repeat (first | (with_reducible first | exact HB.out | apply below_alloc | apply pw_below_drewN | apply below_drew1) | exact HB.out)) hb); have n1_ := Aside0.mk (hbox); have n2_ := Aside0.mk ((by rw [hg]; exact (below_size (by repeat (first | (with_reducible first | exact HB.out | apply below_alloc | apply pw_below_drewN | apply below_drew1) | exact HB.out))) : w.heap.size ≤ gb527)); have n3_ := Aside0.mk ((by rw [hg]; exact (below_size (by repeat (first | (with_reducible first | exact HB.out | apply below_alloc | apply pw_below_drewN | apply below_drew1) | exact HB.out))) : w.heap.size ≤ gb527)); clear HB; have HB := n0_; have BK527 := n1_; have GW527 := n2_; have GE527 := n3_; clear n0_ n1_ n2_ n3_; clear hb hbox hg; have hcz58_0 : w57.cell? ⟨gb527, 0, none⟩ = some (.int .i64 a0_0) := (blk_cell BK527.out 0).trans rfl; have hcz58_1 : w57.cell? ⟨gb527, 1, none⟩ = some (.int .i64 a0_1) := (blk_cell BK527.out 1).trans rfl; have hcz58_2 : w57.cell? ⟨gb527, 2, none⟩ = some (.int .i64 a0_2) := (blk_cell BK527.out 2).trans rfl; have hcz58_3 : w57.cell? ⟨gb527, 3, none⟩ = some (.int .i64 a0_3) := (blk_cell BK527.out 3).trans rfl; have hcz58_4 : w57.cell? ⟨gb527, 4, none⟩ = some (.int .i64 a0_4) := (blk_cell BK527.out 4).trans rfl; have hcz58_5 : w57.cell? ⟨gb527, 5, none⟩ = some (.int .i64 a0_5) := (blk_cell BK527.out 5).trans rfl; have hcz58_6 : w57.cell? ⟨gb527, 6, none⟩ = some (.int .i64 a0_6) := (blk_cell BK527.out 6).trans rfl; have hcz58_7 : w57.cell? ⟨gb527, 7, none⟩ = some (.int .i64 a0_7) := (blk_cell BK527.out 7).trans rfl; have hcz58_8 : w57.cell? ⟨gb527, 8, none⟩ = some (.int .i64 a0_8) := (blk_cell BK527.out 8).trans rfl; have hcz58_9 : w57.cell? ⟨gb527, 9, none⟩ = some (.int .i64 a0_9) := (blk_cell BK527.out 9).trans rfl; have hcz58_10 : w57.cell? ⟨gb527, 10, none⟩ = some (.int .i64 a0_10) := (blk_cell BK527.out 10).trans rfl; have hcz58_11 : w57.cell? ⟨gb527, 11, none⟩ = some (.slice A0_11 l0_11.length c0_11) := (blk_cell BK527.out 11).trans rfl; have hcz58_12 : w57.cell? ⟨gb527, 12, none⟩ = some (.int .i64 a0_12) := (blk_cell BK527.out 12).trans rfl; have hfz58_0 := blk_frozen BK527.out 0; have hfz58_1 := blk_frozen BK527.out 1; have hfz58_2 := blk_frozen BK527.out 2; have hfz58_3 := blk_frozen BK527.out 3; have hfz58_4 := blk_frozen BK527.out 4; have hfz58_5 := blk_frozen BK527.out 5; have hfz58_6 := blk_frozen BK527.out 6; have hfz58_7 := blk_frozen BK527.out 7; have hfz58_8 := blk_frozen BK527.out 8; have hfz58_9 := blk_frozen BK527.out 9; have hfz58_10 := blk_frozen BK527.out 10; have hfz58_11 := blk_frozen BK527.out 11; have hfz58_12 := blk_frozen BK527.out 12) | ((with_reducible refine gate_callee (f := 10) rfl ?_); refine goesL_ (some 11) rfl rfl Try.func10 (by kernel_rfl) rfl #[.agg #[.int .i64 a0_0, .int .i64 a0_1, .int .i64 a0_2, .int .i64 a0_3, .int .i64 a0_4, .int .i64 a0_5, .int .i64 a0_6, .int .i64 a0_7, .int .i64 a0_8, .int .i64 a0_9, .int .i64 a0_10, .slice A0_11 l0_11.length c0_11, .int .i64 a0_12]] rfl (by (try simp only [List.map_toArray, List.map_cons, List.map_nil]); first | done | rfl | (simp only [List.length_drop, List.length_take]; rfl)) ?_; (with_reducible refine (guard_New.made.calls a0_0 a0_1 a0_2 a0_3 a0_4 a0_5 a0_6 a0_7 a0_8 a0_9 a0_10 _ _ l0_11 a0_12 t528 t529 t530 t531 t532 t533 t534 t535 t536 t537 t538 t539 t540 t541 t542 t543 t544 t545 t547 w _ ?side1 ?side2 ?side3 A4.out).mono ?_); (case side1 => repeat (first | (with_reducible first | exact HB.out | apply below_alloc | apply pw_below_drewN | apply below_drew1 | refine below_set ?_ GE527.out) | exact HB.out)); (case side2 => exact HR0_11.out); (case side3 => exact HC0_11.out); rintro e w59 ⟨g546, rfl, hi, hb, hb2⟩; refine ⟨_, rfl, ?_⟩; have n0_ := Aside0.mk (blk_below (g := gb527) (o := .cells #[.int .i64 a0_0, .int .i64 a0_1, .int .i64 a0_2, .int .i64 a0_3, .int .i64 a0_4, .int .i64 a0_5, .int .i64 a0_6, .int .i64 a0_7, .int .i64 a0_8, .int .i64 a0_9, .int .i64 a0_10, .slice A0_11 l0_11.length c0_11, .int .i64 a0_12] 27 (0, 0)) (by (with_reducible repeat (first | refine blk_drewN ?_ _ | refine blk_drew ?_ | refine blk_alloc ?_ _)); exact BK527.out) hb2); have n1_ := Aside0.mk (hb); have n2_ := Aside0.mk (hi); have n3_ := Aside0.mk (IsS48.ne_blk hi (blk_below (g := gb527) (o := .cells #[.int .i64 a0_0, .int .i64 a0_1, .int .i64 a0_2, .int .i64 a0_3, .int .i64 a0_4, .int .i64 a0_5, .int .i64 a0_6, .int .i64 a0_7, .int .i64 a0_8, .int .i64 a0_9, .int .i64 a0_10, .slice A0_11 l0_11.length c0_11, .int .i64 a0_12] 27 (0, 0)) (by (with_reducible repeat (first | refine blk_drewN ?_ _ | refine blk_drew ?_ | refine blk_alloc ?_ _)); exact BK527.out) hb2) (by decide)); have n4_ := Aside0.mk (Ne.symm (IsS48.ne_blk hi (blk_below (g := gb527) (o := .cells #[.int .i64 a0_0, .int .i64 a0_1, .int .i64 a0_2, .int .i64 a0_3, .int .i64 a0_4, .int .i64 a0_5, .int .i64 a0_6, .int .i64 a0_7, .int .i64 a0_8, .int .i64 a0_9, .int .i64 a0_10, .slice A0_11 l0_11.length c0_11, .int .i64 a0_12] 27 (0, 0)) (by (with_reducible repeat (first | refine blk_drewN ?_ _ | refine blk_drew ?_ | refine blk_alloc ?_ _)); exact BK527.out) hb2) (by decide))); clear BK527; clear HB; have BK527 := n0_; have HB := n1_; have HI546 := n2_; have NB546_527 := n3_; have NB527_546 := n4_; clear n0_ n1_ n2_ n3_ n4_; (try clear hb); (try clear hb2); (try clear hk); (try clear hi)))
    go_ret
    exact ⟨by first | rfl | (simp [errW_none, errW_some] <;> rfl) | (simp [*, errW_none, errW_some] <;> rfl), by repeat (first | (with_reducible first | exact HB.out | apply below_alloc | apply pw_below_drewN | apply below_drew1 | refine below_set ?_ (IsS48.ge HI546.out) | refine below_set ?_ GE527.out) | exact HB.out)⟩
 ·rw [if_neg c3] at H
  have c3b0 : (guard_New.made.f a0_0 a0_1 a0_2 a0_3 a0_4 a0_5 a0_6 a0_7 a0_8 a0_9 a0_10 l0_11 a0_12).isSome = false := by simpa using c3
  clear c3
  replace H := Option.bind_eq_some_iff.mp H
  obtain ⟨t648, A600, H⟩ := H
  replace H : (if t648 = 0 then (flywheellaw28_GuardBounds.l5000 k l1 0) else (if t648 = 290 then ((flywheelref28_Good.f a0_0 a0_1 a0_2 a0_3 a0_4 a0_5 a0_6 a0_7 a0_8 a0_9 a0_10 l0_11 a0_12).bind fun t649 => (if t649 = true then (some false) else ((flywheellaw28_wakes.f).bind fun t650 => (some t650)))) else (some false))) = some r := H
  have A60 := Aside0.mk A600
  clear A600
  by_cases c61 : t648 = 0
  ·rw [if_pos c61] at H
   have c61b0 : (t648 == 0) = true := beq_iff_eq.mpr c61
   have c61b1 : (t648 != 0) = false := bne_eq_false_iff_eq.mpr c61
   clear c61
   have H' := Aside0.mk H
   clear H
   go_enter Try.func6, Try.ntmps6
   go_wp2_with (first | ((with_reducible refine gate_dst (N := 2) rfl ?_); refine box_event ?hg (N := 2) ?hd (cs := #[.int .i64 a0_0, .int .i64 a0_1, .int .i64 a0_2, .int .i64 a0_3, .int .i64 a0_4, .int .i64 a0_5, .int .i64 a0_6, .int .i64 a0_7, .int .i64 a0_8, .int .i64 a0_9, .int .i64 a0_10, .slice A0_11 l0_11.length c0_11, .int .i64 a0_12]) (t := 27) ?hr ?_; (case hd => rfl); (case hg => rfl); (case hr => first | (go_simp; done) | (go_simp; rfl)); intro gb527 hg w62 hbox hb; have n0_ := Aside0.mk (below_step (by repeat (first | (with_reducible first | exact HB.out | apply below_alloc | apply pw_below_drewN | apply below_drew1) | exact HB.out)) hb); have n1_ := Aside0.mk (hbox); have n2_ := Aside0.mk ((by rw [hg]; exact (below_size (by repeat (first | (with_reducible first | exact HB.out | apply below_alloc | apply pw_below_drewN | apply below_drew1) | exact HB.out))) : w.heap.size ≤ gb527)); have n3_ := Aside0.mk ((by rw [hg]; exact (below_size (by repeat (first | (with_reducible first | exact HB.out | apply below_alloc | apply pw_below_drewN | apply below_drew1) | exact HB.out))) : w.heap.size ≤ gb527)); clear HB; have HB := n0_; have BK527 := n1_; have GW527 := n2_; have GE527 := n3_; clear n0_ n1_ n2_ n3_; clear hb hbox hg; have hcz63_0 : w62.cell? ⟨gb527, 0, none⟩ = some (.int .i64 a0_0) := (blk_cell BK527.out 0).trans rfl; have hcz63_1 : w62.cell? ⟨gb527, 1, none⟩ = some (.int .i64 a0_1) := (blk_cell BK527.out 1).trans rfl; have hcz63_2 : w62.cell? ⟨gb527, 2, none⟩ = some (.int .i64 a0_2) := (blk_cell BK527.out 2).trans rfl; have hcz63_3 : w62.cell? ⟨gb527, 3, none⟩ = some (.int .i64 a0_3) := (blk_cell BK527.out 3).trans rfl; have hcz63_4 : w62.cell? ⟨gb527, 4, none⟩ = some (.int .i64 a0_4) := (blk_cell BK527.out 4).trans rfl; have hcz63_5 : w62.cell? ⟨gb527, 5, none⟩ = some (.int .i64 a0_5) := (blk_cell BK527.out 5).trans rfl; have hcz63_6 : w62.cell? ⟨gb527, 6, none⟩ = some (.int .i64 a0_6) := (blk_cell BK527.out 6).trans rfl; have hcz63_7 : w62.cell? ⟨gb527, 7, none⟩ = some (.int .i64 a0_7) := (blk_cell BK527.out 7).trans rfl; have hcz63_8 : w62.cell? ⟨gb527, 8, none⟩ = some (.int .i64 a0_8) := (blk_cell BK527.out 8).trans rfl; have hcz63_9 : w62.cell? ⟨gb527, 9, none⟩ = some (.int .i64 a0_9) := (blk_cell BK527.out 9).trans rfl; have hcz63_10 : w62.cell? ⟨gb527, 10, none⟩ = some (.int .i64 a0_10) := (blk_cell BK527.out 10).trans rfl; have hcz63_11 : w62.cell? ⟨gb527, 11, none⟩ = some (.slice A0_11 l0_11.length c0_11) := (blk_cell BK527.out 11).trans rfl; have hcz63_12 : w62.cell? ⟨gb527, 12, none⟩ = some (.int .i64 a0_12) := (blk_cell BK527.out 12).trans rfl; have hfz63_0 := blk_frozen BK527.out 0; have hfz63_1 := blk_frozen BK527.out 1; have hfz63_2 := blk_frozen BK527.out 2; have hfz63_3 := blk_frozen BK527.out 3; have hfz63_4 := blk_frozen BK527.out 4; have hfz63_5 := blk_frozen BK527.out 5; have hfz63_6 := blk_frozen BK527.out 6; have hfz63_7 := blk_frozen BK527.out 7; have hfz63_8 := blk_frozen BK527.out 8; have hfz63_9 := blk_frozen BK527.out 9; have hfz63_10 := blk_frozen BK527.out 10; have hfz63_11 := blk_frozen BK527.out 11; have hfz63_12 := blk_frozen BK527.out 12) | ((with_reducible refine gate_callee (f := 10) rfl ?_); refine goesL_ (some 11) rfl rfl Try.func10 (by kernel_rfl) rfl #[.agg #[.int .i64 a0_0, .int .i64 a0_1, .int .i64 a0_2, .int .i64 a0_3, .int .i64 a0_4, .int .i64 a0_5, .int .i64 a0_6, .int .i64 a0_7, .int .i64 a0_8, .int .i64 a0_9, .int .i64 a0_10, .slice A0_11 l0_11.length c0_11, .int .i64 a0_12]] rfl (by (try simp only [List.map_toArray, List.map_cons, List.map_nil]); first | done | rfl | (simp only [List.length_drop, List.length_take]; rfl)) ?_; (with_reducible refine (guard_New.nil.calls a0_0 a0_1 a0_2 a0_3 a0_4 a0_5 a0_6 a0_7 a0_8 a0_9 a0_10 _ _ l0_11 a0_12 t648 _ ?side1 ?side2 A60.out).mono ?_); (case side1 => repeat (first | exact (Kd.C_below HR0_11.out HB.out) | (with_reducible refine Kd.C_alloc ?_ _) | (with_reducible refine Kd.C_drewN ?_ _) | (with_reducible refine Kd.C_drew ?_))); (case side2 => exact HC0_11.out); rintro e w64 ⟨rfl, hb⟩; refine ⟨_, rfl, ?_⟩; have n0_ := Aside0.mk (blk_below (g := gb527) (o := .cells #[.int .i64 a0_0, .int .i64 a0_1, .int .i64 a0_2, .int .i64 a0_3, .int .i64 a0_4, .int .i64 a0_5, .int .i64 a0_6, .int .i64 a0_7, .int .i64 a0_8, .int .i64 a0_9, .int .i64 a0_10, .slice A0_11 l0_11.length c0_11, .int .i64 a0_12] 27 (0, 0)) (by (with_reducible repeat (first | refine blk_drewN ?_ _ | refine blk_drew ?_ | refine blk_alloc ?_ _)); exact BK527.out) hb); have n1_ := Aside0.mk (below_step (by repeat (first | (with_reducible first | exact HB.out | apply below_alloc | apply pw_below_drewN | apply below_drew1 | refine below_set ?_ GE527.out) | exact HB.out)) hb); clear BK527; clear HB; have BK527 := n0_; have HB := n1_; clear n0_ n1_; (try clear hb); (try clear hb2); (try clear hk); (try clear hi)))
   go_loopg [7] k (fun kq v7 w' => ∃ (x7_1 : Int), v7 = .int .i64 x7_1 ∧ Aside0 (flywheellaw28_GuardBounds.l5000 kq l1 x7_1 = some r) ∧ Aside0 (kq ≤ k) ∧ Aside0 (w'.heap[gb527]? = some (.cells #[.int .i64 a0_0, .int .i64 a0_1, .int .i64 a0_2, .int .i64 a0_3, .int .i64 a0_4, .int .i64 a0_5, .int .i64 a0_6, .int .i64 a0_7, .int .i64 a0_8, .int .i64 a0_9, .int .i64 a0_10, (.slice A0_11 l0_11.length c0_11), .int .i64 a0_12] 27 (0, 0))) ∧ Aside0 (Below w.heap.size w w'))
   case atStart => exact ⟨(0), (by first | rfl | (simp; done) | (simp [*]; done)), H', ⟨Nat.le_refl _⟩, ⟨by (with_reducible repeat (first | refine blk_drewN ?_ _ | refine blk_drew ?_ | refine blk_alloc ?_ _)); exact BK527.out⟩, ⟨by repeat (first | (with_reducible first | exact HB.out | apply below_alloc | apply pw_below_drewN | apply below_drew1 | refine below_set ?_ GE527.out) | exact HB.out)⟩⟩
   case round =>
    clear H'
    try clear c1
    try clear c2
    try clear p2
    try clear c3
    try clear c3b0
    try clear c4
    try clear c5
    try clear c5b0
    try clear c5b1
    try clear p5
    try clear q5
    try clear hx5
    try clear c6
    try clear p6
    try clear c10
    try clear c11
    try clear c12
    try clear c13
    try clear c14
    try clear c16
    try clear c27
    try clear c27b0
    try clear c31
    try clear c31b0
    try clear c40
    try clear c40b0
    try clear c40b1
    try clear c42
    try clear c46
    try clear c53
    try clear p55
    try clear q55
    try clear hx55
    try clear p59
    try clear q59
    try clear hx59
    try clear c61
    try clear c61b0
    try clear c61b1
    try clear p64
    try clear hcz44_0
    try clear hcz44_1
    try clear hcz44_10
    try clear hcz44_11
    try clear hcz44_12
    try clear hcz44_2
    try clear hcz44_3
    try clear hcz44_4
    try clear hcz44_5
    try clear hcz44_6
    try clear hcz44_7
    try clear hcz44_8
    try clear hcz44_9
    try clear hcz47_0
    try clear hcz47_1
    try clear hcz47_10
    try clear hcz47_11
    try clear hcz47_12
    try clear hcz47_2
    try clear hcz47_3
    try clear hcz47_4
    try clear hcz47_5
    try clear hcz47_6
    try clear hcz47_7
    try clear hcz47_8
    try clear hcz47_9
    try clear hcz51_0
    try clear hcz51_1
    try clear hcz51_10
    try clear hcz51_11
    try clear hcz51_12
    try clear hcz51_2
    try clear hcz51_3
    try clear hcz51_4
    try clear hcz51_5
    try clear hcz51_6
    try clear hcz51_7
    try clear hcz51_8
    try clear hcz51_9
    try clear hcz54_0
    try clear hcz54_1
    try clear hcz54_10
    try clear hcz54_11
    try clear hcz54_12
    try clear hcz54_2
    try clear hcz54_3
    try clear hcz54_4
    try clear hcz54_5
    try clear hcz54_6
    try clear hcz54_7
    try clear hcz54_8
    try clear hcz54_9
    try clear hcz58_0
    try clear hcz58_1
    try clear hcz58_10
    try clear hcz58_11
    try clear hcz58_12
    try clear hcz58_2
    try clear hcz58_3
    try clear hcz58_4
    try clear hcz58_5
    try clear hcz58_6
    try clear hcz58_7
    try clear hcz58_8
    try clear hcz58_9
    try clear hcz63_0
    try clear hcz63_1
    try clear hcz63_10
    try clear hcz63_11
    try clear hcz63_12
    try clear hcz63_2
    try clear hcz63_3
    try clear hcz63_4
    try clear hcz63_5
    try clear hcz63_6
    try clear hcz63_7
    try clear hcz63_8
    try clear hcz63_9
    try clear hfz44_0
    try clear hfz44_1
    try clear hfz44_10
    try clear hfz44_11
    try clear hfz44_12
    try clear hfz44_2
    try clear hfz44_3
    try clear hfz44_4
    try clear hfz44_5
    try clear hfz44_6
    try clear hfz44_7
    try clear hfz44_8
    try clear hfz44_9
    try clear hfz47_0
    try clear hfz47_1
    try clear hfz47_10
    try clear hfz47_11
    try clear hfz47_12
    try clear hfz47_2
    try clear hfz47_3
    try clear hfz47_4
    try clear hfz47_5
    try clear hfz47_6
    try clear hfz47_7
    try clear hfz47_8
    try clear hfz47_9
    try clear hfz51_0
    try clear hfz51_1
    try clear hfz51_10
    try clear hfz51_11
    try clear hfz51_12
    try clear hfz51_2
    try clear hfz51_3
    try clear hfz51_4
    try clear hfz51_5
    try clear hfz51_6
    try clear hfz51_7
    try clear hfz51_8
    try clear hfz51_9
    try clear hfz54_0
    try clear hfz54_1
    try clear hfz54_10
    try clear hfz54_11
    try clear hfz54_12
    try clear hfz54_2
    try clear hfz54_3
    try clear hfz54_4
    try clear hfz54_5
    try clear hfz54_6
    try clear hfz54_7
    try clear hfz54_8
    try clear hfz54_9
    try clear hfz58_0
    try clear hfz58_1
    try clear hfz58_10
    try clear hfz58_11
    try clear hfz58_12
    try clear hfz58_2
    try clear hfz58_3
    try clear hfz58_4
    try clear hfz58_5
    try clear hfz58_6
    try clear hfz58_7
    try clear hfz58_8
    try clear hfz58_9
    try clear hfz63_0
    try clear hfz63_1
    try clear hfz63_10
    try clear hfz63_11
    try clear hfz63_12
    try clear hfz63_2
    try clear hfz63_3
    try clear hfz63_4
    try clear hfz63_5
    try clear hfz63_6
    try clear hfz63_7
    try clear hfz63_8
    try clear hfz63_9
    try clear hx551_0
    try clear hx551_1
    try clear hx551_2
    try clear hx551_3
    try clear hx551_4
    try clear hx551_5
    try clear hx552_0
    try clear hx552_1
    try clear hx552_2
    try clear hx552_3
    try clear hx552_4
    try clear hx552_5
    try clear hx553_0
    try clear hx553_1
    try clear hx553_2
    try clear hx553_3
    try clear hx553_4
    try clear hx553_5
    try clear hx554_0
    try clear hx554_1
    try clear hx554_2
    try clear hx554_3
    try clear hx554_4
    try clear hx554_5
    try clear hx555_0
    try clear hx555_1
    try clear hx555_2
    try clear hx555_3
    try clear hx555_4
    try clear hx555_5
    try clear hx556_0
    try clear hx556_1
    try clear hx556_2
    try clear hx556_3
    try clear hx556_4
    try clear hx556_5
    try clear hx593_0
    try clear hx593_1
    try clear hx593_2
    try clear hx593_3
    try clear hx593_4
    try clear hx593_5
    try clear p2
    try clear p551
    try clear p552
    try clear p553
    try clear p554
    try clear p555
    try clear p556
    try clear p593
    try clear q551
    try clear q552
    try clear q553
    try clear q554
    try clear q555
    try clear q556
    try clear q593
    obtain ⟨x7_1, rfl, HA, HK1, BK527, HB⟩ := hrel
    cases gk with
    | zero => exact absurd HA.out (by simp [flywheellaw28_GuardBounds.l5000])
    | succ k1 =>
     have H := HA.out
     clear HA
     simp only [flywheellaw28_GuardBounds.l5000] at H
     have HC65 := Aside0.mk H
     clear H
     go_upto_region 5 with (fail)
     go_cut [33] (fun v33 wc => ∃ (kq : Nat) (x33_64 : Bool), v33 = .bool x33_64 ∧ Aside0 (flywheellaw28_GuardBounds.j4 kq l1 x7_1 x33_64 = some r) ∧ Aside0 (kq ≤ k1) ∧ Aside0 (wc.heap[gb527]? = some (.cells #[.int .i64 a0_0, .int .i64 a0_1, .int .i64 a0_2, .int .i64 a0_3, .int .i64 a0_4, .int .i64 a0_5, .int .i64 a0_6, .int .i64 a0_7, .int .i64 a0_8, .int .i64 a0_9, .int .i64 a0_10, (.slice A0_11 l0_11.length c0_11), .int .i64 a0_12] 27 (0, 0))) ∧ Aside0 (Below w.heap.size w wc))
     case first =>
      have H := HC65.out
      clear HC65
      by_cases c66 : x7_1 < (l1.length : Int)
      ·rw [if_pos c66] at H
       have c66b0 : decide (x7_1 < (l1.length : Int)) = true := decide_eq_true c66
       clear c66
       (first | rw [c66b0] | (simp only [i64_w, i32_w]; rw [c66b0]) | skip)
       have H' := Aside0.mk H
       clear H
       go_wp2
       go_meet
       case rel => exact ⟨_, (decide (x7_1 < 200)), (by first | rfl | (simp; done) | (simp [*]; done)), H', ⟨by have := HK1.out; first | omega | exact Nat.le_refl _⟩, ⟨by (with_reducible repeat (first | refine blk_drewN ?_ _ | refine blk_drew ?_ | refine blk_alloc ?_ _)); exact BK527.out⟩, ⟨by repeat (first | (with_reducible first | exact HB.out | apply below_alloc | apply pw_below_drewN | apply below_drew1 | refine below_set ?_ GE527.out) | exact HB.out)⟩⟩
      ·rw [if_neg c66] at H
       have c66b0 : decide (x7_1 < (l1.length : Int)) = false := decide_eq_false c66
       clear c66
       (first | rw [c66b0] | (simp only [i64_w, i32_w]; rw [c66b0]) | skip)
       have H' := Aside0.mk H
       clear H
       go_wp2
       go_meet
       case rel => exact ⟨_, (false), (by first | rfl | (simp; done) | (simp [*]; done)), H', ⟨by have := HK1.out; first | omega | exact Nat.le_refl _⟩, ⟨by (with_reducible repeat (first | refine blk_drewN ?_ _ | refine blk_drew ?_ | refine blk_alloc ?_ _)); exact BK527.out⟩, ⟨by repeat (first | (with_reducible first | exact HB.out | apply below_alloc | apply pw_below_drewN | apply below_drew1 | refine below_set ?_ GE527.out) | exact HB.out)⟩⟩
     case rest =>
      clear HC65
      try clear c1
      try clear c2
      try clear p2
      try clear c3
      try clear c3b0
      try clear c4
      try clear c5
      try clear c5b0
      try clear c5b1
      try clear p5
      try clear q5
      try clear hx5
      try clear c6
      try clear p6
      try clear c10
      try clear c11
      try clear c12
      try clear c13
      try clear c14
      try clear c16
      try clear c27
      try clear c27b0
      try clear c31
      try clear c31b0
      try clear c40
      try clear c40b0
      try clear c40b1
      try clear c42
      try clear c46
      try clear c53
      try clear p55
      try clear q55
      try clear hx55
      try clear p59
      try clear q59
      try clear hx59
      try clear c61
      try clear c61b0
      try clear c61b1
      try clear p64
      try clear c66
      try clear c66b0
      try clear hcz44_0
      try clear hcz44_1
      try clear hcz44_10
      try clear hcz44_11
      try clear hcz44_12
      try clear hcz44_2
      try clear hcz44_3
      try clear hcz44_4
      try clear hcz44_5
      try clear hcz44_6
      try clear hcz44_7
      try clear hcz44_8
      try clear hcz44_9
      try clear hcz47_0
      try clear hcz47_1
      try clear hcz47_10
      try clear hcz47_11
      try clear hcz47_12
      try clear hcz47_2
      try clear hcz47_3
      try clear hcz47_4
      try clear hcz47_5
      try clear hcz47_6
      try clear hcz47_7
      try clear hcz47_8
      try clear hcz47_9
      try clear hcz51_0
      try clear hcz51_1
      try clear hcz51_10
      try clear hcz51_11
      try clear hcz51_12
      try clear hcz51_2
      try clear hcz51_3
      try clear hcz51_4
      try clear hcz51_5
      try clear hcz51_6
      try clear hcz51_7
      try clear hcz51_8
      try clear hcz51_9
      try clear hcz54_0
      try clear hcz54_1
      try clear hcz54_10
      try clear hcz54_11
      try clear hcz54_12
      try clear hcz54_2
      try clear hcz54_3
      try clear hcz54_4
      try clear hcz54_5
      try clear hcz54_6
      try clear hcz54_7
      try clear hcz54_8
      try clear hcz54_9
      try clear hcz58_0
      try clear hcz58_1
      try clear hcz58_10
      try clear hcz58_11
      try clear hcz58_12
      try clear hcz58_2
      try clear hcz58_3
      try clear hcz58_4
      try clear hcz58_5
      try clear hcz58_6
      try clear hcz58_7
      try clear hcz58_8
      try clear hcz58_9
      try clear hcz63_0
      try clear hcz63_1
      try clear hcz63_10
      try clear hcz63_11
      try clear hcz63_12
      try clear hcz63_2
      try clear hcz63_3
      try clear hcz63_4
      try clear hcz63_5
      try clear hcz63_6
      try clear hcz63_7
      try clear hcz63_8
      try clear hcz63_9
      try clear hfz44_0
      try clear hfz44_1
      try clear hfz44_10
      try clear hfz44_11
      try clear hfz44_12
      try clear hfz44_2
      try clear hfz44_3
      try clear hfz44_4
      try clear hfz44_5
      try clear hfz44_6
      try clear hfz44_7
      try clear hfz44_8
      try clear hfz44_9
      try clear hfz47_0
      try clear hfz47_1
      try clear hfz47_10
      try clear hfz47_11
      try clear hfz47_12
      try clear hfz47_2
      try clear hfz47_3
      try clear hfz47_4
      try clear hfz47_5
      try clear hfz47_6
      try clear hfz47_7
      try clear hfz47_8
      try clear hfz47_9
      try clear hfz51_0
      try clear hfz51_1
      try clear hfz51_10
      try clear hfz51_11
      try clear hfz51_12
      try clear hfz51_2
      try clear hfz51_3
      try clear hfz51_4
      try clear hfz51_5
      try clear hfz51_6
      try clear hfz51_7
      try clear hfz51_8
      try clear hfz51_9
      try clear hfz54_0
      try clear hfz54_1
      try clear hfz54_10
      try clear hfz54_11
      try clear hfz54_12
      try clear hfz54_2
      try clear hfz54_3
      try clear hfz54_4
      try clear hfz54_5
      try clear hfz54_6
      try clear hfz54_7
      try clear hfz54_8
      try clear hfz54_9
      try clear hfz58_0
      try clear hfz58_1
      try clear hfz58_10
      try clear hfz58_11
      try clear hfz58_12
      try clear hfz58_2
      try clear hfz58_3
      try clear hfz58_4
      try clear hfz58_5
      try clear hfz58_6
      try clear hfz58_7
      try clear hfz58_8
      try clear hfz58_9
      try clear hfz63_0
      try clear hfz63_1
      try clear hfz63_10
      try clear hfz63_11
      try clear hfz63_12
      try clear hfz63_2
      try clear hfz63_3
      try clear hfz63_4
      try clear hfz63_5
      try clear hfz63_6
      try clear hfz63_7
      try clear hfz63_8
      try clear hfz63_9
      try clear hx551_0
      try clear hx551_1
      try clear hx551_2
      try clear hx551_3
      try clear hx551_4
      try clear hx551_5
      try clear hx552_0
      try clear hx552_1
      try clear hx552_2
      try clear hx552_3
      try clear hx552_4
      try clear hx552_5
      try clear hx553_0
      try clear hx553_1
      try clear hx553_2
      try clear hx553_3
      try clear hx553_4
      try clear hx553_5
      try clear hx554_0
      try clear hx554_1
      try clear hx554_2
      try clear hx554_3
      try clear hx554_4
      try clear hx554_5
      try clear hx555_0
      try clear hx555_1
      try clear hx555_2
      try clear hx555_3
      try clear hx555_4
      try clear hx555_5
      try clear hx556_0
      try clear hx556_1
      try clear hx556_2
      try clear hx556_3
      try clear hx556_4
      try clear hx556_5
      try clear hx593_0
      try clear hx593_1
      try clear hx593_2
      try clear hx593_3
      try clear hx593_4
      try clear hx593_5
      try clear p2
      try clear p5
      try clear p55
      try clear p551
      try clear p552
      try clear p553
      try clear p554
      try clear p555
      try clear p556
      try clear p59
      try clear p593
      try clear p6
      try clear p64
      try clear q5
      try clear q55
      try clear q551
      try clear q552
      try clear q553
      try clear q554
      try clear q555
      try clear q556
      try clear q59
      try clear q593
      obtain ⟨kq, x33_64, rfl, HA, HJ64, BK527, HB⟩ := hcut
      cases kq with
      | zero => exact absurd HA.out (by simp [flywheellaw28_GuardBounds.j4])
      | succ kj64 =>
       have H := HA.out
       clear HA
       simp only [flywheellaw28_GuardBounds.j4] at H
       by_cases c67 : x33_64 = true
       ·subst c67
        have H1 : (if 0 ≤ x7_1 then (if x7_1 < (l1.length : Int) then (if ((rd_T24 l1 x7_1).f0) = 0 then (none) else (none)) else (none)) else (none)) = some r := by rw [if_pos rfl] at H; exact H
        clear H
        have H := H1
        clear H1
        by_cases c68 : 0 ≤ x7_1
        ·rw [if_pos c68] at H
         have c68b0 : decide (0 ≤ x7_1) = true := decide_eq_true c68
         clear c68
         by_cases c69 : x7_1 < (l1.length : Int)
         ·rw [if_pos c69] at H
          have c69b0 : decide (x7_1 < (l1.length : Int)) = true := decide_eq_true c69
          clear c69
          by_cases c70 : ((rd_T24 l1 x7_1).f0) = 0
          ·rw [if_pos c70] at H
           have c70b0 : (((rd_T24 l1 x7_1).f0) == 0) = true := beq_iff_eq.mpr c70
           have c70b1 : (((rd_T24 l1 x7_1).f0) != 0) = false := bne_eq_false_iff_eq.mpr c70
           clear c70
           exact absurd H (by simp)
          ·rw [if_neg c70] at H
           exact absurd H (by simp)
         ·rw [if_neg c69] at H
          exact absurd H (by simp)
        ·rw [if_neg c68] at H
         exact absurd H (by simp)
       ·replace c67 := Bool.eq_false_iff.mpr c67
        subst c67
        have H1 : ((flywheellaw28_wakes.f).bind fun t651 => (some t651)) = some r := by rw [if_neg (show ¬ (false = true) by decide)] at H; exact H
        clear H
        have H := H1
        clear H1
        replace H := Option.bind_eq_some_iff.mp H
        obtain ⟨t651, A710, H⟩ := H
        replace H : (some t651) = some r := H
        have A71 := Aside0.mk A710
        clear A710
        obtain rfl := Option.some.inj H
        go_wp2_with (first | ((with_reducible refine gate_callee (f := 14) rfl ?_); refine goesL_ (some 92) rfl rfl Try.func14 (by kernel_rfl) rfl #[] rfl (by (try simp only [List.map_toArray, List.map_cons, List.map_nil]); first | done | rfl | (simp only [List.length_drop, List.length_take]; rfl)) ?_; (with_reducible refine (flywheellaw28_wakes.calls  t651 _ A71.out).mono ?_); rintro e w72 ⟨rfl, hb⟩; refine ⟨_, rfl, ?_⟩; have n0_ := Aside0.mk (blk_below (g := gb527) (o := .cells #[.int .i64 a0_0, .int .i64 a0_1, .int .i64 a0_2, .int .i64 a0_3, .int .i64 a0_4, .int .i64 a0_5, .int .i64 a0_6, .int .i64 a0_7, .int .i64 a0_8, .int .i64 a0_9, .int .i64 a0_10, .slice A0_11 l0_11.length c0_11, .int .i64 a0_12] 27 (0, 0)) (by (with_reducible repeat (first | refine blk_drewN ?_ _ | refine blk_drew ?_ | refine blk_alloc ?_ _)); exact BK527.out) hb); have n1_ := Aside0.mk (below_step (by repeat (first | (with_reducible first | exact HB.out | apply below_alloc | apply pw_below_drewN | apply below_drew1 | refine below_set ?_ GE527.out) | exact HB.out)) hb); clear BK527; clear HB; have BK527 := n0_; have HB := n1_; clear n0_ n1_; (try clear hb); (try clear hb2); (try clear hk); (try clear hi)))
        go_ret
        exact ⟨by first | rfl | (simp [errW_none, errW_some] <;> rfl) | (simp [*, errW_none, errW_some] <;> rfl), by repeat (first | (with_reducible first | exact HB.out | apply below_alloc | apply pw_below_drewN | apply below_drew1 | refine below_set ?_ GE527.out) | exact HB.out)⟩
  ·rw [if_neg c61] at H
   have c61b0 : (t648 == 0) = false := beq_eq_false_iff_ne.mpr c61
   have c61b1 : (t648 != 0) = true := bne_iff_ne.mpr c61
   by_cases c73 : t648 = 290
   ·rw [if_pos c73] at H
    have c73b0 : (t648 == 290) = true := beq_iff_eq.mpr c73
    have c73b1 : (t648 != 290) = false := bne_eq_false_iff_eq.mpr c73
    clear c73
    replace H := Option.bind_eq_some_iff.mp H
    obtain ⟨t649, A740, H⟩ := H
    replace H : (if t649 = true then (some false) else ((flywheellaw28_wakes.f).bind fun t650 => (some t650))) = some r := H
    have A74 := Aside0.mk A740
    clear A740
    by_cases c75 : t649 = true
    ·subst c75
     have H1 : (some false) = some r := by rw [if_pos rfl] at H; exact H
     clear H
     have H := H1
     clear H1
     obtain rfl := Option.some.inj H
     go_enter Try.func6, Try.ntmps6
     go_wp2_with (first | ((with_reducible refine gate_dst (N := 2) rfl ?_); refine box_event ?hg (N := 2) ?hd (cs := #[.int .i64 a0_0, .int .i64 a0_1, .int .i64 a0_2, .int .i64 a0_3, .int .i64 a0_4, .int .i64 a0_5, .int .i64 a0_6, .int .i64 a0_7, .int .i64 a0_8, .int .i64 a0_9, .int .i64 a0_10, .slice A0_11 l0_11.length c0_11, .int .i64 a0_12]) (t := 27) ?hr ?_; (case hd => rfl); (case hg => rfl); (case hr => first | (go_simp; done) | (go_simp; rfl)); intro gb527 hg w76 hbox hb; have n0_ := Aside0.mk (below_step (by repeat (first | (with_reducible first | exact HB.out | apply below_alloc | apply pw_below_drewN | apply below_drew1) | exact HB.out)) hb); have n1_ := Aside0.mk (hbox); have n2_ := Aside0.mk ((by rw [hg]; exact (below_size (by repeat (first | (with_reducible first | exact HB.out | apply below_alloc | apply pw_below_drewN | apply below_drew1) | exact HB.out))) : w.heap.size ≤ gb527)); have n3_ := Aside0.mk ((by rw [hg]; exact (below_size (by repeat (first | (with_reducible first | exact HB.out | apply below_alloc | apply pw_below_drewN | apply below_drew1) | exact HB.out))) : w.heap.size ≤ gb527)); clear HB; have HB := n0_; have BK527 := n1_; have GW527 := n2_; have GE527 := n3_; clear n0_ n1_ n2_ n3_; clear hb hbox hg; have hcz77_0 : w76.cell? ⟨gb527, 0, none⟩ = some (.int .i64 a0_0) := (blk_cell BK527.out 0).trans rfl; have hcz77_1 : w76.cell? ⟨gb527, 1, none⟩ = some (.int .i64 a0_1) := (blk_cell BK527.out 1).trans rfl; have hcz77_2 : w76.cell? ⟨gb527, 2, none⟩ = some (.int .i64 a0_2) := (blk_cell BK527.out 2).trans rfl; have hcz77_3 : w76.cell? ⟨gb527, 3, none⟩ = some (.int .i64 a0_3) := (blk_cell BK527.out 3).trans rfl; have hcz77_4 : w76.cell? ⟨gb527, 4, none⟩ = some (.int .i64 a0_4) := (blk_cell BK527.out 4).trans rfl; have hcz77_5 : w76.cell? ⟨gb527, 5, none⟩ = some (.int .i64 a0_5) := (blk_cell BK527.out 5).trans rfl; have hcz77_6 : w76.cell? ⟨gb527, 6, none⟩ = some (.int .i64 a0_6) := (blk_cell BK527.out 6).trans rfl; have hcz77_7 : w76.cell? ⟨gb527, 7, none⟩ = some (.int .i64 a0_7) := (blk_cell BK527.out 7).trans rfl; have hcz77_8 : w76.cell? ⟨gb527, 8, none⟩ = some (.int .i64 a0_8) := (blk_cell BK527.out 8).trans rfl; have hcz77_9 : w76.cell? ⟨gb527, 9, none⟩ = some (.int .i64 a0_9) := (blk_cell BK527.out 9).trans rfl; have hcz77_10 : w76.cell? ⟨gb527, 10, none⟩ = some (.int .i64 a0_10) := (blk_cell BK527.out 10).trans rfl; have hcz77_11 : w76.cell? ⟨gb527, 11, none⟩ = some (.slice A0_11 l0_11.length c0_11) := (blk_cell BK527.out 11).trans rfl; have hcz77_12 : w76.cell? ⟨gb527, 12, none⟩ = some (.int .i64 a0_12) := (blk_cell BK527.out 12).trans rfl; have hfz77_0 := blk_frozen BK527.out 0; have hfz77_1 := blk_frozen BK527.out 1; have hfz77_2 := blk_frozen BK527.out 2; have hfz77_3 := blk_frozen BK527.out 3; have hfz77_4 := blk_frozen BK527.out 4; have hfz77_5 := blk_frozen BK527.out 5; have hfz77_6 := blk_frozen BK527.out 6; have hfz77_7 := blk_frozen BK527.out 7; have hfz77_8 := blk_frozen BK527.out 8; have hfz77_9 := blk_frozen BK527.out 9; have hfz77_10 := blk_frozen BK527.out 10; have hfz77_11 := blk_frozen BK527.out 11; have hfz77_12 := blk_frozen BK527.out 12) | ((with_reducible refine gate_callee (f := 10) rfl ?_); refine goesL_ (some 11) rfl rfl Try.func10 (by kernel_rfl) rfl #[.agg #[.int .i64 a0_0, .int .i64 a0_1, .int .i64 a0_2, .int .i64 a0_3, .int .i64 a0_4, .int .i64 a0_5, .int .i64 a0_6, .int .i64 a0_7, .int .i64 a0_8, .int .i64 a0_9, .int .i64 a0_10, .slice A0_11 l0_11.length c0_11, .int .i64 a0_12]] rfl (by (try simp only [List.map_toArray, List.map_cons, List.map_nil]); first | done | rfl | (simp only [List.length_drop, List.length_take]; rfl)) ?_; (with_reducible refine (guard_New.nil.calls a0_0 a0_1 a0_2 a0_3 a0_4 a0_5 a0_6 a0_7 a0_8 a0_9 a0_10 _ _ l0_11 a0_12 t648 _ ?side1 ?side2 A60.out).mono ?_); (case side1 => repeat (first | exact (Kd.C_below HR0_11.out HB.out) | (with_reducible refine Kd.C_alloc ?_ _) | (with_reducible refine Kd.C_drewN ?_ _) | (with_reducible refine Kd.C_drew ?_))); (case side2 => exact HC0_11.out); rintro e w78 ⟨rfl, hb⟩; refine ⟨_, rfl, ?_⟩; have n0_ := Aside0.mk (blk_below (g := gb527) (o := .cells #[.int .i64 a0_0, .int .i64 a0_1, .int .i64 a0_2, .int .i64 a0_3, .int .i64 a0_4, .int .i64 a0_5, .int .i64 a0_6, .int .i64 a0_7, .int .i64 a0_8, .int .i64 a0_9, .int .i64 a0_10, .slice A0_11 l0_11.length c0_11, .int .i64 a0_12] 27 (0, 0)) (by (with_reducible repeat (first | refine blk_drewN ?_ _ | refine blk_drew ?_ | refine blk_alloc ?_ _)); exact BK527.out) hb); have n1_ := Aside0.mk (below_step (by repeat (first | (with_reducible first | exact HB.out | apply below_alloc | apply pw_below_drewN | apply below_drew1 | refine below_set ?_ GE527.out) | exact HB.out)) hb); clear BK527; clear HB; have BK527 := n0_; have HB := n1_; clear n0_ n1_; (try clear hb); (try clear hb2); (try clear hk); (try clear hi); have hcz79_0 : w78.cell? ⟨gb527, 0, none⟩ = some (.int .i64 a0_0) := (blk_cell BK527.out 0).trans rfl; have hcz79_1 : w78.cell? ⟨gb527, 1, none⟩ = some (.int .i64 a0_1) := (blk_cell BK527.out 1).trans rfl; have hcz79_2 : w78.cell? ⟨gb527, 2, none⟩ = some (.int .i64 a0_2) := (blk_cell BK527.out 2).trans rfl; have hcz79_3 : w78.cell? ⟨gb527, 3, none⟩ = some (.int .i64 a0_3) := (blk_cell BK527.out 3).trans rfl; have hcz79_4 : w78.cell? ⟨gb527, 4, none⟩ = some (.int .i64 a0_4) := (blk_cell BK527.out 4).trans rfl; have hcz79_5 : w78.cell? ⟨gb527, 5, none⟩ = some (.int .i64 a0_5) := (blk_cell BK527.out 5).trans rfl; have hcz79_6 : w78.cell? ⟨gb527, 6, none⟩ = some (.int .i64 a0_6) := (blk_cell BK527.out 6).trans rfl; have hcz79_7 : w78.cell? ⟨gb527, 7, none⟩ = some (.int .i64 a0_7) := (blk_cell BK527.out 7).trans rfl; have hcz79_8 : w78.cell? ⟨gb527, 8, none⟩ = some (.int .i64 a0_8) := (blk_cell BK527.out 8).trans rfl; have hcz79_9 : w78.cell? ⟨gb527, 9, none⟩ = some (.int .i64 a0_9) := (blk_cell BK527.out 9).trans rfl; have hcz79_10 : w78.cell? ⟨gb527, 10, none⟩ = some (.int .i64 a0_10) := (blk_cell BK527.out 10).trans rfl; have hcz79_11 : w78.cell? ⟨gb527, 11, none⟩ = some (.slice A0_11 l0_11.length c0_11) := (blk_cell BK527.out 11).trans rfl; have hcz79_12 : w78.cell? ⟨gb527, 12, none⟩ = some (.int .i64 a0_12) := (blk_cell BK527.out 12).trans rfl; have hfz79_0 := blk_frozen BK527.out 0; have hfz79_1 := blk_frozen BK527.out 1; have hfz79_2 := blk_frozen BK527.out 2; have hfz79_3 := blk_frozen BK527.out 3; have hfz79_4 := blk_frozen BK527.out 4; have hfz79_5 := blk_frozen BK527.out 5; have hfz79_6 := blk_frozen BK527.out 6; have hfz79_7 := blk_frozen BK527.out 7; have hfz79_8 := blk_frozen BK527.out 8; have hfz79_9 := blk_frozen BK527.out 9; have hfz79_10 := blk_frozen BK527.out 10; have hfz79_11 := blk_frozen BK527.out 11; have hfz79_12 := blk_frozen BK527.out 12) | (go_at_call 15; (with_reducible refine (flywheelref28_Good.calls a0_0 a0_1 a0_2 a0_3 a0_4 a0_5 a0_6 a0_7 a0_8 a0_9 a0_10 _ _ l0_11 a0_12 true _ ?side1 ?side2 A74.out).mono ?_); (case side1 => repeat (first | exact (Kd.C_below HR0_11.out HB.out) | (with_reducible refine Kd.C_alloc ?_ _) | (with_reducible refine Kd.C_drewN ?_ _) | (with_reducible refine Kd.C_drew ?_))); (case side2 => exact HC0_11.out); rintro e w80 ⟨rfl, hb⟩; have n0_ := Aside0.mk (blk_below (g := gb527) (o := .cells #[.int .i64 a0_0, .int .i64 a0_1, .int .i64 a0_2, .int .i64 a0_3, .int .i64 a0_4, .int .i64 a0_5, .int .i64 a0_6, .int .i64 a0_7, .int .i64 a0_8, .int .i64 a0_9, .int .i64 a0_10, .slice A0_11 l0_11.length c0_11, .int .i64 a0_12] 27 (0, 0)) (by (with_reducible repeat (first | refine blk_drewN ?_ _ | refine blk_drew ?_ | refine blk_alloc ?_ _)); exact BK527.out) hb); have n1_ := Aside0.mk (below_step (by repeat (first | (with_reducible first | exact HB.out | apply below_alloc | apply pw_below_drewN | apply below_drew1 | refine below_set ?_ GE527.out) | exact HB.out)) hb); clear BK527; clear HB; have BK527 := n0_; have HB := n1_; clear n0_ n1_; (try clear hb); (try clear hb2); (try clear hk); (try clear hi)))
     go_ret
     exact ⟨by first | rfl | (simp [errW_none, errW_some] <;> rfl) | (simp [*, errW_none, errW_some] <;> rfl), by repeat (first | (with_reducible first | exact HB.out | apply below_alloc | apply pw_below_drewN | apply below_drew1 | refine below_set ?_ GE527.out) | exact HB.out)⟩
    ·replace c75 := Bool.eq_false_iff.mpr c75
     subst c75
     have H1 : ((flywheellaw28_wakes.f).bind fun t650 => (some t650)) = some r := by rw [if_neg (show ¬ (false = true) by decide)] at H; exact H
     clear H
     have H := H1
     clear H1
     replace H := Option.bind_eq_some_iff.mp H
     obtain ⟨t650, A810, H⟩ := H
     replace H : (some t650) = some r := H
     have A81 := Aside0.mk A810
     clear A810
     obtain rfl := Option.some.inj H
     go_enter Try.func6, Try.ntmps6
     go_wp2_with (first | ((with_reducible refine gate_dst (N := 2) rfl ?_); refine box_event ?hg (N := 2) ?hd (cs := #[.int .i64 a0_0, .int .i64 a0_1, .int .i64 a0_2, .int .i64 a0_3, .int .i64 a0_4, .int .i64 a0_5, .int .i64 a0_6, .int .i64 a0_7, .int .i64 a0_8, .int .i64 a0_9, .int .i64 a0_10, .slice A0_11 l0_11.length c0_11, .int .i64 a0_12]) (t := 27) ?hr ?_; (case hd => rfl); (case hg => rfl); (case hr => first | (go_simp; done) | (go_simp; rfl)); intro gb527 hg w82 hbox hb; have n0_ := Aside0.mk (below_step (by repeat (first | (with_reducible first | exact HB.out | apply below_alloc | apply pw_below_drewN | apply below_drew1) | exact HB.out)) hb); have n1_ := Aside0.mk (hbox); have n2_ := Aside0.mk ((by rw [hg]; exact (below_size (by repeat (first | (with_reducible first | exact HB.out | apply below_alloc | apply pw_below_drewN | apply below_drew1) | exact HB.out))) : w.heap.size ≤ gb527)); have n3_ := Aside0.mk ((by rw [hg]; exact (below_size (by repeat (first | (with_reducible first | exact HB.out | apply below_alloc | apply pw_below_drewN | apply below_drew1) | exact HB.out))) : w.heap.size ≤ gb527)); clear HB; have HB := n0_; have BK527 := n1_; have GW527 := n2_; have GE527 := n3_; clear n0_ n1_ n2_ n3_; clear hb hbox hg; have hcz83_0 : w82.cell? ⟨gb527, 0, none⟩ = some (.int .i64 a0_0) := (blk_cell BK527.out 0).trans rfl; have hcz83_1 : w82.cell? ⟨gb527, 1, none⟩ = some (.int .i64 a0_1) := (blk_cell BK527.out 1).trans rfl; have hcz83_2 : w82.cell? ⟨gb527, 2, none⟩ = some (.int .i64 a0_2) := (blk_cell BK527.out 2).trans rfl; have hcz83_3 : w82.cell? ⟨gb527, 3, none⟩ = some (.int .i64 a0_3) := (blk_cell BK527.out 3).trans rfl; have hcz83_4 : w82.cell? ⟨gb527, 4, none⟩ = some (.int .i64 a0_4) := (blk_cell BK527.out 4).trans rfl; have hcz83_5 : w82.cell? ⟨gb527, 5, none⟩ = some (.int .i64 a0_5) := (blk_cell BK527.out 5).trans rfl; have hcz83_6 : w82.cell? ⟨gb527, 6, none⟩ = some (.int .i64 a0_6) := (blk_cell BK527.out 6).trans rfl; have hcz83_7 : w82.cell? ⟨gb527, 7, none⟩ = some (.int .i64 a0_7) := (blk_cell BK527.out 7).trans rfl; have hcz83_8 : w82.cell? ⟨gb527, 8, none⟩ = some (.int .i64 a0_8) := (blk_cell BK527.out 8).trans rfl; have hcz83_9 : w82.cell? ⟨gb527, 9, none⟩ = some (.int .i64 a0_9) := (blk_cell BK527.out 9).trans rfl; have hcz83_10 : w82.cell? ⟨gb527, 10, none⟩ = some (.int .i64 a0_10) := (blk_cell BK527.out 10).trans rfl; have hcz83_11 : w82.cell? ⟨gb527, 11, none⟩ = some (.slice A0_11 l0_11.length c0_11) := (blk_cell BK527.out 11).trans rfl; have hcz83_12 : w82.cell? ⟨gb527, 12, none⟩ = some (.int .i64 a0_12) := (blk_cell BK527.out 12).trans rfl; have hfz83_0 := blk_frozen BK527.out 0; have hfz83_1 := blk_frozen BK527.out 1; have hfz83_2 := blk_frozen BK527.out 2; have hfz83_3 := blk_frozen BK527.out 3; have hfz83_4 := blk_frozen BK527.out 4; have hfz83_5 := blk_frozen BK527.out 5; have hfz83_6 := blk_frozen BK527.out 6; have hfz83_7 := blk_frozen BK527.out 7; have hfz83_8 := blk_frozen BK527.out 8; have hfz83_9 := blk_frozen BK527.out 9; have hfz83_10 := blk_frozen BK527.out 10; have hfz83_11 := blk_frozen BK527.out 11; have hfz83_12 := blk_frozen BK527.out 12) | ((with_reducible refine gate_callee (f := 10) rfl ?_); refine goesL_ (some 11) rfl rfl Try.func10 (by kernel_rfl) rfl #[.agg #[.int .i64 a0_0, .int .i64 a0_1, .int .i64 a0_2, .int .i64 a0_3, .int .i64 a0_4, .int .i64 a0_5, .int .i64 a0_6, .int .i64 a0_7, .int .i64 a0_8, .int .i64 a0_9, .int .i64 a0_10, .slice A0_11 l0_11.length c0_11, .int .i64 a0_12]] rfl (by (try simp only [List.map_toArray, List.map_cons, List.map_nil]); first | done | rfl | (simp only [List.length_drop, List.length_take]; rfl)) ?_; (with_reducible refine (guard_New.nil.calls a0_0 a0_1 a0_2 a0_3 a0_4 a0_5 a0_6 a0_7 a0_8 a0_9 a0_10 _ _ l0_11 a0_12 t648 _ ?side1 ?side2 A60.out).mono ?_); (case side1 => repeat (first | exact (Kd.C_below HR0_11.out HB.out) | (with_reducible refine Kd.C_alloc ?_ _) | (with_reducible refine Kd.C_drewN ?_ _) | (with_reducible refine Kd.C_drew ?_))); (case side2 => exact HC0_11.out); rintro e w84 ⟨rfl, hb⟩; refine ⟨_, rfl, ?_⟩; have n0_ := Aside0.mk (blk_below (g := gb527) (o := .cells #[.int .i64 a0_0, .int .i64 a0_1, .int .i64 a0_2, .int .i64 a0_3, .int .i64 a0_4, .int .i64 a0_5, .int .i64 a0_6, .int .i64 a0_7, .int .i64 a0_8, .int .i64 a0_9, .int .i64 a0_10, .slice A0_11 l0_11.length c0_11, .int .i64 a0_12] 27 (0, 0)) (by (with_reducible repeat (first | refine blk_drewN ?_ _ | refine blk_drew ?_ | refine blk_alloc ?_ _)); exact BK527.out) hb); have n1_ := Aside0.mk (below_step (by repeat (first | (with_reducible first | exact HB.out | apply below_alloc | apply pw_below_drewN | apply below_drew1 | refine below_set ?_ GE527.out) | exact HB.out)) hb); clear BK527; clear HB; have BK527 := n0_; have HB := n1_; clear n0_ n1_; (try clear hb); (try clear hb2); (try clear hk); (try clear hi); have hcz85_0 : w84.cell? ⟨gb527, 0, none⟩ = some (.int .i64 a0_0) := (blk_cell BK527.out 0).trans rfl; have hcz85_1 : w84.cell? ⟨gb527, 1, none⟩ = some (.int .i64 a0_1) := (blk_cell BK527.out 1).trans rfl; have hcz85_2 : w84.cell? ⟨gb527, 2, none⟩ = some (.int .i64 a0_2) := (blk_cell BK527.out 2).trans rfl; have hcz85_3 : w84.cell? ⟨gb527, 3, none⟩ = some (.int .i64 a0_3) := (blk_cell BK527.out 3).trans rfl; have hcz85_4 : w84.cell? ⟨gb527, 4, none⟩ = some (.int .i64 a0_4) := (blk_cell BK527.out 4).trans rfl; have hcz85_5 : w84.cell? ⟨gb527, 5, none⟩ = some (.int .i64 a0_5) := (blk_cell BK527.out 5).trans rfl; have hcz85_6 : w84.cell? ⟨gb527, 6, none⟩ = some (.int .i64 a0_6) := (blk_cell BK527.out 6).trans rfl; have hcz85_7 : w84.cell? ⟨gb527, 7, none⟩ = some (.int .i64 a0_7) := (blk_cell BK527.out 7).trans rfl; have hcz85_8 : w84.cell? ⟨gb527, 8, none⟩ = some (.int .i64 a0_8) := (blk_cell BK527.out 8).trans rfl; have hcz85_9 : w84.cell? ⟨gb527, 9, none⟩ = some (.int .i64 a0_9) := (blk_cell BK527.out 9).trans rfl; have hcz85_10 : w84.cell? ⟨gb527, 10, none⟩ = some (.int .i64 a0_10) := (blk_cell BK527.out 10).trans rfl; have hcz85_11 : w84.cell? ⟨gb527, 11, none⟩ = some (.slice A0_11 l0_11.length c0_11) := (blk_cell BK527.out 11).trans rfl; have hcz85_12 : w84.cell? ⟨gb527, 12, none⟩ = some (.int .i64 a0_12) := (blk_cell BK527.out 12).trans rfl; have hfz85_0 := blk_frozen BK527.out 0; have hfz85_1 := blk_frozen BK527.out 1; have hfz85_2 := blk_frozen BK527.out 2; have hfz85_3 := blk_frozen BK527.out 3; have hfz85_4 := blk_frozen BK527.out 4; have hfz85_5 := blk_frozen BK527.out 5; have hfz85_6 := blk_frozen BK527.out 6; have hfz85_7 := blk_frozen BK527.out 7; have hfz85_8 := blk_frozen BK527.out 8; have hfz85_9 := blk_frozen BK527.out 9; have hfz85_10 := blk_frozen BK527.out 10; have hfz85_11 := blk_frozen BK527.out 11; have hfz85_12 := blk_frozen BK527.out 12) | (go_at_call 15; (with_reducible refine (flywheelref28_Good.calls a0_0 a0_1 a0_2 a0_3 a0_4 a0_5 a0_6 a0_7 a0_8 a0_9 a0_10 _ _ l0_11 a0_12 false _ ?side1 ?side2 A74.out).mono ?_); (case side1 => repeat (first | exact (Kd.C_below HR0_11.out HB.out) | (with_reducible refine Kd.C_alloc ?_ _) | (with_reducible refine Kd.C_drewN ?_ _) | (with_reducible refine Kd.C_drew ?_))); (case side2 => exact HC0_11.out); rintro e w86 ⟨rfl, hb⟩; have n0_ := Aside0.mk (blk_below (g := gb527) (o := .cells #[.int .i64 a0_0, .int .i64 a0_1, .int .i64 a0_2, .int .i64 a0_3, .int .i64 a0_4, .int .i64 a0_5, .int .i64 a0_6, .int .i64 a0_7, .int .i64 a0_8, .int .i64 a0_9, .int .i64 a0_10, .slice A0_11 l0_11.length c0_11, .int .i64 a0_12] 27 (0, 0)) (by (with_reducible repeat (first | refine blk_drewN ?_ _ | refine blk_drew ?_ | refine blk_alloc ?_ _)); exact BK527.out) hb); have n1_ := Aside0.mk (below_step (by repeat (first | (with_reducible first | exact HB.out | apply below_alloc | apply pw_below_drewN | apply below_drew1 | refine below_set ?_ GE527.out) | exact HB.out)) hb); clear BK527; clear HB; have BK527 := n0_; have HB := n1_; clear n0_ n1_; (try clear hb); (try clear hb2); (try clear hk); (try clear hi)) | (go_at_call 14; (with_reducible refine (flywheellaw28_wakes.calls  t650 _ A81.out).mono ?_); rintro e w87 ⟨rfl, hb⟩; have n0_ := Aside0.mk (blk_below (g := gb527) (o := .cells #[.int .i64 a0_0, .int .i64 a0_1, .int .i64 a0_2, .int .i64 a0_3, .int .i64 a0_4, .int .i64 a0_5, .int .i64 a0_6, .int .i64 a0_7, .int .i64 a0_8, .int .i64 a0_9, .int .i64 a0_10, .slice A0_11 l0_11.length c0_11, .int .i64 a0_12] 27 (0, 0)) (by (with_reducible repeat (first | refine blk_drewN ?_ _ | refine blk_drew ?_ | refine blk_alloc ?_ _)); exact BK527.out) hb); have n1_ := Aside0.mk (below_step (by repeat (first | (with_reducible first | exact HB.out | apply below_alloc | apply pw_below_drewN | apply below_drew1 | refine below_set ?_ GE527.out) | exact HB.out)) hb); clear BK527; clear HB; have BK527 := n0_; have HB := n1_; clear n0_ n1_; (try clear hb); (try clear hb2); (try clear hk); (try clear hi)))
     go_ret
     exact ⟨by first | rfl | (simp [errW_none, errW_some] <;> rfl) | (simp [*, errW_none, errW_some] <;> rfl), by repeat (first | (with_reducible first | exact HB.out | apply below_alloc | apply pw_below_drewN | apply below_drew1 | refine below_set ?_ GE527.out) | exact HB.out)⟩
   ·rw [if_neg c73] at H
    have c73b0 : (t648 == 290) = false := beq_eq_false_iff_ne.mpr c73
    have c73b1 : (t648 != 290) = true := bne_iff_ne.mpr c73
    obtain rfl := Option.some.inj H
    go_enter Try.func6, Try.ntmps6
    go_wp2_with (first | ((with_reducible refine gate_dst (N := 2) rfl ?_); refine box_event ?hg (N := 2) ?hd (cs := #[.int .i64 a0_0, .int .i64 a0_1, .int .i64 a0_2, .int .i64 a0_3, .int .i64 a0_4, .int .i64 a0_5, .int .i64 a0_6, .int .i64 a0_7, .int .i64 a0_8, .int .i64 a0_9, .int .i64 a0_10, .slice A0_11 l0_11.length c0_11, .int .i64 a0_12]) (t := 27) ?hr ?_; (case hd => rfl); (case hg => rfl); (case hr => first | (go_simp; done) | (go_simp; rfl)); intro gb527 hg w88 hbox hb; have n0_ := Aside0.mk (below_step (by repeat (first | (with_reducible first | exact HB.out | apply below_alloc | apply pw_below_drewN | apply below_drew1) | exact HB.out)) hb); have n1_ := Aside0.mk (hbox); have n2_ := Aside0.mk ((by rw [hg]; exact (below_size (by repeat (first | (with_reducible first | exact HB.out | apply below_alloc | apply pw_below_drewN | apply below_drew1) | exact HB.out))) : w.heap.size ≤ gb527)); have n3_ := Aside0.mk ((by rw [hg]; exact (below_size (by repeat (first | (with_reducible first | exact HB.out | apply below_alloc | apply pw_below_drewN | apply below_drew1) | exact HB.out))) : w.heap.size ≤ gb527)); clear HB; have HB := n0_; have BK527 := n1_; have GW527 := n2_; have GE527 := n3_; clear n0_ n1_ n2_ n3_; clear hb hbox hg; have hcz89_0 : w88.cell? ⟨gb527, 0, none⟩ = some (.int .i64 a0_0) := (blk_cell BK527.out 0).trans rfl; have hcz89_1 : w88.cell? ⟨gb527, 1, none⟩ = some (.int .i64 a0_1) := (blk_cell BK527.out 1).trans rfl; have hcz89_2 : w88.cell? ⟨gb527, 2, none⟩ = some (.int .i64 a0_2) := (blk_cell BK527.out 2).trans rfl; have hcz89_3 : w88.cell? ⟨gb527, 3, none⟩ = some (.int .i64 a0_3) := (blk_cell BK527.out 3).trans rfl; have hcz89_4 : w88.cell? ⟨gb527, 4, none⟩ = some (.int .i64 a0_4) := (blk_cell BK527.out 4).trans rfl; have hcz89_5 : w88.cell? ⟨gb527, 5, none⟩ = some (.int .i64 a0_5) := (blk_cell BK527.out 5).trans rfl; have hcz89_6 : w88.cell? ⟨gb527, 6, none⟩ = some (.int .i64 a0_6) := (blk_cell BK527.out 6).trans rfl; have hcz89_7 : w88.cell? ⟨gb527, 7, none⟩ = some (.int .i64 a0_7) := (blk_cell BK527.out 7).trans rfl; have hcz89_8 : w88.cell? ⟨gb527, 8, none⟩ = some (.int .i64 a0_8) := (blk_cell BK527.out 8).trans rfl; have hcz89_9 : w88.cell? ⟨gb527, 9, none⟩ = some (.int .i64 a0_9) := (blk_cell BK527.out 9).trans rfl; have hcz89_10 : w88.cell? ⟨gb527, 10, none⟩ = some (.int .i64 a0_10) := (blk_cell BK527.out 10).trans rfl; have hcz89_11 : w88.cell? ⟨gb527, 11, none⟩ = some (.slice A0_11 l0_11.length c0_11) := (blk_cell BK527.out 11).trans rfl; have hcz89_12 : w88.cell? ⟨gb527, 12, none⟩ = some (.int .i64 a0_12) := (blk_cell BK527.out 12).trans rfl; have hfz89_0 := blk_frozen BK527.out 0; have hfz89_1 := blk_frozen BK527.out 1; have hfz89_2 := blk_frozen BK527.out 2; have hfz89_3 := blk_frozen BK527.out 3; have hfz89_4 := blk_frozen BK527.out 4; have hfz89_5 := blk_frozen BK527.out 5; have hfz89_6 := blk_frozen BK527.out 6; have hfz89_7 := blk_frozen BK527.out 7; have hfz89_8 := blk_frozen BK527.out 8; have hfz89_9 := blk_frozen BK527.out 9; have hfz89_10 := blk_frozen BK527.out 10; have hfz89_11 := blk_frozen BK527.out 11; have hfz89_12 := blk_frozen BK527.out 12) | ((with_reducible refine gate_callee (f := 10) rfl ?_); refine goesL_ (some 11) rfl rfl Try.func10 (by kernel_rfl) rfl #[.agg #[.int .i64 a0_0, .int .i64 a0_1, .int .i64 a0_2, .int .i64 a0_3, .int .i64 a0_4, .int .i64 a0_5, .int .i64 a0_6, .int .i64 a0_7, .int .i64 a0_8, .int .i64 a0_9, .int .i64 a0_10, .slice A0_11 l0_11.length c0_11, .int .i64 a0_12]] rfl (by (try simp only [List.map_toArray, List.map_cons, List.map_nil]); first | done | rfl | (simp only [List.length_drop, List.length_take]; rfl)) ?_; (with_reducible refine (guard_New.nil.calls a0_0 a0_1 a0_2 a0_3 a0_4 a0_5 a0_6 a0_7 a0_8 a0_9 a0_10 _ _ l0_11 a0_12 t648 _ ?side1 ?side2 A60.out).mono ?_); (case side1 => repeat (first | exact (Kd.C_below HR0_11.out HB.out) | (with_reducible refine Kd.C_alloc ?_ _) | (with_reducible refine Kd.C_drewN ?_ _) | (with_reducible refine Kd.C_drew ?_))); (case side2 => exact HC0_11.out); rintro e w90 ⟨rfl, hb⟩; refine ⟨_, rfl, ?_⟩; have n0_ := Aside0.mk (blk_below (g := gb527) (o := .cells #[.int .i64 a0_0, .int .i64 a0_1, .int .i64 a0_2, .int .i64 a0_3, .int .i64 a0_4, .int .i64 a0_5, .int .i64 a0_6, .int .i64 a0_7, .int .i64 a0_8, .int .i64 a0_9, .int .i64 a0_10, .slice A0_11 l0_11.length c0_11, .int .i64 a0_12] 27 (0, 0)) (by (with_reducible repeat (first | refine blk_drewN ?_ _ | refine blk_drew ?_ | refine blk_alloc ?_ _)); exact BK527.out) hb); have n1_ := Aside0.mk (below_step (by repeat (first | (with_reducible first | exact HB.out | apply below_alloc | apply pw_below_drewN | apply below_drew1 | refine below_set ?_ GE527.out) | exact HB.out)) hb); clear BK527; clear HB; have BK527 := n0_; have HB := n1_; clear n0_ n1_; (try clear hb); (try clear hb2); (try clear hk); (try clear hi)))
    go_ret
    exact ⟨by first | rfl | (simp [errW_none, errW_some] <;> rfl) | (simp [*, errW_none, errW_some] <;> rfl), by repeat (first | (with_reducible first | exact HB.out | apply below_alloc | apply pw_below_drewN | apply below_drew1 | refine below_set ?_ GE527.out) | exact HB.out)⟩
def flywheellaw28_GuardBounds.Pure : Prop := ∀ (a0_0 : Int) (a0_1 : Int) (a0_2 : Int) (a0_3 : Int) (a0_4 : Int) (a0_5 : Int) (a0_6 : Int) (a0_7 : Int) (a0_8 : Int) (a0_9 : Int) (a0_10 : Int) (l0_11 : List (S85)) (a0_12 : Int) (l1 : List (S24)), (Lit.int .i64 a0_0).wf = true → (Lit.int .i64 a0_1).wf = true → (Lit.int .i64 a0_2).wf = true → (Lit.int .i64 a0_3).wf = true → (Lit.int .i64 a0_4).wf = true → (Lit.int .i64 a0_5).wf = true → (Lit.int .i64 a0_6).wf = true → (Lit.int .i64 a0_7).wf = true → (Lit.int .i64 a0_8).wf = true → (Lit.int .i64 a0_9).wf = true → (Lit.int .i64 a0_10).wf = true → l0_11.length ≤ maxLen → (∀ x ∈ l0_11, (Lit.int .i64 x.f0).wf = true ∧ (Lit.int .i64 x.f1).wf = true ∧ (Lit.int .i64 x.f2).wf = true) → (Lit.int .i64 a0_12).wf = true → l1.length ≤ maxLen → l1.length * 48 ≤ 140737488351232 → (∀ x ∈ l1, (Lit.int .i64 x.f0).wf = true ∧ (Lit.int .i64 x.f1).wf = true ∧ (Lit.int .i64 x.f2).wf = true ∧ (Lit.int .i64 x.f3).wf = true ∧ (Lit.int .i64 x.f4).wf = true) → ∃ k, flywheellaw28_GuardBounds.f k a0_0 a0_1 a0_2 a0_3 a0_4 a0_5 a0_6 a0_7 a0_8 a0_9 a0_10 l0_11 a0_12 l1 = some true
theorem flywheellaw28_GuardBounds.walk (P : flywheellaw28_GuardBounds.Pure) (a0_0 : Int) (a0_1 : Int) (a0_2 : Int) (a0_3 : Int) (a0_4 : Int) (a0_5 : Int) (a0_6 : Int) (a0_7 : Int) (a0_8 : Int) (a0_9 : Int) (a0_10 : Int) (A0_11 : Option Addr) (c0_11 : Nat) (l0_11 : List (S85)) (a0_12 : Int) (A1 : Option Addr) (c1 : Nat) (l1 : List (S24)) (w : World) (w0_0 : (Lit.int .i64 a0_0).wf = true) (w0_1 : (Lit.int .i64 a0_1).wf = true) (w0_2 : (Lit.int .i64 a0_2).wf = true) (w0_3 : (Lit.int .i64 a0_3).wf = true) (w0_4 : (Lit.int .i64 a0_4).wf = true) (w0_5 : (Lit.int .i64 a0_5).wf = true) (w0_6 : (Lit.int .i64 a0_6).wf = true) (w0_7 : (Lit.int .i64 a0_7).wf = true) (w0_8 : (Lit.int .i64 a0_8).wf = true) (w0_9 : (Lit.int .i64 a0_9).wf = true) (w0_10 : (Lit.int .i64 a0_10).wf = true) (hm0_11 : l0_11.length ≤ maxLen) (hw0_11 : (∀ x ∈ l0_11, (Lit.int .i64 x.f0).wf = true ∧ (Lit.int .i64 x.f1).wf = true ∧ (Lit.int .i64 x.f2).wf = true)) (w0_12 : (Lit.int .i64 a0_12).wf = true) (hm1 : l1.length ≤ maxLen) (y1 : l1.length * 48 ≤ 140737488351232) (hw1 : (∀ x ∈ l1, (Lit.int .i64 x.f0).wf = true ∧ (Lit.int .i64 x.f1).wf = true ∧ (Lit.int .i64 x.f2).wf = true ∧ (Lit.int .i64 x.f3).wf = true ∧ (Lit.int .i64 x.f4).wf = true)) (hr0_11 : Kd.C k85 w A0_11 l0_11.length l0_11) (hc0_11 : l0_11.length ≤ c0_11) (hr1 : Kd.C k24 w A1 l1.length l1) (hc1 : l1.length ≤ c1) :
  Calls Try.prog 6 #[.agg #[.int .i64 a0_0, .int .i64 a0_1, .int .i64 a0_2, .int .i64 a0_3, .int .i64 a0_4, .int .i64 a0_5, .int .i64 a0_6, .int .i64 a0_7, .int .i64 a0_8, .int .i64 a0_9, .int .i64 a0_10, .slice A0_11 l0_11.length c0_11, .int .i64 a0_12], .slice A1 l1.length c1] w fun e w' => e = .returned (.bool true) ∧ Below w.heap.size w w' := by
 obtain ⟨k, h⟩ := P a0_0 a0_1 a0_2 a0_3 a0_4 a0_5 a0_6 a0_7 a0_8 a0_9 a0_10 l0_11 a0_12 l1 w0_0 w0_1 w0_2 w0_3 w0_4 w0_5 w0_6 w0_7 w0_8 w0_9 w0_10 hm0_11 hw0_11 w0_12 hm1 y1 hw1
 refine (flywheellaw28_GuardBounds.calls k a0_0 a0_1 a0_2 a0_3 a0_4 a0_5 a0_6 a0_7 a0_8 a0_9 a0_10 A0_11 c0_11 l0_11 a0_12 A1 c1 l1 true w hr0_11 hc0_11 hr1 hc1 h).mono ?_
 rintro e w' ⟨rfl, hd⟩
 exact ⟨rfl, hd⟩
end Go.Proofs.Ytkfkbebpcmmnfaa.P
end

section
namespace Go.Proofs.Ytkfkbebpcmmnfaa.P
open Go.RowKit Go.Proofs.YtkfkbebpcmmnfaaW.PrintWords Go.Proofs.YtkfkbebpcmmnfaaW.PrintLast Go.Proofs.YtkfkbebpcmmnfaaW.PrintMore
attribute [local go_sem] max2_int min2_int max_two min_two max_three min_three max_four min_four   -- for this text's walks alone
set_option linter.unusedVariables false
set_option linter.unusedSimpArgs false
end Go.Proofs.Ytkfkbebpcmmnfaa.P
end

section
namespace Go.Proofs.Ytkfkbebpcmmnfaa.P
open Go.RowKit
set_option linter.unusedVariables false
set_option linter.unusedSimpArgs false
theorem clamp_eq (a lo hi : Int) : sat_Clamp.f a lo hi = some (if a < lo then lo else if a > hi then hi else a) := by
  unfold sat_Clamp.f
  split
  · rfl
  · split <;> rfl
end Go.Proofs.Ytkfkbebpcmmnfaa.P
end

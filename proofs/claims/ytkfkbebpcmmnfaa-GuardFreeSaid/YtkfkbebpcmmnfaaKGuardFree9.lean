-- PUT TOGETHER by a program of this session: of the claim's texts, what is used
import Derived.Test.YtkfkbebpcmmnfaaKGuardFree7
import Derived.Test.YtkfkbebpcmmnfaaKGuardFree8
section
namespace Go.Proofs.Ytkfkbebpcmmnfaa.P
open Go.RowKit Go.Proofs.YtkfkbebpcmmnfaaW.PrintWords Go.Proofs.YtkfkbebpcmmnfaaW.PrintLast Go.Proofs.YtkfkbebpcmmnfaaW.PrintMore
attribute [local go_sem] max2_int min2_int max_two min_two max_three min_three max_four min_four   -- for this text's walks alone
set_option linter.unusedVariables false
set_option linter.unusedSimpArgs false
mutual
def flywheellaw28_GuardFree.j0 : Nat → List (S24) → Int → Bool → Int → Int → Int → Int → Int → Int → Int → Int → Int → Int → Int → List (S85) → Int → Int → Int → Int → Int → Int → Bool → Int → Int → Int → Int → Int → Int → Int → Int → Int → Int → Int → List (S85) → Int → Int → Int → Int → Bool → Bool → Option (Bool)
 | 0, _, _, _, _, _, _, _, _, _, _, _, _, _, _, _, _, _, _, _, _, _, _, _, _, _, _, _, _, _, _, _, _, _, _, _, _, _, _, _, _ => none
 | k + 1, x1, x8, x24, x415000, x415001, x415002, x415003, x415004, x415005, x415006, x415007, x415008, x415009, x415010, x415011, x415012, x416000, x416001, x416002, x416003, x416004, x416005, x435000, x435001, x435002, x435003, x435004, x435005, x435006, x435007, x435008, x435009, x435010, x435011, x435012, x435013, x435014, x435015, x435016, x435017 => if x24 = true then (if x8 = 0 then ((flywheellaw28_wakes.f).bind fun t436 => (some t436)) else (some false)) else (flywheellaw28_GuardFree.l0 k x1 0 x415000 x415001 x415002 x415003 x415004 x415005 x415006 x415007 x415008 x415009 x415010 x415011 x415012 x416000 x416001 x416002 x416003 x416004 x416005 x435000 x435001 x435002 x435003 x435004 x435005 x435006 x435007 x435008 x435009 x435010 x435011 x435012 x435013 x435014 x435015 x435016 x435017)
def flywheellaw28_GuardFree.j2 : Nat → Int → Int → Int → Int → Int → Int → Int → Int → Int → Int → Int → List (S85) → Int → Int → Int → Int → Int → Int → Bool → Int → Int → Int → Int → Int → Int → Int → Int → Int → Int → Int → List (S85) → Int → Int → Int → Int → Bool → Bool → Option (Bool)
 | 0, _, _, _, _, _, _, _, _, _, _, _, _, _, _, _, _, _, _, _, _, _, _, _, _, _, _, _, _, _, _, _, _, _, _, _, _, _ => none
 | k + 1, x415000, x415001, x415002, x415003, x415004, x415005, x415006, x415007, x415008, x415009, x415010, x415011, x415012, x416000, x416001, x416002, x416003, x416004, x416005, x435000, x435001, x435002, x435003, x435004, x435005, x435006, x435007, x435008, x435009, x435010, x435011, x435012, x435013, x435014, x435015, x435016, x435017 => (guard_Guard_Hear.f x435000 x435001 x435002 x435003 x435004 x435005 x435006 x435007 x435008 x435009 x435010 x435011 x435012 x435013 x435014 x435015 x435016 x435017 x416001 (wrap64 (x415005 + 1)) x416003 false x416004).bind fun bt460 => (if bt460.1 = (mx x415001 (mn x416001 x415002)) then ((guard_Guard_Brakes.f bt460.2.1 bt460.2.2.1 bt460.2.2.2.1 bt460.2.2.2.2.1 bt460.2.2.2.2.2.1 bt460.2.2.2.2.2.2.1 bt460.2.2.2.2.2.2.2.1 bt460.2.2.2.2.2.2.2.2.1 bt460.2.2.2.2.2.2.2.2.2.1 bt460.2.2.2.2.2.2.2.2.2.2.1 bt460.2.2.2.2.2.2.2.2.2.2.2.1 x435011 bt460.2.2.2.2.2.2.2.2.2.2.2.2.1 bt460.2.2.2.2.2.2.2.2.2.2.2.2.2.1 bt460.2.2.2.2.2.2.2.2.2.2.2.2.2.2.1 bt460.2.2.2.2.2.2.2.2.2.2.2.2.2.2.2.1 bt460.2.2.2.2.2.2.2.2.2.2.2.2.2.2.2.2.1 bt460.2.2.2.2.2.2.2.2.2.2.2.2.2.2.2.2.2).bind fun bt478 => (if bt478.1 = true then (some false) else ((guard_Guard_Hear.f bt478.2.1 bt478.2.2.1 bt478.2.2.2.1 bt478.2.2.2.2.1 bt478.2.2.2.2.2.1 bt478.2.2.2.2.2.2.1 bt478.2.2.2.2.2.2.2.1 bt478.2.2.2.2.2.2.2.2.1 bt478.2.2.2.2.2.2.2.2.2.1 bt478.2.2.2.2.2.2.2.2.2.2.1 bt478.2.2.2.2.2.2.2.2.2.2.2.1 x435011 bt478.2.2.2.2.2.2.2.2.2.2.2.2.1 bt478.2.2.2.2.2.2.2.2.2.2.2.2.2.1 bt478.2.2.2.2.2.2.2.2.2.2.2.2.2.2.1 bt478.2.2.2.2.2.2.2.2.2.2.2.2.2.2.2.1 bt478.2.2.2.2.2.2.2.2.2.2.2.2.2.2.2.2.1 bt478.2.2.2.2.2.2.2.2.2.2.2.2.2.2.2.2.2 x416001 x415004 x416003 false x416004).bind fun bt496 => (if bt496.1 = (mx x415001 (mn x416001 x415002)) then ((flywheellaw28_wakes.f).bind fun t514 => (some t514)) else (some false))))) else (some false))
def flywheellaw28_GuardFree.l0 : Nat → List (S24) → Int → Int → Int → Int → Int → Int → Int → Int → Int → Int → Int → Int → List (S85) → Int → Int → Int → Int → Int → Int → Bool → Int → Int → Int → Int → Int → Int → Int → Int → Int → Int → Int → List (S85) → Int → Int → Int → Int → Bool → Bool → Option (Bool)
 | 0, _, _, _, _, _, _, _, _, _, _, _, _, _, _, _, _, _, _, _, _, _, _, _, _, _, _, _, _, _, _, _, _, _, _, _, _, _, _, _ => none
 | k + 1, x1, x9, x415000, x415001, x415002, x415003, x415004, x415005, x415006, x415007, x415008, x415009, x415010, x415011, x415012, x416000, x416001, x416002, x416003, x416004, x416005, x435000, x435001, x435002, x435003, x435004, x435005, x435006, x435007, x435008, x435009, x435010, x435011, x435012, x435013, x435014, x435015, x435016, x435017 => if x9 < (x1.length : Int) then (if x9 < 100 then (if 0 ≤ x9 then ((guard_Guard_Hear.f x435000 x435001 x435002 x435003 x435004 x435005 x435006 x435007 x435008 x435009 x435010 x435011 x435012 x435013 x435014 x435015 x435016 x435017 ((rd_T24 x1 x9).f1) ((rd_T24 x1 x9).f2) ((rd_T24 x1 x9).f3) ((rd_T24 x1 x9).f5) ((rd_T24 x1 x9).f4)).bind fun bt442 => (flywheellaw28_GuardFree.l0 k x1 (wrap64 (x9 + 1)) x415000 x415001 x415002 x415003 x415004 x415005 x415006 x415007 x415008 x415009 x415010 x415011 x415012 x416000 x416001 x416002 x416003 x416004 x416005 bt442.2.1 bt442.2.2.1 bt442.2.2.2.1 bt442.2.2.2.2.1 bt442.2.2.2.2.2.1 bt442.2.2.2.2.2.2.1 bt442.2.2.2.2.2.2.2.1 bt442.2.2.2.2.2.2.2.2.1 bt442.2.2.2.2.2.2.2.2.2.1 bt442.2.2.2.2.2.2.2.2.2.2.1 bt442.2.2.2.2.2.2.2.2.2.2.2.1 x435011 bt442.2.2.2.2.2.2.2.2.2.2.2.2.1 bt442.2.2.2.2.2.2.2.2.2.2.2.2.2.1 bt442.2.2.2.2.2.2.2.2.2.2.2.2.2.2.1 bt442.2.2.2.2.2.2.2.2.2.2.2.2.2.2.2.1 bt442.2.2.2.2.2.2.2.2.2.2.2.2.2.2.2.2.1 bt442.2.2.2.2.2.2.2.2.2.2.2.2.2.2.2.2.2)) else (none)) else (flywheellaw28_GuardFree.j2 k x415000 x415001 x415002 x415003 x415004 x415005 x415006 x415007 x415008 x415009 x415010 x415011 x415012 x416000 x416001 x416002 x416003 x416004 x416005 x435000 x435001 x435002 x435003 x435004 x435005 x435006 x435007 x435008 x435009 x435010 x435011 x435012 x435013 x435014 x435015 x435016 x435017)) else (flywheellaw28_GuardFree.j2 k x415000 x415001 x415002 x415003 x415004 x415005 x415006 x415007 x415008 x415009 x415010 x415011 x415012 x416000 x416001 x416002 x416003 x416004 x416005 x435000 x435001 x435002 x435003 x435004 x435005 x435006 x435007 x435008 x435009 x435010 x435011 x435012 x435013 x435014 x435015 x435016 x435017)
def flywheellaw28_GuardFree.j3 : Nat → List (S24) → Int → Bool → Int → Int → Int → Int → Int → Int → Int → Int → Int → Int → Int → List (S85) → Int → Int → Int → Int → Int → Int → Bool → Option (Bool)
 | 0, _, _, _, _, _, _, _, _, _, _, _, _, _, _, _, _, _, _, _, _, _, _ => none
 | k + 1, x1, x8, x24, x415000, x415001, x415002, x415003, x415004, x415005, x415006, x415007, x415008, x415009, x415010, x415011, x415012, x416000, x416001, x416002, x416003, x416004, x416005 => if x24 = true then (if x8 = 0 then ((flywheellaw28_wakes.f).bind fun t516 => (some t516)) else ((flywheellaw28_wakes.f).bind fun t517 => (some t517))) else (flywheellaw28_GuardFree.l5000 k x1 0 x415000 x415001 x415002 x415003 x415004 x415005 x415006 x415007 x415008 x415009 x415010 x415011 x415012 x416000 x416001 x416002 x416003 x416004 x416005)
def flywheellaw28_GuardFree.j5 : Nat → Int → Int → Int → Int → Int → Int → Int → Int → Int → Int → Int → List (S85) → Int → Int → Int → Int → Int → Int → Bool → Option (Bool)
 | 0, _, _, _, _, _, _, _, _, _, _, _, _, _, _, _, _, _, _, _ => none
 | k + 1, x415000, x415001, x415002, x415003, x415004, x415005, x415006, x415007, x415008, x415009, x415010, x415011, x415012, x416000, x416001, x416002, x416003, x416004, x416005 => (guard_Guard_Hear.nilrecv.f x416001 (wrap64 (x415005 + 1)) x416003 false x416004).bind fun t523 => (if t523 = (mx x415001 (mn x416001 x415002)) then ((guard_Guard_Brakes.nilrecv.f).bind fun t524 => (if t524 = true then (some false) else ((guard_Guard_Hear.nilrecv.f x416001 x415004 x416003 false x416004).bind fun t525 => (if t525 = (mx x415001 (mn x416001 x415002)) then ((flywheellaw28_wakes.f).bind fun t526 => (some t526)) else (some false))))) else (some false))
def flywheellaw28_GuardFree.l5000 : Nat → List (S24) → Int → Int → Int → Int → Int → Int → Int → Int → Int → Int → Int → Int → List (S85) → Int → Int → Int → Int → Int → Int → Bool → Option (Bool)
 | 0, _, _, _, _, _, _, _, _, _, _, _, _, _, _, _, _, _, _, _, _, _ => none
 | k + 1, x1, x9, x415000, x415001, x415002, x415003, x415004, x415005, x415006, x415007, x415008, x415009, x415010, x415011, x415012, x416000, x416001, x416002, x416003, x416004, x416005 => if x9 < (x1.length : Int) then (if x9 < 100 then (if 0 ≤ x9 then (none) else (none)) else (flywheellaw28_GuardFree.j5 k x415000 x415001 x415002 x415003 x415004 x415005 x415006 x415007 x415008 x415009 x415010 x415011 x415012 x416000 x416001 x416002 x416003 x416004 x416005)) else (flywheellaw28_GuardFree.j5 k x415000 x415001 x415002 x415003 x415004 x415005 x415006 x415007 x415008 x415009 x415010 x415011 x415012 x416000 x416001 x416002 x416003 x416004 x416005)
end
def flywheellaw28_GuardFree.f (k : Nat) (a0_0 : Int) (a0_1 : Int) (a0_2 : Int) (a0_3 : Int) (a0_4 : Int) (a0_5 : Int) (a0_6 : Int) (a0_7 : Int) (a0_8 : Int) (a0_9 : Int) (a0_10 : Int) (l0_11 : List (S85)) (a0_12 : Int) (l1 : List (S24)) (a2_0 : Int) (a2_1 : Int) (a2_2 : Int) (a2_3 : Int) (a2_4 : Int) (a2_5 : Bool) : Option (Bool) := if (guard_New.made.f a0_0 a0_1 a0_2 a0_3 a0_4 a0_5 a0_6 a0_7 a0_8 a0_9 a0_10 l0_11 a0_12).isSome = true then ((guard_New.made.f a0_0 a0_1 a0_2 a0_3 a0_4 a0_5 a0_6 a0_7 a0_8 a0_9 a0_10 l0_11 a0_12).bind fun bt416 => (if bt416.2.2.2.2.2.2.2.2.2.2.2.2.2.2.2.2.2.2 = 0 then (flywheellaw28_GuardFree.j0 k l1 bt416.2.2.2.2.2.2.2.2.2.2.2.2.2.2.2.2.2.2 (decide (a0_5 ≥ a0_4)) a0_0 a0_1 a0_2 a0_3 a0_4 a0_5 a0_6 a0_7 a0_8 a0_9 a0_10 l0_11 a0_12 a2_0 a2_1 a2_2 a2_3 a2_4 a2_5 bt416.1 bt416.2.1 bt416.2.2.1 bt416.2.2.2.1 bt416.2.2.2.2.1 bt416.2.2.2.2.2.1 bt416.2.2.2.2.2.2.1 bt416.2.2.2.2.2.2.2.1 bt416.2.2.2.2.2.2.2.2.1 bt416.2.2.2.2.2.2.2.2.2.1 bt416.2.2.2.2.2.2.2.2.2.2.1 bt416.2.2.2.2.2.2.2.2.2.2.2.1 bt416.2.2.2.2.2.2.2.2.2.2.2.2.1 bt416.2.2.2.2.2.2.2.2.2.2.2.2.2.1 bt416.2.2.2.2.2.2.2.2.2.2.2.2.2.2.1 bt416.2.2.2.2.2.2.2.2.2.2.2.2.2.2.2.1 bt416.2.2.2.2.2.2.2.2.2.2.2.2.2.2.2.2.1 bt416.2.2.2.2.2.2.2.2.2.2.2.2.2.2.2.2.2.1) else (flywheellaw28_GuardFree.j0 k l1 bt416.2.2.2.2.2.2.2.2.2.2.2.2.2.2.2.2.2.2 true a0_0 a0_1 a0_2 a0_3 a0_4 a0_5 a0_6 a0_7 a0_8 a0_9 a0_10 l0_11 a0_12 a2_0 a2_1 a2_2 a2_3 a2_4 a2_5 bt416.1 bt416.2.1 bt416.2.2.1 bt416.2.2.2.1 bt416.2.2.2.2.1 bt416.2.2.2.2.2.1 bt416.2.2.2.2.2.2.1 bt416.2.2.2.2.2.2.2.1 bt416.2.2.2.2.2.2.2.2.1 bt416.2.2.2.2.2.2.2.2.2.1 bt416.2.2.2.2.2.2.2.2.2.2.1 bt416.2.2.2.2.2.2.2.2.2.2.2.1 bt416.2.2.2.2.2.2.2.2.2.2.2.2.1 bt416.2.2.2.2.2.2.2.2.2.2.2.2.2.1 bt416.2.2.2.2.2.2.2.2.2.2.2.2.2.2.1 bt416.2.2.2.2.2.2.2.2.2.2.2.2.2.2.2.1 bt416.2.2.2.2.2.2.2.2.2.2.2.2.2.2.2.2.1 bt416.2.2.2.2.2.2.2.2.2.2.2.2.2.2.2.2.2.1))) else ((guard_New.nil.f a0_0 a0_1 a0_2 a0_3 a0_4 a0_5 a0_6 a0_7 a0_8 a0_9 a0_10 l0_11 a0_12).bind fun t515 => (if t515 = 0 then (flywheellaw28_GuardFree.j3 k l1 t515 (decide (a0_5 ≥ a0_4)) a0_0 a0_1 a0_2 a0_3 a0_4 a0_5 a0_6 a0_7 a0_8 a0_9 a0_10 l0_11 a0_12 a2_0 a2_1 a2_2 a2_3 a2_4 a2_5) else (flywheellaw28_GuardFree.j3 k l1 t515 true a0_0 a0_1 a0_2 a0_3 a0_4 a0_5 a0_6 a0_7 a0_8 a0_9 a0_10 l0_11 a0_12 a2_0 a2_1 a2_2 a2_3 a2_4 a2_5)))
def flywheellaw28_GuardFree.T7 : Bool × List (List Nat × List Nat) := (true, [([], []), ([], []), ([], []), ([1, 2], [1, 2]), ([3], [3]), ([4], [4]), ([], []), ([], []), ([6, 7], [6, 7]), ([8], [8]), ([9], [9]), ([], []), ([], []), ([11, 12], [11, 12]), ([13], [13]), ([14], [14]), ([], []), ([], []), ([16, 17], [16, 17]), ([18], [18]), ([19], [19]), ([], []), ([], []), ([21, 22], [21, 22]), ([23], [23]), ([24], [24]), ([0, 5, 10, 15, 20, 25], [0, 5, 10, 15, 20, 25])])
def flywheellaw28_GuardFree.B7 : List Nat := [0, 0, 0, 6, 14, 30, 0, 0, 192, 448, 960, 0, 0, 6144, 14336, 30720, 0, 0, 196608, 458752, 983040, 0, 0, 6291456, 14680064, 31457280, 67108863]
theorem flywheellaw28_GuardFree.tab7 : rtab .any (opsOf Try.f5 7) = flywheellaw28_GuardFree.T7 := by kernel_rfl
theorem flywheellaw28_GuardFree.bits7 : waitsOk flywheellaw28_GuardFree.T7.2 flywheellaw28_GuardFree.B7 = true := by kernel_rfl
set_option maxHeartbeats 8000000 in
set_option maxRecDepth 100000 in
theorem flywheellaw28_GuardFree.calls (k : Nat) (a0_0 : Int) (a0_1 : Int) (a0_2 : Int) (a0_3 : Int) (a0_4 : Int) (a0_5 : Int) (a0_6 : Int) (a0_7 : Int) (a0_8 : Int) (a0_9 : Int) (a0_10 : Int) (A0_11 : Option Addr) (c0_11 : Nat) (l0_11 : List (S85)) (a0_12 : Int) (A1 : Option Addr) (c1 : Nat) (l1 : List (S24)) (a2_0 : Int) (a2_1 : Int) (a2_2 : Int) (a2_3 : Int) (a2_4 : Int) (a2_5 : Bool) (r : Bool) (w : World) (hr0_11 : Kd.C k85 w A0_11 l0_11.length l0_11) (hc0_11 : l0_11.length ≤ c0_11) (hr1 : Kd.C k24 w A1 l1.length l1) (hc1 : l1.length ≤ c1) (h : flywheellaw28_GuardFree.f k a0_0 a0_1 a0_2 a0_3 a0_4 a0_5 a0_6 a0_7 a0_8 a0_9 a0_10 l0_11 a0_12 l1 a2_0 a2_1 a2_2 a2_3 a2_4 a2_5 = some r) :
  Calls Try.prog 5 #[.agg #[.int .i64 a0_0, .int .i64 a0_1, .int .i64 a0_2, .int .i64 a0_3, .int .i64 a0_4, .int .i64 a0_5, .int .i64 a0_6, .int .i64 a0_7, .int .i64 a0_8, .int .i64 a0_9, .int .i64 a0_10, .slice A0_11 l0_11.length c0_11, .int .i64 a0_12], .slice A1 l1.length c1, .agg #[.int .i64 a2_0, .int .i64 a2_1, .int .i64 a2_2, .int .i64 a2_3, .int .i64 a2_4, .bool a2_5]] w fun e w' => e = .returned (.bool r) ∧ Below w.heap.size w w' := by
 have hu27 := Try.underlying27
 have hu24 := Try.underlying24
 have hpn29_eql : ∀ (a_ : Addr) (W_ : World), (Go.binOp .eql 29 (.pointer (some a_)) (.pointer none)).run Try.prog W_ = .ok (.bool false) W_ := fun _ _ => by kernel_rfl
 have hnn29_eql : ∀ (W_ : World), (Go.binOp .eql 29 (.pointer none) (.pointer none)).run Try.prog W_ = .ok (.bool true) W_ := fun _ => by kernel_rfl
 have HR0_11 := Aside0.mk hr0_11
 have HC0_11 := Aside0.mk hc0_11
 clear hr0_11 hc0_11
 have HR1 := Aside0.mk hr1
 have HC1 := Aside0.mk hc1
 clear hr1 hc1
 have HB := Aside0.mk (Below.refl w.heap.size w)
 have H : (if (guard_New.made.f a0_0 a0_1 a0_2 a0_3 a0_4 a0_5 a0_6 a0_7 a0_8 a0_9 a0_10 l0_11 a0_12).isSome = true then ((guard_New.made.f a0_0 a0_1 a0_2 a0_3 a0_4 a0_5 a0_6 a0_7 a0_8 a0_9 a0_10 l0_11 a0_12).bind fun bt416 => (if bt416.2.2.2.2.2.2.2.2.2.2.2.2.2.2.2.2.2.2 = 0 then (flywheellaw28_GuardFree.j0 k l1 bt416.2.2.2.2.2.2.2.2.2.2.2.2.2.2.2.2.2.2 (decide (a0_5 ≥ a0_4)) a0_0 a0_1 a0_2 a0_3 a0_4 a0_5 a0_6 a0_7 a0_8 a0_9 a0_10 l0_11 a0_12 a2_0 a2_1 a2_2 a2_3 a2_4 a2_5 bt416.1 bt416.2.1 bt416.2.2.1 bt416.2.2.2.1 bt416.2.2.2.2.1 bt416.2.2.2.2.2.1 bt416.2.2.2.2.2.2.1 bt416.2.2.2.2.2.2.2.1 bt416.2.2.2.2.2.2.2.2.1 bt416.2.2.2.2.2.2.2.2.2.1 bt416.2.2.2.2.2.2.2.2.2.2.1 bt416.2.2.2.2.2.2.2.2.2.2.2.1 bt416.2.2.2.2.2.2.2.2.2.2.2.2.1 bt416.2.2.2.2.2.2.2.2.2.2.2.2.2.1 bt416.2.2.2.2.2.2.2.2.2.2.2.2.2.2.1 bt416.2.2.2.2.2.2.2.2.2.2.2.2.2.2.2.1 bt416.2.2.2.2.2.2.2.2.2.2.2.2.2.2.2.2.1 bt416.2.2.2.2.2.2.2.2.2.2.2.2.2.2.2.2.2.1) else (flywheellaw28_GuardFree.j0 k l1 bt416.2.2.2.2.2.2.2.2.2.2.2.2.2.2.2.2.2.2 true a0_0 a0_1 a0_2 a0_3 a0_4 a0_5 a0_6 a0_7 a0_8 a0_9 a0_10 l0_11 a0_12 a2_0 a2_1 a2_2 a2_3 a2_4 a2_5 bt416.1 bt416.2.1 bt416.2.2.1 bt416.2.2.2.1 bt416.2.2.2.2.1 bt416.2.2.2.2.2.1 bt416.2.2.2.2.2.2.1 bt416.2.2.2.2.2.2.2.1 bt416.2.2.2.2.2.2.2.2.1 bt416.2.2.2.2.2.2.2.2.2.1 bt416.2.2.2.2.2.2.2.2.2.2.1 bt416.2.2.2.2.2.2.2.2.2.2.2.1 bt416.2.2.2.2.2.2.2.2.2.2.2.2.1 bt416.2.2.2.2.2.2.2.2.2.2.2.2.2.1 bt416.2.2.2.2.2.2.2.2.2.2.2.2.2.2.1 bt416.2.2.2.2.2.2.2.2.2.2.2.2.2.2.2.1 bt416.2.2.2.2.2.2.2.2.2.2.2.2.2.2.2.2.1 bt416.2.2.2.2.2.2.2.2.2.2.2.2.2.2.2.2.2.1))) else ((guard_New.nil.f a0_0 a0_1 a0_2 a0_3 a0_4 a0_5 a0_6 a0_7 a0_8 a0_9 a0_10 l0_11 a0_12).bind fun t515 => (if t515 = 0 then (flywheellaw28_GuardFree.j3 k l1 t515 (decide (a0_5 ≥ a0_4)) a0_0 a0_1 a0_2 a0_3 a0_4 a0_5 a0_6 a0_7 a0_8 a0_9 a0_10 l0_11 a0_12 a2_0 a2_1 a2_2 a2_3 a2_4 a2_5) else (flywheellaw28_GuardFree.j3 k l1 t515 true a0_0 a0_1 a0_2 a0_3 a0_4 a0_5 a0_6 a0_7 a0_8 a0_9 a0_10 l0_11 a0_12 a2_0 a2_1 a2_2 a2_3 a2_4 a2_5)))) = some r := h
 clear h
 by_cases c4 : (guard_New.made.f a0_0 a0_1 a0_2 a0_3 a0_4 a0_5 a0_6 a0_7 a0_8 a0_9 a0_10 l0_11 a0_12).isSome = true
 ·rw [if_pos c4] at H
  have c4b0 : (guard_New.made.f a0_0 a0_1 a0_2 a0_3 a0_4 a0_5 a0_6 a0_7 a0_8 a0_9 a0_10 l0_11 a0_12).isSome = true := c4
  clear c4
  replace H := Option.bind_eq_some_iff.mp H
  obtain ⟨⟨t416, t417, t418, t419, t420, t421, t422, t423, t424, t425, t426, t427, t428, t429, t430, t431, t432, t433, t435⟩, A50, H⟩ := H
  replace H : (if t435 = 0 then (flywheellaw28_GuardFree.j0 k l1 t435 (decide (a0_5 ≥ a0_4)) a0_0 a0_1 a0_2 a0_3 a0_4 a0_5 a0_6 a0_7 a0_8 a0_9 a0_10 l0_11 a0_12 a2_0 a2_1 a2_2 a2_3 a2_4 a2_5 t416 t417 t418 t419 t420 t421 t422 t423 t424 t425 t426 t427 t428 t429 t430 t431 t432 t433) else (flywheellaw28_GuardFree.j0 k l1 t435 true a0_0 a0_1 a0_2 a0_3 a0_4 a0_5 a0_6 a0_7 a0_8 a0_9 a0_10 l0_11 a0_12 a2_0 a2_1 a2_2 a2_3 a2_4 a2_5 t416 t417 t418 t419 t420 t421 t422 t423 t424 t425 t426 t427 t428 t429 t430 t431 t432 t433)) = some r := H
  have A5 := Aside0.mk A50
  clear A50
  have HC6 := Aside0.mk H
  clear H
  go_enter Try.func5, Try.ntmps5
  go_upto_region 2 with (first | ((with_reducible refine gate_dst (N := 3) rfl ?_); refine box_event ?hg (N := 3) ?hd (cs := #[.int .i64 a0_0, .int .i64 a0_1, .int .i64 a0_2, .int .i64 a0_3, .int .i64 a0_4, .int .i64 a0_5, .int .i64 a0_6, .int .i64 a0_7, .int .i64 a0_8, .int .i64 a0_9, .int .i64 a0_10, .slice A0_11 l0_11.length c0_11, .int .i64 a0_12]) (t := 27) ?hr ?_; (case hd => rfl); (case hg => rfl); (case hr => first | (go_simp; done) | (go_simp; rfl)); intro gb414 hg w7 hbox hb; have n0_ := Aside0.mk (below_step (by repeat (first | (with_reducible first | exact HB.out | apply below_alloc | apply pw_below_drewN | apply below_drew1) | exact HB.out)) hb); have n1_ := Aside0.mk (hbox); have n2_ := Aside0.mk ((by rw [hg]; exact (below_size (by repeat (first | (with_reducible first | exact HB.out | apply below_alloc | apply pw_below_drewN | apply below_drew1) | exact HB.out))) : w.heap.size ≤ gb414)); have n3_ := Aside0.mk ((by rw [hg]; exact (below_size (by repeat (first | (with_reducible first | exact HB.out | apply below_alloc | apply pw_below_drewN | apply below_drew1) | exact HB.out))) : w.heap.size ≤ gb414)); clear HB; have HB := n0_; have BK414 := n1_; have GW414 := n2_; have GE414 := n3_; clear n0_ n1_ n2_ n3_; clear hb hbox hg) | ((with_reducible refine gate_dst (N := 5) rfl ?_); refine box_event ?hg (N := 5) ?hd (cs := #[.int .i64 a2_0, .int .i64 a2_1, .int .i64 a2_2, .int .i64 a2_3, .int .i64 a2_4, .bool a2_5]) (t := 24) ?hr ?_; (case hd => rfl); (case hg => rfl); (case hr => first | (go_simp; done) | (go_simp; rfl)); intro gb415 hg w8 hbox hb; have n0_ := Aside0.mk (blk_below (g := gb414) (o := .cells #[.int .i64 a0_0, .int .i64 a0_1, .int .i64 a0_2, .int .i64 a0_3, .int .i64 a0_4, .int .i64 a0_5, .int .i64 a0_6, .int .i64 a0_7, .int .i64 a0_8, .int .i64 a0_9, .int .i64 a0_10, .slice A0_11 l0_11.length c0_11, .int .i64 a0_12] 27 (0, 0)) (by (with_reducible repeat (first | refine blk_drewN ?_ _ | refine blk_drew ?_ | refine blk_alloc ?_ _)); exact BK414.out) hb); have n1_ := Aside0.mk (below_step (by repeat (first | (with_reducible first | exact HB.out | apply below_alloc | apply pw_below_drewN | apply below_drew1 | refine below_set ?_ GE414.out) | exact HB.out)) hb); have n2_ := Aside0.mk (hbox); have n3_ := Aside0.mk ((by rw [hg]; exact (below_size (by repeat (first | (with_reducible first | exact HB.out | apply below_alloc | apply pw_below_drewN | apply below_drew1 | refine below_set ?_ GE414.out) | exact HB.out))) : w.heap.size ≤ gb415)); have n4_ := Aside0.mk ((by rw [hg]; exact (below_size (by repeat (first | (with_reducible first | exact HB.out | apply below_alloc | apply pw_below_drewN | apply below_drew1 | refine below_set ?_ GE414.out) | exact HB.out))) : w.heap.size ≤ gb415)); have n5_ := Aside0.mk ((by rw [hg]; exact Nat.ne_of_lt (blk_lt (g := gb414) (o := .cells #[.int .i64 a0_0, .int .i64 a0_1, .int .i64 a0_2, .int .i64 a0_3, .int .i64 a0_4, .int .i64 a0_5, .int .i64 a0_6, .int .i64 a0_7, .int .i64 a0_8, .int .i64 a0_9, .int .i64 a0_10, .slice A0_11 l0_11.length c0_11, .int .i64 a0_12] 27 (0, 0)) (by (with_reducible repeat (first | refine blk_drewN ?_ _ | refine blk_drew ?_ | refine blk_alloc ?_ _)); exact BK414.out)) : gb414 ≠ gb415)); have n6_ := Aside0.mk ((by rw [hg]; exact Nat.ne_of_gt (blk_lt (g := gb414) (o := .cells #[.int .i64 a0_0, .int .i64 a0_1, .int .i64 a0_2, .int .i64 a0_3, .int .i64 a0_4, .int .i64 a0_5, .int .i64 a0_6, .int .i64 a0_7, .int .i64 a0_8, .int .i64 a0_9, .int .i64 a0_10, .slice A0_11 l0_11.length c0_11, .int .i64 a0_12] 27 (0, 0)) (by (with_reducible repeat (first | refine blk_drewN ?_ _ | refine blk_drew ?_ | refine blk_alloc ?_ _)); exact BK414.out)) : gb415 ≠ gb414)); clear BK414; clear HB; have BK414 := n0_; have HB := n1_; have BK415 := n2_; have GW415 := n3_; have GE415 := n4_; have NB414_415 := n5_; have NB415_414 := n6_; clear n0_ n1_ n2_ n3_ n4_ n5_ n6_; clear hb hbox hg; have hnb9 := NB414_415.out; have hnc9 := NB415_414.out; have hcz10_0 : w8.cell? ⟨gb414, 0, none⟩ = some (.int .i64 a0_0) := (blk_cell BK414.out 0).trans rfl; have hcz10_1 : w8.cell? ⟨gb414, 1, none⟩ = some (.int .i64 a0_1) := (blk_cell BK414.out 1).trans rfl; have hcz10_2 : w8.cell? ⟨gb414, 2, none⟩ = some (.int .i64 a0_2) := (blk_cell BK414.out 2).trans rfl; have hcz10_3 : w8.cell? ⟨gb414, 3, none⟩ = some (.int .i64 a0_3) := (blk_cell BK414.out 3).trans rfl; have hcz10_4 : w8.cell? ⟨gb414, 4, none⟩ = some (.int .i64 a0_4) := (blk_cell BK414.out 4).trans rfl; have hcz10_5 : w8.cell? ⟨gb414, 5, none⟩ = some (.int .i64 a0_5) := (blk_cell BK414.out 5).trans rfl; have hcz10_6 : w8.cell? ⟨gb414, 6, none⟩ = some (.int .i64 a0_6) := (blk_cell BK414.out 6).trans rfl; have hcz10_7 : w8.cell? ⟨gb414, 7, none⟩ = some (.int .i64 a0_7) := (blk_cell BK414.out 7).trans rfl; have hcz10_8 : w8.cell? ⟨gb414, 8, none⟩ = some (.int .i64 a0_8) := (blk_cell BK414.out 8).trans rfl; have hcz10_9 : w8.cell? ⟨gb414, 9, none⟩ = some (.int .i64 a0_9) := (blk_cell BK414.out 9).trans rfl; have hcz10_10 : w8.cell? ⟨gb414, 10, none⟩ = some (.int .i64 a0_10) := (blk_cell BK414.out 10).trans rfl; have hcz10_11 : w8.cell? ⟨gb414, 11, none⟩ = some (.slice A0_11 l0_11.length c0_11) := (blk_cell BK414.out 11).trans rfl; have hcz10_12 : w8.cell? ⟨gb414, 12, none⟩ = some (.int .i64 a0_12) := (blk_cell BK414.out 12).trans rfl; have hfz10_0 := blk_frozen BK414.out 0; have hfz10_1 := blk_frozen BK414.out 1; have hfz10_2 := blk_frozen BK414.out 2; have hfz10_3 := blk_frozen BK414.out 3; have hfz10_4 := blk_frozen BK414.out 4; have hfz10_5 := blk_frozen BK414.out 5; have hfz10_6 := blk_frozen BK414.out 6; have hfz10_7 := blk_frozen BK414.out 7; have hfz10_8 := blk_frozen BK414.out 8; have hfz10_9 := blk_frozen BK414.out 9; have hfz10_10 := blk_frozen BK414.out 10; have hfz10_11 := blk_frozen BK414.out 11; have hfz10_12 := blk_frozen BK414.out 12) | ((with_reducible refine gate_callee (f := 10) rfl ?_); refine goesL_ (some 13) rfl rfl Try.func10 (by kernel_rfl) rfl #[.agg #[.int .i64 a0_0, .int .i64 a0_1, .int .i64 a0_2, .int .i64 a0_3, .int .i64 a0_4, .int .i64 a0_5, .int .i64 a0_6, .int .i64 a0_7, .int .i64 a0_8, .int .i64 a0_9, .int .i64 a0_10, .slice A0_11 l0_11.length c0_11, .int .i64 a0_12]] rfl (by (try simp only [List.map_toArray, List.map_cons, List.map_nil]); first | done | rfl | (simp only [List.length_drop, List.length_take]; rfl)) ?_; (with_reducible refine (guard_New.made.calls a0_0 a0_1 a0_2 a0_3 a0_4 a0_5 a0_6 a0_7 a0_8 a0_9 a0_10 _ _ l0_11 a0_12 t416 t417 t418 t419 t420 t421 t422 t423 t424 t425 t426 t427 t428 t429 t430 t431 t432 t433 t435 w _ ?side1 ?side2 ?side3 A5.out).mono ?_); (case side1 => repeat (first | (with_reducible first | exact HB.out | apply below_alloc | apply pw_below_drewN | apply below_drew1 | refine below_set ?_ GE414.out | refine below_set ?_ GE415.out) | exact HB.out)); (case side2 => exact HR0_11.out); (case side3 => exact HC0_11.out); rintro e w11 ⟨g434, rfl, hi, hb, hb2⟩; refine ⟨_, rfl, ?_⟩; have n0_ := Aside0.mk (blk_below (g := gb414) (o := .cells #[.int .i64 a0_0, .int .i64 a0_1, .int .i64 a0_2, .int .i64 a0_3, .int .i64 a0_4, .int .i64 a0_5, .int .i64 a0_6, .int .i64 a0_7, .int .i64 a0_8, .int .i64 a0_9, .int .i64 a0_10, .slice A0_11 l0_11.length c0_11, .int .i64 a0_12] 27 (0, 0)) (by (with_reducible repeat (first | refine blk_drewN ?_ _ | refine blk_drew ?_ | refine blk_alloc ?_ _)); exact BK414.out) hb2); have n1_ := Aside0.mk (blk_below (g := gb415) (o := .cells #[.int .i64 a2_0, .int .i64 a2_1, .int .i64 a2_2, .int .i64 a2_3, .int .i64 a2_4, .bool a2_5] 24 (0, 0)) (by (with_reducible repeat (first | refine blk_drewN ?_ _ | refine blk_drew ?_ | refine blk_alloc ?_ _)); exact BK415.out) hb2); have n2_ := Aside0.mk (hb); have n3_ := Aside0.mk (hi); have n4_ := Aside0.mk (IsS48.ne_blk hi (blk_below (g := gb414) (o := .cells #[.int .i64 a0_0, .int .i64 a0_1, .int .i64 a0_2, .int .i64 a0_3, .int .i64 a0_4, .int .i64 a0_5, .int .i64 a0_6, .int .i64 a0_7, .int .i64 a0_8, .int .i64 a0_9, .int .i64 a0_10, .slice A0_11 l0_11.length c0_11, .int .i64 a0_12] 27 (0, 0)) (by (with_reducible repeat (first | refine blk_drewN ?_ _ | refine blk_drew ?_ | refine blk_alloc ?_ _)); exact BK414.out) hb2) (by decide)); have n5_ := Aside0.mk (Ne.symm (IsS48.ne_blk hi (blk_below (g := gb414) (o := .cells #[.int .i64 a0_0, .int .i64 a0_1, .int .i64 a0_2, .int .i64 a0_3, .int .i64 a0_4, .int .i64 a0_5, .int .i64 a0_6, .int .i64 a0_7, .int .i64 a0_8, .int .i64 a0_9, .int .i64 a0_10, .slice A0_11 l0_11.length c0_11, .int .i64 a0_12] 27 (0, 0)) (by (with_reducible repeat (first | refine blk_drewN ?_ _ | refine blk_drew ?_ | refine blk_alloc ?_ _)); exact BK414.out) hb2) (by decide))); have n6_ := Aside0.mk (IsS48.ne_blk hi (blk_below (g := gb415) (o := .cells #[.int .i64 a2_0, .int .i64 a2_1, .int .i64 a2_2, .int .i64 a2_3, .int .i64 a2_4, .bool a2_5] 24 (0, 0)) (by (with_reducible repeat (first | refine blk_drewN ?_ _ | refine blk_drew ?_ | refine blk_alloc ?_ _)); exact BK415.out) hb2) (by decide)); have n7_ := Aside0.mk (Ne.symm (IsS48.ne_blk hi (blk_below (g := gb415) (o := .cells #[.int .i64 a2_0, .int .i64 a2_1, .int .i64 a2_2, .int .i64 a2_3, .int .i64 a2_4, .bool a2_5] 24 (0, 0)) (by (with_reducible repeat (first | refine blk_drewN ?_ _ | refine blk_drew ?_ | refine blk_alloc ?_ _)); exact BK415.out) hb2) (by decide))); clear BK414; clear BK415; clear HB; have BK414 := n0_; have BK415 := n1_; have HB := n2_; have HI434 := n3_; have NB434_414 := n4_; have NB414_434 := n5_; have NB434_415 := n6_; have NB415_434 := n7_; clear n0_ n1_ n2_ n3_ n4_ n5_ n6_ n7_; (try clear hb); (try clear hb2); (try clear hk); (try clear hi)))
  (try simp only [Act.put, List.setIfInBounds_toArray, List.set_cons_zero, List.set_cons_succ])
  go_cut [24] (fun v24 wc => ∃ (kq : Nat) (x24_5 : Bool), v24 = .bool x24_5 ∧ Aside0 (flywheellaw28_GuardFree.j0 kq l1 t435 x24_5 a0_0 a0_1 a0_2 a0_3 a0_4 a0_5 a0_6 a0_7 a0_8 a0_9 a0_10 l0_11 a0_12 a2_0 a2_1 a2_2 a2_3 a2_4 a2_5 t416 t417 t418 t419 t420 t421 t422 t423 t424 t425 t426 t427 t428 t429 t430 t431 t432 t433 = some r) ∧ Aside0 (kq ≤ k) ∧ Aside0 (wc.heap[gb414]? = some (.cells #[.int .i64 a0_0, .int .i64 a0_1, .int .i64 a0_2, .int .i64 a0_3, .int .i64 a0_4, .int .i64 a0_5, .int .i64 a0_6, .int .i64 a0_7, .int .i64 a0_8, .int .i64 a0_9, .int .i64 a0_10, (.slice A0_11 l0_11.length c0_11), .int .i64 a0_12] 27 (0, 0))) ∧ Aside0 (wc.heap[gb415]? = some (.cells #[.int .i64 a2_0, .int .i64 a2_1, .int .i64 a2_2, .int .i64 a2_3, .int .i64 a2_4, .bool a2_5] 24 (0, 0))) ∧ Aside0 (IsS48 w wc g434 t416 t417 t418 t419 t420 t421 t422 t423 t424 t425 t426 t427 t428 t429 t430 t431 t432 t433) ∧ Aside0 (Below w.heap.size w wc))
  case first =>
   have H := HC6.out
   clear HC6
   by_cases c12 : t435 = 0
   ·rw [if_pos c12] at H
    have c12b0 : (t435 == 0) = true := beq_iff_eq.mpr c12
    have c12b1 : (t435 != 0) = false := bne_eq_false_iff_eq.mpr c12
    clear c12
    (first | rw [c12b0] | (simp only [i64_w, i32_w]; rw [c12b0]) | skip)
    have H' := Aside0.mk H
    clear H
    have hnb13 := NB414_415.out
    have hnc13 := NB415_414.out
    have hnb14 := NB414_434.out
    have hnc14 := NB434_414.out
    have hcz15_0 : w11.cell? ⟨gb414, 0, none⟩ = some (.int .i64 a0_0) := (blk_cell BK414.out 0).trans rfl
    have hcz15_1 : w11.cell? ⟨gb414, 1, none⟩ = some (.int .i64 a0_1) := (blk_cell BK414.out 1).trans rfl
    have hcz15_2 : w11.cell? ⟨gb414, 2, none⟩ = some (.int .i64 a0_2) := (blk_cell BK414.out 2).trans rfl
    have hcz15_3 : w11.cell? ⟨gb414, 3, none⟩ = some (.int .i64 a0_3) := (blk_cell BK414.out 3).trans rfl
    have hcz15_4 : w11.cell? ⟨gb414, 4, none⟩ = some (.int .i64 a0_4) := (blk_cell BK414.out 4).trans rfl
    have hcz15_5 : w11.cell? ⟨gb414, 5, none⟩ = some (.int .i64 a0_5) := (blk_cell BK414.out 5).trans rfl
    have hcz15_6 : w11.cell? ⟨gb414, 6, none⟩ = some (.int .i64 a0_6) := (blk_cell BK414.out 6).trans rfl
    have hcz15_7 : w11.cell? ⟨gb414, 7, none⟩ = some (.int .i64 a0_7) := (blk_cell BK414.out 7).trans rfl
    have hcz15_8 : w11.cell? ⟨gb414, 8, none⟩ = some (.int .i64 a0_8) := (blk_cell BK414.out 8).trans rfl
    have hcz15_9 : w11.cell? ⟨gb414, 9, none⟩ = some (.int .i64 a0_9) := (blk_cell BK414.out 9).trans rfl
    have hcz15_10 : w11.cell? ⟨gb414, 10, none⟩ = some (.int .i64 a0_10) := (blk_cell BK414.out 10).trans rfl
    have hcz15_11 : w11.cell? ⟨gb414, 11, none⟩ = some (.slice A0_11 l0_11.length c0_11) := (blk_cell BK414.out 11).trans rfl
    have hcz15_12 : w11.cell? ⟨gb414, 12, none⟩ = some (.int .i64 a0_12) := (blk_cell BK414.out 12).trans rfl
    have hfz15_0 := blk_frozen BK414.out 0
    have hfz15_1 := blk_frozen BK414.out 1
    have hfz15_2 := blk_frozen BK414.out 2
    have hfz15_3 := blk_frozen BK414.out 3
    have hfz15_4 := blk_frozen BK414.out 4
    have hfz15_5 := blk_frozen BK414.out 5
    have hfz15_6 := blk_frozen BK414.out 6
    have hfz15_7 := blk_frozen BK414.out 7
    have hfz15_8 := blk_frozen BK414.out 8
    have hfz15_9 := blk_frozen BK414.out 9
    have hfz15_10 := blk_frozen BK414.out 10
    have hfz15_11 := blk_frozen BK414.out 11
    have hfz15_12 := blk_frozen BK414.out 12
    go_wp2
    go_meet
    case rel => exact ⟨_, (decide (a0_5 ≥ a0_4)), (by first | rfl | (simp; done) | (simp [*]; done)), H', ⟨by first | omega | exact Nat.le_refl _⟩, ⟨by (with_reducible repeat (first | refine blk_drewN ?_ _ | refine blk_drew ?_ | refine blk_alloc ?_ _)); exact BK414.out⟩, ⟨by (with_reducible repeat (first | refine blk_drewN ?_ _ | refine blk_drew ?_ | refine blk_alloc ?_ _)); exact BK415.out⟩, ⟨by repeat (first | (with_reducible first | exact HI434.out | apply IsS48.alloc | apply IsS48.drewN | apply IsS48.drew | apply IsS48.set_0 | apply IsS48.set_1 | apply IsS48.set_2 | apply IsS48.set_3 | apply IsS48.set_4 | apply IsS48.set_5 | apply IsS48.set_6 | apply IsS48.set_7 | apply IsS48.set_8 | apply IsS48.set_9 | apply IsS48.set_10 | apply IsS48.set_12 | apply IsS48.set_13 | apply IsS48.set_14 | apply IsS48.set_15 | apply IsS48.set_16 | apply IsS48.set_17 | refine IsS48.far ?_ NB434_414.out _ | refine IsS48.far ?_ NB434_415.out _) | exact HI434.out)⟩, ⟨by repeat (first | (with_reducible first | exact HB.out | apply below_alloc | apply pw_below_drewN | apply below_drew1 | refine below_set ?_ (IsS48.ge HI434.out) | refine below_set ?_ GE414.out | refine below_set ?_ GE415.out) | exact HB.out)⟩⟩
   ·rw [if_neg c12] at H
    have c12b0 : (t435 == 0) = false := beq_eq_false_iff_ne.mpr c12
    have c12b1 : (t435 != 0) = true := bne_iff_ne.mpr c12
    (first | rw [c12b0] | (simp only [i64_w, i32_w]; rw [c12b0]) | skip)
    have H' := Aside0.mk H
    clear H
    go_wp2
    go_meet
    case rel => exact ⟨_, (true), (by first | rfl | (simp; done) | (simp [*]; done)), H', ⟨by first | omega | exact Nat.le_refl _⟩, ⟨by (with_reducible repeat (first | refine blk_drewN ?_ _ | refine blk_drew ?_ | refine blk_alloc ?_ _)); exact BK414.out⟩, ⟨by (with_reducible repeat (first | refine blk_drewN ?_ _ | refine blk_drew ?_ | refine blk_alloc ?_ _)); exact BK415.out⟩, ⟨by repeat (first | (with_reducible first | exact HI434.out | apply IsS48.alloc | apply IsS48.drewN | apply IsS48.drew | apply IsS48.set_0 | apply IsS48.set_1 | apply IsS48.set_2 | apply IsS48.set_3 | apply IsS48.set_4 | apply IsS48.set_5 | apply IsS48.set_6 | apply IsS48.set_7 | apply IsS48.set_8 | apply IsS48.set_9 | apply IsS48.set_10 | apply IsS48.set_12 | apply IsS48.set_13 | apply IsS48.set_14 | apply IsS48.set_15 | apply IsS48.set_16 | apply IsS48.set_17 | refine IsS48.far ?_ NB434_414.out _ | refine IsS48.far ?_ NB434_415.out _) | exact HI434.out)⟩, ⟨by repeat (first | (with_reducible first | exact HB.out | apply below_alloc | apply pw_below_drewN | apply below_drew1 | refine below_set ?_ (IsS48.ge HI434.out) | refine below_set ?_ GE414.out | refine below_set ?_ GE415.out) | exact HB.out)⟩⟩
  case rest =>
   clear HC6
   try clear c1
   try clear p2
   try clear c4
   try clear c4b0
   try clear c5
   try clear c9
   try clear c10
   try clear c12
   try clear c12b0
   try clear c12b1
   try clear c13
   try clear c14
   try clear hcz10_0
   try clear hcz10_1
   try clear hcz10_10
   try clear hcz10_11
   try clear hcz10_12
   try clear hcz10_2
   try clear hcz10_3
   try clear hcz10_4
   try clear hcz10_5
   try clear hcz10_6
   try clear hcz10_7
   try clear hcz10_8
   try clear hcz10_9
   try clear hcz15_0
   try clear hcz15_1
   try clear hcz15_10
   try clear hcz15_11
   try clear hcz15_12
   try clear hcz15_2
   try clear hcz15_3
   try clear hcz15_4
   try clear hcz15_5
   try clear hcz15_6
   try clear hcz15_7
   try clear hcz15_8
   try clear hcz15_9
   try clear hfz10_0
   try clear hfz10_1
   try clear hfz10_10
   try clear hfz10_11
   try clear hfz10_12
   try clear hfz10_2
   try clear hfz10_3
   try clear hfz10_4
   try clear hfz10_5
   try clear hfz10_6
   try clear hfz10_7
   try clear hfz10_8
   try clear hfz10_9
   try clear hfz15_0
   try clear hfz15_1
   try clear hfz15_10
   try clear hfz15_11
   try clear hfz15_12
   try clear hfz15_2
   try clear hfz15_3
   try clear hfz15_4
   try clear hfz15_5
   try clear hfz15_6
   try clear hfz15_7
   try clear hfz15_8
   try clear hfz15_9
   obtain ⟨kq, x24_5, rfl, HA, HJ5, BK414, BK415, HI434, HB⟩ := hcut
   cases kq with
   | zero => exact absurd HA.out (by simp [flywheellaw28_GuardFree.j0])
   | succ kj5 =>
    have H := HA.out
    clear HA
    simp only [flywheellaw28_GuardFree.j0] at H
    by_cases c16 : x24_5 = true
    ·subst c16
     have H1 : (if t435 = 0 then ((flywheellaw28_wakes.f).bind fun t436 => (some t436)) else (some false)) = some r := by rw [if_pos rfl] at H; exact H
     clear H
     have H := H1
     clear H1
     by_cases c17 : t435 = 0
     ·rw [if_pos c17] at H
      have c17b0 : (t435 == 0) = true := beq_iff_eq.mpr c17
      have c17b1 : (t435 != 0) = false := bne_eq_false_iff_eq.mpr c17
      clear c17
      replace H := Option.bind_eq_some_iff.mp H
      obtain ⟨t436, A180, H⟩ := H
      replace H : (some t436) = some r := H
      have A18 := Aside0.mk A180
      clear A180
      obtain rfl := Option.some.inj H
      go_wp2_with (first | (go_at_call 14; (with_reducible refine (flywheellaw28_wakes.calls  t436 _ A18.out).mono ?_); rintro e w19 ⟨rfl, hb⟩; have n0_ := Aside0.mk (blk_below (g := gb414) (o := .cells #[.int .i64 a0_0, .int .i64 a0_1, .int .i64 a0_2, .int .i64 a0_3, .int .i64 a0_4, .int .i64 a0_5, .int .i64 a0_6, .int .i64 a0_7, .int .i64 a0_8, .int .i64 a0_9, .int .i64 a0_10, .slice A0_11 l0_11.length c0_11, .int .i64 a0_12] 27 (0, 0)) (by (with_reducible repeat (first | refine blk_drewN ?_ _ | refine blk_drew ?_ | refine blk_alloc ?_ _)); exact BK414.out) hb); have n1_ := Aside0.mk (blk_below (g := gb415) (o := .cells #[.int .i64 a2_0, .int .i64 a2_1, .int .i64 a2_2, .int .i64 a2_3, .int .i64 a2_4, .bool a2_5] 24 (0, 0)) (by (with_reducible repeat (first | refine blk_drewN ?_ _ | refine blk_drew ?_ | refine blk_alloc ?_ _)); exact BK415.out) hb); have n2_ := Aside0.mk (IsS48.below (by repeat (first | (with_reducible first | exact HI434.out | apply IsS48.alloc | apply IsS48.drewN | apply IsS48.drew | apply IsS48.set_0 | apply IsS48.set_1 | apply IsS48.set_2 | apply IsS48.set_3 | apply IsS48.set_4 | apply IsS48.set_5 | apply IsS48.set_6 | apply IsS48.set_7 | apply IsS48.set_8 | apply IsS48.set_9 | apply IsS48.set_10 | apply IsS48.set_12 | apply IsS48.set_13 | apply IsS48.set_14 | apply IsS48.set_15 | apply IsS48.set_16 | apply IsS48.set_17 | refine IsS48.far ?_ NB434_414.out _ | refine IsS48.far ?_ NB434_415.out _) | exact HI434.out)) hb); have n3_ := Aside0.mk (below_step (by repeat (first | (with_reducible first | exact HB.out | apply below_alloc | apply pw_below_drewN | apply below_drew1 | refine below_set ?_ (IsS48.ge HI434.out) | refine below_set ?_ GE414.out | refine below_set ?_ GE415.out) | exact HB.out)) hb); clear BK414; clear BK415; clear HI434; clear HB; have BK414 := n0_; have BK415 := n1_; have HI434 := n2_; have HB := n3_; clear n0_ n1_ n2_ n3_; (try clear hb); (try clear hb2); (try clear hk); (try clear hi)))
      go_ret
      exact ⟨by first | rfl | (simp [errW_none, errW_some] <;> rfl) | (simp [*, errW_none, errW_some] <;> rfl), by repeat (first | (with_reducible first | exact HB.out | apply below_alloc | apply pw_below_drewN | apply below_drew1 | refine below_set ?_ (IsS48.ge HI434.out) | refine below_set ?_ GE414.out | refine below_set ?_ GE415.out) | exact HB.out)⟩
     ·rw [if_neg c17] at H
      have c17b0 : (t435 == 0) = false := beq_eq_false_iff_ne.mpr c17
      have c17b1 : (t435 != 0) = true := bne_iff_ne.mpr c17
      obtain rfl := Option.some.inj H
      go_wp2
      go_ret
      exact ⟨by first | rfl | (simp [errW_none, errW_some] <;> rfl) | (simp [*, errW_none, errW_some] <;> rfl), by repeat (first | (with_reducible first | exact HB.out | apply below_alloc | apply pw_below_drewN | apply below_drew1 | refine below_set ?_ (IsS48.ge HI434.out) | refine below_set ?_ GE414.out | refine below_set ?_ GE415.out) | exact HB.out)⟩
    ·replace c16 := Bool.eq_false_iff.mpr c16
     subst c16
     have H1 : (flywheellaw28_GuardFree.l0 kj5 l1 0 a0_0 a0_1 a0_2 a0_3 a0_4 a0_5 a0_6 a0_7 a0_8 a0_9 a0_10 l0_11 a0_12 a2_0 a2_1 a2_2 a2_3 a2_4 a2_5 t416 t417 t418 t419 t420 t421 t422 t423 t424 t425 t426 t427 t428 t429 t430 t431 t432 t433) = some r := by rw [if_neg (show ¬ (false = true) by decide)] at H; exact H
     clear H
     have H := H1
     clear H1
     have HC20 := Aside0.mk H
     clear H
     go_upto_block 0 with (fail)
     go_cut [] (fun wc => ∃ (kq : Nat) (x435000_19 : Int) (x435001_19 : Int) (x435002_19 : Int) (x435003_19 : Int) (x435004_19 : Int) (x435005_19 : Int) (x435006_19 : Int) (x435007_19 : Int) (x435008_19 : Int) (x435009_19 : Int) (x435010_19 : Int) (x435012_19 : Int) (x435013_19 : Int) (x435014_19 : Int) (x435015_19 : Int) (x435016_19 : Bool) (x435017_19 : Bool), Aside0 (flywheellaw28_GuardFree.j2 kq a0_0 a0_1 a0_2 a0_3 a0_4 a0_5 a0_6 a0_7 a0_8 a0_9 a0_10 l0_11 a0_12 a2_0 a2_1 a2_2 a2_3 a2_4 a2_5 x435000_19 x435001_19 x435002_19 x435003_19 x435004_19 x435005_19 x435006_19 x435007_19 x435008_19 x435009_19 x435010_19 t427 x435012_19 x435013_19 x435014_19 x435015_19 x435016_19 x435017_19 = some r) ∧ Aside0 (kq ≤ kj5) ∧ Aside0 (wc.heap[gb414]? = some (.cells #[.int .i64 a0_0, .int .i64 a0_1, .int .i64 a0_2, .int .i64 a0_3, .int .i64 a0_4, .int .i64 a0_5, .int .i64 a0_6, .int .i64 a0_7, .int .i64 a0_8, .int .i64 a0_9, .int .i64 a0_10, (.slice A0_11 l0_11.length c0_11), .int .i64 a0_12] 27 (0, 0))) ∧ Aside0 (wc.heap[gb415]? = some (.cells #[.int .i64 a2_0, .int .i64 a2_1, .int .i64 a2_2, .int .i64 a2_3, .int .i64 a2_4, .bool a2_5] 24 (0, 0))) ∧ Aside0 (IsS48 w wc g434 x435000_19 x435001_19 x435002_19 x435003_19 x435004_19 x435005_19 x435006_19 x435007_19 x435008_19 x435009_19 x435010_19 t427 x435012_19 x435013_19 x435014_19 x435015_19 x435016_19 x435017_19) ∧ Aside0 (Below w.heap.size w wc))
     case first =>
      have H := HC20.out
      clear HC20
      have H' := Aside0.mk H
      clear H
      go_wp2
      go_loopg [9] kj5 (fun kq v9 w' => ∃ (x9_2 : Int) (x435000_2 : Int) (x435001_2 : Int) (x435002_2 : Int) (x435003_2 : Int) (x435004_2 : Int) (x435005_2 : Int) (x435006_2 : Int) (x435007_2 : Int) (x435008_2 : Int) (x435009_2 : Int) (x435010_2 : Int) (x435012_2 : Int) (x435013_2 : Int) (x435014_2 : Int) (x435015_2 : Int) (x435016_2 : Bool) (x435017_2 : Bool), v9 = .int .i64 x9_2 ∧ Aside0 (flywheellaw28_GuardFree.l0 kq l1 x9_2 a0_0 a0_1 a0_2 a0_3 a0_4 a0_5 a0_6 a0_7 a0_8 a0_9 a0_10 l0_11 a0_12 a2_0 a2_1 a2_2 a2_3 a2_4 a2_5 x435000_2 x435001_2 x435002_2 x435003_2 x435004_2 x435005_2 x435006_2 x435007_2 x435008_2 x435009_2 x435010_2 t427 x435012_2 x435013_2 x435014_2 x435015_2 x435016_2 x435017_2 = some r) ∧ Aside0 (kq ≤ kj5) ∧ Aside0 (w'.heap[gb414]? = some (.cells #[.int .i64 a0_0, .int .i64 a0_1, .int .i64 a0_2, .int .i64 a0_3, .int .i64 a0_4, .int .i64 a0_5, .int .i64 a0_6, .int .i64 a0_7, .int .i64 a0_8, .int .i64 a0_9, .int .i64 a0_10, (.slice A0_11 l0_11.length c0_11), .int .i64 a0_12] 27 (0, 0))) ∧ Aside0 (w'.heap[gb415]? = some (.cells #[.int .i64 a2_0, .int .i64 a2_1, .int .i64 a2_2, .int .i64 a2_3, .int .i64 a2_4, .bool a2_5] 24 (0, 0))) ∧ Aside0 (IsS48 w w' g434 x435000_2 x435001_2 x435002_2 x435003_2 x435004_2 x435005_2 x435006_2 x435007_2 x435008_2 x435009_2 x435010_2 t427 x435012_2 x435013_2 x435014_2 x435015_2 x435016_2 x435017_2) ∧ Aside0 (Below w.heap.size w w'))
      case atStart => exact ⟨(0), (t416), (t417), (t418), (t419), (t420), (t421), (t422), (t423), (t424), (t425), (t426), (t428), (t429), (t430), (t431), (t432), (t433), (by first | rfl | (simp; done) | (simp [*]; done)), H', ⟨Nat.le_refl _⟩, ⟨by (with_reducible repeat (first | refine blk_drewN ?_ _ | refine blk_drew ?_ | refine blk_alloc ?_ _)); exact BK414.out⟩, ⟨by (with_reducible repeat (first | refine blk_drewN ?_ _ | refine blk_drew ?_ | refine blk_alloc ?_ _)); exact BK415.out⟩, ⟨by repeat (first | (with_reducible first | exact HI434.out | apply IsS48.alloc | apply IsS48.drewN | apply IsS48.drew | apply IsS48.set_0 | apply IsS48.set_1 | apply IsS48.set_2 | apply IsS48.set_3 | apply IsS48.set_4 | apply IsS48.set_5 | apply IsS48.set_6 | apply IsS48.set_7 | apply IsS48.set_8 | apply IsS48.set_9 | apply IsS48.set_10 | apply IsS48.set_12 | apply IsS48.set_13 | apply IsS48.set_14 | apply IsS48.set_15 | apply IsS48.set_16 | apply IsS48.set_17 | refine IsS48.far ?_ NB434_414.out _ | refine IsS48.far ?_ NB434_415.out _) | exact HI434.out)⟩, ⟨by repeat (first | (with_reducible first | exact HB.out | apply below_alloc | apply pw_below_drewN | apply below_drew1 | refine below_set ?_ (IsS48.ge HI434.out) | refine below_set ?_ GE414.out | refine below_set ?_ GE415.out) | exact HB.out)⟩⟩
      case round =>
       clear H'
       try clear c1
       try clear p2
       try clear c4
       try clear c4b0
       try clear c5
       try clear c9
       try clear c10
       try clear c12
       try clear c12b0
       try clear c12b1
       try clear c13
       try clear c14
       try clear c16
       try clear c17
       try clear c17b0
       try clear c17b1
       try clear hcz10_0
       try clear hcz10_1
       try clear hcz10_10
       try clear hcz10_11
       try clear hcz10_12
       try clear hcz10_2
       try clear hcz10_3
       try clear hcz10_4
       try clear hcz10_5
       try clear hcz10_6
       try clear hcz10_7
       try clear hcz10_8
       try clear hcz10_9
       try clear hcz15_0
       try clear hcz15_1
       try clear hcz15_10
       try clear hcz15_11
       try clear hcz15_12
       try clear hcz15_2
       try clear hcz15_3
       try clear hcz15_4
       try clear hcz15_5
       try clear hcz15_6
       try clear hcz15_7
       try clear hcz15_8
       try clear hcz15_9
       try clear hfz10_0
       try clear hfz10_1
       try clear hfz10_10
       try clear hfz10_11
       try clear hfz10_12
       try clear hfz10_2
       try clear hfz10_3
       try clear hfz10_4
       try clear hfz10_5
       try clear hfz10_6
       try clear hfz10_7
       try clear hfz10_8
       try clear hfz10_9
       try clear hfz15_0
       try clear hfz15_1
       try clear hfz15_10
       try clear hfz15_11
       try clear hfz15_12
       try clear hfz15_2
       try clear hfz15_3
       try clear hfz15_4
       try clear hfz15_5
       try clear hfz15_6
       try clear hfz15_7
       try clear hfz15_8
       try clear hfz15_9
       try clear p2
       obtain ⟨x9_2, x435000_2, x435001_2, x435002_2, x435003_2, x435004_2, x435005_2, x435006_2, x435007_2, x435008_2, x435009_2, x435010_2, x435012_2, x435013_2, x435014_2, x435015_2, x435016_2, x435017_2, rfl, HA, HK2, BK414, BK415, HI434, HB⟩ := hrel
       cases gk with
       | zero => exact absurd HA.out (by simp [flywheellaw28_GuardFree.l0])
       | succ k2 =>
        have H := HA.out
        clear HA
        simp only [flywheellaw28_GuardFree.l0] at H
        by_cases c21 : x9_2 < (l1.length : Int)
        ·rw [if_pos c21] at H
         have c21b0 : decide (x9_2 < (l1.length : Int)) = true := decide_eq_true c21
         clear c21
         (first | rw [c21b0] | (simp only [i64_w, i32_w]; rw [c21b0]) | skip)
         by_cases c22 : x9_2 < 100
         ·rw [if_pos c22] at H
          have c22b0 : decide (x9_2 < 100) = true := decide_eq_true c22
          clear c22
          by_cases c23 : 0 ≤ x9_2
          ·rw [if_pos c23] at H
           have c23b0 : decide (0 ≤ x9_2) = true := decide_eq_true c23
           clear c23
           replace H := Option.bind_eq_some_iff.mp H
           obtain ⟨⟨t442, t443, t444, t445, t446, t447, t448, t449, t450, t451, t452, t453, t454, t455, t456, t457, t458, t459⟩, A240, H⟩ := H
           replace H : (flywheellaw28_GuardFree.l0 k2 l1 (wrap64 (x9_2 + 1)) a0_0 a0_1 a0_2 a0_3 a0_4 a0_5 a0_6 a0_7 a0_8 a0_9 a0_10 l0_11 a0_12 a2_0 a2_1 a2_2 a2_3 a2_4 a2_5 t443 t444 t445 t446 t447 t448 t449 t450 t451 t452 t453 t427 t454 t455 t456 t457 t458 t459) = some r := H
           have A24 := Aside0.mk A240
           clear A240
           have H' := Aside0.mk H
           clear H
           try go_wp2
           have n0_ := Aside0.mk (blk_drew BK414.out)
           have n1_ := Aside0.mk (blk_drew BK415.out)
           have n2_ := Aside0.mk (IsS48.drew HI434.out)
           have n3_ := Aside0.mk (below_drew1 HB.out)
           clear BK414
           clear BK415
           clear HI434
           clear HB
           have BK414 := n0_
           have BK415 := n1_
           have HI434 := n2_
           have HB := n3_
           clear n0_ n1_ n2_ n3_
           have p437 : 0 ≤ (x9_2 : Int) := of_decide_eq_true (by first | (with_reducible assumption) | assumption)
           have q437 : x9_2 < (l1.length : Int) := of_decide_eq_true (by first | (with_reducible assumption) | assumption)
           obtain ⟨ad437, e437, hx437_0, hx437_1, hx437_2, hx437_3, hx437_4, hx437_5⟩ := at_T24 HR1.out x9_2 p437 q437
           have hw437_5 := hx437_5
           have hw437_4 := hx437_4
           have hw437_3 := hx437_3
           have hw437_2 := hx437_2
           have hw437_1 := hx437_1
           have hw437_0 := hx437_0
           cases e437
           replace hx437_0 := (HB.out.cell (World.block_lt_of_cell? w _ hx437_0)).trans hx437_0
           replace hx437_1 := (HB.out.cell (World.block_lt_of_cell? w _ hx437_1)).trans hx437_1
           replace hx437_2 := (HB.out.cell (World.block_lt_of_cell? w _ hx437_2)).trans hx437_2
           replace hx437_3 := (HB.out.cell (World.block_lt_of_cell? w _ hx437_3)).trans hx437_3
           replace hx437_4 := (HB.out.cell (World.block_lt_of_cell? w _ hx437_4)).trans hx437_4
           replace hx437_5 := (HB.out.cell (World.block_lt_of_cell? w _ hx437_5)).trans hx437_5
           replace p437 := eq_true p437
           replace q437 := eq_true q437
           have p438 : 0 ≤ (x9_2 : Int) := of_decide_eq_true (by first | (with_reducible assumption) | assumption)
           have q438 : x9_2 < (l1.length : Int) := of_decide_eq_true (by first | (with_reducible assumption) | assumption)
           obtain ⟨ad438, e438, hx438_0, hx438_1, hx438_2, hx438_3, hx438_4, hx438_5⟩ := at_T24 HR1.out x9_2 p438 q438
           have hw438_5 := hx438_5
           have hw438_4 := hx438_4
           have hw438_3 := hx438_3
           have hw438_2 := hx438_2
           have hw438_1 := hx438_1
           have hw438_0 := hx438_0
           obtain rfl : ad437 = ad438 := (by injection e438)
           replace hx438_0 := (HB.out.cell (World.block_lt_of_cell? w _ hx438_0)).trans hx438_0
           replace hx438_1 := (HB.out.cell (World.block_lt_of_cell? w _ hx438_1)).trans hx438_1
           replace hx438_2 := (HB.out.cell (World.block_lt_of_cell? w _ hx438_2)).trans hx438_2
           replace hx438_3 := (HB.out.cell (World.block_lt_of_cell? w _ hx438_3)).trans hx438_3
           replace hx438_4 := (HB.out.cell (World.block_lt_of_cell? w _ hx438_4)).trans hx438_4
           replace hx438_5 := (HB.out.cell (World.block_lt_of_cell? w _ hx438_5)).trans hx438_5
           replace p438 := eq_true p438
           replace q438 := eq_true q438
           have p439 : 0 ≤ (x9_2 : Int) := of_decide_eq_true (by first | (with_reducible assumption) | assumption)
           have q439 : x9_2 < (l1.length : Int) := of_decide_eq_true (by first | (with_reducible assumption) | assumption)
           obtain ⟨ad439, e439, hx439_0, hx439_1, hx439_2, hx439_3, hx439_4, hx439_5⟩ := at_T24 HR1.out x9_2 p439 q439
           have hw439_5 := hx439_5
           have hw439_4 := hx439_4
           have hw439_3 := hx439_3
           have hw439_2 := hx439_2
           have hw439_1 := hx439_1
           have hw439_0 := hx439_0
           obtain rfl : ad437 = ad439 := (by injection e439)
           replace hx439_0 := (HB.out.cell (World.block_lt_of_cell? w _ hx439_0)).trans hx439_0
           replace hx439_1 := (HB.out.cell (World.block_lt_of_cell? w _ hx439_1)).trans hx439_1
           replace hx439_2 := (HB.out.cell (World.block_lt_of_cell? w _ hx439_2)).trans hx439_2
           replace hx439_3 := (HB.out.cell (World.block_lt_of_cell? w _ hx439_3)).trans hx439_3
           replace hx439_4 := (HB.out.cell (World.block_lt_of_cell? w _ hx439_4)).trans hx439_4
           replace hx439_5 := (HB.out.cell (World.block_lt_of_cell? w _ hx439_5)).trans hx439_5
           replace p439 := eq_true p439
           replace q439 := eq_true q439
           have p440 : 0 ≤ (x9_2 : Int) := of_decide_eq_true (by first | (with_reducible assumption) | assumption)
           have q440 : x9_2 < (l1.length : Int) := of_decide_eq_true (by first | (with_reducible assumption) | assumption)
           obtain ⟨ad440, e440, hx440_0, hx440_1, hx440_2, hx440_3, hx440_4, hx440_5⟩ := at_T24 HR1.out x9_2 p440 q440
           have hw440_5 := hx440_5
           have hw440_4 := hx440_4
           have hw440_3 := hx440_3
           have hw440_2 := hx440_2
           have hw440_1 := hx440_1
           have hw440_0 := hx440_0
           obtain rfl : ad437 = ad440 := (by injection e440)
           replace hx440_0 := (HB.out.cell (World.block_lt_of_cell? w _ hx440_0)).trans hx440_0
           replace hx440_1 := (HB.out.cell (World.block_lt_of_cell? w _ hx440_1)).trans hx440_1
           replace hx440_2 := (HB.out.cell (World.block_lt_of_cell? w _ hx440_2)).trans hx440_2
           replace hx440_3 := (HB.out.cell (World.block_lt_of_cell? w _ hx440_3)).trans hx440_3
           replace hx440_4 := (HB.out.cell (World.block_lt_of_cell? w _ hx440_4)).trans hx440_4
           replace hx440_5 := (HB.out.cell (World.block_lt_of_cell? w _ hx440_5)).trans hx440_5
           replace p440 := eq_true p440
           replace q440 := eq_true q440
           have p441 : 0 ≤ (x9_2 : Int) := of_decide_eq_true (by first | (with_reducible assumption) | assumption)
           have q441 : x9_2 < (l1.length : Int) := of_decide_eq_true (by first | (with_reducible assumption) | assumption)
           obtain ⟨ad441, e441, hx441_0, hx441_1, hx441_2, hx441_3, hx441_4, hx441_5⟩ := at_T24 HR1.out x9_2 p441 q441
           have hw441_5 := hx441_5
           have hw441_4 := hx441_4
           have hw441_3 := hx441_3
           have hw441_2 := hx441_2
           have hw441_1 := hx441_1
           have hw441_0 := hx441_0
           obtain rfl : ad437 = ad441 := (by injection e441)
           replace hx441_0 := (HB.out.cell (World.block_lt_of_cell? w _ hx441_0)).trans hx441_0
           replace hx441_1 := (HB.out.cell (World.block_lt_of_cell? w _ hx441_1)).trans hx441_1
           replace hx441_2 := (HB.out.cell (World.block_lt_of_cell? w _ hx441_2)).trans hx441_2
           replace hx441_3 := (HB.out.cell (World.block_lt_of_cell? w _ hx441_3)).trans hx441_3
           replace hx441_4 := (HB.out.cell (World.block_lt_of_cell? w _ hx441_4)).trans hx441_4
           replace hx441_5 := (HB.out.cell (World.block_lt_of_cell? w _ hx441_5)).trans hx441_5
           replace p441 := eq_true p441
           replace q441 := eq_true q441
           refine start_ (n := 27) (S := fun w' => w'.cell? (ad437.add ((x9_2).toNat * 6)) = some (.int .i64 ((rd_T24 l1 x9_2).f0)) ∧ w'.cell? ⟨(ad437.add ((x9_2).toNat * 6)).block, (ad437.add ((x9_2).toNat * 6)).off + 1, none⟩ = some (.int .i64 ((rd_T24 l1 x9_2).f1)) ∧ w'.cell? ⟨(ad437.add ((x9_2).toNat * 6)).block, (ad437.add ((x9_2).toNat * 6)).off + 2, none⟩ = some (.int .i64 ((rd_T24 l1 x9_2).f2)) ∧ w'.cell? ⟨(ad437.add ((x9_2).toNat * 6)).block, (ad437.add ((x9_2).toNat * 6)).off + 3, none⟩ = some (.int .i64 ((rd_T24 l1 x9_2).f3)) ∧ w'.cell? ⟨(ad437.add ((x9_2).toNat * 6)).block, (ad437.add ((x9_2).toNat * 6)).off + 4, none⟩ = some (.int .i64 ((rd_T24 l1 x9_2).f4)) ∧ w'.cell? ⟨(ad437.add ((x9_2).toNat * 6)).block, (ad437.add ((x9_2).toNat * 6)).off + 5, none⟩ = some (.bool ((rd_T24 l1 x9_2).f5)) ∧ w'.cell? (ad437.add ((x9_2).toNat * 6)) = some (.int .i64 ((rd_T24 l1 x9_2).f0)) ∧ w'.cell? ⟨(ad437.add ((x9_2).toNat * 6)).block, (ad437.add ((x9_2).toNat * 6)).off + 1, none⟩ = some (.int .i64 ((rd_T24 l1 x9_2).f1)) ∧ w'.cell? ⟨(ad437.add ((x9_2).toNat * 6)).block, (ad437.add ((x9_2).toNat * 6)).off + 2, none⟩ = some (.int .i64 ((rd_T24 l1 x9_2).f2)) ∧ w'.cell? ⟨(ad437.add ((x9_2).toNat * 6)).block, (ad437.add ((x9_2).toNat * 6)).off + 3, none⟩ = some (.int .i64 ((rd_T24 l1 x9_2).f3)) ∧ w'.cell? ⟨(ad437.add ((x9_2).toNat * 6)).block, (ad437.add ((x9_2).toNat * 6)).off + 4, none⟩ = some (.int .i64 ((rd_T24 l1 x9_2).f4)) ∧ w'.cell? ⟨(ad437.add ((x9_2).toNat * 6)).block, (ad437.add ((x9_2).toNat * 6)).off + 5, none⟩ = some (.bool ((rd_T24 l1 x9_2).f5)) ∧ w'.cell? (ad437.add ((x9_2).toNat * 6)) = some (.int .i64 ((rd_T24 l1 x9_2).f0)) ∧ w'.cell? ⟨(ad437.add ((x9_2).toNat * 6)).block, (ad437.add ((x9_2).toNat * 6)).off + 1, none⟩ = some (.int .i64 ((rd_T24 l1 x9_2).f1)) ∧ w'.cell? ⟨(ad437.add ((x9_2).toNat * 6)).block, (ad437.add ((x9_2).toNat * 6)).off + 2, none⟩ = some (.int .i64 ((rd_T24 l1 x9_2).f2)) ∧ w'.cell? ⟨(ad437.add ((x9_2).toNat * 6)).block, (ad437.add ((x9_2).toNat * 6)).off + 3, none⟩ = some (.int .i64 ((rd_T24 l1 x9_2).f3)) ∧ w'.cell? ⟨(ad437.add ((x9_2).toNat * 6)).block, (ad437.add ((x9_2).toNat * 6)).off + 4, none⟩ = some (.int .i64 ((rd_T24 l1 x9_2).f4)) ∧ w'.cell? ⟨(ad437.add ((x9_2).toNat * 6)).block, (ad437.add ((x9_2).toNat * 6)).off + 5, none⟩ = some (.bool ((rd_T24 l1 x9_2).f5)) ∧ w'.cell? (ad437.add ((x9_2).toNat * 6)) = some (.int .i64 ((rd_T24 l1 x9_2).f0)) ∧ w'.cell? ⟨(ad437.add ((x9_2).toNat * 6)).block, (ad437.add ((x9_2).toNat * 6)).off + 1, none⟩ = some (.int .i64 ((rd_T24 l1 x9_2).f1)) ∧ w'.cell? ⟨(ad437.add ((x9_2).toNat * 6)).block, (ad437.add ((x9_2).toNat * 6)).off + 2, none⟩ = some (.int .i64 ((rd_T24 l1 x9_2).f2)) ∧ w'.cell? ⟨(ad437.add ((x9_2).toNat * 6)).block, (ad437.add ((x9_2).toNat * 6)).off + 3, none⟩ = some (.int .i64 ((rd_T24 l1 x9_2).f3)) ∧ w'.cell? ⟨(ad437.add ((x9_2).toNat * 6)).block, (ad437.add ((x9_2).toNat * 6)).off + 4, none⟩ = some (.int .i64 ((rd_T24 l1 x9_2).f4)) ∧ w'.cell? ⟨(ad437.add ((x9_2).toNat * 6)).block, (ad437.add ((x9_2).toNat * 6)).off + 5, none⟩ = some (.bool ((rd_T24 l1 x9_2).f5)) ∧ w'.cell? (ad437.add ((x9_2).toNat * 6)) = some (.int .i64 ((rd_T24 l1 x9_2).f0)) ∧ w'.cell? ⟨(ad437.add ((x9_2).toNat * 6)).block, (ad437.add ((x9_2).toNat * 6)).off + 1, none⟩ = some (.int .i64 ((rd_T24 l1 x9_2).f1)) ∧ w'.cell? ⟨(ad437.add ((x9_2).toNat * 6)).block, (ad437.add ((x9_2).toNat * 6)).off + 2, none⟩ = some (.int .i64 ((rd_T24 l1 x9_2).f2)) ∧ w'.cell? ⟨(ad437.add ((x9_2).toNat * 6)).block, (ad437.add ((x9_2).toNat * 6)).off + 3, none⟩ = some (.int .i64 ((rd_T24 l1 x9_2).f3)) ∧ w'.cell? ⟨(ad437.add ((x9_2).toNat * 6)).block, (ad437.add ((x9_2).toNat * 6)).off + 4, none⟩ = some (.int .i64 ((rd_T24 l1 x9_2).f4)) ∧ w'.cell? ⟨(ad437.add ((x9_2).toNat * 6)).block, (ad437.add ((x9_2).toNat * 6)).off + 5, none⟩ = some (.bool ((rd_T24 l1 x9_2).f5))) (ds := []) #[false, false, false, false, false, false, false, false, false, false, false, false, false, false, false, false, false, false, false, false, false, false, false, false, false, false, false] (by kernel_rfl) rfl rfl ⟨((HB.out.cell (World.block_lt_of_cell? w _ hw437_0)).trans hw437_0), ((HB.out.cell (World.block_lt_of_cell? w _ hw437_1)).trans hw437_1), ((HB.out.cell (World.block_lt_of_cell? w _ hw437_2)).trans hw437_2), ((HB.out.cell (World.block_lt_of_cell? w _ hw437_3)).trans hw437_3), ((HB.out.cell (World.block_lt_of_cell? w _ hw437_4)).trans hw437_4), ((HB.out.cell (World.block_lt_of_cell? w _ hw437_5)).trans hw437_5), ((HB.out.cell (World.block_lt_of_cell? w _ hw438_0)).trans hw438_0), ((HB.out.cell (World.block_lt_of_cell? w _ hw438_1)).trans hw438_1), ((HB.out.cell (World.block_lt_of_cell? w _ hw438_2)).trans hw438_2), ((HB.out.cell (World.block_lt_of_cell? w _ hw438_3)).trans hw438_3), ((HB.out.cell (World.block_lt_of_cell? w _ hw438_4)).trans hw438_4), ((HB.out.cell (World.block_lt_of_cell? w _ hw438_5)).trans hw438_5), ((HB.out.cell (World.block_lt_of_cell? w _ hw439_0)).trans hw439_0), ((HB.out.cell (World.block_lt_of_cell? w _ hw439_1)).trans hw439_1), ((HB.out.cell (World.block_lt_of_cell? w _ hw439_2)).trans hw439_2), ((HB.out.cell (World.block_lt_of_cell? w _ hw439_3)).trans hw439_3), ((HB.out.cell (World.block_lt_of_cell? w _ hw439_4)).trans hw439_4), ((HB.out.cell (World.block_lt_of_cell? w _ hw439_5)).trans hw439_5), ((HB.out.cell (World.block_lt_of_cell? w _ hw440_0)).trans hw440_0), ((HB.out.cell (World.block_lt_of_cell? w _ hw440_1)).trans hw440_1), ((HB.out.cell (World.block_lt_of_cell? w _ hw440_2)).trans hw440_2), ((HB.out.cell (World.block_lt_of_cell? w _ hw440_3)).trans hw440_3), ((HB.out.cell (World.block_lt_of_cell? w _ hw440_4)).trans hw440_4), ((HB.out.cell (World.block_lt_of_cell? w _ hw440_5)).trans hw440_5), ((HB.out.cell (World.block_lt_of_cell? w _ hw441_0)).trans hw441_0), ((HB.out.cell (World.block_lt_of_cell? w _ hw441_1)).trans hw441_1), ((HB.out.cell (World.block_lt_of_cell? w _ hw441_2)).trans hw441_2), ((HB.out.cell (World.block_lt_of_cell? w _ hw441_3)).trans hw441_3), ((HB.out.cell (World.block_lt_of_cell? w _ hw441_4)).trans hw441_4), ((HB.out.cell (World.block_lt_of_cell? w _ hw441_5)).trans hw441_5)⟩ (fun hHeld => ?_); refine with_tabW flywheellaw28_GuardFree.tab7 flywheellaw28_GuardFree.bits7 (fun HT_ HW_ => ?_)
           generalize wr.drew = w25 at BK414 BK415 HI434 HB hx437_0 hx437_1 hx437_2 hx437_3 hx437_4 hx437_5 hx438_0 hx438_1 hx438_2 hx438_3 hx438_4 hx438_5 hx439_0 hx439_1 hx439_2 hx439_3 hx439_4 hx439_5 hx440_0 hx440_1 hx440_2 hx440_3 hx440_4 hx440_5 hx441_0 hx441_1 hx441_2 hx441_3 hx441_4 hx441_5 hHeld ⊢
           refine pure_ (i := 0) (N := some 44) (v := ?_) (a' := ?_) #[true, false, false, false, false, false, false, false, false, false, false, false, false, false, false, false, false, false, false, false, false, false, false, false, false, false, false] rfl rfl (any_of HT_.out (by kernel_rfl)) (fun _ _ _ h => h) (Or.inl ⟨by rfl, ?_⟩) ?_ ?_
           rotate_left
           ·intro w'
            go_simp
            with_reducible rfl
           rotate_left
           ·simp only [Act.put, List.setIfInBounds_toArray, List.set_cons_zero, List.set_cons_succ, i64_w, i32_w]
            rfl
           refine pure_ (i := 1) (N := some 45) (v := ?_) (a' := ?_) #[true, true, false, false, false, false, false, false, false, false, false, false, false, false, false, false, false, false, false, false, false, false, false, false, false, false, false] rfl rfl (any_of HT_.out (by kernel_rfl)) (fun _ _ _ h => h) (Or.inl ⟨by rfl, ?_⟩) ?_ ?_
           rotate_left
           ·intro w'
            go_simp
            with_reducible rfl
           rotate_left
           ·simp only [Act.put, List.setIfInBounds_toArray, List.set_cons_zero, List.set_cons_succ, i64_w, i32_w]
            rfl
           refine pure_ (i := 2) (N := some 46) (v := ?_) (a' := ?_) #[true, true, true, false, false, false, false, false, false, false, false, false, false, false, false, false, false, false, false, false, false, false, false, false, false, false, false] rfl rfl (any_of HT_.out (by kernel_rfl)) (fun _ _ _ h => h) (Or.inl ⟨by rfl, ?_⟩) ?_ ?_
           rotate_left
           ·intro w'
            go_simp
            with_reducible rfl
           rotate_left
           ·simp only [Act.put, List.setIfInBounds_toArray, List.set_cons_zero, List.set_cons_succ, i64_w, i32_w]
            rfl
           refine pure_ (i := 3) (N := some 47) (v := ?_) (a' := ?_) #[true, true, true, true, false, false, false, false, false, false, false, false, false, false, false, false, false, false, false, false, false, false, false, false, false, false, false] rfl rfl (any_of HT_.out (by kernel_rfl)) (fun _ _ _ h => h) (Or.inl ⟨by rfl, ?_⟩) ?_ ?_
           rotate_left
           ·intro w'
            go_simp
            with_reducible rfl
           rotate_left
           ·simp only [Act.put, List.setIfInBounds_toArray, List.set_cons_zero, List.set_cons_succ, i64_w, i32_w]
            rfl
           refine pure_ (i := 4) (N := some 48) (v := ?_) (a' := ?_) #[true, true, true, true, true, false, false, false, false, false, false, false, false, false, false, false, false, false, false, false, false, false, false, false, false, false, false] rfl rfl (any_of HT_.out (by kernel_rfl)) (fun _ _ _ h => h) (Or.inl ⟨by rfl, ?_⟩) ?_ ?_
           rotate_left
           ·intro w'
            go_simp
            with_reducible rfl
           rotate_left
           ·simp only [Act.put, List.setIfInBounds_toArray, List.set_cons_zero, List.set_cons_succ, i64_w, i32_w]
            rfl
           refine pure_ (i := 6) (N := some 50) (v := ?_) (a' := ?_) #[true, true, true, true, true, false, true, false, false, false, false, false, false, false, false, false, false, false, false, false, false, false, false, false, false, false, false] rfl rfl (any_of HT_.out (by kernel_rfl)) (fun _ _ _ h => h) (Or.inl ⟨by rfl, ?_⟩) ?_ ?_
           rotate_left
           ·intro w'
            go_simp
            with_reducible rfl
           rotate_left
           ·simp only [Act.put, List.setIfInBounds_toArray, List.set_cons_zero, List.set_cons_succ, i64_w, i32_w]
            rfl
           refine pure_ (i := 7) (N := some 51) (v := ?_) (a' := ?_) #[true, true, true, true, true, false, true, true, false, false, false, false, false, false, false, false, false, false, false, false, false, false, false, false, false, false, false] rfl rfl (any_of HT_.out (by kernel_rfl)) (fun _ _ _ h => h) (Or.inl ⟨by rfl, ?_⟩) ?_ ?_
           rotate_left
           ·intro w'
            go_simp
            with_reducible rfl
           rotate_left
           ·simp only [Act.put, List.setIfInBounds_toArray, List.set_cons_zero, List.set_cons_succ, i64_w, i32_w]
            rfl
           refine pure_ (i := 8) (N := some 52) (v := ?_) (a' := ?_) #[true, true, true, true, true, false, true, true, true, false, false, false, false, false, false, false, false, false, false, false, false, false, false, false, false, false, false] rfl rfl (any_of HT_.out (by kernel_rfl)) (fun _ _ _ h => h) (Or.inl ⟨by rfl, ?_⟩) ?_ ?_
           rotate_left
           ·intro w'
            go_simp
            with_reducible rfl
           rotate_left
           ·simp only [Act.put, List.setIfInBounds_toArray, List.set_cons_zero, List.set_cons_succ, i64_w, i32_w]
            rfl
           refine pure_ (i := 9) (N := some 53) (v := ?_) (a' := ?_) #[true, true, true, true, true, false, true, true, true, true, false, false, false, false, false, false, false, false, false, false, false, false, false, false, false, false, false] rfl rfl (any_of HT_.out (by kernel_rfl)) (fun _ _ _ h => h) (Or.inl ⟨by rfl, ?_⟩) ?_ ?_
           rotate_left
           ·intro w'
            go_simp
            with_reducible rfl
           rotate_left
           ·simp only [Act.put, List.setIfInBounds_toArray, List.set_cons_zero, List.set_cons_succ, i64_w, i32_w]
            rfl
           refine pure_ (i := 11) (N := some 55) (v := ?_) (a' := ?_) #[true, true, true, true, true, false, true, true, true, true, false, true, false, false, false, false, false, false, false, false, false, false, false, false, false, false, false] rfl rfl (any_of HT_.out (by kernel_rfl)) (fun _ _ _ h => h) (Or.inl ⟨by rfl, ?_⟩) ?_ ?_
           rotate_left
           ·intro w'
            go_simp
            with_reducible rfl
           rotate_left
           ·simp only [Act.put, List.setIfInBounds_toArray, List.set_cons_zero, List.set_cons_succ, i64_w, i32_w]
            rfl
           refine pure_ (i := 12) (N := some 56) (v := ?_) (a' := ?_) #[true, true, true, true, true, false, true, true, true, true, false, true, true, false, false, false, false, false, false, false, false, false, false, false, false, false, false] rfl rfl (any_of HT_.out (by kernel_rfl)) (fun _ _ _ h => h) (Or.inl ⟨by rfl, ?_⟩) ?_ ?_
           rotate_left
           ·intro w'
            go_simp
            with_reducible rfl
           rotate_left
           ·simp only [Act.put, List.setIfInBounds_toArray, List.set_cons_zero, List.set_cons_succ, i64_w, i32_w]
            rfl
           refine pure_ (i := 13) (N := some 57) (v := ?_) (a' := ?_) #[true, true, true, true, true, false, true, true, true, true, false, true, true, true, false, false, false, false, false, false, false, false, false, false, false, false, false] rfl rfl (any_of HT_.out (by kernel_rfl)) (fun _ _ _ h => h) (Or.inl ⟨by rfl, ?_⟩) ?_ ?_
           rotate_left
           ·intro w'
            go_simp
            with_reducible rfl
           rotate_left
           ·simp only [Act.put, List.setIfInBounds_toArray, List.set_cons_zero, List.set_cons_succ, i64_w, i32_w]
            rfl
           refine pure_ (i := 14) (N := some 58) (v := ?_) (a' := ?_) #[true, true, true, true, true, false, true, true, true, true, false, true, true, true, true, false, false, false, false, false, false, false, false, false, false, false, false] rfl rfl (any_of HT_.out (by kernel_rfl)) (fun _ _ _ h => h) (Or.inl ⟨by rfl, ?_⟩) ?_ ?_
           rotate_left
           ·intro w'
            go_simp
            with_reducible rfl
           rotate_left
           ·simp only [Act.put, List.setIfInBounds_toArray, List.set_cons_zero, List.set_cons_succ, i64_w, i32_w]
            rfl
           refine pure_ (i := 16) (N := some 60) (v := ?_) (a' := ?_) #[true, true, true, true, true, false, true, true, true, true, false, true, true, true, true, false, true, false, false, false, false, false, false, false, false, false, false] rfl rfl (any_of HT_.out (by kernel_rfl)) (fun _ _ _ h => h) (Or.inl ⟨by rfl, ?_⟩) ?_ ?_
           rotate_left
           ·intro w'
            go_simp
            with_reducible rfl
           rotate_left
           ·simp only [Act.put, List.setIfInBounds_toArray, List.set_cons_zero, List.set_cons_succ, i64_w, i32_w]
            rfl
           refine pure_ (i := 17) (N := some 61) (v := ?_) (a' := ?_) #[true, true, true, true, true, false, true, true, true, true, false, true, true, true, true, false, true, true, false, false, false, false, false, false, false, false, false] rfl rfl (any_of HT_.out (by kernel_rfl)) (fun _ _ _ h => h) (Or.inl ⟨by rfl, ?_⟩) ?_ ?_
           rotate_left
           ·intro w'
            go_simp
            with_reducible rfl
           rotate_left
           ·simp only [Act.put, List.setIfInBounds_toArray, List.set_cons_zero, List.set_cons_succ, i64_w, i32_w]
            rfl
           refine pure_ (i := 18) (N := some 62) (v := ?_) (a' := ?_) #[true, true, true, true, true, false, true, true, true, true, false, true, true, true, true, false, true, true, true, false, false, false, false, false, false, false, false] rfl rfl (any_of HT_.out (by kernel_rfl)) (fun _ _ _ h => h) (Or.inl ⟨by rfl, ?_⟩) ?_ ?_
           rotate_left
           ·intro w'
            go_simp
            with_reducible rfl
           rotate_left
           ·simp only [Act.put, List.setIfInBounds_toArray, List.set_cons_zero, List.set_cons_succ, i64_w, i32_w]
            rfl
           refine pure_ (i := 19) (N := some 63) (v := ?_) (a' := ?_) #[true, true, true, true, true, false, true, true, true, true, false, true, true, true, true, false, true, true, true, true, false, false, false, false, false, false, false] rfl rfl (any_of HT_.out (by kernel_rfl)) (fun _ _ _ h => h) (Or.inl ⟨by rfl, ?_⟩) ?_ ?_
           rotate_left
           ·intro w'
            go_simp
            with_reducible rfl
           rotate_left
           ·simp only [Act.put, List.setIfInBounds_toArray, List.set_cons_zero, List.set_cons_succ, i64_w, i32_w]
            rfl
           refine pure_ (i := 21) (N := some 65) (v := ?_) (a' := ?_) #[true, true, true, true, true, false, true, true, true, true, false, true, true, true, true, false, true, true, true, true, false, true, false, false, false, false, false] rfl rfl (any_of HT_.out (by kernel_rfl)) (fun _ _ _ h => h) (Or.inl ⟨by rfl, ?_⟩) ?_ ?_
           rotate_left
           ·intro w'
            go_simp
            with_reducible rfl
           rotate_left
           ·simp only [Act.put, List.setIfInBounds_toArray, List.set_cons_zero, List.set_cons_succ, i64_w, i32_w]
            rfl
           refine pure_ (i := 22) (N := some 66) (v := ?_) (a' := ?_) #[true, true, true, true, true, false, true, true, true, true, false, true, true, true, true, false, true, true, true, true, false, true, true, false, false, false, false] rfl rfl (any_of HT_.out (by kernel_rfl)) (fun _ _ _ h => h) (Or.inl ⟨by rfl, ?_⟩) ?_ ?_
           rotate_left
           ·intro w'
            go_simp
            with_reducible rfl
           rotate_left
           ·simp only [Act.put, List.setIfInBounds_toArray, List.set_cons_zero, List.set_cons_succ, i64_w, i32_w]
            rfl
           refine pure_ (i := 23) (N := some 67) (v := ?_) (a' := ?_) #[true, true, true, true, true, false, true, true, true, true, false, true, true, true, true, false, true, true, true, true, false, true, true, true, false, false, false] rfl rfl (any_of HT_.out (by kernel_rfl)) (fun _ _ _ h => h) (Or.inl ⟨by rfl, ?_⟩) ?_ ?_
           rotate_left
           ·intro w'
            go_simp
            with_reducible rfl
           rotate_left
           ·simp only [Act.put, List.setIfInBounds_toArray, List.set_cons_zero, List.set_cons_succ, i64_w, i32_w]
            rfl
           refine pure_ (i := 24) (N := some 68) (v := ?_) (a' := ?_) #[true, true, true, true, true, false, true, true, true, true, false, true, true, true, true, false, true, true, true, true, false, true, true, true, true, false, false] rfl rfl (any_of HT_.out (by kernel_rfl)) (fun _ _ _ h => h) (Or.inl ⟨by rfl, ?_⟩) ?_ ?_
           rotate_left
           ·intro w'
            go_simp
            with_reducible rfl
           rotate_left
           ·simp only [Act.put, List.setIfInBounds_toArray, List.set_cons_zero, List.set_cons_succ, i64_w, i32_w]
            rfl
           refine take_ (i := 5) (N := some 49) (v := ?_) (a' := ?_) #[true, true, true, true, true, true, true, true, true, true, false, true, true, true, true, false, true, true, true, true, false, true, true, true, true, false, false] rfl rfl (take_ofW HT_.out HW_.out (by kernel_rfl)) (fun _ _ _ h => h) (Or.inl ⟨by rfl, ?_⟩) hHeld ?_ ?_
           rotate_left
           ·rintro w' ⟨s0, s1, s2, s3, s4, s5, s6, s7, s8, s9, s10, s11, s12, s13, s14, s15, s16, s17, s18, s19, s20, s21, s22, s23, s24, s25, s26, s27, s28, s29⟩
            go_simp
            with_reducible rfl
           rotate_left
           ·simp only [Act.put, List.setIfInBounds_toArray, List.set_cons_zero, List.set_cons_succ, i64_w, i32_w]
            rfl
           refine take_ (i := 10) (N := some 54) (v := ?_) (a' := ?_) #[true, true, true, true, true, true, true, true, true, true, true, true, true, true, true, false, true, true, true, true, false, true, true, true, true, false, false] rfl rfl (take_ofW HT_.out HW_.out (by kernel_rfl)) (fun _ _ _ h => h) (Or.inl ⟨by rfl, ?_⟩) hHeld ?_ ?_
           rotate_left
           ·rintro w' ⟨s0, s1, s2, s3, s4, s5, s6, s7, s8, s9, s10, s11, s12, s13, s14, s15, s16, s17, s18, s19, s20, s21, s22, s23, s24, s25, s26, s27, s28, s29⟩
            go_simp
            with_reducible rfl
           rotate_left
           ·simp only [Act.put, List.setIfInBounds_toArray, List.set_cons_zero, List.set_cons_succ, i64_w, i32_w]
            rfl
           refine take_ (i := 15) (N := some 59) (v := ?_) (a' := ?_) #[true, true, true, true, true, true, true, true, true, true, true, true, true, true, true, true, true, true, true, true, false, true, true, true, true, false, false] rfl rfl (take_ofW HT_.out HW_.out (by kernel_rfl)) (fun _ _ _ h => h) (Or.inl ⟨by rfl, ?_⟩) hHeld ?_ ?_
           rotate_left
           ·rintro w' ⟨s0, s1, s2, s3, s4, s5, s6, s7, s8, s9, s10, s11, s12, s13, s14, s15, s16, s17, s18, s19, s20, s21, s22, s23, s24, s25, s26, s27, s28, s29⟩
            go_simp
            with_reducible rfl
           rotate_left
           ·simp only [Act.put, List.setIfInBounds_toArray, List.set_cons_zero, List.set_cons_succ, i64_w, i32_w]
            rfl
           refine take_ (i := 20) (N := some 64) (v := ?_) (a' := ?_) #[true, true, true, true, true, true, true, true, true, true, true, true, true, true, true, true, true, true, true, true, true, true, true, true, true, false, false] rfl rfl (take_ofW HT_.out HW_.out (by kernel_rfl)) (fun _ _ _ h => h) (Or.inl ⟨by rfl, ?_⟩) hHeld ?_ ?_
           rotate_left
           ·rintro w' ⟨s0, s1, s2, s3, s4, s5, s6, s7, s8, s9, s10, s11, s12, s13, s14, s15, s16, s17, s18, s19, s20, s21, s22, s23, s24, s25, s26, s27, s28, s29⟩
            go_simp
            with_reducible rfl
           rotate_left
           ·simp only [Act.put, List.setIfInBounds_toArray, List.set_cons_zero, List.set_cons_succ, i64_w, i32_w]
            rfl
           refine take_ (i := 25) (N := some 69) (v := ?_) (a' := ?_) #[true, true, true, true, true, true, true, true, true, true, true, true, true, true, true, true, true, true, true, true, true, true, true, true, true, true, false] rfl rfl (take_ofW HT_.out HW_.out (by kernel_rfl)) (fun _ _ _ h => h) (Or.inl ⟨by rfl, ?_⟩) hHeld ?_ ?_
           rotate_left
           ·rintro w' ⟨s0, s1, s2, s3, s4, s5, s6, s7, s8, s9, s10, s11, s12, s13, s14, s15, s16, s17, s18, s19, s20, s21, s22, s23, s24, s25, s26, s27, s28, s29⟩
            go_simp
            with_reducible rfl
           rotate_left
           ·simp only [Act.put, List.setIfInBounds_toArray, List.set_cons_zero, List.set_cons_succ, i64_w, i32_w]
            rfl
           refine one_ (i := 26) (N := some 70) #[true, true, true, true, true, true, true, true, true, true, true, true, true, true, true, true, true, true, true, true, true, true, true, true, true, true, true] rfl rfl (one_of HT_.out (by kernel_rfl)) (by decide) (fun K hK => ?_)
           refine goes_ Try.func11 (by kernel_rfl) rfl #[.pointer (some ⟨g434, 0, none⟩), .int .i64 ((rd_T24 l1 x9_2).f1), .int .i64 ((rd_T24 l1 x9_2).f2), .int .i64 ((rd_T24 l1 x9_2).f3), .bool ((rd_T24 l1 x9_2).f5), .int .i64 ((rd_T24 l1 x9_2).f4)] (by rfl) rfl rfl (by (try simp only [List.map_toArray, List.map_cons, List.map_nil]); first | done | rfl | (simp only [List.length_drop, List.length_take]; rfl)) ?_
           with_reducible refine (guard_Guard_Hear.calls g434 x435000_2 x435001_2 x435002_2 x435003_2 x435004_2 x435005_2 x435006_2 x435007_2 x435008_2 x435009_2 x435010_2 t427 x435012_2 x435013_2 x435014_2 x435015_2 x435016_2 x435017_2 ((rd_T24 l1 x9_2).f1) ((rd_T24 l1 x9_2).f2) ((rd_T24 l1 x9_2).f3) ((rd_T24 l1 x9_2).f5) ((rd_T24 l1 x9_2).f4) t442 t443 t444 t445 t446 t447 t448 t449 t450 t451 t452 t453 t454 t455 t456 t457 t458 t459 w _ ?side1 ?side2 A24.out).mono ?_
           (case side1 => repeat (first | (with_reducible first | exact HI434.out | apply IsS48.alloc | apply IsS48.drewN | apply IsS48.drew | apply IsS48.set_0 | apply IsS48.set_1 | apply IsS48.set_2 | apply IsS48.set_3 | apply IsS48.set_4 | apply IsS48.set_5 | apply IsS48.set_6 | apply IsS48.set_7 | apply IsS48.set_8 | apply IsS48.set_9 | apply IsS48.set_10 | apply IsS48.set_12 | apply IsS48.set_13 | apply IsS48.set_14 | apply IsS48.set_15 | apply IsS48.set_16 | apply IsS48.set_17 | refine IsS48.far ?_ NB434_414.out _ | refine IsS48.far ?_ NB434_415.out _) | exact HI434.out))
           (case side2 => repeat (first | (with_reducible first | exact HB.out | apply below_alloc | apply pw_below_drewN | apply below_drew1 | refine below_set ?_ (IsS48.ge HI434.out) | refine below_set ?_ GE414.out | refine below_set ?_ GE415.out) | exact HB.out))
           rintro e w26 ⟨rfl, hi, hb, hk⟩
           refine ⟨_, rfl, ?_⟩
           have n0_ := Aside0.mk (KeepBut.blk hk (g' := gb414) (o := .cells #[.int .i64 a0_0, .int .i64 a0_1, .int .i64 a0_2, .int .i64 a0_3, .int .i64 a0_4, .int .i64 a0_5, .int .i64 a0_6, .int .i64 a0_7, .int .i64 a0_8, .int .i64 a0_9, .int .i64 a0_10, .slice A0_11 l0_11.length c0_11, .int .i64 a0_12] 27 (0, 0)) (by (with_reducible repeat (first | refine blk_drewN ?_ _ | refine blk_drew ?_ | refine blk_alloc ?_ _)); exact BK414.out) NB414_434.out (by simp))
           have n1_ := Aside0.mk (KeepBut.blk hk (g' := gb415) (o := .cells #[.int .i64 a2_0, .int .i64 a2_1, .int .i64 a2_2, .int .i64 a2_3, .int .i64 a2_4, .bool a2_5] 24 (0, 0)) (by (with_reducible repeat (first | refine blk_drewN ?_ _ | refine blk_drew ?_ | refine blk_alloc ?_ _)); exact BK415.out) NB415_434.out (by simp))
           have n2_ := Aside0.mk (hb)
           have n3_ := Aside0.mk (hi)
           clear BK414
           clear BK415
           clear HB
           clear HI434
           have BK414 := n0_
           have BK415 := n1_
           have HB := n2_
           have HI434 := n3_
           clear n0_ n1_ n2_ n3_
           (try clear hb)
           (try clear hb2)
           (try clear hk)
           (try clear hi)
           refine hK.out _ _ ⟨((HB.out.cell (World.block_lt_of_cell? w _ hw437_0)).trans hw437_0), ((HB.out.cell (World.block_lt_of_cell? w _ hw437_1)).trans hw437_1), ((HB.out.cell (World.block_lt_of_cell? w _ hw437_2)).trans hw437_2), ((HB.out.cell (World.block_lt_of_cell? w _ hw437_3)).trans hw437_3), ((HB.out.cell (World.block_lt_of_cell? w _ hw437_4)).trans hw437_4), ((HB.out.cell (World.block_lt_of_cell? w _ hw437_5)).trans hw437_5), ((HB.out.cell (World.block_lt_of_cell? w _ hw438_0)).trans hw438_0), ((HB.out.cell (World.block_lt_of_cell? w _ hw438_1)).trans hw438_1), ((HB.out.cell (World.block_lt_of_cell? w _ hw438_2)).trans hw438_2), ((HB.out.cell (World.block_lt_of_cell? w _ hw438_3)).trans hw438_3), ((HB.out.cell (World.block_lt_of_cell? w _ hw438_4)).trans hw438_4), ((HB.out.cell (World.block_lt_of_cell? w _ hw438_5)).trans hw438_5), ((HB.out.cell (World.block_lt_of_cell? w _ hw439_0)).trans hw439_0), ((HB.out.cell (World.block_lt_of_cell? w _ hw439_1)).trans hw439_1), ((HB.out.cell (World.block_lt_of_cell? w _ hw439_2)).trans hw439_2), ((HB.out.cell (World.block_lt_of_cell? w _ hw439_3)).trans hw439_3), ((HB.out.cell (World.block_lt_of_cell? w _ hw439_4)).trans hw439_4), ((HB.out.cell (World.block_lt_of_cell? w _ hw439_5)).trans hw439_5), ((HB.out.cell (World.block_lt_of_cell? w _ hw440_0)).trans hw440_0), ((HB.out.cell (World.block_lt_of_cell? w _ hw440_1)).trans hw440_1), ((HB.out.cell (World.block_lt_of_cell? w _ hw440_2)).trans hw440_2), ((HB.out.cell (World.block_lt_of_cell? w _ hw440_3)).trans hw440_3), ((HB.out.cell (World.block_lt_of_cell? w _ hw440_4)).trans hw440_4), ((HB.out.cell (World.block_lt_of_cell? w _ hw440_5)).trans hw440_5), ((HB.out.cell (World.block_lt_of_cell? w _ hw441_0)).trans hw441_0), ((HB.out.cell (World.block_lt_of_cell? w _ hw441_1)).trans hw441_1), ((HB.out.cell (World.block_lt_of_cell? w _ hw441_2)).trans hw441_2), ((HB.out.cell (World.block_lt_of_cell? w _ hw441_3)).trans hw441_3), ((HB.out.cell (World.block_lt_of_cell? w _ hw441_4)).trans hw441_4), ((HB.out.cell (World.block_lt_of_cell? w _ hw441_5)).trans hw441_5)⟩ (fun hHeld => ?_)
           clear hK K
           refine norm_ (a' := ?_) ?_ ?_
           rotate_left
           ·show Act.put _ (some 70) _ = _
            simp only [Act.put, List.setIfInBounds_toArray, List.set_cons_zero, List.set_cons_succ, i64_w, i32_w]
            rfl
           refine done_ (done_of HT_.out (by kernel_rfl)) ?_
           try go_wp2
           go_roundg k2
           case measure => have := HJ5.out; have := HK2.out; omega
           case rel => exact ⟨(wrap64 (x9_2 + 1)), (t443), (t444), (t445), (t446), (t447), (t448), (t449), (t450), (t451), (t452), (t453), (t454), (t455), (t456), (t457), (t458), (t459), (by first | rfl | (simp; done) | (simp [*]; done)), H', ⟨by have := HJ5.out; have := HK2.out; omega⟩, ⟨by (with_reducible repeat (first | refine blk_drewN ?_ _ | refine blk_drew ?_ | refine blk_alloc ?_ _)); exact BK414.out⟩, ⟨by (with_reducible repeat (first | refine blk_drewN ?_ _ | refine blk_drew ?_ | refine blk_alloc ?_ _)); exact BK415.out⟩, ⟨by repeat (first | (with_reducible first | exact HI434.out | apply IsS48.alloc | apply IsS48.drewN | apply IsS48.drew | apply IsS48.set_0 | apply IsS48.set_1 | apply IsS48.set_2 | apply IsS48.set_3 | apply IsS48.set_4 | apply IsS48.set_5 | apply IsS48.set_6 | apply IsS48.set_7 | apply IsS48.set_8 | apply IsS48.set_9 | apply IsS48.set_10 | apply IsS48.set_12 | apply IsS48.set_13 | apply IsS48.set_14 | apply IsS48.set_15 | apply IsS48.set_16 | apply IsS48.set_17 | refine IsS48.far ?_ NB434_414.out _ | refine IsS48.far ?_ NB434_415.out _) | exact HI434.out)⟩, ⟨by repeat (first | (with_reducible first | exact HB.out | apply below_alloc | apply pw_below_drewN | apply below_drew1 | refine below_set ?_ (IsS48.ge HI434.out) | refine below_set ?_ GE414.out | refine below_set ?_ GE415.out) | exact HB.out)⟩⟩
          ·rw [if_neg c23] at H
           exact absurd H (by simp)
         ·rw [if_neg c22] at H
          have c22b0 : decide (x9_2 < 100) = false := decide_eq_false c22
          clear c22
          have H' := Aside0.mk H
          clear H
          go_wp2
          go_meet
          case rel => exact ⟨_, (x435000_2), (x435001_2), (x435002_2), (x435003_2), (x435004_2), (x435005_2), (x435006_2), (x435007_2), (x435008_2), (x435009_2), (x435010_2), (x435012_2), (x435013_2), (x435014_2), (x435015_2), (x435016_2), (x435017_2), H', ⟨by have := HJ5.out; have := HK2.out; first | omega | exact Nat.le_refl _⟩, ⟨by (with_reducible repeat (first | refine blk_drewN ?_ _ | refine blk_drew ?_ | refine blk_alloc ?_ _)); exact BK414.out⟩, ⟨by (with_reducible repeat (first | refine blk_drewN ?_ _ | refine blk_drew ?_ | refine blk_alloc ?_ _)); exact BK415.out⟩, ⟨by repeat (first | (with_reducible first | exact HI434.out | apply IsS48.alloc | apply IsS48.drewN | apply IsS48.drew | apply IsS48.set_0 | apply IsS48.set_1 | apply IsS48.set_2 | apply IsS48.set_3 | apply IsS48.set_4 | apply IsS48.set_5 | apply IsS48.set_6 | apply IsS48.set_7 | apply IsS48.set_8 | apply IsS48.set_9 | apply IsS48.set_10 | apply IsS48.set_12 | apply IsS48.set_13 | apply IsS48.set_14 | apply IsS48.set_15 | apply IsS48.set_16 | apply IsS48.set_17 | refine IsS48.far ?_ NB434_414.out _ | refine IsS48.far ?_ NB434_415.out _) | exact HI434.out)⟩, ⟨by repeat (first | (with_reducible first | exact HB.out | apply below_alloc | apply pw_below_drewN | apply below_drew1 | refine below_set ?_ (IsS48.ge HI434.out) | refine below_set ?_ GE414.out | refine below_set ?_ GE415.out) | exact HB.out)⟩⟩
        ·rw [if_neg c21] at H
         have c21b0 : decide (x9_2 < (l1.length : Int)) = false := decide_eq_false c21
         clear c21
         (first | rw [c21b0] | (simp only [i64_w, i32_w]; rw [c21b0]) | skip)
         have H' := Aside0.mk H
         clear H
         go_wp2
         go_meet
         case rel => exact ⟨_, (x435000_2), (x435001_2), (x435002_2), (x435003_2), (x435004_2), (x435005_2), (x435006_2), (x435007_2), (x435008_2), (x435009_2), (x435010_2), (x435012_2), (x435013_2), (x435014_2), (x435015_2), (x435016_2), (x435017_2), H', ⟨by have := HJ5.out; have := HK2.out; first | omega | exact Nat.le_refl _⟩, ⟨by (with_reducible repeat (first | refine blk_drewN ?_ _ | refine blk_drew ?_ | refine blk_alloc ?_ _)); exact BK414.out⟩, ⟨by (with_reducible repeat (first | refine blk_drewN ?_ _ | refine blk_drew ?_ | refine blk_alloc ?_ _)); exact BK415.out⟩, ⟨by repeat (first | (with_reducible first | exact HI434.out | apply IsS48.alloc | apply IsS48.drewN | apply IsS48.drew | apply IsS48.set_0 | apply IsS48.set_1 | apply IsS48.set_2 | apply IsS48.set_3 | apply IsS48.set_4 | apply IsS48.set_5 | apply IsS48.set_6 | apply IsS48.set_7 | apply IsS48.set_8 | apply IsS48.set_9 | apply IsS48.set_10 | apply IsS48.set_12 | apply IsS48.set_13 | apply IsS48.set_14 | apply IsS48.set_15 | apply IsS48.set_16 | apply IsS48.set_17 | refine IsS48.far ?_ NB434_414.out _ | refine IsS48.far ?_ NB434_415.out _) | exact HI434.out)⟩, ⟨by repeat (first | (with_reducible first | exact HB.out | apply below_alloc | apply pw_below_drewN | apply below_drew1 | refine below_set ?_ (IsS48.ge HI434.out) | refine below_set ?_ GE414.out | refine below_set ?_ GE415.out) | exact HB.out)⟩⟩
     case rest =>
      clear HC20
      try clear c1
      try clear c2
      try clear p2
      try clear c4
      try clear c4b0
      try clear p4
      try clear q4
      try clear hx4
      try clear c5
      try clear p6
      try clear c9
      try clear c10
      try clear c11
      try clear c12
      try clear c12b0
      try clear c12b1
      try clear c13
      try clear c14
      try clear c16
      try clear c17
      try clear c17b0
      try clear c17b1
      try clear c21
      try clear c21b0
      try clear c22
      try clear c22b0
      try clear c23
      try clear c23b0
      try clear hcz10_0
      try clear hcz10_1
      try clear hcz10_10
      try clear hcz10_11
      try clear hcz10_12
      try clear hcz10_2
      try clear hcz10_3
      try clear hcz10_4
      try clear hcz10_5
      try clear hcz10_6
      try clear hcz10_7
      try clear hcz10_8
      try clear hcz10_9
      try clear hcz15_0
      try clear hcz15_1
      try clear hcz15_10
      try clear hcz15_11
      try clear hcz15_12
      try clear hcz15_2
      try clear hcz15_3
      try clear hcz15_4
      try clear hcz15_5
      try clear hcz15_6
      try clear hcz15_7
      try clear hcz15_8
      try clear hcz15_9
      try clear hfz10_0
      try clear hfz10_1
      try clear hfz10_10
      try clear hfz10_11
      try clear hfz10_12
      try clear hfz10_2
      try clear hfz10_3
      try clear hfz10_4
      try clear hfz10_5
      try clear hfz10_6
      try clear hfz10_7
      try clear hfz10_8
      try clear hfz10_9
      try clear hfz15_0
      try clear hfz15_1
      try clear hfz15_10
      try clear hfz15_11
      try clear hfz15_12
      try clear hfz15_2
      try clear hfz15_3
      try clear hfz15_4
      try clear hfz15_5
      try clear hfz15_6
      try clear hfz15_7
      try clear hfz15_8
      try clear hfz15_9
      try clear hx437_0
      try clear hx437_1
      try clear hx437_2
      try clear hx437_3
      try clear hx437_4
      try clear hx437_5
      try clear hx438_0
      try clear hx438_1
      try clear hx438_2
      try clear hx438_3
      try clear hx438_4
      try clear hx438_5
      try clear hx439_0
      try clear hx439_1
      try clear hx439_2
      try clear hx439_3
      try clear hx439_4
      try clear hx439_5
      try clear hx440_0
      try clear hx440_1
      try clear hx440_2
      try clear hx440_3
      try clear hx440_4
      try clear hx440_5
      try clear hx441_0
      try clear hx441_1
      try clear hx441_2
      try clear hx441_3
      try clear hx441_4
      try clear hx441_5
      try clear p2
      try clear p437
      try clear p438
      try clear p439
      try clear p440
      try clear p441
      try clear q437
      try clear q438
      try clear q439
      try clear q440
      try clear q441
      obtain ⟨kq, x435000_19, x435001_19, x435002_19, x435003_19, x435004_19, x435005_19, x435006_19, x435007_19, x435008_19, x435009_19, x435010_19, x435012_19, x435013_19, x435014_19, x435015_19, x435016_19, x435017_19, HA, HJ19, BK414, BK415, HI434, HB⟩ := hcut
      cases kq with
      | zero => exact absurd HA.out (by simp [flywheellaw28_GuardFree.j2])
      | succ kj19 =>
       have H := HA.out
       clear HA
       simp only [flywheellaw28_GuardFree.j2] at H
       obtain ⟨ji27, hji27⟩ : ∃ j_ : Int, (mn a2_1 a0_2) = j_ := ⟨_, rfl⟩
       replace H : ((guard_Guard_Hear.f x435000_19 x435001_19 x435002_19 x435003_19 x435004_19 x435005_19 x435006_19 x435007_19 x435008_19 x435009_19 x435010_19 t427 x435012_19 x435013_19 x435014_19 x435015_19 x435016_19 x435017_19 a2_1 (wrap64 (a0_5 + 1)) a2_3 false a2_4).bind fun bt460 => (if bt460.1 = (mx a0_1 (ji27)) then ((guard_Guard_Brakes.f bt460.2.1 bt460.2.2.1 bt460.2.2.2.1 bt460.2.2.2.2.1 bt460.2.2.2.2.2.1 bt460.2.2.2.2.2.2.1 bt460.2.2.2.2.2.2.2.1 bt460.2.2.2.2.2.2.2.2.1 bt460.2.2.2.2.2.2.2.2.2.1 bt460.2.2.2.2.2.2.2.2.2.2.1 bt460.2.2.2.2.2.2.2.2.2.2.2.1 t427 bt460.2.2.2.2.2.2.2.2.2.2.2.2.1 bt460.2.2.2.2.2.2.2.2.2.2.2.2.2.1 bt460.2.2.2.2.2.2.2.2.2.2.2.2.2.2.1 bt460.2.2.2.2.2.2.2.2.2.2.2.2.2.2.2.1 bt460.2.2.2.2.2.2.2.2.2.2.2.2.2.2.2.2.1 bt460.2.2.2.2.2.2.2.2.2.2.2.2.2.2.2.2.2).bind fun bt478 => (if bt478.1 = true then (some false) else ((guard_Guard_Hear.f bt478.2.1 bt478.2.2.1 bt478.2.2.2.1 bt478.2.2.2.2.1 bt478.2.2.2.2.2.1 bt478.2.2.2.2.2.2.1 bt478.2.2.2.2.2.2.2.1 bt478.2.2.2.2.2.2.2.2.1 bt478.2.2.2.2.2.2.2.2.2.1 bt478.2.2.2.2.2.2.2.2.2.2.1 bt478.2.2.2.2.2.2.2.2.2.2.2.1 t427 bt478.2.2.2.2.2.2.2.2.2.2.2.2.1 bt478.2.2.2.2.2.2.2.2.2.2.2.2.2.1 bt478.2.2.2.2.2.2.2.2.2.2.2.2.2.2.1 bt478.2.2.2.2.2.2.2.2.2.2.2.2.2.2.2.1 bt478.2.2.2.2.2.2.2.2.2.2.2.2.2.2.2.2.1 bt478.2.2.2.2.2.2.2.2.2.2.2.2.2.2.2.2.2 a2_1 a0_4 a2_3 false a2_4).bind fun bt496 => (if bt496.1 = (mx a0_1 (ji27)) then ((flywheellaw28_wakes.f).bind fun t514 => (some t514)) else (some false))))) else (some false))) = some r := by first | (rw [hji27] at H; exact H) | (simp only [hji27] at H ⊢; exact H)
       have hji27_ : (if a0_2 < a2_1 then a0_2 else a2_1) = ji27 := hji27
       obtain ⟨ji28, hji28⟩ : ∃ j_ : Int, (mx a0_1 (ji27)) = j_ := ⟨_, rfl⟩
       replace H : ((guard_Guard_Hear.f x435000_19 x435001_19 x435002_19 x435003_19 x435004_19 x435005_19 x435006_19 x435007_19 x435008_19 x435009_19 x435010_19 t427 x435012_19 x435013_19 x435014_19 x435015_19 x435016_19 x435017_19 a2_1 (wrap64 (a0_5 + 1)) a2_3 false a2_4).bind fun bt460 => (if bt460.1 = (ji28) then ((guard_Guard_Brakes.f bt460.2.1 bt460.2.2.1 bt460.2.2.2.1 bt460.2.2.2.2.1 bt460.2.2.2.2.2.1 bt460.2.2.2.2.2.2.1 bt460.2.2.2.2.2.2.2.1 bt460.2.2.2.2.2.2.2.2.1 bt460.2.2.2.2.2.2.2.2.2.1 bt460.2.2.2.2.2.2.2.2.2.2.1 bt460.2.2.2.2.2.2.2.2.2.2.2.1 t427 bt460.2.2.2.2.2.2.2.2.2.2.2.2.1 bt460.2.2.2.2.2.2.2.2.2.2.2.2.2.1 bt460.2.2.2.2.2.2.2.2.2.2.2.2.2.2.1 bt460.2.2.2.2.2.2.2.2.2.2.2.2.2.2.2.1 bt460.2.2.2.2.2.2.2.2.2.2.2.2.2.2.2.2.1 bt460.2.2.2.2.2.2.2.2.2.2.2.2.2.2.2.2.2).bind fun bt478 => (if bt478.1 = true then (some false) else ((guard_Guard_Hear.f bt478.2.1 bt478.2.2.1 bt478.2.2.2.1 bt478.2.2.2.2.1 bt478.2.2.2.2.2.1 bt478.2.2.2.2.2.2.1 bt478.2.2.2.2.2.2.2.1 bt478.2.2.2.2.2.2.2.2.1 bt478.2.2.2.2.2.2.2.2.2.1 bt478.2.2.2.2.2.2.2.2.2.2.1 bt478.2.2.2.2.2.2.2.2.2.2.2.1 t427 bt478.2.2.2.2.2.2.2.2.2.2.2.2.1 bt478.2.2.2.2.2.2.2.2.2.2.2.2.2.1 bt478.2.2.2.2.2.2.2.2.2.2.2.2.2.2.1 bt478.2.2.2.2.2.2.2.2.2.2.2.2.2.2.2.1 bt478.2.2.2.2.2.2.2.2.2.2.2.2.2.2.2.2.1 bt478.2.2.2.2.2.2.2.2.2.2.2.2.2.2.2.2.2 a2_1 a0_4 a2_3 false a2_4).bind fun bt496 => (if bt496.1 = (ji28) then ((flywheellaw28_wakes.f).bind fun t514 => (some t514)) else (some false))))) else (some false))) = some r := by first | (rw [hji28] at H; exact H) | (simp only [hji28] at H ⊢; exact H)
       have hji28_ : (if a0_1 < (ji27) then (ji27) else a0_1) = ji28 := hji28
       replace H := Option.bind_eq_some_iff.mp H
       obtain ⟨⟨t460, t461, t462, t463, t464, t465, t466, t467, t468, t469, t470, t471, t472, t473, t474, t475, t476, t477⟩, A290, H⟩ := H
       replace H : (if t460 = (ji28) then ((guard_Guard_Brakes.f t461 t462 t463 t464 t465 t466 t467 t468 t469 t470 t471 t427 t472 t473 t474 t475 t476 t477).bind fun bt478 => (if bt478.1 = true then (some false) else ((guard_Guard_Hear.f bt478.2.1 bt478.2.2.1 bt478.2.2.2.1 bt478.2.2.2.2.1 bt478.2.2.2.2.2.1 bt478.2.2.2.2.2.2.1 bt478.2.2.2.2.2.2.2.1 bt478.2.2.2.2.2.2.2.2.1 bt478.2.2.2.2.2.2.2.2.2.1 bt478.2.2.2.2.2.2.2.2.2.2.1 bt478.2.2.2.2.2.2.2.2.2.2.2.1 t427 bt478.2.2.2.2.2.2.2.2.2.2.2.2.1 bt478.2.2.2.2.2.2.2.2.2.2.2.2.2.1 bt478.2.2.2.2.2.2.2.2.2.2.2.2.2.2.1 bt478.2.2.2.2.2.2.2.2.2.2.2.2.2.2.2.1 bt478.2.2.2.2.2.2.2.2.2.2.2.2.2.2.2.2.1 bt478.2.2.2.2.2.2.2.2.2.2.2.2.2.2.2.2.2 a2_1 a0_4 a2_3 false a2_4).bind fun bt496 => (if bt496.1 = (ji28) then ((flywheellaw28_wakes.f).bind fun t514 => (some t514)) else (some false))))) else (some false)) = some r := H
       have A29 := Aside0.mk A290
       clear A290
       by_cases c30 : t460 = (ji28)
       ·rw [if_pos c30] at H
        have c30b0 : (t460 == (ji28)) = true := beq_iff_eq.mpr c30
        have c30b1 : (t460 != (ji28)) = false := bne_eq_false_iff_eq.mpr c30
        clear c30
        replace H := Option.bind_eq_some_iff.mp H
        obtain ⟨⟨t478, t479, t480, t481, t482, t483, t484, t485, t486, t487, t488, t489, t490, t491, t492, t493, t494, t495⟩, A310, H⟩ := H
        replace H : (if t478 = true then (some false) else ((guard_Guard_Hear.f t479 t480 t481 t482 t483 t484 t485 t486 t487 t488 t489 t427 t490 t491 t492 t493 t494 t495 a2_1 a0_4 a2_3 false a2_4).bind fun bt496 => (if bt496.1 = (ji28) then ((flywheellaw28_wakes.f).bind fun t514 => (some t514)) else (some false)))) = some r := H
        have A31 := Aside0.mk A310
        clear A310
        by_cases c32 : t478 = true
        ·subst c32
         have H1 : (some false) = some r := by rw [if_pos rfl] at H; exact H
         clear H
         have H := H1
         clear H1
         obtain rfl := Option.some.inj H
         have hnb33 := NB414_415.out
         have hnc33 := NB415_414.out
         have hnb34 := NB414_434.out
         have hnc34 := NB434_414.out
         have hcz35_0 : wc.cell? ⟨gb414, 0, none⟩ = some (.int .i64 a0_0) := (blk_cell BK414.out 0).trans rfl
         have hcz35_1 : wc.cell? ⟨gb414, 1, none⟩ = some (.int .i64 a0_1) := (blk_cell BK414.out 1).trans rfl
         have hcz35_2 : wc.cell? ⟨gb414, 2, none⟩ = some (.int .i64 a0_2) := (blk_cell BK414.out 2).trans rfl
         have hcz35_3 : wc.cell? ⟨gb414, 3, none⟩ = some (.int .i64 a0_3) := (blk_cell BK414.out 3).trans rfl
         have hcz35_4 : wc.cell? ⟨gb414, 4, none⟩ = some (.int .i64 a0_4) := (blk_cell BK414.out 4).trans rfl
         have hcz35_5 : wc.cell? ⟨gb414, 5, none⟩ = some (.int .i64 a0_5) := (blk_cell BK414.out 5).trans rfl
         have hcz35_6 : wc.cell? ⟨gb414, 6, none⟩ = some (.int .i64 a0_6) := (blk_cell BK414.out 6).trans rfl
         have hcz35_7 : wc.cell? ⟨gb414, 7, none⟩ = some (.int .i64 a0_7) := (blk_cell BK414.out 7).trans rfl
         have hcz35_8 : wc.cell? ⟨gb414, 8, none⟩ = some (.int .i64 a0_8) := (blk_cell BK414.out 8).trans rfl
         have hcz35_9 : wc.cell? ⟨gb414, 9, none⟩ = some (.int .i64 a0_9) := (blk_cell BK414.out 9).trans rfl
         have hcz35_10 : wc.cell? ⟨gb414, 10, none⟩ = some (.int .i64 a0_10) := (blk_cell BK414.out 10).trans rfl
         have hcz35_11 : wc.cell? ⟨gb414, 11, none⟩ = some (.slice A0_11 l0_11.length c0_11) := (blk_cell BK414.out 11).trans rfl
         have hcz35_12 : wc.cell? ⟨gb414, 12, none⟩ = some (.int .i64 a0_12) := (blk_cell BK414.out 12).trans rfl
         have hfz35_0 := blk_frozen BK414.out 0
         have hfz35_1 := blk_frozen BK414.out 1
         have hfz35_2 := blk_frozen BK414.out 2
         have hfz35_3 := blk_frozen BK414.out 3
         have hfz35_4 := blk_frozen BK414.out 4
         have hfz35_5 := blk_frozen BK414.out 5
         have hfz35_6 := blk_frozen BK414.out 6
         have hfz35_7 := blk_frozen BK414.out 7
         have hfz35_8 := blk_frozen BK414.out 8
         have hfz35_9 := blk_frozen BK414.out 9
         have hfz35_10 := blk_frozen BK414.out 10
         have hfz35_11 := blk_frozen BK414.out 11
         have hfz35_12 := blk_frozen BK414.out 12
         have hnb36 := NB415_434.out
         have hnc36 := NB434_415.out
         have hcz37_0 : wc.cell? ⟨gb415, 0, none⟩ = some (.int .i64 a2_0) := (blk_cell BK415.out 0).trans rfl
         have hcz37_1 : wc.cell? ⟨gb415, 1, none⟩ = some (.int .i64 a2_1) := (blk_cell BK415.out 1).trans rfl
         have hcz37_2 : wc.cell? ⟨gb415, 2, none⟩ = some (.int .i64 a2_2) := (blk_cell BK415.out 2).trans rfl
         have hcz37_3 : wc.cell? ⟨gb415, 3, none⟩ = some (.int .i64 a2_3) := (blk_cell BK415.out 3).trans rfl
         have hcz37_4 : wc.cell? ⟨gb415, 4, none⟩ = some (.int .i64 a2_4) := (blk_cell BK415.out 4).trans rfl
         have hcz37_5 : wc.cell? ⟨gb415, 5, none⟩ = some (.bool a2_5) := (blk_cell BK415.out 5).trans rfl
         have hfz37_0 := blk_frozen BK415.out 0
         have hfz37_1 := blk_frozen BK415.out 1
         have hfz37_2 := blk_frozen BK415.out 2
         have hfz37_3 := blk_frozen BK415.out 3
         have hfz37_4 := blk_frozen BK415.out 4
         have hfz37_5 := blk_frozen BK415.out 5
         go_wp2_with (first | ((with_reducible refine gate_callee (f := 11) rfl ?_); refine goesL_ (some 89) rfl rfl Try.func11 (by kernel_rfl) rfl #[.pointer (some ⟨g434, 0, none⟩), .int .i64 a2_1, .int .i64 (wrap64 (a0_5 + 1)), .int .i64 a2_3, .bool false, .int .i64 a2_4] rfl (by (try simp only [List.map_toArray, List.map_cons, List.map_nil]); first | done | rfl | (simp only [List.length_drop, List.length_take]; rfl)) ?_; (with_reducible refine (guard_Guard_Hear.calls g434 x435000_19 x435001_19 x435002_19 x435003_19 x435004_19 x435005_19 x435006_19 x435007_19 x435008_19 x435009_19 x435010_19 t427 x435012_19 x435013_19 x435014_19 x435015_19 x435016_19 x435017_19 a2_1 (wrap64 (a0_5 + 1)) a2_3 false a2_4 t460 t461 t462 t463 t464 t465 t466 t467 t468 t469 t470 t471 t472 t473 t474 t475 t476 t477 w _ ?side1 ?side2 A29.out).mono ?_); (case side1 => repeat (first | (with_reducible first | exact HI434.out | apply IsS48.alloc | apply IsS48.drewN | apply IsS48.drew | apply IsS48.set_0 | apply IsS48.set_1 | apply IsS48.set_2 | apply IsS48.set_3 | apply IsS48.set_4 | apply IsS48.set_5 | apply IsS48.set_6 | apply IsS48.set_7 | apply IsS48.set_8 | apply IsS48.set_9 | apply IsS48.set_10 | apply IsS48.set_12 | apply IsS48.set_13 | apply IsS48.set_14 | apply IsS48.set_15 | apply IsS48.set_16 | apply IsS48.set_17 | refine IsS48.far ?_ NB434_414.out _ | refine IsS48.far ?_ NB434_415.out _) | exact HI434.out)); (case side2 => repeat (first | (with_reducible first | exact HB.out | apply below_alloc | apply pw_below_drewN | apply below_drew1 | refine below_set ?_ (IsS48.ge HI434.out) | refine below_set ?_ GE414.out | refine below_set ?_ GE415.out) | exact HB.out)); rintro e w38 ⟨rfl, hi, hb, hk⟩; refine ⟨_, rfl, ?_⟩; have n0_ := Aside0.mk (KeepBut.blk hk (g' := gb414) (o := .cells #[.int .i64 a0_0, .int .i64 a0_1, .int .i64 a0_2, .int .i64 a0_3, .int .i64 a0_4, .int .i64 a0_5, .int .i64 a0_6, .int .i64 a0_7, .int .i64 a0_8, .int .i64 a0_9, .int .i64 a0_10, .slice A0_11 l0_11.length c0_11, .int .i64 a0_12] 27 (0, 0)) (by (with_reducible repeat (first | refine blk_drewN ?_ _ | refine blk_drew ?_ | refine blk_alloc ?_ _)); exact BK414.out) NB414_434.out (by simp)); have n1_ := Aside0.mk (KeepBut.blk hk (g' := gb415) (o := .cells #[.int .i64 a2_0, .int .i64 a2_1, .int .i64 a2_2, .int .i64 a2_3, .int .i64 a2_4, .bool a2_5] 24 (0, 0)) (by (with_reducible repeat (first | refine blk_drewN ?_ _ | refine blk_drew ?_ | refine blk_alloc ?_ _)); exact BK415.out) NB415_434.out (by simp)); have n2_ := Aside0.mk (hb); have n3_ := Aside0.mk (hi); clear BK414; clear BK415; clear HB; clear HI434; have BK414 := n0_; have BK415 := n1_; have HB := n2_; have HI434 := n3_; clear n0_ n1_ n2_ n3_; (try clear hb); (try clear hb2); (try clear hk); (try clear hi)) | (go_at_call 13; (with_reducible refine (guard_Guard_Brakes.calls g434 t461 t462 t463 t464 t465 t466 t467 t468 t469 t470 t471 t427 t472 t473 t474 t475 t476 t477 true t479 t480 t481 t482 t483 t484 t485 t486 t487 t488 t489 t490 t491 t492 t493 t494 t495 w _ ?side1 ?side2 A31.out).mono ?_); (case side1 => repeat (first | (with_reducible first | exact HI434.out | apply IsS48.alloc | apply IsS48.drewN | apply IsS48.drew | apply IsS48.set_0 | apply IsS48.set_1 | apply IsS48.set_2 | apply IsS48.set_3 | apply IsS48.set_4 | apply IsS48.set_5 | apply IsS48.set_6 | apply IsS48.set_7 | apply IsS48.set_8 | apply IsS48.set_9 | apply IsS48.set_10 | apply IsS48.set_12 | apply IsS48.set_13 | apply IsS48.set_14 | apply IsS48.set_15 | apply IsS48.set_16 | apply IsS48.set_17 | refine IsS48.far ?_ NB434_414.out _ | refine IsS48.far ?_ NB434_415.out _) | exact HI434.out)); (case side2 => repeat (first | (with_reducible first | exact HB.out | apply below_alloc | apply pw_below_drewN | apply below_drew1 | refine below_set ?_ (IsS48.ge HI434.out) | refine below_set ?_ GE414.out | refine below_set ?_ GE415.out) | exact HB.out)); rintro e w39 ⟨rfl, hi, hb, hk⟩; have n0_ := Aside0.mk (KeepBut.blk hk (g' := gb414) (o := .cells #[.int .i64 a0_0, .int .i64 a0_1, .int .i64 a0_2, .int .i64 a0_3, .int .i64 a0_4, .int .i64 a0_5, .int .i64 a0_6, .int .i64 a0_7, .int .i64 a0_8, .int .i64 a0_9, .int .i64 a0_10, .slice A0_11 l0_11.length c0_11, .int .i64 a0_12] 27 (0, 0)) (by (with_reducible repeat (first | refine blk_drewN ?_ _ | refine blk_drew ?_ | refine blk_alloc ?_ _)); exact BK414.out) NB414_434.out (by simp)); have n1_ := Aside0.mk (KeepBut.blk hk (g' := gb415) (o := .cells #[.int .i64 a2_0, .int .i64 a2_1, .int .i64 a2_2, .int .i64 a2_3, .int .i64 a2_4, .bool a2_5] 24 (0, 0)) (by (with_reducible repeat (first | refine blk_drewN ?_ _ | refine blk_drew ?_ | refine blk_alloc ?_ _)); exact BK415.out) NB415_434.out (by simp)); have n2_ := Aside0.mk (hb); have n3_ := Aside0.mk (hi); clear BK414; clear BK415; clear HB; clear HI434; have BK414 := n0_; have BK415 := n1_; have HB := n2_; have HI434 := n3_; clear n0_ n1_ n2_ n3_; (try clear hb); (try clear hb2); (try clear hk); (try clear hi)))
         go_ret
         exact ⟨by first | rfl | (simp [errW_none, errW_some] <;> rfl) | (simp only [← hji27, ← hji28]; first | rfl | (simp [errW_none, errW_some] <;> rfl)) | (simp [*, errW_none, errW_some] <;> rfl), by repeat (first | (with_reducible first | exact HB.out | apply below_alloc | apply pw_below_drewN | apply below_drew1 | refine below_set ?_ (IsS48.ge HI434.out) | refine below_set ?_ GE414.out | refine below_set ?_ GE415.out) | exact HB.out)⟩
        ·replace c32 := Bool.eq_false_iff.mpr c32
         subst c32
         have H1 : ((guard_Guard_Hear.f t479 t480 t481 t482 t483 t484 t485 t486 t487 t488 t489 t427 t490 t491 t492 t493 t494 t495 a2_1 a0_4 a2_3 false a2_4).bind fun bt496 => (if bt496.1 = (ji28) then ((flywheellaw28_wakes.f).bind fun t514 => (some t514)) else (some false))) = some r := by rw [if_neg (show ¬ (false = true) by decide)] at H; exact H
         clear H
         have H := H1
         clear H1
         replace H := Option.bind_eq_some_iff.mp H
         obtain ⟨⟨t496, t497, t498, t499, t500, t501, t502, t503, t504, t505, t506, t507, t508, t509, t510, t511, t512, t513⟩, A400, H⟩ := H
         replace H : (if t496 = (ji28) then ((flywheellaw28_wakes.f).bind fun t514 => (some t514)) else (some false)) = some r := H
         have A40 := Aside0.mk A400
         clear A400
         by_cases c41 : t496 = (ji28)
         ·rw [if_pos c41] at H
          have c41b0 : (t496 == (ji28)) = true := beq_iff_eq.mpr c41
          have c41b1 : (t496 != (ji28)) = false := bne_eq_false_iff_eq.mpr c41
          clear c41
          replace H := Option.bind_eq_some_iff.mp H
          obtain ⟨t514, A420, H⟩ := H
          replace H : (some t514) = some r := H
          have A42 := Aside0.mk A420
          clear A420
          obtain rfl := Option.some.inj H
          have hnb43 := NB414_415.out
          have hnc43 := NB415_414.out
          have hnb44 := NB414_434.out
          have hnc44 := NB434_414.out
          have hcz45_0 : wc.cell? ⟨gb414, 0, none⟩ = some (.int .i64 a0_0) := (blk_cell BK414.out 0).trans rfl
          have hcz45_1 : wc.cell? ⟨gb414, 1, none⟩ = some (.int .i64 a0_1) := (blk_cell BK414.out 1).trans rfl
          have hcz45_2 : wc.cell? ⟨gb414, 2, none⟩ = some (.int .i64 a0_2) := (blk_cell BK414.out 2).trans rfl
          have hcz45_3 : wc.cell? ⟨gb414, 3, none⟩ = some (.int .i64 a0_3) := (blk_cell BK414.out 3).trans rfl
          have hcz45_4 : wc.cell? ⟨gb414, 4, none⟩ = some (.int .i64 a0_4) := (blk_cell BK414.out 4).trans rfl
          have hcz45_5 : wc.cell? ⟨gb414, 5, none⟩ = some (.int .i64 a0_5) := (blk_cell BK414.out 5).trans rfl
          have hcz45_6 : wc.cell? ⟨gb414, 6, none⟩ = some (.int .i64 a0_6) := (blk_cell BK414.out 6).trans rfl
          have hcz45_7 : wc.cell? ⟨gb414, 7, none⟩ = some (.int .i64 a0_7) := (blk_cell BK414.out 7).trans rfl
          have hcz45_8 : wc.cell? ⟨gb414, 8, none⟩ = some (.int .i64 a0_8) := (blk_cell BK414.out 8).trans rfl
          have hcz45_9 : wc.cell? ⟨gb414, 9, none⟩ = some (.int .i64 a0_9) := (blk_cell BK414.out 9).trans rfl
          have hcz45_10 : wc.cell? ⟨gb414, 10, none⟩ = some (.int .i64 a0_10) := (blk_cell BK414.out 10).trans rfl
          have hcz45_11 : wc.cell? ⟨gb414, 11, none⟩ = some (.slice A0_11 l0_11.length c0_11) := (blk_cell BK414.out 11).trans rfl
          have hcz45_12 : wc.cell? ⟨gb414, 12, none⟩ = some (.int .i64 a0_12) := (blk_cell BK414.out 12).trans rfl
          have hfz45_0 := blk_frozen BK414.out 0
          have hfz45_1 := blk_frozen BK414.out 1
          have hfz45_2 := blk_frozen BK414.out 2
          have hfz45_3 := blk_frozen BK414.out 3
          have hfz45_4 := blk_frozen BK414.out 4
          have hfz45_5 := blk_frozen BK414.out 5
          have hfz45_6 := blk_frozen BK414.out 6
          have hfz45_7 := blk_frozen BK414.out 7
          have hfz45_8 := blk_frozen BK414.out 8
          have hfz45_9 := blk_frozen BK414.out 9
          have hfz45_10 := blk_frozen BK414.out 10
          have hfz45_11 := blk_frozen BK414.out 11
          have hfz45_12 := blk_frozen BK414.out 12
          have hnb46 := NB415_434.out
          have hnc46 := NB434_415.out
          have hcz47_0 : wc.cell? ⟨gb415, 0, none⟩ = some (.int .i64 a2_0) := (blk_cell BK415.out 0).trans rfl
          have hcz47_1 : wc.cell? ⟨gb415, 1, none⟩ = some (.int .i64 a2_1) := (blk_cell BK415.out 1).trans rfl
          have hcz47_2 : wc.cell? ⟨gb415, 2, none⟩ = some (.int .i64 a2_2) := (blk_cell BK415.out 2).trans rfl
          have hcz47_3 : wc.cell? ⟨gb415, 3, none⟩ = some (.int .i64 a2_3) := (blk_cell BK415.out 3).trans rfl
          have hcz47_4 : wc.cell? ⟨gb415, 4, none⟩ = some (.int .i64 a2_4) := (blk_cell BK415.out 4).trans rfl
          have hcz47_5 : wc.cell? ⟨gb415, 5, none⟩ = some (.bool a2_5) := (blk_cell BK415.out 5).trans rfl
          have hfz47_0 := blk_frozen BK415.out 0
          have hfz47_1 := blk_frozen BK415.out 1
          have hfz47_2 := blk_frozen BK415.out 2
          have hfz47_3 := blk_frozen BK415.out 3
          have hfz47_4 := blk_frozen BK415.out 4
          have hfz47_5 := blk_frozen BK415.out 5
          go_wp2_with (first | ((with_reducible refine gate_callee (f := 11) rfl ?_); refine goesL_ (some 89) rfl rfl Try.func11 (by kernel_rfl) rfl #[.pointer (some ⟨g434, 0, none⟩), .int .i64 a2_1, .int .i64 (wrap64 (a0_5 + 1)), .int .i64 a2_3, .bool false, .int .i64 a2_4] rfl (by (try simp only [List.map_toArray, List.map_cons, List.map_nil]); first | done | rfl | (simp only [List.length_drop, List.length_take]; rfl)) ?_; (with_reducible refine (guard_Guard_Hear.calls g434 x435000_19 x435001_19 x435002_19 x435003_19 x435004_19 x435005_19 x435006_19 x435007_19 x435008_19 x435009_19 x435010_19 t427 x435012_19 x435013_19 x435014_19 x435015_19 x435016_19 x435017_19 a2_1 (wrap64 (a0_5 + 1)) a2_3 false a2_4 t460 t461 t462 t463 t464 t465 t466 t467 t468 t469 t470 t471 t472 t473 t474 t475 t476 t477 w _ ?side1 ?side2 A29.out).mono ?_); (case side1 => repeat (first | (with_reducible first | exact HI434.out | apply IsS48.alloc | apply IsS48.drewN | apply IsS48.drew | apply IsS48.set_0 | apply IsS48.set_1 | apply IsS48.set_2 | apply IsS48.set_3 | apply IsS48.set_4 | apply IsS48.set_5 | apply IsS48.set_6 | apply IsS48.set_7 | apply IsS48.set_8 | apply IsS48.set_9 | apply IsS48.set_10 | apply IsS48.set_12 | apply IsS48.set_13 | apply IsS48.set_14 | apply IsS48.set_15 | apply IsS48.set_16 | apply IsS48.set_17 | refine IsS48.far ?_ NB434_414.out _ | refine IsS48.far ?_ NB434_415.out _) | exact HI434.out)); (case side2 => repeat (first | (with_reducible first | exact HB.out | apply below_alloc | apply pw_below_drewN | apply below_drew1 | refine below_set ?_ (IsS48.ge HI434.out) | refine below_set ?_ GE414.out | refine below_set ?_ GE415.out) | exact HB.out)); rintro e w48 ⟨rfl, hi, hb, hk⟩; refine ⟨_, rfl, ?_⟩; have n0_ := Aside0.mk (KeepBut.blk hk (g' := gb414) (o := .cells #[.int .i64 a0_0, .int .i64 a0_1, .int .i64 a0_2, .int .i64 a0_3, .int .i64 a0_4, .int .i64 a0_5, .int .i64 a0_6, .int .i64 a0_7, .int .i64 a0_8, .int .i64 a0_9, .int .i64 a0_10, .slice A0_11 l0_11.length c0_11, .int .i64 a0_12] 27 (0, 0)) (by (with_reducible repeat (first | refine blk_drewN ?_ _ | refine blk_drew ?_ | refine blk_alloc ?_ _)); exact BK414.out) NB414_434.out (by simp)); have n1_ := Aside0.mk (KeepBut.blk hk (g' := gb415) (o := .cells #[.int .i64 a2_0, .int .i64 a2_1, .int .i64 a2_2, .int .i64 a2_3, .int .i64 a2_4, .bool a2_5] 24 (0, 0)) (by (with_reducible repeat (first | refine blk_drewN ?_ _ | refine blk_drew ?_ | refine blk_alloc ?_ _)); exact BK415.out) NB415_434.out (by simp)); have n2_ := Aside0.mk (hb); have n3_ := Aside0.mk (hi); clear BK414; clear BK415; clear HB; clear HI434; have BK414 := n0_; have BK415 := n1_; have HB := n2_; have HI434 := n3_; clear n0_ n1_ n2_ n3_; (try clear hb); (try clear hb2); (try clear hk); (try clear hi)) | (go_at_call 13; (with_reducible refine (guard_Guard_Brakes.calls g434 t461 t462 t463 t464 t465 t466 t467 t468 t469 t470 t471 t427 t472 t473 t474 t475 t476 t477 false t479 t480 t481 t482 t483 t484 t485 t486 t487 t488 t489 t490 t491 t492 t493 t494 t495 w _ ?side1 ?side2 A31.out).mono ?_); (case side1 => repeat (first | (with_reducible first | exact HI434.out | apply IsS48.alloc | apply IsS48.drewN | apply IsS48.drew | apply IsS48.set_0 | apply IsS48.set_1 | apply IsS48.set_2 | apply IsS48.set_3 | apply IsS48.set_4 | apply IsS48.set_5 | apply IsS48.set_6 | apply IsS48.set_7 | apply IsS48.set_8 | apply IsS48.set_9 | apply IsS48.set_10 | apply IsS48.set_12 | apply IsS48.set_13 | apply IsS48.set_14 | apply IsS48.set_15 | apply IsS48.set_16 | apply IsS48.set_17 | refine IsS48.far ?_ NB434_414.out _ | refine IsS48.far ?_ NB434_415.out _) | exact HI434.out)); (case side2 => repeat (first | (with_reducible first | exact HB.out | apply below_alloc | apply pw_below_drewN | apply below_drew1 | refine below_set ?_ (IsS48.ge HI434.out) | refine below_set ?_ GE414.out | refine below_set ?_ GE415.out) | exact HB.out)); rintro e w49 ⟨rfl, hi, hb, hk⟩; have n0_ := Aside0.mk (KeepBut.blk hk (g' := gb414) (o := .cells #[.int .i64 a0_0, .int .i64 a0_1, .int .i64 a0_2, .int .i64 a0_3, .int .i64 a0_4, .int .i64 a0_5, .int .i64 a0_6, .int .i64 a0_7, .int .i64 a0_8, .int .i64 a0_9, .int .i64 a0_10, .slice A0_11 l0_11.length c0_11, .int .i64 a0_12] 27 (0, 0)) (by (with_reducible repeat (first | refine blk_drewN ?_ _ | refine blk_drew ?_ | refine blk_alloc ?_ _)); exact BK414.out) NB414_434.out (by simp)); have n1_ := Aside0.mk (KeepBut.blk hk (g' := gb415) (o := .cells #[.int .i64 a2_0, .int .i64 a2_1, .int .i64 a2_2, .int .i64 a2_3, .int .i64 a2_4, .bool a2_5] 24 (0, 0)) (by (with_reducible repeat (first | refine blk_drewN ?_ _ | refine blk_drew ?_ | refine blk_alloc ?_ _)); exact BK415.out) NB415_434.out (by simp)); have n2_ := Aside0.mk (hb); have n3_ := Aside0.mk (hi); clear BK414; clear BK415; clear HB; clear HI434; have BK414 := n0_; have BK415 := n1_; have HB := n2_; have HI434 := n3_; clear n0_ n1_ n2_ n3_; (try clear hb); (try clear hb2); (try clear hk); (try clear hi); have hcz50_0 : w49.cell? ⟨gb415, 0, none⟩ = some (.int .i64 a2_0) := (blk_cell BK415.out 0).trans rfl; have hcz50_1 : w49.cell? ⟨gb415, 1, none⟩ = some (.int .i64 a2_1) := (blk_cell BK415.out 1).trans rfl; have hcz50_2 : w49.cell? ⟨gb415, 2, none⟩ = some (.int .i64 a2_2) := (blk_cell BK415.out 2).trans rfl; have hcz50_3 : w49.cell? ⟨gb415, 3, none⟩ = some (.int .i64 a2_3) := (blk_cell BK415.out 3).trans rfl; have hcz50_4 : w49.cell? ⟨gb415, 4, none⟩ = some (.int .i64 a2_4) := (blk_cell BK415.out 4).trans rfl; have hcz50_5 : w49.cell? ⟨gb415, 5, none⟩ = some (.bool a2_5) := (blk_cell BK415.out 5).trans rfl; have hfz50_0 := blk_frozen BK415.out 0; have hfz50_1 := blk_frozen BK415.out 1; have hfz50_2 := blk_frozen BK415.out 2; have hfz50_3 := blk_frozen BK415.out 3; have hfz50_4 := blk_frozen BK415.out 4; have hfz50_5 := blk_frozen BK415.out 5; have hcz51_0 : w49.cell? ⟨gb414, 0, none⟩ = some (.int .i64 a0_0) := (blk_cell BK414.out 0).trans rfl; have hcz51_1 : w49.cell? ⟨gb414, 1, none⟩ = some (.int .i64 a0_1) := (blk_cell BK414.out 1).trans rfl; have hcz51_2 : w49.cell? ⟨gb414, 2, none⟩ = some (.int .i64 a0_2) := (blk_cell BK414.out 2).trans rfl; have hcz51_3 : w49.cell? ⟨gb414, 3, none⟩ = some (.int .i64 a0_3) := (blk_cell BK414.out 3).trans rfl; have hcz51_4 : w49.cell? ⟨gb414, 4, none⟩ = some (.int .i64 a0_4) := (blk_cell BK414.out 4).trans rfl; have hcz51_5 : w49.cell? ⟨gb414, 5, none⟩ = some (.int .i64 a0_5) := (blk_cell BK414.out 5).trans rfl; have hcz51_6 : w49.cell? ⟨gb414, 6, none⟩ = some (.int .i64 a0_6) := (blk_cell BK414.out 6).trans rfl; have hcz51_7 : w49.cell? ⟨gb414, 7, none⟩ = some (.int .i64 a0_7) := (blk_cell BK414.out 7).trans rfl; have hcz51_8 : w49.cell? ⟨gb414, 8, none⟩ = some (.int .i64 a0_8) := (blk_cell BK414.out 8).trans rfl; have hcz51_9 : w49.cell? ⟨gb414, 9, none⟩ = some (.int .i64 a0_9) := (blk_cell BK414.out 9).trans rfl; have hcz51_10 : w49.cell? ⟨gb414, 10, none⟩ = some (.int .i64 a0_10) := (blk_cell BK414.out 10).trans rfl; have hcz51_11 : w49.cell? ⟨gb414, 11, none⟩ = some (.slice A0_11 l0_11.length c0_11) := (blk_cell BK414.out 11).trans rfl; have hcz51_12 : w49.cell? ⟨gb414, 12, none⟩ = some (.int .i64 a0_12) := (blk_cell BK414.out 12).trans rfl; have hfz51_0 := blk_frozen BK414.out 0; have hfz51_1 := blk_frozen BK414.out 1; have hfz51_2 := blk_frozen BK414.out 2; have hfz51_3 := blk_frozen BK414.out 3; have hfz51_4 := blk_frozen BK414.out 4; have hfz51_5 := blk_frozen BK414.out 5; have hfz51_6 := blk_frozen BK414.out 6; have hfz51_7 := blk_frozen BK414.out 7; have hfz51_8 := blk_frozen BK414.out 8; have hfz51_9 := blk_frozen BK414.out 9; have hfz51_10 := blk_frozen BK414.out 10; have hfz51_11 := blk_frozen BK414.out 11; have hfz51_12 := blk_frozen BK414.out 12) | (go_at_call 11; (with_reducible refine (guard_Guard_Hear.calls g434 t479 t480 t481 t482 t483 t484 t485 t486 t487 t488 t489 t427 t490 t491 t492 t493 t494 t495 a2_1 a0_4 a2_3 false a2_4 t496 t497 t498 t499 t500 t501 t502 t503 t504 t505 t506 t507 t508 t509 t510 t511 t512 t513 w _ ?side1 ?side2 A40.out).mono ?_); (case side1 => repeat (first | (with_reducible first | exact HI434.out | apply IsS48.alloc | apply IsS48.drewN | apply IsS48.drew | apply IsS48.set_0 | apply IsS48.set_1 | apply IsS48.set_2 | apply IsS48.set_3 | apply IsS48.set_4 | apply IsS48.set_5 | apply IsS48.set_6 | apply IsS48.set_7 | apply IsS48.set_8 | apply IsS48.set_9 | apply IsS48.set_10 | apply IsS48.set_12 | apply IsS48.set_13 | apply IsS48.set_14 | apply IsS48.set_15 | apply IsS48.set_16 | apply IsS48.set_17 | refine IsS48.far ?_ NB434_414.out _ | refine IsS48.far ?_ NB434_415.out _) | exact HI434.out)); (case side2 => repeat (first | (with_reducible first | exact HB.out | apply below_alloc | apply pw_below_drewN | apply below_drew1 | refine below_set ?_ (IsS48.ge HI434.out) | refine below_set ?_ GE414.out | refine below_set ?_ GE415.out) | exact HB.out)); rintro e w52 ⟨rfl, hi, hb, hk⟩; have n0_ := Aside0.mk (KeepBut.blk hk (g' := gb414) (o := .cells #[.int .i64 a0_0, .int .i64 a0_1, .int .i64 a0_2, .int .i64 a0_3, .int .i64 a0_4, .int .i64 a0_5, .int .i64 a0_6, .int .i64 a0_7, .int .i64 a0_8, .int .i64 a0_9, .int .i64 a0_10, .slice A0_11 l0_11.length c0_11, .int .i64 a0_12] 27 (0, 0)) (by (with_reducible repeat (first | refine blk_drewN ?_ _ | refine blk_drew ?_ | refine blk_alloc ?_ _)); exact BK414.out) NB414_434.out (by simp)); have n1_ := Aside0.mk (KeepBut.blk hk (g' := gb415) (o := .cells #[.int .i64 a2_0, .int .i64 a2_1, .int .i64 a2_2, .int .i64 a2_3, .int .i64 a2_4, .bool a2_5] 24 (0, 0)) (by (with_reducible repeat (first | refine blk_drewN ?_ _ | refine blk_drew ?_ | refine blk_alloc ?_ _)); exact BK415.out) NB415_434.out (by simp)); have n2_ := Aside0.mk (hb); have n3_ := Aside0.mk (hi); clear BK414; clear BK415; clear HB; clear HI434; have BK414 := n0_; have BK415 := n1_; have HB := n2_; have HI434 := n3_; clear n0_ n1_ n2_ n3_; (try clear hb); (try clear hb2); (try clear hk); (try clear hi)) | (go_at_call 14; (with_reducible refine (flywheellaw28_wakes.calls  t514 _ A42.out).mono ?_); rintro e w53 ⟨rfl, hb⟩; have n0_ := Aside0.mk (blk_below (g := gb414) (o := .cells #[.int .i64 a0_0, .int .i64 a0_1, .int .i64 a0_2, .int .i64 a0_3, .int .i64 a0_4, .int .i64 a0_5, .int .i64 a0_6, .int .i64 a0_7, .int .i64 a0_8, .int .i64 a0_9, .int .i64 a0_10, .slice A0_11 l0_11.length c0_11, .int .i64 a0_12] 27 (0, 0)) (by (with_reducible repeat (first | refine blk_drewN ?_ _ | refine blk_drew ?_ | refine blk_alloc ?_ _)); exact BK414.out) hb); have n1_ := Aside0.mk (blk_below (g := gb415) (o := .cells #[.int .i64 a2_0, .int .i64 a2_1, .int .i64 a2_2, .int .i64 a2_3, .int .i64 a2_4, .bool a2_5] 24 (0, 0)) (by (with_reducible repeat (first | refine blk_drewN ?_ _ | refine blk_drew ?_ | refine blk_alloc ?_ _)); exact BK415.out) hb); have n2_ := Aside0.mk (IsS48.below (by repeat (first | (with_reducible first | exact HI434.out | apply IsS48.alloc | apply IsS48.drewN | apply IsS48.drew | apply IsS48.set_0 | apply IsS48.set_1 | apply IsS48.set_2 | apply IsS48.set_3 | apply IsS48.set_4 | apply IsS48.set_5 | apply IsS48.set_6 | apply IsS48.set_7 | apply IsS48.set_8 | apply IsS48.set_9 | apply IsS48.set_10 | apply IsS48.set_12 | apply IsS48.set_13 | apply IsS48.set_14 | apply IsS48.set_15 | apply IsS48.set_16 | apply IsS48.set_17 | refine IsS48.far ?_ NB434_414.out _ | refine IsS48.far ?_ NB434_415.out _) | exact HI434.out)) hb); have n3_ := Aside0.mk (below_step (by repeat (first | (with_reducible first | exact HB.out | apply below_alloc | apply pw_below_drewN | apply below_drew1 | refine below_set ?_ (IsS48.ge HI434.out) | refine below_set ?_ GE414.out | refine below_set ?_ GE415.out) | exact HB.out)) hb); clear BK414; clear BK415; clear HI434; clear HB; have BK414 := n0_; have BK415 := n1_; have HI434 := n2_; have HB := n3_; clear n0_ n1_ n2_ n3_; (try clear hb); (try clear hb2); (try clear hk); (try clear hi)))
          go_ret
          exact ⟨by first | rfl | (simp [errW_none, errW_some] <;> rfl) | (simp only [← hji27, ← hji28]; first | rfl | (simp [errW_none, errW_some] <;> rfl)) | (simp [*, errW_none, errW_some] <;> rfl), by repeat (first | (with_reducible first | exact HB.out | apply below_alloc | apply pw_below_drewN | apply below_drew1 | refine below_set ?_ (IsS48.ge HI434.out) | refine below_set ?_ GE414.out | refine below_set ?_ GE415.out) | exact HB.out)⟩
         ·rw [if_neg c41] at H
          have c41b0 : (t496 == (ji28)) = false := beq_eq_false_iff_ne.mpr c41
          have c41b1 : (t496 != (ji28)) = true := bne_iff_ne.mpr c41
          obtain rfl := Option.some.inj H
          have hnb54 := NB414_415.out
          have hnc54 := NB415_414.out
          have hnb55 := NB414_434.out
          have hnc55 := NB434_414.out
          have hcz56_0 : wc.cell? ⟨gb414, 0, none⟩ = some (.int .i64 a0_0) := (blk_cell BK414.out 0).trans rfl
          have hcz56_1 : wc.cell? ⟨gb414, 1, none⟩ = some (.int .i64 a0_1) := (blk_cell BK414.out 1).trans rfl
          have hcz56_2 : wc.cell? ⟨gb414, 2, none⟩ = some (.int .i64 a0_2) := (blk_cell BK414.out 2).trans rfl
          have hcz56_3 : wc.cell? ⟨gb414, 3, none⟩ = some (.int .i64 a0_3) := (blk_cell BK414.out 3).trans rfl
          have hcz56_4 : wc.cell? ⟨gb414, 4, none⟩ = some (.int .i64 a0_4) := (blk_cell BK414.out 4).trans rfl
          have hcz56_5 : wc.cell? ⟨gb414, 5, none⟩ = some (.int .i64 a0_5) := (blk_cell BK414.out 5).trans rfl
          have hcz56_6 : wc.cell? ⟨gb414, 6, none⟩ = some (.int .i64 a0_6) := (blk_cell BK414.out 6).trans rfl
          have hcz56_7 : wc.cell? ⟨gb414, 7, none⟩ = some (.int .i64 a0_7) := (blk_cell BK414.out 7).trans rfl
          have hcz56_8 : wc.cell? ⟨gb414, 8, none⟩ = some (.int .i64 a0_8) := (blk_cell BK414.out 8).trans rfl
          have hcz56_9 : wc.cell? ⟨gb414, 9, none⟩ = some (.int .i64 a0_9) := (blk_cell BK414.out 9).trans rfl
          have hcz56_10 : wc.cell? ⟨gb414, 10, none⟩ = some (.int .i64 a0_10) := (blk_cell BK414.out 10).trans rfl
          have hcz56_11 : wc.cell? ⟨gb414, 11, none⟩ = some (.slice A0_11 l0_11.length c0_11) := (blk_cell BK414.out 11).trans rfl
          have hcz56_12 : wc.cell? ⟨gb414, 12, none⟩ = some (.int .i64 a0_12) := (blk_cell BK414.out 12).trans rfl
          have hfz56_0 := blk_frozen BK414.out 0
          have hfz56_1 := blk_frozen BK414.out 1
          have hfz56_2 := blk_frozen BK414.out 2
          have hfz56_3 := blk_frozen BK414.out 3
          have hfz56_4 := blk_frozen BK414.out 4
          have hfz56_5 := blk_frozen BK414.out 5
          have hfz56_6 := blk_frozen BK414.out 6
          have hfz56_7 := blk_frozen BK414.out 7
          have hfz56_8 := blk_frozen BK414.out 8
          have hfz56_9 := blk_frozen BK414.out 9
          have hfz56_10 := blk_frozen BK414.out 10
          have hfz56_11 := blk_frozen BK414.out 11
          have hfz56_12 := blk_frozen BK414.out 12
          have hnb57 := NB415_434.out
          have hnc57 := NB434_415.out
          have hcz58_0 : wc.cell? ⟨gb415, 0, none⟩ = some (.int .i64 a2_0) := (blk_cell BK415.out 0).trans rfl
          have hcz58_1 : wc.cell? ⟨gb415, 1, none⟩ = some (.int .i64 a2_1) := (blk_cell BK415.out 1).trans rfl
          have hcz58_2 : wc.cell? ⟨gb415, 2, none⟩ = some (.int .i64 a2_2) := (blk_cell BK415.out 2).trans rfl
          have hcz58_3 : wc.cell? ⟨gb415, 3, none⟩ = some (.int .i64 a2_3) := (blk_cell BK415.out 3).trans rfl
          have hcz58_4 : wc.cell? ⟨gb415, 4, none⟩ = some (.int .i64 a2_4) := (blk_cell BK415.out 4).trans rfl
          have hcz58_5 : wc.cell? ⟨gb415, 5, none⟩ = some (.bool a2_5) := (blk_cell BK415.out 5).trans rfl
          have hfz58_0 := blk_frozen BK415.out 0
          have hfz58_1 := blk_frozen BK415.out 1
          have hfz58_2 := blk_frozen BK415.out 2
          have hfz58_3 := blk_frozen BK415.out 3
          have hfz58_4 := blk_frozen BK415.out 4
          have hfz58_5 := blk_frozen BK415.out 5
          go_wp2_with (first | ((with_reducible refine gate_callee (f := 11) rfl ?_); refine goesL_ (some 89) rfl rfl Try.func11 (by kernel_rfl) rfl #[.pointer (some ⟨g434, 0, none⟩), .int .i64 a2_1, .int .i64 (wrap64 (a0_5 + 1)), .int .i64 a2_3, .bool false, .int .i64 a2_4] rfl (by (try simp only [List.map_toArray, List.map_cons, List.map_nil]); first | done | rfl | (simp only [List.length_drop, List.length_take]; rfl)) ?_; (with_reducible refine (guard_Guard_Hear.calls g434 x435000_19 x435001_19 x435002_19 x435003_19 x435004_19 x435005_19 x435006_19 x435007_19 x435008_19 x435009_19 x435010_19 t427 x435012_19 x435013_19 x435014_19 x435015_19 x435016_19 x435017_19 a2_1 (wrap64 (a0_5 + 1)) a2_3 false a2_4 t460 t461 t462 t463 t464 t465 t466 t467 t468 t469 t470 t471 t472 t473 t474 t475 t476 t477 w _ ?side1 ?side2 A29.out).mono ?_); (case side1 => repeat (first | (with_reducible first | exact HI434.out | apply IsS48.alloc | apply IsS48.drewN | apply IsS48.drew | apply IsS48.set_0 | apply IsS48.set_1 | apply IsS48.set_2 | apply IsS48.set_3 | apply IsS48.set_4 | apply IsS48.set_5 | apply IsS48.set_6 | apply IsS48.set_7 | apply IsS48.set_8 | apply IsS48.set_9 | apply IsS48.set_10 | apply IsS48.set_12 | apply IsS48.set_13 | apply IsS48.set_14 | apply IsS48.set_15 | apply IsS48.set_16 | apply IsS48.set_17 | refine IsS48.far ?_ NB434_414.out _ | refine IsS48.far ?_ NB434_415.out _) | exact HI434.out)); (case side2 => repeat (first | (with_reducible first | exact HB.out | apply below_alloc | apply pw_below_drewN | apply below_drew1 | refine below_set ?_ (IsS48.ge HI434.out) | refine below_set ?_ GE414.out | refine below_set ?_ GE415.out) | exact HB.out)); rintro e w59 ⟨rfl, hi, hb, hk⟩; refine ⟨_, rfl, ?_⟩; have n0_ := Aside0.mk (KeepBut.blk hk (g' := gb414) (o := .cells #[.int .i64 a0_0, .int .i64 a0_1, .int .i64 a0_2, .int .i64 a0_3, .int .i64 a0_4, .int .i64 a0_5, .int .i64 a0_6, .int .i64 a0_7, .int .i64 a0_8, .int .i64 a0_9, .int .i64 a0_10, .slice A0_11 l0_11.length c0_11, .int .i64 a0_12] 27 (0, 0)) (by (with_reducible repeat (first | refine blk_drewN ?_ _ | refine blk_drew ?_ | refine blk_alloc ?_ _)); exact BK414.out) NB414_434.out (by simp)); have n1_ := Aside0.mk (KeepBut.blk hk (g' := gb415) (o := .cells #[.int .i64 a2_0, .int .i64 a2_1, .int .i64 a2_2, .int .i64 a2_3, .int .i64 a2_4, .bool a2_5] 24 (0, 0)) (by (with_reducible repeat (first | refine blk_drewN ?_ _ | refine blk_drew ?_ | refine blk_alloc ?_ _)); exact BK415.out) NB415_434.out (by simp)); have n2_ := Aside0.mk (hb); have n3_ := Aside0.mk (hi); clear BK414; clear BK415; clear HB; clear HI434; have BK414 := n0_; have BK415 := n1_; have HB := n2_; have HI434 := n3_; clear n0_ n1_ n2_ n3_; (try clear hb); (try clear hb2); (try clear hk); (try clear hi)) | (go_at_call 13; (with_reducible refine (guard_Guard_Brakes.calls g434 t461 t462 t463 t464 t465 t466 t467 t468 t469 t470 t471 t427 t472 t473 t474 t475 t476 t477 false t479 t480 t481 t482 t483 t484 t485 t486 t487 t488 t489 t490 t491 t492 t493 t494 t495 w _ ?side1 ?side2 A31.out).mono ?_); (case side1 => repeat (first | (with_reducible first | exact HI434.out | apply IsS48.alloc | apply IsS48.drewN | apply IsS48.drew | apply IsS48.set_0 | apply IsS48.set_1 | apply IsS48.set_2 | apply IsS48.set_3 | apply IsS48.set_4 | apply IsS48.set_5 | apply IsS48.set_6 | apply IsS48.set_7 | apply IsS48.set_8 | apply IsS48.set_9 | apply IsS48.set_10 | apply IsS48.set_12 | apply IsS48.set_13 | apply IsS48.set_14 | apply IsS48.set_15 | apply IsS48.set_16 | apply IsS48.set_17 | refine IsS48.far ?_ NB434_414.out _ | refine IsS48.far ?_ NB434_415.out _) | exact HI434.out)); (case side2 => repeat (first | (with_reducible first | exact HB.out | apply below_alloc | apply pw_below_drewN | apply below_drew1 | refine below_set ?_ (IsS48.ge HI434.out) | refine below_set ?_ GE414.out | refine below_set ?_ GE415.out) | exact HB.out)); rintro e w60 ⟨rfl, hi, hb, hk⟩; have n0_ := Aside0.mk (KeepBut.blk hk (g' := gb414) (o := .cells #[.int .i64 a0_0, .int .i64 a0_1, .int .i64 a0_2, .int .i64 a0_3, .int .i64 a0_4, .int .i64 a0_5, .int .i64 a0_6, .int .i64 a0_7, .int .i64 a0_8, .int .i64 a0_9, .int .i64 a0_10, .slice A0_11 l0_11.length c0_11, .int .i64 a0_12] 27 (0, 0)) (by (with_reducible repeat (first | refine blk_drewN ?_ _ | refine blk_drew ?_ | refine blk_alloc ?_ _)); exact BK414.out) NB414_434.out (by simp)); have n1_ := Aside0.mk (KeepBut.blk hk (g' := gb415) (o := .cells #[.int .i64 a2_0, .int .i64 a2_1, .int .i64 a2_2, .int .i64 a2_3, .int .i64 a2_4, .bool a2_5] 24 (0, 0)) (by (with_reducible repeat (first | refine blk_drewN ?_ _ | refine blk_drew ?_ | refine blk_alloc ?_ _)); exact BK415.out) NB415_434.out (by simp)); have n2_ := Aside0.mk (hb); have n3_ := Aside0.mk (hi); clear BK414; clear BK415; clear HB; clear HI434; have BK414 := n0_; have BK415 := n1_; have HB := n2_; have HI434 := n3_; clear n0_ n1_ n2_ n3_; (try clear hb); (try clear hb2); (try clear hk); (try clear hi); have hcz61_0 : w60.cell? ⟨gb415, 0, none⟩ = some (.int .i64 a2_0) := (blk_cell BK415.out 0).trans rfl; have hcz61_1 : w60.cell? ⟨gb415, 1, none⟩ = some (.int .i64 a2_1) := (blk_cell BK415.out 1).trans rfl; have hcz61_2 : w60.cell? ⟨gb415, 2, none⟩ = some (.int .i64 a2_2) := (blk_cell BK415.out 2).trans rfl; have hcz61_3 : w60.cell? ⟨gb415, 3, none⟩ = some (.int .i64 a2_3) := (blk_cell BK415.out 3).trans rfl; have hcz61_4 : w60.cell? ⟨gb415, 4, none⟩ = some (.int .i64 a2_4) := (blk_cell BK415.out 4).trans rfl; have hcz61_5 : w60.cell? ⟨gb415, 5, none⟩ = some (.bool a2_5) := (blk_cell BK415.out 5).trans rfl; have hfz61_0 := blk_frozen BK415.out 0; have hfz61_1 := blk_frozen BK415.out 1; have hfz61_2 := blk_frozen BK415.out 2; have hfz61_3 := blk_frozen BK415.out 3; have hfz61_4 := blk_frozen BK415.out 4; have hfz61_5 := blk_frozen BK415.out 5; have hcz62_0 : w60.cell? ⟨gb414, 0, none⟩ = some (.int .i64 a0_0) := (blk_cell BK414.out 0).trans rfl; have hcz62_1 : w60.cell? ⟨gb414, 1, none⟩ = some (.int .i64 a0_1) := (blk_cell BK414.out 1).trans rfl; have hcz62_2 : w60.cell? ⟨gb414, 2, none⟩ = some (.int .i64 a0_2) := (blk_cell BK414.out 2).trans rfl; have hcz62_3 : w60.cell? ⟨gb414, 3, none⟩ = some (.int .i64 a0_3) := (blk_cell BK414.out 3).trans rfl; have hcz62_4 : w60.cell? ⟨gb414, 4, none⟩ = some (.int .i64 a0_4) := (blk_cell BK414.out 4).trans rfl; have hcz62_5 : w60.cell? ⟨gb414, 5, none⟩ = some (.int .i64 a0_5) := (blk_cell BK414.out 5).trans rfl; have hcz62_6 : w60.cell? ⟨gb414, 6, none⟩ = some (.int .i64 a0_6) := (blk_cell BK414.out 6).trans rfl; have hcz62_7 : w60.cell? ⟨gb414, 7, none⟩ = some (.int .i64 a0_7) := (blk_cell BK414.out 7).trans rfl; have hcz62_8 : w60.cell? ⟨gb414, 8, none⟩ = some (.int .i64 a0_8) := (blk_cell BK414.out 8).trans rfl; have hcz62_9 : w60.cell? ⟨gb414, 9, none⟩ = some (.int .i64 a0_9) := (blk_cell BK414.out 9).trans rfl; have hcz62_10 : w60.cell? ⟨gb414, 10, none⟩ = some (.int .i64 a0_10) := (blk_cell BK414.out 10).trans rfl; have hcz62_11 : w60.cell? ⟨gb414, 11, none⟩ = some (.slice A0_11 l0_11.length c0_11) := (blk_cell BK414.out 11).trans rfl; have hcz62_12 : w60.cell? ⟨gb414, 12, none⟩ = some (.int .i64 a0_12) := (blk_cell BK414.out 12).trans rfl; have hfz62_0 := blk_frozen BK414.out 0; have hfz62_1 := blk_frozen BK414.out 1; have hfz62_2 := blk_frozen BK414.out 2; have hfz62_3 := blk_frozen BK414.out 3; have hfz62_4 := blk_frozen BK414.out 4; have hfz62_5 := blk_frozen BK414.out 5; have hfz62_6 := blk_frozen BK414.out 6; have hfz62_7 := blk_frozen BK414.out 7; have hfz62_8 := blk_frozen BK414.out 8; have hfz62_9 := blk_frozen BK414.out 9; have hfz62_10 := blk_frozen BK414.out 10; have hfz62_11 := blk_frozen BK414.out 11; have hfz62_12 := blk_frozen BK414.out 12) | (go_at_call 11; (with_reducible refine (guard_Guard_Hear.calls g434 t479 t480 t481 t482 t483 t484 t485 t486 t487 t488 t489 t427 t490 t491 t492 t493 t494 t495 a2_1 a0_4 a2_3 false a2_4 t496 t497 t498 t499 t500 t501 t502 t503 t504 t505 t506 t507 t508 t509 t510 t511 t512 t513 w _ ?side1 ?side2 A40.out).mono ?_); (case side1 => repeat (first | (with_reducible first | exact HI434.out | apply IsS48.alloc | apply IsS48.drewN | apply IsS48.drew | apply IsS48.set_0 | apply IsS48.set_1 | apply IsS48.set_2 | apply IsS48.set_3 | apply IsS48.set_4 | apply IsS48.set_5 | apply IsS48.set_6 | apply IsS48.set_7 | apply IsS48.set_8 | apply IsS48.set_9 | apply IsS48.set_10 | apply IsS48.set_12 | apply IsS48.set_13 | apply IsS48.set_14 | apply IsS48.set_15 | apply IsS48.set_16 | apply IsS48.set_17 | refine IsS48.far ?_ NB434_414.out _ | refine IsS48.far ?_ NB434_415.out _) | exact HI434.out)); (case side2 => repeat (first | (with_reducible first | exact HB.out | apply below_alloc | apply pw_below_drewN | apply below_drew1 | refine below_set ?_ (IsS48.ge HI434.out) | refine below_set ?_ GE414.out | refine below_set ?_ GE415.out) | exact HB.out)); rintro e w63 ⟨rfl, hi, hb, hk⟩; have n0_ := Aside0.mk (KeepBut.blk hk (g' := gb414) (o := .cells #[.int .i64 a0_0, .int .i64 a0_1, .int .i64 a0_2, .int .i64 a0_3, .int .i64 a0_4, .int .i64 a0_5, .int .i64 a0_6, .int .i64 a0_7, .int .i64 a0_8, .int .i64 a0_9, .int .i64 a0_10, .slice A0_11 l0_11.length c0_11, .int .i64 a0_12] 27 (0, 0)) (by (with_reducible repeat (first | refine blk_drewN ?_ _ | refine blk_drew ?_ | refine blk_alloc ?_ _)); exact BK414.out) NB414_434.out (by simp)); have n1_ := Aside0.mk (KeepBut.blk hk (g' := gb415) (o := .cells #[.int .i64 a2_0, .int .i64 a2_1, .int .i64 a2_2, .int .i64 a2_3, .int .i64 a2_4, .bool a2_5] 24 (0, 0)) (by (with_reducible repeat (first | refine blk_drewN ?_ _ | refine blk_drew ?_ | refine blk_alloc ?_ _)); exact BK415.out) NB415_434.out (by simp)); have n2_ := Aside0.mk (hb); have n3_ := Aside0.mk (hi); clear BK414; clear BK415; clear HB; clear HI434; have BK414 := n0_; have BK415 := n1_; have HB := n2_; have HI434 := n3_; clear n0_ n1_ n2_ n3_; (try clear hb); (try clear hb2); (try clear hk); (try clear hi)))
          go_ret
          exact ⟨by first | rfl | (simp [errW_none, errW_some] <;> rfl) | (simp only [← hji27, ← hji28]; first | rfl | (simp [errW_none, errW_some] <;> rfl)) | (simp [*, errW_none, errW_some] <;> rfl), by repeat (first | (with_reducible first | exact HB.out | apply below_alloc | apply pw_below_drewN | apply below_drew1 | refine below_set ?_ (IsS48.ge HI434.out) | refine below_set ?_ GE414.out | refine below_set ?_ GE415.out) | exact HB.out)⟩
       ·rw [if_neg c30] at H
        have c30b0 : (t460 == (ji28)) = false := beq_eq_false_iff_ne.mpr c30
        have c30b1 : (t460 != (ji28)) = true := bne_iff_ne.mpr c30
        obtain rfl := Option.some.inj H
        have hnb64 := NB414_415.out
        have hnc64 := NB415_414.out
        have hnb65 := NB414_434.out
        have hnc65 := NB434_414.out
        have hcz66_0 : wc.cell? ⟨gb414, 0, none⟩ = some (.int .i64 a0_0) := (blk_cell BK414.out 0).trans rfl
        have hcz66_1 : wc.cell? ⟨gb414, 1, none⟩ = some (.int .i64 a0_1) := (blk_cell BK414.out 1).trans rfl
        have hcz66_2 : wc.cell? ⟨gb414, 2, none⟩ = some (.int .i64 a0_2) := (blk_cell BK414.out 2).trans rfl
        have hcz66_3 : wc.cell? ⟨gb414, 3, none⟩ = some (.int .i64 a0_3) := (blk_cell BK414.out 3).trans rfl
        have hcz66_4 : wc.cell? ⟨gb414, 4, none⟩ = some (.int .i64 a0_4) := (blk_cell BK414.out 4).trans rfl
        have hcz66_5 : wc.cell? ⟨gb414, 5, none⟩ = some (.int .i64 a0_5) := (blk_cell BK414.out 5).trans rfl
        have hcz66_6 : wc.cell? ⟨gb414, 6, none⟩ = some (.int .i64 a0_6) := (blk_cell BK414.out 6).trans rfl
        have hcz66_7 : wc.cell? ⟨gb414, 7, none⟩ = some (.int .i64 a0_7) := (blk_cell BK414.out 7).trans rfl
        have hcz66_8 : wc.cell? ⟨gb414, 8, none⟩ = some (.int .i64 a0_8) := (blk_cell BK414.out 8).trans rfl
        have hcz66_9 : wc.cell? ⟨gb414, 9, none⟩ = some (.int .i64 a0_9) := (blk_cell BK414.out 9).trans rfl
        have hcz66_10 : wc.cell? ⟨gb414, 10, none⟩ = some (.int .i64 a0_10) := (blk_cell BK414.out 10).trans rfl
        have hcz66_11 : wc.cell? ⟨gb414, 11, none⟩ = some (.slice A0_11 l0_11.length c0_11) := (blk_cell BK414.out 11).trans rfl
        have hcz66_12 : wc.cell? ⟨gb414, 12, none⟩ = some (.int .i64 a0_12) := (blk_cell BK414.out 12).trans rfl
        have hfz66_0 := blk_frozen BK414.out 0
        have hfz66_1 := blk_frozen BK414.out 1
        have hfz66_2 := blk_frozen BK414.out 2
        have hfz66_3 := blk_frozen BK414.out 3
        have hfz66_4 := blk_frozen BK414.out 4
        have hfz66_5 := blk_frozen BK414.out 5
        have hfz66_6 := blk_frozen BK414.out 6
        have hfz66_7 := blk_frozen BK414.out 7
        have hfz66_8 := blk_frozen BK414.out 8
        have hfz66_9 := blk_frozen BK414.out 9
        have hfz66_10 := blk_frozen BK414.out 10
        have hfz66_11 := blk_frozen BK414.out 11
        have hfz66_12 := blk_frozen BK414.out 12
        have hnb67 := NB415_434.out
        have hnc67 := NB434_415.out
        have hcz68_0 : wc.cell? ⟨gb415, 0, none⟩ = some (.int .i64 a2_0) := (blk_cell BK415.out 0).trans rfl
        have hcz68_1 : wc.cell? ⟨gb415, 1, none⟩ = some (.int .i64 a2_1) := (blk_cell BK415.out 1).trans rfl
        have hcz68_2 : wc.cell? ⟨gb415, 2, none⟩ = some (.int .i64 a2_2) := (blk_cell BK415.out 2).trans rfl
        have hcz68_3 : wc.cell? ⟨gb415, 3, none⟩ = some (.int .i64 a2_3) := (blk_cell BK415.out 3).trans rfl
        have hcz68_4 : wc.cell? ⟨gb415, 4, none⟩ = some (.int .i64 a2_4) := (blk_cell BK415.out 4).trans rfl
        have hcz68_5 : wc.cell? ⟨gb415, 5, none⟩ = some (.bool a2_5) := (blk_cell BK415.out 5).trans rfl
        have hfz68_0 := blk_frozen BK415.out 0
        have hfz68_1 := blk_frozen BK415.out 1
        have hfz68_2 := blk_frozen BK415.out 2
        have hfz68_3 := blk_frozen BK415.out 3
        have hfz68_4 := blk_frozen BK415.out 4
        have hfz68_5 := blk_frozen BK415.out 5
        go_wp2_with (first | ((with_reducible refine gate_callee (f := 11) rfl ?_); refine goesL_ (some 89) rfl rfl Try.func11 (by kernel_rfl) rfl #[.pointer (some ⟨g434, 0, none⟩), .int .i64 a2_1, .int .i64 (wrap64 (a0_5 + 1)), .int .i64 a2_3, .bool false, .int .i64 a2_4] rfl (by (try simp only [List.map_toArray, List.map_cons, List.map_nil]); first | done | rfl | (simp only [List.length_drop, List.length_take]; rfl)) ?_; (with_reducible refine (guard_Guard_Hear.calls g434 x435000_19 x435001_19 x435002_19 x435003_19 x435004_19 x435005_19 x435006_19 x435007_19 x435008_19 x435009_19 x435010_19 t427 x435012_19 x435013_19 x435014_19 x435015_19 x435016_19 x435017_19 a2_1 (wrap64 (a0_5 + 1)) a2_3 false a2_4 t460 t461 t462 t463 t464 t465 t466 t467 t468 t469 t470 t471 t472 t473 t474 t475 t476 t477 w _ ?side1 ?side2 A29.out).mono ?_); (case side1 => repeat (first | (with_reducible first | exact HI434.out | apply IsS48.alloc | apply IsS48.drewN | apply IsS48.drew | apply IsS48.set_0 | apply IsS48.set_1 | apply IsS48.set_2 | apply IsS48.set_3 | apply IsS48.set_4 | apply IsS48.set_5 | apply IsS48.set_6 | apply IsS48.set_7 | apply IsS48.set_8 | apply IsS48.set_9 | apply IsS48.set_10 | apply IsS48.set_12 | apply IsS48.set_13 | apply IsS48.set_14 | apply IsS48.set_15 | apply IsS48.set_16 | apply IsS48.set_17 | refine IsS48.far ?_ NB434_414.out _ | refine IsS48.far ?_ NB434_415.out _) | exact HI434.out)); (case side2 => repeat (first | (with_reducible first | exact HB.out | apply below_alloc | apply pw_below_drewN | apply below_drew1 | refine below_set ?_ (IsS48.ge HI434.out) | refine below_set ?_ GE414.out | refine below_set ?_ GE415.out) | exact HB.out)); rintro e w69 ⟨rfl, hi, hb, hk⟩; refine ⟨_, rfl, ?_⟩; have n0_ := Aside0.mk (KeepBut.blk hk (g' := gb414) (o := .cells #[.int .i64 a0_0, .int .i64 a0_1, .int .i64 a0_2, .int .i64 a0_3, .int .i64 a0_4, .int .i64 a0_5, .int .i64 a0_6, .int .i64 a0_7, .int .i64 a0_8, .int .i64 a0_9, .int .i64 a0_10, .slice A0_11 l0_11.length c0_11, .int .i64 a0_12] 27 (0, 0)) (by (with_reducible repeat (first | refine blk_drewN ?_ _ | refine blk_drew ?_ | refine blk_alloc ?_ _)); exact BK414.out) NB414_434.out (by simp)); have n1_ := Aside0.mk (KeepBut.blk hk (g' := gb415) (o := .cells #[.int .i64 a2_0, .int .i64 a2_1, .int .i64 a2_2, .int .i64 a2_3, .int .i64 a2_4, .bool a2_5] 24 (0, 0)) (by (with_reducible repeat (first | refine blk_drewN ?_ _ | refine blk_drew ?_ | refine blk_alloc ?_ _)); exact BK415.out) NB415_434.out (by simp)); have n2_ := Aside0.mk (hb); have n3_ := Aside0.mk (hi); clear BK414; clear BK415; clear HB; clear HI434; have BK414 := n0_; have BK415 := n1_; have HB := n2_; have HI434 := n3_; clear n0_ n1_ n2_ n3_; (try clear hb); (try clear hb2); (try clear hk); (try clear hi)))
        go_ret
        exact ⟨by first | rfl | (simp [errW_none, errW_some] <;> rfl) | (simp only [← hji27, ← hji28]; first | rfl | (simp [errW_none, errW_some] <;> rfl)) | (simp [*, errW_none, errW_some] <;> rfl), by repeat (first | (with_reducible first | exact HB.out | apply below_alloc | apply pw_below_drewN | apply below_drew1 | refine below_set ?_ (IsS48.ge HI434.out) | refine below_set ?_ GE414.out | refine below_set ?_ GE415.out) | exact HB.out)⟩
 ·rw [if_neg c4] at H
  have c4b0 : (guard_New.made.f a0_0 a0_1 a0_2 a0_3 a0_4 a0_5 a0_6 a0_7 a0_8 a0_9 a0_10 l0_11 a0_12).isSome = false := by simpa using c4
  clear c4
  replace H := Option.bind_eq_some_iff.mp H
  obtain ⟨t515, A700, H⟩ := H
  replace H : (if t515 = 0 then (flywheellaw28_GuardFree.j3 k l1 t515 (decide (a0_5 ≥ a0_4)) a0_0 a0_1 a0_2 a0_3 a0_4 a0_5 a0_6 a0_7 a0_8 a0_9 a0_10 l0_11 a0_12 a2_0 a2_1 a2_2 a2_3 a2_4 a2_5) else (flywheellaw28_GuardFree.j3 k l1 t515 true a0_0 a0_1 a0_2 a0_3 a0_4 a0_5 a0_6 a0_7 a0_8 a0_9 a0_10 l0_11 a0_12 a2_0 a2_1 a2_2 a2_3 a2_4 a2_5)) = some r := H
  have A70 := Aside0.mk A700
  clear A700
  have HC71 := Aside0.mk H
  clear H
  go_enter Try.func5, Try.ntmps5
  go_upto_region 2 with (first | ((with_reducible refine gate_dst (N := 3) rfl ?_); refine box_event ?hg (N := 3) ?hd (cs := #[.int .i64 a0_0, .int .i64 a0_1, .int .i64 a0_2, .int .i64 a0_3, .int .i64 a0_4, .int .i64 a0_5, .int .i64 a0_6, .int .i64 a0_7, .int .i64 a0_8, .int .i64 a0_9, .int .i64 a0_10, .slice A0_11 l0_11.length c0_11, .int .i64 a0_12]) (t := 27) ?hr ?_; (case hd => rfl); (case hg => rfl); (case hr => first | (go_simp; done) | (go_simp; rfl)); intro gb414 hg w72 hbox hb; have n0_ := Aside0.mk (below_step (by repeat (first | (with_reducible first | exact HB.out | apply below_alloc | apply pw_below_drewN | apply below_drew1) | exact HB.out)) hb); have n1_ := Aside0.mk (hbox); have n2_ := Aside0.mk ((by rw [hg]; exact (below_size (by repeat (first | (with_reducible first | exact HB.out | apply below_alloc | apply pw_below_drewN | apply below_drew1) | exact HB.out))) : w.heap.size ≤ gb414)); have n3_ := Aside0.mk ((by rw [hg]; exact (below_size (by repeat (first | (with_reducible first | exact HB.out | apply below_alloc | apply pw_below_drewN | apply below_drew1) | exact HB.out))) : w.heap.size ≤ gb414)); clear HB; have HB := n0_; have BK414 := n1_; have GW414 := n2_; have GE414 := n3_; clear n0_ n1_ n2_ n3_; clear hb hbox hg) | ((with_reducible refine gate_dst (N := 5) rfl ?_); refine box_event ?hg (N := 5) ?hd (cs := #[.int .i64 a2_0, .int .i64 a2_1, .int .i64 a2_2, .int .i64 a2_3, .int .i64 a2_4, .bool a2_5]) (t := 24) ?hr ?_; (case hd => rfl); (case hg => rfl); (case hr => first | (go_simp; done) | (go_simp; rfl)); intro gb415 hg w73 hbox hb; have n0_ := Aside0.mk (blk_below (g := gb414) (o := .cells #[.int .i64 a0_0, .int .i64 a0_1, .int .i64 a0_2, .int .i64 a0_3, .int .i64 a0_4, .int .i64 a0_5, .int .i64 a0_6, .int .i64 a0_7, .int .i64 a0_8, .int .i64 a0_9, .int .i64 a0_10, .slice A0_11 l0_11.length c0_11, .int .i64 a0_12] 27 (0, 0)) (by (with_reducible repeat (first | refine blk_drewN ?_ _ | refine blk_drew ?_ | refine blk_alloc ?_ _)); exact BK414.out) hb); have n1_ := Aside0.mk (below_step (by repeat (first | (with_reducible first | exact HB.out | apply below_alloc | apply pw_below_drewN | apply below_drew1 | refine below_set ?_ GE414.out) | exact HB.out)) hb); have n2_ := Aside0.mk (hbox); have n3_ := Aside0.mk ((by rw [hg]; exact (below_size (by repeat (first | (with_reducible first | exact HB.out | apply below_alloc | apply pw_below_drewN | apply below_drew1 | refine below_set ?_ GE414.out) | exact HB.out))) : w.heap.size ≤ gb415)); have n4_ := Aside0.mk ((by rw [hg]; exact (below_size (by repeat (first | (with_reducible first | exact HB.out | apply below_alloc | apply pw_below_drewN | apply below_drew1 | refine below_set ?_ GE414.out) | exact HB.out))) : w.heap.size ≤ gb415)); have n5_ := Aside0.mk ((by rw [hg]; exact Nat.ne_of_lt (blk_lt (g := gb414) (o := .cells #[.int .i64 a0_0, .int .i64 a0_1, .int .i64 a0_2, .int .i64 a0_3, .int .i64 a0_4, .int .i64 a0_5, .int .i64 a0_6, .int .i64 a0_7, .int .i64 a0_8, .int .i64 a0_9, .int .i64 a0_10, .slice A0_11 l0_11.length c0_11, .int .i64 a0_12] 27 (0, 0)) (by (with_reducible repeat (first | refine blk_drewN ?_ _ | refine blk_drew ?_ | refine blk_alloc ?_ _)); exact BK414.out)) : gb414 ≠ gb415)); have n6_ := Aside0.mk ((by rw [hg]; exact Nat.ne_of_gt (blk_lt (g := gb414) (o := .cells #[.int .i64 a0_0, .int .i64 a0_1, .int .i64 a0_2, .int .i64 a0_3, .int .i64 a0_4, .int .i64 a0_5, .int .i64 a0_6, .int .i64 a0_7, .int .i64 a0_8, .int .i64 a0_9, .int .i64 a0_10, .slice A0_11 l0_11.length c0_11, .int .i64 a0_12] 27 (0, 0)) (by (with_reducible repeat (first | refine blk_drewN ?_ _ | refine blk_drew ?_ | refine blk_alloc ?_ _)); exact BK414.out)) : gb415 ≠ gb414)); clear BK414; clear HB; have BK414 := n0_; have HB := n1_; have BK415 := n2_; have GW415 := n3_; have GE415 := n4_; have NB414_415 := n5_; have NB415_414 := n6_; clear n0_ n1_ n2_ n3_ n4_ n5_ n6_; clear hb hbox hg; have hnb74 := NB414_415.out; have hnc74 := NB415_414.out; have hcz75_0 : w73.cell? ⟨gb414, 0, none⟩ = some (.int .i64 a0_0) := (blk_cell BK414.out 0).trans rfl; have hcz75_1 : w73.cell? ⟨gb414, 1, none⟩ = some (.int .i64 a0_1) := (blk_cell BK414.out 1).trans rfl; have hcz75_2 : w73.cell? ⟨gb414, 2, none⟩ = some (.int .i64 a0_2) := (blk_cell BK414.out 2).trans rfl; have hcz75_3 : w73.cell? ⟨gb414, 3, none⟩ = some (.int .i64 a0_3) := (blk_cell BK414.out 3).trans rfl; have hcz75_4 : w73.cell? ⟨gb414, 4, none⟩ = some (.int .i64 a0_4) := (blk_cell BK414.out 4).trans rfl; have hcz75_5 : w73.cell? ⟨gb414, 5, none⟩ = some (.int .i64 a0_5) := (blk_cell BK414.out 5).trans rfl; have hcz75_6 : w73.cell? ⟨gb414, 6, none⟩ = some (.int .i64 a0_6) := (blk_cell BK414.out 6).trans rfl; have hcz75_7 : w73.cell? ⟨gb414, 7, none⟩ = some (.int .i64 a0_7) := (blk_cell BK414.out 7).trans rfl; have hcz75_8 : w73.cell? ⟨gb414, 8, none⟩ = some (.int .i64 a0_8) := (blk_cell BK414.out 8).trans rfl; have hcz75_9 : w73.cell? ⟨gb414, 9, none⟩ = some (.int .i64 a0_9) := (blk_cell BK414.out 9).trans rfl; have hcz75_10 : w73.cell? ⟨gb414, 10, none⟩ = some (.int .i64 a0_10) := (blk_cell BK414.out 10).trans rfl; have hcz75_11 : w73.cell? ⟨gb414, 11, none⟩ = some (.slice A0_11 l0_11.length c0_11) := (blk_cell BK414.out 11).trans rfl; have hcz75_12 : w73.cell? ⟨gb414, 12, none⟩ = some (.int .i64 a0_12) := (blk_cell BK414.out 12).trans rfl; have hfz75_0 := blk_frozen BK414.out 0; have hfz75_1 := blk_frozen BK414.out 1; have hfz75_2 := blk_frozen BK414.out 2; have hfz75_3 := blk_frozen BK414.out 3; have hfz75_4 := blk_frozen BK414.out 4; have hfz75_5 := blk_frozen BK414.out 5; have hfz75_6 := blk_frozen BK414.out 6; have hfz75_7 := blk_frozen BK414.out 7; have hfz75_8 := blk_frozen BK414.out 8; have hfz75_9 := blk_frozen BK414.out 9; have hfz75_10 := blk_frozen BK414.out 10; have hfz75_11 := blk_frozen BK414.out 11; have hfz75_12 := blk_frozen BK414.out 12) | ((with_reducible refine gate_callee (f := 10) rfl ?_); refine goesL_ (some 13) rfl rfl Try.func10 (by kernel_rfl) rfl #[.agg #[.int .i64 a0_0, .int .i64 a0_1, .int .i64 a0_2, .int .i64 a0_3, .int .i64 a0_4, .int .i64 a0_5, .int .i64 a0_6, .int .i64 a0_7, .int .i64 a0_8, .int .i64 a0_9, .int .i64 a0_10, .slice A0_11 l0_11.length c0_11, .int .i64 a0_12]] rfl (by (try simp only [List.map_toArray, List.map_cons, List.map_nil]); first | done | rfl | (simp only [List.length_drop, List.length_take]; rfl)) ?_; (with_reducible refine (guard_New.nil.calls a0_0 a0_1 a0_2 a0_3 a0_4 a0_5 a0_6 a0_7 a0_8 a0_9 a0_10 _ _ l0_11 a0_12 t515 _ ?side1 ?side2 A70.out).mono ?_); (case side1 => repeat (first | exact (Kd.C_below HR0_11.out HB.out) | (with_reducible refine Kd.C_alloc ?_ _) | (with_reducible refine Kd.C_drewN ?_ _) | (with_reducible refine Kd.C_drew ?_))); (case side2 => exact HC0_11.out); rintro e w76 ⟨rfl, hb⟩; refine ⟨_, rfl, ?_⟩; have n0_ := Aside0.mk (blk_below (g := gb414) (o := .cells #[.int .i64 a0_0, .int .i64 a0_1, .int .i64 a0_2, .int .i64 a0_3, .int .i64 a0_4, .int .i64 a0_5, .int .i64 a0_6, .int .i64 a0_7, .int .i64 a0_8, .int .i64 a0_9, .int .i64 a0_10, .slice A0_11 l0_11.length c0_11, .int .i64 a0_12] 27 (0, 0)) (by (with_reducible repeat (first | refine blk_drewN ?_ _ | refine blk_drew ?_ | refine blk_alloc ?_ _)); exact BK414.out) hb); have n1_ := Aside0.mk (blk_below (g := gb415) (o := .cells #[.int .i64 a2_0, .int .i64 a2_1, .int .i64 a2_2, .int .i64 a2_3, .int .i64 a2_4, .bool a2_5] 24 (0, 0)) (by (with_reducible repeat (first | refine blk_drewN ?_ _ | refine blk_drew ?_ | refine blk_alloc ?_ _)); exact BK415.out) hb); have n2_ := Aside0.mk (below_step (by repeat (first | (with_reducible first | exact HB.out | apply below_alloc | apply pw_below_drewN | apply below_drew1 | refine below_set ?_ GE414.out | refine below_set ?_ GE415.out) | exact HB.out)) hb); clear BK414; clear BK415; clear HB; have BK414 := n0_; have BK415 := n1_; have HB := n2_; clear n0_ n1_ n2_; (try clear hb); (try clear hb2); (try clear hk); (try clear hi)))
  (try simp only [Act.put, List.setIfInBounds_toArray, List.set_cons_zero, List.set_cons_succ])
  go_cut [24] (fun v24 wc => ∃ (kq : Nat) (x24_70 : Bool), v24 = .bool x24_70 ∧ Aside0 (flywheellaw28_GuardFree.j3 kq l1 t515 x24_70 a0_0 a0_1 a0_2 a0_3 a0_4 a0_5 a0_6 a0_7 a0_8 a0_9 a0_10 l0_11 a0_12 a2_0 a2_1 a2_2 a2_3 a2_4 a2_5 = some r) ∧ Aside0 (kq ≤ k) ∧ Aside0 (wc.heap[gb414]? = some (.cells #[.int .i64 a0_0, .int .i64 a0_1, .int .i64 a0_2, .int .i64 a0_3, .int .i64 a0_4, .int .i64 a0_5, .int .i64 a0_6, .int .i64 a0_7, .int .i64 a0_8, .int .i64 a0_9, .int .i64 a0_10, (.slice A0_11 l0_11.length c0_11), .int .i64 a0_12] 27 (0, 0))) ∧ Aside0 (wc.heap[gb415]? = some (.cells #[.int .i64 a2_0, .int .i64 a2_1, .int .i64 a2_2, .int .i64 a2_3, .int .i64 a2_4, .bool a2_5] 24 (0, 0))) ∧ Aside0 (Below w.heap.size w wc))
  case first =>
   have H := HC71.out
   clear HC71
   by_cases c77 : t515 = 0
   ·rw [if_pos c77] at H
    have c77b0 : (t515 == 0) = true := beq_iff_eq.mpr c77
    have c77b1 : (t515 != 0) = false := bne_eq_false_iff_eq.mpr c77
    clear c77
    (first | rw [c77b0] | (simp only [i64_w, i32_w]; rw [c77b0]) | skip)
    have H' := Aside0.mk H
    clear H
    have hnb78 := NB414_415.out
    have hnc78 := NB415_414.out
    have hcz79_0 : w76.cell? ⟨gb414, 0, none⟩ = some (.int .i64 a0_0) := (blk_cell BK414.out 0).trans rfl
    have hcz79_1 : w76.cell? ⟨gb414, 1, none⟩ = some (.int .i64 a0_1) := (blk_cell BK414.out 1).trans rfl
    have hcz79_2 : w76.cell? ⟨gb414, 2, none⟩ = some (.int .i64 a0_2) := (blk_cell BK414.out 2).trans rfl
    have hcz79_3 : w76.cell? ⟨gb414, 3, none⟩ = some (.int .i64 a0_3) := (blk_cell BK414.out 3).trans rfl
    have hcz79_4 : w76.cell? ⟨gb414, 4, none⟩ = some (.int .i64 a0_4) := (blk_cell BK414.out 4).trans rfl
    have hcz79_5 : w76.cell? ⟨gb414, 5, none⟩ = some (.int .i64 a0_5) := (blk_cell BK414.out 5).trans rfl
    have hcz79_6 : w76.cell? ⟨gb414, 6, none⟩ = some (.int .i64 a0_6) := (blk_cell BK414.out 6).trans rfl
    have hcz79_7 : w76.cell? ⟨gb414, 7, none⟩ = some (.int .i64 a0_7) := (blk_cell BK414.out 7).trans rfl
    have hcz79_8 : w76.cell? ⟨gb414, 8, none⟩ = some (.int .i64 a0_8) := (blk_cell BK414.out 8).trans rfl
    have hcz79_9 : w76.cell? ⟨gb414, 9, none⟩ = some (.int .i64 a0_9) := (blk_cell BK414.out 9).trans rfl
    have hcz79_10 : w76.cell? ⟨gb414, 10, none⟩ = some (.int .i64 a0_10) := (blk_cell BK414.out 10).trans rfl
    have hcz79_11 : w76.cell? ⟨gb414, 11, none⟩ = some (.slice A0_11 l0_11.length c0_11) := (blk_cell BK414.out 11).trans rfl
    have hcz79_12 : w76.cell? ⟨gb414, 12, none⟩ = some (.int .i64 a0_12) := (blk_cell BK414.out 12).trans rfl
    have hfz79_0 := blk_frozen BK414.out 0
    have hfz79_1 := blk_frozen BK414.out 1
    have hfz79_2 := blk_frozen BK414.out 2
    have hfz79_3 := blk_frozen BK414.out 3
    have hfz79_4 := blk_frozen BK414.out 4
    have hfz79_5 := blk_frozen BK414.out 5
    have hfz79_6 := blk_frozen BK414.out 6
    have hfz79_7 := blk_frozen BK414.out 7
    have hfz79_8 := blk_frozen BK414.out 8
    have hfz79_9 := blk_frozen BK414.out 9
    have hfz79_10 := blk_frozen BK414.out 10
    have hfz79_11 := blk_frozen BK414.out 11
    have hfz79_12 := blk_frozen BK414.out 12
    go_wp2
    go_meet
    case rel => exact ⟨_, (decide (a0_5 ≥ a0_4)), (by first | rfl | (simp; done) | (simp [*]; done)), H', ⟨by first | omega | exact Nat.le_refl _⟩, ⟨by (with_reducible repeat (first | refine blk_drewN ?_ _ | refine blk_drew ?_ | refine blk_alloc ?_ _)); exact BK414.out⟩, ⟨by (with_reducible repeat (first | refine blk_drewN ?_ _ | refine blk_drew ?_ | refine blk_alloc ?_ _)); exact BK415.out⟩, ⟨by repeat (first | (with_reducible first | exact HB.out | apply below_alloc | apply pw_below_drewN | apply below_drew1 | refine below_set ?_ GE414.out | refine below_set ?_ GE415.out) | exact HB.out)⟩⟩
   ·rw [if_neg c77] at H
    have c77b0 : (t515 == 0) = false := beq_eq_false_iff_ne.mpr c77
    have c77b1 : (t515 != 0) = true := bne_iff_ne.mpr c77
    (first | rw [c77b0] | (simp only [i64_w, i32_w]; rw [c77b0]) | skip)
    have H' := Aside0.mk H
    clear H
    go_wp2
    go_meet
    case rel => exact ⟨_, (true), (by first | rfl | (simp; done) | (simp [*]; done)), H', ⟨by first | omega | exact Nat.le_refl _⟩, ⟨by (with_reducible repeat (first | refine blk_drewN ?_ _ | refine blk_drew ?_ | refine blk_alloc ?_ _)); exact BK414.out⟩, ⟨by (with_reducible repeat (first | refine blk_drewN ?_ _ | refine blk_drew ?_ | refine blk_alloc ?_ _)); exact BK415.out⟩, ⟨by repeat (first | (with_reducible first | exact HB.out | apply below_alloc | apply pw_below_drewN | apply below_drew1 | refine below_set ?_ GE414.out | refine below_set ?_ GE415.out) | exact HB.out)⟩⟩
  case rest =>
   clear HC71
   try clear c1
   try clear c2
   try clear p2
   try clear c3
   try clear c4
   try clear c4b0
   try clear p4
   try clear q4
   try clear hx4
   try clear c5
   try clear c6
   try clear p6
   try clear c7
   try clear c9
   try clear c10
   try clear c11
   try clear c12
   try clear c12b0
   try clear c12b1
   try clear c13
   try clear c14
   try clear c16
   try clear c17
   try clear c17b0
   try clear c17b1
   try clear c21
   try clear c21b0
   try clear c22
   try clear c22b0
   try clear c23
   try clear c23b0
   try clear c30
   try clear c30b0
   try clear c30b1
   try clear c32
   try clear c33
   try clear c34
   try clear c36
   try clear c41
   try clear c41b0
   try clear c41b1
   try clear c43
   try clear p43
   try clear q43
   try clear hx43
   try clear c44
   try clear p44
   try clear q44
   try clear hx44
   try clear c46
   try clear c54
   try clear c55
   try clear c57
   try clear c64
   try clear p64
   try clear c65
   try clear c67
   try clear c74
   try clear c77
   try clear c77b0
   try clear c77b1
   try clear c78
   try clear hcz10_0
   try clear hcz10_1
   try clear hcz10_10
   try clear hcz10_11
   try clear hcz10_12
   try clear hcz10_2
   try clear hcz10_3
   try clear hcz10_4
   try clear hcz10_5
   try clear hcz10_6
   try clear hcz10_7
   try clear hcz10_8
   try clear hcz10_9
   try clear hcz15_0
   try clear hcz15_1
   try clear hcz15_10
   try clear hcz15_11
   try clear hcz15_12
   try clear hcz15_2
   try clear hcz15_3
   try clear hcz15_4
   try clear hcz15_5
   try clear hcz15_6
   try clear hcz15_7
   try clear hcz15_8
   try clear hcz15_9
   try clear hcz35_0
   try clear hcz35_1
   try clear hcz35_10
   try clear hcz35_11
   try clear hcz35_12
   try clear hcz35_2
   try clear hcz35_3
   try clear hcz35_4
   try clear hcz35_5
   try clear hcz35_6
   try clear hcz35_7
   try clear hcz35_8
   try clear hcz35_9
   try clear hcz37_0
   try clear hcz37_1
   try clear hcz37_2
   try clear hcz37_3
   try clear hcz37_4
   try clear hcz37_5
   try clear hcz45_0
   try clear hcz45_1
   try clear hcz45_10
   try clear hcz45_11
   try clear hcz45_12
   try clear hcz45_2
   try clear hcz45_3
   try clear hcz45_4
   try clear hcz45_5
   try clear hcz45_6
   try clear hcz45_7
   try clear hcz45_8
   try clear hcz45_9
   try clear hcz47_0
   try clear hcz47_1
   try clear hcz47_2
   try clear hcz47_3
   try clear hcz47_4
   try clear hcz47_5
   try clear hcz50_0
   try clear hcz50_1
   try clear hcz50_2
   try clear hcz50_3
   try clear hcz50_4
   try clear hcz50_5
   try clear hcz51_0
   try clear hcz51_1
   try clear hcz51_10
   try clear hcz51_11
   try clear hcz51_12
   try clear hcz51_2
   try clear hcz51_3
   try clear hcz51_4
   try clear hcz51_5
   try clear hcz51_6
   try clear hcz51_7
   try clear hcz51_8
   try clear hcz51_9
   try clear hcz56_0
   try clear hcz56_1
   try clear hcz56_10
   try clear hcz56_11
   try clear hcz56_12
   try clear hcz56_2
   try clear hcz56_3
   try clear hcz56_4
   try clear hcz56_5
   try clear hcz56_6
   try clear hcz56_7
   try clear hcz56_8
   try clear hcz56_9
   try clear hcz58_0
   try clear hcz58_1
   try clear hcz58_2
   try clear hcz58_3
   try clear hcz58_4
   try clear hcz58_5
   try clear hcz61_0
   try clear hcz61_1
   try clear hcz61_2
   try clear hcz61_3
   try clear hcz61_4
   try clear hcz61_5
   try clear hcz62_0
   try clear hcz62_1
   try clear hcz62_10
   try clear hcz62_11
   try clear hcz62_12
   try clear hcz62_2
   try clear hcz62_3
   try clear hcz62_4
   try clear hcz62_5
   try clear hcz62_6
   try clear hcz62_7
   try clear hcz62_8
   try clear hcz62_9
   try clear hcz66_0
   try clear hcz66_1
   try clear hcz66_10
   try clear hcz66_11
   try clear hcz66_12
   try clear hcz66_2
   try clear hcz66_3
   try clear hcz66_4
   try clear hcz66_5
   try clear hcz66_6
   try clear hcz66_7
   try clear hcz66_8
   try clear hcz66_9
   try clear hcz68_0
   try clear hcz68_1
   try clear hcz68_2
   try clear hcz68_3
   try clear hcz68_4
   try clear hcz68_5
   try clear hcz75_0
   try clear hcz75_1
   try clear hcz75_10
   try clear hcz75_11
   try clear hcz75_12
   try clear hcz75_2
   try clear hcz75_3
   try clear hcz75_4
   try clear hcz75_5
   try clear hcz75_6
   try clear hcz75_7
   try clear hcz75_8
   try clear hcz75_9
   try clear hcz79_0
   try clear hcz79_1
   try clear hcz79_10
   try clear hcz79_11
   try clear hcz79_12
   try clear hcz79_2
   try clear hcz79_3
   try clear hcz79_4
   try clear hcz79_5
   try clear hcz79_6
   try clear hcz79_7
   try clear hcz79_8
   try clear hcz79_9
   try clear hfz10_0
   try clear hfz10_1
   try clear hfz10_10
   try clear hfz10_11
   try clear hfz10_12
   try clear hfz10_2
   try clear hfz10_3
   try clear hfz10_4
   try clear hfz10_5
   try clear hfz10_6
   try clear hfz10_7
   try clear hfz10_8
   try clear hfz10_9
   try clear hfz15_0
   try clear hfz15_1
   try clear hfz15_10
   try clear hfz15_11
   try clear hfz15_12
   try clear hfz15_2
   try clear hfz15_3
   try clear hfz15_4
   try clear hfz15_5
   try clear hfz15_6
   try clear hfz15_7
   try clear hfz15_8
   try clear hfz15_9
   try clear hfz35_0
   try clear hfz35_1
   try clear hfz35_10
   try clear hfz35_11
   try clear hfz35_12
   try clear hfz35_2
   try clear hfz35_3
   try clear hfz35_4
   try clear hfz35_5
   try clear hfz35_6
   try clear hfz35_7
   try clear hfz35_8
   try clear hfz35_9
   try clear hfz37_0
   try clear hfz37_1
   try clear hfz37_2
   try clear hfz37_3
   try clear hfz37_4
   try clear hfz37_5
   try clear hfz45_0
   try clear hfz45_1
   try clear hfz45_10
   try clear hfz45_11
   try clear hfz45_12
   try clear hfz45_2
   try clear hfz45_3
   try clear hfz45_4
   try clear hfz45_5
   try clear hfz45_6
   try clear hfz45_7
   try clear hfz45_8
   try clear hfz45_9
   try clear hfz47_0
   try clear hfz47_1
   try clear hfz47_2
   try clear hfz47_3
   try clear hfz47_4
   try clear hfz47_5
   try clear hfz50_0
   try clear hfz50_1
   try clear hfz50_2
   try clear hfz50_3
   try clear hfz50_4
   try clear hfz50_5
   try clear hfz51_0
   try clear hfz51_1
   try clear hfz51_10
   try clear hfz51_11
   try clear hfz51_12
   try clear hfz51_2
   try clear hfz51_3
   try clear hfz51_4
   try clear hfz51_5
   try clear hfz51_6
   try clear hfz51_7
   try clear hfz51_8
   try clear hfz51_9
   try clear hfz56_0
   try clear hfz56_1
   try clear hfz56_10
   try clear hfz56_11
   try clear hfz56_12
   try clear hfz56_2
   try clear hfz56_3
   try clear hfz56_4
   try clear hfz56_5
   try clear hfz56_6
   try clear hfz56_7
   try clear hfz56_8
   try clear hfz56_9
   try clear hfz58_0
   try clear hfz58_1
   try clear hfz58_2
   try clear hfz58_3
   try clear hfz58_4
   try clear hfz58_5
   try clear hfz61_0
   try clear hfz61_1
   try clear hfz61_2
   try clear hfz61_3
   try clear hfz61_4
   try clear hfz61_5
   try clear hfz62_0
   try clear hfz62_1
   try clear hfz62_10
   try clear hfz62_11
   try clear hfz62_12
   try clear hfz62_2
   try clear hfz62_3
   try clear hfz62_4
   try clear hfz62_5
   try clear hfz62_6
   try clear hfz62_7
   try clear hfz62_8
   try clear hfz62_9
   try clear hfz66_0
   try clear hfz66_1
   try clear hfz66_10
   try clear hfz66_11
   try clear hfz66_12
   try clear hfz66_2
   try clear hfz66_3
   try clear hfz66_4
   try clear hfz66_5
   try clear hfz66_6
   try clear hfz66_7
   try clear hfz66_8
   try clear hfz66_9
   try clear hfz68_0
   try clear hfz68_1
   try clear hfz68_2
   try clear hfz68_3
   try clear hfz68_4
   try clear hfz68_5
   try clear hfz75_0
   try clear hfz75_1
   try clear hfz75_10
   try clear hfz75_11
   try clear hfz75_12
   try clear hfz75_2
   try clear hfz75_3
   try clear hfz75_4
   try clear hfz75_5
   try clear hfz75_6
   try clear hfz75_7
   try clear hfz75_8
   try clear hfz75_9
   try clear hfz79_0
   try clear hfz79_1
   try clear hfz79_10
   try clear hfz79_11
   try clear hfz79_12
   try clear hfz79_2
   try clear hfz79_3
   try clear hfz79_4
   try clear hfz79_5
   try clear hfz79_6
   try clear hfz79_7
   try clear hfz79_8
   try clear hfz79_9
   try clear hx437_0
   try clear hx437_1
   try clear hx437_2
   try clear hx437_3
   try clear hx437_4
   try clear hx437_5
   try clear hx438_0
   try clear hx438_1
   try clear hx438_2
   try clear hx438_3
   try clear hx438_4
   try clear hx438_5
   try clear hx439_0
   try clear hx439_1
   try clear hx439_2
   try clear hx439_3
   try clear hx439_4
   try clear hx439_5
   try clear hx440_0
   try clear hx440_1
   try clear hx440_2
   try clear hx440_3
   try clear hx440_4
   try clear hx440_5
   try clear hx441_0
   try clear hx441_1
   try clear hx441_2
   try clear hx441_3
   try clear hx441_4
   try clear hx441_5
   try clear p2
   try clear p4
   try clear p437
   try clear p438
   try clear p439
   try clear p440
   try clear p441
   try clear p6
   try clear q4
   try clear q437
   try clear q438
   try clear q439
   try clear q440
   try clear q441
   obtain ⟨kq, x24_70, rfl, HA, HJ70, BK414, BK415, HB⟩ := hcut
   cases kq with
   | zero => exact absurd HA.out (by simp [flywheellaw28_GuardFree.j3])
   | succ kj70 =>
    have H := HA.out
    clear HA
    simp only [flywheellaw28_GuardFree.j3] at H
    by_cases c80 : x24_70 = true
    ·subst c80
     have H1 : (if t515 = 0 then ((flywheellaw28_wakes.f).bind fun t516 => (some t516)) else ((flywheellaw28_wakes.f).bind fun t517 => (some t517))) = some r := by rw [if_pos rfl] at H; exact H
     clear H
     have H := H1
     clear H1
     by_cases c81 : t515 = 0
     ·rw [if_pos c81] at H
      have c81b0 : (t515 == 0) = true := beq_iff_eq.mpr c81
      have c81b1 : (t515 != 0) = false := bne_eq_false_iff_eq.mpr c81
      clear c81
      replace H := Option.bind_eq_some_iff.mp H
      obtain ⟨t516, A820, H⟩ := H
      replace H : (some t516) = some r := H
      have A82 := Aside0.mk A820
      clear A820
      obtain rfl := Option.some.inj H
      go_wp2_with (first | (go_at_call 14; (with_reducible refine (flywheellaw28_wakes.calls  t516 _ A82.out).mono ?_); rintro e w83 ⟨rfl, hb⟩; have n0_ := Aside0.mk (blk_below (g := gb414) (o := .cells #[.int .i64 a0_0, .int .i64 a0_1, .int .i64 a0_2, .int .i64 a0_3, .int .i64 a0_4, .int .i64 a0_5, .int .i64 a0_6, .int .i64 a0_7, .int .i64 a0_8, .int .i64 a0_9, .int .i64 a0_10, .slice A0_11 l0_11.length c0_11, .int .i64 a0_12] 27 (0, 0)) (by (with_reducible repeat (first | refine blk_drewN ?_ _ | refine blk_drew ?_ | refine blk_alloc ?_ _)); exact BK414.out) hb); have n1_ := Aside0.mk (blk_below (g := gb415) (o := .cells #[.int .i64 a2_0, .int .i64 a2_1, .int .i64 a2_2, .int .i64 a2_3, .int .i64 a2_4, .bool a2_5] 24 (0, 0)) (by (with_reducible repeat (first | refine blk_drewN ?_ _ | refine blk_drew ?_ | refine blk_alloc ?_ _)); exact BK415.out) hb); have n2_ := Aside0.mk (below_step (by repeat (first | (with_reducible first | exact HB.out | apply below_alloc | apply pw_below_drewN | apply below_drew1 | refine below_set ?_ GE414.out | refine below_set ?_ GE415.out) | exact HB.out)) hb); clear BK414; clear BK415; clear HB; have BK414 := n0_; have BK415 := n1_; have HB := n2_; clear n0_ n1_ n2_; (try clear hb); (try clear hb2); (try clear hk); (try clear hi)))
      go_ret
      exact ⟨by first | rfl | (simp [errW_none, errW_some] <;> rfl) | (simp [*, errW_none, errW_some] <;> rfl), by repeat (first | (with_reducible first | exact HB.out | apply below_alloc | apply pw_below_drewN | apply below_drew1 | refine below_set ?_ GE414.out | refine below_set ?_ GE415.out) | exact HB.out)⟩
     ·rw [if_neg c81] at H
      have c81b0 : (t515 == 0) = false := beq_eq_false_iff_ne.mpr c81
      have c81b1 : (t515 != 0) = true := bne_iff_ne.mpr c81
      replace H := Option.bind_eq_some_iff.mp H
      obtain ⟨t517, A840, H⟩ := H
      replace H : (some t517) = some r := H
      have A84 := Aside0.mk A840
      clear A840
      obtain rfl := Option.some.inj H
      go_wp2_with (first | (go_at_call 14; (with_reducible refine (flywheellaw28_wakes.calls  t517 _ A84.out).mono ?_); rintro e w85 ⟨rfl, hb⟩; have n0_ := Aside0.mk (blk_below (g := gb414) (o := .cells #[.int .i64 a0_0, .int .i64 a0_1, .int .i64 a0_2, .int .i64 a0_3, .int .i64 a0_4, .int .i64 a0_5, .int .i64 a0_6, .int .i64 a0_7, .int .i64 a0_8, .int .i64 a0_9, .int .i64 a0_10, .slice A0_11 l0_11.length c0_11, .int .i64 a0_12] 27 (0, 0)) (by (with_reducible repeat (first | refine blk_drewN ?_ _ | refine blk_drew ?_ | refine blk_alloc ?_ _)); exact BK414.out) hb); have n1_ := Aside0.mk (blk_below (g := gb415) (o := .cells #[.int .i64 a2_0, .int .i64 a2_1, .int .i64 a2_2, .int .i64 a2_3, .int .i64 a2_4, .bool a2_5] 24 (0, 0)) (by (with_reducible repeat (first | refine blk_drewN ?_ _ | refine blk_drew ?_ | refine blk_alloc ?_ _)); exact BK415.out) hb); have n2_ := Aside0.mk (below_step (by repeat (first | (with_reducible first | exact HB.out | apply below_alloc | apply pw_below_drewN | apply below_drew1 | refine below_set ?_ GE414.out | refine below_set ?_ GE415.out) | exact HB.out)) hb); clear BK414; clear BK415; clear HB; have BK414 := n0_; have BK415 := n1_; have HB := n2_; clear n0_ n1_ n2_; (try clear hb); (try clear hb2); (try clear hk); (try clear hi)))
      go_ret
      exact ⟨by first | rfl | (simp [errW_none, errW_some] <;> rfl) | (simp [*, errW_none, errW_some] <;> rfl), by repeat (first | (with_reducible first | exact HB.out | apply below_alloc | apply pw_below_drewN | apply below_drew1 | refine below_set ?_ GE414.out | refine below_set ?_ GE415.out) | exact HB.out)⟩
    ·replace c80 := Bool.eq_false_iff.mpr c80
     subst c80
     have H1 : (flywheellaw28_GuardFree.l5000 kj70 l1 0 a0_0 a0_1 a0_2 a0_3 a0_4 a0_5 a0_6 a0_7 a0_8 a0_9 a0_10 l0_11 a0_12 a2_0 a2_1 a2_2 a2_3 a2_4 a2_5) = some r := by rw [if_neg (show ¬ (false = true) by decide)] at H; exact H
     clear H
     have H := H1
     clear H1
     have HC86 := Aside0.mk H
     clear H
     go_upto_block 0 with (fail)
     go_cut [] (fun wc => ∃ (kq : Nat), Aside0 (flywheellaw28_GuardFree.j5 kq a0_0 a0_1 a0_2 a0_3 a0_4 a0_5 a0_6 a0_7 a0_8 a0_9 a0_10 l0_11 a0_12 a2_0 a2_1 a2_2 a2_3 a2_4 a2_5 = some r) ∧ Aside0 (kq ≤ kj70) ∧ Aside0 (wc.heap[gb414]? = some (.cells #[.int .i64 a0_0, .int .i64 a0_1, .int .i64 a0_2, .int .i64 a0_3, .int .i64 a0_4, .int .i64 a0_5, .int .i64 a0_6, .int .i64 a0_7, .int .i64 a0_8, .int .i64 a0_9, .int .i64 a0_10, (.slice A0_11 l0_11.length c0_11), .int .i64 a0_12] 27 (0, 0))) ∧ Aside0 (wc.heap[gb415]? = some (.cells #[.int .i64 a2_0, .int .i64 a2_1, .int .i64 a2_2, .int .i64 a2_3, .int .i64 a2_4, .bool a2_5] 24 (0, 0))) ∧ Aside0 (Below w.heap.size w wc))
     case first =>
      have H := HC86.out
      clear HC86
      have H' := Aside0.mk H
      clear H
      go_wp2
      go_loopg [9] kj70 (fun kq v9 w' => ∃ (x9_2 : Int), v9 = .int .i64 x9_2 ∧ Aside0 (flywheellaw28_GuardFree.l5000 kq l1 x9_2 a0_0 a0_1 a0_2 a0_3 a0_4 a0_5 a0_6 a0_7 a0_8 a0_9 a0_10 l0_11 a0_12 a2_0 a2_1 a2_2 a2_3 a2_4 a2_5 = some r) ∧ Aside0 (kq ≤ kj70) ∧ Aside0 (w'.heap[gb414]? = some (.cells #[.int .i64 a0_0, .int .i64 a0_1, .int .i64 a0_2, .int .i64 a0_3, .int .i64 a0_4, .int .i64 a0_5, .int .i64 a0_6, .int .i64 a0_7, .int .i64 a0_8, .int .i64 a0_9, .int .i64 a0_10, (.slice A0_11 l0_11.length c0_11), .int .i64 a0_12] 27 (0, 0))) ∧ Aside0 (w'.heap[gb415]? = some (.cells #[.int .i64 a2_0, .int .i64 a2_1, .int .i64 a2_2, .int .i64 a2_3, .int .i64 a2_4, .bool a2_5] 24 (0, 0))) ∧ Aside0 (Below w.heap.size w w'))
      case atStart => exact ⟨(0), (by first | rfl | (simp; done) | (simp [*]; done)), H', ⟨Nat.le_refl _⟩, ⟨by (with_reducible repeat (first | refine blk_drewN ?_ _ | refine blk_drew ?_ | refine blk_alloc ?_ _)); exact BK414.out⟩, ⟨by (with_reducible repeat (first | refine blk_drewN ?_ _ | refine blk_drew ?_ | refine blk_alloc ?_ _)); exact BK415.out⟩, ⟨by repeat (first | (with_reducible first | exact HB.out | apply below_alloc | apply pw_below_drewN | apply below_drew1 | refine below_set ?_ GE414.out | refine below_set ?_ GE415.out) | exact HB.out)⟩⟩
      case round =>
       clear H'
       try clear c1
       try clear c2
       try clear p2
       try clear c3
       try clear c4
       try clear c4b0
       try clear p4
       try clear q4
       try clear hx4
       try clear c5
       try clear c6
       try clear p6
       try clear c7
       try clear c8
       try clear c9
       try clear c10
       try clear c11
       try clear c12
       try clear c12b0
       try clear c12b1
       try clear c13
       try clear c14
       try clear c16
       try clear c17
       try clear c17b0
       try clear c17b1
       try clear c21
       try clear c21b0
       try clear c22
       try clear c22b0
       try clear c23
       try clear c23b0
       try clear c30
       try clear c30b0
       try clear c30b1
       try clear c32
       try clear c33
       try clear c34
       try clear c36
       try clear c41
       try clear c41b0
       try clear c41b1
       try clear c43
       try clear p43
       try clear q43
       try clear hx43
       try clear c44
       try clear p44
       try clear q44
       try clear hx44
       try clear c46
       try clear c54
       try clear c55
       try clear c57
       try clear c64
       try clear p64
       try clear c65
       try clear c67
       try clear c74
       try clear c77
       try clear c77b0
       try clear c77b1
       try clear c78
       try clear c80
       try clear c81
       try clear c81b0
       try clear c81b1
       try clear hcz10_0
       try clear hcz10_1
       try clear hcz10_10
       try clear hcz10_11
       try clear hcz10_12
       try clear hcz10_2
       try clear hcz10_3
       try clear hcz10_4
       try clear hcz10_5
       try clear hcz10_6
       try clear hcz10_7
       try clear hcz10_8
       try clear hcz10_9
       try clear hcz15_0
       try clear hcz15_1
       try clear hcz15_10
       try clear hcz15_11
       try clear hcz15_12
       try clear hcz15_2
       try clear hcz15_3
       try clear hcz15_4
       try clear hcz15_5
       try clear hcz15_6
       try clear hcz15_7
       try clear hcz15_8
       try clear hcz15_9
       try clear hcz35_0
       try clear hcz35_1
       try clear hcz35_10
       try clear hcz35_11
       try clear hcz35_12
       try clear hcz35_2
       try clear hcz35_3
       try clear hcz35_4
       try clear hcz35_5
       try clear hcz35_6
       try clear hcz35_7
       try clear hcz35_8
       try clear hcz35_9
       try clear hcz37_0
       try clear hcz37_1
       try clear hcz37_2
       try clear hcz37_3
       try clear hcz37_4
       try clear hcz37_5
       try clear hcz45_0
       try clear hcz45_1
       try clear hcz45_10
       try clear hcz45_11
       try clear hcz45_12
       try clear hcz45_2
       try clear hcz45_3
       try clear hcz45_4
       try clear hcz45_5
       try clear hcz45_6
       try clear hcz45_7
       try clear hcz45_8
       try clear hcz45_9
       try clear hcz47_0
       try clear hcz47_1
       try clear hcz47_2
       try clear hcz47_3
       try clear hcz47_4
       try clear hcz47_5
       try clear hcz50_0
       try clear hcz50_1
       try clear hcz50_2
       try clear hcz50_3
       try clear hcz50_4
       try clear hcz50_5
       try clear hcz51_0
       try clear hcz51_1
       try clear hcz51_10
       try clear hcz51_11
       try clear hcz51_12
       try clear hcz51_2
       try clear hcz51_3
       try clear hcz51_4
       try clear hcz51_5
       try clear hcz51_6
       try clear hcz51_7
       try clear hcz51_8
       try clear hcz51_9
       try clear hcz56_0
       try clear hcz56_1
       try clear hcz56_10
       try clear hcz56_11
       try clear hcz56_12
       try clear hcz56_2
       try clear hcz56_3
       try clear hcz56_4
       try clear hcz56_5
       try clear hcz56_6
       try clear hcz56_7
       try clear hcz56_8
       try clear hcz56_9
       try clear hcz58_0
       try clear hcz58_1
       try clear hcz58_2
       try clear hcz58_3
       try clear hcz58_4
       try clear hcz58_5
       try clear hcz61_0
       try clear hcz61_1
       try clear hcz61_2
       try clear hcz61_3
       try clear hcz61_4
       try clear hcz61_5
       try clear hcz62_0
       try clear hcz62_1
       try clear hcz62_10
       try clear hcz62_11
       try clear hcz62_12
       try clear hcz62_2
       try clear hcz62_3
       try clear hcz62_4
       try clear hcz62_5
       try clear hcz62_6
       try clear hcz62_7
       try clear hcz62_8
       try clear hcz62_9
       try clear hcz66_0
       try clear hcz66_1
       try clear hcz66_10
       try clear hcz66_11
       try clear hcz66_12
       try clear hcz66_2
       try clear hcz66_3
       try clear hcz66_4
       try clear hcz66_5
       try clear hcz66_6
       try clear hcz66_7
       try clear hcz66_8
       try clear hcz66_9
       try clear hcz68_0
       try clear hcz68_1
       try clear hcz68_2
       try clear hcz68_3
       try clear hcz68_4
       try clear hcz68_5
       try clear hcz75_0
       try clear hcz75_1
       try clear hcz75_10
       try clear hcz75_11
       try clear hcz75_12
       try clear hcz75_2
       try clear hcz75_3
       try clear hcz75_4
       try clear hcz75_5
       try clear hcz75_6
       try clear hcz75_7
       try clear hcz75_8
       try clear hcz75_9
       try clear hcz79_0
       try clear hcz79_1
       try clear hcz79_10
       try clear hcz79_11
       try clear hcz79_12
       try clear hcz79_2
       try clear hcz79_3
       try clear hcz79_4
       try clear hcz79_5
       try clear hcz79_6
       try clear hcz79_7
       try clear hcz79_8
       try clear hcz79_9
       try clear hfz10_0
       try clear hfz10_1
       try clear hfz10_10
       try clear hfz10_11
       try clear hfz10_12
       try clear hfz10_2
       try clear hfz10_3
       try clear hfz10_4
       try clear hfz10_5
       try clear hfz10_6
       try clear hfz10_7
       try clear hfz10_8
       try clear hfz10_9
       try clear hfz15_0
       try clear hfz15_1
       try clear hfz15_10
       try clear hfz15_11
       try clear hfz15_12
       try clear hfz15_2
       try clear hfz15_3
       try clear hfz15_4
       try clear hfz15_5
       try clear hfz15_6
       try clear hfz15_7
       try clear hfz15_8
       try clear hfz15_9
       try clear hfz35_0
       try clear hfz35_1
       try clear hfz35_10
       try clear hfz35_11
       try clear hfz35_12
       try clear hfz35_2
       try clear hfz35_3
       try clear hfz35_4
       try clear hfz35_5
       try clear hfz35_6
       try clear hfz35_7
       try clear hfz35_8
       try clear hfz35_9
       try clear hfz37_0
       try clear hfz37_1
       try clear hfz37_2
       try clear hfz37_3
       try clear hfz37_4
       try clear hfz37_5
       try clear hfz45_0
       try clear hfz45_1
       try clear hfz45_10
       try clear hfz45_11
       try clear hfz45_12
       try clear hfz45_2
       try clear hfz45_3
       try clear hfz45_4
       try clear hfz45_5
       try clear hfz45_6
       try clear hfz45_7
       try clear hfz45_8
       try clear hfz45_9
       try clear hfz47_0
       try clear hfz47_1
       try clear hfz47_2
       try clear hfz47_3
       try clear hfz47_4
       try clear hfz47_5
       try clear hfz50_0
       try clear hfz50_1
       try clear hfz50_2
       try clear hfz50_3
       try clear hfz50_4
       try clear hfz50_5
       try clear hfz51_0
       try clear hfz51_1
       try clear hfz51_10
       try clear hfz51_11
       try clear hfz51_12
       try clear hfz51_2
       try clear hfz51_3
       try clear hfz51_4
       try clear hfz51_5
       try clear hfz51_6
       try clear hfz51_7
       try clear hfz51_8
       try clear hfz51_9
       try clear hfz56_0
       try clear hfz56_1
       try clear hfz56_10
       try clear hfz56_11
       try clear hfz56_12
       try clear hfz56_2
       try clear hfz56_3
       try clear hfz56_4
       try clear hfz56_5
       try clear hfz56_6
       try clear hfz56_7
       try clear hfz56_8
       try clear hfz56_9
       try clear hfz58_0
       try clear hfz58_1
       try clear hfz58_2
       try clear hfz58_3
       try clear hfz58_4
       try clear hfz58_5
       try clear hfz61_0
       try clear hfz61_1
       try clear hfz61_2
       try clear hfz61_3
       try clear hfz61_4
       try clear hfz61_5
       try clear hfz62_0
       try clear hfz62_1
       try clear hfz62_10
       try clear hfz62_11
       try clear hfz62_12
       try clear hfz62_2
       try clear hfz62_3
       try clear hfz62_4
       try clear hfz62_5
       try clear hfz62_6
       try clear hfz62_7
       try clear hfz62_8
       try clear hfz62_9
       try clear hfz66_0
       try clear hfz66_1
       try clear hfz66_10
       try clear hfz66_11
       try clear hfz66_12
       try clear hfz66_2
       try clear hfz66_3
       try clear hfz66_4
       try clear hfz66_5
       try clear hfz66_6
       try clear hfz66_7
       try clear hfz66_8
       try clear hfz66_9
       try clear hfz68_0
       try clear hfz68_1
       try clear hfz68_2
       try clear hfz68_3
       try clear hfz68_4
       try clear hfz68_5
       try clear hfz75_0
       try clear hfz75_1
       try clear hfz75_10
       try clear hfz75_11
       try clear hfz75_12
       try clear hfz75_2
       try clear hfz75_3
       try clear hfz75_4
       try clear hfz75_5
       try clear hfz75_6
       try clear hfz75_7
       try clear hfz75_8
       try clear hfz75_9
       try clear hfz79_0
       try clear hfz79_1
       try clear hfz79_10
       try clear hfz79_11
       try clear hfz79_12
       try clear hfz79_2
       try clear hfz79_3
       try clear hfz79_4
       try clear hfz79_5
       try clear hfz79_6
       try clear hfz79_7
       try clear hfz79_8
       try clear hfz79_9
       try clear hx437_0
       try clear hx437_1
       try clear hx437_2
       try clear hx437_3
       try clear hx437_4
       try clear hx437_5
       try clear hx438_0
       try clear hx438_1
       try clear hx438_2
       try clear hx438_3
       try clear hx438_4
       try clear hx438_5
       try clear hx439_0
       try clear hx439_1
       try clear hx439_2
       try clear hx439_3
       try clear hx439_4
       try clear hx439_5
       try clear hx440_0
       try clear hx440_1
       try clear hx440_2
       try clear hx440_3
       try clear hx440_4
       try clear hx440_5
       try clear hx441_0
       try clear hx441_1
       try clear hx441_2
       try clear hx441_3
       try clear hx441_4
       try clear hx441_5
       try clear p2
       try clear p4
       try clear p43
       try clear p437
       try clear p438
       try clear p439
       try clear p44
       try clear p440
       try clear p441
       try clear p6
       try clear p64
       try clear q4
       try clear q43
       try clear q437
       try clear q438
       try clear q439
       try clear q44
       try clear q440
       try clear q441
       obtain ⟨x9_2, rfl, HA, HK2, BK414, BK415, HB⟩ := hrel
       cases gk with
       | zero => exact absurd HA.out (by simp [flywheellaw28_GuardFree.l5000])
       | succ k2 =>
        have H := HA.out
        clear HA
        simp only [flywheellaw28_GuardFree.l5000] at H
        by_cases c87 : x9_2 < (l1.length : Int)
        ·rw [if_pos c87] at H
         have c87b0 : decide (x9_2 < (l1.length : Int)) = true := decide_eq_true c87
         clear c87
         (first | rw [c87b0] | (simp only [i64_w, i32_w]; rw [c87b0]) | skip)
         by_cases c88 : x9_2 < 100
         ·rw [if_pos c88] at H
          have c88b0 : decide (x9_2 < 100) = true := decide_eq_true c88
          clear c88
          by_cases c89 : 0 ≤ x9_2
          ·rw [if_pos c89] at H
           have c89b0 : decide (0 ≤ x9_2) = true := decide_eq_true c89
           clear c89
           exact absurd H (by simp)
          ·rw [if_neg c89] at H
           exact absurd H (by simp)
         ·rw [if_neg c88] at H
          have c88b0 : decide (x9_2 < 100) = false := decide_eq_false c88
          clear c88
          have H' := Aside0.mk H
          clear H
          go_wp2
          go_meet
          case rel => exact ⟨_, H', ⟨by have := HJ70.out; have := HK2.out; first | omega | exact Nat.le_refl _⟩, ⟨by (with_reducible repeat (first | refine blk_drewN ?_ _ | refine blk_drew ?_ | refine blk_alloc ?_ _)); exact BK414.out⟩, ⟨by (with_reducible repeat (first | refine blk_drewN ?_ _ | refine blk_drew ?_ | refine blk_alloc ?_ _)); exact BK415.out⟩, ⟨by repeat (first | (with_reducible first | exact HB.out | apply below_alloc | apply pw_below_drewN | apply below_drew1 | refine below_set ?_ GE414.out | refine below_set ?_ GE415.out) | exact HB.out)⟩⟩
        ·rw [if_neg c87] at H
         have c87b0 : decide (x9_2 < (l1.length : Int)) = false := decide_eq_false c87
         clear c87
         (first | rw [c87b0] | (simp only [i64_w, i32_w]; rw [c87b0]) | skip)
         have H' := Aside0.mk H
         clear H
         go_wp2
         go_meet
         case rel => exact ⟨_, H', ⟨by have := HJ70.out; have := HK2.out; first | omega | exact Nat.le_refl _⟩, ⟨by (with_reducible repeat (first | refine blk_drewN ?_ _ | refine blk_drew ?_ | refine blk_alloc ?_ _)); exact BK414.out⟩, ⟨by (with_reducible repeat (first | refine blk_drewN ?_ _ | refine blk_drew ?_ | refine blk_alloc ?_ _)); exact BK415.out⟩, ⟨by repeat (first | (with_reducible first | exact HB.out | apply below_alloc | apply pw_below_drewN | apply below_drew1 | refine below_set ?_ GE414.out | refine below_set ?_ GE415.out) | exact HB.out)⟩⟩
     case rest =>
      clear HC86
      try clear c1
      try clear c2
      try clear p2
      try clear c3
      try clear c4
      try clear c4b0
      try clear p4
      try clear q4
      try clear hx4
      try clear c5
      try clear c6
      try clear p6
      try clear c7
      try clear c8
      try clear c9
      try clear c10
      try clear c11
      try clear c12
      try clear c12b0
      try clear c12b1
      try clear c13
      try clear c14
      try clear c16
      try clear c17
      try clear c17b0
      try clear c17b1
      try clear c21
      try clear c21b0
      try clear c22
      try clear c22b0
      try clear c23
      try clear c23b0
      try clear c30
      try clear c30b0
      try clear c30b1
      try clear c32
      try clear c33
      try clear c34
      try clear c36
      try clear c41
      try clear c41b0
      try clear c41b1
      try clear c43
      try clear p43
      try clear q43
      try clear hx43
      try clear c44
      try clear p44
      try clear q44
      try clear hx44
      try clear c46
      try clear c54
      try clear c55
      try clear c57
      try clear c64
      try clear p64
      try clear c65
      try clear c67
      try clear c74
      try clear c77
      try clear c77b0
      try clear c77b1
      try clear c78
      try clear c80
      try clear c81
      try clear c81b0
      try clear c81b1
      try clear c87
      try clear c87b0
      try clear c88
      try clear c88b0
      try clear c89
      try clear c89b0
      try clear hcz10_0
      try clear hcz10_1
      try clear hcz10_10
      try clear hcz10_11
      try clear hcz10_12
      try clear hcz10_2
      try clear hcz10_3
      try clear hcz10_4
      try clear hcz10_5
      try clear hcz10_6
      try clear hcz10_7
      try clear hcz10_8
      try clear hcz10_9
      try clear hcz15_0
      try clear hcz15_1
      try clear hcz15_10
      try clear hcz15_11
      try clear hcz15_12
      try clear hcz15_2
      try clear hcz15_3
      try clear hcz15_4
      try clear hcz15_5
      try clear hcz15_6
      try clear hcz15_7
      try clear hcz15_8
      try clear hcz15_9
      try clear hcz35_0
      try clear hcz35_1
      try clear hcz35_10
      try clear hcz35_11
      try clear hcz35_12
      try clear hcz35_2
      try clear hcz35_3
      try clear hcz35_4
      try clear hcz35_5
      try clear hcz35_6
      try clear hcz35_7
      try clear hcz35_8
      try clear hcz35_9
      try clear hcz37_0
      try clear hcz37_1
      try clear hcz37_2
      try clear hcz37_3
      try clear hcz37_4
      try clear hcz37_5
      try clear hcz45_0
      try clear hcz45_1
      try clear hcz45_10
      try clear hcz45_11
      try clear hcz45_12
      try clear hcz45_2
      try clear hcz45_3
      try clear hcz45_4
      try clear hcz45_5
      try clear hcz45_6
      try clear hcz45_7
      try clear hcz45_8
      try clear hcz45_9
      try clear hcz47_0
      try clear hcz47_1
      try clear hcz47_2
      try clear hcz47_3
      try clear hcz47_4
      try clear hcz47_5
      try clear hcz50_0
      try clear hcz50_1
      try clear hcz50_2
      try clear hcz50_3
      try clear hcz50_4
      try clear hcz50_5
      try clear hcz51_0
      try clear hcz51_1
      try clear hcz51_10
      try clear hcz51_11
      try clear hcz51_12
      try clear hcz51_2
      try clear hcz51_3
      try clear hcz51_4
      try clear hcz51_5
      try clear hcz51_6
      try clear hcz51_7
      try clear hcz51_8
      try clear hcz51_9
      try clear hcz56_0
      try clear hcz56_1
      try clear hcz56_10
      try clear hcz56_11
      try clear hcz56_12
      try clear hcz56_2
      try clear hcz56_3
      try clear hcz56_4
      try clear hcz56_5
      try clear hcz56_6
      try clear hcz56_7
      try clear hcz56_8
      try clear hcz56_9
      try clear hcz58_0
      try clear hcz58_1
      try clear hcz58_2
      try clear hcz58_3
      try clear hcz58_4
      try clear hcz58_5
      try clear hcz61_0
      try clear hcz61_1
      try clear hcz61_2
      try clear hcz61_3
      try clear hcz61_4
      try clear hcz61_5
      try clear hcz62_0
      try clear hcz62_1
      try clear hcz62_10
      try clear hcz62_11
      try clear hcz62_12
      try clear hcz62_2
      try clear hcz62_3
      try clear hcz62_4
      try clear hcz62_5
      try clear hcz62_6
      try clear hcz62_7
      try clear hcz62_8
      try clear hcz62_9
      try clear hcz66_0
      try clear hcz66_1
      try clear hcz66_10
      try clear hcz66_11
      try clear hcz66_12
      try clear hcz66_2
      try clear hcz66_3
      try clear hcz66_4
      try clear hcz66_5
      try clear hcz66_6
      try clear hcz66_7
      try clear hcz66_8
      try clear hcz66_9
      try clear hcz68_0
      try clear hcz68_1
      try clear hcz68_2
      try clear hcz68_3
      try clear hcz68_4
      try clear hcz68_5
      try clear hcz75_0
      try clear hcz75_1
      try clear hcz75_10
      try clear hcz75_11
      try clear hcz75_12
      try clear hcz75_2
      try clear hcz75_3
      try clear hcz75_4
      try clear hcz75_5
      try clear hcz75_6
      try clear hcz75_7
      try clear hcz75_8
      try clear hcz75_9
      try clear hcz79_0
      try clear hcz79_1
      try clear hcz79_10
      try clear hcz79_11
      try clear hcz79_12
      try clear hcz79_2
      try clear hcz79_3
      try clear hcz79_4
      try clear hcz79_5
      try clear hcz79_6
      try clear hcz79_7
      try clear hcz79_8
      try clear hcz79_9
      try clear hfz10_0
      try clear hfz10_1
      try clear hfz10_10
      try clear hfz10_11
      try clear hfz10_12
      try clear hfz10_2
      try clear hfz10_3
      try clear hfz10_4
      try clear hfz10_5
      try clear hfz10_6
      try clear hfz10_7
      try clear hfz10_8
      try clear hfz10_9
      try clear hfz15_0
      try clear hfz15_1
      try clear hfz15_10
      try clear hfz15_11
      try clear hfz15_12
      try clear hfz15_2
      try clear hfz15_3
      try clear hfz15_4
      try clear hfz15_5
      try clear hfz15_6
      try clear hfz15_7
      try clear hfz15_8
      try clear hfz15_9
      try clear hfz35_0
      try clear hfz35_1
      try clear hfz35_10
      try clear hfz35_11
      try clear hfz35_12
      try clear hfz35_2
      try clear hfz35_3
      try clear hfz35_4
      try clear hfz35_5
      try clear hfz35_6
      try clear hfz35_7
      try clear hfz35_8
      try clear hfz35_9
      try clear hfz37_0
      try clear hfz37_1
      try clear hfz37_2
      try clear hfz37_3
      try clear hfz37_4
      try clear hfz37_5
      try clear hfz45_0
      try clear hfz45_1
      try clear hfz45_10
      try clear hfz45_11
      try clear hfz45_12
      try clear hfz45_2
      try clear hfz45_3
      try clear hfz45_4
      try clear hfz45_5
      try clear hfz45_6
      try clear hfz45_7
      try clear hfz45_8
      try clear hfz45_9
      try clear hfz47_0
      try clear hfz47_1
      try clear hfz47_2
      try clear hfz47_3
      try clear hfz47_4
      try clear hfz47_5
      try clear hfz50_0
      try clear hfz50_1
      try clear hfz50_2
      try clear hfz50_3
      try clear hfz50_4
      try clear hfz50_5
      try clear hfz51_0
      try clear hfz51_1
      try clear hfz51_10
      try clear hfz51_11
      try clear hfz51_12
      try clear hfz51_2
      try clear hfz51_3
      try clear hfz51_4
      try clear hfz51_5
      try clear hfz51_6
      try clear hfz51_7
      try clear hfz51_8
      try clear hfz51_9
      try clear hfz56_0
      try clear hfz56_1
      try clear hfz56_10
      try clear hfz56_11
      try clear hfz56_12
      try clear hfz56_2
      try clear hfz56_3
      try clear hfz56_4
      try clear hfz56_5
      try clear hfz56_6
      try clear hfz56_7
      try clear hfz56_8
      try clear hfz56_9
      try clear hfz58_0
      try clear hfz58_1
      try clear hfz58_2
      try clear hfz58_3
      try clear hfz58_4
      try clear hfz58_5
      try clear hfz61_0
      try clear hfz61_1
      try clear hfz61_2
      try clear hfz61_3
      try clear hfz61_4
      try clear hfz61_5
      try clear hfz62_0
      try clear hfz62_1
      try clear hfz62_10
      try clear hfz62_11
      try clear hfz62_12
      try clear hfz62_2
      try clear hfz62_3
      try clear hfz62_4
      try clear hfz62_5
      try clear hfz62_6
      try clear hfz62_7
      try clear hfz62_8
      try clear hfz62_9
      try clear hfz66_0
      try clear hfz66_1
      try clear hfz66_10
      try clear hfz66_11
      try clear hfz66_12
      try clear hfz66_2
      try clear hfz66_3
      try clear hfz66_4
      try clear hfz66_5
      try clear hfz66_6
      try clear hfz66_7
      try clear hfz66_8
      try clear hfz66_9
      try clear hfz68_0
      try clear hfz68_1
      try clear hfz68_2
      try clear hfz68_3
      try clear hfz68_4
      try clear hfz68_5
      try clear hfz75_0
      try clear hfz75_1
      try clear hfz75_10
      try clear hfz75_11
      try clear hfz75_12
      try clear hfz75_2
      try clear hfz75_3
      try clear hfz75_4
      try clear hfz75_5
      try clear hfz75_6
      try clear hfz75_7
      try clear hfz75_8
      try clear hfz75_9
      try clear hfz79_0
      try clear hfz79_1
      try clear hfz79_10
      try clear hfz79_11
      try clear hfz79_12
      try clear hfz79_2
      try clear hfz79_3
      try clear hfz79_4
      try clear hfz79_5
      try clear hfz79_6
      try clear hfz79_7
      try clear hfz79_8
      try clear hfz79_9
      try clear hx437_0
      try clear hx437_1
      try clear hx437_2
      try clear hx437_3
      try clear hx437_4
      try clear hx437_5
      try clear hx438_0
      try clear hx438_1
      try clear hx438_2
      try clear hx438_3
      try clear hx438_4
      try clear hx438_5
      try clear hx439_0
      try clear hx439_1
      try clear hx439_2
      try clear hx439_3
      try clear hx439_4
      try clear hx439_5
      try clear hx440_0
      try clear hx440_1
      try clear hx440_2
      try clear hx440_3
      try clear hx440_4
      try clear hx440_5
      try clear hx441_0
      try clear hx441_1
      try clear hx441_2
      try clear hx441_3
      try clear hx441_4
      try clear hx441_5
      try clear p2
      try clear p4
      try clear p43
      try clear p437
      try clear p438
      try clear p439
      try clear p44
      try clear p440
      try clear p441
      try clear p6
      try clear p64
      try clear q4
      try clear q43
      try clear q437
      try clear q438
      try clear q439
      try clear q44
      try clear q440
      try clear q441
      obtain ⟨kq, HA, HJ85, BK414, BK415, HB⟩ := hcut
      cases kq with
      | zero => exact absurd HA.out (by simp [flywheellaw28_GuardFree.j5])
      | succ kj85 =>
       have H := HA.out
       clear HA
       simp only [flywheellaw28_GuardFree.j5] at H
       obtain ⟨ji90, hji90⟩ : ∃ j_ : Int, (mn a2_1 a0_2) = j_ := ⟨_, rfl⟩
       replace H : ((guard_Guard_Hear.nilrecv.f a2_1 (wrap64 (a0_5 + 1)) a2_3 false a2_4).bind fun t523 => (if t523 = (mx a0_1 (ji90)) then ((guard_Guard_Brakes.nilrecv.f).bind fun t524 => (if t524 = true then (some false) else ((guard_Guard_Hear.nilrecv.f a2_1 a0_4 a2_3 false a2_4).bind fun t525 => (if t525 = (mx a0_1 (ji90)) then ((flywheellaw28_wakes.f).bind fun t526 => (some t526)) else (some false))))) else (some false))) = some r := by first | (rw [hji90] at H; exact H) | (simp only [hji90] at H ⊢; exact H)
       have hji90_ : (if a0_2 < a2_1 then a0_2 else a2_1) = ji90 := hji90
       obtain ⟨ji91, hji91⟩ : ∃ j_ : Int, (mx a0_1 (ji90)) = j_ := ⟨_, rfl⟩
       replace H : ((guard_Guard_Hear.nilrecv.f a2_1 (wrap64 (a0_5 + 1)) a2_3 false a2_4).bind fun t523 => (if t523 = (ji91) then ((guard_Guard_Brakes.nilrecv.f).bind fun t524 => (if t524 = true then (some false) else ((guard_Guard_Hear.nilrecv.f a2_1 a0_4 a2_3 false a2_4).bind fun t525 => (if t525 = (ji91) then ((flywheellaw28_wakes.f).bind fun t526 => (some t526)) else (some false))))) else (some false))) = some r := by first | (rw [hji91] at H; exact H) | (simp only [hji91] at H ⊢; exact H)
       have hji91_ : (if a0_1 < (ji90) then (ji90) else a0_1) = ji91 := hji91
       replace H := Option.bind_eq_some_iff.mp H
       obtain ⟨t523, A920, H⟩ := H
       replace H : (if t523 = (ji91) then ((guard_Guard_Brakes.nilrecv.f).bind fun t524 => (if t524 = true then (some false) else ((guard_Guard_Hear.nilrecv.f a2_1 a0_4 a2_3 false a2_4).bind fun t525 => (if t525 = (ji91) then ((flywheellaw28_wakes.f).bind fun t526 => (some t526)) else (some false))))) else (some false)) = some r := H
       have A92 := Aside0.mk A920
       clear A920
       by_cases c93 : t523 = (ji91)
       ·rw [if_pos c93] at H
        have c93b0 : (t523 == (ji91)) = true := beq_iff_eq.mpr c93
        have c93b1 : (t523 != (ji91)) = false := bne_eq_false_iff_eq.mpr c93
        clear c93
        replace H := Option.bind_eq_some_iff.mp H
        obtain ⟨t524, A940, H⟩ := H
        replace H : (if t524 = true then (some false) else ((guard_Guard_Hear.nilrecv.f a2_1 a0_4 a2_3 false a2_4).bind fun t525 => (if t525 = (ji91) then ((flywheellaw28_wakes.f).bind fun t526 => (some t526)) else (some false)))) = some r := H
        have A94 := Aside0.mk A940
        clear A940
        by_cases c95 : t524 = true
        ·subst c95
         have H1 : (some false) = some r := by rw [if_pos rfl] at H; exact H
         clear H
         have H := H1
         clear H1
         obtain rfl := Option.some.inj H
         have hnb96 := NB414_415.out
         have hnc96 := NB415_414.out
         have hcz97_0 : wc.cell? ⟨gb414, 0, none⟩ = some (.int .i64 a0_0) := (blk_cell BK414.out 0).trans rfl
         have hcz97_1 : wc.cell? ⟨gb414, 1, none⟩ = some (.int .i64 a0_1) := (blk_cell BK414.out 1).trans rfl
         have hcz97_2 : wc.cell? ⟨gb414, 2, none⟩ = some (.int .i64 a0_2) := (blk_cell BK414.out 2).trans rfl
         have hcz97_3 : wc.cell? ⟨gb414, 3, none⟩ = some (.int .i64 a0_3) := (blk_cell BK414.out 3).trans rfl
         have hcz97_4 : wc.cell? ⟨gb414, 4, none⟩ = some (.int .i64 a0_4) := (blk_cell BK414.out 4).trans rfl
         have hcz97_5 : wc.cell? ⟨gb414, 5, none⟩ = some (.int .i64 a0_5) := (blk_cell BK414.out 5).trans rfl
         have hcz97_6 : wc.cell? ⟨gb414, 6, none⟩ = some (.int .i64 a0_6) := (blk_cell BK414.out 6).trans rfl
         have hcz97_7 : wc.cell? ⟨gb414, 7, none⟩ = some (.int .i64 a0_7) := (blk_cell BK414.out 7).trans rfl
         have hcz97_8 : wc.cell? ⟨gb414, 8, none⟩ = some (.int .i64 a0_8) := (blk_cell BK414.out 8).trans rfl
         have hcz97_9 : wc.cell? ⟨gb414, 9, none⟩ = some (.int .i64 a0_9) := (blk_cell BK414.out 9).trans rfl
         have hcz97_10 : wc.cell? ⟨gb414, 10, none⟩ = some (.int .i64 a0_10) := (blk_cell BK414.out 10).trans rfl
         have hcz97_11 : wc.cell? ⟨gb414, 11, none⟩ = some (.slice A0_11 l0_11.length c0_11) := (blk_cell BK414.out 11).trans rfl
         have hcz97_12 : wc.cell? ⟨gb414, 12, none⟩ = some (.int .i64 a0_12) := (blk_cell BK414.out 12).trans rfl
         have hfz97_0 := blk_frozen BK414.out 0
         have hfz97_1 := blk_frozen BK414.out 1
         have hfz97_2 := blk_frozen BK414.out 2
         have hfz97_3 := blk_frozen BK414.out 3
         have hfz97_4 := blk_frozen BK414.out 4
         have hfz97_5 := blk_frozen BK414.out 5
         have hfz97_6 := blk_frozen BK414.out 6
         have hfz97_7 := blk_frozen BK414.out 7
         have hfz97_8 := blk_frozen BK414.out 8
         have hfz97_9 := blk_frozen BK414.out 9
         have hfz97_10 := blk_frozen BK414.out 10
         have hfz97_11 := blk_frozen BK414.out 11
         have hfz97_12 := blk_frozen BK414.out 12
         have hcz98_0 : wc.cell? ⟨gb415, 0, none⟩ = some (.int .i64 a2_0) := (blk_cell BK415.out 0).trans rfl
         have hcz98_1 : wc.cell? ⟨gb415, 1, none⟩ = some (.int .i64 a2_1) := (blk_cell BK415.out 1).trans rfl
         have hcz98_2 : wc.cell? ⟨gb415, 2, none⟩ = some (.int .i64 a2_2) := (blk_cell BK415.out 2).trans rfl
         have hcz98_3 : wc.cell? ⟨gb415, 3, none⟩ = some (.int .i64 a2_3) := (blk_cell BK415.out 3).trans rfl
         have hcz98_4 : wc.cell? ⟨gb415, 4, none⟩ = some (.int .i64 a2_4) := (blk_cell BK415.out 4).trans rfl
         have hcz98_5 : wc.cell? ⟨gb415, 5, none⟩ = some (.bool a2_5) := (blk_cell BK415.out 5).trans rfl
         have hfz98_0 := blk_frozen BK415.out 0
         have hfz98_1 := blk_frozen BK415.out 1
         have hfz98_2 := blk_frozen BK415.out 2
         have hfz98_3 := blk_frozen BK415.out 3
         have hfz98_4 := blk_frozen BK415.out 4
         have hfz98_5 := blk_frozen BK415.out 5
         go_wp2_with (first | ((with_reducible refine gate_callee (f := 11) rfl ?_); refine goesL_ (some 89) rfl rfl Try.func11 (by kernel_rfl) rfl #[.pointer none, .int .i64 a2_1, .int .i64 (wrap64 (a0_5 + 1)), .int .i64 a2_3, .bool false, .int .i64 a2_4] rfl (by (try simp only [List.map_toArray, List.map_cons, List.map_nil]); first | done | rfl | (simp only [List.length_drop, List.length_take]; rfl)) ?_; (with_reducible refine (guard_Guard_Hear.nilrecv.calls  a2_1 (wrap64 (a0_5 + 1)) a2_3 false a2_4 t523 _ A92.out).mono ?_); rintro e w99 ⟨rfl, hb⟩; refine ⟨_, rfl, ?_⟩; have n0_ := Aside0.mk (blk_below (g := gb414) (o := .cells #[.int .i64 a0_0, .int .i64 a0_1, .int .i64 a0_2, .int .i64 a0_3, .int .i64 a0_4, .int .i64 a0_5, .int .i64 a0_6, .int .i64 a0_7, .int .i64 a0_8, .int .i64 a0_9, .int .i64 a0_10, .slice A0_11 l0_11.length c0_11, .int .i64 a0_12] 27 (0, 0)) (by (with_reducible repeat (first | refine blk_drewN ?_ _ | refine blk_drew ?_ | refine blk_alloc ?_ _)); exact BK414.out) hb); have n1_ := Aside0.mk (blk_below (g := gb415) (o := .cells #[.int .i64 a2_0, .int .i64 a2_1, .int .i64 a2_2, .int .i64 a2_3, .int .i64 a2_4, .bool a2_5] 24 (0, 0)) (by (with_reducible repeat (first | refine blk_drewN ?_ _ | refine blk_drew ?_ | refine blk_alloc ?_ _)); exact BK415.out) hb); have n2_ := Aside0.mk (below_step (by repeat (first | (with_reducible first | exact HB.out | apply below_alloc | apply pw_below_drewN | apply below_drew1 | refine below_set ?_ GE414.out | refine below_set ?_ GE415.out) | exact HB.out)) hb); clear BK414; clear BK415; clear HB; have BK414 := n0_; have BK415 := n1_; have HB := n2_; clear n0_ n1_ n2_; (try clear hb); (try clear hb2); (try clear hk); (try clear hi)) | (go_at_call 13; (with_reducible refine (guard_Guard_Brakes.nilrecv.calls  true _ A94.out).mono ?_); rintro e w' ⟨rfl, ⟨nd, rfl⟩⟩))
         go_ret
         exact ⟨by first | rfl | (simp [errW_none, errW_some] <;> rfl) | (simp only [← hji90, ← hji91]; first | rfl | (simp [errW_none, errW_some] <;> rfl)) | (simp [*, errW_none, errW_some] <;> rfl), by repeat (first | (with_reducible first | exact HB.out | apply below_alloc | apply pw_below_drewN | apply below_drew1 | refine below_set ?_ GE414.out | refine below_set ?_ GE415.out) | exact HB.out)⟩
        ·replace c95 := Bool.eq_false_iff.mpr c95
         subst c95
         have H1 : ((guard_Guard_Hear.nilrecv.f a2_1 a0_4 a2_3 false a2_4).bind fun t525 => (if t525 = (ji91) then ((flywheellaw28_wakes.f).bind fun t526 => (some t526)) else (some false))) = some r := by rw [if_neg (show ¬ (false = true) by decide)] at H; exact H
         clear H
         have H := H1
         clear H1
         replace H := Option.bind_eq_some_iff.mp H
         obtain ⟨t525, A1000, H⟩ := H
         replace H : (if t525 = (ji91) then ((flywheellaw28_wakes.f).bind fun t526 => (some t526)) else (some false)) = some r := H
         have A100 := Aside0.mk A1000
         clear A1000
         by_cases c101 : t525 = (ji91)
         ·rw [if_pos c101] at H
          have c101b0 : (t525 == (ji91)) = true := beq_iff_eq.mpr c101
          have c101b1 : (t525 != (ji91)) = false := bne_eq_false_iff_eq.mpr c101
          clear c101
          replace H := Option.bind_eq_some_iff.mp H
          obtain ⟨t526, A1020, H⟩ := H
          replace H : (some t526) = some r := H
          have A102 := Aside0.mk A1020
          clear A1020
          obtain rfl := Option.some.inj H
          have hnb103 := NB414_415.out
          have hnc103 := NB415_414.out
          have hcz104_0 : wc.cell? ⟨gb414, 0, none⟩ = some (.int .i64 a0_0) := (blk_cell BK414.out 0).trans rfl
          have hcz104_1 : wc.cell? ⟨gb414, 1, none⟩ = some (.int .i64 a0_1) := (blk_cell BK414.out 1).trans rfl
          have hcz104_2 : wc.cell? ⟨gb414, 2, none⟩ = some (.int .i64 a0_2) := (blk_cell BK414.out 2).trans rfl
          have hcz104_3 : wc.cell? ⟨gb414, 3, none⟩ = some (.int .i64 a0_3) := (blk_cell BK414.out 3).trans rfl
          have hcz104_4 : wc.cell? ⟨gb414, 4, none⟩ = some (.int .i64 a0_4) := (blk_cell BK414.out 4).trans rfl
          have hcz104_5 : wc.cell? ⟨gb414, 5, none⟩ = some (.int .i64 a0_5) := (blk_cell BK414.out 5).trans rfl
          have hcz104_6 : wc.cell? ⟨gb414, 6, none⟩ = some (.int .i64 a0_6) := (blk_cell BK414.out 6).trans rfl
          have hcz104_7 : wc.cell? ⟨gb414, 7, none⟩ = some (.int .i64 a0_7) := (blk_cell BK414.out 7).trans rfl
          have hcz104_8 : wc.cell? ⟨gb414, 8, none⟩ = some (.int .i64 a0_8) := (blk_cell BK414.out 8).trans rfl
          have hcz104_9 : wc.cell? ⟨gb414, 9, none⟩ = some (.int .i64 a0_9) := (blk_cell BK414.out 9).trans rfl
          have hcz104_10 : wc.cell? ⟨gb414, 10, none⟩ = some (.int .i64 a0_10) := (blk_cell BK414.out 10).trans rfl
          have hcz104_11 : wc.cell? ⟨gb414, 11, none⟩ = some (.slice A0_11 l0_11.length c0_11) := (blk_cell BK414.out 11).trans rfl
          have hcz104_12 : wc.cell? ⟨gb414, 12, none⟩ = some (.int .i64 a0_12) := (blk_cell BK414.out 12).trans rfl
          have hfz104_0 := blk_frozen BK414.out 0
          have hfz104_1 := blk_frozen BK414.out 1
          have hfz104_2 := blk_frozen BK414.out 2
          have hfz104_3 := blk_frozen BK414.out 3
          have hfz104_4 := blk_frozen BK414.out 4
          have hfz104_5 := blk_frozen BK414.out 5
          have hfz104_6 := blk_frozen BK414.out 6
          have hfz104_7 := blk_frozen BK414.out 7
          have hfz104_8 := blk_frozen BK414.out 8
          have hfz104_9 := blk_frozen BK414.out 9
          have hfz104_10 := blk_frozen BK414.out 10
          have hfz104_11 := blk_frozen BK414.out 11
          have hfz104_12 := blk_frozen BK414.out 12
          have hcz105_0 : wc.cell? ⟨gb415, 0, none⟩ = some (.int .i64 a2_0) := (blk_cell BK415.out 0).trans rfl
          have hcz105_1 : wc.cell? ⟨gb415, 1, none⟩ = some (.int .i64 a2_1) := (blk_cell BK415.out 1).trans rfl
          have hcz105_2 : wc.cell? ⟨gb415, 2, none⟩ = some (.int .i64 a2_2) := (blk_cell BK415.out 2).trans rfl
          have hcz105_3 : wc.cell? ⟨gb415, 3, none⟩ = some (.int .i64 a2_3) := (blk_cell BK415.out 3).trans rfl
          have hcz105_4 : wc.cell? ⟨gb415, 4, none⟩ = some (.int .i64 a2_4) := (blk_cell BK415.out 4).trans rfl
          have hcz105_5 : wc.cell? ⟨gb415, 5, none⟩ = some (.bool a2_5) := (blk_cell BK415.out 5).trans rfl
          have hfz105_0 := blk_frozen BK415.out 0
          have hfz105_1 := blk_frozen BK415.out 1
          have hfz105_2 := blk_frozen BK415.out 2
          have hfz105_3 := blk_frozen BK415.out 3
          have hfz105_4 := blk_frozen BK415.out 4
          have hfz105_5 := blk_frozen BK415.out 5
          go_wp2_with (first | ((with_reducible refine gate_callee (f := 11) rfl ?_); refine goesL_ (some 89) rfl rfl Try.func11 (by kernel_rfl) rfl #[.pointer none, .int .i64 a2_1, .int .i64 (wrap64 (a0_5 + 1)), .int .i64 a2_3, .bool false, .int .i64 a2_4] rfl (by (try simp only [List.map_toArray, List.map_cons, List.map_nil]); first | done | rfl | (simp only [List.length_drop, List.length_take]; rfl)) ?_; (with_reducible refine (guard_Guard_Hear.nilrecv.calls  a2_1 (wrap64 (a0_5 + 1)) a2_3 false a2_4 t523 _ A92.out).mono ?_); rintro e w106 ⟨rfl, hb⟩; refine ⟨_, rfl, ?_⟩; have n0_ := Aside0.mk (blk_below (g := gb414) (o := .cells #[.int .i64 a0_0, .int .i64 a0_1, .int .i64 a0_2, .int .i64 a0_3, .int .i64 a0_4, .int .i64 a0_5, .int .i64 a0_6, .int .i64 a0_7, .int .i64 a0_8, .int .i64 a0_9, .int .i64 a0_10, .slice A0_11 l0_11.length c0_11, .int .i64 a0_12] 27 (0, 0)) (by (with_reducible repeat (first | refine blk_drewN ?_ _ | refine blk_drew ?_ | refine blk_alloc ?_ _)); exact BK414.out) hb); have n1_ := Aside0.mk (blk_below (g := gb415) (o := .cells #[.int .i64 a2_0, .int .i64 a2_1, .int .i64 a2_2, .int .i64 a2_3, .int .i64 a2_4, .bool a2_5] 24 (0, 0)) (by (with_reducible repeat (first | refine blk_drewN ?_ _ | refine blk_drew ?_ | refine blk_alloc ?_ _)); exact BK415.out) hb); have n2_ := Aside0.mk (below_step (by repeat (first | (with_reducible first | exact HB.out | apply below_alloc | apply pw_below_drewN | apply below_drew1 | refine below_set ?_ GE414.out | refine below_set ?_ GE415.out) | exact HB.out)) hb); clear BK414; clear BK415; clear HB; have BK414 := n0_; have BK415 := n1_; have HB := n2_; clear n0_ n1_ n2_; (try clear hb); (try clear hb2); (try clear hk); (try clear hi)) | (go_at_call 13; (with_reducible refine (guard_Guard_Brakes.nilrecv.calls  false _ A94.out).mono ?_); rintro e w' ⟨rfl, ⟨nd, rfl⟩⟩; have hcz107_0 : w106.cell? ⟨gb415, 0, none⟩ = some (.int .i64 a2_0) := (blk_cell BK415.out 0).trans rfl; have hcz107_1 : w106.cell? ⟨gb415, 1, none⟩ = some (.int .i64 a2_1) := (blk_cell BK415.out 1).trans rfl; have hcz107_2 : w106.cell? ⟨gb415, 2, none⟩ = some (.int .i64 a2_2) := (blk_cell BK415.out 2).trans rfl; have hcz107_3 : w106.cell? ⟨gb415, 3, none⟩ = some (.int .i64 a2_3) := (blk_cell BK415.out 3).trans rfl; have hcz107_4 : w106.cell? ⟨gb415, 4, none⟩ = some (.int .i64 a2_4) := (blk_cell BK415.out 4).trans rfl; have hcz107_5 : w106.cell? ⟨gb415, 5, none⟩ = some (.bool a2_5) := (blk_cell BK415.out 5).trans rfl; have hfz107_0 := blk_frozen BK415.out 0; have hfz107_1 := blk_frozen BK415.out 1; have hfz107_2 := blk_frozen BK415.out 2; have hfz107_3 := blk_frozen BK415.out 3; have hfz107_4 := blk_frozen BK415.out 4; have hfz107_5 := blk_frozen BK415.out 5; have hcz108_0 : w106.cell? ⟨gb414, 0, none⟩ = some (.int .i64 a0_0) := (blk_cell BK414.out 0).trans rfl; have hcz108_1 : w106.cell? ⟨gb414, 1, none⟩ = some (.int .i64 a0_1) := (blk_cell BK414.out 1).trans rfl; have hcz108_2 : w106.cell? ⟨gb414, 2, none⟩ = some (.int .i64 a0_2) := (blk_cell BK414.out 2).trans rfl; have hcz108_3 : w106.cell? ⟨gb414, 3, none⟩ = some (.int .i64 a0_3) := (blk_cell BK414.out 3).trans rfl; have hcz108_4 : w106.cell? ⟨gb414, 4, none⟩ = some (.int .i64 a0_4) := (blk_cell BK414.out 4).trans rfl; have hcz108_5 : w106.cell? ⟨gb414, 5, none⟩ = some (.int .i64 a0_5) := (blk_cell BK414.out 5).trans rfl; have hcz108_6 : w106.cell? ⟨gb414, 6, none⟩ = some (.int .i64 a0_6) := (blk_cell BK414.out 6).trans rfl; have hcz108_7 : w106.cell? ⟨gb414, 7, none⟩ = some (.int .i64 a0_7) := (blk_cell BK414.out 7).trans rfl; have hcz108_8 : w106.cell? ⟨gb414, 8, none⟩ = some (.int .i64 a0_8) := (blk_cell BK414.out 8).trans rfl; have hcz108_9 : w106.cell? ⟨gb414, 9, none⟩ = some (.int .i64 a0_9) := (blk_cell BK414.out 9).trans rfl; have hcz108_10 : w106.cell? ⟨gb414, 10, none⟩ = some (.int .i64 a0_10) := (blk_cell BK414.out 10).trans rfl; have hcz108_11 : w106.cell? ⟨gb414, 11, none⟩ = some (.slice A0_11 l0_11.length c0_11) := (blk_cell BK414.out 11).trans rfl; have hcz108_12 : w106.cell? ⟨gb414, 12, none⟩ = some (.int .i64 a0_12) := (blk_cell BK414.out 12).trans rfl; have hfz108_0 := blk_frozen BK414.out 0; have hfz108_1 := blk_frozen BK414.out 1; have hfz108_2 := blk_frozen BK414.out 2; have hfz108_3 := blk_frozen BK414.out 3; have hfz108_4 := blk_frozen BK414.out 4; have hfz108_5 := blk_frozen BK414.out 5; have hfz108_6 := blk_frozen BK414.out 6; have hfz108_7 := blk_frozen BK414.out 7; have hfz108_8 := blk_frozen BK414.out 8; have hfz108_9 := blk_frozen BK414.out 9; have hfz108_10 := blk_frozen BK414.out 10; have hfz108_11 := blk_frozen BK414.out 11; have hfz108_12 := blk_frozen BK414.out 12) | (go_at_call 11; (with_reducible refine (guard_Guard_Hear.nilrecv.calls  a2_1 a0_4 a2_3 false a2_4 t525 _ A100.out).mono ?_); rintro e w109 ⟨rfl, hb⟩; have n0_ := Aside0.mk (blk_below (g := gb414) (o := .cells #[.int .i64 a0_0, .int .i64 a0_1, .int .i64 a0_2, .int .i64 a0_3, .int .i64 a0_4, .int .i64 a0_5, .int .i64 a0_6, .int .i64 a0_7, .int .i64 a0_8, .int .i64 a0_9, .int .i64 a0_10, .slice A0_11 l0_11.length c0_11, .int .i64 a0_12] 27 (0, 0)) (by (with_reducible repeat (first | refine blk_drewN ?_ _ | refine blk_drew ?_ | refine blk_alloc ?_ _)); exact BK414.out) hb); have n1_ := Aside0.mk (blk_below (g := gb415) (o := .cells #[.int .i64 a2_0, .int .i64 a2_1, .int .i64 a2_2, .int .i64 a2_3, .int .i64 a2_4, .bool a2_5] 24 (0, 0)) (by (with_reducible repeat (first | refine blk_drewN ?_ _ | refine blk_drew ?_ | refine blk_alloc ?_ _)); exact BK415.out) hb); have n2_ := Aside0.mk (below_step (by repeat (first | (with_reducible first | exact HB.out | apply below_alloc | apply pw_below_drewN | apply below_drew1 | refine below_set ?_ GE414.out | refine below_set ?_ GE415.out) | exact HB.out)) hb); clear BK414; clear BK415; clear HB; have BK414 := n0_; have BK415 := n1_; have HB := n2_; clear n0_ n1_ n2_; (try clear hb); (try clear hb2); (try clear hk); (try clear hi)) | (go_at_call 14; (with_reducible refine (flywheellaw28_wakes.calls  t526 _ A102.out).mono ?_); rintro e w110 ⟨rfl, hb⟩; have n0_ := Aside0.mk (blk_below (g := gb414) (o := .cells #[.int .i64 a0_0, .int .i64 a0_1, .int .i64 a0_2, .int .i64 a0_3, .int .i64 a0_4, .int .i64 a0_5, .int .i64 a0_6, .int .i64 a0_7, .int .i64 a0_8, .int .i64 a0_9, .int .i64 a0_10, .slice A0_11 l0_11.length c0_11, .int .i64 a0_12] 27 (0, 0)) (by (with_reducible repeat (first | refine blk_drewN ?_ _ | refine blk_drew ?_ | refine blk_alloc ?_ _)); exact BK414.out) hb); have n1_ := Aside0.mk (blk_below (g := gb415) (o := .cells #[.int .i64 a2_0, .int .i64 a2_1, .int .i64 a2_2, .int .i64 a2_3, .int .i64 a2_4, .bool a2_5] 24 (0, 0)) (by (with_reducible repeat (first | refine blk_drewN ?_ _ | refine blk_drew ?_ | refine blk_alloc ?_ _)); exact BK415.out) hb); have n2_ := Aside0.mk (below_step (by repeat (first | (with_reducible first | exact HB.out | apply below_alloc | apply pw_below_drewN | apply below_drew1 | refine below_set ?_ GE414.out | refine below_set ?_ GE415.out) | exact HB.out)) hb); clear BK414; clear BK415; clear HB; have BK414 := n0_; have BK415 := n1_; have HB := n2_; clear n0_ n1_ n2_; (try clear hb); (try clear hb2); (try clear hk); (try clear hi)))
          go_ret
          exact ⟨by first | rfl | (simp [errW_none, errW_some] <;> rfl) | (simp only [← hji90, ← hji91]; first | rfl | (simp [errW_none, errW_some] <;> rfl)) | (simp [*, errW_none, errW_some] <;> rfl), by repeat (first | (with_reducible first | exact HB.out | apply below_alloc | apply pw_below_drewN | apply below_drew1 | refine below_set ?_ GE414.out | refine below_set ?_ GE415.out) | exact HB.out)⟩
         ·rw [if_neg c101] at H
          have c101b0 : (t525 == (ji91)) = false := beq_eq_false_iff_ne.mpr c101
          have c101b1 : (t525 != (ji91)) = true := bne_iff_ne.mpr c101
          obtain rfl := Option.some.inj H
          have hnb111 := NB414_415.out
          have hnc111 := NB415_414.out
          have hcz112_0 : wc.cell? ⟨gb414, 0, none⟩ = some (.int .i64 a0_0) := (blk_cell BK414.out 0).trans rfl
          have hcz112_1 : wc.cell? ⟨gb414, 1, none⟩ = some (.int .i64 a0_1) := (blk_cell BK414.out 1).trans rfl
          have hcz112_2 : wc.cell? ⟨gb414, 2, none⟩ = some (.int .i64 a0_2) := (blk_cell BK414.out 2).trans rfl
          have hcz112_3 : wc.cell? ⟨gb414, 3, none⟩ = some (.int .i64 a0_3) := (blk_cell BK414.out 3).trans rfl
          have hcz112_4 : wc.cell? ⟨gb414, 4, none⟩ = some (.int .i64 a0_4) := (blk_cell BK414.out 4).trans rfl
          have hcz112_5 : wc.cell? ⟨gb414, 5, none⟩ = some (.int .i64 a0_5) := (blk_cell BK414.out 5).trans rfl
          have hcz112_6 : wc.cell? ⟨gb414, 6, none⟩ = some (.int .i64 a0_6) := (blk_cell BK414.out 6).trans rfl
          have hcz112_7 : wc.cell? ⟨gb414, 7, none⟩ = some (.int .i64 a0_7) := (blk_cell BK414.out 7).trans rfl
          have hcz112_8 : wc.cell? ⟨gb414, 8, none⟩ = some (.int .i64 a0_8) := (blk_cell BK414.out 8).trans rfl
          have hcz112_9 : wc.cell? ⟨gb414, 9, none⟩ = some (.int .i64 a0_9) := (blk_cell BK414.out 9).trans rfl
          have hcz112_10 : wc.cell? ⟨gb414, 10, none⟩ = some (.int .i64 a0_10) := (blk_cell BK414.out 10).trans rfl
          have hcz112_11 : wc.cell? ⟨gb414, 11, none⟩ = some (.slice A0_11 l0_11.length c0_11) := (blk_cell BK414.out 11).trans rfl
          have hcz112_12 : wc.cell? ⟨gb414, 12, none⟩ = some (.int .i64 a0_12) := (blk_cell BK414.out 12).trans rfl
          have hfz112_0 := blk_frozen BK414.out 0
          have hfz112_1 := blk_frozen BK414.out 1
          have hfz112_2 := blk_frozen BK414.out 2
          have hfz112_3 := blk_frozen BK414.out 3
          have hfz112_4 := blk_frozen BK414.out 4
          have hfz112_5 := blk_frozen BK414.out 5
          have hfz112_6 := blk_frozen BK414.out 6
          have hfz112_7 := blk_frozen BK414.out 7
          have hfz112_8 := blk_frozen BK414.out 8
          have hfz112_9 := blk_frozen BK414.out 9
          have hfz112_10 := blk_frozen BK414.out 10
          have hfz112_11 := blk_frozen BK414.out 11
          have hfz112_12 := blk_frozen BK414.out 12
          have hcz113_0 : wc.cell? ⟨gb415, 0, none⟩ = some (.int .i64 a2_0) := (blk_cell BK415.out 0).trans rfl
          have hcz113_1 : wc.cell? ⟨gb415, 1, none⟩ = some (.int .i64 a2_1) := (blk_cell BK415.out 1).trans rfl
          have hcz113_2 : wc.cell? ⟨gb415, 2, none⟩ = some (.int .i64 a2_2) := (blk_cell BK415.out 2).trans rfl
          have hcz113_3 : wc.cell? ⟨gb415, 3, none⟩ = some (.int .i64 a2_3) := (blk_cell BK415.out 3).trans rfl
          have hcz113_4 : wc.cell? ⟨gb415, 4, none⟩ = some (.int .i64 a2_4) := (blk_cell BK415.out 4).trans rfl
          have hcz113_5 : wc.cell? ⟨gb415, 5, none⟩ = some (.bool a2_5) := (blk_cell BK415.out 5).trans rfl
          have hfz113_0 := blk_frozen BK415.out 0
          have hfz113_1 := blk_frozen BK415.out 1
          have hfz113_2 := blk_frozen BK415.out 2
          have hfz113_3 := blk_frozen BK415.out 3
          have hfz113_4 := blk_frozen BK415.out 4
          have hfz113_5 := blk_frozen BK415.out 5
          go_wp2_with (first | ((with_reducible refine gate_callee (f := 11) rfl ?_); refine goesL_ (some 89) rfl rfl Try.func11 (by kernel_rfl) rfl #[.pointer none, .int .i64 a2_1, .int .i64 (wrap64 (a0_5 + 1)), .int .i64 a2_3, .bool false, .int .i64 a2_4] rfl (by (try simp only [List.map_toArray, List.map_cons, List.map_nil]); first | done | rfl | (simp only [List.length_drop, List.length_take]; rfl)) ?_; (with_reducible refine (guard_Guard_Hear.nilrecv.calls  a2_1 (wrap64 (a0_5 + 1)) a2_3 false a2_4 t523 _ A92.out).mono ?_); rintro e w114 ⟨rfl, hb⟩; refine ⟨_, rfl, ?_⟩; have n0_ := Aside0.mk (blk_below (g := gb414) (o := .cells #[.int .i64 a0_0, .int .i64 a0_1, .int .i64 a0_2, .int .i64 a0_3, .int .i64 a0_4, .int .i64 a0_5, .int .i64 a0_6, .int .i64 a0_7, .int .i64 a0_8, .int .i64 a0_9, .int .i64 a0_10, .slice A0_11 l0_11.length c0_11, .int .i64 a0_12] 27 (0, 0)) (by (with_reducible repeat (first | refine blk_drewN ?_ _ | refine blk_drew ?_ | refine blk_alloc ?_ _)); exact BK414.out) hb); have n1_ := Aside0.mk (blk_below (g := gb415) (o := .cells #[.int .i64 a2_0, .int .i64 a2_1, .int .i64 a2_2, .int .i64 a2_3, .int .i64 a2_4, .bool a2_5] 24 (0, 0)) (by (with_reducible repeat (first | refine blk_drewN ?_ _ | refine blk_drew ?_ | refine blk_alloc ?_ _)); exact BK415.out) hb); have n2_ := Aside0.mk (below_step (by repeat (first | (with_reducible first | exact HB.out | apply below_alloc | apply pw_below_drewN | apply below_drew1 | refine below_set ?_ GE414.out | refine below_set ?_ GE415.out) | exact HB.out)) hb); clear BK414; clear BK415; clear HB; have BK414 := n0_; have BK415 := n1_; have HB := n2_; clear n0_ n1_ n2_; (try clear hb); (try clear hb2); (try clear hk); (try clear hi)) | (go_at_call 13; (with_reducible refine (guard_Guard_Brakes.nilrecv.calls  false _ A94.out).mono ?_); rintro e w' ⟨rfl, ⟨nd, rfl⟩⟩; have hcz115_0 : w114.cell? ⟨gb415, 0, none⟩ = some (.int .i64 a2_0) := (blk_cell BK415.out 0).trans rfl; have hcz115_1 : w114.cell? ⟨gb415, 1, none⟩ = some (.int .i64 a2_1) := (blk_cell BK415.out 1).trans rfl; have hcz115_2 : w114.cell? ⟨gb415, 2, none⟩ = some (.int .i64 a2_2) := (blk_cell BK415.out 2).trans rfl; have hcz115_3 : w114.cell? ⟨gb415, 3, none⟩ = some (.int .i64 a2_3) := (blk_cell BK415.out 3).trans rfl; have hcz115_4 : w114.cell? ⟨gb415, 4, none⟩ = some (.int .i64 a2_4) := (blk_cell BK415.out 4).trans rfl; have hcz115_5 : w114.cell? ⟨gb415, 5, none⟩ = some (.bool a2_5) := (blk_cell BK415.out 5).trans rfl; have hfz115_0 := blk_frozen BK415.out 0; have hfz115_1 := blk_frozen BK415.out 1; have hfz115_2 := blk_frozen BK415.out 2; have hfz115_3 := blk_frozen BK415.out 3; have hfz115_4 := blk_frozen BK415.out 4; have hfz115_5 := blk_frozen BK415.out 5; have hcz116_0 : w114.cell? ⟨gb414, 0, none⟩ = some (.int .i64 a0_0) := (blk_cell BK414.out 0).trans rfl; have hcz116_1 : w114.cell? ⟨gb414, 1, none⟩ = some (.int .i64 a0_1) := (blk_cell BK414.out 1).trans rfl; have hcz116_2 : w114.cell? ⟨gb414, 2, none⟩ = some (.int .i64 a0_2) := (blk_cell BK414.out 2).trans rfl; have hcz116_3 : w114.cell? ⟨gb414, 3, none⟩ = some (.int .i64 a0_3) := (blk_cell BK414.out 3).trans rfl; have hcz116_4 : w114.cell? ⟨gb414, 4, none⟩ = some (.int .i64 a0_4) := (blk_cell BK414.out 4).trans rfl; have hcz116_5 : w114.cell? ⟨gb414, 5, none⟩ = some (.int .i64 a0_5) := (blk_cell BK414.out 5).trans rfl; have hcz116_6 : w114.cell? ⟨gb414, 6, none⟩ = some (.int .i64 a0_6) := (blk_cell BK414.out 6).trans rfl; have hcz116_7 : w114.cell? ⟨gb414, 7, none⟩ = some (.int .i64 a0_7) := (blk_cell BK414.out 7).trans rfl; have hcz116_8 : w114.cell? ⟨gb414, 8, none⟩ = some (.int .i64 a0_8) := (blk_cell BK414.out 8).trans rfl; have hcz116_9 : w114.cell? ⟨gb414, 9, none⟩ = some (.int .i64 a0_9) := (blk_cell BK414.out 9).trans rfl; have hcz116_10 : w114.cell? ⟨gb414, 10, none⟩ = some (.int .i64 a0_10) := (blk_cell BK414.out 10).trans rfl; have hcz116_11 : w114.cell? ⟨gb414, 11, none⟩ = some (.slice A0_11 l0_11.length c0_11) := (blk_cell BK414.out 11).trans rfl; have hcz116_12 : w114.cell? ⟨gb414, 12, none⟩ = some (.int .i64 a0_12) := (blk_cell BK414.out 12).trans rfl; have hfz116_0 := blk_frozen BK414.out 0; have hfz116_1 := blk_frozen BK414.out 1; have hfz116_2 := blk_frozen BK414.out 2; have hfz116_3 := blk_frozen BK414.out 3; have hfz116_4 := blk_frozen BK414.out 4; have hfz116_5 := blk_frozen BK414.out 5; have hfz116_6 := blk_frozen BK414.out 6; have hfz116_7 := blk_frozen BK414.out 7; have hfz116_8 := blk_frozen BK414.out 8; have hfz116_9 := blk_frozen BK414.out 9; have hfz116_10 := blk_frozen BK414.out 10; have hfz116_11 := blk_frozen BK414.out 11; have hfz116_12 := blk_frozen BK414.out 12) | (go_at_call 11; (with_reducible refine (guard_Guard_Hear.nilrecv.calls  a2_1 a0_4 a2_3 false a2_4 t525 _ A100.out).mono ?_); rintro e w117 ⟨rfl, hb⟩; have n0_ := Aside0.mk (blk_below (g := gb414) (o := .cells #[.int .i64 a0_0, .int .i64 a0_1, .int .i64 a0_2, .int .i64 a0_3, .int .i64 a0_4, .int .i64 a0_5, .int .i64 a0_6, .int .i64 a0_7, .int .i64 a0_8, .int .i64 a0_9, .int .i64 a0_10, .slice A0_11 l0_11.length c0_11, .int .i64 a0_12] 27 (0, 0)) (by (with_reducible repeat (first | refine blk_drewN ?_ _ | refine blk_drew ?_ | refine blk_alloc ?_ _)); exact BK414.out) hb); have n1_ := Aside0.mk (blk_below (g := gb415) (o := .cells #[.int .i64 a2_0, .int .i64 a2_1, .int .i64 a2_2, .int .i64 a2_3, .int .i64 a2_4, .bool a2_5] 24 (0, 0)) (by (with_reducible repeat (first | refine blk_drewN ?_ _ | refine blk_drew ?_ | refine blk_alloc ?_ _)); exact BK415.out) hb); have n2_ := Aside0.mk (below_step (by repeat (first | (with_reducible first | exact HB.out | apply below_alloc | apply pw_below_drewN | apply below_drew1 | refine below_set ?_ GE414.out | refine below_set ?_ GE415.out) | exact HB.out)) hb); clear BK414; clear BK415; clear HB; have BK414 := n0_; have BK415 := n1_; have HB := n2_; clear n0_ n1_ n2_; (try clear hb); (try clear hb2); (try clear hk); (try clear hi)))
          go_ret
          exact ⟨by first | rfl | (simp [errW_none, errW_some] <;> rfl) | (simp only [← hji90, ← hji91]; first | rfl | (simp [errW_none, errW_some] <;> rfl)) | (simp [*, errW_none, errW_some] <;> rfl), by repeat (first | (with_reducible first | exact HB.out | apply below_alloc | apply pw_below_drewN | apply below_drew1 | refine below_set ?_ GE414.out | refine below_set ?_ GE415.out) | exact HB.out)⟩
       ·rw [if_neg c93] at H
        have c93b0 : (t523 == (ji91)) = false := beq_eq_false_iff_ne.mpr c93
        have c93b1 : (t523 != (ji91)) = true := bne_iff_ne.mpr c93
        obtain rfl := Option.some.inj H
        have hnb118 := NB414_415.out
        have hnc118 := NB415_414.out
        have hcz119_0 : wc.cell? ⟨gb414, 0, none⟩ = some (.int .i64 a0_0) := (blk_cell BK414.out 0).trans rfl
        have hcz119_1 : wc.cell? ⟨gb414, 1, none⟩ = some (.int .i64 a0_1) := (blk_cell BK414.out 1).trans rfl
        have hcz119_2 : wc.cell? ⟨gb414, 2, none⟩ = some (.int .i64 a0_2) := (blk_cell BK414.out 2).trans rfl
        have hcz119_3 : wc.cell? ⟨gb414, 3, none⟩ = some (.int .i64 a0_3) := (blk_cell BK414.out 3).trans rfl
        have hcz119_4 : wc.cell? ⟨gb414, 4, none⟩ = some (.int .i64 a0_4) := (blk_cell BK414.out 4).trans rfl
        have hcz119_5 : wc.cell? ⟨gb414, 5, none⟩ = some (.int .i64 a0_5) := (blk_cell BK414.out 5).trans rfl
        have hcz119_6 : wc.cell? ⟨gb414, 6, none⟩ = some (.int .i64 a0_6) := (blk_cell BK414.out 6).trans rfl
        have hcz119_7 : wc.cell? ⟨gb414, 7, none⟩ = some (.int .i64 a0_7) := (blk_cell BK414.out 7).trans rfl
        have hcz119_8 : wc.cell? ⟨gb414, 8, none⟩ = some (.int .i64 a0_8) := (blk_cell BK414.out 8).trans rfl
        have hcz119_9 : wc.cell? ⟨gb414, 9, none⟩ = some (.int .i64 a0_9) := (blk_cell BK414.out 9).trans rfl
        have hcz119_10 : wc.cell? ⟨gb414, 10, none⟩ = some (.int .i64 a0_10) := (blk_cell BK414.out 10).trans rfl
        have hcz119_11 : wc.cell? ⟨gb414, 11, none⟩ = some (.slice A0_11 l0_11.length c0_11) := (blk_cell BK414.out 11).trans rfl
        have hcz119_12 : wc.cell? ⟨gb414, 12, none⟩ = some (.int .i64 a0_12) := (blk_cell BK414.out 12).trans rfl
        have hfz119_0 := blk_frozen BK414.out 0
        have hfz119_1 := blk_frozen BK414.out 1
        have hfz119_2 := blk_frozen BK414.out 2
        have hfz119_3 := blk_frozen BK414.out 3
        have hfz119_4 := blk_frozen BK414.out 4
        have hfz119_5 := blk_frozen BK414.out 5
        have hfz119_6 := blk_frozen BK414.out 6
        have hfz119_7 := blk_frozen BK414.out 7
        have hfz119_8 := blk_frozen BK414.out 8
        have hfz119_9 := blk_frozen BK414.out 9
        have hfz119_10 := blk_frozen BK414.out 10
        have hfz119_11 := blk_frozen BK414.out 11
        have hfz119_12 := blk_frozen BK414.out 12
        have hcz120_0 : wc.cell? ⟨gb415, 0, none⟩ = some (.int .i64 a2_0) := (blk_cell BK415.out 0).trans rfl
        have hcz120_1 : wc.cell? ⟨gb415, 1, none⟩ = some (.int .i64 a2_1) := (blk_cell BK415.out 1).trans rfl
        have hcz120_2 : wc.cell? ⟨gb415, 2, none⟩ = some (.int .i64 a2_2) := (blk_cell BK415.out 2).trans rfl
        have hcz120_3 : wc.cell? ⟨gb415, 3, none⟩ = some (.int .i64 a2_3) := (blk_cell BK415.out 3).trans rfl
        have hcz120_4 : wc.cell? ⟨gb415, 4, none⟩ = some (.int .i64 a2_4) := (blk_cell BK415.out 4).trans rfl
        have hcz120_5 : wc.cell? ⟨gb415, 5, none⟩ = some (.bool a2_5) := (blk_cell BK415.out 5).trans rfl
        have hfz120_0 := blk_frozen BK415.out 0
        have hfz120_1 := blk_frozen BK415.out 1
        have hfz120_2 := blk_frozen BK415.out 2
        have hfz120_3 := blk_frozen BK415.out 3
        have hfz120_4 := blk_frozen BK415.out 4
        have hfz120_5 := blk_frozen BK415.out 5
        go_wp2_with (first | ((with_reducible refine gate_callee (f := 11) rfl ?_); refine goesL_ (some 89) rfl rfl Try.func11 (by kernel_rfl) rfl #[.pointer none, .int .i64 a2_1, .int .i64 (wrap64 (a0_5 + 1)), .int .i64 a2_3, .bool false, .int .i64 a2_4] rfl (by (try simp only [List.map_toArray, List.map_cons, List.map_nil]); first | done | rfl | (simp only [List.length_drop, List.length_take]; rfl)) ?_; (with_reducible refine (guard_Guard_Hear.nilrecv.calls  a2_1 (wrap64 (a0_5 + 1)) a2_3 false a2_4 t523 _ A92.out).mono ?_); rintro e w121 ⟨rfl, hb⟩; refine ⟨_, rfl, ?_⟩; have n0_ := Aside0.mk (blk_below (g := gb414) (o := .cells #[.int .i64 a0_0, .int .i64 a0_1, .int .i64 a0_2, .int .i64 a0_3, .int .i64 a0_4, .int .i64 a0_5, .int .i64 a0_6, .int .i64 a0_7, .int .i64 a0_8, .int .i64 a0_9, .int .i64 a0_10, .slice A0_11 l0_11.length c0_11, .int .i64 a0_12] 27 (0, 0)) (by (with_reducible repeat (first | refine blk_drewN ?_ _ | refine blk_drew ?_ | refine blk_alloc ?_ _)); exact BK414.out) hb); have n1_ := Aside0.mk (blk_below (g := gb415) (o := .cells #[.int .i64 a2_0, .int .i64 a2_1, .int .i64 a2_2, .int .i64 a2_3, .int .i64 a2_4, .bool a2_5] 24 (0, 0)) (by (with_reducible repeat (first | refine blk_drewN ?_ _ | refine blk_drew ?_ | refine blk_alloc ?_ _)); exact BK415.out) hb); have n2_ := Aside0.mk (below_step (by repeat (first | (with_reducible first | exact HB.out | apply below_alloc | apply pw_below_drewN | apply below_drew1 | refine below_set ?_ GE414.out | refine below_set ?_ GE415.out) | exact HB.out)) hb); clear BK414; clear BK415; clear HB; have BK414 := n0_; have BK415 := n1_; have HB := n2_; clear n0_ n1_ n2_; (try clear hb); (try clear hb2); (try clear hk); (try clear hi)))
        go_ret
        exact ⟨by first | rfl | (simp [errW_none, errW_some] <;> rfl) | (simp only [← hji90, ← hji91]; first | rfl | (simp [errW_none, errW_some] <;> rfl)) | (simp [*, errW_none, errW_some] <;> rfl), by repeat (first | (with_reducible first | exact HB.out | apply below_alloc | apply pw_below_drewN | apply below_drew1 | refine below_set ?_ GE414.out | refine below_set ?_ GE415.out) | exact HB.out)⟩
def flywheellaw28_GuardFree.Pure : Prop := ∀ (a0_0 : Int) (a0_1 : Int) (a0_2 : Int) (a0_3 : Int) (a0_4 : Int) (a0_5 : Int) (a0_6 : Int) (a0_7 : Int) (a0_8 : Int) (a0_9 : Int) (a0_10 : Int) (l0_11 : List (S85)) (a0_12 : Int) (l1 : List (S24)) (a2_0 : Int) (a2_1 : Int) (a2_2 : Int) (a2_3 : Int) (a2_4 : Int) (a2_5 : Bool), (Lit.int .i64 a0_0).wf = true → (Lit.int .i64 a0_1).wf = true → (Lit.int .i64 a0_2).wf = true → (Lit.int .i64 a0_3).wf = true → (Lit.int .i64 a0_4).wf = true → (Lit.int .i64 a0_5).wf = true → (Lit.int .i64 a0_6).wf = true → (Lit.int .i64 a0_7).wf = true → (Lit.int .i64 a0_8).wf = true → (Lit.int .i64 a0_9).wf = true → (Lit.int .i64 a0_10).wf = true → l0_11.length ≤ maxLen → (∀ x ∈ l0_11, (Lit.int .i64 x.f0).wf = true ∧ (Lit.int .i64 x.f1).wf = true ∧ (Lit.int .i64 x.f2).wf = true) → (Lit.int .i64 a0_12).wf = true → l1.length ≤ maxLen → l1.length * 48 ≤ 140737488351232 → (∀ x ∈ l1, (Lit.int .i64 x.f0).wf = true ∧ (Lit.int .i64 x.f1).wf = true ∧ (Lit.int .i64 x.f2).wf = true ∧ (Lit.int .i64 x.f3).wf = true ∧ (Lit.int .i64 x.f4).wf = true) → (Lit.int .i64 a2_0).wf = true → (Lit.int .i64 a2_1).wf = true → (Lit.int .i64 a2_2).wf = true → (Lit.int .i64 a2_3).wf = true → (Lit.int .i64 a2_4).wf = true → ∃ k, flywheellaw28_GuardFree.f k a0_0 a0_1 a0_2 a0_3 a0_4 a0_5 a0_6 a0_7 a0_8 a0_9 a0_10 l0_11 a0_12 l1 a2_0 a2_1 a2_2 a2_3 a2_4 a2_5 = some true
theorem flywheellaw28_GuardFree.walk (P : flywheellaw28_GuardFree.Pure) (a0_0 : Int) (a0_1 : Int) (a0_2 : Int) (a0_3 : Int) (a0_4 : Int) (a0_5 : Int) (a0_6 : Int) (a0_7 : Int) (a0_8 : Int) (a0_9 : Int) (a0_10 : Int) (A0_11 : Option Addr) (c0_11 : Nat) (l0_11 : List (S85)) (a0_12 : Int) (A1 : Option Addr) (c1 : Nat) (l1 : List (S24)) (a2_0 : Int) (a2_1 : Int) (a2_2 : Int) (a2_3 : Int) (a2_4 : Int) (a2_5 : Bool) (w : World) (w0_0 : (Lit.int .i64 a0_0).wf = true) (w0_1 : (Lit.int .i64 a0_1).wf = true) (w0_2 : (Lit.int .i64 a0_2).wf = true) (w0_3 : (Lit.int .i64 a0_3).wf = true) (w0_4 : (Lit.int .i64 a0_4).wf = true) (w0_5 : (Lit.int .i64 a0_5).wf = true) (w0_6 : (Lit.int .i64 a0_6).wf = true) (w0_7 : (Lit.int .i64 a0_7).wf = true) (w0_8 : (Lit.int .i64 a0_8).wf = true) (w0_9 : (Lit.int .i64 a0_9).wf = true) (w0_10 : (Lit.int .i64 a0_10).wf = true) (hm0_11 : l0_11.length ≤ maxLen) (hw0_11 : (∀ x ∈ l0_11, (Lit.int .i64 x.f0).wf = true ∧ (Lit.int .i64 x.f1).wf = true ∧ (Lit.int .i64 x.f2).wf = true)) (w0_12 : (Lit.int .i64 a0_12).wf = true) (hm1 : l1.length ≤ maxLen) (y1 : l1.length * 48 ≤ 140737488351232) (hw1 : (∀ x ∈ l1, (Lit.int .i64 x.f0).wf = true ∧ (Lit.int .i64 x.f1).wf = true ∧ (Lit.int .i64 x.f2).wf = true ∧ (Lit.int .i64 x.f3).wf = true ∧ (Lit.int .i64 x.f4).wf = true)) (w2_0 : (Lit.int .i64 a2_0).wf = true) (w2_1 : (Lit.int .i64 a2_1).wf = true) (w2_2 : (Lit.int .i64 a2_2).wf = true) (w2_3 : (Lit.int .i64 a2_3).wf = true) (w2_4 : (Lit.int .i64 a2_4).wf = true) (hr0_11 : Kd.C k85 w A0_11 l0_11.length l0_11) (hc0_11 : l0_11.length ≤ c0_11) (hr1 : Kd.C k24 w A1 l1.length l1) (hc1 : l1.length ≤ c1) :
  Calls Try.prog 5 #[.agg #[.int .i64 a0_0, .int .i64 a0_1, .int .i64 a0_2, .int .i64 a0_3, .int .i64 a0_4, .int .i64 a0_5, .int .i64 a0_6, .int .i64 a0_7, .int .i64 a0_8, .int .i64 a0_9, .int .i64 a0_10, .slice A0_11 l0_11.length c0_11, .int .i64 a0_12], .slice A1 l1.length c1, .agg #[.int .i64 a2_0, .int .i64 a2_1, .int .i64 a2_2, .int .i64 a2_3, .int .i64 a2_4, .bool a2_5]] w fun e w' => e = .returned (.bool true) ∧ Below w.heap.size w w' := by
 obtain ⟨k, h⟩ := P a0_0 a0_1 a0_2 a0_3 a0_4 a0_5 a0_6 a0_7 a0_8 a0_9 a0_10 l0_11 a0_12 l1 a2_0 a2_1 a2_2 a2_3 a2_4 a2_5 w0_0 w0_1 w0_2 w0_3 w0_4 w0_5 w0_6 w0_7 w0_8 w0_9 w0_10 hm0_11 hw0_11 w0_12 hm1 y1 hw1 w2_0 w2_1 w2_2 w2_3 w2_4
 refine (flywheellaw28_GuardFree.calls k a0_0 a0_1 a0_2 a0_3 a0_4 a0_5 a0_6 a0_7 a0_8 a0_9 a0_10 A0_11 c0_11 l0_11 a0_12 A1 c1 l1 a2_0 a2_1 a2_2 a2_3 a2_4 a2_5 true w hr0_11 hc0_11 hr1 hc1 h).mono ?_
 rintro e w' ⟨rfl, hd⟩
 exact ⟨rfl, hd⟩
end Go.Proofs.Ytkfkbebpcmmnfaa.P
end

section
namespace Go.Proofs.Ytkfkbebpcmmnfaa.P
open Go.RowKit Go.Proofs.YtkfkbebpcmmnfaaW.PrintWords Go.Proofs.YtkfkbebpcmmnfaaW.PrintLast Go.Proofs.YtkfkbebpcmmnfaaW.PrintMore
attribute [local go_sem] max2_int min2_int max_two min_two max_three min_three max_four min_four   -- for this text's walks alone
set_option linter.unusedVariables false
set_option linter.unusedSimpArgs false
def flywheelref19_Rates.f (a0 : Int) (a1 : Int) (a2 : Int) : Option (Bool) := if a1 ≥ 1 then (if a1 ≤ a0 then (if a0 ≤ a2 then (some (decide (a2 ≤ 17179869184))) else (some false)) else (some false)) else (some false)
def flywheelref28_Good.f (a0_0 : Int) (a0_1 : Int) (a0_2 : Int) (a0_3 : Int) (a0_4 : Int) (a0_5 : Int) (a0_6 : Int) (a0_7 : Int) (a0_8 : Int) (a0_9 : Int) (a0_10 : Int) (l0_11 : List (S85)) (a0_12 : Int) : Option (Bool) := (flywheelref19_Rates.f a0_3 a0_1 a0_2).bind fun t365 => (if t365 = true then (if a0_5 ≥ 0 then (if a0_5 ≤ a0_4 then (if a0_4 ≤ 1000000 then (if a0_7 ≥ 1000 then (some (decide (a0_7 ≤ 1125899906842624))) else (some false)) else (some false)) else (some false)) else (some false)) else (some false))
end Go.Proofs.Ytkfkbebpcmmnfaa.P
end

section
namespace Go.Proofs.Ytkfkbebpcmmnfaa.P
open Go.RowKit Go.Proofs.YtkfkbebpcmmnfaaW.PrintWords Go.Proofs.YtkfkbebpcmmnfaaW.PrintLast Go.Proofs.YtkfkbebpcmmnfaaW.PrintMore
attribute [local go_sem] max2_int min2_int max_two min_two max_three min_three max_four min_four   -- for this text's walks alone
set_option linter.unusedVariables false
set_option linter.unusedSimpArgs false
end Go.Proofs.Ytkfkbebpcmmnfaa.P
end

section
namespace Go.Proofs.Ytkfkbebpcmmnfaa.P
open Go.RowKit Go.Proofs.YtkfkbebpcmmnfaaW.PrintWords Go.Proofs.YtkfkbebpcmmnfaaW.PrintLast Go.Proofs.YtkfkbebpcmmnfaaW.PrintMore
attribute [local go_sem] max2_int min2_int max_two min_two max_three min_three max_four min_four   -- for this text's walks alone
set_option linter.unusedVariables false
set_option linter.unusedSimpArgs false
end Go.Proofs.Ytkfkbebpcmmnfaa.P
end

section
namespace Go.Proofs.Ytkfkbebpcmmnfaa.P
open Go.RowKit
set_option linter.unusedVariables false
set_option linter.unusedSimpArgs false
theorem clamp_eq (a lo hi : Int) : sat_Clamp.f a lo hi = some (if a < lo then lo else if a > hi then hi else a) := by
  unfold sat_Clamp.f
  split
  · rfl
  · split <;> rfl
end Go.Proofs.Ytkfkbebpcmmnfaa.P
end

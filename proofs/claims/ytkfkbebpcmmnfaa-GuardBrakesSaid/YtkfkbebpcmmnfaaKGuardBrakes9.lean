-- PUT TOGETHER by a program of this session: of the claim's texts, what is used
import Derived.Test.YtkfkbebpcmmnfaaKGuardBrakes7
import Derived.Test.YtkfkbebpcmmnfaaKGuardBrakes8
section
namespace Go.Proofs.Ytkfkbebpcmmnfaa.P
open Go.RowKit Go.Proofs.YtkfkbebpcmmnfaaW.PrintWords Go.Proofs.YtkfkbebpcmmnfaaW.PrintLast Go.Proofs.YtkfkbebpcmmnfaaW.PrintMore
attribute [local go_sem] max2_int min2_int max_two min_two max_three min_three max_four min_four   -- for this text's walks alone
set_option linter.unusedVariables false
set_option linter.unusedSimpArgs false
mutual
def flywheellaw28_GuardBrakes.j1 : Nat → Int → Int → Int → Int → Int → Bool → Int → Int → Int → Int → Int → Int → Int → Int → Int → Int → Int → Int → Int → Int → Int → Int → Int → Int → Int → Int → Int → Int → Int → List (S85) → Int → Int → Int → Int → Bool → Bool → Option (Bool)
 | 0, _, _, _, _, _, _, _, _, _, _, _, _, _, _, _, _, _, _, _, _, _, _, _, _, _, _, _, _, _, _, _, _, _, _, _, _ => none
 | k + 1, x215000, x215001, x215002, x215003, x215004, x215005, x228000, x228001, x228002, x228003, x228004, x228005, x228006, x228007, x228008, x228009, x228010, x228012, x247000, x247001, x247002, x247003, x247004, x247005, x247006, x247007, x247008, x247009, x247010, x247011, x247012, x247013, x247014, x247015, x247016, x247017 => (flywheelkeep_Mod64.f x215003 8589934592).bind fun t271 => ((guard_Guard_Hear.f x247000 x247001 x247002 x247003 x247004 x247005 x247006 x247007 x247008 x247009 x247010 x247011 x247012 x247013 x247014 x247015 x247016 x247017 x215001 (wrap64 (x228004 + 1)) t271 x215005 x215004).bind fun bt272 => ((guard_Guard_Brakes.f bt272.2.1 bt272.2.2.1 bt272.2.2.2.1 bt272.2.2.2.2.1 bt272.2.2.2.2.2.1 bt272.2.2.2.2.2.2.1 bt272.2.2.2.2.2.2.2.1 bt272.2.2.2.2.2.2.2.2.1 bt272.2.2.2.2.2.2.2.2.2.1 bt272.2.2.2.2.2.2.2.2.2.2.1 bt272.2.2.2.2.2.2.2.2.2.2.2.1 x247011 bt272.2.2.2.2.2.2.2.2.2.2.2.2.1 bt272.2.2.2.2.2.2.2.2.2.2.2.2.2.1 bt272.2.2.2.2.2.2.2.2.2.2.2.2.2.2.1 bt272.2.2.2.2.2.2.2.2.2.2.2.2.2.2.2.1 bt272.2.2.2.2.2.2.2.2.2.2.2.2.2.2.2.2.1 bt272.2.2.2.2.2.2.2.2.2.2.2.2.2.2.2.2.2).bind fun bt290 => (if bt290.1 = true then (flywheellaw28_GuardBrakes.j2 k t271 (decide (bt272.1 > (mx x228001 (wrap64 (Int.tdiv (wrap64 (t271 * 7)) 8))))) x215000 x215001 x215002 x215003 x215004 x215005 x228000 x228001 x228002 x228003 x228004 x228005 x228006 x228007 x228008 x228009 x228010 x228012 bt290.2.1 bt290.2.2.1 bt290.2.2.2.1 bt290.2.2.2.2.1 bt290.2.2.2.2.2.1 bt290.2.2.2.2.2.2.1 bt290.2.2.2.2.2.2.2.1 bt290.2.2.2.2.2.2.2.2.1 bt290.2.2.2.2.2.2.2.2.2.1 bt290.2.2.2.2.2.2.2.2.2.2.1 bt290.2.2.2.2.2.2.2.2.2.2.2.1 x247011 bt290.2.2.2.2.2.2.2.2.2.2.2.2.1 bt290.2.2.2.2.2.2.2.2.2.2.2.2.2.1 bt290.2.2.2.2.2.2.2.2.2.2.2.2.2.2.1 bt290.2.2.2.2.2.2.2.2.2.2.2.2.2.2.2.1 bt290.2.2.2.2.2.2.2.2.2.2.2.2.2.2.2.2.1 bt290.2.2.2.2.2.2.2.2.2.2.2.2.2.2.2.2.2) else (flywheellaw28_GuardBrakes.j2 k t271 true x215000 x215001 x215002 x215003 x215004 x215005 x228000 x228001 x228002 x228003 x228004 x228005 x228006 x228007 x228008 x228009 x228010 x228012 bt290.2.1 bt290.2.2.1 bt290.2.2.2.1 bt290.2.2.2.2.1 bt290.2.2.2.2.2.1 bt290.2.2.2.2.2.2.1 bt290.2.2.2.2.2.2.2.1 bt290.2.2.2.2.2.2.2.2.1 bt290.2.2.2.2.2.2.2.2.2.1 bt290.2.2.2.2.2.2.2.2.2.2.1 bt290.2.2.2.2.2.2.2.2.2.2.2.1 x247011 bt290.2.2.2.2.2.2.2.2.2.2.2.2.1 bt290.2.2.2.2.2.2.2.2.2.2.2.2.2.1 bt290.2.2.2.2.2.2.2.2.2.2.2.2.2.2.1 bt290.2.2.2.2.2.2.2.2.2.2.2.2.2.2.2.1 bt290.2.2.2.2.2.2.2.2.2.2.2.2.2.2.2.2.1 bt290.2.2.2.2.2.2.2.2.2.2.2.2.2.2.2.2.2))))
def flywheellaw28_GuardBrakes.j2 : Nat → Int → Bool → Int → Int → Int → Int → Int → Bool → Int → Int → Int → Int → Int → Int → Int → Int → Int → Int → Int → Int → Int → Int → Int → Int → Int → Int → Int → Int → Int → Int → Int → List (S85) → Int → Int → Int → Int → Bool → Bool → Option (Bool)
 | 0, _, _, _, _, _, _, _, _, _, _, _, _, _, _, _, _, _, _, _, _, _, _, _, _, _, _, _, _, _, _, _, _, _, _, _, _, _, _ => none
 | k + 1, x9, x85, x215000, x215001, x215002, x215003, x215004, x215005, x228000, x228001, x228002, x228003, x228004, x228005, x228006, x228007, x228008, x228009, x228010, x228012, x247000, x247001, x247002, x247003, x247004, x247005, x247006, x247007, x247008, x247009, x247010, x247011, x247012, x247013, x247014, x247015, x247016, x247017 => if x85 = true then (some false) else ((guard_Guard_Hear.f x247000 x247001 x247002 x247003 x247004 x247005 x247006 x247007 x247008 x247009 x247010 x247011 x247012 x247013 x247014 x247015 x247016 x247017 x215001 x228005 x9 x215005 x215004).bind fun bt308 => (if x215005 = true then ((guard_Guard_Brakes.f bt308.2.1 bt308.2.2.1 bt308.2.2.2.1 bt308.2.2.2.2.1 bt308.2.2.2.2.2.1 bt308.2.2.2.2.2.2.1 bt308.2.2.2.2.2.2.2.1 bt308.2.2.2.2.2.2.2.2.1 bt308.2.2.2.2.2.2.2.2.2.1 bt308.2.2.2.2.2.2.2.2.2.2.1 bt308.2.2.2.2.2.2.2.2.2.2.2.1 x247011 bt308.2.2.2.2.2.2.2.2.2.2.2.2.1 bt308.2.2.2.2.2.2.2.2.2.2.2.2.2.1 bt308.2.2.2.2.2.2.2.2.2.2.2.2.2.2.1 bt308.2.2.2.2.2.2.2.2.2.2.2.2.2.2.2.1 bt308.2.2.2.2.2.2.2.2.2.2.2.2.2.2.2.2.1 bt308.2.2.2.2.2.2.2.2.2.2.2.2.2.2.2.2.2).bind fun bt326 => (if bt326.1 = true then (some false) else (if bt308.1 ≥ (mn (wrap64 (Int.tdiv (wrap64 (x9 * 9)) 8)) (mn x228002 (mx x228001 (wrap64 ((wrap64 (2 * x9)) + 100000))))) then ((flywheellaw28_wakes.f).bind fun t344 => (some t344)) else (some false)))) else ((guard_Guard_Brakes.f bt308.2.1 bt308.2.2.1 bt308.2.2.2.1 bt308.2.2.2.2.1 bt308.2.2.2.2.2.1 bt308.2.2.2.2.2.2.1 bt308.2.2.2.2.2.2.2.1 bt308.2.2.2.2.2.2.2.2.1 bt308.2.2.2.2.2.2.2.2.2.1 bt308.2.2.2.2.2.2.2.2.2.2.1 bt308.2.2.2.2.2.2.2.2.2.2.2.1 x247011 bt308.2.2.2.2.2.2.2.2.2.2.2.2.1 bt308.2.2.2.2.2.2.2.2.2.2.2.2.2.1 bt308.2.2.2.2.2.2.2.2.2.2.2.2.2.2.1 bt308.2.2.2.2.2.2.2.2.2.2.2.2.2.2.2.1 bt308.2.2.2.2.2.2.2.2.2.2.2.2.2.2.2.2.1 bt308.2.2.2.2.2.2.2.2.2.2.2.2.2.2.2.2.2).bind fun bt345 => (if bt345.1 = true then (some false) else (if bt308.1 ≥ (mn (wrap64 (Int.tdiv (wrap64 (x9 * 9)) 8)) x228002) then ((flywheellaw28_wakes.f).bind fun t363 => (some t363)) else (some false))))))
def flywheellaw28_GuardBrakes.l0 : Nat → List (S24) → Int → Int → Int → Int → Int → Int → Bool → Int → Int → Int → Int → Int → Int → Int → Int → Int → Int → Int → Int → Int → Int → Int → Int → Int → Int → Int → Int → Int → Int → Int → List (S85) → Int → Int → Int → Int → Bool → Bool → Option (Bool)
 | 0, _, _, _, _, _, _, _, _, _, _, _, _, _, _, _, _, _, _, _, _, _, _, _, _, _, _, _, _, _, _, _, _, _, _, _, _, _, _ => none
 | k + 1, x0, x8, x215000, x215001, x215002, x215003, x215004, x215005, x228000, x228001, x228002, x228003, x228004, x228005, x228006, x228007, x228008, x228009, x228010, x228012, x247000, x247001, x247002, x247003, x247004, x247005, x247006, x247007, x247008, x247009, x247010, x247011, x247012, x247013, x247014, x247015, x247016, x247017 => if x8 < (x0.length : Int) then (if x8 < 100 then (if 0 ≤ x8 then ((guard_Guard_Hear.f x247000 x247001 x247002 x247003 x247004 x247005 x247006 x247007 x247008 x247009 x247010 x247011 x247012 x247013 x247014 x247015 x247016 x247017 ((rd_T24 x0 x8).f1) ((rd_T24 x0 x8).f2) ((rd_T24 x0 x8).f3) ((rd_T24 x0 x8).f5) ((rd_T24 x0 x8).f4)).bind fun bt253 => (flywheellaw28_GuardBrakes.l0 k x0 (wrap64 (x8 + 1)) x215000 x215001 x215002 x215003 x215004 x215005 x228000 x228001 x228002 x228003 x228004 x228005 x228006 x228007 x228008 x228009 x228010 x228012 bt253.2.1 bt253.2.2.1 bt253.2.2.2.1 bt253.2.2.2.2.1 bt253.2.2.2.2.2.1 bt253.2.2.2.2.2.2.1 bt253.2.2.2.2.2.2.2.1 bt253.2.2.2.2.2.2.2.2.1 bt253.2.2.2.2.2.2.2.2.2.1 bt253.2.2.2.2.2.2.2.2.2.2.1 bt253.2.2.2.2.2.2.2.2.2.2.2.1 x247011 bt253.2.2.2.2.2.2.2.2.2.2.2.2.1 bt253.2.2.2.2.2.2.2.2.2.2.2.2.2.1 bt253.2.2.2.2.2.2.2.2.2.2.2.2.2.2.1 bt253.2.2.2.2.2.2.2.2.2.2.2.2.2.2.2.1 bt253.2.2.2.2.2.2.2.2.2.2.2.2.2.2.2.2.1 bt253.2.2.2.2.2.2.2.2.2.2.2.2.2.2.2.2.2)) else (none)) else (flywheellaw28_GuardBrakes.j1 k x215000 x215001 x215002 x215003 x215004 x215005 x228000 x228001 x228002 x228003 x228004 x228005 x228006 x228007 x228008 x228009 x228010 x228012 x247000 x247001 x247002 x247003 x247004 x247005 x247006 x247007 x247008 x247009 x247010 x247011 x247012 x247013 x247014 x247015 x247016 x247017)) else (flywheellaw28_GuardBrakes.j1 k x215000 x215001 x215002 x215003 x215004 x215005 x228000 x228001 x228002 x228003 x228004 x228005 x228006 x228007 x228008 x228009 x228010 x228012 x247000 x247001 x247002 x247003 x247004 x247005 x247006 x247007 x247008 x247009 x247010 x247011 x247012 x247013 x247014 x247015 x247016 x247017)
end
def flywheellaw28_GuardBrakes.f (k : Nat) (l0 : List (S24)) (a1_0 : Int) (a1_1 : Int) (a1_2 : Int) (a1_3 : Int) (a1_4 : Int) (a1_5 : Bool) : Option (Bool) := (flywheellaw28_Some.f).bind fun bt215 => (if (guard_New.made.f bt215.1 bt215.2.1 bt215.2.2.1 bt215.2.2.2.1 bt215.2.2.2.2.1 bt215.2.2.2.2.2.1 bt215.2.2.2.2.2.2.1 bt215.2.2.2.2.2.2.2.1 bt215.2.2.2.2.2.2.2.2.1 bt215.2.2.2.2.2.2.2.2.2.1 bt215.2.2.2.2.2.2.2.2.2.2.1 ([] : List (S85)) bt215.2.2.2.2.2.2.2.2.2.2.2).isSome = true then ((guard_New.made.f bt215.1 bt215.2.1 bt215.2.2.1 bt215.2.2.2.1 bt215.2.2.2.2.1 bt215.2.2.2.2.2.1 bt215.2.2.2.2.2.2.1 bt215.2.2.2.2.2.2.2.1 bt215.2.2.2.2.2.2.2.2.1 bt215.2.2.2.2.2.2.2.2.2.1 bt215.2.2.2.2.2.2.2.2.2.2.1 ([] : List (S85)) bt215.2.2.2.2.2.2.2.2.2.2.2).bind fun bt228 => (if bt228.2.2.2.2.2.2.2.2.2.2.2.2.2.2.2.2.2.2 = 0 then (flywheellaw28_GuardBrakes.l0 k l0 0 a1_0 a1_1 a1_2 a1_3 a1_4 a1_5 bt215.1 bt215.2.1 bt215.2.2.1 bt215.2.2.2.1 bt215.2.2.2.2.1 bt215.2.2.2.2.2.1 bt215.2.2.2.2.2.2.1 bt215.2.2.2.2.2.2.2.1 bt215.2.2.2.2.2.2.2.2.1 bt215.2.2.2.2.2.2.2.2.2.1 bt215.2.2.2.2.2.2.2.2.2.2.1 bt215.2.2.2.2.2.2.2.2.2.2.2 bt228.1 bt228.2.1 bt228.2.2.1 bt228.2.2.2.1 bt228.2.2.2.2.1 bt228.2.2.2.2.2.1 bt228.2.2.2.2.2.2.1 bt228.2.2.2.2.2.2.2.1 bt228.2.2.2.2.2.2.2.2.1 bt228.2.2.2.2.2.2.2.2.2.1 bt228.2.2.2.2.2.2.2.2.2.2.1 bt228.2.2.2.2.2.2.2.2.2.2.2.1 bt228.2.2.2.2.2.2.2.2.2.2.2.2.1 bt228.2.2.2.2.2.2.2.2.2.2.2.2.2.1 bt228.2.2.2.2.2.2.2.2.2.2.2.2.2.2.1 bt228.2.2.2.2.2.2.2.2.2.2.2.2.2.2.2.1 bt228.2.2.2.2.2.2.2.2.2.2.2.2.2.2.2.2.1 bt228.2.2.2.2.2.2.2.2.2.2.2.2.2.2.2.2.2.1) else (some false))) else (none))
def flywheellaw28_GuardBrakes.T8 : Bool × List (List Nat × List Nat) := (true, [([], []), ([], []), ([], []), ([1, 2], [1, 2]), ([3], [3]), ([4], [4]), ([], []), ([], []), ([6, 7], [6, 7]), ([8], [8]), ([9], [9]), ([], []), ([], []), ([11, 12], [11, 12]), ([13], [13]), ([14], [14]), ([], []), ([], []), ([16, 17], [16, 17]), ([18], [18]), ([19], [19]), ([], []), ([], []), ([21, 22], [21, 22]), ([23], [23]), ([24], [24]), ([0, 5, 10, 15, 20, 25], [0, 5, 10, 15, 20, 25])])
def flywheellaw28_GuardBrakes.B8 : List Nat := [0, 0, 0, 6, 14, 30, 0, 0, 192, 448, 960, 0, 0, 6144, 14336, 30720, 0, 0, 196608, 458752, 983040, 0, 0, 6291456, 14680064, 31457280, 67108863]
theorem flywheellaw28_GuardBrakes.tab8 : rtab .any (opsOf Try.f3 8) = flywheellaw28_GuardBrakes.T8 := by kernel_rfl
theorem flywheellaw28_GuardBrakes.bits8 : waitsOk flywheellaw28_GuardBrakes.T8.2 flywheellaw28_GuardBrakes.B8 = true := by kernel_rfl
set_option maxHeartbeats 8000000 in
set_option maxRecDepth 100000 in
theorem flywheellaw28_GuardBrakes.calls (k : Nat) (A0 : Option Addr) (c0 : Nat) (l0 : List (S24)) (a1_0 : Int) (a1_1 : Int) (a1_2 : Int) (a1_3 : Int) (a1_4 : Int) (a1_5 : Bool) (r : Bool) (w : World) (hr0 : Kd.C k24 w A0 l0.length l0) (hc0 : l0.length ≤ c0) (h : flywheellaw28_GuardBrakes.f k l0 a1_0 a1_1 a1_2 a1_3 a1_4 a1_5 = some r) :
  Calls Try.prog 3 #[.slice A0 l0.length c0, .agg #[.int .i64 a1_0, .int .i64 a1_1, .int .i64 a1_2, .int .i64 a1_3, .int .i64 a1_4, .bool a1_5]] w fun e w' => e = .returned (.bool r) ∧ Below w.heap.size w w' := by
 have hu24 := Try.underlying24
 have hu27 := Try.underlying27
 have HR0 := Aside0.mk hr0
 have HC0 := Aside0.mk hc0
 clear hr0 hc0
 have HB := Aside0.mk (Below.refl w.heap.size w)
 have H : ((flywheellaw28_Some.f).bind fun bt215 => (if (guard_New.made.f bt215.1 bt215.2.1 bt215.2.2.1 bt215.2.2.2.1 bt215.2.2.2.2.1 bt215.2.2.2.2.2.1 bt215.2.2.2.2.2.2.1 bt215.2.2.2.2.2.2.2.1 bt215.2.2.2.2.2.2.2.2.1 bt215.2.2.2.2.2.2.2.2.2.1 bt215.2.2.2.2.2.2.2.2.2.2.1 ([] : List (S85)) bt215.2.2.2.2.2.2.2.2.2.2.2).isSome = true then ((guard_New.made.f bt215.1 bt215.2.1 bt215.2.2.1 bt215.2.2.2.1 bt215.2.2.2.2.1 bt215.2.2.2.2.2.1 bt215.2.2.2.2.2.2.1 bt215.2.2.2.2.2.2.2.1 bt215.2.2.2.2.2.2.2.2.1 bt215.2.2.2.2.2.2.2.2.2.1 bt215.2.2.2.2.2.2.2.2.2.2.1 ([] : List (S85)) bt215.2.2.2.2.2.2.2.2.2.2.2).bind fun bt228 => (if bt228.2.2.2.2.2.2.2.2.2.2.2.2.2.2.2.2.2.2 = 0 then (flywheellaw28_GuardBrakes.l0 k l0 0 a1_0 a1_1 a1_2 a1_3 a1_4 a1_5 bt215.1 bt215.2.1 bt215.2.2.1 bt215.2.2.2.1 bt215.2.2.2.2.1 bt215.2.2.2.2.2.1 bt215.2.2.2.2.2.2.1 bt215.2.2.2.2.2.2.2.1 bt215.2.2.2.2.2.2.2.2.1 bt215.2.2.2.2.2.2.2.2.2.1 bt215.2.2.2.2.2.2.2.2.2.2.1 bt215.2.2.2.2.2.2.2.2.2.2.2 bt228.1 bt228.2.1 bt228.2.2.1 bt228.2.2.2.1 bt228.2.2.2.2.1 bt228.2.2.2.2.2.1 bt228.2.2.2.2.2.2.1 bt228.2.2.2.2.2.2.2.1 bt228.2.2.2.2.2.2.2.2.1 bt228.2.2.2.2.2.2.2.2.2.1 bt228.2.2.2.2.2.2.2.2.2.2.1 bt228.2.2.2.2.2.2.2.2.2.2.2.1 bt228.2.2.2.2.2.2.2.2.2.2.2.2.1 bt228.2.2.2.2.2.2.2.2.2.2.2.2.2.1 bt228.2.2.2.2.2.2.2.2.2.2.2.2.2.2.1 bt228.2.2.2.2.2.2.2.2.2.2.2.2.2.2.2.1 bt228.2.2.2.2.2.2.2.2.2.2.2.2.2.2.2.2.1 bt228.2.2.2.2.2.2.2.2.2.2.2.2.2.2.2.2.2.1) else (some false))) else (none))) = some r := h
 clear h
 replace H := Option.bind_eq_some_iff.mp H
 obtain ⟨⟨t215, t216, t217, t218, t219, t220, t221, t222, t223, t224, t225, t226⟩, A30, H⟩ := H
 replace H : (if (guard_New.made.f t215 t216 t217 t218 t219 t220 t221 t222 t223 t224 t225 ([] : List (S85)) t226).isSome = true then ((guard_New.made.f t215 t216 t217 t218 t219 t220 t221 t222 t223 t224 t225 ([] : List (S85)) t226).bind fun bt228 => (if bt228.2.2.2.2.2.2.2.2.2.2.2.2.2.2.2.2.2.2 = 0 then (flywheellaw28_GuardBrakes.l0 k l0 0 a1_0 a1_1 a1_2 a1_3 a1_4 a1_5 t215 t216 t217 t218 t219 t220 t221 t222 t223 t224 t225 t226 bt228.1 bt228.2.1 bt228.2.2.1 bt228.2.2.2.1 bt228.2.2.2.2.1 bt228.2.2.2.2.2.1 bt228.2.2.2.2.2.2.1 bt228.2.2.2.2.2.2.2.1 bt228.2.2.2.2.2.2.2.2.1 bt228.2.2.2.2.2.2.2.2.2.1 bt228.2.2.2.2.2.2.2.2.2.2.1 bt228.2.2.2.2.2.2.2.2.2.2.2.1 bt228.2.2.2.2.2.2.2.2.2.2.2.2.1 bt228.2.2.2.2.2.2.2.2.2.2.2.2.2.1 bt228.2.2.2.2.2.2.2.2.2.2.2.2.2.2.1 bt228.2.2.2.2.2.2.2.2.2.2.2.2.2.2.2.1 bt228.2.2.2.2.2.2.2.2.2.2.2.2.2.2.2.2.1 bt228.2.2.2.2.2.2.2.2.2.2.2.2.2.2.2.2.2.1) else (some false))) else (none)) = some r := H
 have A3 := Aside0.mk A30
 clear A30
 by_cases c4 : (guard_New.made.f t215 t216 t217 t218 t219 t220 t221 t222 t223 t224 t225 ([] : List (S85)) t226).isSome = true
 ·rw [if_pos c4] at H
  have c4b0 : (guard_New.made.f t215 t216 t217 t218 t219 t220 t221 t222 t223 t224 t225 ([] : List (S85)) t226).isSome = true := c4
  clear c4
  replace H := Option.bind_eq_some_iff.mp H
  obtain ⟨⟨t228, t229, t230, t231, t232, t233, t234, t235, t236, t237, t238, t239, t240, t241, t242, t243, t244, t245, t247⟩, A50, H⟩ := H
  replace H : (if t247 = 0 then (flywheellaw28_GuardBrakes.l0 k l0 0 a1_0 a1_1 a1_2 a1_3 a1_4 a1_5 t215 t216 t217 t218 t219 t220 t221 t222 t223 t224 t225 t226 t228 t229 t230 t231 t232 t233 t234 t235 t236 t237 t238 t239 t240 t241 t242 t243 t244 t245) else (some false)) = some r := H
  have A5 := Aside0.mk A50
  clear A50
  by_cases c6 : t247 = 0
  ·rw [if_pos c6] at H
   have c6b0 : (t247 == 0) = true := beq_iff_eq.mpr c6
   have c6b1 : (t247 != 0) = false := bne_eq_false_iff_eq.mpr c6
   clear c6
   have HC7 := Aside0.mk H
   clear H
   go_enter Try.func3, Try.ntmps3
   go_upto_block 0 with (first | ((with_reducible refine gate_dst (N := 3) rfl ?_); (try (refine gate_guard (by rfl) ?_; dsimp only)); refine box_event ?hg (N := 3) ?hd (cs := #[.int .i64 a1_0, .int .i64 a1_1, .int .i64 a1_2, .int .i64 a1_3, .int .i64 a1_4, .bool a1_5]) (t := 24) ?hr ?_; (case hd => rfl); (case hg => rfl); (case hr => first | (go_simp; done) | (go_simp; rfl)); intro gb214 hg w8 hbox hb; have n0_ := Aside0.mk (below_step (by repeat (first | (with_reducible first | exact HB.out | apply below_alloc | apply pw_below_drewN | apply below_drew1) | exact HB.out)) hb); have n1_ := Aside0.mk (hbox); have n2_ := Aside0.mk ((by rw [hg]; exact (below_size (by repeat (first | (with_reducible first | exact HB.out | apply below_alloc | apply pw_below_drewN | apply below_drew1) | exact HB.out))) : w.heap.size ≤ gb214)); have n3_ := Aside0.mk ((by rw [hg]; exact (below_size (by repeat (first | (with_reducible first | exact HB.out | apply below_alloc | apply pw_below_drewN | apply below_drew1) | exact HB.out))) : w.heap.size ≤ gb214)); clear HB; have HB := n0_; have BK214 := n1_; have GW214 := n2_; have GE214 := n3_; clear n0_ n1_ n2_ n3_; clear hb hbox hg) | ((with_reducible refine gate_callee (f := 9) rfl ?_); refine goesL_ (some 13) rfl rfl Try.func9 (by kernel_rfl) rfl #[] rfl (by (try simp only [List.map_toArray, List.map_cons, List.map_nil]); first | done | rfl | (simp only [List.length_drop, List.length_take]; rfl)) ?_; (with_reducible refine (flywheellaw28_Some.calls  t215 t216 t217 t218 t219 t220 t221 t222 t223 t224 t225 t226 _ A3.out).mono ?_); rintro e w9 ⟨rfl, hb⟩; refine ⟨_, rfl, ?_⟩; have n0_ := Aside0.mk (blk_below (g := gb214) (o := .cells #[.int .i64 a1_0, .int .i64 a1_1, .int .i64 a1_2, .int .i64 a1_3, .int .i64 a1_4, .bool a1_5] 24 (0, 0)) (by (with_reducible repeat (first | refine blk_drewN ?_ _ | refine blk_drew ?_ | refine blk_alloc ?_ _)); exact BK214.out) hb); have n1_ := Aside0.mk (below_step (by repeat (first | (with_reducible first | exact HB.out | apply below_alloc | apply pw_below_drewN | apply below_drew1 | refine below_set ?_ GE214.out) | exact HB.out)) hb); clear BK214; clear HB; have BK214 := n0_; have HB := n1_; clear n0_ n1_; (try clear hb); (try clear hb2); (try clear hk); (try clear hi)) | ((with_reducible refine gate_dst (N := 5) rfl ?_); (try (refine gate_guard (by rfl) ?_; dsimp only)); refine box_event ?hg (N := 5) ?hd (cs := #[.int .i64 0, .int .i64 0, .int .i64 0, .int .i64 0, .int .i64 0, .int .i64 0, .int .i64 0, .int .i64 0, .int .i64 0, .int .i64 0, .int .i64 0, .slice none 0 0, .int .i64 0]) (t := 27) ?hr ?_; (case hd => rfl); (case hg => rfl); (case hr => first | (go_simp; done) | (go_simp; rfl)); intro gb227 hg w10 hbox hb; have n0_ := Aside0.mk (blk_below (g := gb214) (o := .cells #[.int .i64 a1_0, .int .i64 a1_1, .int .i64 a1_2, .int .i64 a1_3, .int .i64 a1_4, .bool a1_5] 24 (0, 0)) (by (with_reducible repeat (first | refine blk_drewN ?_ _ | refine blk_drew ?_ | refine blk_alloc ?_ _)); exact BK214.out) hb); have n1_ := Aside0.mk (below_step (by repeat (first | (with_reducible first | exact HB.out | apply below_alloc | apply pw_below_drewN | apply below_drew1 | refine below_set ?_ GE214.out) | exact HB.out)) hb); have n2_ := Aside0.mk (hbox); have n3_ := Aside0.mk ((by rw [hg]; exact (below_size (by repeat (first | (with_reducible first | exact HB.out | apply below_alloc | apply pw_below_drewN | apply below_drew1 | refine below_set ?_ GE214.out) | exact HB.out))) : w.heap.size ≤ gb227)); have n4_ := Aside0.mk ((by rw [hg]; exact (below_size (by repeat (first | (with_reducible first | exact HB.out | apply below_alloc | apply pw_below_drewN | apply below_drew1 | refine below_set ?_ GE214.out) | exact HB.out))) : w.heap.size ≤ gb227)); have n5_ := Aside0.mk ((by rw [hg]; exact Nat.ne_of_lt (blk_lt (g := gb214) (o := .cells #[.int .i64 a1_0, .int .i64 a1_1, .int .i64 a1_2, .int .i64 a1_3, .int .i64 a1_4, .bool a1_5] 24 (0, 0)) (by (with_reducible repeat (first | refine blk_drewN ?_ _ | refine blk_drew ?_ | refine blk_alloc ?_ _)); exact BK214.out)) : gb214 ≠ gb227)); have n6_ := Aside0.mk ((by rw [hg]; exact Nat.ne_of_gt (blk_lt (g := gb214) (o := .cells #[.int .i64 a1_0, .int .i64 a1_1, .int .i64 a1_2, .int .i64 a1_3, .int .i64 a1_4, .bool a1_5] 24 (0, 0)) (by (with_reducible repeat (first | refine blk_drewN ?_ _ | refine blk_drew ?_ | refine blk_alloc ?_ _)); exact BK214.out)) : gb227 ≠ gb214)); clear BK214; clear HB; have BK214 := n0_; have HB := n1_; have BK227 := n2_; have GW227 := n3_; have GE227 := n4_; have NB214_227 := n5_; have NB227_214 := n6_; clear n0_ n1_ n2_ n3_ n4_ n5_ n6_; clear hb hbox hg; have hnb11 := NB227_214.out; have hnc11 := NB214_227.out; have hcz12_0 : w10.cell? ⟨gb227, 0, none⟩ = some (.int .i64 0) := (blk_cell BK227.out 0).trans rfl; have hcz12_1 : w10.cell? ⟨gb227, 1, none⟩ = some (.int .i64 0) := (blk_cell BK227.out 1).trans rfl; have hcz12_2 : w10.cell? ⟨gb227, 2, none⟩ = some (.int .i64 0) := (blk_cell BK227.out 2).trans rfl; have hcz12_3 : w10.cell? ⟨gb227, 3, none⟩ = some (.int .i64 0) := (blk_cell BK227.out 3).trans rfl; have hcz12_4 : w10.cell? ⟨gb227, 4, none⟩ = some (.int .i64 0) := (blk_cell BK227.out 4).trans rfl; have hcz12_5 : w10.cell? ⟨gb227, 5, none⟩ = some (.int .i64 0) := (blk_cell BK227.out 5).trans rfl; have hcz12_6 : w10.cell? ⟨gb227, 6, none⟩ = some (.int .i64 0) := (blk_cell BK227.out 6).trans rfl; have hcz12_7 : w10.cell? ⟨gb227, 7, none⟩ = some (.int .i64 0) := (blk_cell BK227.out 7).trans rfl; have hcz12_8 : w10.cell? ⟨gb227, 8, none⟩ = some (.int .i64 0) := (blk_cell BK227.out 8).trans rfl; have hcz12_9 : w10.cell? ⟨gb227, 9, none⟩ = some (.int .i64 0) := (blk_cell BK227.out 9).trans rfl; have hcz12_10 : w10.cell? ⟨gb227, 10, none⟩ = some (.int .i64 0) := (blk_cell BK227.out 10).trans rfl; have hcz12_11 : w10.cell? ⟨gb227, 11, none⟩ = some (.slice none 0 0) := (blk_cell BK227.out 11).trans rfl; have hcz12_12 : w10.cell? ⟨gb227, 12, none⟩ = some (.int .i64 0) := (blk_cell BK227.out 12).trans rfl; have hfz12_0 := blk_frozen BK227.out 0; have hfz12_1 := blk_frozen BK227.out 1; have hfz12_2 := blk_frozen BK227.out 2; have hfz12_3 := blk_frozen BK227.out 3; have hfz12_4 := blk_frozen BK227.out 4; have hfz12_5 := blk_frozen BK227.out 5; have hfz12_6 := blk_frozen BK227.out 6; have hfz12_7 := blk_frozen BK227.out 7; have hfz12_8 := blk_frozen BK227.out 8; have hfz12_9 := blk_frozen BK227.out 9; have hfz12_10 := blk_frozen BK227.out 10; have hfz12_11 := blk_frozen BK227.out 11; have hfz12_12 := blk_frozen BK227.out 12) | ((with_reducible refine gate_callee (f := 10) rfl ?_); refine goesL_ (some 16) rfl rfl Try.func10 (by kernel_rfl) rfl #[.agg #[.int .i64 t215, .int .i64 t216, .int .i64 t217, .int .i64 t218, .int .i64 t219, .int .i64 t220, .int .i64 t221, .int .i64 t222, .int .i64 t223, .int .i64 t224, .int .i64 t225, .slice none 0 0, .int .i64 t226]] rfl (by (try simp only [List.map_toArray, List.map_cons, List.map_nil]); first | done | rfl | (simp only [List.length_drop, List.length_take]; rfl)) ?_; (refine (guard_New.made.calls t215 t216 t217 t218 t219 t220 t221 t222 t223 t224 t225 _ _ ([] : List (S85)) t226 t228 t229 t230 t231 t232 t233 t234 t235 t236 t237 t238 t239 t240 t241 t242 t243 t244 t245 t247 w _ ?side1 ?side2 ?side3 A5.out).mono ?_); (case side1 => repeat (first | (with_reducible first | exact HB.out | apply below_alloc | apply pw_below_drewN | apply below_drew1 | refine below_set ?_ GE214.out | refine below_set ?_ GE227.out) | exact HB.out)); (case side2 => exact Kd.C_nil _ _); (case side3 => exact Nat.le_refl _); rintro e w13 ⟨g246, rfl, hi, hb, hb2⟩; refine ⟨_, rfl, ?_⟩; have n0_ := Aside0.mk (blk_below (g := gb214) (o := .cells #[.int .i64 a1_0, .int .i64 a1_1, .int .i64 a1_2, .int .i64 a1_3, .int .i64 a1_4, .bool a1_5] 24 (0, 0)) (by (with_reducible repeat (first | refine blk_drewN ?_ _ | refine blk_drew ?_ | refine blk_alloc ?_ _)); refine blk_far ?_ NB214_227.out _; (with_reducible repeat (first | refine blk_drewN ?_ _ | refine blk_drew ?_ | refine blk_alloc ?_ _)); refine blk_far ?_ NB214_227.out _; (with_reducible repeat (first | refine blk_drewN ?_ _ | refine blk_drew ?_ | refine blk_alloc ?_ _)); refine blk_far ?_ NB214_227.out _; (with_reducible repeat (first | refine blk_drewN ?_ _ | refine blk_drew ?_ | refine blk_alloc ?_ _)); refine blk_far ?_ NB214_227.out _; (with_reducible repeat (first | refine blk_drewN ?_ _ | refine blk_drew ?_ | refine blk_alloc ?_ _)); refine blk_far ?_ NB214_227.out _; (with_reducible repeat (first | refine blk_drewN ?_ _ | refine blk_drew ?_ | refine blk_alloc ?_ _)); refine blk_far ?_ NB214_227.out _; (with_reducible repeat (first | refine blk_drewN ?_ _ | refine blk_drew ?_ | refine blk_alloc ?_ _)); refine blk_far ?_ NB214_227.out _; (with_reducible repeat (first | refine blk_drewN ?_ _ | refine blk_drew ?_ | refine blk_alloc ?_ _)); refine blk_far ?_ NB214_227.out _; (with_reducible repeat (first | refine blk_drewN ?_ _ | refine blk_drew ?_ | refine blk_alloc ?_ _)); refine blk_far ?_ NB214_227.out _; (with_reducible repeat (first | refine blk_drewN ?_ _ | refine blk_drew ?_ | refine blk_alloc ?_ _)); refine blk_far ?_ NB214_227.out _; (with_reducible repeat (first | refine blk_drewN ?_ _ | refine blk_drew ?_ | refine blk_alloc ?_ _)); refine blk_far ?_ NB214_227.out _; (with_reducible repeat (first | refine blk_drewN ?_ _ | refine blk_drew ?_ | refine blk_alloc ?_ _)); refine blk_far ?_ NB214_227.out _; (with_reducible repeat (first | refine blk_drewN ?_ _ | refine blk_drew ?_ | refine blk_alloc ?_ _)); refine blk_far ?_ NB214_227.out _; (with_reducible repeat (first | refine blk_drewN ?_ _ | refine blk_drew ?_ | refine blk_alloc ?_ _)); exact BK214.out) hb2); have n1_ := Aside0.mk (blk_below (g := gb227) (o := .cells #[.int .i64 t215, .int .i64 t216, .int .i64 t217, .int .i64 t218, .int .i64 t219, .int .i64 t220, .int .i64 t221, .int .i64 t222, .int .i64 t223, .int .i64 t224, .int .i64 t225, .slice none 0 0, .int .i64 t226] 27 (0, 0)) (by (with_reducible repeat (first | refine blk_drewN ?_ _ | refine blk_drew ?_ | refine blk_alloc ?_ _)); refine blk_put (cs := #[.int .i64 t215, .int .i64 t216, .int .i64 t217, .int .i64 t218, .int .i64 t219, .int .i64 t220, .int .i64 t221, .int .i64 t222, .int .i64 t223, .int .i64 t224, .int .i64 t225, .slice none 0 0, .int .i64 0]) ?_ 12 _ rfl; (with_reducible repeat (first | refine blk_drewN ?_ _ | refine blk_drew ?_ | refine blk_alloc ?_ _)); refine blk_put (cs := #[.int .i64 t215, .int .i64 t216, .int .i64 t217, .int .i64 t218, .int .i64 t219, .int .i64 t220, .int .i64 t221, .int .i64 t222, .int .i64 t223, .int .i64 t224, .int .i64 t225, .slice none 0 0, .int .i64 0]) ?_ 11 _ rfl; (with_reducible repeat (first | refine blk_drewN ?_ _ | refine blk_drew ?_ | refine blk_alloc ?_ _)); refine blk_put (cs := #[.int .i64 t215, .int .i64 t216, .int .i64 t217, .int .i64 t218, .int .i64 t219, .int .i64 t220, .int .i64 t221, .int .i64 t222, .int .i64 t223, .int .i64 t224, .int .i64 0, .slice none 0 0, .int .i64 0]) ?_ 10 _ rfl; (with_reducible repeat (first | refine blk_drewN ?_ _ | refine blk_drew ?_ | refine blk_alloc ?_ _)); refine blk_put (cs := #[.int .i64 t215, .int .i64 t216, .int .i64 t217, .int .i64 t218, .int .i64 t219, .int .i64 t220, .int .i64 t221, .int .i64 t222, .int .i64 t223, .int .i64 0, .int .i64 0, .slice none 0 0, .int .i64 0]) ?_ 9 _ rfl; (with_reducible repeat (first | refine blk_drewN ?_ _ | refine blk_drew ?_ | refine blk_alloc ?_ _)); refine blk_put (cs := #[.int .i64 t215, .int .i64 t216, .int .i64 t217, .int .i64 t218, .int .i64 t219, .int .i64 t220, .int .i64 t221, .int .i64 t222, .int .i64 0, .int .i64 0, .int .i64 0, .slice none 0 0, .int .i64 0]) ?_ 8 _ rfl; (with_reducible repeat (first | refine blk_drewN ?_ _ | refine blk_drew ?_ | refine blk_alloc ?_ _)); refine blk_put (cs := #[.int .i64 t215, .int .i64 t216, .int .i64 t217, .int .i64 t218, .int .i64 t219, .int .i64 t220, .int .i64 t221, .int .i64 0, .int .i64 0, .int .i64 0, .int .i64 0, .slice none 0 0, .int .i64 0]) ?_ 7 _ rfl; (with_reducible repeat (first | refine blk_drewN ?_ _ | refine blk_drew ?_ | refine blk_alloc ?_ _)); refine blk_put (cs := #[.int .i64 t215, .int .i64 t216, .int .i64 t217, .int .i64 t218, .int .i64 t219, .int .i64 t220, .int .i64 0, .int .i64 0, .int .i64 0, .int .i64 0, .int .i64 0, .slice none 0 0, .int .i64 0]) ?_ 6 _ rfl; (with_reducible repeat (first | refine blk_drewN ?_ _ | refine blk_drew ?_ | refine blk_alloc ?_ _)); refine blk_put (cs := #[.int .i64 t215, .int .i64 t216, .int .i64 t217, .int .i64 t218, .int .i64 t219, .int .i64 0, .int .i64 0, .int .i64 0, .int .i64 0, .int .i64 0, .int .i64 0, .slice none 0 0, .int .i64 0]) ?_ 5 _ rfl; (with_reducible repeat (first | refine blk_drewN ?_ _ | refine blk_drew ?_ | refine blk_alloc ?_ _)); refine blk_put (cs := #[.int .i64 t215, .int .i64 t216, .int .i64 t217, .int .i64 t218, .int .i64 0, .int .i64 0, .int .i64 0, .int .i64 0, .int .i64 0, .int .i64 0, .int .i64 0, .slice none 0 0, .int .i64 0]) ?_ 4 _ rfl; (with_reducible repeat (first | refine blk_drewN ?_ _ | refine blk_drew ?_ | refine blk_alloc ?_ _)); refine blk_put (cs := #[.int .i64 t215, .int .i64 t216, .int .i64 t217, .int .i64 0, .int .i64 0, .int .i64 0, .int .i64 0, .int .i64 0, .int .i64 0, .int .i64 0, .int .i64 0, .slice none 0 0, .int .i64 0]) ?_ 3 _ rfl; (with_reducible repeat (first | refine blk_drewN ?_ _ | refine blk_drew ?_ | refine blk_alloc ?_ _)); refine blk_put (cs := #[.int .i64 t215, .int .i64 t216, .int .i64 0, .int .i64 0, .int .i64 0, .int .i64 0, .int .i64 0, .int .i64 0, .int .i64 0, .int .i64 0, .int .i64 0, .slice none 0 0, .int .i64 0]) ?_ 2 _ rfl; (with_reducible repeat (first | refine blk_drewN ?_ _ | refine blk_drew ?_ | refine blk_alloc ?_ _)); refine blk_put (cs := #[.int .i64 t215, .int .i64 0, .int .i64 0, .int .i64 0, .int .i64 0, .int .i64 0, .int .i64 0, .int .i64 0, .int .i64 0, .int .i64 0, .int .i64 0, .slice none 0 0, .int .i64 0]) ?_ 1 _ rfl; (with_reducible repeat (first | refine blk_drewN ?_ _ | refine blk_drew ?_ | refine blk_alloc ?_ _)); refine blk_put (cs := #[.int .i64 0, .int .i64 0, .int .i64 0, .int .i64 0, .int .i64 0, .int .i64 0, .int .i64 0, .int .i64 0, .int .i64 0, .int .i64 0, .int .i64 0, .slice none 0 0, .int .i64 0]) ?_ 0 _ rfl; (with_reducible repeat (first | refine blk_drewN ?_ _ | refine blk_drew ?_ | refine blk_alloc ?_ _)); exact BK227.out) hb2); have n2_ := Aside0.mk (hb); have n3_ := Aside0.mk (hi); have n4_ := Aside0.mk (IsS48.ne_blk hi (blk_below (g := gb214) (o := .cells #[.int .i64 a1_0, .int .i64 a1_1, .int .i64 a1_2, .int .i64 a1_3, .int .i64 a1_4, .bool a1_5] 24 (0, 0)) (by (with_reducible repeat (first | refine blk_drewN ?_ _ | refine blk_drew ?_ | refine blk_alloc ?_ _)); refine blk_far ?_ NB214_227.out _; (with_reducible repeat (first | refine blk_drewN ?_ _ | refine blk_drew ?_ | refine blk_alloc ?_ _)); refine blk_far ?_ NB214_227.out _; (with_reducible repeat (first | refine blk_drewN ?_ _ | refine blk_drew ?_ | refine blk_alloc ?_ _)); refine blk_far ?_ NB214_227.out _; (with_reducible repeat (first | refine blk_drewN ?_ _ | refine blk_drew ?_ | refine blk_alloc ?_ _)); refine blk_far ?_ NB214_227.out _; (with_reducible repeat (first | refine blk_drewN ?_ _ | refine blk_drew ?_ | refine blk_alloc ?_ _)); refine blk_far ?_ NB214_227.out _; (with_reducible repeat (first | refine blk_drewN ?_ _ | refine blk_drew ?_ | refine blk_alloc ?_ _)); refine blk_far ?_ NB214_227.out _; (with_reducible repeat (first | refine blk_drewN ?_ _ | refine blk_drew ?_ | refine blk_alloc ?_ _)); refine blk_far ?_ NB214_227.out _; (with_reducible repeat (first | refine blk_drewN ?_ _ | refine blk_drew ?_ | refine blk_alloc ?_ _)); refine blk_far ?_ NB214_227.out _; (with_reducible repeat (first | refine blk_drewN ?_ _ | refine blk_drew ?_ | refine blk_alloc ?_ _)); refine blk_far ?_ NB214_227.out _; (with_reducible repeat (first | refine blk_drewN ?_ _ | refine blk_drew ?_ | refine blk_alloc ?_ _)); refine blk_far ?_ NB214_227.out _; (with_reducible repeat (first | refine blk_drewN ?_ _ | refine blk_drew ?_ | refine blk_alloc ?_ _)); refine blk_far ?_ NB214_227.out _; (with_reducible repeat (first | refine blk_drewN ?_ _ | refine blk_drew ?_ | refine blk_alloc ?_ _)); refine blk_far ?_ NB214_227.out _; (with_reducible repeat (first | refine blk_drewN ?_ _ | refine blk_drew ?_ | refine blk_alloc ?_ _)); refine blk_far ?_ NB214_227.out _; (with_reducible repeat (first | refine blk_drewN ?_ _ | refine blk_drew ?_ | refine blk_alloc ?_ _)); exact BK214.out) hb2) (by decide)); have n5_ := Aside0.mk (Ne.symm (IsS48.ne_blk hi (blk_below (g := gb214) (o := .cells #[.int .i64 a1_0, .int .i64 a1_1, .int .i64 a1_2, .int .i64 a1_3, .int .i64 a1_4, .bool a1_5] 24 (0, 0)) (by (with_reducible repeat (first | refine blk_drewN ?_ _ | refine blk_drew ?_ | refine blk_alloc ?_ _)); refine blk_far ?_ NB214_227.out _; (with_reducible repeat (first | refine blk_drewN ?_ _ | refine blk_drew ?_ | refine blk_alloc ?_ _)); refine blk_far ?_ NB214_227.out _; (with_reducible repeat (first | refine blk_drewN ?_ _ | refine blk_drew ?_ | refine blk_alloc ?_ _)); refine blk_far ?_ NB214_227.out _; (with_reducible repeat (first | refine blk_drewN ?_ _ | refine blk_drew ?_ | refine blk_alloc ?_ _)); refine blk_far ?_ NB214_227.out _; (with_reducible repeat (first | refine blk_drewN ?_ _ | refine blk_drew ?_ | refine blk_alloc ?_ _)); refine blk_far ?_ NB214_227.out _; (with_reducible repeat (first | refine blk_drewN ?_ _ | refine blk_drew ?_ | refine blk_alloc ?_ _)); refine blk_far ?_ NB214_227.out _; (with_reducible repeat (first | refine blk_drewN ?_ _ | refine blk_drew ?_ | refine blk_alloc ?_ _)); refine blk_far ?_ NB214_227.out _; (with_reducible repeat (first | refine blk_drewN ?_ _ | refine blk_drew ?_ | refine blk_alloc ?_ _)); refine blk_far ?_ NB214_227.out _; (with_reducible repeat (first | refine blk_drewN ?_ _ | refine blk_drew ?_ | refine blk_alloc ?_ _)); refine blk_far ?_ NB214_227.out _; (with_reducible repeat (first | refine blk_drewN ?_ _ | refine blk_drew ?_ | refine blk_alloc ?_ _)); refine blk_far ?_ NB214_227.out _; (with_reducible repeat (first | refine blk_drewN ?_ _ | refine blk_drew ?_ | refine blk_alloc ?_ _)); refine blk_far ?_ NB214_227.out _; (with_reducible repeat (first | refine blk_drewN ?_ _ | refine blk_drew ?_ | refine blk_alloc ?_ _)); refine blk_far ?_ NB214_227.out _; (with_reducible repeat (first | refine blk_drewN ?_ _ | refine blk_drew ?_ | refine blk_alloc ?_ _)); refine blk_far ?_ NB214_227.out _; (with_reducible repeat (first | refine blk_drewN ?_ _ | refine blk_drew ?_ | refine blk_alloc ?_ _)); exact BK214.out) hb2) (by decide))); have n6_ := Aside0.mk (IsS48.ne_blk hi (blk_below (g := gb227) (o := .cells #[.int .i64 t215, .int .i64 t216, .int .i64 t217, .int .i64 t218, .int .i64 t219, .int .i64 t220, .int .i64 t221, .int .i64 t222, .int .i64 t223, .int .i64 t224, .int .i64 t225, .slice none 0 0, .int .i64 t226] 27 (0, 0)) (by (with_reducible repeat (first | refine blk_drewN ?_ _ | refine blk_drew ?_ | refine blk_alloc ?_ _)); refine blk_put (cs := #[.int .i64 t215, .int .i64 t216, .int .i64 t217, .int .i64 t218, .int .i64 t219, .int .i64 t220, .int .i64 t221, .int .i64 t222, .int .i64 t223, .int .i64 t224, .int .i64 t225, .slice none 0 0, .int .i64 0]) ?_ 12 _ rfl; (with_reducible repeat (first | refine blk_drewN ?_ _ | refine blk_drew ?_ | refine blk_alloc ?_ _)); refine blk_put (cs := #[.int .i64 t215, .int .i64 t216, .int .i64 t217, .int .i64 t218, .int .i64 t219, .int .i64 t220, .int .i64 t221, .int .i64 t222, .int .i64 t223, .int .i64 t224, .int .i64 t225, .slice none 0 0, .int .i64 0]) ?_ 11 _ rfl; (with_reducible repeat (first | refine blk_drewN ?_ _ | refine blk_drew ?_ | refine blk_alloc ?_ _)); refine blk_put (cs := #[.int .i64 t215, .int .i64 t216, .int .i64 t217, .int .i64 t218, .int .i64 t219, .int .i64 t220, .int .i64 t221, .int .i64 t222, .int .i64 t223, .int .i64 t224, .int .i64 0, .slice none 0 0, .int .i64 0]) ?_ 10 _ rfl; (with_reducible repeat (first | refine blk_drewN ?_ _ | refine blk_drew ?_ | refine blk_alloc ?_ _)); refine blk_put (cs := #[.int .i64 t215, .int .i64 t216, .int .i64 t217, .int .i64 t218, .int .i64 t219, .int .i64 t220, .int .i64 t221, .int .i64 t222, .int .i64 t223, .int .i64 0, .int .i64 0, .slice none 0 0, .int .i64 0]) ?_ 9 _ rfl; (with_reducible repeat (first | refine blk_drewN ?_ _ | refine blk_drew ?_ | refine blk_alloc ?_ _)); refine blk_put (cs := #[.int .i64 t215, .int .i64 t216, .int .i64 t217, .int .i64 t218, .int .i64 t219, .int .i64 t220, .int .i64 t221, .int .i64 t222, .int .i64 0, .int .i64 0, .int .i64 0, .slice none 0 0, .int .i64 0]) ?_ 8 _ rfl; (with_reducible repeat (first | refine blk_drewN ?_ _ | refine blk_drew ?_ | refine blk_alloc ?_ _)); refine blk_put (cs := #[.int .i64 t215, .int .i64 t216, .int .i64 t217, .int .i64 t218, .int .i64 t219, .int .i64 t220, .int .i64 t221, .int .i64 0, .int .i64 0, .int .i64 0, .int .i64 0, .slice none 0 0, .int .i64 0]) ?_ 7 _ rfl; (with_reducible repeat (first | refine blk_drewN ?_ _ | refine blk_drew ?_ | refine blk_alloc ?_ _)); refine blk_put (cs := #[.int .i64 t215, .int .i64 t216, .int .i64 t217, .int .i64 t218, .int .i64 t219, .int .i64 t220, .int .i64 0, .int .i64 0, .int .i64 0, .int .i64 0, .int .i64 0, .slice none 0 0, .int .i64 0]) ?_ 6 _ rfl; (with_reducible repeat (first | refine blk_drewN ?_ _ | refine blk_drew ?_ | refine blk_alloc ?_ _)); refine blk_put (cs := #[.int .i64 t215, .int .i64 t216, .int .i64 t217, .int .i64 t218, .int .i64 t219, .int .i64 0, .int .i64 0, .int .i64 0, .int .i64 0, .int .i64 0, .int .i64 0, .slice none 0 0, .int .i64 0]) ?_ 5 _ rfl; (with_reducible repeat (first | refine blk_drewN ?_ _ | refine blk_drew ?_ | refine blk_alloc ?_ _)); refine blk_put (cs := #[.int .i64 t215, .int .i64 t216, .int .i64 t217, .int .i64 t218, .int .i64 0, .int .i64 0, .int .i64 0, .int .i64 0, .int .i64 0, .int .i64 0, .int .i64 0, .slice none 0 0, .int .i64 0]) ?_ 4 _ rfl; (with_reducible repeat (first | refine blk_drewN ?_ _ | refine blk_drew ?_ | refine blk_alloc ?_ _)); refine blk_put (cs := #[.int .i64 t215, .int .i64 t216, .int .i64 t217, .int .i64 0, .int .i64 0, .int .i64 0, .int .i64 0, .int .i64 0, .int .i64 0, .int .i64 0, .int .i64 0, .slice none 0 0, .int .i64 0]) ?_ 3 _ rfl; (with_reducible repeat (first | refine blk_drewN ?_ _ | refine blk_drew ?_ | refine blk_alloc ?_ _)); refine blk_put (cs := #[.int .i64 t215, .int .i64 t216, .int .i64 0, .int .i64 0, .int .i64 0, .int .i64 0, .int .i64 0, .int .i64 0, .int .i64 0, .int .i64 0, .int .i64 0, .slice none 0 0, .int .i64 0]) ?_ 2 _ rfl; (with_reducible repeat (first | refine blk_drewN ?_ _ | refine blk_drew ?_ | refine blk_alloc ?_ _)); refine blk_put (cs := #[.int .i64 t215, .int .i64 0, .int .i64 0, .int .i64 0, .int .i64 0, .int .i64 0, .int .i64 0, .int .i64 0, .int .i64 0, .int .i64 0, .int .i64 0, .slice none 0 0, .int .i64 0]) ?_ 1 _ rfl; (with_reducible repeat (first | refine blk_drewN ?_ _ | refine blk_drew ?_ | refine blk_alloc ?_ _)); refine blk_put (cs := #[.int .i64 0, .int .i64 0, .int .i64 0, .int .i64 0, .int .i64 0, .int .i64 0, .int .i64 0, .int .i64 0, .int .i64 0, .int .i64 0, .int .i64 0, .slice none 0 0, .int .i64 0]) ?_ 0 _ rfl; (with_reducible repeat (first | refine blk_drewN ?_ _ | refine blk_drew ?_ | refine blk_alloc ?_ _)); exact BK227.out) hb2) (by decide)); have n7_ := Aside0.mk (Ne.symm (IsS48.ne_blk hi (blk_below (g := gb227) (o := .cells #[.int .i64 t215, .int .i64 t216, .int .i64 t217, .int .i64 t218, .int .i64 t219, .int .i64 t220, .int .i64 t221, .int .i64 t222, .int .i64 t223, .int .i64 t224, .int .i64 t225, .slice none 0 0, .int .i64 t226] 27 (0, 0)) (by (with_reducible repeat (first | refine blk_drewN ?_ _ | refine blk_drew ?_ | refine blk_alloc ?_ _)); refine blk_put (cs := #[.int .i64 t215, .int .i64 t216, .int .i64 t217, .int .i64 t218, .int .i64 t219, .int .i64 t220, .int .i64 t221, .int .i64 t222, .int .i64 t223, .int .i64 t224, .int .i64 t225, .slice none 0 0, .int .i64 0]) ?_ 12 _ rfl; (with_reducible repeat (first | refine blk_drewN ?_ _ | refine blk_drew ?_ | refine blk_alloc ?_ _)); refine blk_put (cs := #[.int .i64 t215, .int .i64 t216, .int .i64 t217, .int .i64 t218, .int .i64 t219, .int .i64 t220, .int .i64 t221, .int .i64 t222, .int .i64 t223, .int .i64 t224, .int .i64 t225, .slice none 0 0, .int .i64 0]) ?_ 11 _ rfl; (with_reducible repeat (first | refine blk_drewN ?_ _ | refine blk_drew ?_ | refine blk_alloc ?_ _)); refine blk_put (cs := #[.int .i64 t215, .int .i64 t216, .int .i64 t217, .int .i64 t218, .int .i64 t219, .int .i64 t220, .int .i64 t221, .int .i64 t222, .int .i64 t223, .int .i64 t224, .int .i64 0, .slice none 0 0, .int .i64 0]) ?_ 10 _ rfl; (with_reducible repeat (first | refine blk_drewN ?_ _ | refine blk_drew ?_ | refine blk_alloc ?_ _)); refine blk_put (cs := #[.int .i64 t215, .int .i64 t216, .int .i64 t217, .int .i64 t218, .int .i64 t219, .int .i64 t220, .int .i64 t221, .int .i64 t222, .int .i64 t223, .int .i64 0, .int .i64 0, .slice none 0 0, .int .i64 0]) ?_ 9 _ rfl; (with_reducible repeat (first | refine blk_drewN ?_ _ | refine blk_drew ?_ | refine blk_alloc ?_ _)); refine blk_put (cs := #[.int .i64 t215, .int .i64 t216, .int .i64 t217, .int .i64 t218, .int .i64 t219, .int .i64 t220, .int .i64 t221, .int .i64 t222, .int .i64 0, .int .i64 0, .int .i64 0, .slice none 0 0, .int .i64 0]) ?_ 8 _ rfl; (with_reducible repeat (first | refine blk_drewN ?_ _ | refine blk_drew ?_ | refine blk_alloc ?_ _)); refine blk_put (cs := #[.int .i64 t215, .int .i64 t216, .int .i64 t217, .int .i64 t218, .int .i64 t219, .int .i64 t220, .int .i64 t221, .int .i64 0, .int .i64 0, .int .i64 0, .int .i64 0, .slice none 0 0, .int .i64 0]) ?_ 7 _ rfl; (with_reducible repeat (first | refine blk_drewN ?_ _ | refine blk_drew ?_ | refine blk_alloc ?_ _)); refine blk_put (cs := #[.int .i64 t215, .int .i64 t216, .int .i64 t217, .int .i64 t218, .int .i64 t219, .int .i64 t220, .int .i64 0, .int .i64 0, .int .i64 0, .int .i64 0, .int .i64 0, .slice none 0 0, .int .i64 0]) ?_ 6 _ rfl; (with_reducible repeat (first | refine blk_drewN ?_ _ | refine blk_drew ?_ | refine blk_alloc ?_ _)); refine blk_put (cs := #[.int .i64 t215, .int .i64 t216, .int .i64 t217, .int .i64 t218, .int .i64 t219, .int .i64 0, .int .i64 0, .int .i64 0, .int .i64 0, .int .i64 0, .int .i64 0, .slice none 0 0, .int .i64 0]) ?_ 5 _ rfl; (with_reducible repeat (first | refine blk_drewN ?_ _ | refine blk_drew ?_ | refine blk_alloc ?_ _)); refine blk_put (cs := #[.int .i64 t215, .int .i64 t216, .int .i64 t217, .int .i64 t218, .int .i64 0, .int .i64 0, .int .i64 0, .int .i64 0, .int .i64 0, .int .i64 0, .int .i64 0, .slice none 0 0, .int .i64 0]) ?_ 4 _ rfl; (with_reducible repeat (first | refine blk_drewN ?_ _ | refine blk_drew ?_ | refine blk_alloc ?_ _)); refine blk_put (cs := #[.int .i64 t215, .int .i64 t216, .int .i64 t217, .int .i64 0, .int .i64 0, .int .i64 0, .int .i64 0, .int .i64 0, .int .i64 0, .int .i64 0, .int .i64 0, .slice none 0 0, .int .i64 0]) ?_ 3 _ rfl; (with_reducible repeat (first | refine blk_drewN ?_ _ | refine blk_drew ?_ | refine blk_alloc ?_ _)); refine blk_put (cs := #[.int .i64 t215, .int .i64 t216, .int .i64 0, .int .i64 0, .int .i64 0, .int .i64 0, .int .i64 0, .int .i64 0, .int .i64 0, .int .i64 0, .int .i64 0, .slice none 0 0, .int .i64 0]) ?_ 2 _ rfl; (with_reducible repeat (first | refine blk_drewN ?_ _ | refine blk_drew ?_ | refine blk_alloc ?_ _)); refine blk_put (cs := #[.int .i64 t215, .int .i64 0, .int .i64 0, .int .i64 0, .int .i64 0, .int .i64 0, .int .i64 0, .int .i64 0, .int .i64 0, .int .i64 0, .int .i64 0, .slice none 0 0, .int .i64 0]) ?_ 1 _ rfl; (with_reducible repeat (first | refine blk_drewN ?_ _ | refine blk_drew ?_ | refine blk_alloc ?_ _)); refine blk_put (cs := #[.int .i64 0, .int .i64 0, .int .i64 0, .int .i64 0, .int .i64 0, .int .i64 0, .int .i64 0, .int .i64 0, .int .i64 0, .int .i64 0, .int .i64 0, .slice none 0 0, .int .i64 0]) ?_ 0 _ rfl; (with_reducible repeat (first | refine blk_drewN ?_ _ | refine blk_drew ?_ | refine blk_alloc ?_ _)); exact BK227.out) hb2) (by decide))); clear BK214; clear BK227; clear HB; have BK214 := n0_; have BK227 := n1_; have HB := n2_; have HI246 := n3_; have NB246_214 := n4_; have NB214_246 := n5_; have NB246_227 := n6_; have NB227_246 := n7_; clear n0_ n1_ n2_ n3_ n4_ n5_ n6_ n7_; (try clear hb); (try clear hb2); (try clear hk); (try clear hi)))
   (try simp only [Act.put, List.setIfInBounds_toArray, List.set_cons_zero, List.set_cons_succ])
   go_cut [] (fun wc => ∃ (kq : Nat) (x247000_6 : Int) (x247001_6 : Int) (x247002_6 : Int) (x247003_6 : Int) (x247004_6 : Int) (x247005_6 : Int) (x247006_6 : Int) (x247007_6 : Int) (x247008_6 : Int) (x247009_6 : Int) (x247010_6 : Int) (x247012_6 : Int) (x247013_6 : Int) (x247014_6 : Int) (x247015_6 : Int) (x247016_6 : Bool) (x247017_6 : Bool), Aside0 (flywheellaw28_GuardBrakes.j1 kq a1_0 a1_1 a1_2 a1_3 a1_4 a1_5 t215 t216 t217 t218 t219 t220 t221 t222 t223 t224 t225 t226 x247000_6 x247001_6 x247002_6 x247003_6 x247004_6 x247005_6 x247006_6 x247007_6 x247008_6 x247009_6 x247010_6 t239 x247012_6 x247013_6 x247014_6 x247015_6 x247016_6 x247017_6 = some r) ∧ Aside0 (kq ≤ k) ∧ Aside0 (wc.heap[gb214]? = some (.cells #[.int .i64 a1_0, .int .i64 a1_1, .int .i64 a1_2, .int .i64 a1_3, .int .i64 a1_4, .bool a1_5] 24 (0, 0))) ∧ Aside0 (wc.heap[gb227]? = some (.cells #[.int .i64 t215, .int .i64 t216, .int .i64 t217, .int .i64 t218, .int .i64 t219, .int .i64 t220, .int .i64 t221, .int .i64 t222, .int .i64 t223, .int .i64 t224, .int .i64 t225, (.slice none 0 0), .int .i64 t226] 27 (0, 0))) ∧ Aside0 (IsS48 w wc g246 x247000_6 x247001_6 x247002_6 x247003_6 x247004_6 x247005_6 x247006_6 x247007_6 x247008_6 x247009_6 x247010_6 t239 x247012_6 x247013_6 x247014_6 x247015_6 x247016_6 x247017_6) ∧ Aside0 (Below w.heap.size w wc))
   case first =>
    have H := HC7.out
    clear HC7
    have H' := Aside0.mk H
    clear H
    go_wp2
    go_loopg [8] k (fun kq v8 w' => ∃ (x8_1 : Int) (x247000_1 : Int) (x247001_1 : Int) (x247002_1 : Int) (x247003_1 : Int) (x247004_1 : Int) (x247005_1 : Int) (x247006_1 : Int) (x247007_1 : Int) (x247008_1 : Int) (x247009_1 : Int) (x247010_1 : Int) (x247012_1 : Int) (x247013_1 : Int) (x247014_1 : Int) (x247015_1 : Int) (x247016_1 : Bool) (x247017_1 : Bool), v8 = .int .i64 x8_1 ∧ Aside0 (flywheellaw28_GuardBrakes.l0 kq l0 x8_1 a1_0 a1_1 a1_2 a1_3 a1_4 a1_5 t215 t216 t217 t218 t219 t220 t221 t222 t223 t224 t225 t226 x247000_1 x247001_1 x247002_1 x247003_1 x247004_1 x247005_1 x247006_1 x247007_1 x247008_1 x247009_1 x247010_1 t239 x247012_1 x247013_1 x247014_1 x247015_1 x247016_1 x247017_1 = some r) ∧ Aside0 (kq ≤ k) ∧ Aside0 (w'.heap[gb214]? = some (.cells #[.int .i64 a1_0, .int .i64 a1_1, .int .i64 a1_2, .int .i64 a1_3, .int .i64 a1_4, .bool a1_5] 24 (0, 0))) ∧ Aside0 (w'.heap[gb227]? = some (.cells #[.int .i64 t215, .int .i64 t216, .int .i64 t217, .int .i64 t218, .int .i64 t219, .int .i64 t220, .int .i64 t221, .int .i64 t222, .int .i64 t223, .int .i64 t224, .int .i64 t225, (.slice none 0 0), .int .i64 t226] 27 (0, 0))) ∧ Aside0 (IsS48 w w' g246 x247000_1 x247001_1 x247002_1 x247003_1 x247004_1 x247005_1 x247006_1 x247007_1 x247008_1 x247009_1 x247010_1 t239 x247012_1 x247013_1 x247014_1 x247015_1 x247016_1 x247017_1) ∧ Aside0 (Below w.heap.size w w'))
    case atStart => exact ⟨(0), (t228), (t229), (t230), (t231), (t232), (t233), (t234), (t235), (t236), (t237), (t238), (t240), (t241), (t242), (t243), (t244), (t245), (by first | rfl | (simp; done) | (simp [*]; done)), H', ⟨Nat.le_refl _⟩, ⟨by (with_reducible repeat (first | refine blk_drewN ?_ _ | refine blk_drew ?_ | refine blk_alloc ?_ _)); exact BK214.out⟩, ⟨by (with_reducible repeat (first | refine blk_drewN ?_ _ | refine blk_drew ?_ | refine blk_alloc ?_ _)); exact BK227.out⟩, ⟨by repeat (first | (with_reducible first | exact HI246.out | apply IsS48.alloc | apply IsS48.drewN | apply IsS48.drew | apply IsS48.set_0 | apply IsS48.set_1 | apply IsS48.set_2 | apply IsS48.set_3 | apply IsS48.set_4 | apply IsS48.set_5 | apply IsS48.set_6 | apply IsS48.set_7 | apply IsS48.set_8 | apply IsS48.set_9 | apply IsS48.set_10 | apply IsS48.set_12 | apply IsS48.set_13 | apply IsS48.set_14 | apply IsS48.set_15 | apply IsS48.set_16 | apply IsS48.set_17 | refine IsS48.far ?_ NB246_214.out _ | refine IsS48.far ?_ NB246_227.out _) | exact HI246.out)⟩, ⟨by repeat (first | (with_reducible first | exact HB.out | apply below_alloc | apply pw_below_drewN | apply below_drew1 | refine below_set ?_ (IsS48.ge HI246.out) | refine below_set ?_ GE214.out | refine below_set ?_ GE227.out) | exact HB.out)⟩⟩
    case round =>
     clear H'
     try clear c1
     try clear p2
     try clear c3
     try clear c4
     try clear c4b0
     try clear c6
     try clear c6b0
     try clear c6b1
     try clear c9
     try clear c10
     try clear c11
     try clear hcz12_0
     try clear hcz12_1
     try clear hcz12_10
     try clear hcz12_11
     try clear hcz12_12
     try clear hcz12_2
     try clear hcz12_3
     try clear hcz12_4
     try clear hcz12_5
     try clear hcz12_6
     try clear hcz12_7
     try clear hcz12_8
     try clear hcz12_9
     try clear hfz12_0
     try clear hfz12_1
     try clear hfz12_10
     try clear hfz12_11
     try clear hfz12_12
     try clear hfz12_2
     try clear hfz12_3
     try clear hfz12_4
     try clear hfz12_5
     try clear hfz12_6
     try clear hfz12_7
     try clear hfz12_8
     try clear hfz12_9
     obtain ⟨x8_1, x247000_1, x247001_1, x247002_1, x247003_1, x247004_1, x247005_1, x247006_1, x247007_1, x247008_1, x247009_1, x247010_1, x247012_1, x247013_1, x247014_1, x247015_1, x247016_1, x247017_1, rfl, HA, HK1, BK214, BK227, HI246, HB⟩ := hrel
     cases gk with
     | zero => exact absurd HA.out (by simp [flywheellaw28_GuardBrakes.l0])
     | succ k1 =>
      have H := HA.out
      clear HA
      simp only [flywheellaw28_GuardBrakes.l0] at H
      by_cases c14 : x8_1 < (l0.length : Int)
      ·rw [if_pos c14] at H
       have c14b0 : decide (x8_1 < (l0.length : Int)) = true := decide_eq_true c14
       clear c14
       (first | rw [c14b0] | (simp only [i64_w, i32_w]; rw [c14b0]) | skip)
       by_cases c15 : x8_1 < 100
       ·rw [if_pos c15] at H
        have c15b0 : decide (x8_1 < 100) = true := decide_eq_true c15
        clear c15
        by_cases c16 : 0 ≤ x8_1
        ·rw [if_pos c16] at H
         have c16b0 : decide (0 ≤ x8_1) = true := decide_eq_true c16
         clear c16
         replace H := Option.bind_eq_some_iff.mp H
         obtain ⟨⟨t253, t254, t255, t256, t257, t258, t259, t260, t261, t262, t263, t264, t265, t266, t267, t268, t269, t270⟩, A170, H⟩ := H
         replace H : (flywheellaw28_GuardBrakes.l0 k1 l0 (wrap64 (x8_1 + 1)) a1_0 a1_1 a1_2 a1_3 a1_4 a1_5 t215 t216 t217 t218 t219 t220 t221 t222 t223 t224 t225 t226 t254 t255 t256 t257 t258 t259 t260 t261 t262 t263 t264 t239 t265 t266 t267 t268 t269 t270) = some r := H
         have A17 := Aside0.mk A170
         clear A170
         have H' := Aside0.mk H
         clear H
         try go_wp2
         have n0_ := Aside0.mk (blk_drew BK214.out)
         have n1_ := Aside0.mk (blk_drew BK227.out)
         have n2_ := Aside0.mk (IsS48.drew HI246.out)
         have n3_ := Aside0.mk (below_drew1 HB.out)
         clear BK214
         clear BK227
         clear HI246
         clear HB
         have BK214 := n0_
         have BK227 := n1_
         have HI246 := n2_
         have HB := n3_
         clear n0_ n1_ n2_ n3_
         have p248 : 0 ≤ (x8_1 : Int) := of_decide_eq_true (by first | (with_reducible assumption) | assumption)
         have q248 : x8_1 < (l0.length : Int) := of_decide_eq_true (by first | (with_reducible assumption) | assumption)
         obtain ⟨ad248, e248, hx248_0, hx248_1, hx248_2, hx248_3, hx248_4, hx248_5⟩ := at_T24 HR0.out x8_1 p248 q248
         have hw248_5 := hx248_5
         have hw248_4 := hx248_4
         have hw248_3 := hx248_3
         have hw248_2 := hx248_2
         have hw248_1 := hx248_1
         have hw248_0 := hx248_0
         cases e248
         replace hx248_0 := (HB.out.cell (World.block_lt_of_cell? w _ hx248_0)).trans hx248_0
         replace hx248_1 := (HB.out.cell (World.block_lt_of_cell? w _ hx248_1)).trans hx248_1
         replace hx248_2 := (HB.out.cell (World.block_lt_of_cell? w _ hx248_2)).trans hx248_2
         replace hx248_3 := (HB.out.cell (World.block_lt_of_cell? w _ hx248_3)).trans hx248_3
         replace hx248_4 := (HB.out.cell (World.block_lt_of_cell? w _ hx248_4)).trans hx248_4
         replace hx248_5 := (HB.out.cell (World.block_lt_of_cell? w _ hx248_5)).trans hx248_5
         replace p248 := eq_true p248
         replace q248 := eq_true q248
         have p249 : 0 ≤ (x8_1 : Int) := of_decide_eq_true (by first | (with_reducible assumption) | assumption)
         have q249 : x8_1 < (l0.length : Int) := of_decide_eq_true (by first | (with_reducible assumption) | assumption)
         obtain ⟨ad249, e249, hx249_0, hx249_1, hx249_2, hx249_3, hx249_4, hx249_5⟩ := at_T24 HR0.out x8_1 p249 q249
         have hw249_5 := hx249_5
         have hw249_4 := hx249_4
         have hw249_3 := hx249_3
         have hw249_2 := hx249_2
         have hw249_1 := hx249_1
         have hw249_0 := hx249_0
         obtain rfl : ad248 = ad249 := (by injection e249)
         replace hx249_0 := (HB.out.cell (World.block_lt_of_cell? w _ hx249_0)).trans hx249_0
         replace hx249_1 := (HB.out.cell (World.block_lt_of_cell? w _ hx249_1)).trans hx249_1
         replace hx249_2 := (HB.out.cell (World.block_lt_of_cell? w _ hx249_2)).trans hx249_2
         replace hx249_3 := (HB.out.cell (World.block_lt_of_cell? w _ hx249_3)).trans hx249_3
         replace hx249_4 := (HB.out.cell (World.block_lt_of_cell? w _ hx249_4)).trans hx249_4
         replace hx249_5 := (HB.out.cell (World.block_lt_of_cell? w _ hx249_5)).trans hx249_5
         replace p249 := eq_true p249
         replace q249 := eq_true q249
         have p250 : 0 ≤ (x8_1 : Int) := of_decide_eq_true (by first | (with_reducible assumption) | assumption)
         have q250 : x8_1 < (l0.length : Int) := of_decide_eq_true (by first | (with_reducible assumption) | assumption)
         obtain ⟨ad250, e250, hx250_0, hx250_1, hx250_2, hx250_3, hx250_4, hx250_5⟩ := at_T24 HR0.out x8_1 p250 q250
         have hw250_5 := hx250_5
         have hw250_4 := hx250_4
         have hw250_3 := hx250_3
         have hw250_2 := hx250_2
         have hw250_1 := hx250_1
         have hw250_0 := hx250_0
         obtain rfl : ad248 = ad250 := (by injection e250)
         replace hx250_0 := (HB.out.cell (World.block_lt_of_cell? w _ hx250_0)).trans hx250_0
         replace hx250_1 := (HB.out.cell (World.block_lt_of_cell? w _ hx250_1)).trans hx250_1
         replace hx250_2 := (HB.out.cell (World.block_lt_of_cell? w _ hx250_2)).trans hx250_2
         replace hx250_3 := (HB.out.cell (World.block_lt_of_cell? w _ hx250_3)).trans hx250_3
         replace hx250_4 := (HB.out.cell (World.block_lt_of_cell? w _ hx250_4)).trans hx250_4
         replace hx250_5 := (HB.out.cell (World.block_lt_of_cell? w _ hx250_5)).trans hx250_5
         replace p250 := eq_true p250
         replace q250 := eq_true q250
         have p251 : 0 ≤ (x8_1 : Int) := of_decide_eq_true (by first | (with_reducible assumption) | assumption)
         have q251 : x8_1 < (l0.length : Int) := of_decide_eq_true (by first | (with_reducible assumption) | assumption)
         obtain ⟨ad251, e251, hx251_0, hx251_1, hx251_2, hx251_3, hx251_4, hx251_5⟩ := at_T24 HR0.out x8_1 p251 q251
         have hw251_5 := hx251_5
         have hw251_4 := hx251_4
         have hw251_3 := hx251_3
         have hw251_2 := hx251_2
         have hw251_1 := hx251_1
         have hw251_0 := hx251_0
         obtain rfl : ad248 = ad251 := (by injection e251)
         replace hx251_0 := (HB.out.cell (World.block_lt_of_cell? w _ hx251_0)).trans hx251_0
         replace hx251_1 := (HB.out.cell (World.block_lt_of_cell? w _ hx251_1)).trans hx251_1
         replace hx251_2 := (HB.out.cell (World.block_lt_of_cell? w _ hx251_2)).trans hx251_2
         replace hx251_3 := (HB.out.cell (World.block_lt_of_cell? w _ hx251_3)).trans hx251_3
         replace hx251_4 := (HB.out.cell (World.block_lt_of_cell? w _ hx251_4)).trans hx251_4
         replace hx251_5 := (HB.out.cell (World.block_lt_of_cell? w _ hx251_5)).trans hx251_5
         replace p251 := eq_true p251
         replace q251 := eq_true q251
         have p252 : 0 ≤ (x8_1 : Int) := of_decide_eq_true (by first | (with_reducible assumption) | assumption)
         have q252 : x8_1 < (l0.length : Int) := of_decide_eq_true (by first | (with_reducible assumption) | assumption)
         obtain ⟨ad252, e252, hx252_0, hx252_1, hx252_2, hx252_3, hx252_4, hx252_5⟩ := at_T24 HR0.out x8_1 p252 q252
         have hw252_5 := hx252_5
         have hw252_4 := hx252_4
         have hw252_3 := hx252_3
         have hw252_2 := hx252_2
         have hw252_1 := hx252_1
         have hw252_0 := hx252_0
         obtain rfl : ad248 = ad252 := (by injection e252)
         replace hx252_0 := (HB.out.cell (World.block_lt_of_cell? w _ hx252_0)).trans hx252_0
         replace hx252_1 := (HB.out.cell (World.block_lt_of_cell? w _ hx252_1)).trans hx252_1
         replace hx252_2 := (HB.out.cell (World.block_lt_of_cell? w _ hx252_2)).trans hx252_2
         replace hx252_3 := (HB.out.cell (World.block_lt_of_cell? w _ hx252_3)).trans hx252_3
         replace hx252_4 := (HB.out.cell (World.block_lt_of_cell? w _ hx252_4)).trans hx252_4
         replace hx252_5 := (HB.out.cell (World.block_lt_of_cell? w _ hx252_5)).trans hx252_5
         replace p252 := eq_true p252
         replace q252 := eq_true q252
         refine start_ (n := 27) (S := fun w' => w'.cell? (ad248.add ((x8_1).toNat * 6)) = some (.int .i64 ((rd_T24 l0 x8_1).f0)) ∧ w'.cell? ⟨(ad248.add ((x8_1).toNat * 6)).block, (ad248.add ((x8_1).toNat * 6)).off + 1, none⟩ = some (.int .i64 ((rd_T24 l0 x8_1).f1)) ∧ w'.cell? ⟨(ad248.add ((x8_1).toNat * 6)).block, (ad248.add ((x8_1).toNat * 6)).off + 2, none⟩ = some (.int .i64 ((rd_T24 l0 x8_1).f2)) ∧ w'.cell? ⟨(ad248.add ((x8_1).toNat * 6)).block, (ad248.add ((x8_1).toNat * 6)).off + 3, none⟩ = some (.int .i64 ((rd_T24 l0 x8_1).f3)) ∧ w'.cell? ⟨(ad248.add ((x8_1).toNat * 6)).block, (ad248.add ((x8_1).toNat * 6)).off + 4, none⟩ = some (.int .i64 ((rd_T24 l0 x8_1).f4)) ∧ w'.cell? ⟨(ad248.add ((x8_1).toNat * 6)).block, (ad248.add ((x8_1).toNat * 6)).off + 5, none⟩ = some (.bool ((rd_T24 l0 x8_1).f5)) ∧ w'.cell? (ad248.add ((x8_1).toNat * 6)) = some (.int .i64 ((rd_T24 l0 x8_1).f0)) ∧ w'.cell? ⟨(ad248.add ((x8_1).toNat * 6)).block, (ad248.add ((x8_1).toNat * 6)).off + 1, none⟩ = some (.int .i64 ((rd_T24 l0 x8_1).f1)) ∧ w'.cell? ⟨(ad248.add ((x8_1).toNat * 6)).block, (ad248.add ((x8_1).toNat * 6)).off + 2, none⟩ = some (.int .i64 ((rd_T24 l0 x8_1).f2)) ∧ w'.cell? ⟨(ad248.add ((x8_1).toNat * 6)).block, (ad248.add ((x8_1).toNat * 6)).off + 3, none⟩ = some (.int .i64 ((rd_T24 l0 x8_1).f3)) ∧ w'.cell? ⟨(ad248.add ((x8_1).toNat * 6)).block, (ad248.add ((x8_1).toNat * 6)).off + 4, none⟩ = some (.int .i64 ((rd_T24 l0 x8_1).f4)) ∧ w'.cell? ⟨(ad248.add ((x8_1).toNat * 6)).block, (ad248.add ((x8_1).toNat * 6)).off + 5, none⟩ = some (.bool ((rd_T24 l0 x8_1).f5)) ∧ w'.cell? (ad248.add ((x8_1).toNat * 6)) = some (.int .i64 ((rd_T24 l0 x8_1).f0)) ∧ w'.cell? ⟨(ad248.add ((x8_1).toNat * 6)).block, (ad248.add ((x8_1).toNat * 6)).off + 1, none⟩ = some (.int .i64 ((rd_T24 l0 x8_1).f1)) ∧ w'.cell? ⟨(ad248.add ((x8_1).toNat * 6)).block, (ad248.add ((x8_1).toNat * 6)).off + 2, none⟩ = some (.int .i64 ((rd_T24 l0 x8_1).f2)) ∧ w'.cell? ⟨(ad248.add ((x8_1).toNat * 6)).block, (ad248.add ((x8_1).toNat * 6)).off + 3, none⟩ = some (.int .i64 ((rd_T24 l0 x8_1).f3)) ∧ w'.cell? ⟨(ad248.add ((x8_1).toNat * 6)).block, (ad248.add ((x8_1).toNat * 6)).off + 4, none⟩ = some (.int .i64 ((rd_T24 l0 x8_1).f4)) ∧ w'.cell? ⟨(ad248.add ((x8_1).toNat * 6)).block, (ad248.add ((x8_1).toNat * 6)).off + 5, none⟩ = some (.bool ((rd_T24 l0 x8_1).f5)) ∧ w'.cell? (ad248.add ((x8_1).toNat * 6)) = some (.int .i64 ((rd_T24 l0 x8_1).f0)) ∧ w'.cell? ⟨(ad248.add ((x8_1).toNat * 6)).block, (ad248.add ((x8_1).toNat * 6)).off + 1, none⟩ = some (.int .i64 ((rd_T24 l0 x8_1).f1)) ∧ w'.cell? ⟨(ad248.add ((x8_1).toNat * 6)).block, (ad248.add ((x8_1).toNat * 6)).off + 2, none⟩ = some (.int .i64 ((rd_T24 l0 x8_1).f2)) ∧ w'.cell? ⟨(ad248.add ((x8_1).toNat * 6)).block, (ad248.add ((x8_1).toNat * 6)).off + 3, none⟩ = some (.int .i64 ((rd_T24 l0 x8_1).f3)) ∧ w'.cell? ⟨(ad248.add ((x8_1).toNat * 6)).block, (ad248.add ((x8_1).toNat * 6)).off + 4, none⟩ = some (.int .i64 ((rd_T24 l0 x8_1).f4)) ∧ w'.cell? ⟨(ad248.add ((x8_1).toNat * 6)).block, (ad248.add ((x8_1).toNat * 6)).off + 5, none⟩ = some (.bool ((rd_T24 l0 x8_1).f5)) ∧ w'.cell? (ad248.add ((x8_1).toNat * 6)) = some (.int .i64 ((rd_T24 l0 x8_1).f0)) ∧ w'.cell? ⟨(ad248.add ((x8_1).toNat * 6)).block, (ad248.add ((x8_1).toNat * 6)).off + 1, none⟩ = some (.int .i64 ((rd_T24 l0 x8_1).f1)) ∧ w'.cell? ⟨(ad248.add ((x8_1).toNat * 6)).block, (ad248.add ((x8_1).toNat * 6)).off + 2, none⟩ = some (.int .i64 ((rd_T24 l0 x8_1).f2)) ∧ w'.cell? ⟨(ad248.add ((x8_1).toNat * 6)).block, (ad248.add ((x8_1).toNat * 6)).off + 3, none⟩ = some (.int .i64 ((rd_T24 l0 x8_1).f3)) ∧ w'.cell? ⟨(ad248.add ((x8_1).toNat * 6)).block, (ad248.add ((x8_1).toNat * 6)).off + 4, none⟩ = some (.int .i64 ((rd_T24 l0 x8_1).f4)) ∧ w'.cell? ⟨(ad248.add ((x8_1).toNat * 6)).block, (ad248.add ((x8_1).toNat * 6)).off + 5, none⟩ = some (.bool ((rd_T24 l0 x8_1).f5))) (ds := []) #[false, false, false, false, false, false, false, false, false, false, false, false, false, false, false, false, false, false, false, false, false, false, false, false, false, false, false] (by kernel_rfl) rfl rfl ⟨((HB.out.cell (World.block_lt_of_cell? w _ hw248_0)).trans hw248_0), ((HB.out.cell (World.block_lt_of_cell? w _ hw248_1)).trans hw248_1), ((HB.out.cell (World.block_lt_of_cell? w _ hw248_2)).trans hw248_2), ((HB.out.cell (World.block_lt_of_cell? w _ hw248_3)).trans hw248_3), ((HB.out.cell (World.block_lt_of_cell? w _ hw248_4)).trans hw248_4), ((HB.out.cell (World.block_lt_of_cell? w _ hw248_5)).trans hw248_5), ((HB.out.cell (World.block_lt_of_cell? w _ hw249_0)).trans hw249_0), ((HB.out.cell (World.block_lt_of_cell? w _ hw249_1)).trans hw249_1), ((HB.out.cell (World.block_lt_of_cell? w _ hw249_2)).trans hw249_2), ((HB.out.cell (World.block_lt_of_cell? w _ hw249_3)).trans hw249_3), ((HB.out.cell (World.block_lt_of_cell? w _ hw249_4)).trans hw249_4), ((HB.out.cell (World.block_lt_of_cell? w _ hw249_5)).trans hw249_5), ((HB.out.cell (World.block_lt_of_cell? w _ hw250_0)).trans hw250_0), ((HB.out.cell (World.block_lt_of_cell? w _ hw250_1)).trans hw250_1), ((HB.out.cell (World.block_lt_of_cell? w _ hw250_2)).trans hw250_2), ((HB.out.cell (World.block_lt_of_cell? w _ hw250_3)).trans hw250_3), ((HB.out.cell (World.block_lt_of_cell? w _ hw250_4)).trans hw250_4), ((HB.out.cell (World.block_lt_of_cell? w _ hw250_5)).trans hw250_5), ((HB.out.cell (World.block_lt_of_cell? w _ hw251_0)).trans hw251_0), ((HB.out.cell (World.block_lt_of_cell? w _ hw251_1)).trans hw251_1), ((HB.out.cell (World.block_lt_of_cell? w _ hw251_2)).trans hw251_2), ((HB.out.cell (World.block_lt_of_cell? w _ hw251_3)).trans hw251_3), ((HB.out.cell (World.block_lt_of_cell? w _ hw251_4)).trans hw251_4), ((HB.out.cell (World.block_lt_of_cell? w _ hw251_5)).trans hw251_5), ((HB.out.cell (World.block_lt_of_cell? w _ hw252_0)).trans hw252_0), ((HB.out.cell (World.block_lt_of_cell? w _ hw252_1)).trans hw252_1), ((HB.out.cell (World.block_lt_of_cell? w _ hw252_2)).trans hw252_2), ((HB.out.cell (World.block_lt_of_cell? w _ hw252_3)).trans hw252_3), ((HB.out.cell (World.block_lt_of_cell? w _ hw252_4)).trans hw252_4), ((HB.out.cell (World.block_lt_of_cell? w _ hw252_5)).trans hw252_5)⟩ (fun hHeld => ?_); refine with_tabW flywheellaw28_GuardBrakes.tab8 flywheellaw28_GuardBrakes.bits8 (fun HT_ HW_ => ?_)
         generalize wr.drew = w18 at BK214 BK227 HI246 HB hx248_0 hx248_1 hx248_2 hx248_3 hx248_4 hx248_5 hx249_0 hx249_1 hx249_2 hx249_3 hx249_4 hx249_5 hx250_0 hx250_1 hx250_2 hx250_3 hx250_4 hx250_5 hx251_0 hx251_1 hx251_2 hx251_3 hx251_4 hx251_5 hx252_0 hx252_1 hx252_2 hx252_3 hx252_4 hx252_5 hHeld ⊢
         refine pure_ (i := 0) (N := some 31) (v := ?_) (a' := ?_) #[true, false, false, false, false, false, false, false, false, false, false, false, false, false, false, false, false, false, false, false, false, false, false, false, false, false, false] rfl rfl (any_of HT_.out (by kernel_rfl)) (fun _ _ _ h => h) (Or.inl ⟨by rfl, ?_⟩) ?_ ?_
         rotate_left
         ·intro w'
          go_simp
          with_reducible rfl
         rotate_left
         ·simp only [Act.put, List.setIfInBounds_toArray, List.set_cons_zero, List.set_cons_succ, i64_w, i32_w]
          rfl
         refine pure_ (i := 1) (N := some 32) (v := ?_) (a' := ?_) #[true, true, false, false, false, false, false, false, false, false, false, false, false, false, false, false, false, false, false, false, false, false, false, false, false, false, false] rfl rfl (any_of HT_.out (by kernel_rfl)) (fun _ _ _ h => h) (Or.inl ⟨by rfl, ?_⟩) ?_ ?_
         rotate_left
         ·intro w'
          go_simp
          with_reducible rfl
         rotate_left
         ·simp only [Act.put, List.setIfInBounds_toArray, List.set_cons_zero, List.set_cons_succ, i64_w, i32_w]
          rfl
         refine pure_ (i := 2) (N := some 33) (v := ?_) (a' := ?_) #[true, true, true, false, false, false, false, false, false, false, false, false, false, false, false, false, false, false, false, false, false, false, false, false, false, false, false] rfl rfl (any_of HT_.out (by kernel_rfl)) (fun _ _ _ h => h) (Or.inl ⟨by rfl, ?_⟩) ?_ ?_
         rotate_left
         ·intro w'
          go_simp
          with_reducible rfl
         rotate_left
         ·simp only [Act.put, List.setIfInBounds_toArray, List.set_cons_zero, List.set_cons_succ, i64_w, i32_w]
          rfl
         refine pure_ (i := 3) (N := some 34) (v := ?_) (a' := ?_) #[true, true, true, true, false, false, false, false, false, false, false, false, false, false, false, false, false, false, false, false, false, false, false, false, false, false, false] rfl rfl (any_of HT_.out (by kernel_rfl)) (fun _ _ _ h => h) (Or.inl ⟨by rfl, ?_⟩) ?_ ?_
         rotate_left
         ·intro w'
          go_simp
          with_reducible rfl
         rotate_left
         ·simp only [Act.put, List.setIfInBounds_toArray, List.set_cons_zero, List.set_cons_succ, i64_w, i32_w]
          rfl
         refine pure_ (i := 4) (N := some 35) (v := ?_) (a' := ?_) #[true, true, true, true, true, false, false, false, false, false, false, false, false, false, false, false, false, false, false, false, false, false, false, false, false, false, false] rfl rfl (any_of HT_.out (by kernel_rfl)) (fun _ _ _ h => h) (Or.inl ⟨by rfl, ?_⟩) ?_ ?_
         rotate_left
         ·intro w'
          go_simp
          with_reducible rfl
         rotate_left
         ·simp only [Act.put, List.setIfInBounds_toArray, List.set_cons_zero, List.set_cons_succ, i64_w, i32_w]
          rfl
         refine pure_ (i := 6) (N := some 37) (v := ?_) (a' := ?_) #[true, true, true, true, true, false, true, false, false, false, false, false, false, false, false, false, false, false, false, false, false, false, false, false, false, false, false] rfl rfl (any_of HT_.out (by kernel_rfl)) (fun _ _ _ h => h) (Or.inl ⟨by rfl, ?_⟩) ?_ ?_
         rotate_left
         ·intro w'
          go_simp
          with_reducible rfl
         rotate_left
         ·simp only [Act.put, List.setIfInBounds_toArray, List.set_cons_zero, List.set_cons_succ, i64_w, i32_w]
          rfl
         refine pure_ (i := 7) (N := some 38) (v := ?_) (a' := ?_) #[true, true, true, true, true, false, true, true, false, false, false, false, false, false, false, false, false, false, false, false, false, false, false, false, false, false, false] rfl rfl (any_of HT_.out (by kernel_rfl)) (fun _ _ _ h => h) (Or.inl ⟨by rfl, ?_⟩) ?_ ?_
         rotate_left
         ·intro w'
          go_simp
          with_reducible rfl
         rotate_left
         ·simp only [Act.put, List.setIfInBounds_toArray, List.set_cons_zero, List.set_cons_succ, i64_w, i32_w]
          rfl
         refine pure_ (i := 8) (N := some 39) (v := ?_) (a' := ?_) #[true, true, true, true, true, false, true, true, true, false, false, false, false, false, false, false, false, false, false, false, false, false, false, false, false, false, false] rfl rfl (any_of HT_.out (by kernel_rfl)) (fun _ _ _ h => h) (Or.inl ⟨by rfl, ?_⟩) ?_ ?_
         rotate_left
         ·intro w'
          go_simp
          with_reducible rfl
         rotate_left
         ·simp only [Act.put, List.setIfInBounds_toArray, List.set_cons_zero, List.set_cons_succ, i64_w, i32_w]
          rfl
         refine pure_ (i := 9) (N := some 40) (v := ?_) (a' := ?_) #[true, true, true, true, true, false, true, true, true, true, false, false, false, false, false, false, false, false, false, false, false, false, false, false, false, false, false] rfl rfl (any_of HT_.out (by kernel_rfl)) (fun _ _ _ h => h) (Or.inl ⟨by rfl, ?_⟩) ?_ ?_
         rotate_left
         ·intro w'
          go_simp
          with_reducible rfl
         rotate_left
         ·simp only [Act.put, List.setIfInBounds_toArray, List.set_cons_zero, List.set_cons_succ, i64_w, i32_w]
          rfl
         refine pure_ (i := 11) (N := some 42) (v := ?_) (a' := ?_) #[true, true, true, true, true, false, true, true, true, true, false, true, false, false, false, false, false, false, false, false, false, false, false, false, false, false, false] rfl rfl (any_of HT_.out (by kernel_rfl)) (fun _ _ _ h => h) (Or.inl ⟨by rfl, ?_⟩) ?_ ?_
         rotate_left
         ·intro w'
          go_simp
          with_reducible rfl
         rotate_left
         ·simp only [Act.put, List.setIfInBounds_toArray, List.set_cons_zero, List.set_cons_succ, i64_w, i32_w]
          rfl
         refine pure_ (i := 12) (N := some 43) (v := ?_) (a' := ?_) #[true, true, true, true, true, false, true, true, true, true, false, true, true, false, false, false, false, false, false, false, false, false, false, false, false, false, false] rfl rfl (any_of HT_.out (by kernel_rfl)) (fun _ _ _ h => h) (Or.inl ⟨by rfl, ?_⟩) ?_ ?_
         rotate_left
         ·intro w'
          go_simp
          with_reducible rfl
         rotate_left
         ·simp only [Act.put, List.setIfInBounds_toArray, List.set_cons_zero, List.set_cons_succ, i64_w, i32_w]
          rfl
         refine pure_ (i := 13) (N := some 44) (v := ?_) (a' := ?_) #[true, true, true, true, true, false, true, true, true, true, false, true, true, true, false, false, false, false, false, false, false, false, false, false, false, false, false] rfl rfl (any_of HT_.out (by kernel_rfl)) (fun _ _ _ h => h) (Or.inl ⟨by rfl, ?_⟩) ?_ ?_
         rotate_left
         ·intro w'
          go_simp
          with_reducible rfl
         rotate_left
         ·simp only [Act.put, List.setIfInBounds_toArray, List.set_cons_zero, List.set_cons_succ, i64_w, i32_w]
          rfl
         refine pure_ (i := 14) (N := some 45) (v := ?_) (a' := ?_) #[true, true, true, true, true, false, true, true, true, true, false, true, true, true, true, false, false, false, false, false, false, false, false, false, false, false, false] rfl rfl (any_of HT_.out (by kernel_rfl)) (fun _ _ _ h => h) (Or.inl ⟨by rfl, ?_⟩) ?_ ?_
         rotate_left
         ·intro w'
          go_simp
          with_reducible rfl
         rotate_left
         ·simp only [Act.put, List.setIfInBounds_toArray, List.set_cons_zero, List.set_cons_succ, i64_w, i32_w]
          rfl
         refine pure_ (i := 16) (N := some 47) (v := ?_) (a' := ?_) #[true, true, true, true, true, false, true, true, true, true, false, true, true, true, true, false, true, false, false, false, false, false, false, false, false, false, false] rfl rfl (any_of HT_.out (by kernel_rfl)) (fun _ _ _ h => h) (Or.inl ⟨by rfl, ?_⟩) ?_ ?_
         rotate_left
         ·intro w'
          go_simp
          with_reducible rfl
         rotate_left
         ·simp only [Act.put, List.setIfInBounds_toArray, List.set_cons_zero, List.set_cons_succ, i64_w, i32_w]
          rfl
         refine pure_ (i := 17) (N := some 48) (v := ?_) (a' := ?_) #[true, true, true, true, true, false, true, true, true, true, false, true, true, true, true, false, true, true, false, false, false, false, false, false, false, false, false] rfl rfl (any_of HT_.out (by kernel_rfl)) (fun _ _ _ h => h) (Or.inl ⟨by rfl, ?_⟩) ?_ ?_
         rotate_left
         ·intro w'
          go_simp
          with_reducible rfl
         rotate_left
         ·simp only [Act.put, List.setIfInBounds_toArray, List.set_cons_zero, List.set_cons_succ, i64_w, i32_w]
          rfl
         refine pure_ (i := 18) (N := some 49) (v := ?_) (a' := ?_) #[true, true, true, true, true, false, true, true, true, true, false, true, true, true, true, false, true, true, true, false, false, false, false, false, false, false, false] rfl rfl (any_of HT_.out (by kernel_rfl)) (fun _ _ _ h => h) (Or.inl ⟨by rfl, ?_⟩) ?_ ?_
         rotate_left
         ·intro w'
          go_simp
          with_reducible rfl
         rotate_left
         ·simp only [Act.put, List.setIfInBounds_toArray, List.set_cons_zero, List.set_cons_succ, i64_w, i32_w]
          rfl
         refine pure_ (i := 19) (N := some 50) (v := ?_) (a' := ?_) #[true, true, true, true, true, false, true, true, true, true, false, true, true, true, true, false, true, true, true, true, false, false, false, false, false, false, false] rfl rfl (any_of HT_.out (by kernel_rfl)) (fun _ _ _ h => h) (Or.inl ⟨by rfl, ?_⟩) ?_ ?_
         rotate_left
         ·intro w'
          go_simp
          with_reducible rfl
         rotate_left
         ·simp only [Act.put, List.setIfInBounds_toArray, List.set_cons_zero, List.set_cons_succ, i64_w, i32_w]
          rfl
         refine pure_ (i := 21) (N := some 52) (v := ?_) (a' := ?_) #[true, true, true, true, true, false, true, true, true, true, false, true, true, true, true, false, true, true, true, true, false, true, false, false, false, false, false] rfl rfl (any_of HT_.out (by kernel_rfl)) (fun _ _ _ h => h) (Or.inl ⟨by rfl, ?_⟩) ?_ ?_
         rotate_left
         ·intro w'
          go_simp
          with_reducible rfl
         rotate_left
         ·simp only [Act.put, List.setIfInBounds_toArray, List.set_cons_zero, List.set_cons_succ, i64_w, i32_w]
          rfl
         refine pure_ (i := 22) (N := some 53) (v := ?_) (a' := ?_) #[true, true, true, true, true, false, true, true, true, true, false, true, true, true, true, false, true, true, true, true, false, true, true, false, false, false, false] rfl rfl (any_of HT_.out (by kernel_rfl)) (fun _ _ _ h => h) (Or.inl ⟨by rfl, ?_⟩) ?_ ?_
         rotate_left
         ·intro w'
          go_simp
          with_reducible rfl
         rotate_left
         ·simp only [Act.put, List.setIfInBounds_toArray, List.set_cons_zero, List.set_cons_succ, i64_w, i32_w]
          rfl
         refine pure_ (i := 23) (N := some 54) (v := ?_) (a' := ?_) #[true, true, true, true, true, false, true, true, true, true, false, true, true, true, true, false, true, true, true, true, false, true, true, true, false, false, false] rfl rfl (any_of HT_.out (by kernel_rfl)) (fun _ _ _ h => h) (Or.inl ⟨by rfl, ?_⟩) ?_ ?_
         rotate_left
         ·intro w'
          go_simp
          with_reducible rfl
         rotate_left
         ·simp only [Act.put, List.setIfInBounds_toArray, List.set_cons_zero, List.set_cons_succ, i64_w, i32_w]
          rfl
         refine pure_ (i := 24) (N := some 55) (v := ?_) (a' := ?_) #[true, true, true, true, true, false, true, true, true, true, false, true, true, true, true, false, true, true, true, true, false, true, true, true, true, false, false] rfl rfl (any_of HT_.out (by kernel_rfl)) (fun _ _ _ h => h) (Or.inl ⟨by rfl, ?_⟩) ?_ ?_
         rotate_left
         ·intro w'
          go_simp
          with_reducible rfl
         rotate_left
         ·simp only [Act.put, List.setIfInBounds_toArray, List.set_cons_zero, List.set_cons_succ, i64_w, i32_w]
          rfl
         refine take_ (i := 5) (N := some 36) (v := ?_) (a' := ?_) #[true, true, true, true, true, true, true, true, true, true, false, true, true, true, true, false, true, true, true, true, false, true, true, true, true, false, false] rfl rfl (take_ofW HT_.out HW_.out (by kernel_rfl)) (fun _ _ _ h => h) (Or.inl ⟨by rfl, ?_⟩) hHeld ?_ ?_
         rotate_left
         ·rintro w' ⟨s0, s1, s2, s3, s4, s5, s6, s7, s8, s9, s10, s11, s12, s13, s14, s15, s16, s17, s18, s19, s20, s21, s22, s23, s24, s25, s26, s27, s28, s29⟩
          go_simp
          with_reducible rfl
         rotate_left
         ·simp only [Act.put, List.setIfInBounds_toArray, List.set_cons_zero, List.set_cons_succ, i64_w, i32_w]
          rfl
         refine take_ (i := 10) (N := some 41) (v := ?_) (a' := ?_) #[true, true, true, true, true, true, true, true, true, true, true, true, true, true, true, false, true, true, true, true, false, true, true, true, true, false, false] rfl rfl (take_ofW HT_.out HW_.out (by kernel_rfl)) (fun _ _ _ h => h) (Or.inl ⟨by rfl, ?_⟩) hHeld ?_ ?_
         rotate_left
         ·rintro w' ⟨s0, s1, s2, s3, s4, s5, s6, s7, s8, s9, s10, s11, s12, s13, s14, s15, s16, s17, s18, s19, s20, s21, s22, s23, s24, s25, s26, s27, s28, s29⟩
          go_simp
          with_reducible rfl
         rotate_left
         ·simp only [Act.put, List.setIfInBounds_toArray, List.set_cons_zero, List.set_cons_succ, i64_w, i32_w]
          rfl
         refine take_ (i := 15) (N := some 46) (v := ?_) (a' := ?_) #[true, true, true, true, true, true, true, true, true, true, true, true, true, true, true, true, true, true, true, true, false, true, true, true, true, false, false] rfl rfl (take_ofW HT_.out HW_.out (by kernel_rfl)) (fun _ _ _ h => h) (Or.inl ⟨by rfl, ?_⟩) hHeld ?_ ?_
         rotate_left
         ·rintro w' ⟨s0, s1, s2, s3, s4, s5, s6, s7, s8, s9, s10, s11, s12, s13, s14, s15, s16, s17, s18, s19, s20, s21, s22, s23, s24, s25, s26, s27, s28, s29⟩
          go_simp
          with_reducible rfl
         rotate_left
         ·simp only [Act.put, List.setIfInBounds_toArray, List.set_cons_zero, List.set_cons_succ, i64_w, i32_w]
          rfl
         refine take_ (i := 20) (N := some 51) (v := ?_) (a' := ?_) #[true, true, true, true, true, true, true, true, true, true, true, true, true, true, true, true, true, true, true, true, true, true, true, true, true, false, false] rfl rfl (take_ofW HT_.out HW_.out (by kernel_rfl)) (fun _ _ _ h => h) (Or.inl ⟨by rfl, ?_⟩) hHeld ?_ ?_
         rotate_left
         ·rintro w' ⟨s0, s1, s2, s3, s4, s5, s6, s7, s8, s9, s10, s11, s12, s13, s14, s15, s16, s17, s18, s19, s20, s21, s22, s23, s24, s25, s26, s27, s28, s29⟩
          go_simp
          with_reducible rfl
         rotate_left
         ·simp only [Act.put, List.setIfInBounds_toArray, List.set_cons_zero, List.set_cons_succ, i64_w, i32_w]
          rfl
         refine take_ (i := 25) (N := some 56) (v := ?_) (a' := ?_) #[true, true, true, true, true, true, true, true, true, true, true, true, true, true, true, true, true, true, true, true, true, true, true, true, true, true, false] rfl rfl (take_ofW HT_.out HW_.out (by kernel_rfl)) (fun _ _ _ h => h) (Or.inl ⟨by rfl, ?_⟩) hHeld ?_ ?_
         rotate_left
         ·rintro w' ⟨s0, s1, s2, s3, s4, s5, s6, s7, s8, s9, s10, s11, s12, s13, s14, s15, s16, s17, s18, s19, s20, s21, s22, s23, s24, s25, s26, s27, s28, s29⟩
          go_simp
          with_reducible rfl
         rotate_left
         ·simp only [Act.put, List.setIfInBounds_toArray, List.set_cons_zero, List.set_cons_succ, i64_w, i32_w]
          rfl
         refine one_ (i := 26) (N := some 57) #[true, true, true, true, true, true, true, true, true, true, true, true, true, true, true, true, true, true, true, true, true, true, true, true, true, true, true] rfl rfl (one_of HT_.out (by kernel_rfl)) (by decide) (fun K hK => ?_)
         refine goes_ Try.func11 (by kernel_rfl) rfl #[.pointer (some ⟨g246, 0, none⟩), .int .i64 ((rd_T24 l0 x8_1).f1), .int .i64 ((rd_T24 l0 x8_1).f2), .int .i64 ((rd_T24 l0 x8_1).f3), .bool ((rd_T24 l0 x8_1).f5), .int .i64 ((rd_T24 l0 x8_1).f4)] (by rfl) rfl rfl (by (try simp only [List.map_toArray, List.map_cons, List.map_nil]); first | done | rfl | (simp only [List.length_drop, List.length_take]; rfl)) ?_
         with_reducible refine (guard_Guard_Hear.calls g246 x247000_1 x247001_1 x247002_1 x247003_1 x247004_1 x247005_1 x247006_1 x247007_1 x247008_1 x247009_1 x247010_1 t239 x247012_1 x247013_1 x247014_1 x247015_1 x247016_1 x247017_1 ((rd_T24 l0 x8_1).f1) ((rd_T24 l0 x8_1).f2) ((rd_T24 l0 x8_1).f3) ((rd_T24 l0 x8_1).f5) ((rd_T24 l0 x8_1).f4) t253 t254 t255 t256 t257 t258 t259 t260 t261 t262 t263 t264 t265 t266 t267 t268 t269 t270 w _ ?side1 ?side2 A17.out).mono ?_
         (case side1 => repeat (first | (with_reducible first | exact HI246.out | apply IsS48.alloc | apply IsS48.drewN | apply IsS48.drew | apply IsS48.set_0 | apply IsS48.set_1 | apply IsS48.set_2 | apply IsS48.set_3 | apply IsS48.set_4 | apply IsS48.set_5 | apply IsS48.set_6 | apply IsS48.set_7 | apply IsS48.set_8 | apply IsS48.set_9 | apply IsS48.set_10 | apply IsS48.set_12 | apply IsS48.set_13 | apply IsS48.set_14 | apply IsS48.set_15 | apply IsS48.set_16 | apply IsS48.set_17 | refine IsS48.far ?_ NB246_214.out _ | refine IsS48.far ?_ NB246_227.out _) | exact HI246.out))
         (case side2 => repeat (first | (with_reducible first | exact HB.out | apply below_alloc | apply pw_below_drewN | apply below_drew1 | refine below_set ?_ (IsS48.ge HI246.out) | refine below_set ?_ GE214.out | refine below_set ?_ GE227.out) | exact HB.out))
         rintro e w19 ⟨rfl, hi, hb, hk⟩
         refine ⟨_, rfl, ?_⟩
         have n0_ := Aside0.mk (KeepBut.blk hk (g' := gb214) (o := .cells #[.int .i64 a1_0, .int .i64 a1_1, .int .i64 a1_2, .int .i64 a1_3, .int .i64 a1_4, .bool a1_5] 24 (0, 0)) (by (with_reducible repeat (first | refine blk_drewN ?_ _ | refine blk_drew ?_ | refine blk_alloc ?_ _)); exact BK214.out) NB214_246.out (by simp))
         have n1_ := Aside0.mk (KeepBut.blk hk (g' := gb227) (o := .cells #[.int .i64 t215, .int .i64 t216, .int .i64 t217, .int .i64 t218, .int .i64 t219, .int .i64 t220, .int .i64 t221, .int .i64 t222, .int .i64 t223, .int .i64 t224, .int .i64 t225, .slice none 0 0, .int .i64 t226] 27 (0, 0)) (by (with_reducible repeat (first | refine blk_drewN ?_ _ | refine blk_drew ?_ | refine blk_alloc ?_ _)); exact BK227.out) NB227_246.out (by simp))
         have n2_ := Aside0.mk (hb)
         have n3_ := Aside0.mk (hi)
         clear BK214
         clear BK227
         clear HB
         clear HI246
         have BK214 := n0_
         have BK227 := n1_
         have HB := n2_
         have HI246 := n3_
         clear n0_ n1_ n2_ n3_
         (try clear hb)
         (try clear hb2)
         (try clear hk)
         (try clear hi)
         refine hK.out _ _ ⟨((HB.out.cell (World.block_lt_of_cell? w _ hw248_0)).trans hw248_0), ((HB.out.cell (World.block_lt_of_cell? w _ hw248_1)).trans hw248_1), ((HB.out.cell (World.block_lt_of_cell? w _ hw248_2)).trans hw248_2), ((HB.out.cell (World.block_lt_of_cell? w _ hw248_3)).trans hw248_3), ((HB.out.cell (World.block_lt_of_cell? w _ hw248_4)).trans hw248_4), ((HB.out.cell (World.block_lt_of_cell? w _ hw248_5)).trans hw248_5), ((HB.out.cell (World.block_lt_of_cell? w _ hw249_0)).trans hw249_0), ((HB.out.cell (World.block_lt_of_cell? w _ hw249_1)).trans hw249_1), ((HB.out.cell (World.block_lt_of_cell? w _ hw249_2)).trans hw249_2), ((HB.out.cell (World.block_lt_of_cell? w _ hw249_3)).trans hw249_3), ((HB.out.cell (World.block_lt_of_cell? w _ hw249_4)).trans hw249_4), ((HB.out.cell (World.block_lt_of_cell? w _ hw249_5)).trans hw249_5), ((HB.out.cell (World.block_lt_of_cell? w _ hw250_0)).trans hw250_0), ((HB.out.cell (World.block_lt_of_cell? w _ hw250_1)).trans hw250_1), ((HB.out.cell (World.block_lt_of_cell? w _ hw250_2)).trans hw250_2), ((HB.out.cell (World.block_lt_of_cell? w _ hw250_3)).trans hw250_3), ((HB.out.cell (World.block_lt_of_cell? w _ hw250_4)).trans hw250_4), ((HB.out.cell (World.block_lt_of_cell? w _ hw250_5)).trans hw250_5), ((HB.out.cell (World.block_lt_of_cell? w _ hw251_0)).trans hw251_0), ((HB.out.cell (World.block_lt_of_cell? w _ hw251_1)).trans hw251_1), ((HB.out.cell (World.block_lt_of_cell? w _ hw251_2)).trans hw251_2), ((HB.out.cell (World.block_lt_of_cell? w _ hw251_3)).trans hw251_3), ((HB.out.cell (World.block_lt_of_cell? w _ hw251_4)).trans hw251_4), ((HB.out.cell (World.block_lt_of_cell? w _ hw251_5)).trans hw251_5), ((HB.out.cell (World.block_lt_of_cell? w _ hw252_0)).trans hw252_0), ((HB.out.cell (World.block_lt_of_cell? w _ hw252_1)).trans hw252_1), ((HB.out.cell (World.block_lt_of_cell? w _ hw252_2)).trans hw252_2), ((HB.out.cell (World.block_lt_of_cell? w _ hw252_3)).trans hw252_3), ((HB.out.cell (World.block_lt_of_cell? w _ hw252_4)).trans hw252_4), ((HB.out.cell (World.block_lt_of_cell? w _ hw252_5)).trans hw252_5)⟩ (fun hHeld => ?_)
         clear hK K
         refine norm_ (a' := ?_) ?_ ?_
         rotate_left
         ·show Act.put _ (some 57) _ = _
          simp only [Act.put, List.setIfInBounds_toArray, List.set_cons_zero, List.set_cons_succ, i64_w, i32_w]
          rfl
         refine done_ (done_of HT_.out (by kernel_rfl)) ?_
         try go_wp2
         go_roundg k1
         case measure => have := HK1.out; omega
         case rel => exact ⟨(wrap64 (x8_1 + 1)), (t254), (t255), (t256), (t257), (t258), (t259), (t260), (t261), (t262), (t263), (t264), (t265), (t266), (t267), (t268), (t269), (t270), (by first | rfl | (simp; done) | (simp [*]; done)), H', ⟨by have := HK1.out; omega⟩, ⟨by (with_reducible repeat (first | refine blk_drewN ?_ _ | refine blk_drew ?_ | refine blk_alloc ?_ _)); exact BK214.out⟩, ⟨by (with_reducible repeat (first | refine blk_drewN ?_ _ | refine blk_drew ?_ | refine blk_alloc ?_ _)); exact BK227.out⟩, ⟨by repeat (first | (with_reducible first | exact HI246.out | apply IsS48.alloc | apply IsS48.drewN | apply IsS48.drew | apply IsS48.set_0 | apply IsS48.set_1 | apply IsS48.set_2 | apply IsS48.set_3 | apply IsS48.set_4 | apply IsS48.set_5 | apply IsS48.set_6 | apply IsS48.set_7 | apply IsS48.set_8 | apply IsS48.set_9 | apply IsS48.set_10 | apply IsS48.set_12 | apply IsS48.set_13 | apply IsS48.set_14 | apply IsS48.set_15 | apply IsS48.set_16 | apply IsS48.set_17 | refine IsS48.far ?_ NB246_214.out _ | refine IsS48.far ?_ NB246_227.out _) | exact HI246.out)⟩, ⟨by repeat (first | (with_reducible first | exact HB.out | apply below_alloc | apply pw_below_drewN | apply below_drew1 | refine below_set ?_ (IsS48.ge HI246.out) | refine below_set ?_ GE214.out | refine below_set ?_ GE227.out) | exact HB.out)⟩⟩
        ·rw [if_neg c16] at H
         exact absurd H (by simp)
       ·rw [if_neg c15] at H
        have c15b0 : decide (x8_1 < 100) = false := decide_eq_false c15
        clear c15
        have H' := Aside0.mk H
        clear H
        go_wp2
        go_meet
        case rel => exact ⟨_, (x247000_1), (x247001_1), (x247002_1), (x247003_1), (x247004_1), (x247005_1), (x247006_1), (x247007_1), (x247008_1), (x247009_1), (x247010_1), (x247012_1), (x247013_1), (x247014_1), (x247015_1), (x247016_1), (x247017_1), H', ⟨by have := HK1.out; first | omega | exact Nat.le_refl _⟩, ⟨by (with_reducible repeat (first | refine blk_drewN ?_ _ | refine blk_drew ?_ | refine blk_alloc ?_ _)); exact BK214.out⟩, ⟨by (with_reducible repeat (first | refine blk_drewN ?_ _ | refine blk_drew ?_ | refine blk_alloc ?_ _)); exact BK227.out⟩, ⟨by repeat (first | (with_reducible first | exact HI246.out | apply IsS48.alloc | apply IsS48.drewN | apply IsS48.drew | apply IsS48.set_0 | apply IsS48.set_1 | apply IsS48.set_2 | apply IsS48.set_3 | apply IsS48.set_4 | apply IsS48.set_5 | apply IsS48.set_6 | apply IsS48.set_7 | apply IsS48.set_8 | apply IsS48.set_9 | apply IsS48.set_10 | apply IsS48.set_12 | apply IsS48.set_13 | apply IsS48.set_14 | apply IsS48.set_15 | apply IsS48.set_16 | apply IsS48.set_17 | refine IsS48.far ?_ NB246_214.out _ | refine IsS48.far ?_ NB246_227.out _) | exact HI246.out)⟩, ⟨by repeat (first | (with_reducible first | exact HB.out | apply below_alloc | apply pw_below_drewN | apply below_drew1 | refine below_set ?_ (IsS48.ge HI246.out) | refine below_set ?_ GE214.out | refine below_set ?_ GE227.out) | exact HB.out)⟩⟩
      ·rw [if_neg c14] at H
       have c14b0 : decide (x8_1 < (l0.length : Int)) = false := decide_eq_false c14
       clear c14
       (first | rw [c14b0] | (simp only [i64_w, i32_w]; rw [c14b0]) | skip)
       have H' := Aside0.mk H
       clear H
       go_wp2
       go_meet
       case rel => exact ⟨_, (x247000_1), (x247001_1), (x247002_1), (x247003_1), (x247004_1), (x247005_1), (x247006_1), (x247007_1), (x247008_1), (x247009_1), (x247010_1), (x247012_1), (x247013_1), (x247014_1), (x247015_1), (x247016_1), (x247017_1), H', ⟨by have := HK1.out; first | omega | exact Nat.le_refl _⟩, ⟨by (with_reducible repeat (first | refine blk_drewN ?_ _ | refine blk_drew ?_ | refine blk_alloc ?_ _)); exact BK214.out⟩, ⟨by (with_reducible repeat (first | refine blk_drewN ?_ _ | refine blk_drew ?_ | refine blk_alloc ?_ _)); exact BK227.out⟩, ⟨by repeat (first | (with_reducible first | exact HI246.out | apply IsS48.alloc | apply IsS48.drewN | apply IsS48.drew | apply IsS48.set_0 | apply IsS48.set_1 | apply IsS48.set_2 | apply IsS48.set_3 | apply IsS48.set_4 | apply IsS48.set_5 | apply IsS48.set_6 | apply IsS48.set_7 | apply IsS48.set_8 | apply IsS48.set_9 | apply IsS48.set_10 | apply IsS48.set_12 | apply IsS48.set_13 | apply IsS48.set_14 | apply IsS48.set_15 | apply IsS48.set_16 | apply IsS48.set_17 | refine IsS48.far ?_ NB246_214.out _ | refine IsS48.far ?_ NB246_227.out _) | exact HI246.out)⟩, ⟨by repeat (first | (with_reducible first | exact HB.out | apply below_alloc | apply pw_below_drewN | apply below_drew1 | refine below_set ?_ (IsS48.ge HI246.out) | refine below_set ?_ GE214.out | refine below_set ?_ GE227.out) | exact HB.out)⟩⟩
   case rest =>
    clear HC7
    try clear c1
    try clear p2
    try clear q2
    try clear hx2
    try clear c3
    try clear c4
    try clear c4b0
    try clear c6
    try clear c6b0
    try clear c6b1
    try clear p6
    try clear c9
    try clear c10
    try clear c11
    try clear c14
    try clear c14b0
    try clear c15
    try clear c15b0
    try clear c16
    try clear c16b0
    try clear hcz12_0
    try clear hcz12_1
    try clear hcz12_10
    try clear hcz12_11
    try clear hcz12_12
    try clear hcz12_2
    try clear hcz12_3
    try clear hcz12_4
    try clear hcz12_5
    try clear hcz12_6
    try clear hcz12_7
    try clear hcz12_8
    try clear hcz12_9
    try clear hfz12_0
    try clear hfz12_1
    try clear hfz12_10
    try clear hfz12_11
    try clear hfz12_12
    try clear hfz12_2
    try clear hfz12_3
    try clear hfz12_4
    try clear hfz12_5
    try clear hfz12_6
    try clear hfz12_7
    try clear hfz12_8
    try clear hfz12_9
    try clear hx248_0
    try clear hx248_1
    try clear hx248_2
    try clear hx248_3
    try clear hx248_4
    try clear hx248_5
    try clear hx249_0
    try clear hx249_1
    try clear hx249_2
    try clear hx249_3
    try clear hx249_4
    try clear hx249_5
    try clear hx250_0
    try clear hx250_1
    try clear hx250_2
    try clear hx250_3
    try clear hx250_4
    try clear hx250_5
    try clear hx251_0
    try clear hx251_1
    try clear hx251_2
    try clear hx251_3
    try clear hx251_4
    try clear hx251_5
    try clear hx252_0
    try clear hx252_1
    try clear hx252_2
    try clear hx252_3
    try clear hx252_4
    try clear hx252_5
    try clear p2
    try clear p248
    try clear p249
    try clear p250
    try clear p251
    try clear p252
    try clear q248
    try clear q249
    try clear q250
    try clear q251
    try clear q252
    obtain ⟨kq, x247000_6, x247001_6, x247002_6, x247003_6, x247004_6, x247005_6, x247006_6, x247007_6, x247008_6, x247009_6, x247010_6, x247012_6, x247013_6, x247014_6, x247015_6, x247016_6, x247017_6, HA, HJ6, BK214, BK227, HI246, HB⟩ := hcut
    cases kq with
    | zero => exact absurd HA.out (by simp [flywheellaw28_GuardBrakes.j1])
    | succ kj6 =>
     have H := HA.out
     clear HA
     simp only [flywheellaw28_GuardBrakes.j1] at H
     replace H := Option.bind_eq_some_iff.mp H
     obtain ⟨t271, A200, H⟩ := H
     replace H : ((guard_Guard_Hear.f x247000_6 x247001_6 x247002_6 x247003_6 x247004_6 x247005_6 x247006_6 x247007_6 x247008_6 x247009_6 x247010_6 t239 x247012_6 x247013_6 x247014_6 x247015_6 x247016_6 x247017_6 a1_1 (wrap64 (t219 + 1)) t271 a1_5 a1_4).bind fun bt272 => ((guard_Guard_Brakes.f bt272.2.1 bt272.2.2.1 bt272.2.2.2.1 bt272.2.2.2.2.1 bt272.2.2.2.2.2.1 bt272.2.2.2.2.2.2.1 bt272.2.2.2.2.2.2.2.1 bt272.2.2.2.2.2.2.2.2.1 bt272.2.2.2.2.2.2.2.2.2.1 bt272.2.2.2.2.2.2.2.2.2.2.1 bt272.2.2.2.2.2.2.2.2.2.2.2.1 t239 bt272.2.2.2.2.2.2.2.2.2.2.2.2.1 bt272.2.2.2.2.2.2.2.2.2.2.2.2.2.1 bt272.2.2.2.2.2.2.2.2.2.2.2.2.2.2.1 bt272.2.2.2.2.2.2.2.2.2.2.2.2.2.2.2.1 bt272.2.2.2.2.2.2.2.2.2.2.2.2.2.2.2.2.1 bt272.2.2.2.2.2.2.2.2.2.2.2.2.2.2.2.2.2).bind fun bt290 => (if bt290.1 = true then (flywheellaw28_GuardBrakes.j2 kj6 t271 (decide (bt272.1 > (mx t216 (wrap64 (Int.tdiv (wrap64 (t271 * 7)) 8))))) a1_0 a1_1 a1_2 a1_3 a1_4 a1_5 t215 t216 t217 t218 t219 t220 t221 t222 t223 t224 t225 t226 bt290.2.1 bt290.2.2.1 bt290.2.2.2.1 bt290.2.2.2.2.1 bt290.2.2.2.2.2.1 bt290.2.2.2.2.2.2.1 bt290.2.2.2.2.2.2.2.1 bt290.2.2.2.2.2.2.2.2.1 bt290.2.2.2.2.2.2.2.2.2.1 bt290.2.2.2.2.2.2.2.2.2.2.1 bt290.2.2.2.2.2.2.2.2.2.2.2.1 t239 bt290.2.2.2.2.2.2.2.2.2.2.2.2.1 bt290.2.2.2.2.2.2.2.2.2.2.2.2.2.1 bt290.2.2.2.2.2.2.2.2.2.2.2.2.2.2.1 bt290.2.2.2.2.2.2.2.2.2.2.2.2.2.2.2.1 bt290.2.2.2.2.2.2.2.2.2.2.2.2.2.2.2.2.1 bt290.2.2.2.2.2.2.2.2.2.2.2.2.2.2.2.2.2) else (flywheellaw28_GuardBrakes.j2 kj6 t271 true a1_0 a1_1 a1_2 a1_3 a1_4 a1_5 t215 t216 t217 t218 t219 t220 t221 t222 t223 t224 t225 t226 bt290.2.1 bt290.2.2.1 bt290.2.2.2.1 bt290.2.2.2.2.1 bt290.2.2.2.2.2.1 bt290.2.2.2.2.2.2.1 bt290.2.2.2.2.2.2.2.1 bt290.2.2.2.2.2.2.2.2.1 bt290.2.2.2.2.2.2.2.2.2.1 bt290.2.2.2.2.2.2.2.2.2.2.1 bt290.2.2.2.2.2.2.2.2.2.2.2.1 t239 bt290.2.2.2.2.2.2.2.2.2.2.2.2.1 bt290.2.2.2.2.2.2.2.2.2.2.2.2.2.1 bt290.2.2.2.2.2.2.2.2.2.2.2.2.2.2.1 bt290.2.2.2.2.2.2.2.2.2.2.2.2.2.2.2.1 bt290.2.2.2.2.2.2.2.2.2.2.2.2.2.2.2.2.1 bt290.2.2.2.2.2.2.2.2.2.2.2.2.2.2.2.2.2)))) = some r := H
     have A20 := Aside0.mk A200
     clear A200
     replace H := Option.bind_eq_some_iff.mp H
     obtain ⟨⟨t272, t273, t274, t275, t276, t277, t278, t279, t280, t281, t282, t283, t284, t285, t286, t287, t288, t289⟩, A210, H⟩ := H
     replace H : ((guard_Guard_Brakes.f t273 t274 t275 t276 t277 t278 t279 t280 t281 t282 t283 t239 t284 t285 t286 t287 t288 t289).bind fun bt290 => (if bt290.1 = true then (flywheellaw28_GuardBrakes.j2 kj6 t271 (decide (t272 > (mx t216 (wrap64 (Int.tdiv (wrap64 (t271 * 7)) 8))))) a1_0 a1_1 a1_2 a1_3 a1_4 a1_5 t215 t216 t217 t218 t219 t220 t221 t222 t223 t224 t225 t226 bt290.2.1 bt290.2.2.1 bt290.2.2.2.1 bt290.2.2.2.2.1 bt290.2.2.2.2.2.1 bt290.2.2.2.2.2.2.1 bt290.2.2.2.2.2.2.2.1 bt290.2.2.2.2.2.2.2.2.1 bt290.2.2.2.2.2.2.2.2.2.1 bt290.2.2.2.2.2.2.2.2.2.2.1 bt290.2.2.2.2.2.2.2.2.2.2.2.1 t239 bt290.2.2.2.2.2.2.2.2.2.2.2.2.1 bt290.2.2.2.2.2.2.2.2.2.2.2.2.2.1 bt290.2.2.2.2.2.2.2.2.2.2.2.2.2.2.1 bt290.2.2.2.2.2.2.2.2.2.2.2.2.2.2.2.1 bt290.2.2.2.2.2.2.2.2.2.2.2.2.2.2.2.2.1 bt290.2.2.2.2.2.2.2.2.2.2.2.2.2.2.2.2.2) else (flywheellaw28_GuardBrakes.j2 kj6 t271 true a1_0 a1_1 a1_2 a1_3 a1_4 a1_5 t215 t216 t217 t218 t219 t220 t221 t222 t223 t224 t225 t226 bt290.2.1 bt290.2.2.1 bt290.2.2.2.1 bt290.2.2.2.2.1 bt290.2.2.2.2.2.1 bt290.2.2.2.2.2.2.1 bt290.2.2.2.2.2.2.2.1 bt290.2.2.2.2.2.2.2.2.1 bt290.2.2.2.2.2.2.2.2.2.1 bt290.2.2.2.2.2.2.2.2.2.2.1 bt290.2.2.2.2.2.2.2.2.2.2.2.1 t239 bt290.2.2.2.2.2.2.2.2.2.2.2.2.1 bt290.2.2.2.2.2.2.2.2.2.2.2.2.2.1 bt290.2.2.2.2.2.2.2.2.2.2.2.2.2.2.1 bt290.2.2.2.2.2.2.2.2.2.2.2.2.2.2.2.1 bt290.2.2.2.2.2.2.2.2.2.2.2.2.2.2.2.2.1 bt290.2.2.2.2.2.2.2.2.2.2.2.2.2.2.2.2.2))) = some r := H
     have A21 := Aside0.mk A210
     clear A210
     have HC22 := Aside0.mk H
     clear H
     have hnb23 := NB214_227.out
     have hnc23 := NB227_214.out
     have hnb24 := NB214_246.out
     have hnc24 := NB246_214.out
     have hcz25_0 : wc.cell? ⟨gb214, 0, none⟩ = some (.int .i64 a1_0) := (blk_cell BK214.out 0).trans rfl
     have hcz25_1 : wc.cell? ⟨gb214, 1, none⟩ = some (.int .i64 a1_1) := (blk_cell BK214.out 1).trans rfl
     have hcz25_2 : wc.cell? ⟨gb214, 2, none⟩ = some (.int .i64 a1_2) := (blk_cell BK214.out 2).trans rfl
     have hcz25_3 : wc.cell? ⟨gb214, 3, none⟩ = some (.int .i64 a1_3) := (blk_cell BK214.out 3).trans rfl
     have hcz25_4 : wc.cell? ⟨gb214, 4, none⟩ = some (.int .i64 a1_4) := (blk_cell BK214.out 4).trans rfl
     have hcz25_5 : wc.cell? ⟨gb214, 5, none⟩ = some (.bool a1_5) := (blk_cell BK214.out 5).trans rfl
     have hfz25_0 := blk_frozen BK214.out 0
     have hfz25_1 := blk_frozen BK214.out 1
     have hfz25_2 := blk_frozen BK214.out 2
     have hfz25_3 := blk_frozen BK214.out 3
     have hfz25_4 := blk_frozen BK214.out 4
     have hfz25_5 := blk_frozen BK214.out 5
     go_upto_region 11 with (first | ((with_reducible refine gate_callee (f := 12) rfl ?_); refine goesL_ (some 60) rfl rfl Try.func12 (by kernel_rfl) rfl #[.int .i64 a1_3, .int .i64 8589934592] rfl (by (try simp only [List.map_toArray, List.map_cons, List.map_nil]); first | done | rfl | (simp only [List.length_drop, List.length_take]; rfl)) ?_; (with_reducible refine (flywheelkeep_Mod64.calls a1_3 8589934592 t271 _ A20.out).mono ?_); rintro e w' ⟨rfl, ⟨nd, rfl⟩⟩; refine ⟨_, rfl, ?_⟩; have hnb26 := NB227_246.out; have hnc26 := NB246_227.out; have hcz27_0 : wc.cell? ⟨gb227, 0, none⟩ = some (.int .i64 t215) := (blk_cell BK227.out 0).trans rfl; have hcz27_1 : wc.cell? ⟨gb227, 1, none⟩ = some (.int .i64 t216) := (blk_cell BK227.out 1).trans rfl; have hcz27_2 : wc.cell? ⟨gb227, 2, none⟩ = some (.int .i64 t217) := (blk_cell BK227.out 2).trans rfl; have hcz27_3 : wc.cell? ⟨gb227, 3, none⟩ = some (.int .i64 t218) := (blk_cell BK227.out 3).trans rfl; have hcz27_4 : wc.cell? ⟨gb227, 4, none⟩ = some (.int .i64 t219) := (blk_cell BK227.out 4).trans rfl; have hcz27_5 : wc.cell? ⟨gb227, 5, none⟩ = some (.int .i64 t220) := (blk_cell BK227.out 5).trans rfl; have hcz27_6 : wc.cell? ⟨gb227, 6, none⟩ = some (.int .i64 t221) := (blk_cell BK227.out 6).trans rfl; have hcz27_7 : wc.cell? ⟨gb227, 7, none⟩ = some (.int .i64 t222) := (blk_cell BK227.out 7).trans rfl; have hcz27_8 : wc.cell? ⟨gb227, 8, none⟩ = some (.int .i64 t223) := (blk_cell BK227.out 8).trans rfl; have hcz27_9 : wc.cell? ⟨gb227, 9, none⟩ = some (.int .i64 t224) := (blk_cell BK227.out 9).trans rfl; have hcz27_10 : wc.cell? ⟨gb227, 10, none⟩ = some (.int .i64 t225) := (blk_cell BK227.out 10).trans rfl; have hcz27_11 : wc.cell? ⟨gb227, 11, none⟩ = some (.slice none 0 0) := (blk_cell BK227.out 11).trans rfl; have hcz27_12 : wc.cell? ⟨gb227, 12, none⟩ = some (.int .i64 t226) := (blk_cell BK227.out 12).trans rfl; have hfz27_0 := blk_frozen BK227.out 0; have hfz27_1 := blk_frozen BK227.out 1; have hfz27_2 := blk_frozen BK227.out 2; have hfz27_3 := blk_frozen BK227.out 3; have hfz27_4 := blk_frozen BK227.out 4; have hfz27_5 := blk_frozen BK227.out 5; have hfz27_6 := blk_frozen BK227.out 6; have hfz27_7 := blk_frozen BK227.out 7; have hfz27_8 := blk_frozen BK227.out 8; have hfz27_9 := blk_frozen BK227.out 9; have hfz27_10 := blk_frozen BK227.out 10; have hfz27_11 := blk_frozen BK227.out 11; have hfz27_12 := blk_frozen BK227.out 12) | ((with_reducible refine gate_callee (f := 11) rfl ?_); refine goesL_ (some 72) rfl rfl Try.func11 (by kernel_rfl) rfl #[.pointer (some ⟨g246, 0, none⟩), .int .i64 a1_1, .int .i64 (wrap64 (t219 + 1)), .int .i64 t271, .bool a1_5, .int .i64 a1_4] rfl (by (try simp only [List.map_toArray, List.map_cons, List.map_nil]); first | done | rfl | (simp only [List.length_drop, List.length_take]; rfl)) ?_; (with_reducible refine (guard_Guard_Hear.calls g246 x247000_6 x247001_6 x247002_6 x247003_6 x247004_6 x247005_6 x247006_6 x247007_6 x247008_6 x247009_6 x247010_6 t239 x247012_6 x247013_6 x247014_6 x247015_6 x247016_6 x247017_6 a1_1 (wrap64 (t219 + 1)) t271 a1_5 a1_4 t272 t273 t274 t275 t276 t277 t278 t279 t280 t281 t282 t283 t284 t285 t286 t287 t288 t289 w _ ?side1 ?side2 A21.out).mono ?_); (case side1 => repeat (first | (with_reducible first | exact HI246.out | apply IsS48.alloc | apply IsS48.drewN | apply IsS48.drew | apply IsS48.set_0 | apply IsS48.set_1 | apply IsS48.set_2 | apply IsS48.set_3 | apply IsS48.set_4 | apply IsS48.set_5 | apply IsS48.set_6 | apply IsS48.set_7 | apply IsS48.set_8 | apply IsS48.set_9 | apply IsS48.set_10 | apply IsS48.set_12 | apply IsS48.set_13 | apply IsS48.set_14 | apply IsS48.set_15 | apply IsS48.set_16 | apply IsS48.set_17 | refine IsS48.far ?_ NB246_214.out _ | refine IsS48.far ?_ NB246_227.out _) | exact HI246.out)); (case side2 => repeat (first | (with_reducible first | exact HB.out | apply below_alloc | apply pw_below_drewN | apply below_drew1 | refine below_set ?_ (IsS48.ge HI246.out) | refine below_set ?_ GE214.out | refine below_set ?_ GE227.out) | exact HB.out)); rintro e w28 ⟨rfl, hi, hb, hk⟩; refine ⟨_, rfl, ?_⟩; have n0_ := Aside0.mk (KeepBut.blk hk (g' := gb214) (o := .cells #[.int .i64 a1_0, .int .i64 a1_1, .int .i64 a1_2, .int .i64 a1_3, .int .i64 a1_4, .bool a1_5] 24 (0, 0)) (by (with_reducible repeat (first | refine blk_drewN ?_ _ | refine blk_drew ?_ | refine blk_alloc ?_ _)); exact BK214.out) NB214_246.out (by simp)); have n1_ := Aside0.mk (KeepBut.blk hk (g' := gb227) (o := .cells #[.int .i64 t215, .int .i64 t216, .int .i64 t217, .int .i64 t218, .int .i64 t219, .int .i64 t220, .int .i64 t221, .int .i64 t222, .int .i64 t223, .int .i64 t224, .int .i64 t225, .slice none 0 0, .int .i64 t226] 27 (0, 0)) (by (with_reducible repeat (first | refine blk_drewN ?_ _ | refine blk_drew ?_ | refine blk_alloc ?_ _)); exact BK227.out) NB227_246.out (by simp)); have n2_ := Aside0.mk (hb); have n3_ := Aside0.mk (hi); clear BK214; clear BK227; clear HB; clear HI246; have BK214 := n0_; have BK227 := n1_; have HB := n2_; have HI246 := n3_; clear n0_ n1_ n2_ n3_; (try clear hb); (try clear hb2); (try clear hk); (try clear hi)))
     (try simp only [Act.put, List.setIfInBounds_toArray, List.set_cons_zero, List.set_cons_succ])
     go_cut [85] (fun v85 wc => ∃ (kq : Nat) (x85_21 : Bool) (x247000_21 : Int) (x247001_21 : Int) (x247002_21 : Int) (x247003_21 : Int) (x247004_21 : Int) (x247005_21 : Int) (x247006_21 : Int) (x247007_21 : Int) (x247008_21 : Int) (x247009_21 : Int) (x247010_21 : Int) (x247012_21 : Int) (x247013_21 : Int) (x247014_21 : Int) (x247015_21 : Int) (x247016_21 : Bool) (x247017_21 : Bool), v85 = .bool x85_21 ∧ Aside0 (flywheellaw28_GuardBrakes.j2 kq t271 x85_21 a1_0 a1_1 a1_2 a1_3 a1_4 a1_5 t215 t216 t217 t218 t219 t220 t221 t222 t223 t224 t225 t226 x247000_21 x247001_21 x247002_21 x247003_21 x247004_21 x247005_21 x247006_21 x247007_21 x247008_21 x247009_21 x247010_21 t239 x247012_21 x247013_21 x247014_21 x247015_21 x247016_21 x247017_21 = some r) ∧ Aside0 (kq ≤ kj6) ∧ Aside0 (wc.heap[gb214]? = some (.cells #[.int .i64 a1_0, .int .i64 a1_1, .int .i64 a1_2, .int .i64 a1_3, .int .i64 a1_4, .bool a1_5] 24 (0, 0))) ∧ Aside0 (wc.heap[gb227]? = some (.cells #[.int .i64 t215, .int .i64 t216, .int .i64 t217, .int .i64 t218, .int .i64 t219, .int .i64 t220, .int .i64 t221, .int .i64 t222, .int .i64 t223, .int .i64 t224, .int .i64 t225, (.slice none 0 0), .int .i64 t226] 27 (0, 0))) ∧ Aside0 (IsS48 w wc g246 x247000_21 x247001_21 x247002_21 x247003_21 x247004_21 x247005_21 x247006_21 x247007_21 x247008_21 x247009_21 x247010_21 t239 x247012_21 x247013_21 x247014_21 x247015_21 x247016_21 x247017_21) ∧ Aside0 (Below w.heap.size w wc))
     case first =>
      have H := HC22.out
      clear HC22
      replace H := Option.bind_eq_some_iff.mp H
      obtain ⟨⟨t290, t291, t292, t293, t294, t295, t296, t297, t298, t299, t300, t301, t302, t303, t304, t305, t306, t307⟩, A290, H⟩ := H
      replace H : (if t290 = true then (flywheellaw28_GuardBrakes.j2 kj6 t271 (decide (t272 > (mx t216 (wrap64 (Int.tdiv (wrap64 (t271 * 7)) 8))))) a1_0 a1_1 a1_2 a1_3 a1_4 a1_5 t215 t216 t217 t218 t219 t220 t221 t222 t223 t224 t225 t226 t291 t292 t293 t294 t295 t296 t297 t298 t299 t300 t301 t239 t302 t303 t304 t305 t306 t307) else (flywheellaw28_GuardBrakes.j2 kj6 t271 true a1_0 a1_1 a1_2 a1_3 a1_4 a1_5 t215 t216 t217 t218 t219 t220 t221 t222 t223 t224 t225 t226 t291 t292 t293 t294 t295 t296 t297 t298 t299 t300 t301 t239 t302 t303 t304 t305 t306 t307)) = some r := H
      have A29 := Aside0.mk A290
      clear A290
      by_cases c30 : t290 = true
      ·subst c30
       have H1 : (flywheellaw28_GuardBrakes.j2 kj6 t271 (decide (t272 > (mx t216 (wrap64 (Int.tdiv (wrap64 (t271 * 7)) 8))))) a1_0 a1_1 a1_2 a1_3 a1_4 a1_5 t215 t216 t217 t218 t219 t220 t221 t222 t223 t224 t225 t226 t291 t292 t293 t294 t295 t296 t297 t298 t299 t300 t301 t239 t302 t303 t304 t305 t306 t307) = some r := by rw [if_pos rfl] at H; exact H
       clear H
       have H := H1
       clear H1
       obtain ⟨ji31, hji31⟩ : ∃ j_ : Int, (mx t216 (wrap64 (Int.tdiv (wrap64 (t271 * 7)) 8))) = j_ := ⟨_, rfl⟩
       replace H : (flywheellaw28_GuardBrakes.j2 kj6 t271 (decide (t272 > (ji31))) a1_0 a1_1 a1_2 a1_3 a1_4 a1_5 t215 t216 t217 t218 t219 t220 t221 t222 t223 t224 t225 t226 t291 t292 t293 t294 t295 t296 t297 t298 t299 t300 t301 t239 t302 t303 t304 t305 t306 t307) = some r := by first | (rw [hji31] at H; exact H) | (simp only [hji31] at H ⊢; exact H)
       (try rw [hji31] at A29)
       have hji31_ : (if t216 < (wrap64 (Int.tdiv (wrap64 (t271 * 7)) 8)) then (wrap64 (Int.tdiv (wrap64 (t271 * 7)) 8)) else t216) = ji31 := hji31
       have H' := Aside0.mk H
       clear H
       go_wp2_with (first | ((with_reducible refine gate_callee (f := 13) rfl ?_); refine goesL_ (some 74) rfl rfl Try.func13 (by kernel_rfl) rfl #[.pointer (some ⟨g246, 0, none⟩)] rfl (by (try simp only [List.map_toArray, List.map_cons, List.map_nil]); first | done | rfl | (simp only [List.length_drop, List.length_take]; rfl)) ?_; (with_reducible refine (guard_Guard_Brakes.calls g246 t273 t274 t275 t276 t277 t278 t279 t280 t281 t282 t283 t239 t284 t285 t286 t287 t288 t289 true t291 t292 t293 t294 t295 t296 t297 t298 t299 t300 t301 t302 t303 t304 t305 t306 t307 w _ ?side1 ?side2 A29.out).mono ?_); (case side1 => repeat (first | (with_reducible first | exact HI246.out | apply IsS48.alloc | apply IsS48.drewN | apply IsS48.drew | apply IsS48.set_0 | apply IsS48.set_1 | apply IsS48.set_2 | apply IsS48.set_3 | apply IsS48.set_4 | apply IsS48.set_5 | apply IsS48.set_6 | apply IsS48.set_7 | apply IsS48.set_8 | apply IsS48.set_9 | apply IsS48.set_10 | apply IsS48.set_12 | apply IsS48.set_13 | apply IsS48.set_14 | apply IsS48.set_15 | apply IsS48.set_16 | apply IsS48.set_17 | refine IsS48.far ?_ NB246_214.out _ | refine IsS48.far ?_ NB246_227.out _) | exact HI246.out)); (case side2 => repeat (first | (with_reducible first | exact HB.out | apply below_alloc | apply pw_below_drewN | apply below_drew1 | refine below_set ?_ (IsS48.ge HI246.out) | refine below_set ?_ GE214.out | refine below_set ?_ GE227.out) | exact HB.out)); rintro e w32 ⟨rfl, hi, hb, hk⟩; refine ⟨_, rfl, ?_⟩; have n0_ := Aside0.mk (KeepBut.blk hk (g' := gb214) (o := .cells #[.int .i64 a1_0, .int .i64 a1_1, .int .i64 a1_2, .int .i64 a1_3, .int .i64 a1_4, .bool a1_5] 24 (0, 0)) (by (with_reducible repeat (first | refine blk_drewN ?_ _ | refine blk_drew ?_ | refine blk_alloc ?_ _)); exact BK214.out) NB214_246.out (by simp)); have n1_ := Aside0.mk (KeepBut.blk hk (g' := gb227) (o := .cells #[.int .i64 t215, .int .i64 t216, .int .i64 t217, .int .i64 t218, .int .i64 t219, .int .i64 t220, .int .i64 t221, .int .i64 t222, .int .i64 t223, .int .i64 t224, .int .i64 t225, .slice none 0 0, .int .i64 t226] 27 (0, 0)) (by (with_reducible repeat (first | refine blk_drewN ?_ _ | refine blk_drew ?_ | refine blk_alloc ?_ _)); exact BK227.out) NB227_246.out (by simp)); have n2_ := Aside0.mk (hb); have n3_ := Aside0.mk (hi); clear BK214; clear BK227; clear HB; clear HI246; have BK214 := n0_; have BK227 := n1_; have HB := n2_; have HI246 := n3_; clear n0_ n1_ n2_ n3_; (try clear hb); (try clear hb2); (try clear hk); (try clear hi); have hnb33 := NB227_214.out; have hnc33 := NB214_227.out; have hnb34 := NB227_246.out; have hnc34 := NB246_227.out; have hcz35_0 : w32.cell? ⟨gb227, 0, none⟩ = some (.int .i64 t215) := (blk_cell BK227.out 0).trans rfl; have hcz35_1 : w32.cell? ⟨gb227, 1, none⟩ = some (.int .i64 t216) := (blk_cell BK227.out 1).trans rfl; have hcz35_2 : w32.cell? ⟨gb227, 2, none⟩ = some (.int .i64 t217) := (blk_cell BK227.out 2).trans rfl; have hcz35_3 : w32.cell? ⟨gb227, 3, none⟩ = some (.int .i64 t218) := (blk_cell BK227.out 3).trans rfl; have hcz35_4 : w32.cell? ⟨gb227, 4, none⟩ = some (.int .i64 t219) := (blk_cell BK227.out 4).trans rfl; have hcz35_5 : w32.cell? ⟨gb227, 5, none⟩ = some (.int .i64 t220) := (blk_cell BK227.out 5).trans rfl; have hcz35_6 : w32.cell? ⟨gb227, 6, none⟩ = some (.int .i64 t221) := (blk_cell BK227.out 6).trans rfl; have hcz35_7 : w32.cell? ⟨gb227, 7, none⟩ = some (.int .i64 t222) := (blk_cell BK227.out 7).trans rfl; have hcz35_8 : w32.cell? ⟨gb227, 8, none⟩ = some (.int .i64 t223) := (blk_cell BK227.out 8).trans rfl; have hcz35_9 : w32.cell? ⟨gb227, 9, none⟩ = some (.int .i64 t224) := (blk_cell BK227.out 9).trans rfl; have hcz35_10 : w32.cell? ⟨gb227, 10, none⟩ = some (.int .i64 t225) := (blk_cell BK227.out 10).trans rfl; have hcz35_11 : w32.cell? ⟨gb227, 11, none⟩ = some (.slice none 0 0) := (blk_cell BK227.out 11).trans rfl; have hcz35_12 : w32.cell? ⟨gb227, 12, none⟩ = some (.int .i64 t226) := (blk_cell BK227.out 12).trans rfl; have hfz35_0 := blk_frozen BK227.out 0; have hfz35_1 := blk_frozen BK227.out 1; have hfz35_2 := blk_frozen BK227.out 2; have hfz35_3 := blk_frozen BK227.out 3; have hfz35_4 := blk_frozen BK227.out 4; have hfz35_5 := blk_frozen BK227.out 5; have hfz35_6 := blk_frozen BK227.out 6; have hfz35_7 := blk_frozen BK227.out 7; have hfz35_8 := blk_frozen BK227.out 8; have hfz35_9 := blk_frozen BK227.out 9; have hfz35_10 := blk_frozen BK227.out 10; have hfz35_11 := blk_frozen BK227.out 11; have hfz35_12 := blk_frozen BK227.out 12))
       go_meet
       case rel => exact ⟨_, (decide (t272 > (ji31))), (t291), (t292), (t293), (t294), (t295), (t296), (t297), (t298), (t299), (t300), (t301), (t302), (t303), (t304), (t305), (t306), (t307), (by first | rfl | (simp; done) | (simp only [← hji31] <;> (first | rfl | simp)) | (simp [*]; done)), H', ⟨by have := HJ6.out; first | omega | exact Nat.le_refl _⟩, ⟨by (with_reducible repeat (first | refine blk_drewN ?_ _ | refine blk_drew ?_ | refine blk_alloc ?_ _)); exact BK214.out⟩, ⟨by (with_reducible repeat (first | refine blk_drewN ?_ _ | refine blk_drew ?_ | refine blk_alloc ?_ _)); exact BK227.out⟩, ⟨by repeat (first | (with_reducible first | exact HI246.out | apply IsS48.alloc | apply IsS48.drewN | apply IsS48.drew | apply IsS48.set_0 | apply IsS48.set_1 | apply IsS48.set_2 | apply IsS48.set_3 | apply IsS48.set_4 | apply IsS48.set_5 | apply IsS48.set_6 | apply IsS48.set_7 | apply IsS48.set_8 | apply IsS48.set_9 | apply IsS48.set_10 | apply IsS48.set_12 | apply IsS48.set_13 | apply IsS48.set_14 | apply IsS48.set_15 | apply IsS48.set_16 | apply IsS48.set_17 | refine IsS48.far ?_ NB246_214.out _ | refine IsS48.far ?_ NB246_227.out _) | exact HI246.out)⟩, ⟨by repeat (first | (with_reducible first | exact HB.out | apply below_alloc | apply pw_below_drewN | apply below_drew1 | refine below_set ?_ (IsS48.ge HI246.out) | refine below_set ?_ GE214.out | refine below_set ?_ GE227.out) | exact HB.out)⟩⟩
      ·replace c30 := Bool.eq_false_iff.mpr c30
       subst c30
       have H1 : (flywheellaw28_GuardBrakes.j2 kj6 t271 true a1_0 a1_1 a1_2 a1_3 a1_4 a1_5 t215 t216 t217 t218 t219 t220 t221 t222 t223 t224 t225 t226 t291 t292 t293 t294 t295 t296 t297 t298 t299 t300 t301 t239 t302 t303 t304 t305 t306 t307) = some r := by rw [if_neg (show ¬ (false = true) by decide)] at H; exact H
       clear H
       have H := H1
       clear H1
       have H' := Aside0.mk H
       clear H
       go_wp2_with (first | ((with_reducible refine gate_callee (f := 13) rfl ?_); refine goesL_ (some 74) rfl rfl Try.func13 (by kernel_rfl) rfl #[.pointer (some ⟨g246, 0, none⟩)] rfl (by (try simp only [List.map_toArray, List.map_cons, List.map_nil]); first | done | rfl | (simp only [List.length_drop, List.length_take]; rfl)) ?_; (with_reducible refine (guard_Guard_Brakes.calls g246 t273 t274 t275 t276 t277 t278 t279 t280 t281 t282 t283 t239 t284 t285 t286 t287 t288 t289 false t291 t292 t293 t294 t295 t296 t297 t298 t299 t300 t301 t302 t303 t304 t305 t306 t307 w _ ?side1 ?side2 A29.out).mono ?_); (case side1 => repeat (first | (with_reducible first | exact HI246.out | apply IsS48.alloc | apply IsS48.drewN | apply IsS48.drew | apply IsS48.set_0 | apply IsS48.set_1 | apply IsS48.set_2 | apply IsS48.set_3 | apply IsS48.set_4 | apply IsS48.set_5 | apply IsS48.set_6 | apply IsS48.set_7 | apply IsS48.set_8 | apply IsS48.set_9 | apply IsS48.set_10 | apply IsS48.set_12 | apply IsS48.set_13 | apply IsS48.set_14 | apply IsS48.set_15 | apply IsS48.set_16 | apply IsS48.set_17 | refine IsS48.far ?_ NB246_214.out _ | refine IsS48.far ?_ NB246_227.out _) | exact HI246.out)); (case side2 => repeat (first | (with_reducible first | exact HB.out | apply below_alloc | apply pw_below_drewN | apply below_drew1 | refine below_set ?_ (IsS48.ge HI246.out) | refine below_set ?_ GE214.out | refine below_set ?_ GE227.out) | exact HB.out)); rintro e w36 ⟨rfl, hi, hb, hk⟩; refine ⟨_, rfl, ?_⟩; have n0_ := Aside0.mk (KeepBut.blk hk (g' := gb214) (o := .cells #[.int .i64 a1_0, .int .i64 a1_1, .int .i64 a1_2, .int .i64 a1_3, .int .i64 a1_4, .bool a1_5] 24 (0, 0)) (by (with_reducible repeat (first | refine blk_drewN ?_ _ | refine blk_drew ?_ | refine blk_alloc ?_ _)); exact BK214.out) NB214_246.out (by simp)); have n1_ := Aside0.mk (KeepBut.blk hk (g' := gb227) (o := .cells #[.int .i64 t215, .int .i64 t216, .int .i64 t217, .int .i64 t218, .int .i64 t219, .int .i64 t220, .int .i64 t221, .int .i64 t222, .int .i64 t223, .int .i64 t224, .int .i64 t225, .slice none 0 0, .int .i64 t226] 27 (0, 0)) (by (with_reducible repeat (first | refine blk_drewN ?_ _ | refine blk_drew ?_ | refine blk_alloc ?_ _)); exact BK227.out) NB227_246.out (by simp)); have n2_ := Aside0.mk (hb); have n3_ := Aside0.mk (hi); clear BK214; clear BK227; clear HB; clear HI246; have BK214 := n0_; have BK227 := n1_; have HB := n2_; have HI246 := n3_; clear n0_ n1_ n2_ n3_; (try clear hb); (try clear hb2); (try clear hk); (try clear hi)))
       go_meet
       case rel => exact ⟨_, (true), (t291), (t292), (t293), (t294), (t295), (t296), (t297), (t298), (t299), (t300), (t301), (t302), (t303), (t304), (t305), (t306), (t307), (by first | rfl | (simp; done) | (simp [*]; done)), H', ⟨by have := HJ6.out; first | omega | exact Nat.le_refl _⟩, ⟨by (with_reducible repeat (first | refine blk_drewN ?_ _ | refine blk_drew ?_ | refine blk_alloc ?_ _)); exact BK214.out⟩, ⟨by (with_reducible repeat (first | refine blk_drewN ?_ _ | refine blk_drew ?_ | refine blk_alloc ?_ _)); exact BK227.out⟩, ⟨by repeat (first | (with_reducible first | exact HI246.out | apply IsS48.alloc | apply IsS48.drewN | apply IsS48.drew | apply IsS48.set_0 | apply IsS48.set_1 | apply IsS48.set_2 | apply IsS48.set_3 | apply IsS48.set_4 | apply IsS48.set_5 | apply IsS48.set_6 | apply IsS48.set_7 | apply IsS48.set_8 | apply IsS48.set_9 | apply IsS48.set_10 | apply IsS48.set_12 | apply IsS48.set_13 | apply IsS48.set_14 | apply IsS48.set_15 | apply IsS48.set_16 | apply IsS48.set_17 | refine IsS48.far ?_ NB246_214.out _ | refine IsS48.far ?_ NB246_227.out _) | exact HI246.out)⟩, ⟨by repeat (first | (with_reducible first | exact HB.out | apply below_alloc | apply pw_below_drewN | apply below_drew1 | refine below_set ?_ (IsS48.ge HI246.out) | refine below_set ?_ GE214.out | refine below_set ?_ GE227.out) | exact HB.out)⟩⟩
     case rest =>
      clear HC22
      try clear c1
      try clear c2
      try clear p2
      try clear q2
      try clear hx2
      try clear c3
      try clear c4
      try clear c4b0
      try clear c6
      try clear c6b0
      try clear c6b1
      try clear p6
      try clear c9
      try clear c10
      try clear c11
      try clear c12
      try clear c13
      try clear c14
      try clear c14b0
      try clear c15
      try clear c15b0
      try clear c16
      try clear c16b0
      try clear c23
      try clear c24
      try clear p24
      try clear q24
      try clear hx24
      try clear p25
      try clear q25
      try clear hx25
      try clear c26
      try clear c30
      try clear c33
      try clear c34
      try clear hcz12_0
      try clear hcz12_1
      try clear hcz12_10
      try clear hcz12_11
      try clear hcz12_12
      try clear hcz12_2
      try clear hcz12_3
      try clear hcz12_4
      try clear hcz12_5
      try clear hcz12_6
      try clear hcz12_7
      try clear hcz12_8
      try clear hcz12_9
      try clear hcz25_0
      try clear hcz25_1
      try clear hcz25_2
      try clear hcz25_3
      try clear hcz25_4
      try clear hcz25_5
      try clear hcz27_0
      try clear hcz27_1
      try clear hcz27_10
      try clear hcz27_11
      try clear hcz27_12
      try clear hcz27_2
      try clear hcz27_3
      try clear hcz27_4
      try clear hcz27_5
      try clear hcz27_6
      try clear hcz27_7
      try clear hcz27_8
      try clear hcz27_9
      try clear hcz35_0
      try clear hcz35_1
      try clear hcz35_10
      try clear hcz35_11
      try clear hcz35_12
      try clear hcz35_2
      try clear hcz35_3
      try clear hcz35_4
      try clear hcz35_5
      try clear hcz35_6
      try clear hcz35_7
      try clear hcz35_8
      try clear hcz35_9
      try clear hfz12_0
      try clear hfz12_1
      try clear hfz12_10
      try clear hfz12_11
      try clear hfz12_12
      try clear hfz12_2
      try clear hfz12_3
      try clear hfz12_4
      try clear hfz12_5
      try clear hfz12_6
      try clear hfz12_7
      try clear hfz12_8
      try clear hfz12_9
      try clear hfz25_0
      try clear hfz25_1
      try clear hfz25_2
      try clear hfz25_3
      try clear hfz25_4
      try clear hfz25_5
      try clear hfz27_0
      try clear hfz27_1
      try clear hfz27_10
      try clear hfz27_11
      try clear hfz27_12
      try clear hfz27_2
      try clear hfz27_3
      try clear hfz27_4
      try clear hfz27_5
      try clear hfz27_6
      try clear hfz27_7
      try clear hfz27_8
      try clear hfz27_9
      try clear hfz35_0
      try clear hfz35_1
      try clear hfz35_10
      try clear hfz35_11
      try clear hfz35_12
      try clear hfz35_2
      try clear hfz35_3
      try clear hfz35_4
      try clear hfz35_5
      try clear hfz35_6
      try clear hfz35_7
      try clear hfz35_8
      try clear hfz35_9
      try clear hx248_0
      try clear hx248_1
      try clear hx248_2
      try clear hx248_3
      try clear hx248_4
      try clear hx248_5
      try clear hx249_0
      try clear hx249_1
      try clear hx249_2
      try clear hx249_3
      try clear hx249_4
      try clear hx249_5
      try clear hx250_0
      try clear hx250_1
      try clear hx250_2
      try clear hx250_3
      try clear hx250_4
      try clear hx250_5
      try clear hx251_0
      try clear hx251_1
      try clear hx251_2
      try clear hx251_3
      try clear hx251_4
      try clear hx251_5
      try clear hx252_0
      try clear hx252_1
      try clear hx252_2
      try clear hx252_3
      try clear hx252_4
      try clear hx252_5
      try clear p2
      try clear p248
      try clear p249
      try clear p250
      try clear p251
      try clear p252
      try clear p6
      try clear q2
      try clear q248
      try clear q249
      try clear q250
      try clear q251
      try clear q252
      obtain ⟨kq, x85_21, x247000_21, x247001_21, x247002_21, x247003_21, x247004_21, x247005_21, x247006_21, x247007_21, x247008_21, x247009_21, x247010_21, x247012_21, x247013_21, x247014_21, x247015_21, x247016_21, x247017_21, rfl, HA, HJ21, BK214, BK227, HI246, HB⟩ := hcut
      cases kq with
      | zero => exact absurd HA.out (by simp [flywheellaw28_GuardBrakes.j2])
      | succ kj21 =>
       have H := HA.out
       clear HA
       simp only [flywheellaw28_GuardBrakes.j2] at H
       by_cases c37 : x85_21 = true
       ·subst c37
        have H1 : (some false) = some r := by rw [if_pos rfl] at H; exact H
        clear H
        have H := H1
        clear H1
        obtain rfl := Option.some.inj H
        go_wp2
        go_ret
        exact ⟨by first | rfl | (simp [errW_none, errW_some] <;> rfl) | (simp [*, errW_none, errW_some] <;> rfl), by repeat (first | (with_reducible first | exact HB.out | apply below_alloc | apply pw_below_drewN | apply below_drew1 | refine below_set ?_ (IsS48.ge HI246.out) | refine below_set ?_ GE214.out | refine below_set ?_ GE227.out) | exact HB.out)⟩
       ·replace c37 := Bool.eq_false_iff.mpr c37
        subst c37
        have H1 : ((guard_Guard_Hear.f x247000_21 x247001_21 x247002_21 x247003_21 x247004_21 x247005_21 x247006_21 x247007_21 x247008_21 x247009_21 x247010_21 t239 x247012_21 x247013_21 x247014_21 x247015_21 x247016_21 x247017_21 a1_1 t220 t271 a1_5 a1_4).bind fun bt308 => (if a1_5 = true then ((guard_Guard_Brakes.f bt308.2.1 bt308.2.2.1 bt308.2.2.2.1 bt308.2.2.2.2.1 bt308.2.2.2.2.2.1 bt308.2.2.2.2.2.2.1 bt308.2.2.2.2.2.2.2.1 bt308.2.2.2.2.2.2.2.2.1 bt308.2.2.2.2.2.2.2.2.2.1 bt308.2.2.2.2.2.2.2.2.2.2.1 bt308.2.2.2.2.2.2.2.2.2.2.2.1 t239 bt308.2.2.2.2.2.2.2.2.2.2.2.2.1 bt308.2.2.2.2.2.2.2.2.2.2.2.2.2.1 bt308.2.2.2.2.2.2.2.2.2.2.2.2.2.2.1 bt308.2.2.2.2.2.2.2.2.2.2.2.2.2.2.2.1 bt308.2.2.2.2.2.2.2.2.2.2.2.2.2.2.2.2.1 bt308.2.2.2.2.2.2.2.2.2.2.2.2.2.2.2.2.2).bind fun bt326 => (if bt326.1 = true then (some false) else (if bt308.1 ≥ (mn (wrap64 (Int.tdiv (wrap64 (t271 * 9)) 8)) (mn t217 (mx t216 (wrap64 ((wrap64 (2 * t271)) + 100000))))) then ((flywheellaw28_wakes.f).bind fun t344 => (some t344)) else (some false)))) else ((guard_Guard_Brakes.f bt308.2.1 bt308.2.2.1 bt308.2.2.2.1 bt308.2.2.2.2.1 bt308.2.2.2.2.2.1 bt308.2.2.2.2.2.2.1 bt308.2.2.2.2.2.2.2.1 bt308.2.2.2.2.2.2.2.2.1 bt308.2.2.2.2.2.2.2.2.2.1 bt308.2.2.2.2.2.2.2.2.2.2.1 bt308.2.2.2.2.2.2.2.2.2.2.2.1 t239 bt308.2.2.2.2.2.2.2.2.2.2.2.2.1 bt308.2.2.2.2.2.2.2.2.2.2.2.2.2.1 bt308.2.2.2.2.2.2.2.2.2.2.2.2.2.2.1 bt308.2.2.2.2.2.2.2.2.2.2.2.2.2.2.2.1 bt308.2.2.2.2.2.2.2.2.2.2.2.2.2.2.2.2.1 bt308.2.2.2.2.2.2.2.2.2.2.2.2.2.2.2.2.2).bind fun bt345 => (if bt345.1 = true then (some false) else (if bt308.1 ≥ (mn (wrap64 (Int.tdiv (wrap64 (t271 * 9)) 8)) t217) then ((flywheellaw28_wakes.f).bind fun t363 => (some t363)) else (some false)))))) = some r := by rw [if_neg (show ¬ (false = true) by decide)] at H; exact H
        clear H
        have H := H1
        clear H1
        replace H := Option.bind_eq_some_iff.mp H
        obtain ⟨⟨t308, t309, t310, t311, t312, t313, t314, t315, t316, t317, t318, t319, t320, t321, t322, t323, t324, t325⟩, A380, H⟩ := H
        replace H : (if a1_5 = true then ((guard_Guard_Brakes.f t309 t310 t311 t312 t313 t314 t315 t316 t317 t318 t319 t239 t320 t321 t322 t323 t324 t325).bind fun bt326 => (if bt326.1 = true then (some false) else (if t308 ≥ (mn (wrap64 (Int.tdiv (wrap64 (t271 * 9)) 8)) (mn t217 (mx t216 (wrap64 ((wrap64 (2 * t271)) + 100000))))) then ((flywheellaw28_wakes.f).bind fun t344 => (some t344)) else (some false)))) else ((guard_Guard_Brakes.f t309 t310 t311 t312 t313 t314 t315 t316 t317 t318 t319 t239 t320 t321 t322 t323 t324 t325).bind fun bt345 => (if bt345.1 = true then (some false) else (if t308 ≥ (mn (wrap64 (Int.tdiv (wrap64 (t271 * 9)) 8)) t217) then ((flywheellaw28_wakes.f).bind fun t363 => (some t363)) else (some false))))) = some r := H
        have A38 := Aside0.mk A380
        clear A380
        by_cases c39 : a1_5 = true
        ·subst c39
         have H1 : ((guard_Guard_Brakes.f t309 t310 t311 t312 t313 t314 t315 t316 t317 t318 t319 t239 t320 t321 t322 t323 t324 t325).bind fun bt326 => (if bt326.1 = true then (some false) else (if t308 ≥ (mn (wrap64 (Int.tdiv (wrap64 (t271 * 9)) 8)) (mn t217 (mx t216 (wrap64 ((wrap64 (2 * t271)) + 100000))))) then ((flywheellaw28_wakes.f).bind fun t344 => (some t344)) else (some false)))) = some r := by rw [if_pos rfl] at H; exact H
         clear H
         have H := H1
         clear H1
         obtain ⟨ji40, hji40⟩ : ∃ j_ : Int, (mx t216 (wrap64 ((wrap64 (2 * t271)) + 100000))) = j_ := ⟨_, rfl⟩
         replace H : ((guard_Guard_Brakes.f t309 t310 t311 t312 t313 t314 t315 t316 t317 t318 t319 t239 t320 t321 t322 t323 t324 t325).bind fun bt326 => (if bt326.1 = true then (some false) else (if t308 ≥ (mn (wrap64 (Int.tdiv (wrap64 (t271 * 9)) 8)) (mn t217 (ji40))) then ((flywheellaw28_wakes.f).bind fun t344 => (some t344)) else (some false)))) = some r := by first | (rw [hji40] at H; exact H) | (simp only [hji40] at H ⊢; exact H)
         (try rw [hji40] at A38)
         have hji40_ : (if t216 < (wrap64 ((wrap64 (2 * t271)) + 100000)) then (wrap64 ((wrap64 (2 * t271)) + 100000)) else t216) = ji40 := hji40
         obtain ⟨ji41, hji41⟩ : ∃ j_ : Int, (mn t217 (ji40)) = j_ := ⟨_, rfl⟩
         replace H : ((guard_Guard_Brakes.f t309 t310 t311 t312 t313 t314 t315 t316 t317 t318 t319 t239 t320 t321 t322 t323 t324 t325).bind fun bt326 => (if bt326.1 = true then (some false) else (if t308 ≥ (mn (wrap64 (Int.tdiv (wrap64 (t271 * 9)) 8)) (ji41)) then ((flywheellaw28_wakes.f).bind fun t344 => (some t344)) else (some false)))) = some r := by first | (rw [hji41] at H; exact H) | (simp only [hji41] at H ⊢; exact H)
         (try rw [hji41] at A38)
         have hji41_ : (if (ji40) < t217 then (ji40) else t217) = ji41 := hji41
         replace H := Option.bind_eq_some_iff.mp H
         obtain ⟨⟨t326, t327, t328, t329, t330, t331, t332, t333, t334, t335, t336, t337, t338, t339, t340, t341, t342, t343⟩, A420, H⟩ := H
         replace H : (if t326 = true then (some false) else (if t308 ≥ (mn (wrap64 (Int.tdiv (wrap64 (t271 * 9)) 8)) (ji41)) then ((flywheellaw28_wakes.f).bind fun t344 => (some t344)) else (some false))) = some r := H
         have A42 := Aside0.mk A420
         clear A420
         by_cases c43 : t326 = true
         ·subst c43
          have H1 : (some false) = some r := by rw [if_pos rfl] at H; exact H
          clear H
          have H := H1
          clear H1
          obtain rfl := Option.some.inj H
          have hnb44 := NB214_227.out
          have hnc44 := NB227_214.out
          have hnb45 := NB214_246.out
          have hnc45 := NB246_214.out
          have hcz46_0 : wc.cell? ⟨gb214, 0, none⟩ = some (.int .i64 a1_0) := (blk_cell BK214.out 0).trans rfl
          have hcz46_1 : wc.cell? ⟨gb214, 1, none⟩ = some (.int .i64 a1_1) := (blk_cell BK214.out 1).trans rfl
          have hcz46_2 : wc.cell? ⟨gb214, 2, none⟩ = some (.int .i64 a1_2) := (blk_cell BK214.out 2).trans rfl
          have hcz46_3 : wc.cell? ⟨gb214, 3, none⟩ = some (.int .i64 a1_3) := (blk_cell BK214.out 3).trans rfl
          have hcz46_4 : wc.cell? ⟨gb214, 4, none⟩ = some (.int .i64 a1_4) := (blk_cell BK214.out 4).trans rfl
          have hcz46_5 : wc.cell? ⟨gb214, 5, none⟩ = some (.bool true) := (blk_cell BK214.out 5).trans rfl
          have hfz46_0 := blk_frozen BK214.out 0
          have hfz46_1 := blk_frozen BK214.out 1
          have hfz46_2 := blk_frozen BK214.out 2
          have hfz46_3 := blk_frozen BK214.out 3
          have hfz46_4 := blk_frozen BK214.out 4
          have hfz46_5 := blk_frozen BK214.out 5
          have hnb47 := NB227_246.out
          have hnc47 := NB246_227.out
          have hcz48_0 : wc.cell? ⟨gb227, 0, none⟩ = some (.int .i64 t215) := (blk_cell BK227.out 0).trans rfl
          have hcz48_1 : wc.cell? ⟨gb227, 1, none⟩ = some (.int .i64 t216) := (blk_cell BK227.out 1).trans rfl
          have hcz48_2 : wc.cell? ⟨gb227, 2, none⟩ = some (.int .i64 t217) := (blk_cell BK227.out 2).trans rfl
          have hcz48_3 : wc.cell? ⟨gb227, 3, none⟩ = some (.int .i64 t218) := (blk_cell BK227.out 3).trans rfl
          have hcz48_4 : wc.cell? ⟨gb227, 4, none⟩ = some (.int .i64 t219) := (blk_cell BK227.out 4).trans rfl
          have hcz48_5 : wc.cell? ⟨gb227, 5, none⟩ = some (.int .i64 t220) := (blk_cell BK227.out 5).trans rfl
          have hcz48_6 : wc.cell? ⟨gb227, 6, none⟩ = some (.int .i64 t221) := (blk_cell BK227.out 6).trans rfl
          have hcz48_7 : wc.cell? ⟨gb227, 7, none⟩ = some (.int .i64 t222) := (blk_cell BK227.out 7).trans rfl
          have hcz48_8 : wc.cell? ⟨gb227, 8, none⟩ = some (.int .i64 t223) := (blk_cell BK227.out 8).trans rfl
          have hcz48_9 : wc.cell? ⟨gb227, 9, none⟩ = some (.int .i64 t224) := (blk_cell BK227.out 9).trans rfl
          have hcz48_10 : wc.cell? ⟨gb227, 10, none⟩ = some (.int .i64 t225) := (blk_cell BK227.out 10).trans rfl
          have hcz48_11 : wc.cell? ⟨gb227, 11, none⟩ = some (.slice none 0 0) := (blk_cell BK227.out 11).trans rfl
          have hcz48_12 : wc.cell? ⟨gb227, 12, none⟩ = some (.int .i64 t226) := (blk_cell BK227.out 12).trans rfl
          have hfz48_0 := blk_frozen BK227.out 0
          have hfz48_1 := blk_frozen BK227.out 1
          have hfz48_2 := blk_frozen BK227.out 2
          have hfz48_3 := blk_frozen BK227.out 3
          have hfz48_4 := blk_frozen BK227.out 4
          have hfz48_5 := blk_frozen BK227.out 5
          have hfz48_6 := blk_frozen BK227.out 6
          have hfz48_7 := blk_frozen BK227.out 7
          have hfz48_8 := blk_frozen BK227.out 8
          have hfz48_9 := blk_frozen BK227.out 9
          have hfz48_10 := blk_frozen BK227.out 10
          have hfz48_11 := blk_frozen BK227.out 11
          have hfz48_12 := blk_frozen BK227.out 12
          go_wp2_with (first | ((with_reducible refine gate_callee (f := 11) rfl ?_); refine goesL_ (some 96) rfl rfl Try.func11 (by kernel_rfl) rfl #[.pointer (some ⟨g246, 0, none⟩), .int .i64 a1_1, .int .i64 t220, .int .i64 t271, .bool true, .int .i64 a1_4] rfl (by (try simp only [List.map_toArray, List.map_cons, List.map_nil]); first | done | rfl | (simp only [List.length_drop, List.length_take]; rfl)) ?_; (with_reducible refine (guard_Guard_Hear.calls g246 x247000_21 x247001_21 x247002_21 x247003_21 x247004_21 x247005_21 x247006_21 x247007_21 x247008_21 x247009_21 x247010_21 t239 x247012_21 x247013_21 x247014_21 x247015_21 x247016_21 x247017_21 a1_1 t220 t271 true a1_4 t308 t309 t310 t311 t312 t313 t314 t315 t316 t317 t318 t319 t320 t321 t322 t323 t324 t325 w _ ?side1 ?side2 A38.out).mono ?_); (case side1 => repeat (first | (with_reducible first | exact HI246.out | apply IsS48.alloc | apply IsS48.drewN | apply IsS48.drew | apply IsS48.set_0 | apply IsS48.set_1 | apply IsS48.set_2 | apply IsS48.set_3 | apply IsS48.set_4 | apply IsS48.set_5 | apply IsS48.set_6 | apply IsS48.set_7 | apply IsS48.set_8 | apply IsS48.set_9 | apply IsS48.set_10 | apply IsS48.set_12 | apply IsS48.set_13 | apply IsS48.set_14 | apply IsS48.set_15 | apply IsS48.set_16 | apply IsS48.set_17 | refine IsS48.far ?_ NB246_214.out _ | refine IsS48.far ?_ NB246_227.out _) | exact HI246.out)); (case side2 => repeat (first | (with_reducible first | exact HB.out | apply below_alloc | apply pw_below_drewN | apply below_drew1 | refine below_set ?_ (IsS48.ge HI246.out) | refine below_set ?_ GE214.out | refine below_set ?_ GE227.out) | exact HB.out)); rintro e w49 ⟨rfl, hi, hb, hk⟩; refine ⟨_, rfl, ?_⟩; have n0_ := Aside0.mk (KeepBut.blk hk (g' := gb214) (o := .cells #[.int .i64 a1_0, .int .i64 a1_1, .int .i64 a1_2, .int .i64 a1_3, .int .i64 a1_4, .bool true] 24 (0, 0)) (by (with_reducible repeat (first | refine blk_drewN ?_ _ | refine blk_drew ?_ | refine blk_alloc ?_ _)); exact BK214.out) NB214_246.out (by simp)); have n1_ := Aside0.mk (KeepBut.blk hk (g' := gb227) (o := .cells #[.int .i64 t215, .int .i64 t216, .int .i64 t217, .int .i64 t218, .int .i64 t219, .int .i64 t220, .int .i64 t221, .int .i64 t222, .int .i64 t223, .int .i64 t224, .int .i64 t225, .slice none 0 0, .int .i64 t226] 27 (0, 0)) (by (with_reducible repeat (first | refine blk_drewN ?_ _ | refine blk_drew ?_ | refine blk_alloc ?_ _)); exact BK227.out) NB227_246.out (by simp)); have n2_ := Aside0.mk (hb); have n3_ := Aside0.mk (hi); clear BK214; clear BK227; clear HB; clear HI246; have BK214 := n0_; have BK227 := n1_; have HB := n2_; have HI246 := n3_; clear n0_ n1_ n2_ n3_; (try clear hb); (try clear hb2); (try clear hk); (try clear hi); have hcz50_0 : w49.cell? ⟨gb227, 0, none⟩ = some (.int .i64 t215) := (blk_cell BK227.out 0).trans rfl; have hcz50_1 : w49.cell? ⟨gb227, 1, none⟩ = some (.int .i64 t216) := (blk_cell BK227.out 1).trans rfl; have hcz50_2 : w49.cell? ⟨gb227, 2, none⟩ = some (.int .i64 t217) := (blk_cell BK227.out 2).trans rfl; have hcz50_3 : w49.cell? ⟨gb227, 3, none⟩ = some (.int .i64 t218) := (blk_cell BK227.out 3).trans rfl; have hcz50_4 : w49.cell? ⟨gb227, 4, none⟩ = some (.int .i64 t219) := (blk_cell BK227.out 4).trans rfl; have hcz50_5 : w49.cell? ⟨gb227, 5, none⟩ = some (.int .i64 t220) := (blk_cell BK227.out 5).trans rfl; have hcz50_6 : w49.cell? ⟨gb227, 6, none⟩ = some (.int .i64 t221) := (blk_cell BK227.out 6).trans rfl; have hcz50_7 : w49.cell? ⟨gb227, 7, none⟩ = some (.int .i64 t222) := (blk_cell BK227.out 7).trans rfl; have hcz50_8 : w49.cell? ⟨gb227, 8, none⟩ = some (.int .i64 t223) := (blk_cell BK227.out 8).trans rfl; have hcz50_9 : w49.cell? ⟨gb227, 9, none⟩ = some (.int .i64 t224) := (blk_cell BK227.out 9).trans rfl; have hcz50_10 : w49.cell? ⟨gb227, 10, none⟩ = some (.int .i64 t225) := (blk_cell BK227.out 10).trans rfl; have hcz50_11 : w49.cell? ⟨gb227, 11, none⟩ = some (.slice none 0 0) := (blk_cell BK227.out 11).trans rfl; have hcz50_12 : w49.cell? ⟨gb227, 12, none⟩ = some (.int .i64 t226) := (blk_cell BK227.out 12).trans rfl; have hfz50_0 := blk_frozen BK227.out 0; have hfz50_1 := blk_frozen BK227.out 1; have hfz50_2 := blk_frozen BK227.out 2; have hfz50_3 := blk_frozen BK227.out 3; have hfz50_4 := blk_frozen BK227.out 4; have hfz50_5 := blk_frozen BK227.out 5; have hfz50_6 := blk_frozen BK227.out 6; have hfz50_7 := blk_frozen BK227.out 7; have hfz50_8 := blk_frozen BK227.out 8; have hfz50_9 := blk_frozen BK227.out 9; have hfz50_10 := blk_frozen BK227.out 10; have hfz50_11 := blk_frozen BK227.out 11; have hfz50_12 := blk_frozen BK227.out 12; have hcz51_0 : w49.cell? ⟨gb214, 0, none⟩ = some (.int .i64 a1_0) := (blk_cell BK214.out 0).trans rfl; have hcz51_1 : w49.cell? ⟨gb214, 1, none⟩ = some (.int .i64 a1_1) := (blk_cell BK214.out 1).trans rfl; have hcz51_2 : w49.cell? ⟨gb214, 2, none⟩ = some (.int .i64 a1_2) := (blk_cell BK214.out 2).trans rfl; have hcz51_3 : w49.cell? ⟨gb214, 3, none⟩ = some (.int .i64 a1_3) := (blk_cell BK214.out 3).trans rfl; have hcz51_4 : w49.cell? ⟨gb214, 4, none⟩ = some (.int .i64 a1_4) := (blk_cell BK214.out 4).trans rfl; have hcz51_5 : w49.cell? ⟨gb214, 5, none⟩ = some (.bool true) := (blk_cell BK214.out 5).trans rfl; have hfz51_0 := blk_frozen BK214.out 0; have hfz51_1 := blk_frozen BK214.out 1; have hfz51_2 := blk_frozen BK214.out 2; have hfz51_3 := blk_frozen BK214.out 3; have hfz51_4 := blk_frozen BK214.out 4; have hfz51_5 := blk_frozen BK214.out 5) | ((with_reducible refine gate_callee (f := 13) rfl ?_); refine goesL_ (some 110) rfl rfl Try.func13 (by kernel_rfl) rfl #[.pointer (some ⟨g246, 0, none⟩)] rfl (by (try simp only [List.map_toArray, List.map_cons, List.map_nil]); first | done | rfl | (simp only [List.length_drop, List.length_take]; rfl)) ?_; (with_reducible refine (guard_Guard_Brakes.calls g246 t309 t310 t311 t312 t313 t314 t315 t316 t317 t318 t319 t239 t320 t321 t322 t323 t324 t325 true t327 t328 t329 t330 t331 t332 t333 t334 t335 t336 t337 t338 t339 t340 t341 t342 t343 w _ ?side1 ?side2 A42.out).mono ?_); (case side1 => repeat (first | (with_reducible first | exact HI246.out | apply IsS48.alloc | apply IsS48.drewN | apply IsS48.drew | apply IsS48.set_0 | apply IsS48.set_1 | apply IsS48.set_2 | apply IsS48.set_3 | apply IsS48.set_4 | apply IsS48.set_5 | apply IsS48.set_6 | apply IsS48.set_7 | apply IsS48.set_8 | apply IsS48.set_9 | apply IsS48.set_10 | apply IsS48.set_12 | apply IsS48.set_13 | apply IsS48.set_14 | apply IsS48.set_15 | apply IsS48.set_16 | apply IsS48.set_17 | refine IsS48.far ?_ NB246_214.out _ | refine IsS48.far ?_ NB246_227.out _) | exact HI246.out)); (case side2 => repeat (first | (with_reducible first | exact HB.out | apply below_alloc | apply pw_below_drewN | apply below_drew1 | refine below_set ?_ (IsS48.ge HI246.out) | refine below_set ?_ GE214.out | refine below_set ?_ GE227.out) | exact HB.out)); rintro e w52 ⟨rfl, hi, hb, hk⟩; refine ⟨_, rfl, ?_⟩; have n0_ := Aside0.mk (KeepBut.blk hk (g' := gb214) (o := .cells #[.int .i64 a1_0, .int .i64 a1_1, .int .i64 a1_2, .int .i64 a1_3, .int .i64 a1_4, .bool true] 24 (0, 0)) (by (with_reducible repeat (first | refine blk_drewN ?_ _ | refine blk_drew ?_ | refine blk_alloc ?_ _)); exact BK214.out) NB214_246.out (by simp)); have n1_ := Aside0.mk (KeepBut.blk hk (g' := gb227) (o := .cells #[.int .i64 t215, .int .i64 t216, .int .i64 t217, .int .i64 t218, .int .i64 t219, .int .i64 t220, .int .i64 t221, .int .i64 t222, .int .i64 t223, .int .i64 t224, .int .i64 t225, .slice none 0 0, .int .i64 t226] 27 (0, 0)) (by (with_reducible repeat (first | refine blk_drewN ?_ _ | refine blk_drew ?_ | refine blk_alloc ?_ _)); exact BK227.out) NB227_246.out (by simp)); have n2_ := Aside0.mk (hb); have n3_ := Aside0.mk (hi); clear BK214; clear BK227; clear HB; clear HI246; have BK214 := n0_; have BK227 := n1_; have HB := n2_; have HI246 := n3_; clear n0_ n1_ n2_ n3_; (try clear hb); (try clear hb2); (try clear hk); (try clear hi)))
          go_ret
          exact ⟨by first | rfl | (simp [errW_none, errW_some] <;> rfl) | (simp only [← hji40, ← hji41]; first | rfl | (simp [errW_none, errW_some] <;> rfl)) | (simp [*, errW_none, errW_some] <;> rfl), by repeat (first | (with_reducible first | exact HB.out | apply below_alloc | apply pw_below_drewN | apply below_drew1 | refine below_set ?_ (IsS48.ge HI246.out) | refine below_set ?_ GE214.out | refine below_set ?_ GE227.out) | exact HB.out)⟩
         ·replace c43 := Bool.eq_false_iff.mpr c43
          subst c43
          have H1 : (if t308 ≥ (mn (wrap64 (Int.tdiv (wrap64 (t271 * 9)) 8)) (ji41)) then ((flywheellaw28_wakes.f).bind fun t344 => (some t344)) else (some false)) = some r := by rw [if_neg (show ¬ (false = true) by decide)] at H; exact H
          clear H
          have H := H1
          clear H1
          obtain ⟨ji53, hji53⟩ : ∃ j_ : Int, (mn (wrap64 (Int.tdiv (wrap64 (t271 * 9)) 8)) (ji41)) = j_ := ⟨_, rfl⟩
          replace H : (if t308 ≥ (ji53) then ((flywheellaw28_wakes.f).bind fun t344 => (some t344)) else (some false)) = some r := by first | (rw [hji53] at H; exact H) | (simp only [hji53] at H ⊢; exact H)
          (try rw [hji53] at A38)
          (try rw [hji53] at A42)
          have hji53_ : (if (ji41) < (wrap64 (Int.tdiv (wrap64 (t271 * 9)) 8)) then (ji41) else (wrap64 (Int.tdiv (wrap64 (t271 * 9)) 8))) = ji53 := hji53
          by_cases c54 : t308 ≥ (ji53)
          ·rw [if_pos c54] at H
           have c54b0 : decide ((ji53) ≤ t308) = true := decide_eq_true c54
           clear c54
           replace H := Option.bind_eq_some_iff.mp H
           obtain ⟨t344, A550, H⟩ := H
           replace H : (some t344) = some r := H
           have A55 := Aside0.mk A550
           clear A550
           obtain rfl := Option.some.inj H
           have hnb56 := NB214_227.out
           have hnc56 := NB227_214.out
           have hnb57 := NB214_246.out
           have hnc57 := NB246_214.out
           have hcz58_0 : wc.cell? ⟨gb214, 0, none⟩ = some (.int .i64 a1_0) := (blk_cell BK214.out 0).trans rfl
           have hcz58_1 : wc.cell? ⟨gb214, 1, none⟩ = some (.int .i64 a1_1) := (blk_cell BK214.out 1).trans rfl
           have hcz58_2 : wc.cell? ⟨gb214, 2, none⟩ = some (.int .i64 a1_2) := (blk_cell BK214.out 2).trans rfl
           have hcz58_3 : wc.cell? ⟨gb214, 3, none⟩ = some (.int .i64 a1_3) := (blk_cell BK214.out 3).trans rfl
           have hcz58_4 : wc.cell? ⟨gb214, 4, none⟩ = some (.int .i64 a1_4) := (blk_cell BK214.out 4).trans rfl
           have hcz58_5 : wc.cell? ⟨gb214, 5, none⟩ = some (.bool true) := (blk_cell BK214.out 5).trans rfl
           have hfz58_0 := blk_frozen BK214.out 0
           have hfz58_1 := blk_frozen BK214.out 1
           have hfz58_2 := blk_frozen BK214.out 2
           have hfz58_3 := blk_frozen BK214.out 3
           have hfz58_4 := blk_frozen BK214.out 4
           have hfz58_5 := blk_frozen BK214.out 5
           have hnb59 := NB227_246.out
           have hnc59 := NB246_227.out
           have hcz60_0 : wc.cell? ⟨gb227, 0, none⟩ = some (.int .i64 t215) := (blk_cell BK227.out 0).trans rfl
           have hcz60_1 : wc.cell? ⟨gb227, 1, none⟩ = some (.int .i64 t216) := (blk_cell BK227.out 1).trans rfl
           have hcz60_2 : wc.cell? ⟨gb227, 2, none⟩ = some (.int .i64 t217) := (blk_cell BK227.out 2).trans rfl
           have hcz60_3 : wc.cell? ⟨gb227, 3, none⟩ = some (.int .i64 t218) := (blk_cell BK227.out 3).trans rfl
           have hcz60_4 : wc.cell? ⟨gb227, 4, none⟩ = some (.int .i64 t219) := (blk_cell BK227.out 4).trans rfl
           have hcz60_5 : wc.cell? ⟨gb227, 5, none⟩ = some (.int .i64 t220) := (blk_cell BK227.out 5).trans rfl
           have hcz60_6 : wc.cell? ⟨gb227, 6, none⟩ = some (.int .i64 t221) := (blk_cell BK227.out 6).trans rfl
           have hcz60_7 : wc.cell? ⟨gb227, 7, none⟩ = some (.int .i64 t222) := (blk_cell BK227.out 7).trans rfl
           have hcz60_8 : wc.cell? ⟨gb227, 8, none⟩ = some (.int .i64 t223) := (blk_cell BK227.out 8).trans rfl
           have hcz60_9 : wc.cell? ⟨gb227, 9, none⟩ = some (.int .i64 t224) := (blk_cell BK227.out 9).trans rfl
           have hcz60_10 : wc.cell? ⟨gb227, 10, none⟩ = some (.int .i64 t225) := (blk_cell BK227.out 10).trans rfl
           have hcz60_11 : wc.cell? ⟨gb227, 11, none⟩ = some (.slice none 0 0) := (blk_cell BK227.out 11).trans rfl
           have hcz60_12 : wc.cell? ⟨gb227, 12, none⟩ = some (.int .i64 t226) := (blk_cell BK227.out 12).trans rfl
           have hfz60_0 := blk_frozen BK227.out 0
           have hfz60_1 := blk_frozen BK227.out 1
           have hfz60_2 := blk_frozen BK227.out 2
           have hfz60_3 := blk_frozen BK227.out 3
           have hfz60_4 := blk_frozen BK227.out 4
           have hfz60_5 := blk_frozen BK227.out 5
           have hfz60_6 := blk_frozen BK227.out 6
           have hfz60_7 := blk_frozen BK227.out 7
           have hfz60_8 := blk_frozen BK227.out 8
           have hfz60_9 := blk_frozen BK227.out 9
           have hfz60_10 := blk_frozen BK227.out 10
           have hfz60_11 := blk_frozen BK227.out 11
           have hfz60_12 := blk_frozen BK227.out 12
           go_wp2_with (first | ((with_reducible refine gate_callee (f := 11) rfl ?_); refine goesL_ (some 96) rfl rfl Try.func11 (by kernel_rfl) rfl #[.pointer (some ⟨g246, 0, none⟩), .int .i64 a1_1, .int .i64 t220, .int .i64 t271, .bool true, .int .i64 a1_4] rfl (by (try simp only [List.map_toArray, List.map_cons, List.map_nil]); first | done | rfl | (simp only [List.length_drop, List.length_take]; rfl)) ?_; (with_reducible refine (guard_Guard_Hear.calls g246 x247000_21 x247001_21 x247002_21 x247003_21 x247004_21 x247005_21 x247006_21 x247007_21 x247008_21 x247009_21 x247010_21 t239 x247012_21 x247013_21 x247014_21 x247015_21 x247016_21 x247017_21 a1_1 t220 t271 true a1_4 t308 t309 t310 t311 t312 t313 t314 t315 t316 t317 t318 t319 t320 t321 t322 t323 t324 t325 w _ ?side1 ?side2 A38.out).mono ?_); (case side1 => repeat (first | (with_reducible first | exact HI246.out | apply IsS48.alloc | apply IsS48.drewN | apply IsS48.drew | apply IsS48.set_0 | apply IsS48.set_1 | apply IsS48.set_2 | apply IsS48.set_3 | apply IsS48.set_4 | apply IsS48.set_5 | apply IsS48.set_6 | apply IsS48.set_7 | apply IsS48.set_8 | apply IsS48.set_9 | apply IsS48.set_10 | apply IsS48.set_12 | apply IsS48.set_13 | apply IsS48.set_14 | apply IsS48.set_15 | apply IsS48.set_16 | apply IsS48.set_17 | refine IsS48.far ?_ NB246_214.out _ | refine IsS48.far ?_ NB246_227.out _) | exact HI246.out)); (case side2 => repeat (first | (with_reducible first | exact HB.out | apply below_alloc | apply pw_below_drewN | apply below_drew1 | refine below_set ?_ (IsS48.ge HI246.out) | refine below_set ?_ GE214.out | refine below_set ?_ GE227.out) | exact HB.out)); rintro e w61 ⟨rfl, hi, hb, hk⟩; refine ⟨_, rfl, ?_⟩; have n0_ := Aside0.mk (KeepBut.blk hk (g' := gb214) (o := .cells #[.int .i64 a1_0, .int .i64 a1_1, .int .i64 a1_2, .int .i64 a1_3, .int .i64 a1_4, .bool true] 24 (0, 0)) (by (with_reducible repeat (first | refine blk_drewN ?_ _ | refine blk_drew ?_ | refine blk_alloc ?_ _)); exact BK214.out) NB214_246.out (by simp)); have n1_ := Aside0.mk (KeepBut.blk hk (g' := gb227) (o := .cells #[.int .i64 t215, .int .i64 t216, .int .i64 t217, .int .i64 t218, .int .i64 t219, .int .i64 t220, .int .i64 t221, .int .i64 t222, .int .i64 t223, .int .i64 t224, .int .i64 t225, .slice none 0 0, .int .i64 t226] 27 (0, 0)) (by (with_reducible repeat (first | refine blk_drewN ?_ _ | refine blk_drew ?_ | refine blk_alloc ?_ _)); exact BK227.out) NB227_246.out (by simp)); have n2_ := Aside0.mk (hb); have n3_ := Aside0.mk (hi); clear BK214; clear BK227; clear HB; clear HI246; have BK214 := n0_; have BK227 := n1_; have HB := n2_; have HI246 := n3_; clear n0_ n1_ n2_ n3_; (try clear hb); (try clear hb2); (try clear hk); (try clear hi); have hcz62_0 : w61.cell? ⟨gb227, 0, none⟩ = some (.int .i64 t215) := (blk_cell BK227.out 0).trans rfl; have hcz62_1 : w61.cell? ⟨gb227, 1, none⟩ = some (.int .i64 t216) := (blk_cell BK227.out 1).trans rfl; have hcz62_2 : w61.cell? ⟨gb227, 2, none⟩ = some (.int .i64 t217) := (blk_cell BK227.out 2).trans rfl; have hcz62_3 : w61.cell? ⟨gb227, 3, none⟩ = some (.int .i64 t218) := (blk_cell BK227.out 3).trans rfl; have hcz62_4 : w61.cell? ⟨gb227, 4, none⟩ = some (.int .i64 t219) := (blk_cell BK227.out 4).trans rfl; have hcz62_5 : w61.cell? ⟨gb227, 5, none⟩ = some (.int .i64 t220) := (blk_cell BK227.out 5).trans rfl; have hcz62_6 : w61.cell? ⟨gb227, 6, none⟩ = some (.int .i64 t221) := (blk_cell BK227.out 6).trans rfl; have hcz62_7 : w61.cell? ⟨gb227, 7, none⟩ = some (.int .i64 t222) := (blk_cell BK227.out 7).trans rfl; have hcz62_8 : w61.cell? ⟨gb227, 8, none⟩ = some (.int .i64 t223) := (blk_cell BK227.out 8).trans rfl; have hcz62_9 : w61.cell? ⟨gb227, 9, none⟩ = some (.int .i64 t224) := (blk_cell BK227.out 9).trans rfl; have hcz62_10 : w61.cell? ⟨gb227, 10, none⟩ = some (.int .i64 t225) := (blk_cell BK227.out 10).trans rfl; have hcz62_11 : w61.cell? ⟨gb227, 11, none⟩ = some (.slice none 0 0) := (blk_cell BK227.out 11).trans rfl; have hcz62_12 : w61.cell? ⟨gb227, 12, none⟩ = some (.int .i64 t226) := (blk_cell BK227.out 12).trans rfl; have hfz62_0 := blk_frozen BK227.out 0; have hfz62_1 := blk_frozen BK227.out 1; have hfz62_2 := blk_frozen BK227.out 2; have hfz62_3 := blk_frozen BK227.out 3; have hfz62_4 := blk_frozen BK227.out 4; have hfz62_5 := blk_frozen BK227.out 5; have hfz62_6 := blk_frozen BK227.out 6; have hfz62_7 := blk_frozen BK227.out 7; have hfz62_8 := blk_frozen BK227.out 8; have hfz62_9 := blk_frozen BK227.out 9; have hfz62_10 := blk_frozen BK227.out 10; have hfz62_11 := blk_frozen BK227.out 11; have hfz62_12 := blk_frozen BK227.out 12; have hcz63_0 : w61.cell? ⟨gb214, 0, none⟩ = some (.int .i64 a1_0) := (blk_cell BK214.out 0).trans rfl; have hcz63_1 : w61.cell? ⟨gb214, 1, none⟩ = some (.int .i64 a1_1) := (blk_cell BK214.out 1).trans rfl; have hcz63_2 : w61.cell? ⟨gb214, 2, none⟩ = some (.int .i64 a1_2) := (blk_cell BK214.out 2).trans rfl; have hcz63_3 : w61.cell? ⟨gb214, 3, none⟩ = some (.int .i64 a1_3) := (blk_cell BK214.out 3).trans rfl; have hcz63_4 : w61.cell? ⟨gb214, 4, none⟩ = some (.int .i64 a1_4) := (blk_cell BK214.out 4).trans rfl; have hcz63_5 : w61.cell? ⟨gb214, 5, none⟩ = some (.bool true) := (blk_cell BK214.out 5).trans rfl; have hfz63_0 := blk_frozen BK214.out 0; have hfz63_1 := blk_frozen BK214.out 1; have hfz63_2 := blk_frozen BK214.out 2; have hfz63_3 := blk_frozen BK214.out 3; have hfz63_4 := blk_frozen BK214.out 4; have hfz63_5 := blk_frozen BK214.out 5) | ((with_reducible refine gate_callee (f := 13) rfl ?_); refine goesL_ (some 110) rfl rfl Try.func13 (by kernel_rfl) rfl #[.pointer (some ⟨g246, 0, none⟩)] rfl (by (try simp only [List.map_toArray, List.map_cons, List.map_nil]); first | done | rfl | (simp only [List.length_drop, List.length_take]; rfl)) ?_; (with_reducible refine (guard_Guard_Brakes.calls g246 t309 t310 t311 t312 t313 t314 t315 t316 t317 t318 t319 t239 t320 t321 t322 t323 t324 t325 false t327 t328 t329 t330 t331 t332 t333 t334 t335 t336 t337 t338 t339 t340 t341 t342 t343 w _ ?side1 ?side2 A42.out).mono ?_); (case side1 => repeat (first | (with_reducible first | exact HI246.out | apply IsS48.alloc | apply IsS48.drewN | apply IsS48.drew | apply IsS48.set_0 | apply IsS48.set_1 | apply IsS48.set_2 | apply IsS48.set_3 | apply IsS48.set_4 | apply IsS48.set_5 | apply IsS48.set_6 | apply IsS48.set_7 | apply IsS48.set_8 | apply IsS48.set_9 | apply IsS48.set_10 | apply IsS48.set_12 | apply IsS48.set_13 | apply IsS48.set_14 | apply IsS48.set_15 | apply IsS48.set_16 | apply IsS48.set_17 | refine IsS48.far ?_ NB246_214.out _ | refine IsS48.far ?_ NB246_227.out _) | exact HI246.out)); (case side2 => repeat (first | (with_reducible first | exact HB.out | apply below_alloc | apply pw_below_drewN | apply below_drew1 | refine below_set ?_ (IsS48.ge HI246.out) | refine below_set ?_ GE214.out | refine below_set ?_ GE227.out) | exact HB.out)); rintro e w64 ⟨rfl, hi, hb, hk⟩; refine ⟨_, rfl, ?_⟩; have n0_ := Aside0.mk (KeepBut.blk hk (g' := gb214) (o := .cells #[.int .i64 a1_0, .int .i64 a1_1, .int .i64 a1_2, .int .i64 a1_3, .int .i64 a1_4, .bool true] 24 (0, 0)) (by (with_reducible repeat (first | refine blk_drewN ?_ _ | refine blk_drew ?_ | refine blk_alloc ?_ _)); exact BK214.out) NB214_246.out (by simp)); have n1_ := Aside0.mk (KeepBut.blk hk (g' := gb227) (o := .cells #[.int .i64 t215, .int .i64 t216, .int .i64 t217, .int .i64 t218, .int .i64 t219, .int .i64 t220, .int .i64 t221, .int .i64 t222, .int .i64 t223, .int .i64 t224, .int .i64 t225, .slice none 0 0, .int .i64 t226] 27 (0, 0)) (by (with_reducible repeat (first | refine blk_drewN ?_ _ | refine blk_drew ?_ | refine blk_alloc ?_ _)); exact BK227.out) NB227_246.out (by simp)); have n2_ := Aside0.mk (hb); have n3_ := Aside0.mk (hi); clear BK214; clear BK227; clear HB; clear HI246; have BK214 := n0_; have BK227 := n1_; have HB := n2_; have HI246 := n3_; clear n0_ n1_ n2_ n3_; (try clear hb); (try clear hb2); (try clear hk); (try clear hi)) | (go_at_call 14; (with_reducible refine (flywheellaw28_wakes.calls  t344 _ A55.out).mono ?_); rintro e w65 ⟨rfl, hb⟩; have n0_ := Aside0.mk (blk_below (g := gb214) (o := .cells #[.int .i64 a1_0, .int .i64 a1_1, .int .i64 a1_2, .int .i64 a1_3, .int .i64 a1_4, .bool true] 24 (0, 0)) (by (with_reducible repeat (first | refine blk_drewN ?_ _ | refine blk_drew ?_ | refine blk_alloc ?_ _)); exact BK214.out) hb); have n1_ := Aside0.mk (blk_below (g := gb227) (o := .cells #[.int .i64 t215, .int .i64 t216, .int .i64 t217, .int .i64 t218, .int .i64 t219, .int .i64 t220, .int .i64 t221, .int .i64 t222, .int .i64 t223, .int .i64 t224, .int .i64 t225, .slice none 0 0, .int .i64 t226] 27 (0, 0)) (by (with_reducible repeat (first | refine blk_drewN ?_ _ | refine blk_drew ?_ | refine blk_alloc ?_ _)); exact BK227.out) hb); have n2_ := Aside0.mk (IsS48.below (by repeat (first | (with_reducible first | exact HI246.out | apply IsS48.alloc | apply IsS48.drewN | apply IsS48.drew | apply IsS48.set_0 | apply IsS48.set_1 | apply IsS48.set_2 | apply IsS48.set_3 | apply IsS48.set_4 | apply IsS48.set_5 | apply IsS48.set_6 | apply IsS48.set_7 | apply IsS48.set_8 | apply IsS48.set_9 | apply IsS48.set_10 | apply IsS48.set_12 | apply IsS48.set_13 | apply IsS48.set_14 | apply IsS48.set_15 | apply IsS48.set_16 | apply IsS48.set_17 | refine IsS48.far ?_ NB246_214.out _ | refine IsS48.far ?_ NB246_227.out _) | exact HI246.out)) hb); have n3_ := Aside0.mk (below_step (by repeat (first | (with_reducible first | exact HB.out | apply below_alloc | apply pw_below_drewN | apply below_drew1 | refine below_set ?_ (IsS48.ge HI246.out) | refine below_set ?_ GE214.out | refine below_set ?_ GE227.out) | exact HB.out)) hb); clear BK214; clear BK227; clear HI246; clear HB; have BK214 := n0_; have BK227 := n1_; have HI246 := n2_; have HB := n3_; clear n0_ n1_ n2_ n3_; (try clear hb); (try clear hb2); (try clear hk); (try clear hi)))
           go_ret
           exact ⟨by first | rfl | (simp [errW_none, errW_some] <;> rfl) | (simp only [← hji40, ← hji41, ← hji53]; first | rfl | (simp [errW_none, errW_some] <;> rfl)) | (simp [*, errW_none, errW_some] <;> rfl), by repeat (first | (with_reducible first | exact HB.out | apply below_alloc | apply pw_below_drewN | apply below_drew1 | refine below_set ?_ (IsS48.ge HI246.out) | refine below_set ?_ GE214.out | refine below_set ?_ GE227.out) | exact HB.out)⟩
          ·rw [if_neg c54] at H
           have c54b0 : decide ((ji53) ≤ t308) = false := decide_eq_false c54
           clear c54
           obtain rfl := Option.some.inj H
           have hnb66 := NB214_227.out
           have hnc66 := NB227_214.out
           have hnb67 := NB214_246.out
           have hnc67 := NB246_214.out
           have hcz68_0 : wc.cell? ⟨gb214, 0, none⟩ = some (.int .i64 a1_0) := (blk_cell BK214.out 0).trans rfl
           have hcz68_1 : wc.cell? ⟨gb214, 1, none⟩ = some (.int .i64 a1_1) := (blk_cell BK214.out 1).trans rfl
           have hcz68_2 : wc.cell? ⟨gb214, 2, none⟩ = some (.int .i64 a1_2) := (blk_cell BK214.out 2).trans rfl
           have hcz68_3 : wc.cell? ⟨gb214, 3, none⟩ = some (.int .i64 a1_3) := (blk_cell BK214.out 3).trans rfl
           have hcz68_4 : wc.cell? ⟨gb214, 4, none⟩ = some (.int .i64 a1_4) := (blk_cell BK214.out 4).trans rfl
           have hcz68_5 : wc.cell? ⟨gb214, 5, none⟩ = some (.bool true) := (blk_cell BK214.out 5).trans rfl
           have hfz68_0 := blk_frozen BK214.out 0
           have hfz68_1 := blk_frozen BK214.out 1
           have hfz68_2 := blk_frozen BK214.out 2
           have hfz68_3 := blk_frozen BK214.out 3
           have hfz68_4 := blk_frozen BK214.out 4
           have hfz68_5 := blk_frozen BK214.out 5
           have hnb69 := NB227_246.out
           have hnc69 := NB246_227.out
           have hcz70_0 : wc.cell? ⟨gb227, 0, none⟩ = some (.int .i64 t215) := (blk_cell BK227.out 0).trans rfl
           have hcz70_1 : wc.cell? ⟨gb227, 1, none⟩ = some (.int .i64 t216) := (blk_cell BK227.out 1).trans rfl
           have hcz70_2 : wc.cell? ⟨gb227, 2, none⟩ = some (.int .i64 t217) := (blk_cell BK227.out 2).trans rfl
           have hcz70_3 : wc.cell? ⟨gb227, 3, none⟩ = some (.int .i64 t218) := (blk_cell BK227.out 3).trans rfl
           have hcz70_4 : wc.cell? ⟨gb227, 4, none⟩ = some (.int .i64 t219) := (blk_cell BK227.out 4).trans rfl
           have hcz70_5 : wc.cell? ⟨gb227, 5, none⟩ = some (.int .i64 t220) := (blk_cell BK227.out 5).trans rfl
           have hcz70_6 : wc.cell? ⟨gb227, 6, none⟩ = some (.int .i64 t221) := (blk_cell BK227.out 6).trans rfl
           have hcz70_7 : wc.cell? ⟨gb227, 7, none⟩ = some (.int .i64 t222) := (blk_cell BK227.out 7).trans rfl
           have hcz70_8 : wc.cell? ⟨gb227, 8, none⟩ = some (.int .i64 t223) := (blk_cell BK227.out 8).trans rfl
           have hcz70_9 : wc.cell? ⟨gb227, 9, none⟩ = some (.int .i64 t224) := (blk_cell BK227.out 9).trans rfl
           have hcz70_10 : wc.cell? ⟨gb227, 10, none⟩ = some (.int .i64 t225) := (blk_cell BK227.out 10).trans rfl
           have hcz70_11 : wc.cell? ⟨gb227, 11, none⟩ = some (.slice none 0 0) := (blk_cell BK227.out 11).trans rfl
           have hcz70_12 : wc.cell? ⟨gb227, 12, none⟩ = some (.int .i64 t226) := (blk_cell BK227.out 12).trans rfl
           have hfz70_0 := blk_frozen BK227.out 0
           have hfz70_1 := blk_frozen BK227.out 1
           have hfz70_2 := blk_frozen BK227.out 2
           have hfz70_3 := blk_frozen BK227.out 3
           have hfz70_4 := blk_frozen BK227.out 4
           have hfz70_5 := blk_frozen BK227.out 5
           have hfz70_6 := blk_frozen BK227.out 6
           have hfz70_7 := blk_frozen BK227.out 7
           have hfz70_8 := blk_frozen BK227.out 8
           have hfz70_9 := blk_frozen BK227.out 9
           have hfz70_10 := blk_frozen BK227.out 10
           have hfz70_11 := blk_frozen BK227.out 11
           have hfz70_12 := blk_frozen BK227.out 12
           go_wp2_with (first | ((with_reducible refine gate_callee (f := 11) rfl ?_); refine goesL_ (some 96) rfl rfl Try.func11 (by kernel_rfl) rfl #[.pointer (some ⟨g246, 0, none⟩), .int .i64 a1_1, .int .i64 t220, .int .i64 t271, .bool true, .int .i64 a1_4] rfl (by (try simp only [List.map_toArray, List.map_cons, List.map_nil]); first | done | rfl | (simp only [List.length_drop, List.length_take]; rfl)) ?_; (with_reducible refine (guard_Guard_Hear.calls g246 x247000_21 x247001_21 x247002_21 x247003_21 x247004_21 x247005_21 x247006_21 x247007_21 x247008_21 x247009_21 x247010_21 t239 x247012_21 x247013_21 x247014_21 x247015_21 x247016_21 x247017_21 a1_1 t220 t271 true a1_4 t308 t309 t310 t311 t312 t313 t314 t315 t316 t317 t318 t319 t320 t321 t322 t323 t324 t325 w _ ?side1 ?side2 A38.out).mono ?_); (case side1 => repeat (first | (with_reducible first | exact HI246.out | apply IsS48.alloc | apply IsS48.drewN | apply IsS48.drew | apply IsS48.set_0 | apply IsS48.set_1 | apply IsS48.set_2 | apply IsS48.set_3 | apply IsS48.set_4 | apply IsS48.set_5 | apply IsS48.set_6 | apply IsS48.set_7 | apply IsS48.set_8 | apply IsS48.set_9 | apply IsS48.set_10 | apply IsS48.set_12 | apply IsS48.set_13 | apply IsS48.set_14 | apply IsS48.set_15 | apply IsS48.set_16 | apply IsS48.set_17 | refine IsS48.far ?_ NB246_214.out _ | refine IsS48.far ?_ NB246_227.out _) | exact HI246.out)); (case side2 => repeat (first | (with_reducible first | exact HB.out | apply below_alloc | apply pw_below_drewN | apply below_drew1 | refine below_set ?_ (IsS48.ge HI246.out) | refine below_set ?_ GE214.out | refine below_set ?_ GE227.out) | exact HB.out)); rintro e w71 ⟨rfl, hi, hb, hk⟩; refine ⟨_, rfl, ?_⟩; have n0_ := Aside0.mk (KeepBut.blk hk (g' := gb214) (o := .cells #[.int .i64 a1_0, .int .i64 a1_1, .int .i64 a1_2, .int .i64 a1_3, .int .i64 a1_4, .bool true] 24 (0, 0)) (by (with_reducible repeat (first | refine blk_drewN ?_ _ | refine blk_drew ?_ | refine blk_alloc ?_ _)); exact BK214.out) NB214_246.out (by simp)); have n1_ := Aside0.mk (KeepBut.blk hk (g' := gb227) (o := .cells #[.int .i64 t215, .int .i64 t216, .int .i64 t217, .int .i64 t218, .int .i64 t219, .int .i64 t220, .int .i64 t221, .int .i64 t222, .int .i64 t223, .int .i64 t224, .int .i64 t225, .slice none 0 0, .int .i64 t226] 27 (0, 0)) (by (with_reducible repeat (first | refine blk_drewN ?_ _ | refine blk_drew ?_ | refine blk_alloc ?_ _)); exact BK227.out) NB227_246.out (by simp)); have n2_ := Aside0.mk (hb); have n3_ := Aside0.mk (hi); clear BK214; clear BK227; clear HB; clear HI246; have BK214 := n0_; have BK227 := n1_; have HB := n2_; have HI246 := n3_; clear n0_ n1_ n2_ n3_; (try clear hb); (try clear hb2); (try clear hk); (try clear hi); have hcz72_0 : w71.cell? ⟨gb227, 0, none⟩ = some (.int .i64 t215) := (blk_cell BK227.out 0).trans rfl; have hcz72_1 : w71.cell? ⟨gb227, 1, none⟩ = some (.int .i64 t216) := (blk_cell BK227.out 1).trans rfl; have hcz72_2 : w71.cell? ⟨gb227, 2, none⟩ = some (.int .i64 t217) := (blk_cell BK227.out 2).trans rfl; have hcz72_3 : w71.cell? ⟨gb227, 3, none⟩ = some (.int .i64 t218) := (blk_cell BK227.out 3).trans rfl; have hcz72_4 : w71.cell? ⟨gb227, 4, none⟩ = some (.int .i64 t219) := (blk_cell BK227.out 4).trans rfl; have hcz72_5 : w71.cell? ⟨gb227, 5, none⟩ = some (.int .i64 t220) := (blk_cell BK227.out 5).trans rfl; have hcz72_6 : w71.cell? ⟨gb227, 6, none⟩ = some (.int .i64 t221) := (blk_cell BK227.out 6).trans rfl; have hcz72_7 : w71.cell? ⟨gb227, 7, none⟩ = some (.int .i64 t222) := (blk_cell BK227.out 7).trans rfl; have hcz72_8 : w71.cell? ⟨gb227, 8, none⟩ = some (.int .i64 t223) := (blk_cell BK227.out 8).trans rfl; have hcz72_9 : w71.cell? ⟨gb227, 9, none⟩ = some (.int .i64 t224) := (blk_cell BK227.out 9).trans rfl; have hcz72_10 : w71.cell? ⟨gb227, 10, none⟩ = some (.int .i64 t225) := (blk_cell BK227.out 10).trans rfl; have hcz72_11 : w71.cell? ⟨gb227, 11, none⟩ = some (.slice none 0 0) := (blk_cell BK227.out 11).trans rfl; have hcz72_12 : w71.cell? ⟨gb227, 12, none⟩ = some (.int .i64 t226) := (blk_cell BK227.out 12).trans rfl; have hfz72_0 := blk_frozen BK227.out 0; have hfz72_1 := blk_frozen BK227.out 1; have hfz72_2 := blk_frozen BK227.out 2; have hfz72_3 := blk_frozen BK227.out 3; have hfz72_4 := blk_frozen BK227.out 4; have hfz72_5 := blk_frozen BK227.out 5; have hfz72_6 := blk_frozen BK227.out 6; have hfz72_7 := blk_frozen BK227.out 7; have hfz72_8 := blk_frozen BK227.out 8; have hfz72_9 := blk_frozen BK227.out 9; have hfz72_10 := blk_frozen BK227.out 10; have hfz72_11 := blk_frozen BK227.out 11; have hfz72_12 := blk_frozen BK227.out 12; have hcz73_0 : w71.cell? ⟨gb214, 0, none⟩ = some (.int .i64 a1_0) := (blk_cell BK214.out 0).trans rfl; have hcz73_1 : w71.cell? ⟨gb214, 1, none⟩ = some (.int .i64 a1_1) := (blk_cell BK214.out 1).trans rfl; have hcz73_2 : w71.cell? ⟨gb214, 2, none⟩ = some (.int .i64 a1_2) := (blk_cell BK214.out 2).trans rfl; have hcz73_3 : w71.cell? ⟨gb214, 3, none⟩ = some (.int .i64 a1_3) := (blk_cell BK214.out 3).trans rfl; have hcz73_4 : w71.cell? ⟨gb214, 4, none⟩ = some (.int .i64 a1_4) := (blk_cell BK214.out 4).trans rfl; have hcz73_5 : w71.cell? ⟨gb214, 5, none⟩ = some (.bool true) := (blk_cell BK214.out 5).trans rfl; have hfz73_0 := blk_frozen BK214.out 0; have hfz73_1 := blk_frozen BK214.out 1; have hfz73_2 := blk_frozen BK214.out 2; have hfz73_3 := blk_frozen BK214.out 3; have hfz73_4 := blk_frozen BK214.out 4; have hfz73_5 := blk_frozen BK214.out 5) | ((with_reducible refine gate_callee (f := 13) rfl ?_); refine goesL_ (some 110) rfl rfl Try.func13 (by kernel_rfl) rfl #[.pointer (some ⟨g246, 0, none⟩)] rfl (by (try simp only [List.map_toArray, List.map_cons, List.map_nil]); first | done | rfl | (simp only [List.length_drop, List.length_take]; rfl)) ?_; (with_reducible refine (guard_Guard_Brakes.calls g246 t309 t310 t311 t312 t313 t314 t315 t316 t317 t318 t319 t239 t320 t321 t322 t323 t324 t325 false t327 t328 t329 t330 t331 t332 t333 t334 t335 t336 t337 t338 t339 t340 t341 t342 t343 w _ ?side1 ?side2 A42.out).mono ?_); (case side1 => repeat (first | (with_reducible first | exact HI246.out | apply IsS48.alloc | apply IsS48.drewN | apply IsS48.drew | apply IsS48.set_0 | apply IsS48.set_1 | apply IsS48.set_2 | apply IsS48.set_3 | apply IsS48.set_4 | apply IsS48.set_5 | apply IsS48.set_6 | apply IsS48.set_7 | apply IsS48.set_8 | apply IsS48.set_9 | apply IsS48.set_10 | apply IsS48.set_12 | apply IsS48.set_13 | apply IsS48.set_14 | apply IsS48.set_15 | apply IsS48.set_16 | apply IsS48.set_17 | refine IsS48.far ?_ NB246_214.out _ | refine IsS48.far ?_ NB246_227.out _) | exact HI246.out)); (case side2 => repeat (first | (with_reducible first | exact HB.out | apply below_alloc | apply pw_below_drewN | apply below_drew1 | refine below_set ?_ (IsS48.ge HI246.out) | refine below_set ?_ GE214.out | refine below_set ?_ GE227.out) | exact HB.out)); rintro e w74 ⟨rfl, hi, hb, hk⟩; refine ⟨_, rfl, ?_⟩; have n0_ := Aside0.mk (KeepBut.blk hk (g' := gb214) (o := .cells #[.int .i64 a1_0, .int .i64 a1_1, .int .i64 a1_2, .int .i64 a1_3, .int .i64 a1_4, .bool true] 24 (0, 0)) (by (with_reducible repeat (first | refine blk_drewN ?_ _ | refine blk_drew ?_ | refine blk_alloc ?_ _)); exact BK214.out) NB214_246.out (by simp)); have n1_ := Aside0.mk (KeepBut.blk hk (g' := gb227) (o := .cells #[.int .i64 t215, .int .i64 t216, .int .i64 t217, .int .i64 t218, .int .i64 t219, .int .i64 t220, .int .i64 t221, .int .i64 t222, .int .i64 t223, .int .i64 t224, .int .i64 t225, .slice none 0 0, .int .i64 t226] 27 (0, 0)) (by (with_reducible repeat (first | refine blk_drewN ?_ _ | refine blk_drew ?_ | refine blk_alloc ?_ _)); exact BK227.out) NB227_246.out (by simp)); have n2_ := Aside0.mk (hb); have n3_ := Aside0.mk (hi); clear BK214; clear BK227; clear HB; clear HI246; have BK214 := n0_; have BK227 := n1_; have HB := n2_; have HI246 := n3_; clear n0_ n1_ n2_ n3_; (try clear hb); (try clear hb2); (try clear hk); (try clear hi)))
           go_ret
           exact ⟨by first | rfl | (simp [errW_none, errW_some] <;> rfl) | (simp only [← hji40, ← hji41, ← hji53]; first | rfl | (simp [errW_none, errW_some] <;> rfl)) | (simp [*, errW_none, errW_some] <;> rfl), by repeat (first | (with_reducible first | exact HB.out | apply below_alloc | apply pw_below_drewN | apply below_drew1 | refine below_set ?_ (IsS48.ge HI246.out) | refine below_set ?_ GE214.out | refine below_set ?_ GE227.out) | exact HB.out)⟩
        ·replace c39 := Bool.eq_false_iff.mpr c39
         subst c39
         have H1 : ((guard_Guard_Brakes.f t309 t310 t311 t312 t313 t314 t315 t316 t317 t318 t319 t239 t320 t321 t322 t323 t324 t325).bind fun bt345 => (if bt345.1 = true then (some false) else (if t308 ≥ (mn (wrap64 (Int.tdiv (wrap64 (t271 * 9)) 8)) t217) then ((flywheellaw28_wakes.f).bind fun t363 => (some t363)) else (some false)))) = some r := by rw [if_neg (show ¬ (false = true) by decide)] at H; exact H
         clear H
         have H := H1
         clear H1
         replace H := Option.bind_eq_some_iff.mp H
         obtain ⟨⟨t345, t346, t347, t348, t349, t350, t351, t352, t353, t354, t355, t356, t357, t358, t359, t360, t361, t362⟩, A750, H⟩ := H
         replace H : (if t345 = true then (some false) else (if t308 ≥ (mn (wrap64 (Int.tdiv (wrap64 (t271 * 9)) 8)) t217) then ((flywheellaw28_wakes.f).bind fun t363 => (some t363)) else (some false))) = some r := H
         have A75 := Aside0.mk A750
         clear A750
         by_cases c76 : t345 = true
         ·subst c76
          have H1 : (some false) = some r := by rw [if_pos rfl] at H; exact H
          clear H
          have H := H1
          clear H1
          obtain rfl := Option.some.inj H
          have hnb77 := NB214_227.out
          have hnc77 := NB227_214.out
          have hnb78 := NB214_246.out
          have hnc78 := NB246_214.out
          have hcz79_0 : wc.cell? ⟨gb214, 0, none⟩ = some (.int .i64 a1_0) := (blk_cell BK214.out 0).trans rfl
          have hcz79_1 : wc.cell? ⟨gb214, 1, none⟩ = some (.int .i64 a1_1) := (blk_cell BK214.out 1).trans rfl
          have hcz79_2 : wc.cell? ⟨gb214, 2, none⟩ = some (.int .i64 a1_2) := (blk_cell BK214.out 2).trans rfl
          have hcz79_3 : wc.cell? ⟨gb214, 3, none⟩ = some (.int .i64 a1_3) := (blk_cell BK214.out 3).trans rfl
          have hcz79_4 : wc.cell? ⟨gb214, 4, none⟩ = some (.int .i64 a1_4) := (blk_cell BK214.out 4).trans rfl
          have hcz79_5 : wc.cell? ⟨gb214, 5, none⟩ = some (.bool false) := (blk_cell BK214.out 5).trans rfl
          have hfz79_0 := blk_frozen BK214.out 0
          have hfz79_1 := blk_frozen BK214.out 1
          have hfz79_2 := blk_frozen BK214.out 2
          have hfz79_3 := blk_frozen BK214.out 3
          have hfz79_4 := blk_frozen BK214.out 4
          have hfz79_5 := blk_frozen BK214.out 5
          have hnb80 := NB227_246.out
          have hnc80 := NB246_227.out
          have hcz81_0 : wc.cell? ⟨gb227, 0, none⟩ = some (.int .i64 t215) := (blk_cell BK227.out 0).trans rfl
          have hcz81_1 : wc.cell? ⟨gb227, 1, none⟩ = some (.int .i64 t216) := (blk_cell BK227.out 1).trans rfl
          have hcz81_2 : wc.cell? ⟨gb227, 2, none⟩ = some (.int .i64 t217) := (blk_cell BK227.out 2).trans rfl
          have hcz81_3 : wc.cell? ⟨gb227, 3, none⟩ = some (.int .i64 t218) := (blk_cell BK227.out 3).trans rfl
          have hcz81_4 : wc.cell? ⟨gb227, 4, none⟩ = some (.int .i64 t219) := (blk_cell BK227.out 4).trans rfl
          have hcz81_5 : wc.cell? ⟨gb227, 5, none⟩ = some (.int .i64 t220) := (blk_cell BK227.out 5).trans rfl
          have hcz81_6 : wc.cell? ⟨gb227, 6, none⟩ = some (.int .i64 t221) := (blk_cell BK227.out 6).trans rfl
          have hcz81_7 : wc.cell? ⟨gb227, 7, none⟩ = some (.int .i64 t222) := (blk_cell BK227.out 7).trans rfl
          have hcz81_8 : wc.cell? ⟨gb227, 8, none⟩ = some (.int .i64 t223) := (blk_cell BK227.out 8).trans rfl
          have hcz81_9 : wc.cell? ⟨gb227, 9, none⟩ = some (.int .i64 t224) := (blk_cell BK227.out 9).trans rfl
          have hcz81_10 : wc.cell? ⟨gb227, 10, none⟩ = some (.int .i64 t225) := (blk_cell BK227.out 10).trans rfl
          have hcz81_11 : wc.cell? ⟨gb227, 11, none⟩ = some (.slice none 0 0) := (blk_cell BK227.out 11).trans rfl
          have hcz81_12 : wc.cell? ⟨gb227, 12, none⟩ = some (.int .i64 t226) := (blk_cell BK227.out 12).trans rfl
          have hfz81_0 := blk_frozen BK227.out 0
          have hfz81_1 := blk_frozen BK227.out 1
          have hfz81_2 := blk_frozen BK227.out 2
          have hfz81_3 := blk_frozen BK227.out 3
          have hfz81_4 := blk_frozen BK227.out 4
          have hfz81_5 := blk_frozen BK227.out 5
          have hfz81_6 := blk_frozen BK227.out 6
          have hfz81_7 := blk_frozen BK227.out 7
          have hfz81_8 := blk_frozen BK227.out 8
          have hfz81_9 := blk_frozen BK227.out 9
          have hfz81_10 := blk_frozen BK227.out 10
          have hfz81_11 := blk_frozen BK227.out 11
          have hfz81_12 := blk_frozen BK227.out 12
          go_wp2_with (first | ((with_reducible refine gate_callee (f := 11) rfl ?_); refine goesL_ (some 96) rfl rfl Try.func11 (by kernel_rfl) rfl #[.pointer (some ⟨g246, 0, none⟩), .int .i64 a1_1, .int .i64 t220, .int .i64 t271, .bool false, .int .i64 a1_4] rfl (by (try simp only [List.map_toArray, List.map_cons, List.map_nil]); first | done | rfl | (simp only [List.length_drop, List.length_take]; rfl)) ?_; (with_reducible refine (guard_Guard_Hear.calls g246 x247000_21 x247001_21 x247002_21 x247003_21 x247004_21 x247005_21 x247006_21 x247007_21 x247008_21 x247009_21 x247010_21 t239 x247012_21 x247013_21 x247014_21 x247015_21 x247016_21 x247017_21 a1_1 t220 t271 false a1_4 t308 t309 t310 t311 t312 t313 t314 t315 t316 t317 t318 t319 t320 t321 t322 t323 t324 t325 w _ ?side1 ?side2 A38.out).mono ?_); (case side1 => repeat (first | (with_reducible first | exact HI246.out | apply IsS48.alloc | apply IsS48.drewN | apply IsS48.drew | apply IsS48.set_0 | apply IsS48.set_1 | apply IsS48.set_2 | apply IsS48.set_3 | apply IsS48.set_4 | apply IsS48.set_5 | apply IsS48.set_6 | apply IsS48.set_7 | apply IsS48.set_8 | apply IsS48.set_9 | apply IsS48.set_10 | apply IsS48.set_12 | apply IsS48.set_13 | apply IsS48.set_14 | apply IsS48.set_15 | apply IsS48.set_16 | apply IsS48.set_17 | refine IsS48.far ?_ NB246_214.out _ | refine IsS48.far ?_ NB246_227.out _) | exact HI246.out)); (case side2 => repeat (first | (with_reducible first | exact HB.out | apply below_alloc | apply pw_below_drewN | apply below_drew1 | refine below_set ?_ (IsS48.ge HI246.out) | refine below_set ?_ GE214.out | refine below_set ?_ GE227.out) | exact HB.out)); rintro e w82 ⟨rfl, hi, hb, hk⟩; refine ⟨_, rfl, ?_⟩; have n0_ := Aside0.mk (KeepBut.blk hk (g' := gb214) (o := .cells #[.int .i64 a1_0, .int .i64 a1_1, .int .i64 a1_2, .int .i64 a1_3, .int .i64 a1_4, .bool false] 24 (0, 0)) (by (with_reducible repeat (first | refine blk_drewN ?_ _ | refine blk_drew ?_ | refine blk_alloc ?_ _)); exact BK214.out) NB214_246.out (by simp)); have n1_ := Aside0.mk (KeepBut.blk hk (g' := gb227) (o := .cells #[.int .i64 t215, .int .i64 t216, .int .i64 t217, .int .i64 t218, .int .i64 t219, .int .i64 t220, .int .i64 t221, .int .i64 t222, .int .i64 t223, .int .i64 t224, .int .i64 t225, .slice none 0 0, .int .i64 t226] 27 (0, 0)) (by (with_reducible repeat (first | refine blk_drewN ?_ _ | refine blk_drew ?_ | refine blk_alloc ?_ _)); exact BK227.out) NB227_246.out (by simp)); have n2_ := Aside0.mk (hb); have n3_ := Aside0.mk (hi); clear BK214; clear BK227; clear HB; clear HI246; have BK214 := n0_; have BK227 := n1_; have HB := n2_; have HI246 := n3_; clear n0_ n1_ n2_ n3_; (try clear hb); (try clear hb2); (try clear hk); (try clear hi); have hcz83_0 : w82.cell? ⟨gb227, 0, none⟩ = some (.int .i64 t215) := (blk_cell BK227.out 0).trans rfl; have hcz83_1 : w82.cell? ⟨gb227, 1, none⟩ = some (.int .i64 t216) := (blk_cell BK227.out 1).trans rfl; have hcz83_2 : w82.cell? ⟨gb227, 2, none⟩ = some (.int .i64 t217) := (blk_cell BK227.out 2).trans rfl; have hcz83_3 : w82.cell? ⟨gb227, 3, none⟩ = some (.int .i64 t218) := (blk_cell BK227.out 3).trans rfl; have hcz83_4 : w82.cell? ⟨gb227, 4, none⟩ = some (.int .i64 t219) := (blk_cell BK227.out 4).trans rfl; have hcz83_5 : w82.cell? ⟨gb227, 5, none⟩ = some (.int .i64 t220) := (blk_cell BK227.out 5).trans rfl; have hcz83_6 : w82.cell? ⟨gb227, 6, none⟩ = some (.int .i64 t221) := (blk_cell BK227.out 6).trans rfl; have hcz83_7 : w82.cell? ⟨gb227, 7, none⟩ = some (.int .i64 t222) := (blk_cell BK227.out 7).trans rfl; have hcz83_8 : w82.cell? ⟨gb227, 8, none⟩ = some (.int .i64 t223) := (blk_cell BK227.out 8).trans rfl; have hcz83_9 : w82.cell? ⟨gb227, 9, none⟩ = some (.int .i64 t224) := (blk_cell BK227.out 9).trans rfl; have hcz83_10 : w82.cell? ⟨gb227, 10, none⟩ = some (.int .i64 t225) := (blk_cell BK227.out 10).trans rfl; have hcz83_11 : w82.cell? ⟨gb227, 11, none⟩ = some (.slice none 0 0) := (blk_cell BK227.out 11).trans rfl; have hcz83_12 : w82.cell? ⟨gb227, 12, none⟩ = some (.int .i64 t226) := (blk_cell BK227.out 12).trans rfl; have hfz83_0 := blk_frozen BK227.out 0; have hfz83_1 := blk_frozen BK227.out 1; have hfz83_2 := blk_frozen BK227.out 2; have hfz83_3 := blk_frozen BK227.out 3; have hfz83_4 := blk_frozen BK227.out 4; have hfz83_5 := blk_frozen BK227.out 5; have hfz83_6 := blk_frozen BK227.out 6; have hfz83_7 := blk_frozen BK227.out 7; have hfz83_8 := blk_frozen BK227.out 8; have hfz83_9 := blk_frozen BK227.out 9; have hfz83_10 := blk_frozen BK227.out 10; have hfz83_11 := blk_frozen BK227.out 11; have hfz83_12 := blk_frozen BK227.out 12; have hcz84_0 : w82.cell? ⟨gb214, 0, none⟩ = some (.int .i64 a1_0) := (blk_cell BK214.out 0).trans rfl; have hcz84_1 : w82.cell? ⟨gb214, 1, none⟩ = some (.int .i64 a1_1) := (blk_cell BK214.out 1).trans rfl; have hcz84_2 : w82.cell? ⟨gb214, 2, none⟩ = some (.int .i64 a1_2) := (blk_cell BK214.out 2).trans rfl; have hcz84_3 : w82.cell? ⟨gb214, 3, none⟩ = some (.int .i64 a1_3) := (blk_cell BK214.out 3).trans rfl; have hcz84_4 : w82.cell? ⟨gb214, 4, none⟩ = some (.int .i64 a1_4) := (blk_cell BK214.out 4).trans rfl; have hcz84_5 : w82.cell? ⟨gb214, 5, none⟩ = some (.bool false) := (blk_cell BK214.out 5).trans rfl; have hfz84_0 := blk_frozen BK214.out 0; have hfz84_1 := blk_frozen BK214.out 1; have hfz84_2 := blk_frozen BK214.out 2; have hfz84_3 := blk_frozen BK214.out 3; have hfz84_4 := blk_frozen BK214.out 4; have hfz84_5 := blk_frozen BK214.out 5) | ((with_reducible refine gate_callee (f := 13) rfl ?_); refine goesL_ (some 110) rfl rfl Try.func13 (by kernel_rfl) rfl #[.pointer (some ⟨g246, 0, none⟩)] rfl (by (try simp only [List.map_toArray, List.map_cons, List.map_nil]); first | done | rfl | (simp only [List.length_drop, List.length_take]; rfl)) ?_; (with_reducible refine (guard_Guard_Brakes.calls g246 t309 t310 t311 t312 t313 t314 t315 t316 t317 t318 t319 t239 t320 t321 t322 t323 t324 t325 true t346 t347 t348 t349 t350 t351 t352 t353 t354 t355 t356 t357 t358 t359 t360 t361 t362 w _ ?side1 ?side2 A75.out).mono ?_); (case side1 => repeat (first | (with_reducible first | exact HI246.out | apply IsS48.alloc | apply IsS48.drewN | apply IsS48.drew | apply IsS48.set_0 | apply IsS48.set_1 | apply IsS48.set_2 | apply IsS48.set_3 | apply IsS48.set_4 | apply IsS48.set_5 | apply IsS48.set_6 | apply IsS48.set_7 | apply IsS48.set_8 | apply IsS48.set_9 | apply IsS48.set_10 | apply IsS48.set_12 | apply IsS48.set_13 | apply IsS48.set_14 | apply IsS48.set_15 | apply IsS48.set_16 | apply IsS48.set_17 | refine IsS48.far ?_ NB246_214.out _ | refine IsS48.far ?_ NB246_227.out _) | exact HI246.out)); (case side2 => repeat (first | (with_reducible first | exact HB.out | apply below_alloc | apply pw_below_drewN | apply below_drew1 | refine below_set ?_ (IsS48.ge HI246.out) | refine below_set ?_ GE214.out | refine below_set ?_ GE227.out) | exact HB.out)); rintro e w85 ⟨rfl, hi, hb, hk⟩; refine ⟨_, rfl, ?_⟩; have n0_ := Aside0.mk (KeepBut.blk hk (g' := gb214) (o := .cells #[.int .i64 a1_0, .int .i64 a1_1, .int .i64 a1_2, .int .i64 a1_3, .int .i64 a1_4, .bool false] 24 (0, 0)) (by (with_reducible repeat (first | refine blk_drewN ?_ _ | refine blk_drew ?_ | refine blk_alloc ?_ _)); exact BK214.out) NB214_246.out (by simp)); have n1_ := Aside0.mk (KeepBut.blk hk (g' := gb227) (o := .cells #[.int .i64 t215, .int .i64 t216, .int .i64 t217, .int .i64 t218, .int .i64 t219, .int .i64 t220, .int .i64 t221, .int .i64 t222, .int .i64 t223, .int .i64 t224, .int .i64 t225, .slice none 0 0, .int .i64 t226] 27 (0, 0)) (by (with_reducible repeat (first | refine blk_drewN ?_ _ | refine blk_drew ?_ | refine blk_alloc ?_ _)); exact BK227.out) NB227_246.out (by simp)); have n2_ := Aside0.mk (hb); have n3_ := Aside0.mk (hi); clear BK214; clear BK227; clear HB; clear HI246; have BK214 := n0_; have BK227 := n1_; have HB := n2_; have HI246 := n3_; clear n0_ n1_ n2_ n3_; (try clear hb); (try clear hb2); (try clear hk); (try clear hi)))
          go_ret
          exact ⟨by first | rfl | (simp [errW_none, errW_some] <;> rfl) | (simp [*, errW_none, errW_some] <;> rfl), by repeat (first | (with_reducible first | exact HB.out | apply below_alloc | apply pw_below_drewN | apply below_drew1 | refine below_set ?_ (IsS48.ge HI246.out) | refine below_set ?_ GE214.out | refine below_set ?_ GE227.out) | exact HB.out)⟩
         ·replace c76 := Bool.eq_false_iff.mpr c76
          subst c76
          have H1 : (if t308 ≥ (mn (wrap64 (Int.tdiv (wrap64 (t271 * 9)) 8)) t217) then ((flywheellaw28_wakes.f).bind fun t363 => (some t363)) else (some false)) = some r := by rw [if_neg (show ¬ (false = true) by decide)] at H; exact H
          clear H
          have H := H1
          clear H1
          obtain ⟨ji86, hji86⟩ : ∃ j_ : Int, (mn (wrap64 (Int.tdiv (wrap64 (t271 * 9)) 8)) t217) = j_ := ⟨_, rfl⟩
          replace H : (if t308 ≥ (ji86) then ((flywheellaw28_wakes.f).bind fun t363 => (some t363)) else (some false)) = some r := by first | (rw [hji86] at H; exact H) | (simp only [hji86] at H ⊢; exact H)
          (try rw [hji86] at A38)
          (try rw [hji86] at A75)
          have hji86_ : (if t217 < (wrap64 (Int.tdiv (wrap64 (t271 * 9)) 8)) then t217 else (wrap64 (Int.tdiv (wrap64 (t271 * 9)) 8))) = ji86 := hji86
          by_cases c87 : t308 ≥ (ji86)
          ·rw [if_pos c87] at H
           have c87b0 : decide ((ji86) ≤ t308) = true := decide_eq_true c87
           clear c87
           replace H := Option.bind_eq_some_iff.mp H
           obtain ⟨t363, A880, H⟩ := H
           replace H : (some t363) = some r := H
           have A88 := Aside0.mk A880
           clear A880
           obtain rfl := Option.some.inj H
           have hnb89 := NB214_227.out
           have hnc89 := NB227_214.out
           have hnb90 := NB214_246.out
           have hnc90 := NB246_214.out
           have hcz91_0 : wc.cell? ⟨gb214, 0, none⟩ = some (.int .i64 a1_0) := (blk_cell BK214.out 0).trans rfl
           have hcz91_1 : wc.cell? ⟨gb214, 1, none⟩ = some (.int .i64 a1_1) := (blk_cell BK214.out 1).trans rfl
           have hcz91_2 : wc.cell? ⟨gb214, 2, none⟩ = some (.int .i64 a1_2) := (blk_cell BK214.out 2).trans rfl
           have hcz91_3 : wc.cell? ⟨gb214, 3, none⟩ = some (.int .i64 a1_3) := (blk_cell BK214.out 3).trans rfl
           have hcz91_4 : wc.cell? ⟨gb214, 4, none⟩ = some (.int .i64 a1_4) := (blk_cell BK214.out 4).trans rfl
           have hcz91_5 : wc.cell? ⟨gb214, 5, none⟩ = some (.bool false) := (blk_cell BK214.out 5).trans rfl
           have hfz91_0 := blk_frozen BK214.out 0
           have hfz91_1 := blk_frozen BK214.out 1
           have hfz91_2 := blk_frozen BK214.out 2
           have hfz91_3 := blk_frozen BK214.out 3
           have hfz91_4 := blk_frozen BK214.out 4
           have hfz91_5 := blk_frozen BK214.out 5
           have hnb92 := NB227_246.out
           have hnc92 := NB246_227.out
           have hcz93_0 : wc.cell? ⟨gb227, 0, none⟩ = some (.int .i64 t215) := (blk_cell BK227.out 0).trans rfl
           have hcz93_1 : wc.cell? ⟨gb227, 1, none⟩ = some (.int .i64 t216) := (blk_cell BK227.out 1).trans rfl
           have hcz93_2 : wc.cell? ⟨gb227, 2, none⟩ = some (.int .i64 t217) := (blk_cell BK227.out 2).trans rfl
           have hcz93_3 : wc.cell? ⟨gb227, 3, none⟩ = some (.int .i64 t218) := (blk_cell BK227.out 3).trans rfl
           have hcz93_4 : wc.cell? ⟨gb227, 4, none⟩ = some (.int .i64 t219) := (blk_cell BK227.out 4).trans rfl
           have hcz93_5 : wc.cell? ⟨gb227, 5, none⟩ = some (.int .i64 t220) := (blk_cell BK227.out 5).trans rfl
           have hcz93_6 : wc.cell? ⟨gb227, 6, none⟩ = some (.int .i64 t221) := (blk_cell BK227.out 6).trans rfl
           have hcz93_7 : wc.cell? ⟨gb227, 7, none⟩ = some (.int .i64 t222) := (blk_cell BK227.out 7).trans rfl
           have hcz93_8 : wc.cell? ⟨gb227, 8, none⟩ = some (.int .i64 t223) := (blk_cell BK227.out 8).trans rfl
           have hcz93_9 : wc.cell? ⟨gb227, 9, none⟩ = some (.int .i64 t224) := (blk_cell BK227.out 9).trans rfl
           have hcz93_10 : wc.cell? ⟨gb227, 10, none⟩ = some (.int .i64 t225) := (blk_cell BK227.out 10).trans rfl
           have hcz93_11 : wc.cell? ⟨gb227, 11, none⟩ = some (.slice none 0 0) := (blk_cell BK227.out 11).trans rfl
           have hcz93_12 : wc.cell? ⟨gb227, 12, none⟩ = some (.int .i64 t226) := (blk_cell BK227.out 12).trans rfl
           have hfz93_0 := blk_frozen BK227.out 0
           have hfz93_1 := blk_frozen BK227.out 1
           have hfz93_2 := blk_frozen BK227.out 2
           have hfz93_3 := blk_frozen BK227.out 3
           have hfz93_4 := blk_frozen BK227.out 4
           have hfz93_5 := blk_frozen BK227.out 5
           have hfz93_6 := blk_frozen BK227.out 6
           have hfz93_7 := blk_frozen BK227.out 7
           have hfz93_8 := blk_frozen BK227.out 8
           have hfz93_9 := blk_frozen BK227.out 9
           have hfz93_10 := blk_frozen BK227.out 10
           have hfz93_11 := blk_frozen BK227.out 11
           have hfz93_12 := blk_frozen BK227.out 12
           go_wp2_with (first | ((with_reducible refine gate_callee (f := 11) rfl ?_); refine goesL_ (some 96) rfl rfl Try.func11 (by kernel_rfl) rfl #[.pointer (some ⟨g246, 0, none⟩), .int .i64 a1_1, .int .i64 t220, .int .i64 t271, .bool false, .int .i64 a1_4] rfl (by (try simp only [List.map_toArray, List.map_cons, List.map_nil]); first | done | rfl | (simp only [List.length_drop, List.length_take]; rfl)) ?_; (with_reducible refine (guard_Guard_Hear.calls g246 x247000_21 x247001_21 x247002_21 x247003_21 x247004_21 x247005_21 x247006_21 x247007_21 x247008_21 x247009_21 x247010_21 t239 x247012_21 x247013_21 x247014_21 x247015_21 x247016_21 x247017_21 a1_1 t220 t271 false a1_4 t308 t309 t310 t311 t312 t313 t314 t315 t316 t317 t318 t319 t320 t321 t322 t323 t324 t325 w _ ?side1 ?side2 A38.out).mono ?_); (case side1 => repeat (first | (with_reducible first | exact HI246.out | apply IsS48.alloc | apply IsS48.drewN | apply IsS48.drew | apply IsS48.set_0 | apply IsS48.set_1 | apply IsS48.set_2 | apply IsS48.set_3 | apply IsS48.set_4 | apply IsS48.set_5 | apply IsS48.set_6 | apply IsS48.set_7 | apply IsS48.set_8 | apply IsS48.set_9 | apply IsS48.set_10 | apply IsS48.set_12 | apply IsS48.set_13 | apply IsS48.set_14 | apply IsS48.set_15 | apply IsS48.set_16 | apply IsS48.set_17 | refine IsS48.far ?_ NB246_214.out _ | refine IsS48.far ?_ NB246_227.out _) | exact HI246.out)); (case side2 => repeat (first | (with_reducible first | exact HB.out | apply below_alloc | apply pw_below_drewN | apply below_drew1 | refine below_set ?_ (IsS48.ge HI246.out) | refine below_set ?_ GE214.out | refine below_set ?_ GE227.out) | exact HB.out)); rintro e w94 ⟨rfl, hi, hb, hk⟩; refine ⟨_, rfl, ?_⟩; have n0_ := Aside0.mk (KeepBut.blk hk (g' := gb214) (o := .cells #[.int .i64 a1_0, .int .i64 a1_1, .int .i64 a1_2, .int .i64 a1_3, .int .i64 a1_4, .bool false] 24 (0, 0)) (by (with_reducible repeat (first | refine blk_drewN ?_ _ | refine blk_drew ?_ | refine blk_alloc ?_ _)); exact BK214.out) NB214_246.out (by simp)); have n1_ := Aside0.mk (KeepBut.blk hk (g' := gb227) (o := .cells #[.int .i64 t215, .int .i64 t216, .int .i64 t217, .int .i64 t218, .int .i64 t219, .int .i64 t220, .int .i64 t221, .int .i64 t222, .int .i64 t223, .int .i64 t224, .int .i64 t225, .slice none 0 0, .int .i64 t226] 27 (0, 0)) (by (with_reducible repeat (first | refine blk_drewN ?_ _ | refine blk_drew ?_ | refine blk_alloc ?_ _)); exact BK227.out) NB227_246.out (by simp)); have n2_ := Aside0.mk (hb); have n3_ := Aside0.mk (hi); clear BK214; clear BK227; clear HB; clear HI246; have BK214 := n0_; have BK227 := n1_; have HB := n2_; have HI246 := n3_; clear n0_ n1_ n2_ n3_; (try clear hb); (try clear hb2); (try clear hk); (try clear hi); have hcz95_0 : w94.cell? ⟨gb227, 0, none⟩ = some (.int .i64 t215) := (blk_cell BK227.out 0).trans rfl; have hcz95_1 : w94.cell? ⟨gb227, 1, none⟩ = some (.int .i64 t216) := (blk_cell BK227.out 1).trans rfl; have hcz95_2 : w94.cell? ⟨gb227, 2, none⟩ = some (.int .i64 t217) := (blk_cell BK227.out 2).trans rfl; have hcz95_3 : w94.cell? ⟨gb227, 3, none⟩ = some (.int .i64 t218) := (blk_cell BK227.out 3).trans rfl; have hcz95_4 : w94.cell? ⟨gb227, 4, none⟩ = some (.int .i64 t219) := (blk_cell BK227.out 4).trans rfl; have hcz95_5 : w94.cell? ⟨gb227, 5, none⟩ = some (.int .i64 t220) := (blk_cell BK227.out 5).trans rfl; have hcz95_6 : w94.cell? ⟨gb227, 6, none⟩ = some (.int .i64 t221) := (blk_cell BK227.out 6).trans rfl; have hcz95_7 : w94.cell? ⟨gb227, 7, none⟩ = some (.int .i64 t222) := (blk_cell BK227.out 7).trans rfl; have hcz95_8 : w94.cell? ⟨gb227, 8, none⟩ = some (.int .i64 t223) := (blk_cell BK227.out 8).trans rfl; have hcz95_9 : w94.cell? ⟨gb227, 9, none⟩ = some (.int .i64 t224) := (blk_cell BK227.out 9).trans rfl; have hcz95_10 : w94.cell? ⟨gb227, 10, none⟩ = some (.int .i64 t225) := (blk_cell BK227.out 10).trans rfl; have hcz95_11 : w94.cell? ⟨gb227, 11, none⟩ = some (.slice none 0 0) := (blk_cell BK227.out 11).trans rfl; have hcz95_12 : w94.cell? ⟨gb227, 12, none⟩ = some (.int .i64 t226) := (blk_cell BK227.out 12).trans rfl; have hfz95_0 := blk_frozen BK227.out 0; have hfz95_1 := blk_frozen BK227.out 1; have hfz95_2 := blk_frozen BK227.out 2; have hfz95_3 := blk_frozen BK227.out 3; have hfz95_4 := blk_frozen BK227.out 4; have hfz95_5 := blk_frozen BK227.out 5; have hfz95_6 := blk_frozen BK227.out 6; have hfz95_7 := blk_frozen BK227.out 7; have hfz95_8 := blk_frozen BK227.out 8; have hfz95_9 := blk_frozen BK227.out 9; have hfz95_10 := blk_frozen BK227.out 10; have hfz95_11 := blk_frozen BK227.out 11; have hfz95_12 := blk_frozen BK227.out 12; have hcz96_0 : w94.cell? ⟨gb214, 0, none⟩ = some (.int .i64 a1_0) := (blk_cell BK214.out 0).trans rfl; have hcz96_1 : w94.cell? ⟨gb214, 1, none⟩ = some (.int .i64 a1_1) := (blk_cell BK214.out 1).trans rfl; have hcz96_2 : w94.cell? ⟨gb214, 2, none⟩ = some (.int .i64 a1_2) := (blk_cell BK214.out 2).trans rfl; have hcz96_3 : w94.cell? ⟨gb214, 3, none⟩ = some (.int .i64 a1_3) := (blk_cell BK214.out 3).trans rfl; have hcz96_4 : w94.cell? ⟨gb214, 4, none⟩ = some (.int .i64 a1_4) := (blk_cell BK214.out 4).trans rfl; have hcz96_5 : w94.cell? ⟨gb214, 5, none⟩ = some (.bool false) := (blk_cell BK214.out 5).trans rfl; have hfz96_0 := blk_frozen BK214.out 0; have hfz96_1 := blk_frozen BK214.out 1; have hfz96_2 := blk_frozen BK214.out 2; have hfz96_3 := blk_frozen BK214.out 3; have hfz96_4 := blk_frozen BK214.out 4; have hfz96_5 := blk_frozen BK214.out 5) | ((with_reducible refine gate_callee (f := 13) rfl ?_); refine goesL_ (some 110) rfl rfl Try.func13 (by kernel_rfl) rfl #[.pointer (some ⟨g246, 0, none⟩)] rfl (by (try simp only [List.map_toArray, List.map_cons, List.map_nil]); first | done | rfl | (simp only [List.length_drop, List.length_take]; rfl)) ?_; (with_reducible refine (guard_Guard_Brakes.calls g246 t309 t310 t311 t312 t313 t314 t315 t316 t317 t318 t319 t239 t320 t321 t322 t323 t324 t325 false t346 t347 t348 t349 t350 t351 t352 t353 t354 t355 t356 t357 t358 t359 t360 t361 t362 w _ ?side1 ?side2 A75.out).mono ?_); (case side1 => repeat (first | (with_reducible first | exact HI246.out | apply IsS48.alloc | apply IsS48.drewN | apply IsS48.drew | apply IsS48.set_0 | apply IsS48.set_1 | apply IsS48.set_2 | apply IsS48.set_3 | apply IsS48.set_4 | apply IsS48.set_5 | apply IsS48.set_6 | apply IsS48.set_7 | apply IsS48.set_8 | apply IsS48.set_9 | apply IsS48.set_10 | apply IsS48.set_12 | apply IsS48.set_13 | apply IsS48.set_14 | apply IsS48.set_15 | apply IsS48.set_16 | apply IsS48.set_17 | refine IsS48.far ?_ NB246_214.out _ | refine IsS48.far ?_ NB246_227.out _) | exact HI246.out)); (case side2 => repeat (first | (with_reducible first | exact HB.out | apply below_alloc | apply pw_below_drewN | apply below_drew1 | refine below_set ?_ (IsS48.ge HI246.out) | refine below_set ?_ GE214.out | refine below_set ?_ GE227.out) | exact HB.out)); rintro e w97 ⟨rfl, hi, hb, hk⟩; refine ⟨_, rfl, ?_⟩; have n0_ := Aside0.mk (KeepBut.blk hk (g' := gb214) (o := .cells #[.int .i64 a1_0, .int .i64 a1_1, .int .i64 a1_2, .int .i64 a1_3, .int .i64 a1_4, .bool false] 24 (0, 0)) (by (with_reducible repeat (first | refine blk_drewN ?_ _ | refine blk_drew ?_ | refine blk_alloc ?_ _)); exact BK214.out) NB214_246.out (by simp)); have n1_ := Aside0.mk (KeepBut.blk hk (g' := gb227) (o := .cells #[.int .i64 t215, .int .i64 t216, .int .i64 t217, .int .i64 t218, .int .i64 t219, .int .i64 t220, .int .i64 t221, .int .i64 t222, .int .i64 t223, .int .i64 t224, .int .i64 t225, .slice none 0 0, .int .i64 t226] 27 (0, 0)) (by (with_reducible repeat (first | refine blk_drewN ?_ _ | refine blk_drew ?_ | refine blk_alloc ?_ _)); exact BK227.out) NB227_246.out (by simp)); have n2_ := Aside0.mk (hb); have n3_ := Aside0.mk (hi); clear BK214; clear BK227; clear HB; clear HI246; have BK214 := n0_; have BK227 := n1_; have HB := n2_; have HI246 := n3_; clear n0_ n1_ n2_ n3_; (try clear hb); (try clear hb2); (try clear hk); (try clear hi)) | (go_at_call 14; (with_reducible refine (flywheellaw28_wakes.calls  t363 _ A88.out).mono ?_); rintro e w98 ⟨rfl, hb⟩; have n0_ := Aside0.mk (blk_below (g := gb214) (o := .cells #[.int .i64 a1_0, .int .i64 a1_1, .int .i64 a1_2, .int .i64 a1_3, .int .i64 a1_4, .bool false] 24 (0, 0)) (by (with_reducible repeat (first | refine blk_drewN ?_ _ | refine blk_drew ?_ | refine blk_alloc ?_ _)); exact BK214.out) hb); have n1_ := Aside0.mk (blk_below (g := gb227) (o := .cells #[.int .i64 t215, .int .i64 t216, .int .i64 t217, .int .i64 t218, .int .i64 t219, .int .i64 t220, .int .i64 t221, .int .i64 t222, .int .i64 t223, .int .i64 t224, .int .i64 t225, .slice none 0 0, .int .i64 t226] 27 (0, 0)) (by (with_reducible repeat (first | refine blk_drewN ?_ _ | refine blk_drew ?_ | refine blk_alloc ?_ _)); exact BK227.out) hb); have n2_ := Aside0.mk (IsS48.below (by repeat (first | (with_reducible first | exact HI246.out | apply IsS48.alloc | apply IsS48.drewN | apply IsS48.drew | apply IsS48.set_0 | apply IsS48.set_1 | apply IsS48.set_2 | apply IsS48.set_3 | apply IsS48.set_4 | apply IsS48.set_5 | apply IsS48.set_6 | apply IsS48.set_7 | apply IsS48.set_8 | apply IsS48.set_9 | apply IsS48.set_10 | apply IsS48.set_12 | apply IsS48.set_13 | apply IsS48.set_14 | apply IsS48.set_15 | apply IsS48.set_16 | apply IsS48.set_17 | refine IsS48.far ?_ NB246_214.out _ | refine IsS48.far ?_ NB246_227.out _) | exact HI246.out)) hb); have n3_ := Aside0.mk (below_step (by repeat (first | (with_reducible first | exact HB.out | apply below_alloc | apply pw_below_drewN | apply below_drew1 | refine below_set ?_ (IsS48.ge HI246.out) | refine below_set ?_ GE214.out | refine below_set ?_ GE227.out) | exact HB.out)) hb); clear BK214; clear BK227; clear HI246; clear HB; have BK214 := n0_; have BK227 := n1_; have HI246 := n2_; have HB := n3_; clear n0_ n1_ n2_ n3_; (try clear hb); (try clear hb2); (try clear hk); (try clear hi)))
           go_ret
           exact ⟨by first | rfl | (simp [errW_none, errW_some] <;> rfl) | (simp only [← hji86]; first | rfl | (simp [errW_none, errW_some] <;> rfl)) | (simp [*, errW_none, errW_some] <;> rfl), by repeat (first | (with_reducible first | exact HB.out | apply below_alloc | apply pw_below_drewN | apply below_drew1 | refine below_set ?_ (IsS48.ge HI246.out) | refine below_set ?_ GE214.out | refine below_set ?_ GE227.out) | exact HB.out)⟩
          ·rw [if_neg c87] at H
           have c87b0 : decide ((ji86) ≤ t308) = false := decide_eq_false c87
           clear c87
           obtain rfl := Option.some.inj H
           have hnb99 := NB214_227.out
           have hnc99 := NB227_214.out
           have hnb100 := NB214_246.out
           have hnc100 := NB246_214.out
           have hcz101_0 : wc.cell? ⟨gb214, 0, none⟩ = some (.int .i64 a1_0) := (blk_cell BK214.out 0).trans rfl
           have hcz101_1 : wc.cell? ⟨gb214, 1, none⟩ = some (.int .i64 a1_1) := (blk_cell BK214.out 1).trans rfl
           have hcz101_2 : wc.cell? ⟨gb214, 2, none⟩ = some (.int .i64 a1_2) := (blk_cell BK214.out 2).trans rfl
           have hcz101_3 : wc.cell? ⟨gb214, 3, none⟩ = some (.int .i64 a1_3) := (blk_cell BK214.out 3).trans rfl
           have hcz101_4 : wc.cell? ⟨gb214, 4, none⟩ = some (.int .i64 a1_4) := (blk_cell BK214.out 4).trans rfl
           have hcz101_5 : wc.cell? ⟨gb214, 5, none⟩ = some (.bool false) := (blk_cell BK214.out 5).trans rfl
           have hfz101_0 := blk_frozen BK214.out 0
           have hfz101_1 := blk_frozen BK214.out 1
           have hfz101_2 := blk_frozen BK214.out 2
           have hfz101_3 := blk_frozen BK214.out 3
           have hfz101_4 := blk_frozen BK214.out 4
           have hfz101_5 := blk_frozen BK214.out 5
           have hnb102 := NB227_246.out
           have hnc102 := NB246_227.out
           have hcz103_0 : wc.cell? ⟨gb227, 0, none⟩ = some (.int .i64 t215) := (blk_cell BK227.out 0).trans rfl
           have hcz103_1 : wc.cell? ⟨gb227, 1, none⟩ = some (.int .i64 t216) := (blk_cell BK227.out 1).trans rfl
           have hcz103_2 : wc.cell? ⟨gb227, 2, none⟩ = some (.int .i64 t217) := (blk_cell BK227.out 2).trans rfl
           have hcz103_3 : wc.cell? ⟨gb227, 3, none⟩ = some (.int .i64 t218) := (blk_cell BK227.out 3).trans rfl
           have hcz103_4 : wc.cell? ⟨gb227, 4, none⟩ = some (.int .i64 t219) := (blk_cell BK227.out 4).trans rfl
           have hcz103_5 : wc.cell? ⟨gb227, 5, none⟩ = some (.int .i64 t220) := (blk_cell BK227.out 5).trans rfl
           have hcz103_6 : wc.cell? ⟨gb227, 6, none⟩ = some (.int .i64 t221) := (blk_cell BK227.out 6).trans rfl
           have hcz103_7 : wc.cell? ⟨gb227, 7, none⟩ = some (.int .i64 t222) := (blk_cell BK227.out 7).trans rfl
           have hcz103_8 : wc.cell? ⟨gb227, 8, none⟩ = some (.int .i64 t223) := (blk_cell BK227.out 8).trans rfl
           have hcz103_9 : wc.cell? ⟨gb227, 9, none⟩ = some (.int .i64 t224) := (blk_cell BK227.out 9).trans rfl
           have hcz103_10 : wc.cell? ⟨gb227, 10, none⟩ = some (.int .i64 t225) := (blk_cell BK227.out 10).trans rfl
           have hcz103_11 : wc.cell? ⟨gb227, 11, none⟩ = some (.slice none 0 0) := (blk_cell BK227.out 11).trans rfl
           have hcz103_12 : wc.cell? ⟨gb227, 12, none⟩ = some (.int .i64 t226) := (blk_cell BK227.out 12).trans rfl
           have hfz103_0 := blk_frozen BK227.out 0
           have hfz103_1 := blk_frozen BK227.out 1
           have hfz103_2 := blk_frozen BK227.out 2
           have hfz103_3 := blk_frozen BK227.out 3
           have hfz103_4 := blk_frozen BK227.out 4
           have hfz103_5 := blk_frozen BK227.out 5
           have hfz103_6 := blk_frozen BK227.out 6
           have hfz103_7 := blk_frozen BK227.out 7
           have hfz103_8 := blk_frozen BK227.out 8
           have hfz103_9 := blk_frozen BK227.out 9
           have hfz103_10 := blk_frozen BK227.out 10
           have hfz103_11 := blk_frozen BK227.out 11
           have hfz103_12 := blk_frozen BK227.out 12
           go_wp2_with (first | ((with_reducible refine gate_callee (f := 11) rfl ?_); refine goesL_ (some 96) rfl rfl Try.func11 (by kernel_rfl) rfl #[.pointer (some ⟨g246, 0, none⟩), .int .i64 a1_1, .int .i64 t220, .int .i64 t271, .bool false, .int .i64 a1_4] rfl (by (try simp only [List.map_toArray, List.map_cons, List.map_nil]); first | done | rfl | (simp only [List.length_drop, List.length_take]; rfl)) ?_; (with_reducible refine (guard_Guard_Hear.calls g246 x247000_21 x247001_21 x247002_21 x247003_21 x247004_21 x247005_21 x247006_21 x247007_21 x247008_21 x247009_21 x247010_21 t239 x247012_21 x247013_21 x247014_21 x247015_21 x247016_21 x247017_21 a1_1 t220 t271 false a1_4 t308 t309 t310 t311 t312 t313 t314 t315 t316 t317 t318 t319 t320 t321 t322 t323 t324 t325 w _ ?side1 ?side2 A38.out).mono ?_); (case side1 => repeat (first | (with_reducible first | exact HI246.out | apply IsS48.alloc | apply IsS48.drewN | apply IsS48.drew | apply IsS48.set_0 | apply IsS48.set_1 | apply IsS48.set_2 | apply IsS48.set_3 | apply IsS48.set_4 | apply IsS48.set_5 | apply IsS48.set_6 | apply IsS48.set_7 | apply IsS48.set_8 | apply IsS48.set_9 | apply IsS48.set_10 | apply IsS48.set_12 | apply IsS48.set_13 | apply IsS48.set_14 | apply IsS48.set_15 | apply IsS48.set_16 | apply IsS48.set_17 | refine IsS48.far ?_ NB246_214.out _ | refine IsS48.far ?_ NB246_227.out _) | exact HI246.out)); (case side2 => repeat (first | (with_reducible first | exact HB.out | apply below_alloc | apply pw_below_drewN | apply below_drew1 | refine below_set ?_ (IsS48.ge HI246.out) | refine below_set ?_ GE214.out | refine below_set ?_ GE227.out) | exact HB.out)); rintro e w104 ⟨rfl, hi, hb, hk⟩; refine ⟨_, rfl, ?_⟩; have n0_ := Aside0.mk (KeepBut.blk hk (g' := gb214) (o := .cells #[.int .i64 a1_0, .int .i64 a1_1, .int .i64 a1_2, .int .i64 a1_3, .int .i64 a1_4, .bool false] 24 (0, 0)) (by (with_reducible repeat (first | refine blk_drewN ?_ _ | refine blk_drew ?_ | refine blk_alloc ?_ _)); exact BK214.out) NB214_246.out (by simp)); have n1_ := Aside0.mk (KeepBut.blk hk (g' := gb227) (o := .cells #[.int .i64 t215, .int .i64 t216, .int .i64 t217, .int .i64 t218, .int .i64 t219, .int .i64 t220, .int .i64 t221, .int .i64 t222, .int .i64 t223, .int .i64 t224, .int .i64 t225, .slice none 0 0, .int .i64 t226] 27 (0, 0)) (by (with_reducible repeat (first | refine blk_drewN ?_ _ | refine blk_drew ?_ | refine blk_alloc ?_ _)); exact BK227.out) NB227_246.out (by simp)); have n2_ := Aside0.mk (hb); have n3_ := Aside0.mk (hi); clear BK214; clear BK227; clear HB; clear HI246; have BK214 := n0_; have BK227 := n1_; have HB := n2_; have HI246 := n3_; clear n0_ n1_ n2_ n3_; (try clear hb); (try clear hb2); (try clear hk); (try clear hi); have hcz105_0 : w104.cell? ⟨gb227, 0, none⟩ = some (.int .i64 t215) := (blk_cell BK227.out 0).trans rfl; have hcz105_1 : w104.cell? ⟨gb227, 1, none⟩ = some (.int .i64 t216) := (blk_cell BK227.out 1).trans rfl; have hcz105_2 : w104.cell? ⟨gb227, 2, none⟩ = some (.int .i64 t217) := (blk_cell BK227.out 2).trans rfl; have hcz105_3 : w104.cell? ⟨gb227, 3, none⟩ = some (.int .i64 t218) := (blk_cell BK227.out 3).trans rfl; have hcz105_4 : w104.cell? ⟨gb227, 4, none⟩ = some (.int .i64 t219) := (blk_cell BK227.out 4).trans rfl; have hcz105_5 : w104.cell? ⟨gb227, 5, none⟩ = some (.int .i64 t220) := (blk_cell BK227.out 5).trans rfl; have hcz105_6 : w104.cell? ⟨gb227, 6, none⟩ = some (.int .i64 t221) := (blk_cell BK227.out 6).trans rfl; have hcz105_7 : w104.cell? ⟨gb227, 7, none⟩ = some (.int .i64 t222) := (blk_cell BK227.out 7).trans rfl; have hcz105_8 : w104.cell? ⟨gb227, 8, none⟩ = some (.int .i64 t223) := (blk_cell BK227.out 8).trans rfl; have hcz105_9 : w104.cell? ⟨gb227, 9, none⟩ = some (.int .i64 t224) := (blk_cell BK227.out 9).trans rfl; have hcz105_10 : w104.cell? ⟨gb227, 10, none⟩ = some (.int .i64 t225) := (blk_cell BK227.out 10).trans rfl; have hcz105_11 : w104.cell? ⟨gb227, 11, none⟩ = some (.slice none 0 0) := (blk_cell BK227.out 11).trans rfl; have hcz105_12 : w104.cell? ⟨gb227, 12, none⟩ = some (.int .i64 t226) := (blk_cell BK227.out 12).trans rfl; have hfz105_0 := blk_frozen BK227.out 0; have hfz105_1 := blk_frozen BK227.out 1; have hfz105_2 := blk_frozen BK227.out 2; have hfz105_3 := blk_frozen BK227.out 3; have hfz105_4 := blk_frozen BK227.out 4; have hfz105_5 := blk_frozen BK227.out 5; have hfz105_6 := blk_frozen BK227.out 6; have hfz105_7 := blk_frozen BK227.out 7; have hfz105_8 := blk_frozen BK227.out 8; have hfz105_9 := blk_frozen BK227.out 9; have hfz105_10 := blk_frozen BK227.out 10; have hfz105_11 := blk_frozen BK227.out 11; have hfz105_12 := blk_frozen BK227.out 12; have hcz106_0 : w104.cell? ⟨gb214, 0, none⟩ = some (.int .i64 a1_0) := (blk_cell BK214.out 0).trans rfl; have hcz106_1 : w104.cell? ⟨gb214, 1, none⟩ = some (.int .i64 a1_1) := (blk_cell BK214.out 1).trans rfl; have hcz106_2 : w104.cell? ⟨gb214, 2, none⟩ = some (.int .i64 a1_2) := (blk_cell BK214.out 2).trans rfl; have hcz106_3 : w104.cell? ⟨gb214, 3, none⟩ = some (.int .i64 a1_3) := (blk_cell BK214.out 3).trans rfl; have hcz106_4 : w104.cell? ⟨gb214, 4, none⟩ = some (.int .i64 a1_4) := (blk_cell BK214.out 4).trans rfl; have hcz106_5 : w104.cell? ⟨gb214, 5, none⟩ = some (.bool false) := (blk_cell BK214.out 5).trans rfl; have hfz106_0 := blk_frozen BK214.out 0; have hfz106_1 := blk_frozen BK214.out 1; have hfz106_2 := blk_frozen BK214.out 2; have hfz106_3 := blk_frozen BK214.out 3; have hfz106_4 := blk_frozen BK214.out 4; have hfz106_5 := blk_frozen BK214.out 5) | ((with_reducible refine gate_callee (f := 13) rfl ?_); refine goesL_ (some 110) rfl rfl Try.func13 (by kernel_rfl) rfl #[.pointer (some ⟨g246, 0, none⟩)] rfl (by (try simp only [List.map_toArray, List.map_cons, List.map_nil]); first | done | rfl | (simp only [List.length_drop, List.length_take]; rfl)) ?_; (with_reducible refine (guard_Guard_Brakes.calls g246 t309 t310 t311 t312 t313 t314 t315 t316 t317 t318 t319 t239 t320 t321 t322 t323 t324 t325 false t346 t347 t348 t349 t350 t351 t352 t353 t354 t355 t356 t357 t358 t359 t360 t361 t362 w _ ?side1 ?side2 A75.out).mono ?_); (case side1 => repeat (first | (with_reducible first | exact HI246.out | apply IsS48.alloc | apply IsS48.drewN | apply IsS48.drew | apply IsS48.set_0 | apply IsS48.set_1 | apply IsS48.set_2 | apply IsS48.set_3 | apply IsS48.set_4 | apply IsS48.set_5 | apply IsS48.set_6 | apply IsS48.set_7 | apply IsS48.set_8 | apply IsS48.set_9 | apply IsS48.set_10 | apply IsS48.set_12 | apply IsS48.set_13 | apply IsS48.set_14 | apply IsS48.set_15 | apply IsS48.set_16 | apply IsS48.set_17 | refine IsS48.far ?_ NB246_214.out _ | refine IsS48.far ?_ NB246_227.out _) | exact HI246.out)); (case side2 => repeat (first | (with_reducible first | exact HB.out | apply below_alloc | apply pw_below_drewN | apply below_drew1 | refine below_set ?_ (IsS48.ge HI246.out) | refine below_set ?_ GE214.out | refine below_set ?_ GE227.out) | exact HB.out)); rintro e w107 ⟨rfl, hi, hb, hk⟩; refine ⟨_, rfl, ?_⟩; have n0_ := Aside0.mk (KeepBut.blk hk (g' := gb214) (o := .cells #[.int .i64 a1_0, .int .i64 a1_1, .int .i64 a1_2, .int .i64 a1_3, .int .i64 a1_4, .bool false] 24 (0, 0)) (by (with_reducible repeat (first | refine blk_drewN ?_ _ | refine blk_drew ?_ | refine blk_alloc ?_ _)); exact BK214.out) NB214_246.out (by simp)); have n1_ := Aside0.mk (KeepBut.blk hk (g' := gb227) (o := .cells #[.int .i64 t215, .int .i64 t216, .int .i64 t217, .int .i64 t218, .int .i64 t219, .int .i64 t220, .int .i64 t221, .int .i64 t222, .int .i64 t223, .int .i64 t224, .int .i64 t225, .slice none 0 0, .int .i64 t226] 27 (0, 0)) (by (with_reducible repeat (first | refine blk_drewN ?_ _ | refine blk_drew ?_ | refine blk_alloc ?_ _)); exact BK227.out) NB227_246.out (by simp)); have n2_ := Aside0.mk (hb); have n3_ := Aside0.mk (hi); clear BK214; clear BK227; clear HB; clear HI246; have BK214 := n0_; have BK227 := n1_; have HB := n2_; have HI246 := n3_; clear n0_ n1_ n2_ n3_; (try clear hb); (try clear hb2); (try clear hk); (try clear hi)))
           go_ret
           exact ⟨by first | rfl | (simp [errW_none, errW_some] <;> rfl) | (simp only [← hji86]; first | rfl | (simp [errW_none, errW_some] <;> rfl)) | (simp [*, errW_none, errW_some] <;> rfl), by repeat (first | (with_reducible first | exact HB.out | apply below_alloc | apply pw_below_drewN | apply below_drew1 | refine below_set ?_ (IsS48.ge HI246.out) | refine below_set ?_ GE214.out | refine below_set ?_ GE227.out) | exact HB.out)⟩
  ·rw [if_neg c6] at H
   have c6b0 : (t247 == 0) = false := beq_eq_false_iff_ne.mpr c6
   have c6b1 : (t247 != 0) = true := bne_iff_ne.mpr c6
   obtain rfl := Option.some.inj H
   go_enter Try.func3, Try.ntmps3
   go_wp2_with (first | ((with_reducible refine gate_dst (N := 3) rfl ?_); (try (refine gate_guard (by rfl) ?_; dsimp only)); refine box_event ?hg (N := 3) ?hd (cs := #[.int .i64 a1_0, .int .i64 a1_1, .int .i64 a1_2, .int .i64 a1_3, .int .i64 a1_4, .bool a1_5]) (t := 24) ?hr ?_; (case hd => rfl); (case hg => rfl); (case hr => first | (go_simp; done) | (go_simp; rfl)); intro gb214 hg w108 hbox hb; have n0_ := Aside0.mk (below_step (by repeat (first | (with_reducible first | exact HB.out | apply below_alloc | apply pw_below_drewN | apply below_drew1) | exact HB.out)) hb); have n1_ := Aside0.mk (hbox); have n2_ := Aside0.mk ((by rw [hg]; exact (below_size (by repeat (first | (with_reducible first | exact HB.out | apply below_alloc | apply pw_below_drewN | apply below_drew1) | exact HB.out))) : w.heap.size ≤ gb214)); have n3_ := Aside0.mk ((by rw [hg]; exact (below_size (by repeat (first | (with_reducible first | exact HB.out | apply below_alloc | apply pw_below_drewN | apply below_drew1) | exact HB.out))) : w.heap.size ≤ gb214)); clear HB; have HB := n0_; have BK214 := n1_; have GW214 := n2_; have GE214 := n3_; clear n0_ n1_ n2_ n3_; clear hb hbox hg) | ((with_reducible refine gate_callee (f := 9) rfl ?_); refine goesL_ (some 13) rfl rfl Try.func9 (by kernel_rfl) rfl #[] rfl (by (try simp only [List.map_toArray, List.map_cons, List.map_nil]); first | done | rfl | (simp only [List.length_drop, List.length_take]; rfl)) ?_; (with_reducible refine (flywheellaw28_Some.calls  t215 t216 t217 t218 t219 t220 t221 t222 t223 t224 t225 t226 _ A3.out).mono ?_); rintro e w109 ⟨rfl, hb⟩; refine ⟨_, rfl, ?_⟩; have n0_ := Aside0.mk (blk_below (g := gb214) (o := .cells #[.int .i64 a1_0, .int .i64 a1_1, .int .i64 a1_2, .int .i64 a1_3, .int .i64 a1_4, .bool a1_5] 24 (0, 0)) (by (with_reducible repeat (first | refine blk_drewN ?_ _ | refine blk_drew ?_ | refine blk_alloc ?_ _)); exact BK214.out) hb); have n1_ := Aside0.mk (below_step (by repeat (first | (with_reducible first | exact HB.out | apply below_alloc | apply pw_below_drewN | apply below_drew1 | refine below_set ?_ GE214.out) | exact HB.out)) hb); clear BK214; clear HB; have BK214 := n0_; have HB := n1_; clear n0_ n1_; (try clear hb); (try clear hb2); (try clear hk); (try clear hi)) | ((with_reducible refine gate_dst (N := 5) rfl ?_); (try (refine gate_guard (by rfl) ?_; dsimp only)); refine box_event ?hg (N := 5) ?hd (cs := #[.int .i64 0, .int .i64 0, .int .i64 0, .int .i64 0, .int .i64 0, .int .i64 0, .int .i64 0, .int .i64 0, .int .i64 0, .int .i64 0, .int .i64 0, .slice none 0 0, .int .i64 0]) (t := 27) ?hr ?_; (case hd => rfl); (case hg => rfl); (case hr => first | (go_simp; done) | (go_simp; rfl)); intro gb227 hg w110 hbox hb; have n0_ := Aside0.mk (blk_below (g := gb214) (o := .cells #[.int .i64 a1_0, .int .i64 a1_1, .int .i64 a1_2, .int .i64 a1_3, .int .i64 a1_4, .bool a1_5] 24 (0, 0)) (by (with_reducible repeat (first | refine blk_drewN ?_ _ | refine blk_drew ?_ | refine blk_alloc ?_ _)); exact BK214.out) hb); have n1_ := Aside0.mk (below_step (by repeat (first | (with_reducible first | exact HB.out | apply below_alloc | apply pw_below_drewN | apply below_drew1 | refine below_set ?_ GE214.out) | exact HB.out)) hb); have n2_ := Aside0.mk (hbox); have n3_ := Aside0.mk ((by rw [hg]; exact (below_size (by repeat (first | (with_reducible first | exact HB.out | apply below_alloc | apply pw_below_drewN | apply below_drew1 | refine below_set ?_ GE214.out) | exact HB.out))) : w.heap.size ≤ gb227)); have n4_ := Aside0.mk ((by rw [hg]; exact (below_size (by repeat (first | (with_reducible first | exact HB.out | apply below_alloc | apply pw_below_drewN | apply below_drew1 | refine below_set ?_ GE214.out) | exact HB.out))) : w.heap.size ≤ gb227)); have n5_ := Aside0.mk ((by rw [hg]; exact Nat.ne_of_lt (blk_lt (g := gb214) (o := .cells #[.int .i64 a1_0, .int .i64 a1_1, .int .i64 a1_2, .int .i64 a1_3, .int .i64 a1_4, .bool a1_5] 24 (0, 0)) (by (with_reducible repeat (first | refine blk_drewN ?_ _ | refine blk_drew ?_ | refine blk_alloc ?_ _)); exact BK214.out)) : gb214 ≠ gb227)); have n6_ := Aside0.mk ((by rw [hg]; exact Nat.ne_of_gt (blk_lt (g := gb214) (o := .cells #[.int .i64 a1_0, .int .i64 a1_1, .int .i64 a1_2, .int .i64 a1_3, .int .i64 a1_4, .bool a1_5] 24 (0, 0)) (by (with_reducible repeat (first | refine blk_drewN ?_ _ | refine blk_drew ?_ | refine blk_alloc ?_ _)); exact BK214.out)) : gb227 ≠ gb214)); clear BK214; clear HB; have BK214 := n0_; have HB := n1_; have BK227 := n2_; have GW227 := n3_; have GE227 := n4_; have NB214_227 := n5_; have NB227_214 := n6_; clear n0_ n1_ n2_ n3_ n4_ n5_ n6_; clear hb hbox hg; have hnb111 := NB227_214.out; have hnc111 := NB214_227.out; have hcz112_0 : w110.cell? ⟨gb227, 0, none⟩ = some (.int .i64 0) := (blk_cell BK227.out 0).trans rfl; have hcz112_1 : w110.cell? ⟨gb227, 1, none⟩ = some (.int .i64 0) := (blk_cell BK227.out 1).trans rfl; have hcz112_2 : w110.cell? ⟨gb227, 2, none⟩ = some (.int .i64 0) := (blk_cell BK227.out 2).trans rfl; have hcz112_3 : w110.cell? ⟨gb227, 3, none⟩ = some (.int .i64 0) := (blk_cell BK227.out 3).trans rfl; have hcz112_4 : w110.cell? ⟨gb227, 4, none⟩ = some (.int .i64 0) := (blk_cell BK227.out 4).trans rfl; have hcz112_5 : w110.cell? ⟨gb227, 5, none⟩ = some (.int .i64 0) := (blk_cell BK227.out 5).trans rfl; have hcz112_6 : w110.cell? ⟨gb227, 6, none⟩ = some (.int .i64 0) := (blk_cell BK227.out 6).trans rfl; have hcz112_7 : w110.cell? ⟨gb227, 7, none⟩ = some (.int .i64 0) := (blk_cell BK227.out 7).trans rfl; have hcz112_8 : w110.cell? ⟨gb227, 8, none⟩ = some (.int .i64 0) := (blk_cell BK227.out 8).trans rfl; have hcz112_9 : w110.cell? ⟨gb227, 9, none⟩ = some (.int .i64 0) := (blk_cell BK227.out 9).trans rfl; have hcz112_10 : w110.cell? ⟨gb227, 10, none⟩ = some (.int .i64 0) := (blk_cell BK227.out 10).trans rfl; have hcz112_11 : w110.cell? ⟨gb227, 11, none⟩ = some (.slice none 0 0) := (blk_cell BK227.out 11).trans rfl; have hcz112_12 : w110.cell? ⟨gb227, 12, none⟩ = some (.int .i64 0) := (blk_cell BK227.out 12).trans rfl; have hfz112_0 := blk_frozen BK227.out 0; have hfz112_1 := blk_frozen BK227.out 1; have hfz112_2 := blk_frozen BK227.out 2; have hfz112_3 := blk_frozen BK227.out 3; have hfz112_4 := blk_frozen BK227.out 4; have hfz112_5 := blk_frozen BK227.out 5; have hfz112_6 := blk_frozen BK227.out 6; have hfz112_7 := blk_frozen BK227.out 7; have hfz112_8 := blk_frozen BK227.out 8; have hfz112_9 := blk_frozen BK227.out 9; have hfz112_10 := blk_frozen BK227.out 10; have hfz112_11 := blk_frozen BK227.out 11; have hfz112_12 := blk_frozen BK227.out 12) | ((with_reducible refine gate_callee (f := 10) rfl ?_); refine goesL_ (some 16) rfl rfl Try.func10 (by kernel_rfl) rfl #[.agg #[.int .i64 t215, .int .i64 t216, .int .i64 t217, .int .i64 t218, .int .i64 t219, .int .i64 t220, .int .i64 t221, .int .i64 t222, .int .i64 t223, .int .i64 t224, .int .i64 t225, .slice none 0 0, .int .i64 t226]] rfl (by (try simp only [List.map_toArray, List.map_cons, List.map_nil]); first | done | rfl | (simp only [List.length_drop, List.length_take]; rfl)) ?_; (refine (guard_New.made.calls t215 t216 t217 t218 t219 t220 t221 t222 t223 t224 t225 _ _ ([] : List (S85)) t226 t228 t229 t230 t231 t232 t233 t234 t235 t236 t237 t238 t239 t240 t241 t242 t243 t244 t245 t247 w _ ?side1 ?side2 ?side3 A5.out).mono ?_); (case side1 => repeat (first | (with_reducible first | exact HB.out | apply below_alloc | apply pw_below_drewN | apply below_drew1 | refine below_set ?_ GE214.out | refine below_set ?_ GE227.out) | exact HB.out)); (case side2 => exact Kd.C_nil _ _); (case side3 => exact Nat.le_refl _); rintro e w113 ⟨g246, rfl, hi, hb, hb2⟩; refine ⟨_, rfl, ?_⟩; have n0_ := Aside0.mk (blk_below (g := gb214) (o := .cells #[.int .i64 a1_0, .int .i64 a1_1, .int .i64 a1_2, .int .i64 a1_3, .int .i64 a1_4, .bool a1_5] 24 (0, 0)) (by (with_reducible repeat (first | refine blk_drewN ?_ _ | refine blk_drew ?_ | refine blk_alloc ?_ _)); refine blk_far ?_ NB214_227.out _; (with_reducible repeat (first | refine blk_drewN ?_ _ | refine blk_drew ?_ | refine blk_alloc ?_ _)); refine blk_far ?_ NB214_227.out _; (with_reducible repeat (first | refine blk_drewN ?_ _ | refine blk_drew ?_ | refine blk_alloc ?_ _)); refine blk_far ?_ NB214_227.out _; (with_reducible repeat (first | refine blk_drewN ?_ _ | refine blk_drew ?_ | refine blk_alloc ?_ _)); refine blk_far ?_ NB214_227.out _; (with_reducible repeat (first | refine blk_drewN ?_ _ | refine blk_drew ?_ | refine blk_alloc ?_ _)); refine blk_far ?_ NB214_227.out _; (with_reducible repeat (first | refine blk_drewN ?_ _ | refine blk_drew ?_ | refine blk_alloc ?_ _)); refine blk_far ?_ NB214_227.out _; (with_reducible repeat (first | refine blk_drewN ?_ _ | refine blk_drew ?_ | refine blk_alloc ?_ _)); refine blk_far ?_ NB214_227.out _; (with_reducible repeat (first | refine blk_drewN ?_ _ | refine blk_drew ?_ | refine blk_alloc ?_ _)); refine blk_far ?_ NB214_227.out _; (with_reducible repeat (first | refine blk_drewN ?_ _ | refine blk_drew ?_ | refine blk_alloc ?_ _)); refine blk_far ?_ NB214_227.out _; (with_reducible repeat (first | refine blk_drewN ?_ _ | refine blk_drew ?_ | refine blk_alloc ?_ _)); refine blk_far ?_ NB214_227.out _; (with_reducible repeat (first | refine blk_drewN ?_ _ | refine blk_drew ?_ | refine blk_alloc ?_ _)); refine blk_far ?_ NB214_227.out _; (with_reducible repeat (first | refine blk_drewN ?_ _ | refine blk_drew ?_ | refine blk_alloc ?_ _)); refine blk_far ?_ NB214_227.out _; (with_reducible repeat (first | refine blk_drewN ?_ _ | refine blk_drew ?_ | refine blk_alloc ?_ _)); refine blk_far ?_ NB214_227.out _; (with_reducible repeat (first | refine blk_drewN ?_ _ | refine blk_drew ?_ | refine blk_alloc ?_ _)); exact BK214.out) hb2); have n1_ := Aside0.mk (blk_below (g := gb227) (o := .cells #[.int .i64 t215, .int .i64 t216, .int .i64 t217, .int .i64 t218, .int .i64 t219, .int .i64 t220, .int .i64 t221, .int .i64 t222, .int .i64 t223, .int .i64 t224, .int .i64 t225, .slice none 0 0, .int .i64 t226] 27 (0, 0)) (by (with_reducible repeat (first | refine blk_drewN ?_ _ | refine blk_drew ?_ | refine blk_alloc ?_ _)); refine blk_put (cs := #[.int .i64 t215, .int .i64 t216, .int .i64 t217, .int .i64 t218, .int .i64 t219, .int .i64 t220, .int .i64 t221, .int .i64 t222, .int .i64 t223, .int .i64 t224, .int .i64 t225, .slice none 0 0, .int .i64 0]) ?_ 12 _ rfl; (with_reducible repeat (first | refine blk_drewN ?_ _ | refine blk_drew ?_ | refine blk_alloc ?_ _)); refine blk_put (cs := #[.int .i64 t215, .int .i64 t216, .int .i64 t217, .int .i64 t218, .int .i64 t219, .int .i64 t220, .int .i64 t221, .int .i64 t222, .int .i64 t223, .int .i64 t224, .int .i64 t225, .slice none 0 0, .int .i64 0]) ?_ 11 _ rfl; (with_reducible repeat (first | refine blk_drewN ?_ _ | refine blk_drew ?_ | refine blk_alloc ?_ _)); refine blk_put (cs := #[.int .i64 t215, .int .i64 t216, .int .i64 t217, .int .i64 t218, .int .i64 t219, .int .i64 t220, .int .i64 t221, .int .i64 t222, .int .i64 t223, .int .i64 t224, .int .i64 0, .slice none 0 0, .int .i64 0]) ?_ 10 _ rfl; (with_reducible repeat (first | refine blk_drewN ?_ _ | refine blk_drew ?_ | refine blk_alloc ?_ _)); refine blk_put (cs := #[.int .i64 t215, .int .i64 t216, .int .i64 t217, .int .i64 t218, .int .i64 t219, .int .i64 t220, .int .i64 t221, .int .i64 t222, .int .i64 t223, .int .i64 0, .int .i64 0, .slice none 0 0, .int .i64 0]) ?_ 9 _ rfl; (with_reducible repeat (first | refine blk_drewN ?_ _ | refine blk_drew ?_ | refine blk_alloc ?_ _)); refine blk_put (cs := #[.int .i64 t215, .int .i64 t216, .int .i64 t217, .int .i64 t218, .int .i64 t219, .int .i64 t220, .int .i64 t221, .int .i64 t222, .int .i64 0, .int .i64 0, .int .i64 0, .slice none 0 0, .int .i64 0]) ?_ 8 _ rfl; (with_reducible repeat (first | refine blk_drewN ?_ _ | refine blk_drew ?_ | refine blk_alloc ?_ _)); refine blk_put (cs := #[.int .i64 t215, .int .i64 t216, .int .i64 t217, .int .i64 t218, .int .i64 t219, .int .i64 t220, .int .i64 t221, .int .i64 0, .int .i64 0, .int .i64 0, .int .i64 0, .slice none 0 0, .int .i64 0]) ?_ 7 _ rfl; (with_reducible repeat (first | refine blk_drewN ?_ _ | refine blk_drew ?_ | refine blk_alloc ?_ _)); refine blk_put (cs := #[.int .i64 t215, .int .i64 t216, .int .i64 t217, .int .i64 t218, .int .i64 t219, .int .i64 t220, .int .i64 0, .int .i64 0, .int .i64 0, .int .i64 0, .int .i64 0, .slice none 0 0, .int .i64 0]) ?_ 6 _ rfl; (with_reducible repeat (first | refine blk_drewN ?_ _ | refine blk_drew ?_ | refine blk_alloc ?_ _)); refine blk_put (cs := #[.int .i64 t215, .int .i64 t216, .int .i64 t217, .int .i64 t218, .int .i64 t219, .int .i64 0, .int .i64 0, .int .i64 0, .int .i64 0, .int .i64 0, .int .i64 0, .slice none 0 0, .int .i64 0]) ?_ 5 _ rfl; (with_reducible repeat (first | refine blk_drewN ?_ _ | refine blk_drew ?_ | refine blk_alloc ?_ _)); refine blk_put (cs := #[.int .i64 t215, .int .i64 t216, .int .i64 t217, .int .i64 t218, .int .i64 0, .int .i64 0, .int .i64 0, .int .i64 0, .int .i64 0, .int .i64 0, .int .i64 0, .slice none 0 0, .int .i64 0]) ?_ 4 _ rfl; (with_reducible repeat (first | refine blk_drewN ?_ _ | refine blk_drew ?_ | refine blk_alloc ?_ _)); refine blk_put (cs := #[.int .i64 t215, .int .i64 t216, .int .i64 t217, .int .i64 0, .int .i64 0, .int .i64 0, .int .i64 0, .int .i64 0, .int .i64 0, .int .i64 0, .int .i64 0, .slice none 0 0, .int .i64 0]) ?_ 3 _ rfl; (with_reducible repeat (first | refine blk_drewN ?_ _ | refine blk_drew ?_ | refine blk_alloc ?_ _)); refine blk_put (cs := #[.int .i64 t215, .int .i64 t216, .int .i64 0, .int .i64 0, .int .i64 0, .int .i64 0, .int .i64 0, .int .i64 0, .int .i64 0, .int .i64 0, .int .i64 0, .slice none 0 0, .int .i64 0]) ?_ 2 _ rfl; (with_reducible repeat (first | refine blk_drewN ?_ _ | refine blk_drew ?_ | refine blk_alloc ?_ _)); refine blk_put (cs := #[.int .i64 t215, .int .i64 0, .int .i64 0, .int .i64 0, .int .i64 0, .int .i64 0, .int .i64 0, .int .i64 0, .int .i64 0, .int .i64 0, .int .i64 0, .slice none 0 0, .int .i64 0]) ?_ 1 _ rfl; (with_reducible repeat (first | refine blk_drewN ?_ _ | refine blk_drew ?_ | refine blk_alloc ?_ _)); refine blk_put (cs := #[.int .i64 0, .int .i64 0, .int .i64 0, .int .i64 0, .int .i64 0, .int .i64 0, .int .i64 0, .int .i64 0, .int .i64 0, .int .i64 0, .int .i64 0, .slice none 0 0, .int .i64 0]) ?_ 0 _ rfl; (with_reducible repeat (first | refine blk_drewN ?_ _ | refine blk_drew ?_ | refine blk_alloc ?_ _)); exact BK227.out) hb2); have n2_ := Aside0.mk (hb); have n3_ := Aside0.mk (hi); have n4_ := Aside0.mk (IsS48.ne_blk hi (blk_below (g := gb214) (o := .cells #[.int .i64 a1_0, .int .i64 a1_1, .int .i64 a1_2, .int .i64 a1_3, .int .i64 a1_4, .bool a1_5] 24 (0, 0)) (by (with_reducible repeat (first | refine blk_drewN ?_ _ | refine blk_drew ?_ | refine blk_alloc ?_ _)); refine blk_far ?_ NB214_227.out _; (with_reducible repeat (first | refine blk_drewN ?_ _ | refine blk_drew ?_ | refine blk_alloc ?_ _)); refine blk_far ?_ NB214_227.out _; (with_reducible repeat (first | refine blk_drewN ?_ _ | refine blk_drew ?_ | refine blk_alloc ?_ _)); refine blk_far ?_ NB214_227.out _; (with_reducible repeat (first | refine blk_drewN ?_ _ | refine blk_drew ?_ | refine blk_alloc ?_ _)); refine blk_far ?_ NB214_227.out _; (with_reducible repeat (first | refine blk_drewN ?_ _ | refine blk_drew ?_ | refine blk_alloc ?_ _)); refine blk_far ?_ NB214_227.out _; (with_reducible repeat (first | refine blk_drewN ?_ _ | refine blk_drew ?_ | refine blk_alloc ?_ _)); refine blk_far ?_ NB214_227.out _; (with_reducible repeat (first | refine blk_drewN ?_ _ | refine blk_drew ?_ | refine blk_alloc ?_ _)); refine blk_far ?_ NB214_227.out _; (with_reducible repeat (first | refine blk_drewN ?_ _ | refine blk_drew ?_ | refine blk_alloc ?_ _)); refine blk_far ?_ NB214_227.out _; (with_reducible repeat (first | refine blk_drewN ?_ _ | refine blk_drew ?_ | refine blk_alloc ?_ _)); refine blk_far ?_ NB214_227.out _; (with_reducible repeat (first | refine blk_drewN ?_ _ | refine blk_drew ?_ | refine blk_alloc ?_ _)); refine blk_far ?_ NB214_227.out _; (with_reducible repeat (first | refine blk_drewN ?_ _ | refine blk_drew ?_ | refine blk_alloc ?_ _)); refine blk_far ?_ NB214_227.out _; (with_reducible repeat (first | refine blk_drewN ?_ _ | refine blk_drew ?_ | refine blk_alloc ?_ _)); refine blk_far ?_ NB214_227.out _; (with_reducible repeat (first | refine blk_drewN ?_ _ | refine blk_drew ?_ | refine blk_alloc ?_ _)); refine blk_far ?_ NB214_227.out _; (with_reducible repeat (first | refine blk_drewN ?_ _ | refine blk_drew ?_ | refine blk_alloc ?_ _)); exact BK214.out) hb2) (by decide)); have n5_ := Aside0.mk (Ne.symm (IsS48.ne_blk hi (blk_below (g := gb214) (o := .cells #[.int .i64 a1_0, .int .i64 a1_1, .int .i64 a1_2, .int .i64 a1_3, .int .i64 a1_4, .bool a1_5] 24 (0, 0)) (by (with_reducible repeat (first | refine blk_drewN ?_ _ | refine blk_drew ?_ | refine blk_alloc ?_ _)); refine blk_far ?_ NB214_227.out _; (with_reducible repeat (first | refine blk_drewN ?_ _ | refine blk_drew ?_ | refine blk_alloc ?_ _)); refine blk_far ?_ NB214_227.out _; (with_reducible repeat (first | refine blk_drewN ?_ _ | refine blk_drew ?_ | refine blk_alloc ?_ _)); refine blk_far ?_ NB214_227.out _; (with_reducible repeat (first | refine blk_drewN ?_ _ | refine blk_drew ?_ | refine blk_alloc ?_ _)); refine blk_far ?_ NB214_227.out _; (with_reducible repeat (first | refine blk_drewN ?_ _ | refine blk_drew ?_ | refine blk_alloc ?_ _)); refine blk_far ?_ NB214_227.out _; (with_reducible repeat (first | refine blk_drewN ?_ _ | refine blk_drew ?_ | refine blk_alloc ?_ _)); refine blk_far ?_ NB214_227.out _; (with_reducible repeat (first | refine blk_drewN ?_ _ | refine blk_drew ?_ | refine blk_alloc ?_ _)); refine blk_far ?_ NB214_227.out _; (with_reducible repeat (first | refine blk_drewN ?_ _ | refine blk_drew ?_ | refine blk_alloc ?_ _)); refine blk_far ?_ NB214_227.out _; (with_reducible repeat (first | refine blk_drewN ?_ _ | refine blk_drew ?_ | refine blk_alloc ?_ _)); refine blk_far ?_ NB214_227.out _; (with_reducible repeat (first | refine blk_drewN ?_ _ | refine blk_drew ?_ | refine blk_alloc ?_ _)); refine blk_far ?_ NB214_227.out _; (with_reducible repeat (first | refine blk_drewN ?_ _ | refine blk_drew ?_ | refine blk_alloc ?_ _)); refine blk_far ?_ NB214_227.out _; (with_reducible repeat (first | refine blk_drewN ?_ _ | refine blk_drew ?_ | refine blk_alloc ?_ _)); refine blk_far ?_ NB214_227.out _; (with_reducible repeat (first | refine blk_drewN ?_ _ | refine blk_drew ?_ | refine blk_alloc ?_ _)); refine blk_far ?_ NB214_227.out _; (with_reducible repeat (first | refine blk_drewN ?_ _ | refine blk_drew ?_ | refine blk_alloc ?_ _)); exact BK214.out) hb2) (by decide))); have n6_ := Aside0.mk (IsS48.ne_blk hi (blk_below (g := gb227) (o := .cells #[.int .i64 t215, .int .i64 t216, .int .i64 t217, .int .i64 t218, .int .i64 t219, .int .i64 t220, .int .i64 t221, .int .i64 t222, .int .i64 t223, .int .i64 t224, .int .i64 t225, .slice none 0 0, .int .i64 t226] 27 (0, 0)) (by (with_reducible repeat (first | refine blk_drewN ?_ _ | refine blk_drew ?_ | refine blk_alloc ?_ _)); refine blk_put (cs := #[.int .i64 t215, .int .i64 t216, .int .i64 t217, .int .i64 t218, .int .i64 t219, .int .i64 t220, .int .i64 t221, .int .i64 t222, .int .i64 t223, .int .i64 t224, .int .i64 t225, .slice none 0 0, .int .i64 0]) ?_ 12 _ rfl; (with_reducible repeat (first | refine blk_drewN ?_ _ | refine blk_drew ?_ | refine blk_alloc ?_ _)); refine blk_put (cs := #[.int .i64 t215, .int .i64 t216, .int .i64 t217, .int .i64 t218, .int .i64 t219, .int .i64 t220, .int .i64 t221, .int .i64 t222, .int .i64 t223, .int .i64 t224, .int .i64 t225, .slice none 0 0, .int .i64 0]) ?_ 11 _ rfl; (with_reducible repeat (first | refine blk_drewN ?_ _ | refine blk_drew ?_ | refine blk_alloc ?_ _)); refine blk_put (cs := #[.int .i64 t215, .int .i64 t216, .int .i64 t217, .int .i64 t218, .int .i64 t219, .int .i64 t220, .int .i64 t221, .int .i64 t222, .int .i64 t223, .int .i64 t224, .int .i64 0, .slice none 0 0, .int .i64 0]) ?_ 10 _ rfl; (with_reducible repeat (first | refine blk_drewN ?_ _ | refine blk_drew ?_ | refine blk_alloc ?_ _)); refine blk_put (cs := #[.int .i64 t215, .int .i64 t216, .int .i64 t217, .int .i64 t218, .int .i64 t219, .int .i64 t220, .int .i64 t221, .int .i64 t222, .int .i64 t223, .int .i64 0, .int .i64 0, .slice none 0 0, .int .i64 0]) ?_ 9 _ rfl; (with_reducible repeat (first | refine blk_drewN ?_ _ | refine blk_drew ?_ | refine blk_alloc ?_ _)); refine blk_put (cs := #[.int .i64 t215, .int .i64 t216, .int .i64 t217, .int .i64 t218, .int .i64 t219, .int .i64 t220, .int .i64 t221, .int .i64 t222, .int .i64 0, .int .i64 0, .int .i64 0, .slice none 0 0, .int .i64 0]) ?_ 8 _ rfl; (with_reducible repeat (first | refine blk_drewN ?_ _ | refine blk_drew ?_ | refine blk_alloc ?_ _)); refine blk_put (cs := #[.int .i64 t215, .int .i64 t216, .int .i64 t217, .int .i64 t218, .int .i64 t219, .int .i64 t220, .int .i64 t221, .int .i64 0, .int .i64 0, .int .i64 0, .int .i64 0, .slice none 0 0, .int .i64 0]) ?_ 7 _ rfl; (with_reducible repeat (first | refine blk_drewN ?_ _ | refine blk_drew ?_ | refine blk_alloc ?_ _)); refine blk_put (cs := #[.int .i64 t215, .int .i64 t216, .int .i64 t217, .int .i64 t218, .int .i64 t219, .int .i64 t220, .int .i64 0, .int .i64 0, .int .i64 0, .int .i64 0, .int .i64 0, .slice none 0 0, .int .i64 0]) ?_ 6 _ rfl; (with_reducible repeat (first | refine blk_drewN ?_ _ | refine blk_drew ?_ | refine blk_alloc ?_ _)); refine blk_put (cs := #[.int .i64 t215, .int .i64 t216, .int .i64 t217, .int .i64 t218, .int .i64 t219, .int .i64 0, .int .i64 0, .int .i64 0, .int .i64 0, .int .i64 0, .int .i64 0, .slice none 0 0, .int .i64 0]) ?_ 5 _ rfl; (with_reducible repeat (first | refine blk_drewN ?_ _ | refine blk_drew ?_ | refine blk_alloc ?_ _)); refine blk_put (cs := #[.int .i64 t215, .int .i64 t216, .int .i64 t217, .int .i64 t218, .int .i64 0, .int .i64 0, .int .i64 0, .int .i64 0, .int .i64 0, .int .i64 0, .int .i64 0, .slice none 0 0, .int .i64 0]) ?_ 4 _ rfl; (with_reducible repeat (first | refine blk_drewN ?_ _ | refine blk_drew ?_ | refine blk_alloc ?_ _)); refine blk_put (cs := #[.int .i64 t215, .int .i64 t216, .int .i64 t217, .int .i64 0, .int .i64 0, .int .i64 0, .int .i64 0, .int .i64 0, .int .i64 0, .int .i64 0, .int .i64 0, .slice none 0 0, .int .i64 0]) ?_ 3 _ rfl; (with_reducible repeat (first | refine blk_drewN ?_ _ | refine blk_drew ?_ | refine blk_alloc ?_ _)); refine blk_put (cs := #[.int .i64 t215, .int .i64 t216, .int .i64 0, .int .i64 0, .int .i64 0, .int .i64 0, .int .i64 0, .int .i64 0, .int .i64 0, .int .i64 0, .int .i64 0, .slice none 0 0, .int .i64 0]) ?_ 2 _ rfl; (with_reducible repeat (first | refine blk_drewN ?_ _ | refine blk_drew ?_ | refine blk_alloc ?_ _)); refine blk_put (cs := #[.int .i64 t215, .int .i64 0, .int .i64 0, .int .i64 0, .int .i64 0, .int .i64 0, .int .i64 0, .int .i64 0, .int .i64 0, .int .i64 0, .int .i64 0, .slice none 0 0, .int .i64 0]) ?_ 1 _ rfl; (with_reducible repeat (first | refine blk_drewN ?_ _ | refine blk_drew ?_ | refine blk_alloc ?_ _)); refine blk_put (cs := #[.int .i64 0, .int .i64 0, .int .i64 0, .int .i64 0, .int .i64 0, .int .i64 0, .int .i64 0, .int .i64 0, .int .i64 0, .int .i64 0, .int .i64 0, .slice none 0 0, .int .i64 0]) ?_ 0 _ rfl; (with_reducible repeat (first | refine blk_drewN ?_ _ | refine blk_drew ?_ | refine blk_alloc ?_ _)); exact BK227.out) hb2) (by decide)); have n7_ := Aside0.mk (Ne.symm (IsS48.ne_blk hi (blk_below (g := gb227) (o := .cells #[.int .i64 t215, .int .i64 t216, .int .i64 t217, .int .i64 t218, .int .i64 t219, .int .i64 t220, .int .i64 t221, .int .i64 t222, .int .i64 t223, .int .i64 t224, .int .i64 t225, .slice none 0 0, .int .i64 t226] 27 (0, 0)) (by (with_reducible repeat (first | refine blk_drewN ?_ _ | refine blk_drew ?_ | refine blk_alloc ?_ _)); refine blk_put (cs := #[.int .i64 t215, .int .i64 t216, .int .i64 t217, .int .i64 t218, .int .i64 t219, .int .i64 t220, .int .i64 t221, .int .i64 t222, .int .i64 t223, .int .i64 t224, .int .i64 t225, .slice none 0 0, .int .i64 0]) ?_ 12 _ rfl; (with_reducible repeat (first | refine blk_drewN ?_ _ | refine blk_drew ?_ | refine blk_alloc ?_ _)); refine blk_put (cs := #[.int .i64 t215, .int .i64 t216, .int .i64 t217, .int .i64 t218, .int .i64 t219, .int .i64 t220, .int .i64 t221, .int .i64 t222, .int .i64 t223, .int .i64 t224, .int .i64 t225, .slice none 0 0, .int .i64 0]) ?_ 11 _ rfl; (with_reducible repeat (first | refine blk_drewN ?_ _ | refine blk_drew ?_ | refine blk_alloc ?_ _)); refine blk_put (cs := #[.int .i64 t215, .int .i64 t216, .int .i64 t217, .int .i64 t218, .int .i64 t219, .int .i64 t220, .int .i64 t221, .int .i64 t222, .int .i64 t223, .int .i64 t224, .int .i64 0, .slice none 0 0, .int .i64 0]) ?_ 10 _ rfl; (with_reducible repeat (first | refine blk_drewN ?_ _ | refine blk_drew ?_ | refine blk_alloc ?_ _)); refine blk_put (cs := #[.int .i64 t215, .int .i64 t216, .int .i64 t217, .int .i64 t218, .int .i64 t219, .int .i64 t220, .int .i64 t221, .int .i64 t222, .int .i64 t223, .int .i64 0, .int .i64 0, .slice none 0 0, .int .i64 0]) ?_ 9 _ rfl; (with_reducible repeat (first | refine blk_drewN ?_ _ | refine blk_drew ?_ | refine blk_alloc ?_ _)); refine blk_put (cs := #[.int .i64 t215, .int .i64 t216, .int .i64 t217, .int .i64 t218, .int .i64 t219, .int .i64 t220, .int .i64 t221, .int .i64 t222, .int .i64 0, .int .i64 0, .int .i64 0, .slice none 0 0, .int .i64 0]) ?_ 8 _ rfl; (with_reducible repeat (first | refine blk_drewN ?_ _ | refine blk_drew ?_ | refine blk_alloc ?_ _)); refine blk_put (cs := #[.int .i64 t215, .int .i64 t216, .int .i64 t217, .int .i64 t218, .int .i64 t219, .int .i64 t220, .int .i64 t221, .int .i64 0, .int .i64 0, .int .i64 0, .int .i64 0, .slice none 0 0, .int .i64 0]) ?_ 7 _ rfl; (with_reducible repeat (first | refine blk_drewN ?_ _ | refine blk_drew ?_ | refine blk_alloc ?_ _)); refine blk_put (cs := #[.int .i64 t215, .int .i64 t216, .int .i64 t217, .int .i64 t218, .int .i64 t219, .int .i64 t220, .int .i64 0, .int .i64 0, .int .i64 0, .int .i64 0, .int .i64 0, .slice none 0 0, .int .i64 0]) ?_ 6 _ rfl; (with_reducible repeat (first | refine blk_drewN ?_ _ | refine blk_drew ?_ | refine blk_alloc ?_ _)); refine blk_put (cs := #[.int .i64 t215, .int .i64 t216, .int .i64 t217, .int .i64 t218, .int .i64 t219, .int .i64 0, .int .i64 0, .int .i64 0, .int .i64 0, .int .i64 0, .int .i64 0, .slice none 0 0, .int .i64 0]) ?_ 5 _ rfl; (with_reducible repeat (first | refine blk_drewN ?_ _ | refine blk_drew ?_ | refine blk_alloc ?_ _)); refine blk_put (cs := #[.int .i64 t215, .int .i64 t216, .int .i64 t217, .int .i64 t218, .int .i64 0, .int .i64 0, .int .i64 0, .int .i64 0, .int .i64 0, .int .i64 0, .int .i64 0, .slice none 0 0, .int .i64 0]) ?_ 4 _ rfl; (with_reducible repeat (first | refine blk_drewN ?_ _ | refine blk_drew ?_ | refine blk_alloc ?_ _)); refine blk_put (cs := #[.int .i64 t215, .int .i64 t216, .int .i64 t217, .int .i64 0, .int .i64 0, .int .i64 0, .int .i64 0, .int .i64 0, .int .i64 0, .int .i64 0, .int .i64 0, .slice none 0 0, .int .i64 0]) ?_ 3 _ rfl; (with_reducible repeat (first | refine blk_drewN ?_ _ | refine blk_drew ?_ | refine blk_alloc ?_ _)); refine blk_put (cs := #[.int .i64 t215, .int .i64 t216, .int .i64 0, .int .i64 0, .int .i64 0, .int .i64 0, .int .i64 0, .int .i64 0, .int .i64 0, .int .i64 0, .int .i64 0, .slice none 0 0, .int .i64 0]) ?_ 2 _ rfl; (with_reducible repeat (first | refine blk_drewN ?_ _ | refine blk_drew ?_ | refine blk_alloc ?_ _)); refine blk_put (cs := #[.int .i64 t215, .int .i64 0, .int .i64 0, .int .i64 0, .int .i64 0, .int .i64 0, .int .i64 0, .int .i64 0, .int .i64 0, .int .i64 0, .int .i64 0, .slice none 0 0, .int .i64 0]) ?_ 1 _ rfl; (with_reducible repeat (first | refine blk_drewN ?_ _ | refine blk_drew ?_ | refine blk_alloc ?_ _)); refine blk_put (cs := #[.int .i64 0, .int .i64 0, .int .i64 0, .int .i64 0, .int .i64 0, .int .i64 0, .int .i64 0, .int .i64 0, .int .i64 0, .int .i64 0, .int .i64 0, .slice none 0 0, .int .i64 0]) ?_ 0 _ rfl; (with_reducible repeat (first | refine blk_drewN ?_ _ | refine blk_drew ?_ | refine blk_alloc ?_ _)); exact BK227.out) hb2) (by decide))); clear BK214; clear BK227; clear HB; have BK214 := n0_; have BK227 := n1_; have HB := n2_; have HI246 := n3_; have NB246_214 := n4_; have NB214_246 := n5_; have NB246_227 := n6_; have NB227_246 := n7_; clear n0_ n1_ n2_ n3_ n4_ n5_ n6_ n7_; (try clear hb); (try clear hb2); (try clear hk); (try clear hi)))
   go_ret
   exact ⟨by first | rfl | (simp [errW_none, errW_some] <;> rfl) | (simp [*, errW_none, errW_some] <;> rfl), by repeat (first | (with_reducible first | exact HB.out | apply below_alloc | apply pw_below_drewN | apply below_drew1 | refine below_set ?_ (IsS48.ge HI246.out) | refine below_set ?_ GE214.out | refine below_set ?_ GE227.out) | exact HB.out)⟩
 ·rw [if_neg c4] at H
  exact absurd H (by simp)
def flywheellaw28_GuardBrakes.Pure : Prop := ∀ (l0 : List (S24)) (a1_0 : Int) (a1_1 : Int) (a1_2 : Int) (a1_3 : Int) (a1_4 : Int) (a1_5 : Bool), l0.length ≤ maxLen → l0.length * 48 ≤ 140737488351232 → (∀ x ∈ l0, (Lit.int .i64 x.f0).wf = true ∧ (Lit.int .i64 x.f1).wf = true ∧ (Lit.int .i64 x.f2).wf = true ∧ (Lit.int .i64 x.f3).wf = true ∧ (Lit.int .i64 x.f4).wf = true) → (Lit.int .i64 a1_0).wf = true → (Lit.int .i64 a1_1).wf = true → (Lit.int .i64 a1_2).wf = true → (Lit.int .i64 a1_3).wf = true → (Lit.int .i64 a1_4).wf = true → ∃ k, flywheellaw28_GuardBrakes.f k l0 a1_0 a1_1 a1_2 a1_3 a1_4 a1_5 = some true
theorem flywheellaw28_GuardBrakes.walk (P : flywheellaw28_GuardBrakes.Pure) (A0 : Option Addr) (c0 : Nat) (l0 : List (S24)) (a1_0 : Int) (a1_1 : Int) (a1_2 : Int) (a1_3 : Int) (a1_4 : Int) (a1_5 : Bool) (w : World) (hm0 : l0.length ≤ maxLen) (y0 : l0.length * 48 ≤ 140737488351232) (hw0 : (∀ x ∈ l0, (Lit.int .i64 x.f0).wf = true ∧ (Lit.int .i64 x.f1).wf = true ∧ (Lit.int .i64 x.f2).wf = true ∧ (Lit.int .i64 x.f3).wf = true ∧ (Lit.int .i64 x.f4).wf = true)) (w1_0 : (Lit.int .i64 a1_0).wf = true) (w1_1 : (Lit.int .i64 a1_1).wf = true) (w1_2 : (Lit.int .i64 a1_2).wf = true) (w1_3 : (Lit.int .i64 a1_3).wf = true) (w1_4 : (Lit.int .i64 a1_4).wf = true) (hr0 : Kd.C k24 w A0 l0.length l0) (hc0 : l0.length ≤ c0) :
  Calls Try.prog 3 #[.slice A0 l0.length c0, .agg #[.int .i64 a1_0, .int .i64 a1_1, .int .i64 a1_2, .int .i64 a1_3, .int .i64 a1_4, .bool a1_5]] w fun e w' => e = .returned (.bool true) ∧ Below w.heap.size w w' := by
 obtain ⟨k, h⟩ := P l0 a1_0 a1_1 a1_2 a1_3 a1_4 a1_5 hm0 y0 hw0 w1_0 w1_1 w1_2 w1_3 w1_4
 refine (flywheellaw28_GuardBrakes.calls k A0 c0 l0 a1_0 a1_1 a1_2 a1_3 a1_4 a1_5 true w hr0 hc0 h).mono ?_
 rintro e w' ⟨rfl, hd⟩
 exact ⟨rfl, hd⟩
end Go.Proofs.Ytkfkbebpcmmnfaa.P
end

section
namespace Go.Proofs.Ytkfkbebpcmmnfaa.P
open Go.RowKit Go.Proofs.YtkfkbebpcmmnfaaW.PrintWords Go.Proofs.YtkfkbebpcmmnfaaW.PrintLast Go.Proofs.YtkfkbebpcmmnfaaW.PrintMore
attribute [local go_sem] max2_int min2_int max_two min_two max_three min_three max_four min_four   -- for this text's walks alone
set_option linter.unusedVariables false
set_option linter.unusedSimpArgs false
end Go.Proofs.Ytkfkbebpcmmnfaa.P
end

section
namespace Go.Proofs.Ytkfkbebpcmmnfaa.P
open Go.RowKit Go.Proofs.YtkfkbebpcmmnfaaW.PrintWords Go.Proofs.YtkfkbebpcmmnfaaW.PrintLast Go.Proofs.YtkfkbebpcmmnfaaW.PrintMore
attribute [local go_sem] max2_int min2_int max_two min_two max_three min_three max_four min_four   -- for this text's walks alone
set_option linter.unusedVariables false
set_option linter.unusedSimpArgs false
end Go.Proofs.Ytkfkbebpcmmnfaa.P
end

section
namespace Go.Proofs.Ytkfkbebpcmmnfaa.P
open Go.RowKit Go.Proofs.YtkfkbebpcmmnfaaW.PrintWords Go.Proofs.YtkfkbebpcmmnfaaW.PrintLast Go.Proofs.YtkfkbebpcmmnfaaW.PrintMore
attribute [local go_sem] max2_int min2_int max_two min_two max_three min_three max_four min_four   -- for this text's walks alone
set_option linter.unusedVariables false
set_option linter.unusedSimpArgs false
end Go.Proofs.Ytkfkbebpcmmnfaa.P
end

section
namespace Go.Proofs.Ytkfkbebpcmmnfaa.P
open Go.RowKit Go.Proofs.YtkfkbebpcmmnfaaW.PrintWords Go.Proofs.YtkfkbebpcmmnfaaW.PrintLast Go.Proofs.YtkfkbebpcmmnfaaW.PrintMore
attribute [local go_sem] max2_int min2_int max_two min_two max_three min_three max_four min_four   -- for this text's walks alone
set_option linter.unusedVariables false
set_option linter.unusedSimpArgs false
end Go.Proofs.Ytkfkbebpcmmnfaa.P
end

section
namespace Go.Proofs.Ytkfkbebpcmmnfaa.P
open Go.RowKit
set_option linter.unusedVariables false
set_option linter.unusedSimpArgs false
theorem clamp_eq (a lo hi : Int) : sat_Clamp.f a lo hi = some (if a < lo then lo else if a > hi then hi else a) := by
  unfold sat_Clamp.f
  split
  · rfl
  · split <;> rfl
end Go.Proofs.Ytkfkbebpcmmnfaa.P
end

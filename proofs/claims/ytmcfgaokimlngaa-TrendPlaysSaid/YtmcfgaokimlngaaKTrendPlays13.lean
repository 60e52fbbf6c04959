-- PUT TOGETHER by a program of this session: of the claim's texts, what is used
import Derived.Test.YtmcfgaokimlngaaKTrendPlays2
import Derived.Test.YtmcfgaokimlngaaKTrendPlays7
import Derived.Test.YtmcfgaokimlngaaKTrendPlays10
import Derived.Test.YtmcfgaokimlngaaKTrendPlays11
import Derived.Test.YtmcfgaokimlngaaKTrendPlays12
section
namespace Go.Proofs.Ytmcfgaokimlngaa.P
open Go.RowKit Go.Proofs.YtmcfgaokimlngaaW.PrintWords Go.Proofs.YtmcfgaokimlngaaW.PrintLast Go.Proofs.YtmcfgaokimlngaaW.PrintMore
attribute [local go_sem] max2_int min2_int max_two min_two max_three min_three max_four min_four   -- for this text's walks alone
set_option linter.unusedVariables false
set_option linter.unusedSimpArgs false
mutual
def flywheellaw17_TrendPlays.j0 : Nat → List (S36) → Bool → Int → Int → Int → Int → Int → List Int → List Int → Int → Int → Int → List Int → List Int → Int → Int → Int → Int → Option (Bool)
 | 0, _, _, _, _, _, _, _, _, _, _, _, _, _, _, _, _, _, _ => none
 | k + 1, x2, x33, x356000, x356001, x356002, x356003, x356004, x356005, x356006, x356007, x366000, x366001, x366002, x366003, x366004, x366005, x366006, x366007 => if x33 = true then (some false) else (flywheellaw17_TrendPlays.l0 k x2 0 x356000 x356001 x356002 x356003 x356004 x356005 x356006 x356007 x366000 x366001 x366002 x366003 x366004 x366005 x366006 x366007)
def flywheellaw17_TrendPlays.l0 : Nat → List (S36) → Int → Int → Int → Int → Int → Int → List Int → List Int → Int → Int → Int → List Int → List Int → Int → Int → Int → Int → Option (Bool)
 | 0, _, _, _, _, _, _, _, _, _, _, _, _, _, _, _, _, _, _ => none
 | k + 1, x2, x11, x356000, x356001, x356002, x356003, x356004, x356005, x356006, x356007, x366000, x366001, x366002, x366003, x366004, x366005, x366006, x366007 => if x11 < (x2.length : Int) then (if x11 < 100 then (flywheellaw17_TrendPlays.j2 k x2 x11 true x356000 x356001 x356002 x356003 x356004 x356005 x356006 x356007 x366000 x366001 x366002 x366003 x366004 x366005 x366006 x366007) else (flywheellaw17_TrendPlays.j2 k x2 x11 false x356000 x356001 x356002 x356003 x356004 x356005 x356006 x356007 x366000 x366001 x366002 x366003 x366004 x366005 x366006 x366007)) else (flywheellaw17_TrendPlays.j2 k x2 x11 false x356000 x356001 x356002 x356003 x356004 x356005 x356006 x356007 x366000 x366001 x366002 x366003 x366004 x366005 x366006 x366007)
def flywheellaw17_TrendPlays.j2 : Nat → List (S36) → Int → Bool → Int → Int → Int → Int → Int → List Int → List Int → Int → Int → Int → List Int → List Int → Int → Int → Int → Int → Option (Bool)
 | 0, _, _, _, _, _, _, _, _, _, _, _, _, _, _, _, _, _, _, _ => none
 | k + 1, x2, x11, x45, x356000, x356001, x356002, x356003, x356004, x356005, x356006, x356007, x366000, x366001, x366002, x366003, x366004, x366005, x366006, x366007 => if x45 = true then (if 0 ≤ x11 then (if x11 < (x2.length : Int) then ((trend_Trend_Add.f k x356000 x356001 x356002 x356003 x356004 x356005 x356006 x356007 ((rd_T36 x2 x11).f0) ((rd_T36 x2 x11).f1)).bind fun bt370 => ((flywheelref17_Trend_Add.f k x366000 x366001 x366002 x366003 x366004 x366005 x366006 x366007 ((rd_T36 x2 x11).f0) ((rd_T36 x2 x11).f1)).bind fun bt381 => (if bt370.1 = bt381.1 then ((trend_Trend_Slope.f k bt370.2.1 bt370.2.2.1 bt370.2.2.2.1 bt370.2.2.2.2.1 bt370.2.2.2.2.2.1 bt370.2.2.2.2.2.2.1 bt370.2.2.2.2.2.2.2.1 bt370.2.2.2.2.2.2.2.2).bind fun bt390 => ((flywheelref17_Trend_Slope.f k bt381.2.1 bt381.2.2.1 bt381.2.2.2.1 bt381.2.2.2.2.1 bt381.2.2.2.2.2.1 bt381.2.2.2.2.2.2.1 bt381.2.2.2.2.2.2.2.1 bt381.2.2.2.2.2.2.2.2).bind fun bt399 => (if bt390.1 = bt399.1 then ((trend_Trend_Count.f bt390.2.1 bt390.2.2.1 bt390.2.2.2.1 bt390.2.2.2.2.1 bt390.2.2.2.2.2.1 bt390.2.2.2.2.2.2.1 bt390.2.2.2.2.2.2.2.1 bt390.2.2.2.2.2.2.2.2).bind fun bt408 => ((flywheelref17_Trend_Count.f bt399.2.1 bt399.2.2.1 bt399.2.2.2.1 bt399.2.2.2.2.1 bt399.2.2.2.2.2.1 bt399.2.2.2.2.2.2.1 bt399.2.2.2.2.2.2.2.1 bt399.2.2.2.2.2.2.2.2).bind fun bt417 => (if bt408.1 = bt417.1 then (flywheellaw17_TrendPlays.l0 k x2 (wrap64 (x11 + 1)) bt408.2.1 bt408.2.2.1 bt408.2.2.2.1 bt408.2.2.2.2.1 bt408.2.2.2.2.2.1 bt408.2.2.2.2.2.2.1 bt408.2.2.2.2.2.2.2.1 bt408.2.2.2.2.2.2.2.2 bt417.2.1 bt417.2.2.1 bt417.2.2.2.1 bt417.2.2.2.2.1 bt417.2.2.2.2.2.1 bt417.2.2.2.2.2.2.1 bt417.2.2.2.2.2.2.2.1 bt417.2.2.2.2.2.2.2.2) else (some false)))) else (some false)))) else (some false)))) else (none)) else (none)) else ((flywheellaw17_wakes.f k).bind fun t367 => (some t367))
def flywheellaw17_TrendPlays.j3 : Nat → List (S36) → Bool → Int → Int → Int → Int → Int → List Int → List Int → Int → Option (Bool)
 | 0, _, _, _, _, _, _, _, _, _, _ => none
 | k + 1, x2, x33, x356000, x356001, x356002, x356003, x356004, x356005, x356006, x356007 => if x33 = true then (some false) else (flywheellaw17_TrendPlays.l5000 k x2 0 x356000 x356001 x356002 x356003 x356004 x356005 x356006 x356007)
def flywheellaw17_TrendPlays.l5000 : Nat → List (S36) → Int → Int → Int → Int → Int → Int → List Int → List Int → Int → Option (Bool)
 | 0, _, _, _, _, _, _, _, _, _, _ => none
 | k + 1, x2, x11, x356000, x356001, x356002, x356003, x356004, x356005, x356006, x356007 => if x11 < (x2.length : Int) then (if x11 < 100 then (flywheellaw17_TrendPlays.j5 k x2 x11 false x356000 x356001 x356002 x356003 x356004 x356005 x356006 x356007) else (flywheellaw17_TrendPlays.j5 k x2 x11 false x356000 x356001 x356002 x356003 x356004 x356005 x356006 x356007)) else (flywheellaw17_TrendPlays.j5 k x2 x11 false x356000 x356001 x356002 x356003 x356004 x356005 x356006 x356007)
def flywheellaw17_TrendPlays.j5 : Nat → List (S36) → Int → Bool → Int → Int → Int → Int → Int → List Int → List Int → Int → Option (Bool)
 | 0, _, _, _, _, _, _, _, _, _, _, _ => none
 | k + 1, x2, x11, x45, x356000, x356001, x356002, x356003, x356004, x356005, x356006, x356007 => if x45 = true then (if 0 ≤ x11 then (if x11 < (x2.length : Int) then ((trend_Trend_Add.f k x356000 x356001 x356002 x356003 x356004 x356005 x356006 x356007 ((rd_T36 x2 x11).f0) ((rd_T36 x2 x11).f1)).bind fun bt430 => (none)) else (none)) else (none)) else ((flywheellaw17_wakes.f k).bind fun t427 => (some t427))
def flywheellaw17_TrendPlays.j6 : Nat → List (S36) → Bool → Option (Bool)
 | 0, _, _ => none
 | k + 1, x2, x33 => if x33 = true then (some false) else (flywheellaw17_TrendPlays.l5001 k x2 0)
def flywheellaw17_TrendPlays.l5001 : Nat → List (S36) → Int → Option (Bool)
 | 0, _, _ => none
 | k + 1, x2, x11 => if x11 < (x2.length : Int) then (if x11 < 100 then (flywheellaw17_TrendPlays.j8 k x2 x11 true) else (flywheellaw17_TrendPlays.j8 k x2 x11 false)) else (flywheellaw17_TrendPlays.j8 k x2 x11 false)
def flywheellaw17_TrendPlays.j8 : Nat → List (S36) → Int → Bool → Option (Bool)
 | 0, _, _, _ => none
 | k + 1, x2, x11, x45 => if x45 = true then (if 0 ≤ x11 then (if x11 < (x2.length : Int) then (none) else (none)) else (none)) else ((flywheellaw17_wakes.f k).bind fun t452 => (some t452))
def flywheellaw17_TrendPlays.j9 : Nat → List (S36) → Bool → Option (Bool)
 | 0, _, _ => none
 | k + 1, x2, x33 => if x33 = true then (some false) else (flywheellaw17_TrendPlays.l5002 k x2 0)
def flywheellaw17_TrendPlays.l5002 : Nat → List (S36) → Int → Option (Bool)
 | 0, _, _ => none
 | k + 1, x2, x11 => if x11 < (x2.length : Int) then (if x11 < 100 then (flywheellaw17_TrendPlays.j11 k x2 x11 false) else (flywheellaw17_TrendPlays.j11 k x2 x11 false)) else (flywheellaw17_TrendPlays.j11 k x2 x11 false)
def flywheellaw17_TrendPlays.j11 : Nat → List (S36) → Int → Bool → Option (Bool)
 | 0, _, _, _ => none
 | k + 1, x2, x11, x45 => if x45 = true then (if 0 ≤ x11 then (if x11 < (x2.length : Int) then (none) else (none)) else (none)) else ((flywheellaw17_wakes.f k).bind fun t456 => (some t456))
end
def flywheellaw17_TrendPlays.f (k : Nat) (a0 : Int) (a1 : Int) (l2 : List (S36)) : Option (Bool) := if (trend_New.made.f a0 a1).isSome = true then ((trend_New.made.f a0 a1).bind fun bt347 => (if (flywheelref17_New.made.f a0 a1).isSome = true then ((flywheelref17_New.made.f a0 a1).bind fun bt357 => (if bt347.2.2.2.2.2.2.2.2 = bt357.2.2.2.2.2.2.2.2 then (flywheellaw17_TrendPlays.j0 k l2 false bt347.1 bt347.2.1 bt347.2.2.1 bt347.2.2.2.1 bt347.2.2.2.2.1 bt347.2.2.2.2.2.1 bt347.2.2.2.2.2.2.1 bt347.2.2.2.2.2.2.2.1 bt357.1 bt357.2.1 bt357.2.2.1 bt357.2.2.2.1 bt357.2.2.2.2.1 bt357.2.2.2.2.2.1 bt357.2.2.2.2.2.2.1 bt357.2.2.2.2.2.2.2.1) else (flywheellaw17_TrendPlays.j0 k l2 true bt347.1 bt347.2.1 bt347.2.2.1 bt347.2.2.2.1 bt347.2.2.2.2.1 bt347.2.2.2.2.2.1 bt347.2.2.2.2.2.2.1 bt347.2.2.2.2.2.2.2.1 bt357.1 bt357.2.1 bt357.2.2.1 bt357.2.2.2.1 bt357.2.2.2.2.1 bt357.2.2.2.2.2.1 bt357.2.2.2.2.2.2.1 bt357.2.2.2.2.2.2.2.1))) else ((flywheelref17_New.nil.f a0 a1).bind fun t426 => (if bt347.2.2.2.2.2.2.2.2 = t426 then (flywheellaw17_TrendPlays.j3 k l2 true bt347.1 bt347.2.1 bt347.2.2.1 bt347.2.2.2.1 bt347.2.2.2.2.1 bt347.2.2.2.2.2.1 bt347.2.2.2.2.2.2.1 bt347.2.2.2.2.2.2.2.1) else (flywheellaw17_TrendPlays.j3 k l2 true bt347.1 bt347.2.1 bt347.2.2.1 bt347.2.2.2.1 bt347.2.2.2.2.1 bt347.2.2.2.2.2.1 bt347.2.2.2.2.2.2.1 bt347.2.2.2.2.2.2.2.1))))) else ((trend_New.nil.f a0 a1).bind fun t441 => (if (flywheelref17_New.made.f a0 a1).isSome = true then ((flywheelref17_New.made.f a0 a1).bind fun bt442 => (if t441 = bt442.2.2.2.2.2.2.2.2 then (flywheellaw17_TrendPlays.j6 k l2 true) else (flywheellaw17_TrendPlays.j6 k l2 true))) else ((flywheelref17_New.nil.f a0 a1).bind fun t455 => (if t441 = t455 then (flywheellaw17_TrendPlays.j9 k l2 false) else (flywheellaw17_TrendPlays.j9 k l2 true)))))
def flywheellaw17_TrendPlays.T8 : Bool × List (List Nat × List Nat) := (true, [([], []), ([], []), ([], []), ([1, 2], [1, 2]), ([3], [3]), ([4], [4]), ([], []), ([], []), ([6, 7], [6, 7]), ([8], [8]), ([9], [9]), ([0, 5, 10], [0, 5, 10]), ([], []), ([], []), ([], []), ([13, 14], [13, 14]), ([15], [15]), ([16], [16]), ([], []), ([], []), ([18, 19], [18, 19]), ([20], [20]), ([21], [21]), ([12, 17, 22, 11], [12, 17, 22]), ([11, 23], [11, 23]), ([24, 23], [24]), ([25], [25]), ([26, 25, 25], [25, 26]), ([25], [25]), ([28, 27, 25], [25, 28]), ([27, 29, 25], [25, 27, 29]), ([25, 30], [25, 30]), ([31, 29], [31]), ([32], [32]), ([33, 32, 32], [32, 33]), ([32], [32]), ([35, 34, 32], [32, 35]), ([34, 36, 32], [32, 34, 36]), ([32, 37], [32, 37])])
def flywheellaw17_TrendPlays.B8 : List Nat := [0, 0, 0, 6, 14, 30, 0, 0, 192, 448, 960, 2047, 0, 0, 0, 24576, 57344, 122880, 0, 0, 786432, 1835008, 3932160, 8388607, 16777215, 33554431, 67108863, 134217727, 67108863, 536870911, 1073741823, 2147483647, 4294967295, 8589934591, 17179869183, 8589934591, 68719476735, 137438953471, 274877906943]
theorem flywheellaw17_TrendPlays.tab8 : rtab .any (opsOf Try.f4 8) = flywheellaw17_TrendPlays.T8 := by kernel_rfl
theorem flywheellaw17_TrendPlays.bits8 : waitsOk flywheellaw17_TrendPlays.T8.2 flywheellaw17_TrendPlays.B8 = true := by kernel_rfl
theorem IsS60P.bound {P : Nat → Prop} {w0 W : World} {g : Nat} {f0 f1 f2 f3 f4 : Int} {f5 f6 : List Int} {f7 : Int} (h : IsS60P P w0 W g f0 f1 f2 f3 f4 f5 f6 f7) : IsS60P (fun k => P k ∧ k < W.heap.size) w0 W g f0 f1 f2 f3 f4 f5 f6 f7 := by
 obtain ⟨A5, c5, A6, c6, hb, hg, h5, h6, hp⟩ := h
 exact ⟨A5, c5, A6, c6, hb, hg, Kd.Q_mono (Kd.Q_bound h5) (fun k hk => ⟨⟨hk.1.1, hk.2.2.1⟩, hk.1.2⟩), Kd.Q_mono (Kd.Q_bound h6) (fun k hk => ⟨⟨⟨hk.1.1.1, hk.2.2.1⟩, hk.1.1.2⟩, hk.1.2⟩), hp, blk_lt hb⟩
theorem IsS60P.keptP {P S : Nat → Prop} {w0 W W1 : World} {g : Nat} {f0 f1 f2 f3 f4 : Int} {f5 f6 : List Int} {f7 : Int} (h : IsS60P P w0 W g f0 f1 f2 f3 f4 f5 f6 f7) (hk : Kept W W1 S) (hS : ∀ k, P k → k < W.heap.size → ¬ S k) : IsS60P P w0 W1 g f0 f1 f2 f3 f4 f5 f6 f7 := by
 obtain ⟨A5, c5, A6, c6, hb, hg, h5, h6, hp⟩ := h
 exact ⟨A5, c5, A6, c6, blk_kept hb hk (hS g hp (blk_lt hb)), hg, Kd.Q_mono (Kd.Q_kept (Kd.Q_bound h5) hk (fun k hk' => hS k hk'.1.1 hk'.2.2.1)) (fun k hk' => hk'.1), Kd.Q_mono (Kd.Q_kept (Kd.Q_bound h6) hk (fun k hk' => hS k hk'.1.1.1 hk'.2.2.1)) (fun k hk' => hk'.1), hp⟩
theorem IsS62P.bound {P : Nat → Prop} {w0 W : World} {g : Nat} {q0 q1 : Int} {q2 q3 : List Int} {q4 q5 q6 q7 : Int} (h : IsS62P P w0 W g q0 q1 q2 q3 q4 q5 q6 q7) : IsS62P (fun k => P k ∧ k < W.heap.size) w0 W g q0 q1 q2 q3 q4 q5 q6 q7 := by
 obtain ⟨A5, c5, A6, c6, hb, hg, h5, h6, hp⟩ := h
 exact ⟨A5, c5, A6, c6, hb, hg, Kd.Q_mono (Kd.Q_bound h5) (fun k hk => ⟨⟨hk.1.1, hk.2.2.1⟩, hk.1.2⟩), Kd.Q_mono (Kd.Q_bound h6) (fun k hk => ⟨⟨⟨hk.1.1.1, hk.2.2.1⟩, hk.1.1.2⟩, hk.1.2⟩), hp, blk_lt hb⟩
theorem IsS62P.keptP {P S : Nat → Prop} {w0 W W1 : World} {g : Nat} {q0 q1 : Int} {q2 q3 : List Int} {q4 q5 q6 q7 : Int} (h : IsS62P P w0 W g q0 q1 q2 q3 q4 q5 q6 q7) (hk : Kept W W1 S) (hS : ∀ k, P k → k < W.heap.size → ¬ S k) : IsS62P P w0 W1 g q0 q1 q2 q3 q4 q5 q6 q7 := by
 obtain ⟨A5, c5, A6, c6, hb, hg, h5, h6, hp⟩ := h
 exact ⟨A5, c5, A6, c6, blk_kept hb hk (hS g hp (blk_lt hb)), hg, Kd.Q_mono (Kd.Q_kept (Kd.Q_bound h5) hk (fun k hk' => hS k hk'.1.1 hk'.2.2.1)) (fun k hk' => hk'.1), Kd.Q_mono (Kd.Q_kept (Kd.Q_bound h6) hk (fun k hk' => hS k hk'.1.1.1 hk'.2.2.1)) (fun k hk' => hk'.1), hp⟩
theorem joint60 {S : Nat → Prop} {w0 w w' : World} {g1 g2 : Nat} {f0 f1 f2 f3 f4 : Int} {f5 f6 : List Int} {f7 : Int} {q0 q1 : Int} {q2 q3 : List Int} {q4 q5 q6 q7 : Int} (h2 : IsS62P (fun k => ¬ S k) w0 w g2 q0 q1 q2 q3 q4 q5 q6 q7) (h1 : IsS60P (fun k => S k ∨ w.heap.size ≤ k) w0 w' g1 f0 f1 f2 f3 f4 f5 f6 f7) (hk : Kept w w' (fun k => S k ∨ w.heap.size ≤ k)) :
  ∃ S' : Nat → Prop, IsS60P S' w0 w' g1 f0 f1 f2 f3 f4 f5 f6 f7 ∧ IsS62P (fun k => ¬ S' k) w0 w' g2 q0 q1 q2 q3 q4 q5 q6 q7 := by
 refine ⟨fun k => S k ∨ (w.heap.size ≤ k ∧ k < w'.heap.size), h1.bound.mono (fun k h => ?_), (h2.bound.keptP hk (fun k h _ hs => ?_)).mono (fun k h hs => ?_)⟩
 ·rcases h with ⟨h | h, hl⟩
  ·exact .inl h
  ·exact .inr ⟨h, hl⟩
 ·rcases hs with hs | hs
  ·exact h.1 hs
  ·have := h.2; omega
 ·rcases hs with hs | hs
  ·exact h.1 hs
  ·have := h.2; omega
theorem joint62 {S : Nat → Prop} {w0 w w' : World} {g1 g2 : Nat} {f0 f1 f2 f3 f4 : Int} {f5 f6 : List Int} {f7 : Int} {q0 q1 : Int} {q2 q3 : List Int} {q4 q5 q6 q7 : Int} (h1 : IsS60P S w0 w g1 f0 f1 f2 f3 f4 f5 f6 f7) (h2 : IsS62P (fun k => ¬ S k ∨ w.heap.size ≤ k) w0 w' g2 q0 q1 q2 q3 q4 q5 q6 q7) (hk : Kept w w' (fun k => ¬ S k ∨ w.heap.size ≤ k)) :
  ∃ S' : Nat → Prop, IsS60P S' w0 w' g1 f0 f1 f2 f3 f4 f5 f6 f7 ∧ IsS62P (fun k => ¬ S' k) w0 w' g2 q0 q1 q2 q3 q4 q5 q6 q7 := by
 refine ⟨fun k => S k ∧ k < w.heap.size, h1.bound.keptP hk (fun k h _ hs => ?_), h2.mono (fun k h hs => ?_)⟩
 ·rcases hs with hs | hs
  ·exact hs h.1
  ·have := h.2; omega
 ·rcases h with h | h
  ·exact h hs.1
  ·have := hs.2; omega
theorem joint0 {w0 W W1 : World} {g1 g2 : Nat} {f0 f1 f2 f3 f4 : Int} {f5 f6 : List Int} {f7 : Int} {q0 q1 : Int} {q2 q3 : List Int} {q4 q5 q6 q7 : Int} (h1 : IsS60 w0 W g1 f0 f1 f2 f3 f4 f5 f6 f7) (h2 : IsS62P (fun k => W.heap.size ≤ k) w0 W1 g2 q0 q1 q2 q3 q4 q5 q6 q7) (hb : Below W.heap.size W W1) :
  ∃ S' : Nat → Prop, IsS60P S' w0 W1 g1 f0 f1 f2 f3 f4 f5 f6 f7 ∧ IsS62P (fun k => ¬ S' k) w0 W1 g2 q0 q1 q2 q3 q4 q5 q6 q7 :=
 ⟨fun k => k < W.heap.size, ((IsS60P.bound (show IsS60P (fun _ => True) w0 W g1 f0 f1 f2 f3 f4 f5 f6 f7 from h1)).mono (fun k h => h.2)).below hb, h2.mono (fun k h hs => by omega)⟩
theorem trend_Trend_Add.callsJ {S : Nat → Prop} {g2 : Nat} {q0 q1 : Int} {q2 q3 : List Int} {q4 q5 q6 q7 : Int} (k : Nat) (g : Nat) (s0_0 : Int) (s0_1 : Int) (s0_2 : Int) (s0_3 : Int) (s0_4 : Int) (s0_5 : List Int) (s0_6 : List Int) (s0_7 : Int) (a1 : Int) (a2 : Int) (r1 : Int) (r2 : Int) (r3 : Int) (r4 : Int) (r5 : Int) (r6 : Int) (r7 : List Int) (r8 : List Int) (r9 : Int) (w0 w : World) (hI : IsS60P S w0 w g s0_0 s0_1 s0_2 s0_3 s0_4 s0_5 s0_6 s0_7) (hB : Below w0.heap.size w0 w) (hQ : IsS62P (fun k_ => ¬ S k_) w0 w g2 q0 q1 q2 q3 q4 q5 q6 q7) (h : trend_Trend_Add.f k s0_0 s0_1 s0_2 s0_3 s0_4 s0_5 s0_6 s0_7 a1 a2 = some (r1, r2, r3, r4, r5, r6, r7, r8, r9)) :
  Calls Try.prog 16 #[.pointer (some ⟨g, 0, none⟩), .int .i64 a1, .int .i64 a2] w fun e w' => ∃ S' : Nat → Prop, e = .returned (.int .i64 r1) ∧ IsS60P S' w0 w' g r2 r3 r4 r5 r6 r7 r8 r9 ∧ Below w0.heap.size w0 w' ∧ IsS62P (fun k_ => ¬ S' k_) w0 w' g2 q0 q1 q2 q3 q4 q5 q6 q7 := by
 refine (trend_Trend_Add.callsP (fun k_ => S k_ ∨ w.heap.size ≤ k_) k g s0_0 s0_1 s0_2 s0_3 s0_4 s0_5 s0_6 s0_7 a1 a2 r1 r2 r3 r4 r5 r6 r7 r8 r9 w0 w (fun _ h => .inr h) (hI.mono fun _ h => .inl h) hB h).mono fun e w' hh => ?_
 obtain ⟨h1, h2, h3, h4⟩ := hh
 obtain ⟨S', a, b⟩ := joint60 hQ h2 h4
 exact ⟨S', h1, a, h3, b⟩
theorem trend_Trend_Slope.callsJ {S : Nat → Prop} {g2 : Nat} {q0 q1 : Int} {q2 q3 : List Int} {q4 q5 q6 q7 : Int} (k : Nat) (g : Nat) (s0_0 : Int) (s0_1 : Int) (s0_2 : Int) (s0_3 : Int) (s0_4 : Int) (s0_5 : List Int) (s0_6 : List Int) (s0_7 : Int) (r1 : Int) (r2 : Int) (r3 : Int) (r4 : Int) (r5 : Int) (r6 : Int) (r7 : List Int) (r8 : List Int) (r9 : Int) (w0 w : World) (hI : IsS60P S w0 w g s0_0 s0_1 s0_2 s0_3 s0_4 s0_5 s0_6 s0_7) (hB : Below w0.heap.size w0 w) (hQ : IsS62P (fun k_ => ¬ S k_) w0 w g2 q0 q1 q2 q3 q4 q5 q6 q7) (h : trend_Trend_Slope.f k s0_0 s0_1 s0_2 s0_3 s0_4 s0_5 s0_6 s0_7 = some (r1, r2, r3, r4, r5, r6, r7, r8, r9)) :
  Calls Try.prog 18 #[.pointer (some ⟨g, 0, none⟩)] w fun e w' => ∃ S' : Nat → Prop, e = .returned (.int .i64 r1) ∧ IsS60P S' w0 w' g r2 r3 r4 r5 r6 r7 r8 r9 ∧ Below w0.heap.size w0 w' ∧ IsS62P (fun k_ => ¬ S' k_) w0 w' g2 q0 q1 q2 q3 q4 q5 q6 q7 := by
 refine (trend_Trend_Slope.callsP (fun k_ => S k_ ∨ w.heap.size ≤ k_) k g s0_0 s0_1 s0_2 s0_3 s0_4 s0_5 s0_6 s0_7 r1 r2 r3 r4 r5 r6 r7 r8 r9 w0 w (fun _ h => .inr h) (hI.mono fun _ h => .inl h) hB h).mono fun e w' hh => ?_
 obtain ⟨h1, h2, h3, h4⟩ := hh
 obtain ⟨S', a, b⟩ := joint60 hQ h2 h4
 exact ⟨S', h1, a, h3, b⟩
theorem trend_Trend_Count.callsJ {S : Nat → Prop} {g2 : Nat} {q0 q1 : Int} {q2 q3 : List Int} {q4 q5 q6 q7 : Int} (g : Nat) (s0_0 : Int) (s0_1 : Int) (s0_2 : Int) (s0_3 : Int) (s0_4 : Int) (s0_5 : List Int) (s0_6 : List Int) (s0_7 : Int) (r1 : Int) (r2 : Int) (r3 : Int) (r4 : Int) (r5 : Int) (r6 : Int) (r7 : List Int) (r8 : List Int) (r9 : Int) (w0 w : World) (hI : IsS60P S w0 w g s0_0 s0_1 s0_2 s0_3 s0_4 s0_5 s0_6 s0_7) (hB : Below w0.heap.size w0 w) (hQ : IsS62P (fun k_ => ¬ S k_) w0 w g2 q0 q1 q2 q3 q4 q5 q6 q7) (h : trend_Trend_Count.f s0_0 s0_1 s0_2 s0_3 s0_4 s0_5 s0_6 s0_7 = some (r1, r2, r3, r4, r5, r6, r7, r8, r9)) :
  Calls Try.prog 20 #[.pointer (some ⟨g, 0, none⟩)] w fun e w' => ∃ S' : Nat → Prop, e = .returned (.int .i64 r1) ∧ IsS60P S' w0 w' g r2 r3 r4 r5 r6 r7 r8 r9 ∧ Below w0.heap.size w0 w' ∧ IsS62P (fun k_ => ¬ S' k_) w0 w' g2 q0 q1 q2 q3 q4 q5 q6 q7 := by
 refine (trend_Trend_Count.callsP (P := (fun k_ => S k_ ∨ w.heap.size ≤ k_)) g s0_0 s0_1 s0_2 s0_3 s0_4 s0_5 s0_6 s0_7 r1 r2 r3 r4 r5 r6 r7 r8 r9 w0 w (hI.mono fun _ h => .inl h) hB h).mono fun e w' hh => ?_
 obtain ⟨h1, h2, h3, h4⟩ := hh
 have h4 := Kept.of_keep (Kept.refl w (fun k_ => S k_ ∨ w.heap.size ≤ k_)) h4 (.inl (.inl hI.pg))
 obtain ⟨S', a, b⟩ := joint60 hQ h2 h4
 exact ⟨S', h1, a, h3, b⟩
theorem flywheelref17_Trend_Add.callsJ {S : Nat → Prop} {g2 : Nat} {f0 f1 f2 f3 f4 : Int} {f5 f6 : List Int} {f7 : Int} (k : Nat) (g : Nat) (s0_0 : Int) (s0_1 : Int) (s0_2 : List Int) (s0_3 : List Int) (s0_4 : Int) (s0_5 : Int) (s0_6 : Int) (s0_7 : Int) (a1 : Int) (a2 : Int) (r1 : Int) (r2 : Int) (r3 : Int) (r4 : List Int) (r5 : List Int) (r6 : Int) (r7 : Int) (r8 : Int) (r9 : Int) (w0 w : World) (hI : IsS62P (fun k_ => ¬ S k_) w0 w g s0_0 s0_1 s0_2 s0_3 s0_4 s0_5 s0_6 s0_7) (hB : Below w0.heap.size w0 w) (hQ : IsS60P S w0 w g2 f0 f1 f2 f3 f4 f5 f6 f7) (h : flywheelref17_Trend_Add.f k s0_0 s0_1 s0_2 s0_3 s0_4 s0_5 s0_6 s0_7 a1 a2 = some (r1, r2, r3, r4, r5, r6, r7, r8, r9)) :
  Calls Try.prog 17 #[.pointer (some ⟨g, 0, none⟩), .int .i64 a1, .int .i64 a2] w fun e w' => ∃ S' : Nat → Prop, e = .returned (.int .i64 r1) ∧ IsS62P (fun k_ => ¬ S' k_) w0 w' g r2 r3 r4 r5 r6 r7 r8 r9 ∧ Below w0.heap.size w0 w' ∧ IsS60P S' w0 w' g2 f0 f1 f2 f3 f4 f5 f6 f7 := by
 refine (flywheelref17_Trend_Add.callsP (fun k_ => ¬ S k_ ∨ w.heap.size ≤ k_) k g s0_0 s0_1 s0_2 s0_3 s0_4 s0_5 s0_6 s0_7 a1 a2 r1 r2 r3 r4 r5 r6 r7 r8 r9 w0 w (fun _ h => .inr h) (hI.mono fun _ h => .inl h) hB h).mono fun e w' hh => ?_
 obtain ⟨h1, h2, h3, h4⟩ := hh
 obtain ⟨S', a, b⟩ := joint62 hQ h2 h4
 exact ⟨S', h1, b, h3, a⟩
theorem flywheelref17_Trend_Slope.callsJ {S : Nat → Prop} {g2 : Nat} {f0 f1 f2 f3 f4 : Int} {f5 f6 : List Int} {f7 : Int} (k : Nat) (g : Nat) (s0_0 : Int) (s0_1 : Int) (s0_2 : List Int) (s0_3 : List Int) (s0_4 : Int) (s0_5 : Int) (s0_6 : Int) (s0_7 : Int) (r1 : Int) (r2 : Int) (r3 : Int) (r4 : List Int) (r5 : List Int) (r6 : Int) (r7 : Int) (r8 : Int) (r9 : Int) (w0 w : World) (hI : IsS62P (fun k_ => ¬ S k_) w0 w g s0_0 s0_1 s0_2 s0_3 s0_4 s0_5 s0_6 s0_7) (hB : Below w0.heap.size w0 w) (hQ : IsS60P S w0 w g2 f0 f1 f2 f3 f4 f5 f6 f7) (h : flywheelref17_Trend_Slope.f k s0_0 s0_1 s0_2 s0_3 s0_4 s0_5 s0_6 s0_7 = some (r1, r2, r3, r4, r5, r6, r7, r8, r9)) :
  Calls Try.prog 19 #[.pointer (some ⟨g, 0, none⟩)] w fun e w' => ∃ S' : Nat → Prop, e = .returned (.int .i64 r1) ∧ IsS62P (fun k_ => ¬ S' k_) w0 w' g r2 r3 r4 r5 r6 r7 r8 r9 ∧ Below w0.heap.size w0 w' ∧ IsS60P S' w0 w' g2 f0 f1 f2 f3 f4 f5 f6 f7 := by
 refine (flywheelref17_Trend_Slope.callsP (fun k_ => ¬ S k_ ∨ w.heap.size ≤ k_) k g s0_0 s0_1 s0_2 s0_3 s0_4 s0_5 s0_6 s0_7 r1 r2 r3 r4 r5 r6 r7 r8 r9 w0 w (fun _ h => .inr h) (hI.mono fun _ h => .inl h) hB h).mono fun e w' hh => ?_
 obtain ⟨h1, h2, h3, h4⟩ := hh
 obtain ⟨S', a, b⟩ := joint62 hQ h2 h4
 exact ⟨S', h1, b, h3, a⟩
theorem flywheelref17_Trend_Count.callsJ {S : Nat → Prop} {g2 : Nat} {f0 f1 f2 f3 f4 : Int} {f5 f6 : List Int} {f7 : Int} (g : Nat) (s0_0 : Int) (s0_1 : Int) (s0_2 : List Int) (s0_3 : List Int) (s0_4 : Int) (s0_5 : Int) (s0_6 : Int) (s0_7 : Int) (r1 : Int) (r2 : Int) (r3 : Int) (r4 : List Int) (r5 : List Int) (r6 : Int) (r7 : Int) (r8 : Int) (r9 : Int) (w0 w : World) (hI : IsS62P (fun k_ => ¬ S k_) w0 w g s0_0 s0_1 s0_2 s0_3 s0_4 s0_5 s0_6 s0_7) (hB : Below w0.heap.size w0 w) (hQ : IsS60P S w0 w g2 f0 f1 f2 f3 f4 f5 f6 f7) (h : flywheelref17_Trend_Count.f s0_0 s0_1 s0_2 s0_3 s0_4 s0_5 s0_6 s0_7 = some (r1, r2, r3, r4, r5, r6, r7, r8, r9)) :
  Calls Try.prog 21 #[.pointer (some ⟨g, 0, none⟩)] w fun e w' => ∃ S' : Nat → Prop, e = .returned (.int .i64 r1) ∧ IsS62P (fun k_ => ¬ S' k_) w0 w' g r2 r3 r4 r5 r6 r7 r8 r9 ∧ Below w0.heap.size w0 w' ∧ IsS60P S' w0 w' g2 f0 f1 f2 f3 f4 f5 f6 f7 := by
 refine (flywheelref17_Trend_Count.callsP (P := (fun k_ => ¬ S k_ ∨ w.heap.size ≤ k_)) g s0_0 s0_1 s0_2 s0_3 s0_4 s0_5 s0_6 s0_7 r1 r2 r3 r4 r5 r6 r7 r8 r9 w0 w (hI.mono fun _ h => .inl h) hB h).mono fun e w' hh => ?_
 obtain ⟨h1, h2, h3, h4⟩ := hh
 have h4 := Kept.of_keep (Kept.refl w (fun k_ => ¬ S k_ ∨ w.heap.size ≤ k_)) h4 (.inl (.inl hI.pg))
 obtain ⟨S', a, b⟩ := joint62 hQ h2 h4
 exact ⟨S', h1, b, h3, a⟩
set_option maxHeartbeats 8000000 in
set_option maxRecDepth 100000 in
theorem flywheellaw17_TrendPlays.calls (k : Nat) (a0 : Int) (a1 : Int) (A2 : Option Addr) (c2 : Nat) (l2 : List (S36)) (r : Bool) (w : World) (hr2 : Kd.C k36 w A2 l2.length l2) (hc2 : l2.length ≤ c2) (h : flywheellaw17_TrendPlays.f k a0 a1 l2 = some r) :
  Calls Try.prog 4 #[.int .i64 a0, .int .i64 a1, .slice A2 l2.length c2] w fun e w' => e = .returned (.bool r) ∧ Below w.heap.size w w' := by
 have hpn27_eql : ∀ (a_ : Addr) (W_ : World), (Go.binOp .eql 27 (.pointer (some a_)) (.pointer none)).run Try.prog W_ = .ok (.bool false) W_ := fun _ _ => by kernel_rfl
 have hnn27_eql : ∀ (W_ : World), (Go.binOp .eql 27 (.pointer none) (.pointer none)).run Try.prog W_ = .ok (.bool true) W_ := fun _ => by kernel_rfl
 have hpn31_eql : ∀ (a_ : Addr) (W_ : World), (Go.binOp .eql 31 (.pointer (some a_)) (.pointer none)).run Try.prog W_ = .ok (.bool false) W_ := fun _ _ => by kernel_rfl
 have hnn31_eql : ∀ (W_ : World), (Go.binOp .eql 31 (.pointer none) (.pointer none)).run Try.prog W_ = .ok (.bool true) W_ := fun _ => by kernel_rfl
 have hpn31_neq : ∀ (a_ : Addr) (W_ : World), (Go.binOp .neq 31 (.pointer (some a_)) (.pointer none)).run Try.prog W_ = .ok (.bool true) W_ := fun _ _ => by kernel_rfl
 have hnn31_neq : ∀ (W_ : World), (Go.binOp .neq 31 (.pointer none) (.pointer none)).run Try.prog W_ = .ok (.bool false) W_ := fun _ => by kernel_rfl
 have HR2 := Aside0.mk hr2
 have HC2 := Aside0.mk hc2
 clear hr2 hc2
 have HB := Aside0.mk (Below.refl w.heap.size w)
 have H : (if (trend_New.made.f a0 a1).isSome = true then ((trend_New.made.f a0 a1).bind fun bt347 => (if (flywheelref17_New.made.f a0 a1).isSome = true then ((flywheelref17_New.made.f a0 a1).bind fun bt357 => (if bt347.2.2.2.2.2.2.2.2 = bt357.2.2.2.2.2.2.2.2 then (flywheellaw17_TrendPlays.j0 k l2 false bt347.1 bt347.2.1 bt347.2.2.1 bt347.2.2.2.1 bt347.2.2.2.2.1 bt347.2.2.2.2.2.1 bt347.2.2.2.2.2.2.1 bt347.2.2.2.2.2.2.2.1 bt357.1 bt357.2.1 bt357.2.2.1 bt357.2.2.2.1 bt357.2.2.2.2.1 bt357.2.2.2.2.2.1 bt357.2.2.2.2.2.2.1 bt357.2.2.2.2.2.2.2.1) else (flywheellaw17_TrendPlays.j0 k l2 true bt347.1 bt347.2.1 bt347.2.2.1 bt347.2.2.2.1 bt347.2.2.2.2.1 bt347.2.2.2.2.2.1 bt347.2.2.2.2.2.2.1 bt347.2.2.2.2.2.2.2.1 bt357.1 bt357.2.1 bt357.2.2.1 bt357.2.2.2.1 bt357.2.2.2.2.1 bt357.2.2.2.2.2.1 bt357.2.2.2.2.2.2.1 bt357.2.2.2.2.2.2.2.1))) else ((flywheelref17_New.nil.f a0 a1).bind fun t426 => (if bt347.2.2.2.2.2.2.2.2 = t426 then (flywheellaw17_TrendPlays.j3 k l2 true bt347.1 bt347.2.1 bt347.2.2.1 bt347.2.2.2.1 bt347.2.2.2.2.1 bt347.2.2.2.2.2.1 bt347.2.2.2.2.2.2.1 bt347.2.2.2.2.2.2.2.1) else (flywheellaw17_TrendPlays.j3 k l2 true bt347.1 bt347.2.1 bt347.2.2.1 bt347.2.2.2.1 bt347.2.2.2.2.1 bt347.2.2.2.2.2.1 bt347.2.2.2.2.2.2.1 bt347.2.2.2.2.2.2.2.1))))) else ((trend_New.nil.f a0 a1).bind fun t441 => (if (flywheelref17_New.made.f a0 a1).isSome = true then ((flywheelref17_New.made.f a0 a1).bind fun bt442 => (if t441 = bt442.2.2.2.2.2.2.2.2 then (flywheellaw17_TrendPlays.j6 k l2 true) else (flywheellaw17_TrendPlays.j6 k l2 true))) else ((flywheelref17_New.nil.f a0 a1).bind fun t455 => (if t441 = t455 then (flywheellaw17_TrendPlays.j9 k l2 false) else (flywheellaw17_TrendPlays.j9 k l2 true)))))) = some r := h
 clear h
 by_cases c4 : (trend_New.made.f a0 a1).isSome = true
 ·rw [if_pos c4] at H
  have c4b0 : (trend_New.made.f a0 a1).isSome = true := c4
  clear c4
  replace H := Option.bind_eq_some_iff.mp H
  obtain ⟨⟨t347, t348, t349, t350, t351, t352, t353, t354, t356⟩, A50, H⟩ := H
  replace H : (if (flywheelref17_New.made.f a0 a1).isSome = true then ((flywheelref17_New.made.f a0 a1).bind fun bt357 => (if t356 = bt357.2.2.2.2.2.2.2.2 then (flywheellaw17_TrendPlays.j0 k l2 false t347 t348 t349 t350 t351 t352 t353 t354 bt357.1 bt357.2.1 bt357.2.2.1 bt357.2.2.2.1 bt357.2.2.2.2.1 bt357.2.2.2.2.2.1 bt357.2.2.2.2.2.2.1 bt357.2.2.2.2.2.2.2.1) else (flywheellaw17_TrendPlays.j0 k l2 true t347 t348 t349 t350 t351 t352 t353 t354 bt357.1 bt357.2.1 bt357.2.2.1 bt357.2.2.2.1 bt357.2.2.2.2.1 bt357.2.2.2.2.2.1 bt357.2.2.2.2.2.2.1 bt357.2.2.2.2.2.2.2.1))) else ((flywheelref17_New.nil.f a0 a1).bind fun t426 => (if t356 = t426 then (flywheellaw17_TrendPlays.j3 k l2 true t347 t348 t349 t350 t351 t352 t353 t354) else (flywheellaw17_TrendPlays.j3 k l2 true t347 t348 t349 t350 t351 t352 t353 t354)))) = some r := H
  have A5 := Aside0.mk A50
  clear A50
  by_cases c6 : (flywheelref17_New.made.f a0 a1).isSome = true
  ·rw [if_pos c6] at H
   have c6b0 : (flywheelref17_New.made.f a0 a1).isSome = true := c6
   clear c6
   replace H := Option.bind_eq_some_iff.mp H
   obtain ⟨⟨t357, t358, t359, t360, t361, t362, t363, t364, t366⟩, A70, H⟩ := H
   replace H : (if t356 = t366 then (flywheellaw17_TrendPlays.j0 k l2 false t347 t348 t349 t350 t351 t352 t353 t354 t357 t358 t359 t360 t361 t362 t363 t364) else (flywheellaw17_TrendPlays.j0 k l2 true t347 t348 t349 t350 t351 t352 t353 t354 t357 t358 t359 t360 t361 t362 t363 t364)) = some r := H
   have A7 := Aside0.mk A70
   clear A70
   have HC8 := Aside0.mk H
   clear H
   go_enter Try.func4, Try.ntmps4
   go_upto_region 3 with (first | ((with_reducible refine gate_callee (f := 14) rfl ?_); refine goesL_ (some 15) rfl rfl Try.func14 (by kernel_rfl) rfl #[.int .i64 a0, .int .i64 a1] rfl (by (try simp only [List.map_toArray, List.map_cons, List.map_nil]); first | done | rfl | (simp only [List.length_drop, List.length_take]; rfl)) ?_; (with_reducible refine (trend_New.made.calls a0 a1 t347 t348 t349 t350 t351 t352 t353 t354 t356 w _ ?side1 A5.out).mono ?_); (case side1 => repeat (first | (with_reducible first | exact HB.out | apply below_alloc | apply pw_below_drewN | apply below_drew1) | exact HB.out)); rintro e w9 ⟨g355, rfl, hi, hb, hb2⟩; refine ⟨_, rfl, ?_⟩; have n0_ := Aside0.mk (hb); have n1_ := Aside0.mk (hi); clear HB; have HB := n0_; have HI355 := n1_; clear n0_ n1_; (try clear hb); (try clear hb2); (try clear hk); (try clear hi)) | ((with_reducible refine gate_callee (f := 15) rfl ?_); refine goesL_ (some 21) rfl rfl Try.func15 (by kernel_rfl) rfl #[.int .i64 a0, .int .i64 a1] rfl (by (try simp only [List.map_toArray, List.map_cons, List.map_nil]); first | done | rfl | (simp only [List.length_drop, List.length_take]; rfl)) ?_; (with_reducible refine (flywheelref17_New.made.callsS a0 a1 t357 t358 t359 t360 t361 t362 t363 t364 t366 w _ ?side1 A7.out).mono ?_); (case side1 => repeat (first | (with_reducible first | exact HB.out | apply below_alloc | apply pw_below_drewN | apply below_drew1 | refine below_set ?_ (IsS60.ge HI355.out)) | exact HB.out)); rintro e w10 ⟨g365, rfl, hi, hb, hb2⟩; refine ⟨_, rfl, ?_⟩; obtain ⟨S_, hi1_, hi2_⟩ := joint0 (by repeat (first | (with_reducible first | exact HI355.out | apply IsS60.alloc | apply IsS60.drewN | apply IsS60.drew | apply IsS60.set_0 | apply IsS60.set_1 | apply IsS60.set_2 | apply IsS60.set_3 | apply IsS60.set_4 | apply IsS60.set_5 | apply IsS60.set_6 | apply IsS60.set_7) | exact HI355.out)) hi hb2; have n0_ := Aside0.mk hi1_; have n1_ := Aside0.mk (hb); have n2_ := Aside0.mk hi2_; have n3_ := Aside0.mk ((Exists.elim (IsS60.blk (IsS60.below (by repeat (first | (with_reducible first | exact HI355.out | apply IsS60.alloc | apply IsS60.drewN | apply IsS60.drew | apply IsS60.set_0 | apply IsS60.set_1 | apply IsS60.set_2 | apply IsS60.set_3 | apply IsS60.set_4 | apply IsS60.set_5 | apply IsS60.set_6 | apply IsS60.set_7) | exact HI355.out)) hb2)) (fun _ hb_ => IsS62P.ne_blk hi hb_ (by decide)))); have n4_ := Aside0.mk (Ne.symm (Exists.elim (IsS60.blk (IsS60.below (by repeat (first | (with_reducible first | exact HI355.out | apply IsS60.alloc | apply IsS60.drewN | apply IsS60.drew | apply IsS60.set_0 | apply IsS60.set_1 | apply IsS60.set_2 | apply IsS60.set_3 | apply IsS60.set_4 | apply IsS60.set_5 | apply IsS60.set_6 | apply IsS60.set_7) | exact HI355.out)) hb2)) (fun _ hb_ => IsS62P.ne_blk hi hb_ (by decide)))); clear HI355; clear HB; have HI355 := n0_; have HB := n1_; have HI365 := n2_; have NB365_355 := n3_; have NB355_365 := n4_; clear n0_ n1_ n2_ n3_ n4_; (try clear hb); (try clear hb2); (try clear hk); (try clear hi); (try clear hi1_ hi2_)))
   (try simp only [Act.put, List.setIfInBounds_toArray, List.set_cons_zero, List.set_cons_succ])
   go_cut [33] (fun v33 wc => ∃ (S_ : Nat → Prop) (kq : Nat) (x33_7 : Bool), v33 = .bool x33_7 ∧ Aside0 (flywheellaw17_TrendPlays.j0 kq l2 x33_7 t347 t348 t349 t350 t351 t352 t353 t354 t357 t358 t359 t360 t361 t362 t363 t364 = some r) ∧ Aside0 (kq ≤ k) ∧ Aside0 (IsS60P S_ w wc g355 t347 t348 t349 t350 t351 t352 t353 t354) ∧ Aside0 (IsS62P (fun k_ => ¬ S_ k_) w wc g365 t357 t358 t359 t360 t361 t362 t363 t364) ∧ Aside0 (Below w.heap.size w wc))
   case first =>
    have H := HC8.out
    clear HC8
    by_cases c11 : t356 = t366
    ·rw [if_pos c11] at H
     have c11b0 : (t356 == t366) = true := beq_iff_eq.mpr c11
     have c11b1 : (t356 != t366) = false := bne_eq_false_iff_eq.mpr c11
     clear c11
     (first | rw [c11b0] | (simp only [i64_w, i32_w]; rw [c11b0]) | skip)
     have H' := Aside0.mk H
     clear H
     go_wp2
     go_meet
     case rel => exact ⟨_, _, (false), (by first | rfl | (simp; done) | (simp [*]; done)), H', ⟨by first | omega | exact Nat.le_refl _⟩, ⟨by repeat (first | (with_reducible first | exact HI355.out | apply IsS60P.alloc | apply IsS60P.drewN | apply IsS60P.drew | apply IsS60P.set_0 | apply IsS60P.set_1 | apply IsS60P.set_2 | apply IsS60P.set_3 | apply IsS60P.set_4 | apply IsS60P.set_5 | apply IsS60P.set_6 | apply IsS60P.set_7) | exact HI355.out)⟩, ⟨by repeat (first | (with_reducible first | exact HI365.out | apply IsS62P.alloc | apply IsS62P.drewN | apply IsS62P.drew | apply IsS62P.set_0 | apply IsS62P.set_1 | apply IsS62P.set_2 | apply IsS62P.set_3 | apply IsS62P.set_4 | apply IsS62P.set_5 | apply IsS62P.set_6 | apply IsS62P.set_7) | exact HI365.out)⟩, ⟨by repeat (first | (with_reducible first | exact HB.out | apply below_alloc | apply pw_below_drewN | apply below_drew1 | refine below_set ?_ (IsS60P.ge HI355.out) | refine below_set ?_ (IsS62P.ge HI365.out)) | exact HB.out)⟩⟩
    ·rw [if_neg c11] at H
     have c11b0 : (t356 == t366) = false := beq_eq_false_iff_ne.mpr c11
     have c11b1 : (t356 != t366) = true := bne_iff_ne.mpr c11
     (first | rw [c11b0] | (simp only [i64_w, i32_w]; rw [c11b0]) | skip)
     have H' := Aside0.mk H
     clear H
     go_wp2
     go_meet
     case rel => exact ⟨_, _, (true), (by first | rfl | (simp; done) | (simp [*]; done)), H', ⟨by first | omega | exact Nat.le_refl _⟩, ⟨by repeat (first | (with_reducible first | exact HI355.out | apply IsS60P.alloc | apply IsS60P.drewN | apply IsS60P.drew | apply IsS60P.set_0 | apply IsS60P.set_1 | apply IsS60P.set_2 | apply IsS60P.set_3 | apply IsS60P.set_4 | apply IsS60P.set_5 | apply IsS60P.set_6 | apply IsS60P.set_7) | exact HI355.out)⟩, ⟨by repeat (first | (with_reducible first | exact HI365.out | apply IsS62P.alloc | apply IsS62P.drewN | apply IsS62P.drew | apply IsS62P.set_0 | apply IsS62P.set_1 | apply IsS62P.set_2 | apply IsS62P.set_3 | apply IsS62P.set_4 | apply IsS62P.set_5 | apply IsS62P.set_6 | apply IsS62P.set_7) | exact HI365.out)⟩, ⟨by repeat (first | (with_reducible first | exact HB.out | apply below_alloc | apply pw_below_drewN | apply below_drew1 | refine below_set ?_ (IsS60P.ge HI355.out) | refine below_set ?_ (IsS62P.ge HI365.out)) | exact HB.out)⟩⟩
   case rest =>
    clear HC8
    try clear c1
    try clear c2
    try clear p2
    try clear c4
    try clear c4b0
    try clear c6
    try clear c6b0
    try clear c11
    try clear c11b0
    try clear c11b1
    obtain ⟨S_, kq, x33_7, rfl, HA, HJ7, HI355, HI365, HB⟩ := hcut
    cases kq with
    | zero => exact absurd HA.out (by simp [flywheellaw17_TrendPlays.j0])
    | succ kj7 =>
     have H := HA.out
     clear HA
     simp only [flywheellaw17_TrendPlays.j0] at H
     by_cases c12 : x33_7 = true
     ·subst c12
      have H1 : (some false) = some r := by rw [if_pos rfl] at H; exact H
      clear H
      have H := H1
      clear H1
      obtain rfl := Option.some.inj H
      go_wp2
      go_ret
      exact ⟨by first | rfl | (simp [errW_none, errW_some] <;> rfl) | (simp [*, errW_none, errW_some] <;> rfl), by repeat (first | (with_reducible first | exact HB.out | apply below_alloc | apply pw_below_drewN | apply below_drew1 | refine below_set ?_ (IsS60P.ge HI355.out) | refine below_set ?_ (IsS62P.ge HI365.out)) | exact HB.out)⟩
     ·replace c12 := Bool.eq_false_iff.mpr c12
      subst c12
      have H1 : (flywheellaw17_TrendPlays.l0 kj7 l2 0 t347 t348 t349 t350 t351 t352 t353 t354 t357 t358 t359 t360 t361 t362 t363 t364) = some r := by rw [if_neg (show ¬ (false = true) by decide)] at H; exact H
      clear H
      have H := H1
      clear H1
      have H' := Aside0.mk H
      clear H
      go_wp2
      go_loopg [11] kj7 (fun kq v11 w' => ∃ (S_ : Nat → Prop) (x11_2 : Int) (x356000_2 : Int) (x356001_2 : Int) (x356002_2 : Int) (x356003_2 : Int) (x356004_2 : Int) (x356005_2 : List Int) (x356006_2 : List Int) (x356007_2 : Int) (x366000_2 : Int) (x366001_2 : Int) (x366002_2 : List Int) (x366003_2 : List Int) (x366004_2 : Int) (x366005_2 : Int) (x366006_2 : Int) (x366007_2 : Int) (u356005 : Value) (u356006 : Value) (u366002 : Value) (u366003 : Value), v11 = .int .i64 x11_2 ∧ Aside0 (flywheellaw17_TrendPlays.l0 kq l2 x11_2 x356000_2 x356001_2 x356002_2 x356003_2 x356004_2 x356005_2 x356006_2 x356007_2 x366000_2 x366001_2 x366002_2 x366003_2 x366004_2 x366005_2 x366006_2 x366007_2 = some r) ∧ Aside0 (kq ≤ kj7) ∧ Aside0 (IsS60P S_ w w' g355 x356000_2 x356001_2 x356002_2 x356003_2 x356004_2 x356005_2 x356006_2 x356007_2) ∧ Aside0 (IsS62P (fun k_ => ¬ S_ k_) w w' g365 x366000_2 x366001_2 x366002_2 x366003_2 x366004_2 x366005_2 x366006_2 x366007_2) ∧ Aside0 (Below w.heap.size w w'))
      case atStart => exact ⟨_, (0), (t347), (t348), (t349), (t350), (t351), (t352), (t353), (t354), (t357), (t358), (t359), (t360), (t361), (t362), (t363), (t364), (.bool true), (.bool true), (.bool true), (.bool true), (by first | rfl | (simp; done) | (simp [*]; done)), H', ⟨Nat.le_refl _⟩, ⟨by repeat (first | (with_reducible first | exact HI355.out | apply IsS60P.alloc | apply IsS60P.drewN | apply IsS60P.drew | apply IsS60P.set_0 | apply IsS60P.set_1 | apply IsS60P.set_2 | apply IsS60P.set_3 | apply IsS60P.set_4 | apply IsS60P.set_5 | apply IsS60P.set_6 | apply IsS60P.set_7) | exact HI355.out)⟩, ⟨by repeat (first | (with_reducible first | exact HI365.out | apply IsS62P.alloc | apply IsS62P.drewN | apply IsS62P.drew | apply IsS62P.set_0 | apply IsS62P.set_1 | apply IsS62P.set_2 | apply IsS62P.set_3 | apply IsS62P.set_4 | apply IsS62P.set_5 | apply IsS62P.set_6 | apply IsS62P.set_7) | exact HI365.out)⟩, ⟨by repeat (first | (with_reducible first | exact HB.out | apply below_alloc | apply pw_below_drewN | apply below_drew1 | refine below_set ?_ (IsS60P.ge HI355.out) | refine below_set ?_ (IsS62P.ge HI365.out)) | exact HB.out)⟩⟩
      case round =>
       clear H'
       try clear c1
       try clear c2
       try clear p2
       try clear c4
       try clear c4b0
       try clear c6
       try clear c6b0
       try clear c11
       try clear c11b0
       try clear c11b1
       try clear c12
       try clear p2
       obtain ⟨S_, x11_2, x356000_2, x356001_2, x356002_2, x356003_2, x356004_2, x356005_2, x356006_2, x356007_2, x366000_2, x366001_2, x366002_2, x366003_2, x366004_2, x366005_2, x366006_2, x366007_2, u356005, u356006, u366002, u366003, rfl, HA, HK2, HI355, HI365, HB⟩ := hrel
       cases gk with
       | zero => exact absurd HA.out (by simp [flywheellaw17_TrendPlays.l0])
       | succ k2 =>
        have H := HA.out
        clear HA
        simp only [flywheellaw17_TrendPlays.l0] at H
        have HC13 := Aside0.mk H
        clear H
        go_upto_region 6 with (fail)
        go_cut [45] (fun v45 wc => ∃ (S_ : Nat → Prop) (kq : Nat) (x45_12 : Bool), v45 = .bool x45_12 ∧ Aside0 (flywheellaw17_TrendPlays.j2 kq l2 x11_2 x45_12 x356000_2 x356001_2 x356002_2 x356003_2 x356004_2 x356005_2 x356006_2 x356007_2 x366000_2 x366001_2 x366002_2 x366003_2 x366004_2 x366005_2 x366006_2 x366007_2 = some r) ∧ Aside0 (kq ≤ k2) ∧ Aside0 (IsS60P S_ w wc g355 x356000_2 x356001_2 x356002_2 x356003_2 x356004_2 x356005_2 x356006_2 x356007_2) ∧ Aside0 (IsS62P (fun k_ => ¬ S_ k_) w wc g365 x366000_2 x366001_2 x366002_2 x366003_2 x366004_2 x366005_2 x366006_2 x366007_2) ∧ Aside0 (Below w.heap.size w wc))
        case first =>
         have H := HC13.out
         clear HC13
         by_cases c14 : x11_2 < (l2.length : Int)
         ·rw [if_pos c14] at H
          have c14b0 : decide (x11_2 < (l2.length : Int)) = true := decide_eq_true c14
          clear c14
          (first | rw [c14b0] | (simp only [i64_w, i32_w]; rw [c14b0]) | skip)
          by_cases c15 : x11_2 < 100
          ·rw [if_pos c15] at H
           have c15b0 : decide (x11_2 < 100) = true := decide_eq_true c15
           clear c15
           have H' := Aside0.mk H
           clear H
           go_wp2
           go_meet
           case rel => exact ⟨_, _, (true), (by first | rfl | (simp; done) | (simp [*]; done)), H', ⟨by have := HJ7.out; have := HK2.out; first | omega | exact Nat.le_refl _⟩, ⟨by repeat (first | (with_reducible first | exact HI355.out | apply IsS60P.alloc | apply IsS60P.drewN | apply IsS60P.drew | apply IsS60P.set_0 | apply IsS60P.set_1 | apply IsS60P.set_2 | apply IsS60P.set_3 | apply IsS60P.set_4 | apply IsS60P.set_5 | apply IsS60P.set_6 | apply IsS60P.set_7) | exact HI355.out)⟩, ⟨by repeat (first | (with_reducible first | exact HI365.out | apply IsS62P.alloc | apply IsS62P.drewN | apply IsS62P.drew | apply IsS62P.set_0 | apply IsS62P.set_1 | apply IsS62P.set_2 | apply IsS62P.set_3 | apply IsS62P.set_4 | apply IsS62P.set_5 | apply IsS62P.set_6 | apply IsS62P.set_7) | exact HI365.out)⟩, ⟨by repeat (first | (with_reducible first | exact HB.out | apply below_alloc | apply pw_below_drewN | apply below_drew1 | refine below_set ?_ (IsS60P.ge HI355.out) | refine below_set ?_ (IsS62P.ge HI365.out)) | exact HB.out)⟩⟩
          ·rw [if_neg c15] at H
           have c15b0 : decide (x11_2 < 100) = false := decide_eq_false c15
           clear c15
           have H' := Aside0.mk H
           clear H
           go_wp2
           go_meet
           case rel => exact ⟨_, _, (false), (by first | rfl | (simp; done) | (simp [*]; done)), H', ⟨by have := HJ7.out; have := HK2.out; first | omega | exact Nat.le_refl _⟩, ⟨by repeat (first | (with_reducible first | exact HI355.out | apply IsS60P.alloc | apply IsS60P.drewN | apply IsS60P.drew | apply IsS60P.set_0 | apply IsS60P.set_1 | apply IsS60P.set_2 | apply IsS60P.set_3 | apply IsS60P.set_4 | apply IsS60P.set_5 | apply IsS60P.set_6 | apply IsS60P.set_7) | exact HI355.out)⟩, ⟨by repeat (first | (with_reducible first | exact HI365.out | apply IsS62P.alloc | apply IsS62P.drewN | apply IsS62P.drew | apply IsS62P.set_0 | apply IsS62P.set_1 | apply IsS62P.set_2 | apply IsS62P.set_3 | apply IsS62P.set_4 | apply IsS62P.set_5 | apply IsS62P.set_6 | apply IsS62P.set_7) | exact HI365.out)⟩, ⟨by repeat (first | (with_reducible first | exact HB.out | apply below_alloc | apply pw_below_drewN | apply below_drew1 | refine below_set ?_ (IsS60P.ge HI355.out) | refine below_set ?_ (IsS62P.ge HI365.out)) | exact HB.out)⟩⟩
         ·rw [if_neg c14] at H
          have c14b0 : decide (x11_2 < (l2.length : Int)) = false := decide_eq_false c14
          clear c14
          (first | rw [c14b0] | (simp only [i64_w, i32_w]; rw [c14b0]) | skip)
          have H' := Aside0.mk H
          clear H
          go_wp2
          go_meet
          case rel => exact ⟨_, _, (false), (by first | rfl | (simp; done) | (simp [*]; done)), H', ⟨by have := HJ7.out; have := HK2.out; first | omega | exact Nat.le_refl _⟩, ⟨by repeat (first | (with_reducible first | exact HI355.out | apply IsS60P.alloc | apply IsS60P.drewN | apply IsS60P.drew | apply IsS60P.set_0 | apply IsS60P.set_1 | apply IsS60P.set_2 | apply IsS60P.set_3 | apply IsS60P.set_4 | apply IsS60P.set_5 | apply IsS60P.set_6 | apply IsS60P.set_7) | exact HI355.out)⟩, ⟨by repeat (first | (with_reducible first | exact HI365.out | apply IsS62P.alloc | apply IsS62P.drewN | apply IsS62P.drew | apply IsS62P.set_0 | apply IsS62P.set_1 | apply IsS62P.set_2 | apply IsS62P.set_3 | apply IsS62P.set_4 | apply IsS62P.set_5 | apply IsS62P.set_6 | apply IsS62P.set_7) | exact HI365.out)⟩, ⟨by repeat (first | (with_reducible first | exact HB.out | apply below_alloc | apply pw_below_drewN | apply below_drew1 | refine below_set ?_ (IsS60P.ge HI355.out) | refine below_set ?_ (IsS62P.ge HI365.out)) | exact HB.out)⟩⟩
        case rest =>
         clear HC13
         try clear c1
         try clear c2
         try clear p2
         try clear c4
         try clear c4b0
         try clear c6
         try clear c6b0
         try clear c11
         try clear c11b0
         try clear c11b1
         try clear c12
         try clear c14
         try clear c14b0
         try clear c15
         try clear c15b0
         try clear p2
         obtain ⟨S_, kq, x45_12, rfl, HA, HJ12, HI355, HI365, HB⟩ := hcut
         cases kq with
         | zero => exact absurd HA.out (by simp [flywheellaw17_TrendPlays.j2])
         | succ kj12 =>
          have H := HA.out
          clear HA
          simp only [flywheellaw17_TrendPlays.j2] at H
          by_cases c16 : x45_12 = true
          ·subst c16
           have H1 : (if 0 ≤ x11_2 then (if x11_2 < (l2.length : Int) then ((trend_Trend_Add.f kj12 x356000_2 x356001_2 x356002_2 x356003_2 x356004_2 x356005_2 x356006_2 x356007_2 ((rd_T36 l2 x11_2).f0) ((rd_T36 l2 x11_2).f1)).bind fun bt370 => ((flywheelref17_Trend_Add.f kj12 x366000_2 x366001_2 x366002_2 x366003_2 x366004_2 x366005_2 x366006_2 x366007_2 ((rd_T36 l2 x11_2).f0) ((rd_T36 l2 x11_2).f1)).bind fun bt381 => (if bt370.1 = bt381.1 then ((trend_Trend_Slope.f kj12 bt370.2.1 bt370.2.2.1 bt370.2.2.2.1 bt370.2.2.2.2.1 bt370.2.2.2.2.2.1 bt370.2.2.2.2.2.2.1 bt370.2.2.2.2.2.2.2.1 bt370.2.2.2.2.2.2.2.2).bind fun bt390 => ((flywheelref17_Trend_Slope.f kj12 bt381.2.1 bt381.2.2.1 bt381.2.2.2.1 bt381.2.2.2.2.1 bt381.2.2.2.2.2.1 bt381.2.2.2.2.2.2.1 bt381.2.2.2.2.2.2.2.1 bt381.2.2.2.2.2.2.2.2).bind fun bt399 => (if bt390.1 = bt399.1 then ((trend_Trend_Count.f bt390.2.1 bt390.2.2.1 bt390.2.2.2.1 bt390.2.2.2.2.1 bt390.2.2.2.2.2.1 bt390.2.2.2.2.2.2.1 bt390.2.2.2.2.2.2.2.1 bt390.2.2.2.2.2.2.2.2).bind fun bt408 => ((flywheelref17_Trend_Count.f bt399.2.1 bt399.2.2.1 bt399.2.2.2.1 bt399.2.2.2.2.1 bt399.2.2.2.2.2.1 bt399.2.2.2.2.2.2.1 bt399.2.2.2.2.2.2.2.1 bt399.2.2.2.2.2.2.2.2).bind fun bt417 => (if bt408.1 = bt417.1 then (flywheellaw17_TrendPlays.l0 kj12 l2 (wrap64 (x11_2 + 1)) bt408.2.1 bt408.2.2.1 bt408.2.2.2.1 bt408.2.2.2.2.1 bt408.2.2.2.2.2.1 bt408.2.2.2.2.2.2.1 bt408.2.2.2.2.2.2.2.1 bt408.2.2.2.2.2.2.2.2 bt417.2.1 bt417.2.2.1 bt417.2.2.2.1 bt417.2.2.2.2.1 bt417.2.2.2.2.2.1 bt417.2.2.2.2.2.2.1 bt417.2.2.2.2.2.2.2.1 bt417.2.2.2.2.2.2.2.2) else (some false)))) else (some false)))) else (some false)))) else (none)) else (none)) = some r := by rw [if_pos rfl] at H; exact H
           clear H
           have H := H1
           clear H1
           by_cases c17 : 0 ≤ x11_2
           ·rw [if_pos c17] at H
            have c17b0 : decide (0 ≤ x11_2) = true := decide_eq_true c17
            clear c17
            by_cases c18 : x11_2 < (l2.length : Int)
            ·rw [if_pos c18] at H
             have c18b0 : decide (x11_2 < (l2.length : Int)) = true := decide_eq_true c18
             clear c18
             replace H := Option.bind_eq_some_iff.mp H
             obtain ⟨⟨t370, t371, t372, t373, t374, t375, t376, t377, t378⟩, A190, H⟩ := H
             replace H : ((flywheelref17_Trend_Add.f kj12 x366000_2 x366001_2 x366002_2 x366003_2 x366004_2 x366005_2 x366006_2 x366007_2 ((rd_T36 l2 x11_2).f0) ((rd_T36 l2 x11_2).f1)).bind fun bt381 => (if t370 = bt381.1 then ((trend_Trend_Slope.f kj12 t371 t372 t373 t374 t375 t376 t377 t378).bind fun bt390 => ((flywheelref17_Trend_Slope.f kj12 bt381.2.1 bt381.2.2.1 bt381.2.2.2.1 bt381.2.2.2.2.1 bt381.2.2.2.2.2.1 bt381.2.2.2.2.2.2.1 bt381.2.2.2.2.2.2.2.1 bt381.2.2.2.2.2.2.2.2).bind fun bt399 => (if bt390.1 = bt399.1 then ((trend_Trend_Count.f bt390.2.1 bt390.2.2.1 bt390.2.2.2.1 bt390.2.2.2.2.1 bt390.2.2.2.2.2.1 bt390.2.2.2.2.2.2.1 bt390.2.2.2.2.2.2.2.1 bt390.2.2.2.2.2.2.2.2).bind fun bt408 => ((flywheelref17_Trend_Count.f bt399.2.1 bt399.2.2.1 bt399.2.2.2.1 bt399.2.2.2.2.1 bt399.2.2.2.2.2.1 bt399.2.2.2.2.2.2.1 bt399.2.2.2.2.2.2.2.1 bt399.2.2.2.2.2.2.2.2).bind fun bt417 => (if bt408.1 = bt417.1 then (flywheellaw17_TrendPlays.l0 kj12 l2 (wrap64 (x11_2 + 1)) bt408.2.1 bt408.2.2.1 bt408.2.2.2.1 bt408.2.2.2.2.1 bt408.2.2.2.2.2.1 bt408.2.2.2.2.2.2.1 bt408.2.2.2.2.2.2.2.1 bt408.2.2.2.2.2.2.2.2 bt417.2.1 bt417.2.2.1 bt417.2.2.2.1 bt417.2.2.2.2.1 bt417.2.2.2.2.2.1 bt417.2.2.2.2.2.2.1 bt417.2.2.2.2.2.2.2.1 bt417.2.2.2.2.2.2.2.2) else (some false)))) else (some false)))) else (some false))) = some r := H
             have A19 := Aside0.mk A190
             clear A190
             replace H := Option.bind_eq_some_iff.mp H
             obtain ⟨⟨t381, t382, t383, t384, t385, t386, t387, t388, t389⟩, A200, H⟩ := H
             replace H : (if t370 = t381 then ((trend_Trend_Slope.f kj12 t371 t372 t373 t374 t375 t376 t377 t378).bind fun bt390 => ((flywheelref17_Trend_Slope.f kj12 t382 t383 t384 t385 t386 t387 t388 t389).bind fun bt399 => (if bt390.1 = bt399.1 then ((trend_Trend_Count.f bt390.2.1 bt390.2.2.1 bt390.2.2.2.1 bt390.2.2.2.2.1 bt390.2.2.2.2.2.1 bt390.2.2.2.2.2.2.1 bt390.2.2.2.2.2.2.2.1 bt390.2.2.2.2.2.2.2.2).bind fun bt408 => ((flywheelref17_Trend_Count.f bt399.2.1 bt399.2.2.1 bt399.2.2.2.1 bt399.2.2.2.2.1 bt399.2.2.2.2.2.1 bt399.2.2.2.2.2.2.1 bt399.2.2.2.2.2.2.2.1 bt399.2.2.2.2.2.2.2.2).bind fun bt417 => (if bt408.1 = bt417.1 then (flywheellaw17_TrendPlays.l0 kj12 l2 (wrap64 (x11_2 + 1)) bt408.2.1 bt408.2.2.1 bt408.2.2.2.1 bt408.2.2.2.2.1 bt408.2.2.2.2.2.1 bt408.2.2.2.2.2.2.1 bt408.2.2.2.2.2.2.2.1 bt408.2.2.2.2.2.2.2.2 bt417.2.1 bt417.2.2.1 bt417.2.2.2.1 bt417.2.2.2.2.1 bt417.2.2.2.2.2.1 bt417.2.2.2.2.2.2.1 bt417.2.2.2.2.2.2.2.1 bt417.2.2.2.2.2.2.2.2) else (some false)))) else (some false)))) else (some false)) = some r := H
             have A20 := Aside0.mk A200
             clear A200
             by_cases c21 : t370 = t381
             ·rw [if_pos c21] at H
              have c21b0 : (t370 == t381) = true := beq_iff_eq.mpr c21
              have c21b1 : (t370 != t381) = false := bne_eq_false_iff_eq.mpr c21
              clear c21
              replace H := Option.bind_eq_some_iff.mp H
              obtain ⟨⟨t390, t391, t392, t393, t394, t395, t396, t397, t398⟩, A220, H⟩ := H
              replace H : ((flywheelref17_Trend_Slope.f kj12 t382 t383 t384 t385 t386 t387 t388 t389).bind fun bt399 => (if t390 = bt399.1 then ((trend_Trend_Count.f t391 t392 t393 t394 t395 t396 t397 t398).bind fun bt408 => ((flywheelref17_Trend_Count.f bt399.2.1 bt399.2.2.1 bt399.2.2.2.1 bt399.2.2.2.2.1 bt399.2.2.2.2.2.1 bt399.2.2.2.2.2.2.1 bt399.2.2.2.2.2.2.2.1 bt399.2.2.2.2.2.2.2.2).bind fun bt417 => (if bt408.1 = bt417.1 then (flywheellaw17_TrendPlays.l0 kj12 l2 (wrap64 (x11_2 + 1)) bt408.2.1 bt408.2.2.1 bt408.2.2.2.1 bt408.2.2.2.2.1 bt408.2.2.2.2.2.1 bt408.2.2.2.2.2.2.1 bt408.2.2.2.2.2.2.2.1 bt408.2.2.2.2.2.2.2.2 bt417.2.1 bt417.2.2.1 bt417.2.2.2.1 bt417.2.2.2.2.1 bt417.2.2.2.2.2.1 bt417.2.2.2.2.2.2.1 bt417.2.2.2.2.2.2.2.1 bt417.2.2.2.2.2.2.2.2) else (some false)))) else (some false))) = some r := H
              have A22 := Aside0.mk A220
              clear A220
              replace H := Option.bind_eq_some_iff.mp H
              obtain ⟨⟨t399, t400, t401, t402, t403, t404, t405, t406, t407⟩, A230, H⟩ := H
              replace H : (if t390 = t399 then ((trend_Trend_Count.f t391 t392 t393 t394 t395 t396 t397 t398).bind fun bt408 => ((flywheelref17_Trend_Count.f t400 t401 t402 t403 t404 t405 t406 t407).bind fun bt417 => (if bt408.1 = bt417.1 then (flywheellaw17_TrendPlays.l0 kj12 l2 (wrap64 (x11_2 + 1)) bt408.2.1 bt408.2.2.1 bt408.2.2.2.1 bt408.2.2.2.2.1 bt408.2.2.2.2.2.1 bt408.2.2.2.2.2.2.1 bt408.2.2.2.2.2.2.2.1 bt408.2.2.2.2.2.2.2.2 bt417.2.1 bt417.2.2.1 bt417.2.2.2.1 bt417.2.2.2.2.1 bt417.2.2.2.2.2.1 bt417.2.2.2.2.2.2.1 bt417.2.2.2.2.2.2.2.1 bt417.2.2.2.2.2.2.2.2) else (some false)))) else (some false)) = some r := H
              have A23 := Aside0.mk A230
              clear A230
              by_cases c24 : t390 = t399
              ·rw [if_pos c24] at H
               have c24b0 : (t390 == t399) = true := beq_iff_eq.mpr c24
               have c24b1 : (t390 != t399) = false := bne_eq_false_iff_eq.mpr c24
               clear c24
               replace H := Option.bind_eq_some_iff.mp H
               obtain ⟨⟨t408, t409, t410, t411, t412, t413, t414, t415, t416⟩, A250, H⟩ := H
               replace H : ((flywheelref17_Trend_Count.f t400 t401 t402 t403 t404 t405 t406 t407).bind fun bt417 => (if t408 = bt417.1 then (flywheellaw17_TrendPlays.l0 kj12 l2 (wrap64 (x11_2 + 1)) t409 t410 t411 t412 t413 t414 t415 t416 bt417.2.1 bt417.2.2.1 bt417.2.2.2.1 bt417.2.2.2.2.1 bt417.2.2.2.2.2.1 bt417.2.2.2.2.2.2.1 bt417.2.2.2.2.2.2.2.1 bt417.2.2.2.2.2.2.2.2) else (some false))) = some r := H
               have A25 := Aside0.mk A250
               clear A250
               replace H := Option.bind_eq_some_iff.mp H
               obtain ⟨⟨t417, t418, t419, t420, t421, t422, t423, t424, t425⟩, A260, H⟩ := H
               replace H : (if t408 = t417 then (flywheellaw17_TrendPlays.l0 kj12 l2 (wrap64 (x11_2 + 1)) t409 t410 t411 t412 t413 t414 t415 t416 t418 t419 t420 t421 t422 t423 t424 t425) else (some false)) = some r := H
               have A26 := Aside0.mk A260
               clear A260
               by_cases c27 : t408 = t417
               ·rw [if_pos c27] at H
                have c27b0 : (t408 == t417) = true := beq_iff_eq.mpr c27
                have c27b1 : (t408 != t417) = false := bne_eq_false_iff_eq.mpr c27
                clear c27
                have H' := Aside0.mk H
                clear H
                try go_wp2
                have n0_ := Aside0.mk (IsS60P.drew HI355.out)
                have n1_ := Aside0.mk (IsS62P.drew HI365.out)
                have n2_ := Aside0.mk (below_drew1 HB.out)
                clear HI355
                clear HI365
                clear HB
                have HI355 := n0_
                have HI365 := n1_
                have HB := n2_
                clear n0_ n1_ n2_
                have p368 : 0 ≤ (x11_2 : Int) := of_decide_eq_true (by first | (with_reducible assumption) | assumption)
                have q368 : x11_2 < (l2.length : Int) := of_decide_eq_true (by first | (with_reducible assumption) | assumption)
                obtain ⟨ad368, e368, hx368_0, hx368_1⟩ := at_T36 HR2.out x11_2 p368 q368
                have hw368_1 := hx368_1
                have hw368_0 := hx368_0
                cases e368
                replace hx368_0 := (HB.out.cell (World.block_lt_of_cell? w _ hx368_0)).trans hx368_0
                replace hx368_1 := (HB.out.cell (World.block_lt_of_cell? w _ hx368_1)).trans hx368_1
                replace p368 := eq_true p368
                replace q368 := eq_true q368
                have p369 : 0 ≤ (x11_2 : Int) := of_decide_eq_true (by first | (with_reducible assumption) | assumption)
                have q369 : x11_2 < (l2.length : Int) := of_decide_eq_true (by first | (with_reducible assumption) | assumption)
                obtain ⟨ad369, e369, hx369_0, hx369_1⟩ := at_T36 HR2.out x11_2 p369 q369
                have hw369_1 := hx369_1
                have hw369_0 := hx369_0
                obtain rfl : ad368 = ad369 := (by injection e369)
                replace hx369_0 := (HB.out.cell (World.block_lt_of_cell? w _ hx369_0)).trans hx369_0
                replace hx369_1 := (HB.out.cell (World.block_lt_of_cell? w _ hx369_1)).trans hx369_1
                replace p369 := eq_true p369
                replace q369 := eq_true q369
                have p379 : 0 ≤ (x11_2 : Int) := of_decide_eq_true (by first | (with_reducible assumption) | assumption)
                have q379 : x11_2 < (l2.length : Int) := of_decide_eq_true (by first | (with_reducible assumption) | assumption)
                obtain ⟨ad379, e379, hx379_0, hx379_1⟩ := at_T36 HR2.out x11_2 p379 q379
                have hw379_1 := hx379_1
                have hw379_0 := hx379_0
                obtain rfl : ad368 = ad379 := (by injection e379)
                replace hx379_0 := (HB.out.cell (World.block_lt_of_cell? w _ hx379_0)).trans hx379_0
                replace hx379_1 := (HB.out.cell (World.block_lt_of_cell? w _ hx379_1)).trans hx379_1
                replace p379 := eq_true p379
                replace q379 := eq_true q379
                have p380 : 0 ≤ (x11_2 : Int) := of_decide_eq_true (by first | (with_reducible assumption) | assumption)
                have q380 : x11_2 < (l2.length : Int) := of_decide_eq_true (by first | (with_reducible assumption) | assumption)
                obtain ⟨ad380, e380, hx380_0, hx380_1⟩ := at_T36 HR2.out x11_2 p380 q380
                have hw380_1 := hx380_1
                have hw380_0 := hx380_0
                obtain rfl : ad368 = ad380 := (by injection e380)
                replace hx380_0 := (HB.out.cell (World.block_lt_of_cell? w _ hx380_0)).trans hx380_0
                replace hx380_1 := (HB.out.cell (World.block_lt_of_cell? w _ hx380_1)).trans hx380_1
                replace p380 := eq_true p380
                replace q380 := eq_true q380
                refine start_ (n := 39) (S := fun w' => w'.cell? (ad368.add ((x11_2).toNat * 2)) = some (.int .i64 ((rd_T36 l2 x11_2).f0)) ∧ w'.cell? ⟨(ad368.add ((x11_2).toNat * 2)).block, (ad368.add ((x11_2).toNat * 2)).off + 1, none⟩ = some (.int .i64 ((rd_T36 l2 x11_2).f1)) ∧ w'.cell? (ad368.add ((x11_2).toNat * 2)) = some (.int .i64 ((rd_T36 l2 x11_2).f0)) ∧ w'.cell? ⟨(ad368.add ((x11_2).toNat * 2)).block, (ad368.add ((x11_2).toNat * 2)).off + 1, none⟩ = some (.int .i64 ((rd_T36 l2 x11_2).f1)) ∧ w'.cell? (ad368.add ((x11_2).toNat * 2)) = some (.int .i64 ((rd_T36 l2 x11_2).f0)) ∧ w'.cell? ⟨(ad368.add ((x11_2).toNat * 2)).block, (ad368.add ((x11_2).toNat * 2)).off + 1, none⟩ = some (.int .i64 ((rd_T36 l2 x11_2).f1)) ∧ w'.cell? (ad368.add ((x11_2).toNat * 2)) = some (.int .i64 ((rd_T36 l2 x11_2).f0)) ∧ w'.cell? ⟨(ad368.add ((x11_2).toNat * 2)).block, (ad368.add ((x11_2).toNat * 2)).off + 1, none⟩ = some (.int .i64 ((rd_T36 l2 x11_2).f1))) (ds := []) #[false, false, false, false, false, false, false, false, false, false, false, false, false, false, false, false, false, false, false, false, false, false, false, false, false, false, false, false, false, false, false, false, false, false, false, false, false, false, false] (by kernel_rfl) rfl rfl ⟨((HB.out.cell (World.block_lt_of_cell? w _ hw368_0)).trans hw368_0), ((HB.out.cell (World.block_lt_of_cell? w _ hw368_1)).trans hw368_1), ((HB.out.cell (World.block_lt_of_cell? w _ hw369_0)).trans hw369_0), ((HB.out.cell (World.block_lt_of_cell? w _ hw369_1)).trans hw369_1), ((HB.out.cell (World.block_lt_of_cell? w _ hw379_0)).trans hw379_0), ((HB.out.cell (World.block_lt_of_cell? w _ hw379_1)).trans hw379_1), ((HB.out.cell (World.block_lt_of_cell? w _ hw380_0)).trans hw380_0), ((HB.out.cell (World.block_lt_of_cell? w _ hw380_1)).trans hw380_1)⟩ (fun hHeld => ?_); refine with_tabW flywheellaw17_TrendPlays.tab8 flywheellaw17_TrendPlays.bits8 (fun HT_ HW_ => ?_)
                generalize wc.drew = w28 at HI355 HI365 HB hx368_0 hx368_1 hx369_0 hx369_1 hx379_0 hx379_1 hx380_0 hx380_1 hHeld ⊢
                refine pure_ (i := 0) (N := some 48) (v := ?_) (a' := ?_) (bl 39 1) rfl rfl (any_of HT_.out (by kernel_rfl)) (fun _ _ _ h => h) (Or.inl ⟨by rfl, ?_⟩) ?_ ?_
                rotate_left
                ·intro w'
                 go_simp
                 with_reducible rfl
                rotate_left
                ·simp only [puts_]
                 rfl
                refine pure_ (i := 1) (N := some 49) (v := ?_) (a' := ?_) (bl 39 3) rfl rfl (any_of HT_.out (by kernel_rfl)) (fun _ _ _ h => h) (Or.inl ⟨by rfl, ?_⟩) ?_ ?_
                rotate_left
                ·intro w'
                 go_simp
                 with_reducible rfl
                rotate_left
                ·simp only [puts_]
                 rfl
                refine pure_ (i := 2) (N := some 50) (v := ?_) (a' := ?_) (bl 39 7) rfl rfl (any_of HT_.out (by kernel_rfl)) (fun _ _ _ h => h) (Or.inl ⟨by rfl, ?_⟩) ?_ ?_
                rotate_left
                ·intro w'
                 go_simp
                 with_reducible rfl
                rotate_left
                ·simp only [puts_]
                 rfl
                refine pure_ (i := 3) (N := some 51) (v := ?_) (a' := ?_) (bl 39 15) rfl rfl (any_of HT_.out (by kernel_rfl)) (fun _ _ _ h => h) (Or.inl ⟨by rfl, ?_⟩) ?_ ?_
                rotate_left
                ·intro w'
                 go_simp
                 with_reducible rfl
                rotate_left
                ·simp only [puts_]
                 rfl
                refine pure_ (i := 4) (N := some 52) (v := ?_) (a' := ?_) (bl 39 31) rfl rfl (any_of HT_.out (by kernel_rfl)) (fun _ _ _ h => h) (Or.inl ⟨by rfl, ?_⟩) ?_ ?_
                rotate_left
                ·intro w'
                 go_simp
                 with_reducible rfl
                rotate_left
                ·simp only [puts_]
                 rfl
                refine pure_ (i := 6) (N := some 54) (v := ?_) (a' := ?_) (bl 39 95) rfl rfl (any_of HT_.out (by kernel_rfl)) (fun _ _ _ h => h) (Or.inl ⟨by rfl, ?_⟩) ?_ ?_
                rotate_left
                ·intro w'
                 go_simp
                 with_reducible rfl
                rotate_left
                ·simp only [puts_]
                 rfl
                refine pure_ (i := 7) (N := some 55) (v := ?_) (a' := ?_) (bl 39 223) rfl rfl (any_of HT_.out (by kernel_rfl)) (fun _ _ _ h => h) (Or.inl ⟨by rfl, ?_⟩) ?_ ?_
                rotate_left
                ·intro w'
                 go_simp
                 with_reducible rfl
                rotate_left
                ·simp only [puts_]
                 rfl
                refine pure_ (i := 8) (N := some 56) (v := ?_) (a' := ?_) (bl 39 479) rfl rfl (any_of HT_.out (by kernel_rfl)) (fun _ _ _ h => h) (Or.inl ⟨by rfl, ?_⟩) ?_ ?_
                rotate_left
                ·intro w'
                 go_simp
                 with_reducible rfl
                rotate_left
                ·simp only [puts_]
                 rfl
                refine pure_ (i := 9) (N := some 57) (v := ?_) (a' := ?_) (bl 39 991) rfl rfl (any_of HT_.out (by kernel_rfl)) (fun _ _ _ h => h) (Or.inl ⟨by rfl, ?_⟩) ?_ ?_
                rotate_left
                ·intro w'
                 go_simp
                 with_reducible rfl
                rotate_left
                ·simp only [puts_]
                 rfl
                refine pure_ (i := 12) (N := some 60) (v := ?_) (a' := ?_) (bl 39 5087) rfl rfl (any_of HT_.out (by kernel_rfl)) (fun _ _ _ h => h) (Or.inl ⟨by rfl, ?_⟩) ?_ ?_
                rotate_left
                ·intro w'
                 go_simp
                 with_reducible rfl
                rotate_left
                ·simp only [puts_]
                 rfl
                refine pure_ (i := 13) (N := some 61) (v := ?_) (a' := ?_) (bl 39 13279) rfl rfl (any_of HT_.out (by kernel_rfl)) (fun _ _ _ h => h) (Or.inl ⟨by rfl, ?_⟩) ?_ ?_
                rotate_left
                ·intro w'
                 go_simp
                 with_reducible rfl
                rotate_left
                ·simp only [puts_]
                 rfl
                refine pure_ (i := 14) (N := some 62) (v := ?_) (a' := ?_) (bl 39 29663) rfl rfl (any_of HT_.out (by kernel_rfl)) (fun _ _ _ h => h) (Or.inl ⟨by rfl, ?_⟩) ?_ ?_
                rotate_left
                ·intro w'
                 go_simp
                 with_reducible rfl
                rotate_left
                ·simp only [puts_]
                 rfl
                refine pure_ (i := 15) (N := some 63) (v := ?_) (a' := ?_) (bl 39 62431) rfl rfl (any_of HT_.out (by kernel_rfl)) (fun _ _ _ h => h) (Or.inl ⟨by rfl, ?_⟩) ?_ ?_
                rotate_left
                ·intro w'
                 go_simp
                 with_reducible rfl
                rotate_left
                ·simp only [puts_]
                 rfl
                refine pure_ (i := 16) (N := some 64) (v := ?_) (a' := ?_) (bl 39 127967) rfl rfl (any_of HT_.out (by kernel_rfl)) (fun _ _ _ h => h) (Or.inl ⟨by rfl, ?_⟩) ?_ ?_
                rotate_left
                ·intro w'
                 go_simp
                 with_reducible rfl
                rotate_left
                ·simp only [puts_]
                 rfl
                refine pure_ (i := 18) (N := some 66) (v := ?_) (a' := ?_) (bl 39 390111) rfl rfl (any_of HT_.out (by kernel_rfl)) (fun _ _ _ h => h) (Or.inl ⟨by rfl, ?_⟩) ?_ ?_
                rotate_left
                ·intro w'
                 go_simp
                 with_reducible rfl
                rotate_left
                ·simp only [puts_]
                 rfl
                refine pure_ (i := 19) (N := some 67) (v := ?_) (a' := ?_) (bl 39 914399) rfl rfl (any_of HT_.out (by kernel_rfl)) (fun _ _ _ h => h) (Or.inl ⟨by rfl, ?_⟩) ?_ ?_
                rotate_left
                ·intro w'
                 go_simp
                 with_reducible rfl
                rotate_left
                ·simp only [puts_]
                 rfl
                refine pure_ (i := 20) (N := some 68) (v := ?_) (a' := ?_) (bl 39 1962975) rfl rfl (any_of HT_.out (by kernel_rfl)) (fun _ _ _ h => h) (Or.inl ⟨by rfl, ?_⟩) ?_ ?_
                rotate_left
                ·intro w'
                 go_simp
                 with_reducible rfl
                rotate_left
                ·simp only [puts_]
                 rfl
                refine pure_ (i := 21) (N := some 69) (v := ?_) (a' := ?_) (bl 39 4060127) rfl rfl (any_of HT_.out (by kernel_rfl)) (fun _ _ _ h => h) (Or.inl ⟨by rfl, ?_⟩) ?_ ?_
                rotate_left
                ·intro w'
                 go_simp
                 with_reducible rfl
                rotate_left
                ·simp only [puts_]
                 rfl
                refine take_ (i := 5) (N := some 53) (v := ?_) (a' := ?_) (bl 39 4060159) rfl rfl (take_ofW HT_.out HW_.out (by kernel_rfl)) (fun _ _ _ h => h) (Or.inl ⟨by rfl, ?_⟩) hHeld ?_ ?_
                rotate_left
                ·rintro w' ⟨s0, s1, s2, s3, s4, s5, s6, s7⟩
                 go_simp
                 with_reducible rfl
                rotate_left
                ·simp only [puts_]
                 rfl
                refine take_ (i := 10) (N := some 58) (v := ?_) (a' := ?_) (bl 39 4061183) rfl rfl (take_ofW HT_.out HW_.out (by kernel_rfl)) (fun _ _ _ h => h) (Or.inl ⟨by rfl, ?_⟩) hHeld ?_ ?_
                rotate_left
                ·rintro w' ⟨s0, s1, s2, s3, s4, s5, s6, s7⟩
                 go_simp
                 with_reducible rfl
                rotate_left
                ·simp only [puts_]
                 rfl
                refine take_ (i := 17) (N := some 65) (v := ?_) (a' := ?_) (bl 39 4192255) rfl rfl (take_ofW HT_.out HW_.out (by kernel_rfl)) (fun _ _ _ h => h) (Or.inl ⟨by rfl, ?_⟩) hHeld ?_ ?_
                rotate_left
                ·rintro w' ⟨s0, s1, s2, s3, s4, s5, s6, s7⟩
                 go_simp
                 with_reducible rfl
                rotate_left
                ·simp only [puts_]
                 rfl
                refine take_ (i := 22) (N := some 70) (v := ?_) (a' := ?_) (bl 39 8386559) rfl rfl (take_ofW HT_.out HW_.out (by kernel_rfl)) (fun _ _ _ h => h) (Or.inl ⟨by rfl, ?_⟩) hHeld ?_ ?_
                rotate_left
                ·rintro w' ⟨s0, s1, s2, s3, s4, s5, s6, s7⟩
                 go_simp
                 with_reducible rfl
                rotate_left
                ·simp only [puts_]
                 rfl
                refine one_ (i := 11) (N := some 59) (bl 39 8388607) rfl rfl (one_of HT_.out (by kernel_rfl)) (by decide) (fun K hK => ?_)
                refine goes_ Try.func16 (by kernel_rfl) rfl #[.pointer (some ⟨g355, 0, none⟩), .int .i64 ((rd_T36 l2 x11_2).f0), .int .i64 ((rd_T36 l2 x11_2).f1)] (by rfl) rfl rfl (by (try simp only [List.map_toArray, List.map_cons, List.map_nil]); first | done | rfl | (simp only [List.length_drop, List.length_take]; rfl)) ?_
                with_reducible refine (trend_Trend_Add.callsJ (S := S_) kj12 g355 x356000_2 x356001_2 x356002_2 x356003_2 x356004_2 x356005_2 x356006_2 x356007_2 ((rd_T36 l2 x11_2).f0) ((rd_T36 l2 x11_2).f1) t370 t371 t372 t373 t374 t375 t376 t377 t378 w _ ?side1 ?side2 (show IsS62P (fun k_ => ¬ S_ k_) w _ g365 _ _ _ _ _ _ _ _ from by repeat (first | (with_reducible first | exact HI365.out | apply IsS62P.alloc | apply IsS62P.drewN | apply IsS62P.drew | apply IsS62P.set_0 | apply IsS62P.set_1 | apply IsS62P.set_2 | apply IsS62P.set_3 | apply IsS62P.set_4 | apply IsS62P.set_5 | apply IsS62P.set_6 | apply IsS62P.set_7) | exact HI365.out)) A19.out).mono ?_
                (case side1 => repeat (first | (with_reducible first | exact HI355.out | apply IsS60P.alloc | apply IsS60P.drewN | apply IsS60P.drew | apply IsS60P.set_0 | apply IsS60P.set_1 | apply IsS60P.set_2 | apply IsS60P.set_3 | apply IsS60P.set_4 | apply IsS60P.set_5 | apply IsS60P.set_6 | apply IsS60P.set_7) | exact HI355.out))
                (case side2 => repeat (first | (with_reducible first | exact HB.out | apply below_alloc | apply pw_below_drewN | apply below_drew1 | refine below_set ?_ (IsS60P.ge HI355.out) | refine below_set ?_ (IsS62P.ge HI365.out)) | exact HB.out))
                rintro e w29 ⟨S_, rfl, hi, hb, hk⟩
                refine ⟨_, rfl, ?_⟩
                have n0_ := Aside0.mk hk
                have n1_ := Aside0.mk (hb)
                have n2_ := Aside0.mk (hi)
                clear HI365
                clear HB
                clear HI355
                have HI365 := n0_
                have HB := n1_
                have HI355 := n2_
                clear n0_ n1_ n2_
                (try clear hb)
                (try clear hb2)
                (try clear hk)
                (try clear hi)
                refine hK.out _ _ ⟨((HB.out.cell (World.block_lt_of_cell? w _ hw368_0)).trans hw368_0), ((HB.out.cell (World.block_lt_of_cell? w _ hw368_1)).trans hw368_1), ((HB.out.cell (World.block_lt_of_cell? w _ hw369_0)).trans hw369_0), ((HB.out.cell (World.block_lt_of_cell? w _ hw369_1)).trans hw369_1), ((HB.out.cell (World.block_lt_of_cell? w _ hw379_0)).trans hw379_0), ((HB.out.cell (World.block_lt_of_cell? w _ hw379_1)).trans hw379_1), ((HB.out.cell (World.block_lt_of_cell? w _ hw380_0)).trans hw380_0), ((HB.out.cell (World.block_lt_of_cell? w _ hw380_1)).trans hw380_1)⟩ (fun hHeld => ?_)
                clear hK K
                refine norm_ (a' := ?_) ?_ ?_
                rotate_left
                ·show Act.put _ (some 59) _ = _
                 simp only [puts_]
                 rfl
                refine one_ (i := 23) (N := some 71) (bl 39 16777215) rfl rfl (one_of HT_.out (by kernel_rfl)) (by decide) (fun K hK => ?_)
                refine goes_ Try.func17 (by kernel_rfl) rfl #[.pointer (some ⟨g365, 0, none⟩), .int .i64 ((rd_T36 l2 x11_2).f0), .int .i64 ((rd_T36 l2 x11_2).f1)] (by rfl) rfl rfl (by (try simp only [List.map_toArray, List.map_cons, List.map_nil]); first | done | rfl | (simp only [List.length_drop, List.length_take]; rfl)) ?_
                with_reducible refine (flywheelref17_Trend_Add.callsJ (S := S_) kj12 g365 x366000_2 x366001_2 x366002_2 x366003_2 x366004_2 x366005_2 x366006_2 x366007_2 ((rd_T36 l2 x11_2).f0) ((rd_T36 l2 x11_2).f1) t381 t382 t383 t384 t385 t386 t387 t388 t389 w _ ?side1 ?side2 (show IsS60P S_ w _ g355 _ _ _ _ _ _ _ _ from by repeat (first | (with_reducible first | exact HI355.out | apply IsS60P.alloc | apply IsS60P.drewN | apply IsS60P.drew | apply IsS60P.set_0 | apply IsS60P.set_1 | apply IsS60P.set_2 | apply IsS60P.set_3 | apply IsS60P.set_4 | apply IsS60P.set_5 | apply IsS60P.set_6 | apply IsS60P.set_7) | exact HI355.out)) A20.out).mono ?_
                (case side1 => repeat (first | (with_reducible first | exact HI365.out | apply IsS62P.alloc | apply IsS62P.drewN | apply IsS62P.drew | apply IsS62P.set_0 | apply IsS62P.set_1 | apply IsS62P.set_2 | apply IsS62P.set_3 | apply IsS62P.set_4 | apply IsS62P.set_5 | apply IsS62P.set_6 | apply IsS62P.set_7) | exact HI365.out))
                (case side2 => repeat (first | (with_reducible first | exact HB.out | apply below_alloc | apply pw_below_drewN | apply below_drew1 | refine below_set ?_ (IsS60P.ge HI355.out) | refine below_set ?_ (IsS62P.ge HI365.out)) | exact HB.out))
                rintro e w30 ⟨S_, rfl, hi, hb, hk⟩
                refine ⟨_, rfl, ?_⟩
                have n0_ := Aside0.mk hk
                have n1_ := Aside0.mk (hb)
                have n2_ := Aside0.mk (hi)
                clear HI355
                clear HB
                clear HI365
                have HI355 := n0_
                have HB := n1_
                have HI365 := n2_
                clear n0_ n1_ n2_
                (try clear hb)
                (try clear hb2)
                (try clear hk)
                (try clear hi)
                refine hK.out _ _ ⟨((HB.out.cell (World.block_lt_of_cell? w _ hw368_0)).trans hw368_0), ((HB.out.cell (World.block_lt_of_cell? w _ hw368_1)).trans hw368_1), ((HB.out.cell (World.block_lt_of_cell? w _ hw369_0)).trans hw369_0), ((HB.out.cell (World.block_lt_of_cell? w _ hw369_1)).trans hw369_1), ((HB.out.cell (World.block_lt_of_cell? w _ hw379_0)).trans hw379_0), ((HB.out.cell (World.block_lt_of_cell? w _ hw379_1)).trans hw379_1), ((HB.out.cell (World.block_lt_of_cell? w _ hw380_0)).trans hw380_0), ((HB.out.cell (World.block_lt_of_cell? w _ hw380_1)).trans hw380_1)⟩ (fun hHeld => ?_)
                clear hK K
                refine norm_ (a' := ?_) ?_ ?_
                rotate_left
                ·show Act.put _ (some 71) _ = _
                 simp only [puts_]
                 rfl
                refine pure_ (i := 24) (N := some 72) (v := ?_) (a' := ?_) (bl 39 33554431) rfl rfl (any_of HT_.out (by kernel_rfl)) (fun _ _ _ h => h) (Or.inl ⟨by rfl, ?_⟩) ?_ ?_
                rotate_left
                ·intro w'
                 go_simp
                 with_reducible rfl
                rotate_left
                ·simp only [puts_]
                 rfl
                refine pure_ (i := 25) (N := some 73) (v := ?_) (a' := ?_) (bl 39 67108863) rfl rfl (any_of HT_.out (by kernel_rfl)) (fun _ _ _ h => h) (Or.inl ⟨by rfl, ?_⟩) ?_ ?_
                rotate_left
                ·intro w'
                 go_simp
                 with_reducible rfl
                rotate_left
                ·simp only [puts_]
                 rfl
                refine pure_ (i := 26) (N := some 74) (v := ?_) (a' := ?_) (bl 39 134217727) rfl rfl (any_of HT_.out (by kernel_rfl)) (fun _ _ _ h => h) (Or.inl ⟨by rfl, ?_⟩) ?_ ?_
                rotate_left
                ·intro w'
                 go_simp
                 with_reducible rfl
                rotate_left
                ·simp only [puts_]
                 rfl
                refine pure_ (i := 28) (N := some 76) (v := ?_) (a' := ?_) (bl 39 402653183) rfl rfl (any_of HT_.out (by kernel_rfl)) (fun _ _ _ h => h) (Or.inl ⟨by rfl, ?_⟩) ?_ ?_
                rotate_left
                ·intro w'
                 go_simp
                 with_reducible rfl
                rotate_left
                ·simp only [puts_]
                 rfl
                refine one_ (i := 27) (N := some 75) (bl 39 536870911) rfl rfl (one_of HT_.out (by kernel_rfl)) (by decide) (fun K hK => ?_)
                refine goes_ Try.func18 (by kernel_rfl) rfl #[.pointer (some ⟨g355, 0, none⟩)] (by rfl) rfl rfl (by (try simp only [List.map_toArray, List.map_cons, List.map_nil]); first | done | rfl | (simp only [List.length_drop, List.length_take]; rfl)) ?_
                with_reducible refine (trend_Trend_Slope.callsJ (S := S_) kj12 g355 t371 t372 t373 t374 t375 t376 t377 t378 t390 t391 t392 t393 t394 t395 t396 t397 t398 w _ ?side1 ?side2 (show IsS62P (fun k_ => ¬ S_ k_) w _ g365 _ _ _ _ _ _ _ _ from by repeat (first | (with_reducible first | exact HI365.out | apply IsS62P.alloc | apply IsS62P.drewN | apply IsS62P.drew | apply IsS62P.set_0 | apply IsS62P.set_1 | apply IsS62P.set_2 | apply IsS62P.set_3 | apply IsS62P.set_4 | apply IsS62P.set_5 | apply IsS62P.set_6 | apply IsS62P.set_7) | exact HI365.out)) A22.out).mono ?_
                (case side1 => repeat (first | (with_reducible first | exact HI355.out | apply IsS60P.alloc | apply IsS60P.drewN | apply IsS60P.drew | apply IsS60P.set_0 | apply IsS60P.set_1 | apply IsS60P.set_2 | apply IsS60P.set_3 | apply IsS60P.set_4 | apply IsS60P.set_5 | apply IsS60P.set_6 | apply IsS60P.set_7) | exact HI355.out))
                (case side2 => repeat (first | (with_reducible first | exact HB.out | apply below_alloc | apply pw_below_drewN | apply below_drew1 | refine below_set ?_ (IsS60P.ge HI355.out) | refine below_set ?_ (IsS62P.ge HI365.out)) | exact HB.out))
                rintro e w31 ⟨S_, rfl, hi, hb, hk⟩
                refine ⟨_, rfl, ?_⟩
                have n0_ := Aside0.mk hk
                have n1_ := Aside0.mk (hb)
                have n2_ := Aside0.mk (hi)
                clear HI365
                clear HB
                clear HI355
                have HI365 := n0_
                have HB := n1_
                have HI355 := n2_
                clear n0_ n1_ n2_
                (try clear hb)
                (try clear hb2)
                (try clear hk)
                (try clear hi)
                refine hK.out _ _ ⟨((HB.out.cell (World.block_lt_of_cell? w _ hw368_0)).trans hw368_0), ((HB.out.cell (World.block_lt_of_cell? w _ hw368_1)).trans hw368_1), ((HB.out.cell (World.block_lt_of_cell? w _ hw369_0)).trans hw369_0), ((HB.out.cell (World.block_lt_of_cell? w _ hw369_1)).trans hw369_1), ((HB.out.cell (World.block_lt_of_cell? w _ hw379_0)).trans hw379_0), ((HB.out.cell (World.block_lt_of_cell? w _ hw379_1)).trans hw379_1), ((HB.out.cell (World.block_lt_of_cell? w _ hw380_0)).trans hw380_0), ((HB.out.cell (World.block_lt_of_cell? w _ hw380_1)).trans hw380_1)⟩ (fun hHeld => ?_)
                clear hK K
                refine norm_ (a' := ?_) ?_ ?_
                rotate_left
                ·show Act.put _ (some 75) _ = _
                 simp only [puts_]
                 rfl
                refine one_ (i := 29) (N := some 77) (bl 39 1073741823) rfl rfl (one_of HT_.out (by kernel_rfl)) (by decide) (fun K hK => ?_)
                refine goes_ Try.func19 (by kernel_rfl) rfl #[.pointer (some ⟨g365, 0, none⟩)] (by rfl) rfl rfl (by (try simp only [List.map_toArray, List.map_cons, List.map_nil]); first | done | rfl | (simp only [List.length_drop, List.length_take]; rfl)) ?_
                with_reducible refine (flywheelref17_Trend_Slope.callsJ (S := S_) kj12 g365 t382 t383 t384 t385 t386 t387 t388 t389 t399 t400 t401 t402 t403 t404 t405 t406 t407 w _ ?side1 ?side2 (show IsS60P S_ w _ g355 _ _ _ _ _ _ _ _ from by repeat (first | (with_reducible first | exact HI355.out | apply IsS60P.alloc | apply IsS60P.drewN | apply IsS60P.drew | apply IsS60P.set_0 | apply IsS60P.set_1 | apply IsS60P.set_2 | apply IsS60P.set_3 | apply IsS60P.set_4 | apply IsS60P.set_5 | apply IsS60P.set_6 | apply IsS60P.set_7) | exact HI355.out)) A23.out).mono ?_
                (case side1 => repeat (first | (with_reducible first | exact HI365.out | apply IsS62P.alloc | apply IsS62P.drewN | apply IsS62P.drew | apply IsS62P.set_0 | apply IsS62P.set_1 | apply IsS62P.set_2 | apply IsS62P.set_3 | apply IsS62P.set_4 | apply IsS62P.set_5 | apply IsS62P.set_6 | apply IsS62P.set_7) | exact HI365.out))
                (case side2 => repeat (first | (with_reducible first | exact HB.out | apply below_alloc | apply pw_below_drewN | apply below_drew1 | refine below_set ?_ (IsS60P.ge HI355.out) | refine below_set ?_ (IsS62P.ge HI365.out)) | exact HB.out))
                rintro e w32 ⟨S_, rfl, hi, hb, hk⟩
                refine ⟨_, rfl, ?_⟩
                have n0_ := Aside0.mk hk
                have n1_ := Aside0.mk (hb)
                have n2_ := Aside0.mk (hi)
                clear HI355
                clear HB
                clear HI365
                have HI355 := n0_
                have HB := n1_
                have HI365 := n2_
                clear n0_ n1_ n2_
                (try clear hb)
                (try clear hb2)
                (try clear hk)
                (try clear hi)
                refine hK.out _ _ ⟨((HB.out.cell (World.block_lt_of_cell? w _ hw368_0)).trans hw368_0), ((HB.out.cell (World.block_lt_of_cell? w _ hw368_1)).trans hw368_1), ((HB.out.cell (World.block_lt_of_cell? w _ hw369_0)).trans hw369_0), ((HB.out.cell (World.block_lt_of_cell? w _ hw369_1)).trans hw369_1), ((HB.out.cell (World.block_lt_of_cell? w _ hw379_0)).trans hw379_0), ((HB.out.cell (World.block_lt_of_cell? w _ hw379_1)).trans hw379_1), ((HB.out.cell (World.block_lt_of_cell? w _ hw380_0)).trans hw380_0), ((HB.out.cell (World.block_lt_of_cell? w _ hw380_1)).trans hw380_1)⟩ (fun hHeld => ?_)
                clear hK K
                refine norm_ (a' := ?_) ?_ ?_
                rotate_left
                ·show Act.put _ (some 77) _ = _
                 simp only [puts_]
                 rfl
                refine pure_ (i := 30) (N := some 78) (v := ?_) (a' := ?_) (bl 39 2147483647) rfl rfl (any_of HT_.out (by kernel_rfl)) (fun _ _ _ h => h) (Or.inl ⟨by rfl, ?_⟩) ?_ ?_
                rotate_left
                ·intro w'
                 go_simp
                 with_reducible rfl
                rotate_left
                ·simp only [puts_]
                 rfl
                refine pure_ (i := 31) (N := some 79) (v := ?_) (a' := ?_) (bl 39 4294967295) rfl rfl (any_of HT_.out (by kernel_rfl)) (fun _ _ _ h => h) (Or.inl ⟨by rfl, ?_⟩) ?_ ?_
                rotate_left
                ·intro w'
                 go_simp
                 with_reducible rfl
                rotate_left
                ·simp only [puts_]
                 rfl
                refine pure_ (i := 32) (N := some 80) (v := ?_) (a' := ?_) (bl 39 8589934591) rfl rfl (any_of HT_.out (by kernel_rfl)) (fun _ _ _ h => h) (Or.inl ⟨by rfl, ?_⟩) ?_ ?_
                rotate_left
                ·intro w'
                 go_simp
                 with_reducible rfl
                rotate_left
                ·simp only [puts_]
                 rfl
                refine pure_ (i := 33) (N := some 81) (v := ?_) (a' := ?_) (bl 39 17179869183) rfl rfl (any_of HT_.out (by kernel_rfl)) (fun _ _ _ h => h) (Or.inl ⟨by rfl, ?_⟩) ?_ ?_
                rotate_left
                ·intro w'
                 go_simp
                 with_reducible rfl
                rotate_left
                ·simp only [puts_]
                 rfl
                refine pure_ (i := 35) (N := some 83) (v := ?_) (a' := ?_) (bl 39 51539607551) rfl rfl (any_of HT_.out (by kernel_rfl)) (fun _ _ _ h => h) (Or.inl ⟨by rfl, ?_⟩) ?_ ?_
                rotate_left
                ·intro w'
                 go_simp
                 with_reducible rfl
                rotate_left
                ·simp only [puts_]
                 rfl
                refine one_ (i := 34) (N := some 82) (bl 39 68719476735) rfl rfl (one_of HT_.out (by kernel_rfl)) (by decide) (fun K hK => ?_)
                refine goes_ Try.func20 (by kernel_rfl) rfl #[.pointer (some ⟨g355, 0, none⟩)] (by rfl) rfl rfl (by (try simp only [List.map_toArray, List.map_cons, List.map_nil]); first | done | rfl | (simp only [List.length_drop, List.length_take]; rfl)) ?_
                with_reducible refine (trend_Trend_Count.callsJ (S := S_) g355 t391 t392 t393 t394 t395 t396 t397 t398 t408 t409 t410 t411 t412 t413 t414 t415 t416 w _ ?side1 ?side2 (show IsS62P (fun k_ => ¬ S_ k_) w _ g365 _ _ _ _ _ _ _ _ from by repeat (first | (with_reducible first | exact HI365.out | apply IsS62P.alloc | apply IsS62P.drewN | apply IsS62P.drew | apply IsS62P.set_0 | apply IsS62P.set_1 | apply IsS62P.set_2 | apply IsS62P.set_3 | apply IsS62P.set_4 | apply IsS62P.set_5 | apply IsS62P.set_6 | apply IsS62P.set_7) | exact HI365.out)) A25.out).mono ?_
                (case side1 => repeat (first | (with_reducible first | exact HI355.out | apply IsS60P.alloc | apply IsS60P.drewN | apply IsS60P.drew | apply IsS60P.set_0 | apply IsS60P.set_1 | apply IsS60P.set_2 | apply IsS60P.set_3 | apply IsS60P.set_4 | apply IsS60P.set_5 | apply IsS60P.set_6 | apply IsS60P.set_7) | exact HI355.out))
                (case side2 => repeat (first | (with_reducible first | exact HB.out | apply below_alloc | apply pw_below_drewN | apply below_drew1 | refine below_set ?_ (IsS60P.ge HI355.out) | refine below_set ?_ (IsS62P.ge HI365.out)) | exact HB.out))
                rintro e w33 ⟨S_, rfl, hi, hb, hk⟩
                refine ⟨_, rfl, ?_⟩
                have n0_ := Aside0.mk hk
                have n1_ := Aside0.mk (hb)
                have n2_ := Aside0.mk (hi)
                clear HI365
                clear HB
                clear HI355
                have HI365 := n0_
                have HB := n1_
                have HI355 := n2_
                clear n0_ n1_ n2_
                (try clear hb)
                (try clear hb2)
                (try clear hk)
                (try clear hi)
                refine hK.out _ _ ⟨((HB.out.cell (World.block_lt_of_cell? w _ hw368_0)).trans hw368_0), ((HB.out.cell (World.block_lt_of_cell? w _ hw368_1)).trans hw368_1), ((HB.out.cell (World.block_lt_of_cell? w _ hw369_0)).trans hw369_0), ((HB.out.cell (World.block_lt_of_cell? w _ hw369_1)).trans hw369_1), ((HB.out.cell (World.block_lt_of_cell? w _ hw379_0)).trans hw379_0), ((HB.out.cell (World.block_lt_of_cell? w _ hw379_1)).trans hw379_1), ((HB.out.cell (World.block_lt_of_cell? w _ hw380_0)).trans hw380_0), ((HB.out.cell (World.block_lt_of_cell? w _ hw380_1)).trans hw380_1)⟩ (fun hHeld => ?_)
                clear hK K
                refine norm_ (a' := ?_) ?_ ?_
                rotate_left
                ·show Act.put _ (some 82) _ = _
                 simp only [puts_]
                 rfl
                refine one_ (i := 36) (N := some 84) (bl 39 137438953471) rfl rfl (one_of HT_.out (by kernel_rfl)) (by decide) (fun K hK => ?_)
                refine goes_ Try.func21 (by kernel_rfl) rfl #[.pointer (some ⟨g365, 0, none⟩)] (by rfl) rfl rfl (by (try simp only [List.map_toArray, List.map_cons, List.map_nil]); first | done | rfl | (simp only [List.length_drop, List.length_take]; rfl)) ?_
                with_reducible refine (flywheelref17_Trend_Count.callsJ (S := S_) g365 t400 t401 t402 t403 t404 t405 t406 t407 t417 t418 t419 t420 t421 t422 t423 t424 t425 w _ ?side1 ?side2 (show IsS60P S_ w _ g355 _ _ _ _ _ _ _ _ from by repeat (first | (with_reducible first | exact HI355.out | apply IsS60P.alloc | apply IsS60P.drewN | apply IsS60P.drew | apply IsS60P.set_0 | apply IsS60P.set_1 | apply IsS60P.set_2 | apply IsS60P.set_3 | apply IsS60P.set_4 | apply IsS60P.set_5 | apply IsS60P.set_6 | apply IsS60P.set_7) | exact HI355.out)) A26.out).mono ?_
                (case side1 => repeat (first | (with_reducible first | exact HI365.out | apply IsS62P.alloc | apply IsS62P.drewN | apply IsS62P.drew | apply IsS62P.set_0 | apply IsS62P.set_1 | apply IsS62P.set_2 | apply IsS62P.set_3 | apply IsS62P.set_4 | apply IsS62P.set_5 | apply IsS62P.set_6 | apply IsS62P.set_7) | exact HI365.out))
                (case side2 => repeat (first | (with_reducible first | exact HB.out | apply below_alloc | apply pw_below_drewN | apply below_drew1 | refine below_set ?_ (IsS60P.ge HI355.out) | refine below_set ?_ (IsS62P.ge HI365.out)) | exact HB.out))
                rintro e w34 ⟨S_, rfl, hi, hb, hk⟩
                refine ⟨_, rfl, ?_⟩
                have n0_ := Aside0.mk hk
                have n1_ := Aside0.mk (hb)
                have n2_ := Aside0.mk (hi)
                clear HI355
                clear HB
                clear HI365
                have HI355 := n0_
                have HB := n1_
                have HI365 := n2_
                clear n0_ n1_ n2_
                (try clear hb)
                (try clear hb2)
                (try clear hk)
                (try clear hi)
                refine hK.out _ _ ⟨((HB.out.cell (World.block_lt_of_cell? w _ hw368_0)).trans hw368_0), ((HB.out.cell (World.block_lt_of_cell? w _ hw368_1)).trans hw368_1), ((HB.out.cell (World.block_lt_of_cell? w _ hw369_0)).trans hw369_0), ((HB.out.cell (World.block_lt_of_cell? w _ hw369_1)).trans hw369_1), ((HB.out.cell (World.block_lt_of_cell? w _ hw379_0)).trans hw379_0), ((HB.out.cell (World.block_lt_of_cell? w _ hw379_1)).trans hw379_1), ((HB.out.cell (World.block_lt_of_cell? w _ hw380_0)).trans hw380_0), ((HB.out.cell (World.block_lt_of_cell? w _ hw380_1)).trans hw380_1)⟩ (fun hHeld => ?_)
                clear hK K
                refine norm_ (a' := ?_) ?_ ?_
                rotate_left
                ·show Act.put _ (some 84) _ = _
                 simp only [puts_]
                 rfl
                refine pure_ (i := 37) (N := some 85) (v := ?_) (a' := ?_) (bl 39 274877906943) rfl rfl (any_of HT_.out (by kernel_rfl)) (fun _ _ _ h => h) (Or.inl ⟨by rfl, ?_⟩) ?_ ?_
                rotate_left
                ·intro w'
                 go_simp
                 with_reducible rfl
                rotate_left
                ·simp only [puts_]
                 rfl
                refine pure_ (i := 38) (N := some 86) (v := ?_) (a' := ?_) (bl 39 549755813887) rfl rfl (any_of HT_.out (by kernel_rfl)) (fun _ _ _ h => h) (Or.inl ⟨by rfl, ?_⟩) ?_ ?_
                rotate_left
                ·intro w'
                 go_simp
                 with_reducible rfl
                rotate_left
                ·simp only [puts_]
                 rfl
                refine done_ (done_of HT_.out (by kernel_rfl)) ?_
                try go_wp2
                go_roundg kj12
                case measure => have := HJ7.out; have := HK2.out; have := HJ12.out; omega
                case rel => exact ⟨_, (wrap64 (x11_2 + 1)), (t409), (t410), (t411), (t412), (t413), (t414), (t415), (t416), (t418), (t419), (t420), (t421), (t422), (t423), (t424), (t425), (.bool true), (.bool true), (.bool true), (.bool true), (by first | rfl | (simp; done) | (simp [*]; done)), H', ⟨by have := HJ7.out; have := HK2.out; have := HJ12.out; omega⟩, ⟨by repeat (first | (with_reducible first | exact HI355.out | apply IsS60P.alloc | apply IsS60P.drewN | apply IsS60P.drew | apply IsS60P.set_0 | apply IsS60P.set_1 | apply IsS60P.set_2 | apply IsS60P.set_3 | apply IsS60P.set_4 | apply IsS60P.set_5 | apply IsS60P.set_6 | apply IsS60P.set_7) | exact HI355.out)⟩, ⟨by repeat (first | (with_reducible first | exact HI365.out | apply IsS62P.alloc | apply IsS62P.drewN | apply IsS62P.drew | apply IsS62P.set_0 | apply IsS62P.set_1 | apply IsS62P.set_2 | apply IsS62P.set_3 | apply IsS62P.set_4 | apply IsS62P.set_5 | apply IsS62P.set_6 | apply IsS62P.set_7) | exact HI365.out)⟩, ⟨by repeat (first | (with_reducible first | exact HB.out | apply below_alloc | apply pw_below_drewN | apply below_drew1 | refine below_set ?_ (IsS60P.ge HI355.out) | refine below_set ?_ (IsS62P.ge HI365.out)) | exact HB.out)⟩⟩
               ·rw [if_neg c27] at H
                have c27b0 : (t408 == t417) = false := beq_eq_false_iff_ne.mpr c27
                have c27b1 : (t408 != t417) = true := bne_iff_ne.mpr c27
                obtain rfl := Option.some.inj H
                try go_wp2
                have n0_ := Aside0.mk (IsS60P.drew HI355.out)
                have n1_ := Aside0.mk (IsS62P.drew HI365.out)
                have n2_ := Aside0.mk (below_drew1 HB.out)
                clear HI355
                clear HI365
                clear HB
                have HI355 := n0_
                have HI365 := n1_
                have HB := n2_
                clear n0_ n1_ n2_
                have p368 : 0 ≤ (x11_2 : Int) := of_decide_eq_true (by first | (with_reducible assumption) | assumption)
                have q368 : x11_2 < (l2.length : Int) := of_decide_eq_true (by first | (with_reducible assumption) | assumption)
                obtain ⟨ad368, e368, hx368_0, hx368_1⟩ := at_T36 HR2.out x11_2 p368 q368
                have hw368_1 := hx368_1
                have hw368_0 := hx368_0
                cases e368
                replace hx368_0 := (HB.out.cell (World.block_lt_of_cell? w _ hx368_0)).trans hx368_0
                replace hx368_1 := (HB.out.cell (World.block_lt_of_cell? w _ hx368_1)).trans hx368_1
                replace p368 := eq_true p368
                replace q368 := eq_true q368
                have p369 : 0 ≤ (x11_2 : Int) := of_decide_eq_true (by first | (with_reducible assumption) | assumption)
                have q369 : x11_2 < (l2.length : Int) := of_decide_eq_true (by first | (with_reducible assumption) | assumption)
                obtain ⟨ad369, e369, hx369_0, hx369_1⟩ := at_T36 HR2.out x11_2 p369 q369
                have hw369_1 := hx369_1
                have hw369_0 := hx369_0
                obtain rfl : ad368 = ad369 := (by injection e369)
                replace hx369_0 := (HB.out.cell (World.block_lt_of_cell? w _ hx369_0)).trans hx369_0
                replace hx369_1 := (HB.out.cell (World.block_lt_of_cell? w _ hx369_1)).trans hx369_1
                replace p369 := eq_true p369
                replace q369 := eq_true q369
                have p379 : 0 ≤ (x11_2 : Int) := of_decide_eq_true (by first | (with_reducible assumption) | assumption)
                have q379 : x11_2 < (l2.length : Int) := of_decide_eq_true (by first | (with_reducible assumption) | assumption)
                obtain ⟨ad379, e379, hx379_0, hx379_1⟩ := at_T36 HR2.out x11_2 p379 q379
                have hw379_1 := hx379_1
                have hw379_0 := hx379_0
                obtain rfl : ad368 = ad379 := (by injection e379)
                replace hx379_0 := (HB.out.cell (World.block_lt_of_cell? w _ hx379_0)).trans hx379_0
                replace hx379_1 := (HB.out.cell (World.block_lt_of_cell? w _ hx379_1)).trans hx379_1
                replace p379 := eq_true p379
                replace q379 := eq_true q379
                have p380 : 0 ≤ (x11_2 : Int) := of_decide_eq_true (by first | (with_reducible assumption) | assumption)
                have q380 : x11_2 < (l2.length : Int) := of_decide_eq_true (by first | (with_reducible assumption) | assumption)
                obtain ⟨ad380, e380, hx380_0, hx380_1⟩ := at_T36 HR2.out x11_2 p380 q380
                have hw380_1 := hx380_1
                have hw380_0 := hx380_0
                obtain rfl : ad368 = ad380 := (by injection e380)
                replace hx380_0 := (HB.out.cell (World.block_lt_of_cell? w _ hx380_0)).trans hx380_0
                replace hx380_1 := (HB.out.cell (World.block_lt_of_cell? w _ hx380_1)).trans hx380_1
                replace p380 := eq_true p380
                replace q380 := eq_true q380
                refine start_ (n := 39) (S := fun w' => w'.cell? (ad368.add ((x11_2).toNat * 2)) = some (.int .i64 ((rd_T36 l2 x11_2).f0)) ∧ w'.cell? ⟨(ad368.add ((x11_2).toNat * 2)).block, (ad368.add ((x11_2).toNat * 2)).off + 1, none⟩ = some (.int .i64 ((rd_T36 l2 x11_2).f1)) ∧ w'.cell? (ad368.add ((x11_2).toNat * 2)) = some (.int .i64 ((rd_T36 l2 x11_2).f0)) ∧ w'.cell? ⟨(ad368.add ((x11_2).toNat * 2)).block, (ad368.add ((x11_2).toNat * 2)).off + 1, none⟩ = some (.int .i64 ((rd_T36 l2 x11_2).f1)) ∧ w'.cell? (ad368.add ((x11_2).toNat * 2)) = some (.int .i64 ((rd_T36 l2 x11_2).f0)) ∧ w'.cell? ⟨(ad368.add ((x11_2).toNat * 2)).block, (ad368.add ((x11_2).toNat * 2)).off + 1, none⟩ = some (.int .i64 ((rd_T36 l2 x11_2).f1)) ∧ w'.cell? (ad368.add ((x11_2).toNat * 2)) = some (.int .i64 ((rd_T36 l2 x11_2).f0)) ∧ w'.cell? ⟨(ad368.add ((x11_2).toNat * 2)).block, (ad368.add ((x11_2).toNat * 2)).off + 1, none⟩ = some (.int .i64 ((rd_T36 l2 x11_2).f1))) (ds := []) #[false, false, false, false, false, false, false, false, false, false, false, false, false, false, false, false, false, false, false, false, false, false, false, false, false, false, false, false, false, false, false, false, false, false, false, false, false, false, false] (by kernel_rfl) rfl rfl ⟨((HB.out.cell (World.block_lt_of_cell? w _ hw368_0)).trans hw368_0), ((HB.out.cell (World.block_lt_of_cell? w _ hw368_1)).trans hw368_1), ((HB.out.cell (World.block_lt_of_cell? w _ hw369_0)).trans hw369_0), ((HB.out.cell (World.block_lt_of_cell? w _ hw369_1)).trans hw369_1), ((HB.out.cell (World.block_lt_of_cell? w _ hw379_0)).trans hw379_0), ((HB.out.cell (World.block_lt_of_cell? w _ hw379_1)).trans hw379_1), ((HB.out.cell (World.block_lt_of_cell? w _ hw380_0)).trans hw380_0), ((HB.out.cell (World.block_lt_of_cell? w _ hw380_1)).trans hw380_1)⟩ (fun hHeld => ?_); refine with_tabW flywheellaw17_TrendPlays.tab8 flywheellaw17_TrendPlays.bits8 (fun HT_ HW_ => ?_)
                generalize wc.drew = w35 at HI355 HI365 HB hx368_0 hx368_1 hx369_0 hx369_1 hx379_0 hx379_1 hx380_0 hx380_1 hHeld ⊢
                refine pure_ (i := 0) (N := some 48) (v := ?_) (a' := ?_) (bl 39 1) rfl rfl (any_of HT_.out (by kernel_rfl)) (fun _ _ _ h => h) (Or.inl ⟨by rfl, ?_⟩) ?_ ?_
                rotate_left
                ·intro w'
                 go_simp
                 with_reducible rfl
                rotate_left
                ·simp only [puts_]
                 rfl
                refine pure_ (i := 1) (N := some 49) (v := ?_) (a' := ?_) (bl 39 3) rfl rfl (any_of HT_.out (by kernel_rfl)) (fun _ _ _ h => h) (Or.inl ⟨by rfl, ?_⟩) ?_ ?_
                rotate_left
                ·intro w'
                 go_simp
                 with_reducible rfl
                rotate_left
                ·simp only [puts_]
                 rfl
                refine pure_ (i := 2) (N := some 50) (v := ?_) (a' := ?_) (bl 39 7) rfl rfl (any_of HT_.out (by kernel_rfl)) (fun _ _ _ h => h) (Or.inl ⟨by rfl, ?_⟩) ?_ ?_
                rotate_left
                ·intro w'
                 go_simp
                 with_reducible rfl
                rotate_left
                ·simp only [puts_]
                 rfl
                refine pure_ (i := 3) (N := some 51) (v := ?_) (a' := ?_) (bl 39 15) rfl rfl (any_of HT_.out (by kernel_rfl)) (fun _ _ _ h => h) (Or.inl ⟨by rfl, ?_⟩) ?_ ?_
                rotate_left
                ·intro w'
                 go_simp
                 with_reducible rfl
                rotate_left
                ·simp only [puts_]
                 rfl
                refine pure_ (i := 4) (N := some 52) (v := ?_) (a' := ?_) (bl 39 31) rfl rfl (any_of HT_.out (by kernel_rfl)) (fun _ _ _ h => h) (Or.inl ⟨by rfl, ?_⟩) ?_ ?_
                rotate_left
                ·intro w'
                 go_simp
                 with_reducible rfl
                rotate_left
                ·simp only [puts_]
                 rfl
                refine pure_ (i := 6) (N := some 54) (v := ?_) (a' := ?_) (bl 39 95) rfl rfl (any_of HT_.out (by kernel_rfl)) (fun _ _ _ h => h) (Or.inl ⟨by rfl, ?_⟩) ?_ ?_
                rotate_left
                ·intro w'
                 go_simp
                 with_reducible rfl
                rotate_left
                ·simp only [puts_]
                 rfl
                refine pure_ (i := 7) (N := some 55) (v := ?_) (a' := ?_) (bl 39 223) rfl rfl (any_of HT_.out (by kernel_rfl)) (fun _ _ _ h => h) (Or.inl ⟨by rfl, ?_⟩) ?_ ?_
                rotate_left
                ·intro w'
                 go_simp
                 with_reducible rfl
                rotate_left
                ·simp only [puts_]
                 rfl
                refine pure_ (i := 8) (N := some 56) (v := ?_) (a' := ?_) (bl 39 479) rfl rfl (any_of HT_.out (by kernel_rfl)) (fun _ _ _ h => h) (Or.inl ⟨by rfl, ?_⟩) ?_ ?_
                rotate_left
                ·intro w'
                 go_simp
                 with_reducible rfl
                rotate_left
                ·simp only [puts_]
                 rfl
                refine pure_ (i := 9) (N := some 57) (v := ?_) (a' := ?_) (bl 39 991) rfl rfl (any_of HT_.out (by kernel_rfl)) (fun _ _ _ h => h) (Or.inl ⟨by rfl, ?_⟩) ?_ ?_
                rotate_left
                ·intro w'
                 go_simp
                 with_reducible rfl
                rotate_left
                ·simp only [puts_]
                 rfl
                refine pure_ (i := 12) (N := some 60) (v := ?_) (a' := ?_) (bl 39 5087) rfl rfl (any_of HT_.out (by kernel_rfl)) (fun _ _ _ h => h) (Or.inl ⟨by rfl, ?_⟩) ?_ ?_
                rotate_left
                ·intro w'
                 go_simp
                 with_reducible rfl
                rotate_left
                ·simp only [puts_]
                 rfl
                refine pure_ (i := 13) (N := some 61) (v := ?_) (a' := ?_) (bl 39 13279) rfl rfl (any_of HT_.out (by kernel_rfl)) (fun _ _ _ h => h) (Or.inl ⟨by rfl, ?_⟩) ?_ ?_
                rotate_left
                ·intro w'
                 go_simp
                 with_reducible rfl
                rotate_left
                ·simp only [puts_]
                 rfl
                refine pure_ (i := 14) (N := some 62) (v := ?_) (a' := ?_) (bl 39 29663) rfl rfl (any_of HT_.out (by kernel_rfl)) (fun _ _ _ h => h) (Or.inl ⟨by rfl, ?_⟩) ?_ ?_
                rotate_left
                ·intro w'
                 go_simp
                 with_reducible rfl
                rotate_left
                ·simp only [puts_]
                 rfl
                refine pure_ (i := 15) (N := some 63) (v := ?_) (a' := ?_) (bl 39 62431) rfl rfl (any_of HT_.out (by kernel_rfl)) (fun _ _ _ h => h) (Or.inl ⟨by rfl, ?_⟩) ?_ ?_
                rotate_left
                ·intro w'
                 go_simp
                 with_reducible rfl
                rotate_left
                ·simp only [puts_]
                 rfl
                refine pure_ (i := 16) (N := some 64) (v := ?_) (a' := ?_) (bl 39 127967) rfl rfl (any_of HT_.out (by kernel_rfl)) (fun _ _ _ h => h) (Or.inl ⟨by rfl, ?_⟩) ?_ ?_
                rotate_left
                ·intro w'
                 go_simp
                 with_reducible rfl
                rotate_left
                ·simp only [puts_]
                 rfl
                refine pure_ (i := 18) (N := some 66) (v := ?_) (a' := ?_) (bl 39 390111) rfl rfl (any_of HT_.out (by kernel_rfl)) (fun _ _ _ h => h) (Or.inl ⟨by rfl, ?_⟩) ?_ ?_
                rotate_left
                ·intro w'
                 go_simp
                 with_reducible rfl
                rotate_left
                ·simp only [puts_]
                 rfl
                refine pure_ (i := 19) (N := some 67) (v := ?_) (a' := ?_) (bl 39 914399) rfl rfl (any_of HT_.out (by kernel_rfl)) (fun _ _ _ h => h) (Or.inl ⟨by rfl, ?_⟩) ?_ ?_
                rotate_left
                ·intro w'
                 go_simp
                 with_reducible rfl
                rotate_left
                ·simp only [puts_]
                 rfl
                refine pure_ (i := 20) (N := some 68) (v := ?_) (a' := ?_) (bl 39 1962975) rfl rfl (any_of HT_.out (by kernel_rfl)) (fun _ _ _ h => h) (Or.inl ⟨by rfl, ?_⟩) ?_ ?_
                rotate_left
                ·intro w'
                 go_simp
                 with_reducible rfl
                rotate_left
                ·simp only [puts_]
                 rfl
                refine pure_ (i := 21) (N := some 69) (v := ?_) (a' := ?_) (bl 39 4060127) rfl rfl (any_of HT_.out (by kernel_rfl)) (fun _ _ _ h => h) (Or.inl ⟨by rfl, ?_⟩) ?_ ?_
                rotate_left
                ·intro w'
                 go_simp
                 with_reducible rfl
                rotate_left
                ·simp only [puts_]
                 rfl
                refine take_ (i := 5) (N := some 53) (v := ?_) (a' := ?_) (bl 39 4060159) rfl rfl (take_ofW HT_.out HW_.out (by kernel_rfl)) (fun _ _ _ h => h) (Or.inl ⟨by rfl, ?_⟩) hHeld ?_ ?_
                rotate_left
                ·rintro w' ⟨s0, s1, s2, s3, s4, s5, s6, s7⟩
                 go_simp
                 with_reducible rfl
                rotate_left
                ·simp only [puts_]
                 rfl
                refine take_ (i := 10) (N := some 58) (v := ?_) (a' := ?_) (bl 39 4061183) rfl rfl (take_ofW HT_.out HW_.out (by kernel_rfl)) (fun _ _ _ h => h) (Or.inl ⟨by rfl, ?_⟩) hHeld ?_ ?_
                rotate_left
                ·rintro w' ⟨s0, s1, s2, s3, s4, s5, s6, s7⟩
                 go_simp
                 with_reducible rfl
                rotate_left
                ·simp only [puts_]
                 rfl
                refine take_ (i := 17) (N := some 65) (v := ?_) (a' := ?_) (bl 39 4192255) rfl rfl (take_ofW HT_.out HW_.out (by kernel_rfl)) (fun _ _ _ h => h) (Or.inl ⟨by rfl, ?_⟩) hHeld ?_ ?_
                rotate_left
                ·rintro w' ⟨s0, s1, s2, s3, s4, s5, s6, s7⟩
                 go_simp
                 with_reducible rfl
                rotate_left
                ·simp only [puts_]
                 rfl
                refine take_ (i := 22) (N := some 70) (v := ?_) (a' := ?_) (bl 39 8386559) rfl rfl (take_ofW HT_.out HW_.out (by kernel_rfl)) (fun _ _ _ h => h) (Or.inl ⟨by rfl, ?_⟩) hHeld ?_ ?_
                rotate_left
                ·rintro w' ⟨s0, s1, s2, s3, s4, s5, s6, s7⟩
                 go_simp
                 with_reducible rfl
                rotate_left
                ·simp only [puts_]
                 rfl
                refine one_ (i := 11) (N := some 59) (bl 39 8388607) rfl rfl (one_of HT_.out (by kernel_rfl)) (by decide) (fun K hK => ?_)
                refine goes_ Try.func16 (by kernel_rfl) rfl #[.pointer (some ⟨g355, 0, none⟩), .int .i64 ((rd_T36 l2 x11_2).f0), .int .i64 ((rd_T36 l2 x11_2).f1)] (by rfl) rfl rfl (by (try simp only [List.map_toArray, List.map_cons, List.map_nil]); first | done | rfl | (simp only [List.length_drop, List.length_take]; rfl)) ?_
                with_reducible refine (trend_Trend_Add.callsJ (S := S_) kj12 g355 x356000_2 x356001_2 x356002_2 x356003_2 x356004_2 x356005_2 x356006_2 x356007_2 ((rd_T36 l2 x11_2).f0) ((rd_T36 l2 x11_2).f1) t370 t371 t372 t373 t374 t375 t376 t377 t378 w _ ?side1 ?side2 (show IsS62P (fun k_ => ¬ S_ k_) w _ g365 _ _ _ _ _ _ _ _ from by repeat (first | (with_reducible first | exact HI365.out | apply IsS62P.alloc | apply IsS62P.drewN | apply IsS62P.drew | apply IsS62P.set_0 | apply IsS62P.set_1 | apply IsS62P.set_2 | apply IsS62P.set_3 | apply IsS62P.set_4 | apply IsS62P.set_5 | apply IsS62P.set_6 | apply IsS62P.set_7) | exact HI365.out)) A19.out).mono ?_
                (case side1 => repeat (first | (with_reducible first | exact HI355.out | apply IsS60P.alloc | apply IsS60P.drewN | apply IsS60P.drew | apply IsS60P.set_0 | apply IsS60P.set_1 | apply IsS60P.set_2 | apply IsS60P.set_3 | apply IsS60P.set_4 | apply IsS60P.set_5 | apply IsS60P.set_6 | apply IsS60P.set_7) | exact HI355.out))
                (case side2 => repeat (first | (with_reducible first | exact HB.out | apply below_alloc | apply pw_below_drewN | apply below_drew1 | refine below_set ?_ (IsS60P.ge HI355.out) | refine below_set ?_ (IsS62P.ge HI365.out)) | exact HB.out))
                rintro e w36 ⟨S_, rfl, hi, hb, hk⟩
                refine ⟨_, rfl, ?_⟩
                have n0_ := Aside0.mk hk
                have n1_ := Aside0.mk (hb)
                have n2_ := Aside0.mk (hi)
                clear HI365
                clear HB
                clear HI355
                have HI365 := n0_
                have HB := n1_
                have HI355 := n2_
                clear n0_ n1_ n2_
                (try clear hb)
                (try clear hb2)
                (try clear hk)
                (try clear hi)
                refine hK.out _ _ ⟨((HB.out.cell (World.block_lt_of_cell? w _ hw368_0)).trans hw368_0), ((HB.out.cell (World.block_lt_of_cell? w _ hw368_1)).trans hw368_1), ((HB.out.cell (World.block_lt_of_cell? w _ hw369_0)).trans hw369_0), ((HB.out.cell (World.block_lt_of_cell? w _ hw369_1)).trans hw369_1), ((HB.out.cell (World.block_lt_of_cell? w _ hw379_0)).trans hw379_0), ((HB.out.cell (World.block_lt_of_cell? w _ hw379_1)).trans hw379_1), ((HB.out.cell (World.block_lt_of_cell? w _ hw380_0)).trans hw380_0), ((HB.out.cell (World.block_lt_of_cell? w _ hw380_1)).trans hw380_1)⟩ (fun hHeld => ?_)
                clear hK K
                refine norm_ (a' := ?_) ?_ ?_
                rotate_left
                ·show Act.put _ (some 59) _ = _
                 simp only [puts_]
                 rfl
                refine one_ (i := 23) (N := some 71) (bl 39 16777215) rfl rfl (one_of HT_.out (by kernel_rfl)) (by decide) (fun K hK => ?_)
                refine goes_ Try.func17 (by kernel_rfl) rfl #[.pointer (some ⟨g365, 0, none⟩), .int .i64 ((rd_T36 l2 x11_2).f0), .int .i64 ((rd_T36 l2 x11_2).f1)] (by rfl) rfl rfl (by (try simp only [List.map_toArray, List.map_cons, List.map_nil]); first | done | rfl | (simp only [List.length_drop, List.length_take]; rfl)) ?_
                with_reducible refine (flywheelref17_Trend_Add.callsJ (S := S_) kj12 g365 x366000_2 x366001_2 x366002_2 x366003_2 x366004_2 x366005_2 x366006_2 x366007_2 ((rd_T36 l2 x11_2).f0) ((rd_T36 l2 x11_2).f1) t381 t382 t383 t384 t385 t386 t387 t388 t389 w _ ?side1 ?side2 (show IsS60P S_ w _ g355 _ _ _ _ _ _ _ _ from by repeat (first | (with_reducible first | exact HI355.out | apply IsS60P.alloc | apply IsS60P.drewN | apply IsS60P.drew | apply IsS60P.set_0 | apply IsS60P.set_1 | apply IsS60P.set_2 | apply IsS60P.set_3 | apply IsS60P.set_4 | apply IsS60P.set_5 | apply IsS60P.set_6 | apply IsS60P.set_7) | exact HI355.out)) A20.out).mono ?_
                (case side1 => repeat (first | (with_reducible first | exact HI365.out | apply IsS62P.alloc | apply IsS62P.drewN | apply IsS62P.drew | apply IsS62P.set_0 | apply IsS62P.set_1 | apply IsS62P.set_2 | apply IsS62P.set_3 | apply IsS62P.set_4 | apply IsS62P.set_5 | apply IsS62P.set_6 | apply IsS62P.set_7) | exact HI365.out))
                (case side2 => repeat (first | (with_reducible first | exact HB.out | apply below_alloc | apply pw_below_drewN | apply below_drew1 | refine below_set ?_ (IsS60P.ge HI355.out) | refine below_set ?_ (IsS62P.ge HI365.out)) | exact HB.out))
                rintro e w37 ⟨S_, rfl, hi, hb, hk⟩
                refine ⟨_, rfl, ?_⟩
                have n0_ := Aside0.mk hk
                have n1_ := Aside0.mk (hb)
                have n2_ := Aside0.mk (hi)
                clear HI355
                clear HB
                clear HI365
                have HI355 := n0_
                have HB := n1_
                have HI365 := n2_
                clear n0_ n1_ n2_
                (try clear hb)
                (try clear hb2)
                (try clear hk)
                (try clear hi)
                refine hK.out _ _ ⟨((HB.out.cell (World.block_lt_of_cell? w _ hw368_0)).trans hw368_0), ((HB.out.cell (World.block_lt_of_cell? w _ hw368_1)).trans hw368_1), ((HB.out.cell (World.block_lt_of_cell? w _ hw369_0)).trans hw369_0), ((HB.out.cell (World.block_lt_of_cell? w _ hw369_1)).trans hw369_1), ((HB.out.cell (World.block_lt_of_cell? w _ hw379_0)).trans hw379_0), ((HB.out.cell (World.block_lt_of_cell? w _ hw379_1)).trans hw379_1), ((HB.out.cell (World.block_lt_of_cell? w _ hw380_0)).trans hw380_0), ((HB.out.cell (World.block_lt_of_cell? w _ hw380_1)).trans hw380_1)⟩ (fun hHeld => ?_)
                clear hK K
                refine norm_ (a' := ?_) ?_ ?_
                rotate_left
                ·show Act.put _ (some 71) _ = _
                 simp only [puts_]
                 rfl
                refine pure_ (i := 24) (N := some 72) (v := ?_) (a' := ?_) (bl 39 33554431) rfl rfl (any_of HT_.out (by kernel_rfl)) (fun _ _ _ h => h) (Or.inl ⟨by rfl, ?_⟩) ?_ ?_
                rotate_left
                ·intro w'
                 go_simp
                 with_reducible rfl
                rotate_left
                ·simp only [puts_]
                 rfl
                refine pure_ (i := 25) (N := some 73) (v := ?_) (a' := ?_) (bl 39 67108863) rfl rfl (any_of HT_.out (by kernel_rfl)) (fun _ _ _ h => h) (Or.inl ⟨by rfl, ?_⟩) ?_ ?_
                rotate_left
                ·intro w'
                 go_simp
                 with_reducible rfl
                rotate_left
                ·simp only [puts_]
                 rfl
                refine pure_ (i := 26) (N := some 74) (v := ?_) (a' := ?_) (bl 39 134217727) rfl rfl (any_of HT_.out (by kernel_rfl)) (fun _ _ _ h => h) (Or.inl ⟨by rfl, ?_⟩) ?_ ?_
                rotate_left
                ·intro w'
                 go_simp
                 with_reducible rfl
                rotate_left
                ·simp only [puts_]
                 rfl
                refine pure_ (i := 28) (N := some 76) (v := ?_) (a' := ?_) (bl 39 402653183) rfl rfl (any_of HT_.out (by kernel_rfl)) (fun _ _ _ h => h) (Or.inl ⟨by rfl, ?_⟩) ?_ ?_
                rotate_left
                ·intro w'
                 go_simp
                 with_reducible rfl
                rotate_left
                ·simp only [puts_]
                 rfl
                refine one_ (i := 27) (N := some 75) (bl 39 536870911) rfl rfl (one_of HT_.out (by kernel_rfl)) (by decide) (fun K hK => ?_)
                refine goes_ Try.func18 (by kernel_rfl) rfl #[.pointer (some ⟨g355, 0, none⟩)] (by rfl) rfl rfl (by (try simp only [List.map_toArray, List.map_cons, List.map_nil]); first | done | rfl | (simp only [List.length_drop, List.length_take]; rfl)) ?_
                with_reducible refine (trend_Trend_Slope.callsJ (S := S_) kj12 g355 t371 t372 t373 t374 t375 t376 t377 t378 t390 t391 t392 t393 t394 t395 t396 t397 t398 w _ ?side1 ?side2 (show IsS62P (fun k_ => ¬ S_ k_) w _ g365 _ _ _ _ _ _ _ _ from by repeat (first | (with_reducible first | exact HI365.out | apply IsS62P.alloc | apply IsS62P.drewN | apply IsS62P.drew | apply IsS62P.set_0 | apply IsS62P.set_1 | apply IsS62P.set_2 | apply IsS62P.set_3 | apply IsS62P.set_4 | apply IsS62P.set_5 | apply IsS62P.set_6 | apply IsS62P.set_7) | exact HI365.out)) A22.out).mono ?_
                (case side1 => repeat (first | (with_reducible first | exact HI355.out | apply IsS60P.alloc | apply IsS60P.drewN | apply IsS60P.drew | apply IsS60P.set_0 | apply IsS60P.set_1 | apply IsS60P.set_2 | apply IsS60P.set_3 | apply IsS60P.set_4 | apply IsS60P.set_5 | apply IsS60P.set_6 | apply IsS60P.set_7) | exact HI355.out))
                (case side2 => repeat (first | (with_reducible first | exact HB.out | apply below_alloc | apply pw_below_drewN | apply below_drew1 | refine below_set ?_ (IsS60P.ge HI355.out) | refine below_set ?_ (IsS62P.ge HI365.out)) | exact HB.out))
                rintro e w38 ⟨S_, rfl, hi, hb, hk⟩
                refine ⟨_, rfl, ?_⟩
                have n0_ := Aside0.mk hk
                have n1_ := Aside0.mk (hb)
                have n2_ := Aside0.mk (hi)
                clear HI365
                clear HB
                clear HI355
                have HI365 := n0_
                have HB := n1_
                have HI355 := n2_
                clear n0_ n1_ n2_
                (try clear hb)
                (try clear hb2)
                (try clear hk)
                (try clear hi)
                refine hK.out _ _ ⟨((HB.out.cell (World.block_lt_of_cell? w _ hw368_0)).trans hw368_0), ((HB.out.cell (World.block_lt_of_cell? w _ hw368_1)).trans hw368_1), ((HB.out.cell (World.block_lt_of_cell? w _ hw369_0)).trans hw369_0), ((HB.out.cell (World.block_lt_of_cell? w _ hw369_1)).trans hw369_1), ((HB.out.cell (World.block_lt_of_cell? w _ hw379_0)).trans hw379_0), ((HB.out.cell (World.block_lt_of_cell? w _ hw379_1)).trans hw379_1), ((HB.out.cell (World.block_lt_of_cell? w _ hw380_0)).trans hw380_0), ((HB.out.cell (World.block_lt_of_cell? w _ hw380_1)).trans hw380_1)⟩ (fun hHeld => ?_)
                clear hK K
                refine norm_ (a' := ?_) ?_ ?_
                rotate_left
                ·show Act.put _ (some 75) _ = _
                 simp only [puts_]
                 rfl
                refine one_ (i := 29) (N := some 77) (bl 39 1073741823) rfl rfl (one_of HT_.out (by kernel_rfl)) (by decide) (fun K hK => ?_)
                refine goes_ Try.func19 (by kernel_rfl) rfl #[.pointer (some ⟨g365, 0, none⟩)] (by rfl) rfl rfl (by (try simp only [List.map_toArray, List.map_cons, List.map_nil]); first | done | rfl | (simp only [List.length_drop, List.length_take]; rfl)) ?_
                with_reducible refine (flywheelref17_Trend_Slope.callsJ (S := S_) kj12 g365 t382 t383 t384 t385 t386 t387 t388 t389 t399 t400 t401 t402 t403 t404 t405 t406 t407 w _ ?side1 ?side2 (show IsS60P S_ w _ g355 _ _ _ _ _ _ _ _ from by repeat (first | (with_reducible first | exact HI355.out | apply IsS60P.alloc | apply IsS60P.drewN | apply IsS60P.drew | apply IsS60P.set_0 | apply IsS60P.set_1 | apply IsS60P.set_2 | apply IsS60P.set_3 | apply IsS60P.set_4 | apply IsS60P.set_5 | apply IsS60P.set_6 | apply IsS60P.set_7) | exact HI355.out)) A23.out).mono ?_
                (case side1 => repeat (first | (with_reducible first | exact HI365.out | apply IsS62P.alloc | apply IsS62P.drewN | apply IsS62P.drew | apply IsS62P.set_0 | apply IsS62P.set_1 | apply IsS62P.set_2 | apply IsS62P.set_3 | apply IsS62P.set_4 | apply IsS62P.set_5 | apply IsS62P.set_6 | apply IsS62P.set_7) | exact HI365.out))
                (case side2 => repeat (first | (with_reducible first | exact HB.out | apply below_alloc | apply pw_below_drewN | apply below_drew1 | refine below_set ?_ (IsS60P.ge HI355.out) | refine below_set ?_ (IsS62P.ge HI365.out)) | exact HB.out))
                rintro e w39 ⟨S_, rfl, hi, hb, hk⟩
                refine ⟨_, rfl, ?_⟩
                have n0_ := Aside0.mk hk
                have n1_ := Aside0.mk (hb)
                have n2_ := Aside0.mk (hi)
                clear HI355
                clear HB
                clear HI365
                have HI355 := n0_
                have HB := n1_
                have HI365 := n2_
                clear n0_ n1_ n2_
                (try clear hb)
                (try clear hb2)
                (try clear hk)
                (try clear hi)
                refine hK.out _ _ ⟨((HB.out.cell (World.block_lt_of_cell? w _ hw368_0)).trans hw368_0), ((HB.out.cell (World.block_lt_of_cell? w _ hw368_1)).trans hw368_1), ((HB.out.cell (World.block_lt_of_cell? w _ hw369_0)).trans hw369_0), ((HB.out.cell (World.block_lt_of_cell? w _ hw369_1)).trans hw369_1), ((HB.out.cell (World.block_lt_of_cell? w _ hw379_0)).trans hw379_0), ((HB.out.cell (World.block_lt_of_cell? w _ hw379_1)).trans hw379_1), ((HB.out.cell (World.block_lt_of_cell? w _ hw380_0)).trans hw380_0), ((HB.out.cell (World.block_lt_of_cell? w _ hw380_1)).trans hw380_1)⟩ (fun hHeld => ?_)
                clear hK K
                refine norm_ (a' := ?_) ?_ ?_
                rotate_left
                ·show Act.put _ (some 77) _ = _
                 simp only [puts_]
                 rfl
                refine pure_ (i := 30) (N := some 78) (v := ?_) (a' := ?_) (bl 39 2147483647) rfl rfl (any_of HT_.out (by kernel_rfl)) (fun _ _ _ h => h) (Or.inl ⟨by rfl, ?_⟩) ?_ ?_
                rotate_left
                ·intro w'
                 go_simp
                 with_reducible rfl
                rotate_left
                ·simp only [puts_]
                 rfl
                refine pure_ (i := 31) (N := some 79) (v := ?_) (a' := ?_) (bl 39 4294967295) rfl rfl (any_of HT_.out (by kernel_rfl)) (fun _ _ _ h => h) (Or.inl ⟨by rfl, ?_⟩) ?_ ?_
                rotate_left
                ·intro w'
                 go_simp
                 with_reducible rfl
                rotate_left
                ·simp only [puts_]
                 rfl
                refine pure_ (i := 32) (N := some 80) (v := ?_) (a' := ?_) (bl 39 8589934591) rfl rfl (any_of HT_.out (by kernel_rfl)) (fun _ _ _ h => h) (Or.inl ⟨by rfl, ?_⟩) ?_ ?_
                rotate_left
                ·intro w'
                 go_simp
                 with_reducible rfl
                rotate_left
                ·simp only [puts_]
                 rfl
                refine pure_ (i := 33) (N := some 81) (v := ?_) (a' := ?_) (bl 39 17179869183) rfl rfl (any_of HT_.out (by kernel_rfl)) (fun _ _ _ h => h) (Or.inl ⟨by rfl, ?_⟩) ?_ ?_
                rotate_left
                ·intro w'
                 go_simp
                 with_reducible rfl
                rotate_left
                ·simp only [puts_]
                 rfl
                refine pure_ (i := 35) (N := some 83) (v := ?_) (a' := ?_) (bl 39 51539607551) rfl rfl (any_of HT_.out (by kernel_rfl)) (fun _ _ _ h => h) (Or.inl ⟨by rfl, ?_⟩) ?_ ?_
                rotate_left
                ·intro w'
                 go_simp
                 with_reducible rfl
                rotate_left
                ·simp only [puts_]
                 rfl
                refine one_ (i := 34) (N := some 82) (bl 39 68719476735) rfl rfl (one_of HT_.out (by kernel_rfl)) (by decide) (fun K hK => ?_)
                refine goes_ Try.func20 (by kernel_rfl) rfl #[.pointer (some ⟨g355, 0, none⟩)] (by rfl) rfl rfl (by (try simp only [List.map_toArray, List.map_cons, List.map_nil]); first | done | rfl | (simp only [List.length_drop, List.length_take]; rfl)) ?_
                with_reducible refine (trend_Trend_Count.callsJ (S := S_) g355 t391 t392 t393 t394 t395 t396 t397 t398 t408 t409 t410 t411 t412 t413 t414 t415 t416 w _ ?side1 ?side2 (show IsS62P (fun k_ => ¬ S_ k_) w _ g365 _ _ _ _ _ _ _ _ from by repeat (first | (with_reducible first | exact HI365.out | apply IsS62P.alloc | apply IsS62P.drewN | apply IsS62P.drew | apply IsS62P.set_0 | apply IsS62P.set_1 | apply IsS62P.set_2 | apply IsS62P.set_3 | apply IsS62P.set_4 | apply IsS62P.set_5 | apply IsS62P.set_6 | apply IsS62P.set_7) | exact HI365.out)) A25.out).mono ?_
                (case side1 => repeat (first | (with_reducible first | exact HI355.out | apply IsS60P.alloc | apply IsS60P.drewN | apply IsS60P.drew | apply IsS60P.set_0 | apply IsS60P.set_1 | apply IsS60P.set_2 | apply IsS60P.set_3 | apply IsS60P.set_4 | apply IsS60P.set_5 | apply IsS60P.set_6 | apply IsS60P.set_7) | exact HI355.out))
                (case side2 => repeat (first | (with_reducible first | exact HB.out | apply below_alloc | apply pw_below_drewN | apply below_drew1 | refine below_set ?_ (IsS60P.ge HI355.out) | refine below_set ?_ (IsS62P.ge HI365.out)) | exact HB.out))
                rintro e w40 ⟨S_, rfl, hi, hb, hk⟩
                refine ⟨_, rfl, ?_⟩
                have n0_ := Aside0.mk hk
                have n1_ := Aside0.mk (hb)
                have n2_ := Aside0.mk (hi)
                clear HI365
                clear HB
                clear HI355
                have HI365 := n0_
                have HB := n1_
                have HI355 := n2_
                clear n0_ n1_ n2_
                (try clear hb)
                (try clear hb2)
                (try clear hk)
                (try clear hi)
                refine hK.out _ _ ⟨((HB.out.cell (World.block_lt_of_cell? w _ hw368_0)).trans hw368_0), ((HB.out.cell (World.block_lt_of_cell? w _ hw368_1)).trans hw368_1), ((HB.out.cell (World.block_lt_of_cell? w _ hw369_0)).trans hw369_0), ((HB.out.cell (World.block_lt_of_cell? w _ hw369_1)).trans hw369_1), ((HB.out.cell (World.block_lt_of_cell? w _ hw379_0)).trans hw379_0), ((HB.out.cell (World.block_lt_of_cell? w _ hw379_1)).trans hw379_1), ((HB.out.cell (World.block_lt_of_cell? w _ hw380_0)).trans hw380_0), ((HB.out.cell (World.block_lt_of_cell? w _ hw380_1)).trans hw380_1)⟩ (fun hHeld => ?_)
                clear hK K
                refine norm_ (a' := ?_) ?_ ?_
                rotate_left
                ·show Act.put _ (some 82) _ = _
                 simp only [puts_]
                 rfl
                refine one_ (i := 36) (N := some 84) (bl 39 137438953471) rfl rfl (one_of HT_.out (by kernel_rfl)) (by decide) (fun K hK => ?_)
                refine goes_ Try.func21 (by kernel_rfl) rfl #[.pointer (some ⟨g365, 0, none⟩)] (by rfl) rfl rfl (by (try simp only [List.map_toArray, List.map_cons, List.map_nil]); first | done | rfl | (simp only [List.length_drop, List.length_take]; rfl)) ?_
                with_reducible refine (flywheelref17_Trend_Count.callsJ (S := S_) g365 t400 t401 t402 t403 t404 t405 t406 t407 t417 t418 t419 t420 t421 t422 t423 t424 t425 w _ ?side1 ?side2 (show IsS60P S_ w _ g355 _ _ _ _ _ _ _ _ from by repeat (first | (with_reducible first | exact HI355.out | apply IsS60P.alloc | apply IsS60P.drewN | apply IsS60P.drew | apply IsS60P.set_0 | apply IsS60P.set_1 | apply IsS60P.set_2 | apply IsS60P.set_3 | apply IsS60P.set_4 | apply IsS60P.set_5 | apply IsS60P.set_6 | apply IsS60P.set_7) | exact HI355.out)) A26.out).mono ?_
                (case side1 => repeat (first | (with_reducible first | exact HI365.out | apply IsS62P.alloc | apply IsS62P.drewN | apply IsS62P.drew | apply IsS62P.set_0 | apply IsS62P.set_1 | apply IsS62P.set_2 | apply IsS62P.set_3 | apply IsS62P.set_4 | apply IsS62P.set_5 | apply IsS62P.set_6 | apply IsS62P.set_7) | exact HI365.out))
                (case side2 => repeat (first | (with_reducible first | exact HB.out | apply below_alloc | apply pw_below_drewN | apply below_drew1 | refine below_set ?_ (IsS60P.ge HI355.out) | refine below_set ?_ (IsS62P.ge HI365.out)) | exact HB.out))
                rintro e w41 ⟨S_, rfl, hi, hb, hk⟩
                refine ⟨_, rfl, ?_⟩
                have n0_ := Aside0.mk hk
                have n1_ := Aside0.mk (hb)
                have n2_ := Aside0.mk (hi)
                clear HI355
                clear HB
                clear HI365
                have HI355 := n0_
                have HB := n1_
                have HI365 := n2_
                clear n0_ n1_ n2_
                (try clear hb)
                (try clear hb2)
                (try clear hk)
                (try clear hi)
                refine hK.out _ _ ⟨((HB.out.cell (World.block_lt_of_cell? w _ hw368_0)).trans hw368_0), ((HB.out.cell (World.block_lt_of_cell? w _ hw368_1)).trans hw368_1), ((HB.out.cell (World.block_lt_of_cell? w _ hw369_0)).trans hw369_0), ((HB.out.cell (World.block_lt_of_cell? w _ hw369_1)).trans hw369_1), ((HB.out.cell (World.block_lt_of_cell? w _ hw379_0)).trans hw379_0), ((HB.out.cell (World.block_lt_of_cell? w _ hw379_1)).trans hw379_1), ((HB.out.cell (World.block_lt_of_cell? w _ hw380_0)).trans hw380_0), ((HB.out.cell (World.block_lt_of_cell? w _ hw380_1)).trans hw380_1)⟩ (fun hHeld => ?_)
                clear hK K
                refine norm_ (a' := ?_) ?_ ?_
                rotate_left
                ·show Act.put _ (some 84) _ = _
                 simp only [puts_]
                 rfl
                refine pure_ (i := 37) (N := some 85) (v := ?_) (a' := ?_) (bl 39 274877906943) rfl rfl (any_of HT_.out (by kernel_rfl)) (fun _ _ _ h => h) (Or.inl ⟨by rfl, ?_⟩) ?_ ?_
                rotate_left
                ·intro w'
                 go_simp
                 with_reducible rfl
                rotate_left
                ·simp only [puts_]
                 rfl
                refine pure_ (i := 38) (N := some 86) (v := ?_) (a' := ?_) (bl 39 549755813887) rfl rfl (any_of HT_.out (by kernel_rfl)) (fun _ _ _ h => h) (Or.inl ⟨by rfl, ?_⟩) ?_ ?_
                rotate_left
                ·intro w'
                 go_simp
                 with_reducible rfl
                rotate_left
                ·simp only [puts_]
                 rfl
                refine done_ (done_of HT_.out (by kernel_rfl)) ?_
                try go_wp2
                go_ret
                exact ⟨by first | rfl | (simp [errW_none, errW_some] <;> rfl) | (simp [*, errW_none, errW_some] <;> rfl), by repeat (first | (with_reducible first | exact HB.out | apply below_alloc | apply pw_below_drewN | apply below_drew1 | refine below_set ?_ (IsS60P.ge HI355.out) | refine below_set ?_ (IsS62P.ge HI365.out)) | exact HB.out)⟩
              ·rw [if_neg c24] at H
               have c24b0 : (t390 == t399) = false := beq_eq_false_iff_ne.mpr c24
               have c24b1 : (t390 != t399) = true := bne_iff_ne.mpr c24
               obtain rfl := Option.some.inj H
               try go_wp2
               have n0_ := Aside0.mk (IsS60P.drew HI355.out)
               have n1_ := Aside0.mk (IsS62P.drew HI365.out)
               have n2_ := Aside0.mk (below_drew1 HB.out)
               clear HI355
               clear HI365
               clear HB
               have HI355 := n0_
               have HI365 := n1_
               have HB := n2_
               clear n0_ n1_ n2_
               have p368 : 0 ≤ (x11_2 : Int) := of_decide_eq_true (by first | (with_reducible assumption) | assumption)
               have q368 : x11_2 < (l2.length : Int) := of_decide_eq_true (by first | (with_reducible assumption) | assumption)
               obtain ⟨ad368, e368, hx368_0, hx368_1⟩ := at_T36 HR2.out x11_2 p368 q368
               have hw368_1 := hx368_1
               have hw368_0 := hx368_0
               cases e368
               replace hx368_0 := (HB.out.cell (World.block_lt_of_cell? w _ hx368_0)).trans hx368_0
               replace hx368_1 := (HB.out.cell (World.block_lt_of_cell? w _ hx368_1)).trans hx368_1
               replace p368 := eq_true p368
               replace q368 := eq_true q368
               have p369 : 0 ≤ (x11_2 : Int) := of_decide_eq_true (by first | (with_reducible assumption) | assumption)
               have q369 : x11_2 < (l2.length : Int) := of_decide_eq_true (by first | (with_reducible assumption) | assumption)
               obtain ⟨ad369, e369, hx369_0, hx369_1⟩ := at_T36 HR2.out x11_2 p369 q369
               have hw369_1 := hx369_1
               have hw369_0 := hx369_0
               obtain rfl : ad368 = ad369 := (by injection e369)
               replace hx369_0 := (HB.out.cell (World.block_lt_of_cell? w _ hx369_0)).trans hx369_0
               replace hx369_1 := (HB.out.cell (World.block_lt_of_cell? w _ hx369_1)).trans hx369_1
               replace p369 := eq_true p369
               replace q369 := eq_true q369
               have p379 : 0 ≤ (x11_2 : Int) := of_decide_eq_true (by first | (with_reducible assumption) | assumption)
               have q379 : x11_2 < (l2.length : Int) := of_decide_eq_true (by first | (with_reducible assumption) | assumption)
               obtain ⟨ad379, e379, hx379_0, hx379_1⟩ := at_T36 HR2.out x11_2 p379 q379
               have hw379_1 := hx379_1
               have hw379_0 := hx379_0
               obtain rfl : ad368 = ad379 := (by injection e379)
               replace hx379_0 := (HB.out.cell (World.block_lt_of_cell? w _ hx379_0)).trans hx379_0
               replace hx379_1 := (HB.out.cell (World.block_lt_of_cell? w _ hx379_1)).trans hx379_1
               replace p379 := eq_true p379
               replace q379 := eq_true q379
               have p380 : 0 ≤ (x11_2 : Int) := of_decide_eq_true (by first | (with_reducible assumption) | assumption)
               have q380 : x11_2 < (l2.length : Int) := of_decide_eq_true (by first | (with_reducible assumption) | assumption)
               obtain ⟨ad380, e380, hx380_0, hx380_1⟩ := at_T36 HR2.out x11_2 p380 q380
               have hw380_1 := hx380_1
               have hw380_0 := hx380_0
               obtain rfl : ad368 = ad380 := (by injection e380)
               replace hx380_0 := (HB.out.cell (World.block_lt_of_cell? w _ hx380_0)).trans hx380_0
               replace hx380_1 := (HB.out.cell (World.block_lt_of_cell? w _ hx380_1)).trans hx380_1
               replace p380 := eq_true p380
               replace q380 := eq_true q380
               refine start_ (n := 39) (S := fun w' => w'.cell? (ad368.add ((x11_2).toNat * 2)) = some (.int .i64 ((rd_T36 l2 x11_2).f0)) ∧ w'.cell? ⟨(ad368.add ((x11_2).toNat * 2)).block, (ad368.add ((x11_2).toNat * 2)).off + 1, none⟩ = some (.int .i64 ((rd_T36 l2 x11_2).f1)) ∧ w'.cell? (ad368.add ((x11_2).toNat * 2)) = some (.int .i64 ((rd_T36 l2 x11_2).f0)) ∧ w'.cell? ⟨(ad368.add ((x11_2).toNat * 2)).block, (ad368.add ((x11_2).toNat * 2)).off + 1, none⟩ = some (.int .i64 ((rd_T36 l2 x11_2).f1)) ∧ w'.cell? (ad368.add ((x11_2).toNat * 2)) = some (.int .i64 ((rd_T36 l2 x11_2).f0)) ∧ w'.cell? ⟨(ad368.add ((x11_2).toNat * 2)).block, (ad368.add ((x11_2).toNat * 2)).off + 1, none⟩ = some (.int .i64 ((rd_T36 l2 x11_2).f1)) ∧ w'.cell? (ad368.add ((x11_2).toNat * 2)) = some (.int .i64 ((rd_T36 l2 x11_2).f0)) ∧ w'.cell? ⟨(ad368.add ((x11_2).toNat * 2)).block, (ad368.add ((x11_2).toNat * 2)).off + 1, none⟩ = some (.int .i64 ((rd_T36 l2 x11_2).f1))) (ds := []) #[false, false, false, false, false, false, false, false, false, false, false, false, false, false, false, false, false, false, false, false, false, false, false, false, false, false, false, false, false, false, false, false, false, false, false, false, false, false, false] (by kernel_rfl) rfl rfl ⟨((HB.out.cell (World.block_lt_of_cell? w _ hw368_0)).trans hw368_0), ((HB.out.cell (World.block_lt_of_cell? w _ hw368_1)).trans hw368_1), ((HB.out.cell (World.block_lt_of_cell? w _ hw369_0)).trans hw369_0), ((HB.out.cell (World.block_lt_of_cell? w _ hw369_1)).trans hw369_1), ((HB.out.cell (World.block_lt_of_cell? w _ hw379_0)).trans hw379_0), ((HB.out.cell (World.block_lt_of_cell? w _ hw379_1)).trans hw379_1), ((HB.out.cell (World.block_lt_of_cell? w _ hw380_0)).trans hw380_0), ((HB.out.cell (World.block_lt_of_cell? w _ hw380_1)).trans hw380_1)⟩ (fun hHeld => ?_); refine with_tabW flywheellaw17_TrendPlays.tab8 flywheellaw17_TrendPlays.bits8 (fun HT_ HW_ => ?_)
               generalize wc.drew = w42 at HI355 HI365 HB hx368_0 hx368_1 hx369_0 hx369_1 hx379_0 hx379_1 hx380_0 hx380_1 hHeld ⊢
               refine pure_ (i := 0) (N := some 48) (v := ?_) (a' := ?_) (bl 39 1) rfl rfl (any_of HT_.out (by kernel_rfl)) (fun _ _ _ h => h) (Or.inl ⟨by rfl, ?_⟩) ?_ ?_
               rotate_left
               ·intro w'
                go_simp
                with_reducible rfl
               rotate_left
               ·simp only [puts_]
                rfl
               refine pure_ (i := 1) (N := some 49) (v := ?_) (a' := ?_) (bl 39 3) rfl rfl (any_of HT_.out (by kernel_rfl)) (fun _ _ _ h => h) (Or.inl ⟨by rfl, ?_⟩) ?_ ?_
               rotate_left
               ·intro w'
                go_simp
                with_reducible rfl
               rotate_left
               ·simp only [puts_]
                rfl
               refine pure_ (i := 2) (N := some 50) (v := ?_) (a' := ?_) (bl 39 7) rfl rfl (any_of HT_.out (by kernel_rfl)) (fun _ _ _ h => h) (Or.inl ⟨by rfl, ?_⟩) ?_ ?_
               rotate_left
               ·intro w'
                go_simp
                with_reducible rfl
               rotate_left
               ·simp only [puts_]
                rfl
               refine pure_ (i := 3) (N := some 51) (v := ?_) (a' := ?_) (bl 39 15) rfl rfl (any_of HT_.out (by kernel_rfl)) (fun _ _ _ h => h) (Or.inl ⟨by rfl, ?_⟩) ?_ ?_
               rotate_left
               ·intro w'
                go_simp
                with_reducible rfl
               rotate_left
               ·simp only [puts_]
                rfl
               refine pure_ (i := 4) (N := some 52) (v := ?_) (a' := ?_) (bl 39 31) rfl rfl (any_of HT_.out (by kernel_rfl)) (fun _ _ _ h => h) (Or.inl ⟨by rfl, ?_⟩) ?_ ?_
               rotate_left
               ·intro w'
                go_simp
                with_reducible rfl
               rotate_left
               ·simp only [puts_]
                rfl
               refine pure_ (i := 6) (N := some 54) (v := ?_) (a' := ?_) (bl 39 95) rfl rfl (any_of HT_.out (by kernel_rfl)) (fun _ _ _ h => h) (Or.inl ⟨by rfl, ?_⟩) ?_ ?_
               rotate_left
               ·intro w'
                go_simp
                with_reducible rfl
               rotate_left
               ·simp only [puts_]
                rfl
               refine pure_ (i := 7) (N := some 55) (v := ?_) (a' := ?_) (bl 39 223) rfl rfl (any_of HT_.out (by kernel_rfl)) (fun _ _ _ h => h) (Or.inl ⟨by rfl, ?_⟩) ?_ ?_
               rotate_left
               ·intro w'
                go_simp
                with_reducible rfl
               rotate_left
               ·simp only [puts_]
                rfl
               refine pure_ (i := 8) (N := some 56) (v := ?_) (a' := ?_) (bl 39 479) rfl rfl (any_of HT_.out (by kernel_rfl)) (fun _ _ _ h => h) (Or.inl ⟨by rfl, ?_⟩) ?_ ?_
               rotate_left
               ·intro w'
                go_simp
                with_reducible rfl
               rotate_left
               ·simp only [puts_]
                rfl
               refine pure_ (i := 9) (N := some 57) (v := ?_) (a' := ?_) (bl 39 991) rfl rfl (any_of HT_.out (by kernel_rfl)) (fun _ _ _ h => h) (Or.inl ⟨by rfl, ?_⟩) ?_ ?_
               rotate_left
               ·intro w'
                go_simp
                with_reducible rfl
               rotate_left
               ·simp only [puts_]
                rfl
               refine pure_ (i := 12) (N := some 60) (v := ?_) (a' := ?_) (bl 39 5087) rfl rfl (any_of HT_.out (by kernel_rfl)) (fun _ _ _ h => h) (Or.inl ⟨by rfl, ?_⟩) ?_ ?_
               rotate_left
               ·intro w'
                go_simp
                with_reducible rfl
               rotate_left
               ·simp only [puts_]
                rfl
               refine pure_ (i := 13) (N := some 61) (v := ?_) (a' := ?_) (bl 39 13279) rfl rfl (any_of HT_.out (by kernel_rfl)) (fun _ _ _ h => h) (Or.inl ⟨by rfl, ?_⟩) ?_ ?_
               rotate_left
               ·intro w'
                go_simp
                with_reducible rfl
               rotate_left
               ·simp only [puts_]
                rfl
               refine pure_ (i := 14) (N := some 62) (v := ?_) (a' := ?_) (bl 39 29663) rfl rfl (any_of HT_.out (by kernel_rfl)) (fun _ _ _ h => h) (Or.inl ⟨by rfl, ?_⟩) ?_ ?_
               rotate_left
               ·intro w'
                go_simp
                with_reducible rfl
               rotate_left
               ·simp only [puts_]
                rfl
               refine pure_ (i := 15) (N := some 63) (v := ?_) (a' := ?_) (bl 39 62431) rfl rfl (any_of HT_.out (by kernel_rfl)) (fun _ _ _ h => h) (Or.inl ⟨by rfl, ?_⟩) ?_ ?_
               rotate_left
               ·intro w'
                go_simp
                with_reducible rfl
               rotate_left
               ·simp only [puts_]
                rfl
               refine pure_ (i := 16) (N := some 64) (v := ?_) (a' := ?_) (bl 39 127967) rfl rfl (any_of HT_.out (by kernel_rfl)) (fun _ _ _ h => h) (Or.inl ⟨by rfl, ?_⟩) ?_ ?_
               rotate_left
               ·intro w'
                go_simp
                with_reducible rfl
               rotate_left
               ·simp only [puts_]
                rfl
               refine pure_ (i := 18) (N := some 66) (v := ?_) (a' := ?_) (bl 39 390111) rfl rfl (any_of HT_.out (by kernel_rfl)) (fun _ _ _ h => h) (Or.inl ⟨by rfl, ?_⟩) ?_ ?_
               rotate_left
               ·intro w'
                go_simp
                with_reducible rfl
               rotate_left
               ·simp only [puts_]
                rfl
               refine pure_ (i := 19) (N := some 67) (v := ?_) (a' := ?_) (bl 39 914399) rfl rfl (any_of HT_.out (by kernel_rfl)) (fun _ _ _ h => h) (Or.inl ⟨by rfl, ?_⟩) ?_ ?_
               rotate_left
               ·intro w'
                go_simp
                with_reducible rfl
               rotate_left
               ·simp only [puts_]
                rfl
               refine pure_ (i := 20) (N := some 68) (v := ?_) (a' := ?_) (bl 39 1962975) rfl rfl (any_of HT_.out (by kernel_rfl)) (fun _ _ _ h => h) (Or.inl ⟨by rfl, ?_⟩) ?_ ?_
               rotate_left
               ·intro w'
                go_simp
                with_reducible rfl
               rotate_left
               ·simp only [puts_]
                rfl
               refine pure_ (i := 21) (N := some 69) (v := ?_) (a' := ?_) (bl 39 4060127) rfl rfl (any_of HT_.out (by kernel_rfl)) (fun _ _ _ h => h) (Or.inl ⟨by rfl, ?_⟩) ?_ ?_
               rotate_left
               ·intro w'
                go_simp
                with_reducible rfl
               rotate_left
               ·simp only [puts_]
                rfl
               refine take_ (i := 5) (N := some 53) (v := ?_) (a' := ?_) (bl 39 4060159) rfl rfl (take_ofW HT_.out HW_.out (by kernel_rfl)) (fun _ _ _ h => h) (Or.inl ⟨by rfl, ?_⟩) hHeld ?_ ?_
               rotate_left
               ·rintro w' ⟨s0, s1, s2, s3, s4, s5, s6, s7⟩
                go_simp
                with_reducible rfl
               rotate_left
               ·simp only [puts_]
                rfl
               refine take_ (i := 10) (N := some 58) (v := ?_) (a' := ?_) (bl 39 4061183) rfl rfl (take_ofW HT_.out HW_.out (by kernel_rfl)) (fun _ _ _ h => h) (Or.inl ⟨by rfl, ?_⟩) hHeld ?_ ?_
               rotate_left
               ·rintro w' ⟨s0, s1, s2, s3, s4, s5, s6, s7⟩
                go_simp
                with_reducible rfl
               rotate_left
               ·simp only [puts_]
                rfl
               refine take_ (i := 17) (N := some 65) (v := ?_) (a' := ?_) (bl 39 4192255) rfl rfl (take_ofW HT_.out HW_.out (by kernel_rfl)) (fun _ _ _ h => h) (Or.inl ⟨by rfl, ?_⟩) hHeld ?_ ?_
               rotate_left
               ·rintro w' ⟨s0, s1, s2, s3, s4, s5, s6, s7⟩
                go_simp
                with_reducible rfl
               rotate_left
               ·simp only [puts_]
                rfl
               refine take_ (i := 22) (N := some 70) (v := ?_) (a' := ?_) (bl 39 8386559) rfl rfl (take_ofW HT_.out HW_.out (by kernel_rfl)) (fun _ _ _ h => h) (Or.inl ⟨by rfl, ?_⟩) hHeld ?_ ?_
               rotate_left
               ·rintro w' ⟨s0, s1, s2, s3, s4, s5, s6, s7⟩
                go_simp
                with_reducible rfl
               rotate_left
               ·simp only [puts_]
                rfl
               refine one_ (i := 11) (N := some 59) (bl 39 8388607) rfl rfl (one_of HT_.out (by kernel_rfl)) (by decide) (fun K hK => ?_)
               refine goes_ Try.func16 (by kernel_rfl) rfl #[.pointer (some ⟨g355, 0, none⟩), .int .i64 ((rd_T36 l2 x11_2).f0), .int .i64 ((rd_T36 l2 x11_2).f1)] (by rfl) rfl rfl (by (try simp only [List.map_toArray, List.map_cons, List.map_nil]); first | done | rfl | (simp only [List.length_drop, List.length_take]; rfl)) ?_
               with_reducible refine (trend_Trend_Add.callsJ (S := S_) kj12 g355 x356000_2 x356001_2 x356002_2 x356003_2 x356004_2 x356005_2 x356006_2 x356007_2 ((rd_T36 l2 x11_2).f0) ((rd_T36 l2 x11_2).f1) t370 t371 t372 t373 t374 t375 t376 t377 t378 w _ ?side1 ?side2 (show IsS62P (fun k_ => ¬ S_ k_) w _ g365 _ _ _ _ _ _ _ _ from by repeat (first | (with_reducible first | exact HI365.out | apply IsS62P.alloc | apply IsS62P.drewN | apply IsS62P.drew | apply IsS62P.set_0 | apply IsS62P.set_1 | apply IsS62P.set_2 | apply IsS62P.set_3 | apply IsS62P.set_4 | apply IsS62P.set_5 | apply IsS62P.set_6 | apply IsS62P.set_7) | exact HI365.out)) A19.out).mono ?_
               (case side1 => repeat (first | (with_reducible first | exact HI355.out | apply IsS60P.alloc | apply IsS60P.drewN | apply IsS60P.drew | apply IsS60P.set_0 | apply IsS60P.set_1 | apply IsS60P.set_2 | apply IsS60P.set_3 | apply IsS60P.set_4 | apply IsS60P.set_5 | apply IsS60P.set_6 | apply IsS60P.set_7) | exact HI355.out))
               (case side2 => repeat (first | (with_reducible first | exact HB.out | apply below_alloc | apply pw_below_drewN | apply below_drew1 | refine below_set ?_ (IsS60P.ge HI355.out) | refine below_set ?_ (IsS62P.ge HI365.out)) | exact HB.out))
               rintro e w43 ⟨S_, rfl, hi, hb, hk⟩
               refine ⟨_, rfl, ?_⟩
               have n0_ := Aside0.mk hk
               have n1_ := Aside0.mk (hb)
               have n2_ := Aside0.mk (hi)
               clear HI365
               clear HB
               clear HI355
               have HI365 := n0_
               have HB := n1_
               have HI355 := n2_
               clear n0_ n1_ n2_
               (try clear hb)
               (try clear hb2)
               (try clear hk)
               (try clear hi)
               refine hK.out _ _ ⟨((HB.out.cell (World.block_lt_of_cell? w _ hw368_0)).trans hw368_0), ((HB.out.cell (World.block_lt_of_cell? w _ hw368_1)).trans hw368_1), ((HB.out.cell (World.block_lt_of_cell? w _ hw369_0)).trans hw369_0), ((HB.out.cell (World.block_lt_of_cell? w _ hw369_1)).trans hw369_1), ((HB.out.cell (World.block_lt_of_cell? w _ hw379_0)).trans hw379_0), ((HB.out.cell (World.block_lt_of_cell? w _ hw379_1)).trans hw379_1), ((HB.out.cell (World.block_lt_of_cell? w _ hw380_0)).trans hw380_0), ((HB.out.cell (World.block_lt_of_cell? w _ hw380_1)).trans hw380_1)⟩ (fun hHeld => ?_)
               clear hK K
               refine norm_ (a' := ?_) ?_ ?_
               rotate_left
               ·show Act.put _ (some 59) _ = _
                simp only [puts_]
                rfl
               refine one_ (i := 23) (N := some 71) (bl 39 16777215) rfl rfl (one_of HT_.out (by kernel_rfl)) (by decide) (fun K hK => ?_)
               refine goes_ Try.func17 (by kernel_rfl) rfl #[.pointer (some ⟨g365, 0, none⟩), .int .i64 ((rd_T36 l2 x11_2).f0), .int .i64 ((rd_T36 l2 x11_2).f1)] (by rfl) rfl rfl (by (try simp only [List.map_toArray, List.map_cons, List.map_nil]); first | done | rfl | (simp only [List.length_drop, List.length_take]; rfl)) ?_
               with_reducible refine (flywheelref17_Trend_Add.callsJ (S := S_) kj12 g365 x366000_2 x366001_2 x366002_2 x366003_2 x366004_2 x366005_2 x366006_2 x366007_2 ((rd_T36 l2 x11_2).f0) ((rd_T36 l2 x11_2).f1) t381 t382 t383 t384 t385 t386 t387 t388 t389 w _ ?side1 ?side2 (show IsS60P S_ w _ g355 _ _ _ _ _ _ _ _ from by repeat (first | (with_reducible first | exact HI355.out | apply IsS60P.alloc | apply IsS60P.drewN | apply IsS60P.drew | apply IsS60P.set_0 | apply IsS60P.set_1 | apply IsS60P.set_2 | apply IsS60P.set_3 | apply IsS60P.set_4 | apply IsS60P.set_5 | apply IsS60P.set_6 | apply IsS60P.set_7) | exact HI355.out)) A20.out).mono ?_
               (case side1 => repeat (first | (with_reducible first | exact HI365.out | apply IsS62P.alloc | apply IsS62P.drewN | apply IsS62P.drew | apply IsS62P.set_0 | apply IsS62P.set_1 | apply IsS62P.set_2 | apply IsS62P.set_3 | apply IsS62P.set_4 | apply IsS62P.set_5 | apply IsS62P.set_6 | apply IsS62P.set_7) | exact HI365.out))
               (case side2 => repeat (first | (with_reducible first | exact HB.out | apply below_alloc | apply pw_below_drewN | apply below_drew1 | refine below_set ?_ (IsS60P.ge HI355.out) | refine below_set ?_ (IsS62P.ge HI365.out)) | exact HB.out))
               rintro e w44 ⟨S_, rfl, hi, hb, hk⟩
               refine ⟨_, rfl, ?_⟩
               have n0_ := Aside0.mk hk
               have n1_ := Aside0.mk (hb)
               have n2_ := Aside0.mk (hi)
               clear HI355
               clear HB
               clear HI365
               have HI355 := n0_
               have HB := n1_
               have HI365 := n2_
               clear n0_ n1_ n2_
               (try clear hb)
               (try clear hb2)
               (try clear hk)
               (try clear hi)
               refine hK.out _ _ ⟨((HB.out.cell (World.block_lt_of_cell? w _ hw368_0)).trans hw368_0), ((HB.out.cell (World.block_lt_of_cell? w _ hw368_1)).trans hw368_1), ((HB.out.cell (World.block_lt_of_cell? w _ hw369_0)).trans hw369_0), ((HB.out.cell (World.block_lt_of_cell? w _ hw369_1)).trans hw369_1), ((HB.out.cell (World.block_lt_of_cell? w _ hw379_0)).trans hw379_0), ((HB.out.cell (World.block_lt_of_cell? w _ hw379_1)).trans hw379_1), ((HB.out.cell (World.block_lt_of_cell? w _ hw380_0)).trans hw380_0), ((HB.out.cell (World.block_lt_of_cell? w _ hw380_1)).trans hw380_1)⟩ (fun hHeld => ?_)
               clear hK K
               refine norm_ (a' := ?_) ?_ ?_
               rotate_left
               ·show Act.put _ (some 71) _ = _
                simp only [puts_]
                rfl
               refine pure_ (i := 24) (N := some 72) (v := ?_) (a' := ?_) (bl 39 33554431) rfl rfl (any_of HT_.out (by kernel_rfl)) (fun _ _ _ h => h) (Or.inl ⟨by rfl, ?_⟩) ?_ ?_
               rotate_left
               ·intro w'
                go_simp
                with_reducible rfl
               rotate_left
               ·simp only [puts_]
                rfl
               refine pure_ (i := 25) (N := some 73) (v := ?_) (a' := ?_) (bl 39 67108863) rfl rfl (any_of HT_.out (by kernel_rfl)) (fun _ _ _ h => h) (Or.inl ⟨by rfl, ?_⟩) ?_ ?_
               rotate_left
               ·intro w'
                go_simp
                with_reducible rfl
               rotate_left
               ·simp only [puts_]
                rfl
               refine pure_ (i := 26) (N := some 74) (v := ?_) (a' := ?_) (bl 39 134217727) rfl rfl (any_of HT_.out (by kernel_rfl)) (fun _ _ _ h => h) (Or.inl ⟨by rfl, ?_⟩) ?_ ?_
               rotate_left
               ·intro w'
                go_simp
                with_reducible rfl
               rotate_left
               ·simp only [puts_]
                rfl
               refine pure_ (i := 28) (N := some 76) (v := ?_) (a' := ?_) (bl 39 402653183) rfl rfl (any_of HT_.out (by kernel_rfl)) (fun _ _ _ h => h) (Or.inl ⟨by rfl, ?_⟩) ?_ ?_
               rotate_left
               ·intro w'
                go_simp
                with_reducible rfl
               rotate_left
               ·simp only [puts_]
                rfl
               refine one_ (i := 27) (N := some 75) (bl 39 536870911) rfl rfl (one_of HT_.out (by kernel_rfl)) (by decide) (fun K hK => ?_)
               refine goes_ Try.func18 (by kernel_rfl) rfl #[.pointer (some ⟨g355, 0, none⟩)] (by rfl) rfl rfl (by (try simp only [List.map_toArray, List.map_cons, List.map_nil]); first | done | rfl | (simp only [List.length_drop, List.length_take]; rfl)) ?_
               with_reducible refine (trend_Trend_Slope.callsJ (S := S_) kj12 g355 t371 t372 t373 t374 t375 t376 t377 t378 t390 t391 t392 t393 t394 t395 t396 t397 t398 w _ ?side1 ?side2 (show IsS62P (fun k_ => ¬ S_ k_) w _ g365 _ _ _ _ _ _ _ _ from by repeat (first | (with_reducible first | exact HI365.out | apply IsS62P.alloc | apply IsS62P.drewN | apply IsS62P.drew | apply IsS62P.set_0 | apply IsS62P.set_1 | apply IsS62P.set_2 | apply IsS62P.set_3 | apply IsS62P.set_4 | apply IsS62P.set_5 | apply IsS62P.set_6 | apply IsS62P.set_7) | exact HI365.out)) A22.out).mono ?_
               (case side1 => repeat (first | (with_reducible first | exact HI355.out | apply IsS60P.alloc | apply IsS60P.drewN | apply IsS60P.drew | apply IsS60P.set_0 | apply IsS60P.set_1 | apply IsS60P.set_2 | apply IsS60P.set_3 | apply IsS60P.set_4 | apply IsS60P.set_5 | apply IsS60P.set_6 | apply IsS60P.set_7) | exact HI355.out))
               (case side2 => repeat (first | (with_reducible first | exact HB.out | apply below_alloc | apply pw_below_drewN | apply below_drew1 | refine below_set ?_ (IsS60P.ge HI355.out) | refine below_set ?_ (IsS62P.ge HI365.out)) | exact HB.out))
               rintro e w45 ⟨S_, rfl, hi, hb, hk⟩
               refine ⟨_, rfl, ?_⟩
               have n0_ := Aside0.mk hk
               have n1_ := Aside0.mk (hb)
               have n2_ := Aside0.mk (hi)
               clear HI365
               clear HB
               clear HI355
               have HI365 := n0_
               have HB := n1_
               have HI355 := n2_
               clear n0_ n1_ n2_
               (try clear hb)
               (try clear hb2)
               (try clear hk)
               (try clear hi)
               refine hK.out _ _ ⟨((HB.out.cell (World.block_lt_of_cell? w _ hw368_0)).trans hw368_0), ((HB.out.cell (World.block_lt_of_cell? w _ hw368_1)).trans hw368_1), ((HB.out.cell (World.block_lt_of_cell? w _ hw369_0)).trans hw369_0), ((HB.out.cell (World.block_lt_of_cell? w _ hw369_1)).trans hw369_1), ((HB.out.cell (World.block_lt_of_cell? w _ hw379_0)).trans hw379_0), ((HB.out.cell (World.block_lt_of_cell? w _ hw379_1)).trans hw379_1), ((HB.out.cell (World.block_lt_of_cell? w _ hw380_0)).trans hw380_0), ((HB.out.cell (World.block_lt_of_cell? w _ hw380_1)).trans hw380_1)⟩ (fun hHeld => ?_)
               clear hK K
               refine norm_ (a' := ?_) ?_ ?_
               rotate_left
               ·show Act.put _ (some 75) _ = _
                simp only [puts_]
                rfl
               refine one_ (i := 29) (N := some 77) (bl 39 1073741823) rfl rfl (one_of HT_.out (by kernel_rfl)) (by decide) (fun K hK => ?_)
               refine goes_ Try.func19 (by kernel_rfl) rfl #[.pointer (some ⟨g365, 0, none⟩)] (by rfl) rfl rfl (by (try simp only [List.map_toArray, List.map_cons, List.map_nil]); first | done | rfl | (simp only [List.length_drop, List.length_take]; rfl)) ?_
               with_reducible refine (flywheelref17_Trend_Slope.callsJ (S := S_) kj12 g365 t382 t383 t384 t385 t386 t387 t388 t389 t399 t400 t401 t402 t403 t404 t405 t406 t407 w _ ?side1 ?side2 (show IsS60P S_ w _ g355 _ _ _ _ _ _ _ _ from by repeat (first | (with_reducible first | exact HI355.out | apply IsS60P.alloc | apply IsS60P.drewN | apply IsS60P.drew | apply IsS60P.set_0 | apply IsS60P.set_1 | apply IsS60P.set_2 | apply IsS60P.set_3 | apply IsS60P.set_4 | apply IsS60P.set_5 | apply IsS60P.set_6 | apply IsS60P.set_7) | exact HI355.out)) A23.out).mono ?_
               (case side1 => repeat (first | (with_reducible first | exact HI365.out | apply IsS62P.alloc | apply IsS62P.drewN | apply IsS62P.drew | apply IsS62P.set_0 | apply IsS62P.set_1 | apply IsS62P.set_2 | apply IsS62P.set_3 | apply IsS62P.set_4 | apply IsS62P.set_5 | apply IsS62P.set_6 | apply IsS62P.set_7) | exact HI365.out))
               (case side2 => repeat (first | (with_reducible first | exact HB.out | apply below_alloc | apply pw_below_drewN | apply below_drew1 | refine below_set ?_ (IsS60P.ge HI355.out) | refine below_set ?_ (IsS62P.ge HI365.out)) | exact HB.out))
               rintro e w46 ⟨S_, rfl, hi, hb, hk⟩
               refine ⟨_, rfl, ?_⟩
               have n0_ := Aside0.mk hk
               have n1_ := Aside0.mk (hb)
               have n2_ := Aside0.mk (hi)
               clear HI355
               clear HB
               clear HI365
               have HI355 := n0_
               have HB := n1_
               have HI365 := n2_
               clear n0_ n1_ n2_
               (try clear hb)
               (try clear hb2)
               (try clear hk)
               (try clear hi)
               refine hK.out _ _ ⟨((HB.out.cell (World.block_lt_of_cell? w _ hw368_0)).trans hw368_0), ((HB.out.cell (World.block_lt_of_cell? w _ hw368_1)).trans hw368_1), ((HB.out.cell (World.block_lt_of_cell? w _ hw369_0)).trans hw369_0), ((HB.out.cell (World.block_lt_of_cell? w _ hw369_1)).trans hw369_1), ((HB.out.cell (World.block_lt_of_cell? w _ hw379_0)).trans hw379_0), ((HB.out.cell (World.block_lt_of_cell? w _ hw379_1)).trans hw379_1), ((HB.out.cell (World.block_lt_of_cell? w _ hw380_0)).trans hw380_0), ((HB.out.cell (World.block_lt_of_cell? w _ hw380_1)).trans hw380_1)⟩ (fun hHeld => ?_)
               clear hK K
               refine norm_ (a' := ?_) ?_ ?_
               rotate_left
               ·show Act.put _ (some 77) _ = _
                simp only [puts_]
                rfl
               refine pure_ (i := 30) (N := some 78) (v := ?_) (a' := ?_) (bl 39 2147483647) rfl rfl (any_of HT_.out (by kernel_rfl)) (fun _ _ _ h => h) (Or.inl ⟨by rfl, ?_⟩) ?_ ?_
               rotate_left
               ·intro w'
                go_simp
                with_reducible rfl
               rotate_left
               ·simp only [puts_]
                rfl
               refine pure_ (i := 31) (N := some 79) (v := ?_) (a' := ?_) (bl 39 4294967295) rfl rfl (any_of HT_.out (by kernel_rfl)) (fun _ _ _ h => h) (Or.inl ⟨by rfl, ?_⟩) ?_ ?_
               rotate_left
               ·intro w'
                go_simp
                with_reducible rfl
               rotate_left
               ·simp only [puts_]
                rfl
               refine pure_ (i := 32) (N := some 80) (v := ?_) (a' := ?_) (bl 39 8589934591) rfl rfl (any_of HT_.out (by kernel_rfl)) (fun _ _ _ h => h) (Or.inl ⟨by rfl, ?_⟩) ?_ ?_
               rotate_left
               ·intro w'
                go_simp
                with_reducible rfl
               rotate_left
               ·simp only [puts_]
                rfl
               refine pure_ (i := 33) (N := some 81) (v := undef) (a' := ?_) (bl 39 17179869183) rfl rfl (any_of HT_.out (by kernel_rfl)) (fun _ _ _ h => h) (Or.inr ⟨by rfl, rfl⟩) ?_ ?_
               rotate_left
               ·simp only [puts_]
                rfl
               refine pure_ (i := 34) (N := some 82) (v := undef) (a' := ?_) (bl 39 34359738367) rfl rfl (any_of HT_.out (by kernel_rfl)) (fun _ _ _ h => h) (Or.inr ⟨by rfl, rfl⟩) ?_ ?_
               rotate_left
               ·simp only [puts_]
                rfl
               refine pure_ (i := 35) (N := some 83) (v := undef) (a' := ?_) (bl 39 68719476735) rfl rfl (any_of HT_.out (by kernel_rfl)) (fun _ _ _ h => h) (Or.inr ⟨by rfl, rfl⟩) ?_ ?_
               rotate_left
               ·simp only [puts_]
                rfl
               refine pure_ (i := 36) (N := some 84) (v := undef) (a' := ?_) (bl 39 137438953471) rfl rfl (any_of HT_.out (by kernel_rfl)) (fun _ _ _ h => h) (Or.inr ⟨by rfl, rfl⟩) ?_ ?_
               rotate_left
               ·simp only [puts_]
                rfl
               refine pure_ (i := 37) (N := some 85) (v := undef) (a' := ?_) (bl 39 274877906943) rfl rfl (any_of HT_.out (by kernel_rfl)) (fun _ _ _ h => h) (Or.inr ⟨by rfl, rfl⟩) ?_ ?_
               rotate_left
               ·simp only [puts_]
                rfl
               refine pure_ (i := 38) (N := some 86) (v := ?_) (a' := ?_) (bl 39 549755813887) rfl rfl (any_of HT_.out (by kernel_rfl)) (fun _ _ _ h => h) (Or.inl ⟨by rfl, ?_⟩) ?_ ?_
               rotate_left
               ·intro w'
                go_simp
                with_reducible rfl
               rotate_left
               ·simp only [puts_]
                rfl
               refine done_ (done_of HT_.out (by kernel_rfl)) ?_
               try go_wp2
               go_ret
               exact ⟨by first | rfl | (simp [errW_none, errW_some] <;> rfl) | (simp [*, errW_none, errW_some] <;> rfl), by repeat (first | (with_reducible first | exact HB.out | apply below_alloc | apply pw_below_drewN | apply below_drew1 | refine below_set ?_ (IsS60P.ge HI355.out) | refine below_set ?_ (IsS62P.ge HI365.out)) | exact HB.out)⟩
             ·rw [if_neg c21] at H
              have c21b0 : (t370 == t381) = false := beq_eq_false_iff_ne.mpr c21
              have c21b1 : (t370 != t381) = true := bne_iff_ne.mpr c21
              obtain rfl := Option.some.inj H
              try go_wp2
              have n0_ := Aside0.mk (IsS60P.drew HI355.out)
              have n1_ := Aside0.mk (IsS62P.drew HI365.out)
              have n2_ := Aside0.mk (below_drew1 HB.out)
              clear HI355
              clear HI365
              clear HB
              have HI355 := n0_
              have HI365 := n1_
              have HB := n2_
              clear n0_ n1_ n2_
              have p368 : 0 ≤ (x11_2 : Int) := of_decide_eq_true (by first | (with_reducible assumption) | assumption)
              have q368 : x11_2 < (l2.length : Int) := of_decide_eq_true (by first | (with_reducible assumption) | assumption)
              obtain ⟨ad368, e368, hx368_0, hx368_1⟩ := at_T36 HR2.out x11_2 p368 q368
              have hw368_1 := hx368_1
              have hw368_0 := hx368_0
              cases e368
              replace hx368_0 := (HB.out.cell (World.block_lt_of_cell? w _ hx368_0)).trans hx368_0
              replace hx368_1 := (HB.out.cell (World.block_lt_of_cell? w _ hx368_1)).trans hx368_1
              replace p368 := eq_true p368
              replace q368 := eq_true q368
              have p369 : 0 ≤ (x11_2 : Int) := of_decide_eq_true (by first | (with_reducible assumption) | assumption)
              have q369 : x11_2 < (l2.length : Int) := of_decide_eq_true (by first | (with_reducible assumption) | assumption)
              obtain ⟨ad369, e369, hx369_0, hx369_1⟩ := at_T36 HR2.out x11_2 p369 q369
              have hw369_1 := hx369_1
              have hw369_0 := hx369_0
              obtain rfl : ad368 = ad369 := (by injection e369)
              replace hx369_0 := (HB.out.cell (World.block_lt_of_cell? w _ hx369_0)).trans hx369_0
              replace hx369_1 := (HB.out.cell (World.block_lt_of_cell? w _ hx369_1)).trans hx369_1
              replace p369 := eq_true p369
              replace q369 := eq_true q369
              have p379 : 0 ≤ (x11_2 : Int) := of_decide_eq_true (by first | (with_reducible assumption) | assumption)
              have q379 : x11_2 < (l2.length : Int) := of_decide_eq_true (by first | (with_reducible assumption) | assumption)
              obtain ⟨ad379, e379, hx379_0, hx379_1⟩ := at_T36 HR2.out x11_2 p379 q379
              have hw379_1 := hx379_1
              have hw379_0 := hx379_0
              obtain rfl : ad368 = ad379 := (by injection e379)
              replace hx379_0 := (HB.out.cell (World.block_lt_of_cell? w _ hx379_0)).trans hx379_0
              replace hx379_1 := (HB.out.cell (World.block_lt_of_cell? w _ hx379_1)).trans hx379_1
              replace p379 := eq_true p379
              replace q379 := eq_true q379
              have p380 : 0 ≤ (x11_2 : Int) := of_decide_eq_true (by first | (with_reducible assumption) | assumption)
              have q380 : x11_2 < (l2.length : Int) := of_decide_eq_true (by first | (with_reducible assumption) | assumption)
              obtain ⟨ad380, e380, hx380_0, hx380_1⟩ := at_T36 HR2.out x11_2 p380 q380
              have hw380_1 := hx380_1
              have hw380_0 := hx380_0
              obtain rfl : ad368 = ad380 := (by injection e380)
              replace hx380_0 := (HB.out.cell (World.block_lt_of_cell? w _ hx380_0)).trans hx380_0
              replace hx380_1 := (HB.out.cell (World.block_lt_of_cell? w _ hx380_1)).trans hx380_1
              replace p380 := eq_true p380
              replace q380 := eq_true q380
              refine start_ (n := 39) (S := fun w' => w'.cell? (ad368.add ((x11_2).toNat * 2)) = some (.int .i64 ((rd_T36 l2 x11_2).f0)) ∧ w'.cell? ⟨(ad368.add ((x11_2).toNat * 2)).block, (ad368.add ((x11_2).toNat * 2)).off + 1, none⟩ = some (.int .i64 ((rd_T36 l2 x11_2).f1)) ∧ w'.cell? (ad368.add ((x11_2).toNat * 2)) = some (.int .i64 ((rd_T36 l2 x11_2).f0)) ∧ w'.cell? ⟨(ad368.add ((x11_2).toNat * 2)).block, (ad368.add ((x11_2).toNat * 2)).off + 1, none⟩ = some (.int .i64 ((rd_T36 l2 x11_2).f1)) ∧ w'.cell? (ad368.add ((x11_2).toNat * 2)) = some (.int .i64 ((rd_T36 l2 x11_2).f0)) ∧ w'.cell? ⟨(ad368.add ((x11_2).toNat * 2)).block, (ad368.add ((x11_2).toNat * 2)).off + 1, none⟩ = some (.int .i64 ((rd_T36 l2 x11_2).f1)) ∧ w'.cell? (ad368.add ((x11_2).toNat * 2)) = some (.int .i64 ((rd_T36 l2 x11_2).f0)) ∧ w'.cell? ⟨(ad368.add ((x11_2).toNat * 2)).block, (ad368.add ((x11_2).toNat * 2)).off + 1, none⟩ = some (.int .i64 ((rd_T36 l2 x11_2).f1))) (ds := []) #[false, false, false, false, false, false, false, false, false, false, false, false, false, false, false, false, false, false, false, false, false, false, false, false, false, false, false, false, false, false, false, false, false, false, false, false, false, false, false] (by kernel_rfl) rfl rfl ⟨((HB.out.cell (World.block_lt_of_cell? w _ hw368_0)).trans hw368_0), ((HB.out.cell (World.block_lt_of_cell? w _ hw368_1)).trans hw368_1), ((HB.out.cell (World.block_lt_of_cell? w _ hw369_0)).trans hw369_0), ((HB.out.cell (World.block_lt_of_cell? w _ hw369_1)).trans hw369_1), ((HB.out.cell (World.block_lt_of_cell? w _ hw379_0)).trans hw379_0), ((HB.out.cell (World.block_lt_of_cell? w _ hw379_1)).trans hw379_1), ((HB.out.cell (World.block_lt_of_cell? w _ hw380_0)).trans hw380_0), ((HB.out.cell (World.block_lt_of_cell? w _ hw380_1)).trans hw380_1)⟩ (fun hHeld => ?_); refine with_tabW flywheellaw17_TrendPlays.tab8 flywheellaw17_TrendPlays.bits8 (fun HT_ HW_ => ?_)
              generalize wc.drew = w47 at HI355 HI365 HB hx368_0 hx368_1 hx369_0 hx369_1 hx379_0 hx379_1 hx380_0 hx380_1 hHeld ⊢
              refine pure_ (i := 0) (N := some 48) (v := ?_) (a' := ?_) (bl 39 1) rfl rfl (any_of HT_.out (by kernel_rfl)) (fun _ _ _ h => h) (Or.inl ⟨by rfl, ?_⟩) ?_ ?_
              rotate_left
              ·intro w'
               go_simp
               with_reducible rfl
              rotate_left
              ·simp only [puts_]
               rfl
              refine pure_ (i := 1) (N := some 49) (v := ?_) (a' := ?_) (bl 39 3) rfl rfl (any_of HT_.out (by kernel_rfl)) (fun _ _ _ h => h) (Or.inl ⟨by rfl, ?_⟩) ?_ ?_
              rotate_left
              ·intro w'
               go_simp
               with_reducible rfl
              rotate_left
              ·simp only [puts_]
               rfl
              refine pure_ (i := 2) (N := some 50) (v := ?_) (a' := ?_) (bl 39 7) rfl rfl (any_of HT_.out (by kernel_rfl)) (fun _ _ _ h => h) (Or.inl ⟨by rfl, ?_⟩) ?_ ?_
              rotate_left
              ·intro w'
               go_simp
               with_reducible rfl
              rotate_left
              ·simp only [puts_]
               rfl
              refine pure_ (i := 3) (N := some 51) (v := ?_) (a' := ?_) (bl 39 15) rfl rfl (any_of HT_.out (by kernel_rfl)) (fun _ _ _ h => h) (Or.inl ⟨by rfl, ?_⟩) ?_ ?_
              rotate_left
              ·intro w'
               go_simp
               with_reducible rfl
              rotate_left
              ·simp only [puts_]
               rfl
              refine pure_ (i := 4) (N := some 52) (v := ?_) (a' := ?_) (bl 39 31) rfl rfl (any_of HT_.out (by kernel_rfl)) (fun _ _ _ h => h) (Or.inl ⟨by rfl, ?_⟩) ?_ ?_
              rotate_left
              ·intro w'
               go_simp
               with_reducible rfl
              rotate_left
              ·simp only [puts_]
               rfl
              refine pure_ (i := 6) (N := some 54) (v := ?_) (a' := ?_) (bl 39 95) rfl rfl (any_of HT_.out (by kernel_rfl)) (fun _ _ _ h => h) (Or.inl ⟨by rfl, ?_⟩) ?_ ?_
              rotate_left
              ·intro w'
               go_simp
               with_reducible rfl
              rotate_left
              ·simp only [puts_]
               rfl
              refine pure_ (i := 7) (N := some 55) (v := ?_) (a' := ?_) (bl 39 223) rfl rfl (any_of HT_.out (by kernel_rfl)) (fun _ _ _ h => h) (Or.inl ⟨by rfl, ?_⟩) ?_ ?_
              rotate_left
              ·intro w'
               go_simp
               with_reducible rfl
              rotate_left
              ·simp only [puts_]
               rfl
              refine pure_ (i := 8) (N := some 56) (v := ?_) (a' := ?_) (bl 39 479) rfl rfl (any_of HT_.out (by kernel_rfl)) (fun _ _ _ h => h) (Or.inl ⟨by rfl, ?_⟩) ?_ ?_
              rotate_left
              ·intro w'
               go_simp
               with_reducible rfl
              rotate_left
              ·simp only [puts_]
               rfl
              refine pure_ (i := 9) (N := some 57) (v := ?_) (a' := ?_) (bl 39 991) rfl rfl (any_of HT_.out (by kernel_rfl)) (fun _ _ _ h => h) (Or.inl ⟨by rfl, ?_⟩) ?_ ?_
              rotate_left
              ·intro w'
               go_simp
               with_reducible rfl
              rotate_left
              ·simp only [puts_]
               rfl
              refine pure_ (i := 12) (N := some 60) (v := ?_) (a' := ?_) (bl 39 5087) rfl rfl (any_of HT_.out (by kernel_rfl)) (fun _ _ _ h => h) (Or.inl ⟨by rfl, ?_⟩) ?_ ?_
              rotate_left
              ·intro w'
               go_simp
               with_reducible rfl
              rotate_left
              ·simp only [puts_]
               rfl
              refine pure_ (i := 13) (N := some 61) (v := ?_) (a' := ?_) (bl 39 13279) rfl rfl (any_of HT_.out (by kernel_rfl)) (fun _ _ _ h => h) (Or.inl ⟨by rfl, ?_⟩) ?_ ?_
              rotate_left
              ·intro w'
               go_simp
               with_reducible rfl
              rotate_left
              ·simp only [puts_]
               rfl
              refine pure_ (i := 14) (N := some 62) (v := ?_) (a' := ?_) (bl 39 29663) rfl rfl (any_of HT_.out (by kernel_rfl)) (fun _ _ _ h => h) (Or.inl ⟨by rfl, ?_⟩) ?_ ?_
              rotate_left
              ·intro w'
               go_simp
               with_reducible rfl
              rotate_left
              ·simp only [puts_]
               rfl
              refine pure_ (i := 15) (N := some 63) (v := ?_) (a' := ?_) (bl 39 62431) rfl rfl (any_of HT_.out (by kernel_rfl)) (fun _ _ _ h => h) (Or.inl ⟨by rfl, ?_⟩) ?_ ?_
              rotate_left
              ·intro w'
               go_simp
               with_reducible rfl
              rotate_left
              ·simp only [puts_]
               rfl
              refine pure_ (i := 16) (N := some 64) (v := ?_) (a' := ?_) (bl 39 127967) rfl rfl (any_of HT_.out (by kernel_rfl)) (fun _ _ _ h => h) (Or.inl ⟨by rfl, ?_⟩) ?_ ?_
              rotate_left
              ·intro w'
               go_simp
               with_reducible rfl
              rotate_left
              ·simp only [puts_]
               rfl
              refine pure_ (i := 18) (N := some 66) (v := ?_) (a' := ?_) (bl 39 390111) rfl rfl (any_of HT_.out (by kernel_rfl)) (fun _ _ _ h => h) (Or.inl ⟨by rfl, ?_⟩) ?_ ?_
              rotate_left
              ·intro w'
               go_simp
               with_reducible rfl
              rotate_left
              ·simp only [puts_]
               rfl
              refine pure_ (i := 19) (N := some 67) (v := ?_) (a' := ?_) (bl 39 914399) rfl rfl (any_of HT_.out (by kernel_rfl)) (fun _ _ _ h => h) (Or.inl ⟨by rfl, ?_⟩) ?_ ?_
              rotate_left
              ·intro w'
               go_simp
               with_reducible rfl
              rotate_left
              ·simp only [puts_]
               rfl
              refine pure_ (i := 20) (N := some 68) (v := ?_) (a' := ?_) (bl 39 1962975) rfl rfl (any_of HT_.out (by kernel_rfl)) (fun _ _ _ h => h) (Or.inl ⟨by rfl, ?_⟩) ?_ ?_
              rotate_left
              ·intro w'
               go_simp
               with_reducible rfl
              rotate_left
              ·simp only [puts_]
               rfl
              refine pure_ (i := 21) (N := some 69) (v := ?_) (a' := ?_) (bl 39 4060127) rfl rfl (any_of HT_.out (by kernel_rfl)) (fun _ _ _ h => h) (Or.inl ⟨by rfl, ?_⟩) ?_ ?_
              rotate_left
              ·intro w'
               go_simp
               with_reducible rfl
              rotate_left
              ·simp only [puts_]
               rfl
              refine take_ (i := 5) (N := some 53) (v := ?_) (a' := ?_) (bl 39 4060159) rfl rfl (take_ofW HT_.out HW_.out (by kernel_rfl)) (fun _ _ _ h => h) (Or.inl ⟨by rfl, ?_⟩) hHeld ?_ ?_
              rotate_left
              ·rintro w' ⟨s0, s1, s2, s3, s4, s5, s6, s7⟩
               go_simp
               with_reducible rfl
              rotate_left
              ·simp only [puts_]
               rfl
              refine take_ (i := 10) (N := some 58) (v := ?_) (a' := ?_) (bl 39 4061183) rfl rfl (take_ofW HT_.out HW_.out (by kernel_rfl)) (fun _ _ _ h => h) (Or.inl ⟨by rfl, ?_⟩) hHeld ?_ ?_
              rotate_left
              ·rintro w' ⟨s0, s1, s2, s3, s4, s5, s6, s7⟩
               go_simp
               with_reducible rfl
              rotate_left
              ·simp only [puts_]
               rfl
              refine take_ (i := 17) (N := some 65) (v := ?_) (a' := ?_) (bl 39 4192255) rfl rfl (take_ofW HT_.out HW_.out (by kernel_rfl)) (fun _ _ _ h => h) (Or.inl ⟨by rfl, ?_⟩) hHeld ?_ ?_
              rotate_left
              ·rintro w' ⟨s0, s1, s2, s3, s4, s5, s6, s7⟩
               go_simp
               with_reducible rfl
              rotate_left
              ·simp only [puts_]
               rfl
              refine take_ (i := 22) (N := some 70) (v := ?_) (a' := ?_) (bl 39 8386559) rfl rfl (take_ofW HT_.out HW_.out (by kernel_rfl)) (fun _ _ _ h => h) (Or.inl ⟨by rfl, ?_⟩) hHeld ?_ ?_
              rotate_left
              ·rintro w' ⟨s0, s1, s2, s3, s4, s5, s6, s7⟩
               go_simp
               with_reducible rfl
              rotate_left
              ·simp only [puts_]
               rfl
              refine one_ (i := 11) (N := some 59) (bl 39 8388607) rfl rfl (one_of HT_.out (by kernel_rfl)) (by decide) (fun K hK => ?_)
              refine goes_ Try.func16 (by kernel_rfl) rfl #[.pointer (some ⟨g355, 0, none⟩), .int .i64 ((rd_T36 l2 x11_2).f0), .int .i64 ((rd_T36 l2 x11_2).f1)] (by rfl) rfl rfl (by (try simp only [List.map_toArray, List.map_cons, List.map_nil]); first | done | rfl | (simp only [List.length_drop, List.length_take]; rfl)) ?_
              with_reducible refine (trend_Trend_Add.callsJ (S := S_) kj12 g355 x356000_2 x356001_2 x356002_2 x356003_2 x356004_2 x356005_2 x356006_2 x356007_2 ((rd_T36 l2 x11_2).f0) ((rd_T36 l2 x11_2).f1) t370 t371 t372 t373 t374 t375 t376 t377 t378 w _ ?side1 ?side2 (show IsS62P (fun k_ => ¬ S_ k_) w _ g365 _ _ _ _ _ _ _ _ from by repeat (first | (with_reducible first | exact HI365.out | apply IsS62P.alloc | apply IsS62P.drewN | apply IsS62P.drew | apply IsS62P.set_0 | apply IsS62P.set_1 | apply IsS62P.set_2 | apply IsS62P.set_3 | apply IsS62P.set_4 | apply IsS62P.set_5 | apply IsS62P.set_6 | apply IsS62P.set_7) | exact HI365.out)) A19.out).mono ?_
              (case side1 => repeat (first | (with_reducible first | exact HI355.out | apply IsS60P.alloc | apply IsS60P.drewN | apply IsS60P.drew | apply IsS60P.set_0 | apply IsS60P.set_1 | apply IsS60P.set_2 | apply IsS60P.set_3 | apply IsS60P.set_4 | apply IsS60P.set_5 | apply IsS60P.set_6 | apply IsS60P.set_7) | exact HI355.out))
              (case side2 => repeat (first | (with_reducible first | exact HB.out | apply below_alloc | apply pw_below_drewN | apply below_drew1 | refine below_set ?_ (IsS60P.ge HI355.out) | refine below_set ?_ (IsS62P.ge HI365.out)) | exact HB.out))
              rintro e w48 ⟨S_, rfl, hi, hb, hk⟩
              refine ⟨_, rfl, ?_⟩
              have n0_ := Aside0.mk hk
              have n1_ := Aside0.mk (hb)
              have n2_ := Aside0.mk (hi)
              clear HI365
              clear HB
              clear HI355
              have HI365 := n0_
              have HB := n1_
              have HI355 := n2_
              clear n0_ n1_ n2_
              (try clear hb)
              (try clear hb2)
              (try clear hk)
              (try clear hi)
              refine hK.out _ _ ⟨((HB.out.cell (World.block_lt_of_cell? w _ hw368_0)).trans hw368_0), ((HB.out.cell (World.block_lt_of_cell? w _ hw368_1)).trans hw368_1), ((HB.out.cell (World.block_lt_of_cell? w _ hw369_0)).trans hw369_0), ((HB.out.cell (World.block_lt_of_cell? w _ hw369_1)).trans hw369_1), ((HB.out.cell (World.block_lt_of_cell? w _ hw379_0)).trans hw379_0), ((HB.out.cell (World.block_lt_of_cell? w _ hw379_1)).trans hw379_1), ((HB.out.cell (World.block_lt_of_cell? w _ hw380_0)).trans hw380_0), ((HB.out.cell (World.block_lt_of_cell? w _ hw380_1)).trans hw380_1)⟩ (fun hHeld => ?_)
              clear hK K
              refine norm_ (a' := ?_) ?_ ?_
              rotate_left
              ·show Act.put _ (some 59) _ = _
               simp only [puts_]
               rfl
              refine one_ (i := 23) (N := some 71) (bl 39 16777215) rfl rfl (one_of HT_.out (by kernel_rfl)) (by decide) (fun K hK => ?_)
              refine goes_ Try.func17 (by kernel_rfl) rfl #[.pointer (some ⟨g365, 0, none⟩), .int .i64 ((rd_T36 l2 x11_2).f0), .int .i64 ((rd_T36 l2 x11_2).f1)] (by rfl) rfl rfl (by (try simp only [List.map_toArray, List.map_cons, List.map_nil]); first | done | rfl | (simp only [List.length_drop, List.length_take]; rfl)) ?_
              with_reducible refine (flywheelref17_Trend_Add.callsJ (S := S_) kj12 g365 x366000_2 x366001_2 x366002_2 x366003_2 x366004_2 x366005_2 x366006_2 x366007_2 ((rd_T36 l2 x11_2).f0) ((rd_T36 l2 x11_2).f1) t381 t382 t383 t384 t385 t386 t387 t388 t389 w _ ?side1 ?side2 (show IsS60P S_ w _ g355 _ _ _ _ _ _ _ _ from by repeat (first | (with_reducible first | exact HI355.out | apply IsS60P.alloc | apply IsS60P.drewN | apply IsS60P.drew | apply IsS60P.set_0 | apply IsS60P.set_1 | apply IsS60P.set_2 | apply IsS60P.set_3 | apply IsS60P.set_4 | apply IsS60P.set_5 | apply IsS60P.set_6 | apply IsS60P.set_7) | exact HI355.out)) A20.out).mono ?_
              (case side1 => repeat (first | (with_reducible first | exact HI365.out | apply IsS62P.alloc | apply IsS62P.drewN | apply IsS62P.drew | apply IsS62P.set_0 | apply IsS62P.set_1 | apply IsS62P.set_2 | apply IsS62P.set_3 | apply IsS62P.set_4 | apply IsS62P.set_5 | apply IsS62P.set_6 | apply IsS62P.set_7) | exact HI365.out))
              (case side2 => repeat (first | (with_reducible first | exact HB.out | apply below_alloc | apply pw_below_drewN | apply below_drew1 | refine below_set ?_ (IsS60P.ge HI355.out) | refine below_set ?_ (IsS62P.ge HI365.out)) | exact HB.out))
              rintro e w49 ⟨S_, rfl, hi, hb, hk⟩
              refine ⟨_, rfl, ?_⟩
              have n0_ := Aside0.mk hk
              have n1_ := Aside0.mk (hb)
              have n2_ := Aside0.mk (hi)
              clear HI355
              clear HB
              clear HI365
              have HI355 := n0_
              have HB := n1_
              have HI365 := n2_
              clear n0_ n1_ n2_
              (try clear hb)
              (try clear hb2)
              (try clear hk)
              (try clear hi)
              refine hK.out _ _ ⟨((HB.out.cell (World.block_lt_of_cell? w _ hw368_0)).trans hw368_0), ((HB.out.cell (World.block_lt_of_cell? w _ hw368_1)).trans hw368_1), ((HB.out.cell (World.block_lt_of_cell? w _ hw369_0)).trans hw369_0), ((HB.out.cell (World.block_lt_of_cell? w _ hw369_1)).trans hw369_1), ((HB.out.cell (World.block_lt_of_cell? w _ hw379_0)).trans hw379_0), ((HB.out.cell (World.block_lt_of_cell? w _ hw379_1)).trans hw379_1), ((HB.out.cell (World.block_lt_of_cell? w _ hw380_0)).trans hw380_0), ((HB.out.cell (World.block_lt_of_cell? w _ hw380_1)).trans hw380_1)⟩ (fun hHeld => ?_)
              clear hK K
              refine norm_ (a' := ?_) ?_ ?_
              rotate_left
              ·show Act.put _ (some 71) _ = _
               simp only [puts_]
               rfl
              refine pure_ (i := 24) (N := some 72) (v := ?_) (a' := ?_) (bl 39 33554431) rfl rfl (any_of HT_.out (by kernel_rfl)) (fun _ _ _ h => h) (Or.inl ⟨by rfl, ?_⟩) ?_ ?_
              rotate_left
              ·intro w'
               go_simp
               with_reducible rfl
              rotate_left
              ·simp only [puts_]
               rfl
              refine pure_ (i := 25) (N := some 73) (v := ?_) (a' := ?_) (bl 39 67108863) rfl rfl (any_of HT_.out (by kernel_rfl)) (fun _ _ _ h => h) (Or.inl ⟨by rfl, ?_⟩) ?_ ?_
              rotate_left
              ·intro w'
               go_simp
               with_reducible rfl
              rotate_left
              ·simp only [puts_]
               rfl
              refine pure_ (i := 26) (N := some 74) (v := undef) (a' := ?_) (bl 39 134217727) rfl rfl (any_of HT_.out (by kernel_rfl)) (fun _ _ _ h => h) (Or.inr ⟨by rfl, rfl⟩) ?_ ?_
              rotate_left
              ·simp only [puts_]
               rfl
              refine pure_ (i := 27) (N := some 75) (v := undef) (a' := ?_) (bl 39 268435455) rfl rfl (any_of HT_.out (by kernel_rfl)) (fun _ _ _ h => h) (Or.inr ⟨by rfl, rfl⟩) ?_ ?_
              rotate_left
              ·simp only [puts_]
               rfl
              refine pure_ (i := 28) (N := some 76) (v := undef) (a' := ?_) (bl 39 536870911) rfl rfl (any_of HT_.out (by kernel_rfl)) (fun _ _ _ h => h) (Or.inr ⟨by rfl, rfl⟩) ?_ ?_
              rotate_left
              ·simp only [puts_]
               rfl
              refine pure_ (i := 29) (N := some 77) (v := undef) (a' := ?_) (bl 39 1073741823) rfl rfl (any_of HT_.out (by kernel_rfl)) (fun _ _ _ h => h) (Or.inr ⟨by rfl, rfl⟩) ?_ ?_
              rotate_left
              ·simp only [puts_]
               rfl
              refine pure_ (i := 30) (N := some 78) (v := undef) (a' := ?_) (bl 39 2147483647) rfl rfl (any_of HT_.out (by kernel_rfl)) (fun _ _ _ h => h) (Or.inr ⟨by rfl, rfl⟩) ?_ ?_
              rotate_left
              ·simp only [puts_]
               rfl
              refine pure_ (i := 31) (N := some 79) (v := ?_) (a' := ?_) (bl 39 4294967295) rfl rfl (any_of HT_.out (by kernel_rfl)) (fun _ _ _ h => h) (Or.inl ⟨by rfl, ?_⟩) ?_ ?_
              rotate_left
              ·intro w'
               go_simp
               with_reducible rfl
              rotate_left
              ·simp only [puts_]
               rfl
              refine pure_ (i := 32) (N := some 80) (v := ?_) (a' := ?_) (bl 39 8589934591) rfl rfl (any_of HT_.out (by kernel_rfl)) (fun _ _ _ h => h) (Or.inl ⟨by rfl, ?_⟩) ?_ ?_
              rotate_left
              ·intro w'
               go_simp
               with_reducible rfl
              rotate_left
              ·simp only [puts_]
               rfl
              refine pure_ (i := 33) (N := some 81) (v := undef) (a' := ?_) (bl 39 17179869183) rfl rfl (any_of HT_.out (by kernel_rfl)) (fun _ _ _ h => h) (Or.inr ⟨by rfl, rfl⟩) ?_ ?_
              rotate_left
              ·simp only [puts_]
               rfl
              refine pure_ (i := 34) (N := some 82) (v := undef) (a' := ?_) (bl 39 34359738367) rfl rfl (any_of HT_.out (by kernel_rfl)) (fun _ _ _ h => h) (Or.inr ⟨by rfl, rfl⟩) ?_ ?_
              rotate_left
              ·simp only [puts_]
               rfl
              refine pure_ (i := 35) (N := some 83) (v := undef) (a' := ?_) (bl 39 68719476735) rfl rfl (any_of HT_.out (by kernel_rfl)) (fun _ _ _ h => h) (Or.inr ⟨by rfl, rfl⟩) ?_ ?_
              rotate_left
              ·simp only [puts_]
               rfl
              refine pure_ (i := 36) (N := some 84) (v := undef) (a' := ?_) (bl 39 137438953471) rfl rfl (any_of HT_.out (by kernel_rfl)) (fun _ _ _ h => h) (Or.inr ⟨by rfl, rfl⟩) ?_ ?_
              rotate_left
              ·simp only [puts_]
               rfl
              refine pure_ (i := 37) (N := some 85) (v := undef) (a' := ?_) (bl 39 274877906943) rfl rfl (any_of HT_.out (by kernel_rfl)) (fun _ _ _ h => h) (Or.inr ⟨by rfl, rfl⟩) ?_ ?_
              rotate_left
              ·simp only [puts_]
               rfl
              refine pure_ (i := 38) (N := some 86) (v := ?_) (a' := ?_) (bl 39 549755813887) rfl rfl (any_of HT_.out (by kernel_rfl)) (fun _ _ _ h => h) (Or.inl ⟨by rfl, ?_⟩) ?_ ?_
              rotate_left
              ·intro w'
               go_simp
               with_reducible rfl
              rotate_left
              ·simp only [puts_]
               rfl
              refine done_ (done_of HT_.out (by kernel_rfl)) ?_
              try go_wp2
              go_ret
              exact ⟨by first | rfl | (simp [errW_none, errW_some] <;> rfl) | (simp [*, errW_none, errW_some] <;> rfl), by repeat (first | (with_reducible first | exact HB.out | apply below_alloc | apply pw_below_drewN | apply below_drew1 | refine below_set ?_ (IsS60P.ge HI355.out) | refine below_set ?_ (IsS62P.ge HI365.out)) | exact HB.out)⟩
            ·rw [if_neg c18] at H
             exact absurd H (by simp)
           ·rw [if_neg c17] at H
            exact absurd H (by simp)
          ·replace c16 := Bool.eq_false_iff.mpr c16
           subst c16
           have H1 : ((flywheellaw17_wakes.f kj12).bind fun t367 => (some t367)) = some r := by rw [if_neg (show ¬ (false = true) by decide)] at H; exact H
           clear H
           have H := H1
           clear H1
           replace H := Option.bind_eq_some_iff.mp H
           obtain ⟨t367, A500, H⟩ := H
           replace H : (some t367) = some r := H
           have A50 := Aside0.mk A500
           clear A500
           obtain rfl := Option.some.inj H
           go_wp2_with (first | ((with_reducible refine gate_callee (f := 10) rfl ?_); refine goesL_ (some 87) rfl rfl Try.func10 (by kernel_rfl) rfl #[] rfl (by (try simp only [List.map_toArray, List.map_cons, List.map_nil]); first | done | rfl | (simp only [List.length_drop, List.length_take]; rfl)) ?_; (with_reducible refine (flywheellaw17_wakes.calls kj12  t367 _ A50.out).mono ?_); rintro e w51 ⟨rfl, hb⟩; refine ⟨_, rfl, ?_⟩; have n0_ := Aside0.mk (IsS60P.below (by repeat (first | (with_reducible first | exact HI355.out | apply IsS60P.alloc | apply IsS60P.drewN | apply IsS60P.drew | apply IsS60P.set_0 | apply IsS60P.set_1 | apply IsS60P.set_2 | apply IsS60P.set_3 | apply IsS60P.set_4 | apply IsS60P.set_5 | apply IsS60P.set_6 | apply IsS60P.set_7) | exact HI355.out)) hb); have n1_ := Aside0.mk (IsS62P.below (by repeat (first | (with_reducible first | exact HI365.out | apply IsS62P.alloc | apply IsS62P.drewN | apply IsS62P.drew | apply IsS62P.set_0 | apply IsS62P.set_1 | apply IsS62P.set_2 | apply IsS62P.set_3 | apply IsS62P.set_4 | apply IsS62P.set_5 | apply IsS62P.set_6 | apply IsS62P.set_7) | exact HI365.out)) hb); have n2_ := Aside0.mk (below_step (by repeat (first | (with_reducible first | exact HB.out | apply below_alloc | apply pw_below_drewN | apply below_drew1 | refine below_set ?_ (IsS60P.ge HI355.out) | refine below_set ?_ (IsS62P.ge HI365.out)) | exact HB.out)) hb); clear HI355; clear HI365; clear HB; have HI355 := n0_; have HI365 := n1_; have HB := n2_; clear n0_ n1_ n2_; (try clear hb); (try clear hb2); (try clear hk); (try clear hi)))
           go_ret
           exact ⟨by first | rfl | (simp [errW_none, errW_some] <;> rfl) | (simp [*, errW_none, errW_some] <;> rfl), by repeat (first | (with_reducible first | exact HB.out | apply below_alloc | apply pw_below_drewN | apply below_drew1 | refine below_set ?_ (IsS60P.ge HI355.out) | refine below_set ?_ (IsS62P.ge HI365.out)) | exact HB.out)⟩
  ·rw [if_neg c6] at H
   have c6b0 : (flywheelref17_New.made.f a0 a1).isSome = false := by simpa using c6
   clear c6
   replace H := Option.bind_eq_some_iff.mp H
   obtain ⟨t426, A520, H⟩ := H
   replace H : (if t356 = t426 then (flywheellaw17_TrendPlays.j3 k l2 true t347 t348 t349 t350 t351 t352 t353 t354) else (flywheellaw17_TrendPlays.j3 k l2 true t347 t348 t349 t350 t351 t352 t353 t354)) = some r := H
   have A52 := Aside0.mk A520
   clear A520
   have HC53 := Aside0.mk H
   clear H
   go_enter Try.func4, Try.ntmps4
   go_upto_region 3 with (first | ((with_reducible refine gate_callee (f := 14) rfl ?_); refine goesL_ (some 15) rfl rfl Try.func14 (by kernel_rfl) rfl #[.int .i64 a0, .int .i64 a1] rfl (by (try simp only [List.map_toArray, List.map_cons, List.map_nil]); first | done | rfl | (simp only [List.length_drop, List.length_take]; rfl)) ?_; (with_reducible refine (trend_New.made.calls a0 a1 t347 t348 t349 t350 t351 t352 t353 t354 t356 w _ ?side1 A5.out).mono ?_); (case side1 => repeat (first | (with_reducible first | exact HB.out | apply below_alloc | apply pw_below_drewN | apply below_drew1) | exact HB.out)); rintro e w54 ⟨g355, rfl, hi, hb, hb2⟩; refine ⟨_, rfl, ?_⟩; have n0_ := Aside0.mk (hb); have n1_ := Aside0.mk (hi); clear HB; have HB := n0_; have HI355 := n1_; clear n0_ n1_; (try clear hb); (try clear hb2); (try clear hk); (try clear hi)) | ((with_reducible refine gate_callee (f := 15) rfl ?_); refine goesL_ (some 21) rfl rfl Try.func15 (by kernel_rfl) rfl #[.int .i64 a0, .int .i64 a1] rfl (by (try simp only [List.map_toArray, List.map_cons, List.map_nil]); first | done | rfl | (simp only [List.length_drop, List.length_take]; rfl)) ?_; (with_reducible refine (flywheelref17_New.nil.calls a0 a1 t426 _ A52.out).mono ?_); rintro e w55 ⟨rfl, hb⟩; refine ⟨_, rfl, ?_⟩; have n0_ := Aside0.mk (IsS60.below (by repeat (first | (with_reducible first | exact HI355.out | apply IsS60.alloc | apply IsS60.drewN | apply IsS60.drew | apply IsS60.set_0 | apply IsS60.set_1 | apply IsS60.set_2 | apply IsS60.set_3 | apply IsS60.set_4 | apply IsS60.set_5 | apply IsS60.set_6 | apply IsS60.set_7) | exact HI355.out)) hb); have n1_ := Aside0.mk (below_step (by repeat (first | (with_reducible first | exact HB.out | apply below_alloc | apply pw_below_drewN | apply below_drew1 | refine below_set ?_ (IsS60.ge HI355.out)) | exact HB.out)) hb); clear HI355; clear HB; have HI355 := n0_; have HB := n1_; clear n0_ n1_; (try clear hb); (try clear hb2); (try clear hk); (try clear hi)))
   (try simp only [Act.put, List.setIfInBounds_toArray, List.set_cons_zero, List.set_cons_succ])
   go_cut [33] (fun v33 wc => ∃ (kq : Nat) (x33_52 : Bool), v33 = .bool x33_52 ∧ Aside0 (flywheellaw17_TrendPlays.j3 kq l2 x33_52 t347 t348 t349 t350 t351 t352 t353 t354 = some r) ∧ Aside0 (kq ≤ k) ∧ Aside0 (IsS60 w wc g355 t347 t348 t349 t350 t351 t352 t353 t354) ∧ Aside0 (Below w.heap.size w wc))
   case first =>
    have H := HC53.out
    clear HC53
    by_cases c56 : t356 = t426
    ·rw [if_pos c56] at H
     have c56b0 : (t356 == t426) = true := beq_iff_eq.mpr c56
     have c56b1 : (t356 != t426) = false := bne_eq_false_iff_eq.mpr c56
     clear c56
     (first | rw [c56b0] | (simp only [i64_w, i32_w]; rw [c56b0]) | skip)
     have H' := Aside0.mk H
     clear H
     go_wp2
     go_meet
     case rel => exact ⟨_, (true), (by first | rfl | (simp; done) | (simp [*]; done)), H', ⟨by first | omega | exact Nat.le_refl _⟩, ⟨by repeat (first | (with_reducible first | exact HI355.out | apply IsS60.alloc | apply IsS60.drewN | apply IsS60.drew | apply IsS60.set_0 | apply IsS60.set_1 | apply IsS60.set_2 | apply IsS60.set_3 | apply IsS60.set_4 | apply IsS60.set_5 | apply IsS60.set_6 | apply IsS60.set_7) | exact HI355.out)⟩, ⟨by repeat (first | (with_reducible first | exact HB.out | apply below_alloc | apply pw_below_drewN | apply below_drew1 | refine below_set ?_ (IsS60.ge HI355.out)) | exact HB.out)⟩⟩
    ·rw [if_neg c56] at H
     have c56b0 : (t356 == t426) = false := beq_eq_false_iff_ne.mpr c56
     have c56b1 : (t356 != t426) = true := bne_iff_ne.mpr c56
     (first | rw [c56b0] | (simp only [i64_w, i32_w]; rw [c56b0]) | skip)
     have H' := Aside0.mk H
     clear H
     go_wp2
     go_meet
     case rel => exact ⟨_, (true), (by first | rfl | (simp; done) | (simp [*]; done)), H', ⟨by first | omega | exact Nat.le_refl _⟩, ⟨by repeat (first | (with_reducible first | exact HI355.out | apply IsS60.alloc | apply IsS60.drewN | apply IsS60.drew | apply IsS60.set_0 | apply IsS60.set_1 | apply IsS60.set_2 | apply IsS60.set_3 | apply IsS60.set_4 | apply IsS60.set_5 | apply IsS60.set_6 | apply IsS60.set_7) | exact HI355.out)⟩, ⟨by repeat (first | (with_reducible first | exact HB.out | apply below_alloc | apply pw_below_drewN | apply below_drew1 | refine below_set ?_ (IsS60.ge HI355.out)) | exact HB.out)⟩⟩
   case rest =>
    clear HC53
    try clear c1
    try clear c2
    try clear p2
    try clear p3
    try clear q3
    try clear hx3
    try clear c4
    try clear c5
    try clear c6
    try clear c6b0
    try clear c10
    try clear c14
    try clear c15
    try clear c16
    try clear c17
    try clear c18
    try clear c19
    try clear c21
    try clear c21b0
    try clear c21b1
    try clear p36
    try clear q36
    try clear hx36
    try clear p37
    try clear q37
    try clear hx37
    try clear p38
    try clear q38
    try clear hx38
    try clear c56
    try clear c56b0
    try clear c56b1
    try clear hx368_0
    try clear hx368_1
    try clear hx369_0
    try clear hx369_1
    try clear hx379_0
    try clear hx379_1
    try clear hx380_0
    try clear hx380_1
    try clear p368
    try clear p369
    try clear p379
    try clear p380
    try clear q368
    try clear q369
    try clear q379
    try clear q380
    obtain ⟨kq, x33_52, rfl, HA, HJ52, HI355, HB⟩ := hcut
    cases kq with
    | zero => exact absurd HA.out (by simp [flywheellaw17_TrendPlays.j3])
    | succ kj52 =>
     have H := HA.out
     clear HA
     simp only [flywheellaw17_TrendPlays.j3] at H
     by_cases c57 : x33_52 = true
     ·subst c57
      have H1 : (some false) = some r := by rw [if_pos rfl] at H; exact H
      clear H
      have H := H1
      clear H1
      obtain rfl := Option.some.inj H
      go_wp2
      go_ret
      exact ⟨by first | rfl | (simp [errW_none, errW_some] <;> rfl) | (simp [*, errW_none, errW_some] <;> rfl), by repeat (first | (with_reducible first | exact HB.out | apply below_alloc | apply pw_below_drewN | apply below_drew1 | refine below_set ?_ (IsS60.ge HI355.out)) | exact HB.out)⟩
     ·replace c57 := Bool.eq_false_iff.mpr c57
      subst c57
      have H1 : (flywheellaw17_TrendPlays.l5000 kj52 l2 0 t347 t348 t349 t350 t351 t352 t353 t354) = some r := by rw [if_neg (show ¬ (false = true) by decide)] at H; exact H
      clear H
      have H := H1
      clear H1
      have H' := Aside0.mk H
      clear H
      go_wp2
      go_loopg [11] kj52 (fun kq v11 w' => ∃ (x11_2 : Int) (x356000_2 : Int) (x356001_2 : Int) (x356002_2 : Int) (x356003_2 : Int) (x356004_2 : Int) (x356005_2 : List Int) (x356006_2 : List Int) (x356007_2 : Int) (u356005 : Value) (u356006 : Value), v11 = .int .i64 x11_2 ∧ Aside0 (flywheellaw17_TrendPlays.l5000 kq l2 x11_2 x356000_2 x356001_2 x356002_2 x356003_2 x356004_2 x356005_2 x356006_2 x356007_2 = some r) ∧ Aside0 (kq ≤ kj52) ∧ Aside0 (IsS60 w w' g355 x356000_2 x356001_2 x356002_2 x356003_2 x356004_2 x356005_2 x356006_2 x356007_2) ∧ Aside0 (Below w.heap.size w w'))
      case atStart => exact ⟨(0), (t347), (t348), (t349), (t350), (t351), (t352), (t353), (t354), (.bool true), (.bool true), (by first | rfl | (simp; done) | (simp [*]; done)), H', ⟨Nat.le_refl _⟩, ⟨by repeat (first | (with_reducible first | exact HI355.out | apply IsS60.alloc | apply IsS60.drewN | apply IsS60.drew | apply IsS60.set_0 | apply IsS60.set_1 | apply IsS60.set_2 | apply IsS60.set_3 | apply IsS60.set_4 | apply IsS60.set_5 | apply IsS60.set_6 | apply IsS60.set_7) | exact HI355.out)⟩, ⟨by repeat (first | (with_reducible first | exact HB.out | apply below_alloc | apply pw_below_drewN | apply below_drew1 | refine below_set ?_ (IsS60.ge HI355.out)) | exact HB.out)⟩⟩
      case round =>
       clear H'
       try clear c1
       try clear c2
       try clear p2
       try clear p3
       try clear q3
       try clear hx3
       try clear c4
       try clear c5
       try clear c6
       try clear c6b0
       try clear c10
       try clear c14
       try clear c15
       try clear c16
       try clear c17
       try clear c18
       try clear c19
       try clear c21
       try clear c21b0
       try clear c21b1
       try clear p36
       try clear q36
       try clear hx36
       try clear p37
       try clear q37
       try clear hx37
       try clear p38
       try clear q38
       try clear hx38
       try clear c56
       try clear c56b0
       try clear c56b1
       try clear c57
       try clear hx368_0
       try clear hx368_1
       try clear hx369_0
       try clear hx369_1
       try clear hx379_0
       try clear hx379_1
       try clear hx380_0
       try clear hx380_1
       try clear p2
       try clear p3
       try clear p36
       try clear p368
       try clear p369
       try clear p37
       try clear p379
       try clear p38
       try clear p380
       try clear q3
       try clear q36
       try clear q368
       try clear q369
       try clear q37
       try clear q379
       try clear q38
       try clear q380
       obtain ⟨x11_2, x356000_2, x356001_2, x356002_2, x356003_2, x356004_2, x356005_2, x356006_2, x356007_2, u356005, u356006, rfl, HA, HK2, HI355, HB⟩ := hrel
       cases gk with
       | zero => exact absurd HA.out (by simp [flywheellaw17_TrendPlays.l5000])
       | succ k2 =>
        have H := HA.out
        clear HA
        simp only [flywheellaw17_TrendPlays.l5000] at H
        have HC58 := Aside0.mk H
        clear H
        go_upto_region 6 with (fail)
        go_cut [45] (fun v45 wc => ∃ (kq : Nat) (x45_57 : Bool), v45 = .bool x45_57 ∧ Aside0 (flywheellaw17_TrendPlays.j5 kq l2 x11_2 x45_57 x356000_2 x356001_2 x356002_2 x356003_2 x356004_2 x356005_2 x356006_2 x356007_2 = some r) ∧ Aside0 (kq ≤ k2) ∧ Aside0 (IsS60 w wc g355 x356000_2 x356001_2 x356002_2 x356003_2 x356004_2 x356005_2 x356006_2 x356007_2) ∧ Aside0 (Below w.heap.size w wc))
        case first =>
         have H := HC58.out
         clear HC58
         by_cases c59 : x11_2 < (l2.length : Int)
         ·rw [if_pos c59] at H
          have c59b0 : decide (x11_2 < (l2.length : Int)) = true := decide_eq_true c59
          clear c59
          (first | rw [c59b0] | (simp only [i64_w, i32_w]; rw [c59b0]) | skip)
          by_cases c60 : x11_2 < 100
          ·rw [if_pos c60] at H
           have c60b0 : decide (x11_2 < 100) = true := decide_eq_true c60
           clear c60
           have H' := Aside0.mk H
           clear H
           go_wp2
           go_meet
           case rel => exact ⟨_, (false), (by first | rfl | (simp; done) | (simp [*]; done)), H', ⟨by have := HJ52.out; have := HK2.out; first | omega | exact Nat.le_refl _⟩, ⟨by repeat (first | (with_reducible first | exact HI355.out | apply IsS60.alloc | apply IsS60.drewN | apply IsS60.drew | apply IsS60.set_0 | apply IsS60.set_1 | apply IsS60.set_2 | apply IsS60.set_3 | apply IsS60.set_4 | apply IsS60.set_5 | apply IsS60.set_6 | apply IsS60.set_7) | exact HI355.out)⟩, ⟨by repeat (first | (with_reducible first | exact HB.out | apply below_alloc | apply pw_below_drewN | apply below_drew1 | refine below_set ?_ (IsS60.ge HI355.out)) | exact HB.out)⟩⟩
          ·rw [if_neg c60] at H
           have c60b0 : decide (x11_2 < 100) = false := decide_eq_false c60
           clear c60
           have H' := Aside0.mk H
           clear H
           go_wp2
           go_meet
           case rel => exact ⟨_, (false), (by first | rfl | (simp; done) | (simp [*]; done)), H', ⟨by have := HJ52.out; have := HK2.out; first | omega | exact Nat.le_refl _⟩, ⟨by repeat (first | (with_reducible first | exact HI355.out | apply IsS60.alloc | apply IsS60.drewN | apply IsS60.drew | apply IsS60.set_0 | apply IsS60.set_1 | apply IsS60.set_2 | apply IsS60.set_3 | apply IsS60.set_4 | apply IsS60.set_5 | apply IsS60.set_6 | apply IsS60.set_7) | exact HI355.out)⟩, ⟨by repeat (first | (with_reducible first | exact HB.out | apply below_alloc | apply pw_below_drewN | apply below_drew1 | refine below_set ?_ (IsS60.ge HI355.out)) | exact HB.out)⟩⟩
         ·rw [if_neg c59] at H
          have c59b0 : decide (x11_2 < (l2.length : Int)) = false := decide_eq_false c59
          clear c59
          (first | rw [c59b0] | (simp only [i64_w, i32_w]; rw [c59b0]) | skip)
          have H' := Aside0.mk H
          clear H
          go_wp2
          go_meet
          case rel => exact ⟨_, (false), (by first | rfl | (simp; done) | (simp [*]; done)), H', ⟨by have := HJ52.out; have := HK2.out; first | omega | exact Nat.le_refl _⟩, ⟨by repeat (first | (with_reducible first | exact HI355.out | apply IsS60.alloc | apply IsS60.drewN | apply IsS60.drew | apply IsS60.set_0 | apply IsS60.set_1 | apply IsS60.set_2 | apply IsS60.set_3 | apply IsS60.set_4 | apply IsS60.set_5 | apply IsS60.set_6 | apply IsS60.set_7) | exact HI355.out)⟩, ⟨by repeat (first | (with_reducible first | exact HB.out | apply below_alloc | apply pw_below_drewN | apply below_drew1 | refine below_set ?_ (IsS60.ge HI355.out)) | exact HB.out)⟩⟩
        case rest =>
         clear HC58
         try clear c1
         try clear c2
         try clear p2
         try clear p3
         try clear q3
         try clear hx3
         try clear c4
         try clear c5
         try clear c6
         try clear c6b0
         try clear c10
         try clear c14
         try clear c15
         try clear c16
         try clear c17
         try clear c18
         try clear c19
         try clear c21
         try clear c21b0
         try clear c21b1
         try clear p36
         try clear q36
         try clear hx36
         try clear p37
         try clear q37
         try clear hx37
         try clear p38
         try clear q38
         try clear hx38
         try clear c56
         try clear c56b0
         try clear c56b1
         try clear c57
         try clear c59
         try clear c59b0
         try clear c60
         try clear c60b0
         try clear hx368_0
         try clear hx368_1
         try clear hx369_0
         try clear hx369_1
         try clear hx379_0
         try clear hx379_1
         try clear hx380_0
         try clear hx380_1
         try clear p2
         try clear p3
         try clear p36
         try clear p368
         try clear p369
         try clear p37
         try clear p379
         try clear p38
         try clear p380
         try clear q3
         try clear q36
         try clear q368
         try clear q369
         try clear q37
         try clear q379
         try clear q38
         try clear q380
         obtain ⟨kq, x45_57, rfl, HA, HJ57, HI355, HB⟩ := hcut
         cases kq with
         | zero => exact absurd HA.out (by simp [flywheellaw17_TrendPlays.j5])
         | succ kj57 =>
          have H := HA.out
          clear HA
          simp only [flywheellaw17_TrendPlays.j5] at H
          by_cases c61 : x45_57 = true
          ·subst c61
           have H1 : (if 0 ≤ x11_2 then (if x11_2 < (l2.length : Int) then ((trend_Trend_Add.f kj57 x356000_2 x356001_2 x356002_2 x356003_2 x356004_2 x356005_2 x356006_2 x356007_2 ((rd_T36 l2 x11_2).f0) ((rd_T36 l2 x11_2).f1)).bind fun bt430 => (none)) else (none)) else (none)) = some r := by rw [if_pos rfl] at H; exact H
           clear H
           have H := H1
           clear H1
           by_cases c62 : 0 ≤ x11_2
           ·rw [if_pos c62] at H
            have c62b0 : decide (0 ≤ x11_2) = true := decide_eq_true c62
            clear c62
            by_cases c63 : x11_2 < (l2.length : Int)
            ·rw [if_pos c63] at H
             have c63b0 : decide (x11_2 < (l2.length : Int)) = true := decide_eq_true c63
             clear c63
             replace H := Option.bind_eq_some_iff.mp H
             obtain ⟨⟨t430, t431, t432, t433, t434, t435, t436, t437, t438⟩, A640, H⟩ := H
             replace H : (none) = some r := H
             have A64 := Aside0.mk A640
             clear A640
             exact absurd H (by simp)
            ·rw [if_neg c63] at H
             exact absurd H (by simp)
           ·rw [if_neg c62] at H
            exact absurd H (by simp)
          ·replace c61 := Bool.eq_false_iff.mpr c61
           subst c61
           have H1 : ((flywheellaw17_wakes.f kj57).bind fun t427 => (some t427)) = some r := by rw [if_neg (show ¬ (false = true) by decide)] at H; exact H
           clear H
           have H := H1
           clear H1
           replace H := Option.bind_eq_some_iff.mp H
           obtain ⟨t427, A650, H⟩ := H
           replace H : (some t427) = some r := H
           have A65 := Aside0.mk A650
           clear A650
           obtain rfl := Option.some.inj H
           go_wp2_with (first | ((with_reducible refine gate_callee (f := 10) rfl ?_); refine goesL_ (some 87) rfl rfl Try.func10 (by kernel_rfl) rfl #[] rfl (by (try simp only [List.map_toArray, List.map_cons, List.map_nil]); first | done | rfl | (simp only [List.length_drop, List.length_take]; rfl)) ?_; (with_reducible refine (flywheellaw17_wakes.calls kj57  t427 _ A65.out).mono ?_); rintro e w66 ⟨rfl, hb⟩; refine ⟨_, rfl, ?_⟩; have n0_ := Aside0.mk (IsS60.below (by repeat (first | (with_reducible first | exact HI355.out | apply IsS60.alloc | apply IsS60.drewN | apply IsS60.drew | apply IsS60.set_0 | apply IsS60.set_1 | apply IsS60.set_2 | apply IsS60.set_3 | apply IsS60.set_4 | apply IsS60.set_5 | apply IsS60.set_6 | apply IsS60.set_7) | exact HI355.out)) hb); have n1_ := Aside0.mk (below_step (by repeat (first | (with_reducible first | exact HB.out | apply below_alloc | apply pw_below_drewN | apply below_drew1 | refine below_set ?_ (IsS60.ge HI355.out)) | exact HB.out)) hb); clear HI355; clear HB; have HI355 := n0_; have HB := n1_; clear n0_ n1_; (try clear hb); (try clear hb2); (try clear hk); (try clear hi)))
           go_ret
           exact ⟨by first | rfl | (simp [errW_none, errW_some] <;> rfl) | (simp [*, errW_none, errW_some] <;> rfl), by repeat (first | (with_reducible first | exact HB.out | apply below_alloc | apply pw_below_drewN | apply below_drew1 | refine below_set ?_ (IsS60.ge HI355.out)) | exact HB.out)⟩
 ·rw [if_neg c4] at H
  have c4b0 : (trend_New.made.f a0 a1).isSome = false := by simpa using c4
  clear c4
  replace H := Option.bind_eq_some_iff.mp H
  obtain ⟨t441, A670, H⟩ := H
  replace H : (if (flywheelref17_New.made.f a0 a1).isSome = true then ((flywheelref17_New.made.f a0 a1).bind fun bt442 => (if t441 = bt442.2.2.2.2.2.2.2.2 then (flywheellaw17_TrendPlays.j6 k l2 true) else (flywheellaw17_TrendPlays.j6 k l2 true))) else ((flywheelref17_New.nil.f a0 a1).bind fun t455 => (if t441 = t455 then (flywheellaw17_TrendPlays.j9 k l2 false) else (flywheellaw17_TrendPlays.j9 k l2 true)))) = some r := H
  have A67 := Aside0.mk A670
  clear A670
  by_cases c68 : (flywheelref17_New.made.f a0 a1).isSome = true
  ·rw [if_pos c68] at H
   have c68b0 : (flywheelref17_New.made.f a0 a1).isSome = true := c68
   clear c68
   replace H := Option.bind_eq_some_iff.mp H
   obtain ⟨⟨t442, t443, t444, t445, t446, t447, t448, t449, t451⟩, A690, H⟩ := H
   replace H : (if t441 = t451 then (flywheellaw17_TrendPlays.j6 k l2 true) else (flywheellaw17_TrendPlays.j6 k l2 true)) = some r := H
   have A69 := Aside0.mk A690
   clear A690
   have HC70 := Aside0.mk H
   clear H
   go_enter Try.func4, Try.ntmps4
   go_upto_region 3 with (first | ((with_reducible refine gate_callee (f := 14) rfl ?_); refine goesL_ (some 15) rfl rfl Try.func14 (by kernel_rfl) rfl #[.int .i64 a0, .int .i64 a1] rfl (by (try simp only [List.map_toArray, List.map_cons, List.map_nil]); first | done | rfl | (simp only [List.length_drop, List.length_take]; rfl)) ?_; (with_reducible refine (trend_New.nil.calls a0 a1 t441 _ A67.out).mono ?_); rintro e w71 ⟨rfl, hb⟩; refine ⟨_, rfl, ?_⟩; have n0_ := Aside0.mk (below_step (by repeat (first | (with_reducible first | exact HB.out | apply below_alloc | apply pw_below_drewN | apply below_drew1) | exact HB.out)) hb); clear HB; have HB := n0_; clear n0_; (try clear hb); (try clear hb2); (try clear hk); (try clear hi)) | ((with_reducible refine gate_callee (f := 15) rfl ?_); refine goesL_ (some 21) rfl rfl Try.func15 (by kernel_rfl) rfl #[.int .i64 a0, .int .i64 a1] rfl (by (try simp only [List.map_toArray, List.map_cons, List.map_nil]); first | done | rfl | (simp only [List.length_drop, List.length_take]; rfl)) ?_; (with_reducible refine (flywheelref17_New.made.calls a0 a1 t442 t443 t444 t445 t446 t447 t448 t449 t451 w _ ?side1 A69.out).mono ?_); (case side1 => repeat (first | (with_reducible first | exact HB.out | apply below_alloc | apply pw_below_drewN | apply below_drew1) | exact HB.out)); rintro e w72 ⟨g450, rfl, hi, hb, hb2⟩; refine ⟨_, rfl, ?_⟩; have n0_ := Aside0.mk (hb); have n1_ := Aside0.mk (hi); clear HB; have HB := n0_; have HI450 := n1_; clear n0_ n1_; (try clear hb); (try clear hb2); (try clear hk); (try clear hi)))
   (try simp only [Act.put, List.setIfInBounds_toArray, List.set_cons_zero, List.set_cons_succ])
   go_cut [33] (fun v33 wc => ∃ (kq : Nat) (x33_69 : Bool), v33 = .bool x33_69 ∧ Aside0 (flywheellaw17_TrendPlays.j6 kq l2 x33_69 = some r) ∧ Aside0 (kq ≤ k) ∧ Aside0 (Below w.heap.size w wc))
   case first =>
    have H := HC70.out
    clear HC70
    by_cases c73 : t441 = t451
    ·rw [if_pos c73] at H
     have c73b0 : (t441 == t451) = true := beq_iff_eq.mpr c73
     have c73b1 : (t441 != t451) = false := bne_eq_false_iff_eq.mpr c73
     clear c73
     (first | rw [c73b0] | (simp only [i64_w, i32_w]; rw [c73b0]) | skip)
     have H' := Aside0.mk H
     clear H
     go_wp2
     go_meet
     case rel => exact ⟨_, (true), (by first | rfl | (simp; done) | (simp [*]; done)), H', ⟨by first | omega | exact Nat.le_refl _⟩, ⟨by repeat (first | (with_reducible first | exact HB.out | apply below_alloc | apply pw_below_drewN | apply below_drew1 | refine below_set ?_ (IsS62.ge HI450.out)) | exact HB.out)⟩⟩
    ·rw [if_neg c73] at H
     have c73b0 : (t441 == t451) = false := beq_eq_false_iff_ne.mpr c73
     have c73b1 : (t441 != t451) = true := bne_iff_ne.mpr c73
     (first | rw [c73b0] | (simp only [i64_w, i32_w]; rw [c73b0]) | skip)
     have H' := Aside0.mk H
     clear H
     go_wp2
     go_meet
     case rel => exact ⟨_, (true), (by first | rfl | (simp; done) | (simp [*]; done)), H', ⟨by first | omega | exact Nat.le_refl _⟩, ⟨by repeat (first | (with_reducible first | exact HB.out | apply below_alloc | apply pw_below_drewN | apply below_drew1 | refine below_set ?_ (IsS62.ge HI450.out)) | exact HB.out)⟩⟩
   case rest =>
    clear HC70
    try clear c1
    try clear c2
    try clear p2
    try clear p3
    try clear q3
    try clear hx3
    try clear c4
    try clear c4b0
    try clear c5
    try clear c6
    try clear c6b0
    try clear c7
    try clear c10
    try clear c14
    try clear c15
    try clear c16
    try clear c17
    try clear c18
    try clear c19
    try clear c21
    try clear c21b0
    try clear c21b1
    try clear p36
    try clear q36
    try clear hx36
    try clear p37
    try clear q37
    try clear hx37
    try clear p38
    try clear q38
    try clear hx38
    try clear c56
    try clear c56b0
    try clear c56b1
    try clear c57
    try clear c59
    try clear c59b0
    try clear c60
    try clear c60b0
    try clear c61
    try clear c62
    try clear c62b0
    try clear c63
    try clear c63b0
    try clear c68
    try clear c68b0
    try clear c73
    try clear c73b0
    try clear c73b1
    try clear hx368_0
    try clear hx368_1
    try clear hx369_0
    try clear hx369_1
    try clear hx379_0
    try clear hx379_1
    try clear hx380_0
    try clear hx380_1
    try clear p2
    try clear p3
    try clear p36
    try clear p368
    try clear p369
    try clear p37
    try clear p379
    try clear p38
    try clear p380
    try clear q3
    try clear q36
    try clear q368
    try clear q369
    try clear q37
    try clear q379
    try clear q38
    try clear q380
    obtain ⟨kq, x33_69, rfl, HA, HJ69, HB⟩ := hcut
    cases kq with
    | zero => exact absurd HA.out (by simp [flywheellaw17_TrendPlays.j6])
    | succ kj69 =>
     have H := HA.out
     clear HA
     simp only [flywheellaw17_TrendPlays.j6] at H
     by_cases c74 : x33_69 = true
     ·subst c74
      have H1 : (some false) = some r := by rw [if_pos rfl] at H; exact H
      clear H
      have H := H1
      clear H1
      obtain rfl := Option.some.inj H
      go_wp2
      go_ret
      exact ⟨by first | rfl | (simp [errW_none, errW_some] <;> rfl) | (simp [*, errW_none, errW_some] <;> rfl), by repeat (first | (with_reducible first | exact HB.out | apply below_alloc | apply pw_below_drewN | apply below_drew1) | exact HB.out)⟩
     ·replace c74 := Bool.eq_false_iff.mpr c74
      subst c74
      have H1 : (flywheellaw17_TrendPlays.l5001 kj69 l2 0) = some r := by rw [if_neg (show ¬ (false = true) by decide)] at H; exact H
      clear H
      have H := H1
      clear H1
      have H' := Aside0.mk H
      clear H
      go_wp2
      go_loopg [11] kj69 (fun kq v11 w' => ∃ (x11_2 : Int), v11 = .int .i64 x11_2 ∧ Aside0 (flywheellaw17_TrendPlays.l5001 kq l2 x11_2 = some r) ∧ Aside0 (kq ≤ kj69) ∧ Aside0 (Below w.heap.size w w'))
      case atStart => exact ⟨(0), (by first | rfl | (simp; done) | (simp [*]; done)), H', ⟨Nat.le_refl _⟩, ⟨by repeat (first | (with_reducible first | exact HB.out | apply below_alloc | apply pw_below_drewN | apply below_drew1) | exact HB.out)⟩⟩
      case round =>
       clear H'
       try clear c1
       try clear c2
       try clear p2
       try clear p3
       try clear q3
       try clear hx3
       try clear c4
       try clear c4b0
       try clear c5
       try clear c6
       try clear c6b0
       try clear c7
       try clear c10
       try clear c14
       try clear c15
       try clear c16
       try clear c17
       try clear c18
       try clear c19
       try clear c21
       try clear c21b0
       try clear c21b1
       try clear p36
       try clear q36
       try clear hx36
       try clear p37
       try clear q37
       try clear hx37
       try clear p38
       try clear q38
       try clear hx38
       try clear c56
       try clear c56b0
       try clear c56b1
       try clear c57
       try clear c59
       try clear c59b0
       try clear c60
       try clear c60b0
       try clear c61
       try clear c62
       try clear c62b0
       try clear c63
       try clear c63b0
       try clear c68
       try clear c68b0
       try clear c73
       try clear c73b0
       try clear c73b1
       try clear c74
       try clear hx368_0
       try clear hx368_1
       try clear hx369_0
       try clear hx369_1
       try clear hx379_0
       try clear hx379_1
       try clear hx380_0
       try clear hx380_1
       try clear p2
       try clear p3
       try clear p36
       try clear p368
       try clear p369
       try clear p37
       try clear p379
       try clear p38
       try clear p380
       try clear q3
       try clear q36
       try clear q368
       try clear q369
       try clear q37
       try clear q379
       try clear q38
       try clear q380
       obtain ⟨x11_2, rfl, HA, HK2, HB⟩ := hrel
       cases gk with
       | zero => exact absurd HA.out (by simp [flywheellaw17_TrendPlays.l5001])
       | succ k2 =>
        have H := HA.out
        clear HA
        simp only [flywheellaw17_TrendPlays.l5001] at H
        have HC75 := Aside0.mk H
        clear H
        go_upto_region 6 with (fail)
        go_cut [45] (fun v45 wc => ∃ (kq : Nat) (x45_74 : Bool), v45 = .bool x45_74 ∧ Aside0 (flywheellaw17_TrendPlays.j8 kq l2 x11_2 x45_74 = some r) ∧ Aside0 (kq ≤ k2) ∧ Aside0 (Below w.heap.size w wc))
        case first =>
         have H := HC75.out
         clear HC75
         by_cases c76 : x11_2 < (l2.length : Int)
         ·rw [if_pos c76] at H
          have c76b0 : decide (x11_2 < (l2.length : Int)) = true := decide_eq_true c76
          clear c76
          (first | rw [c76b0] | (simp only [i64_w, i32_w]; rw [c76b0]) | skip)
          by_cases c77 : x11_2 < 100
          ·rw [if_pos c77] at H
           have c77b0 : decide (x11_2 < 100) = true := decide_eq_true c77
           clear c77
           have H' := Aside0.mk H
           clear H
           go_wp2
           go_meet
           case rel => exact ⟨_, (true), (by first | rfl | (simp; done) | (simp [*]; done)), H', ⟨by have := HJ69.out; have := HK2.out; first | omega | exact Nat.le_refl _⟩, ⟨by repeat (first | (with_reducible first | exact HB.out | apply below_alloc | apply pw_below_drewN | apply below_drew1) | exact HB.out)⟩⟩
          ·rw [if_neg c77] at H
           have c77b0 : decide (x11_2 < 100) = false := decide_eq_false c77
           clear c77
           have H' := Aside0.mk H
           clear H
           go_wp2
           go_meet
           case rel => exact ⟨_, (false), (by first | rfl | (simp; done) | (simp [*]; done)), H', ⟨by have := HJ69.out; have := HK2.out; first | omega | exact Nat.le_refl _⟩, ⟨by repeat (first | (with_reducible first | exact HB.out | apply below_alloc | apply pw_below_drewN | apply below_drew1) | exact HB.out)⟩⟩
         ·rw [if_neg c76] at H
          have c76b0 : decide (x11_2 < (l2.length : Int)) = false := decide_eq_false c76
          clear c76
          (first | rw [c76b0] | (simp only [i64_w, i32_w]; rw [c76b0]) | skip)
          have H' := Aside0.mk H
          clear H
          go_wp2
          go_meet
          case rel => exact ⟨_, (false), (by first | rfl | (simp; done) | (simp [*]; done)), H', ⟨by have := HJ69.out; have := HK2.out; first | omega | exact Nat.le_refl _⟩, ⟨by repeat (first | (with_reducible first | exact HB.out | apply below_alloc | apply pw_below_drewN | apply below_drew1) | exact HB.out)⟩⟩
        case rest =>
         clear HC75
         try clear c1
         try clear c2
         try clear p2
         try clear p3
         try clear q3
         try clear hx3
         try clear c4
         try clear c4b0
         try clear c5
         try clear c6
         try clear c6b0
         try clear c7
         try clear c10
         try clear c14
         try clear c15
         try clear c16
         try clear c17
         try clear c18
         try clear c19
         try clear c21
         try clear c21b0
         try clear c21b1
         try clear p36
         try clear q36
         try clear hx36
         try clear p37
         try clear q37
         try clear hx37
         try clear p38
         try clear q38
         try clear hx38
         try clear c56
         try clear c56b0
         try clear c56b1
         try clear c57
         try clear c59
         try clear c59b0
         try clear c60
         try clear c60b0
         try clear c61
         try clear c62
         try clear c62b0
         try clear c63
         try clear c63b0
         try clear c68
         try clear c68b0
         try clear c73
         try clear c73b0
         try clear c73b1
         try clear c74
         try clear c76
         try clear c76b0
         try clear c77
         try clear c77b0
         try clear hx368_0
         try clear hx368_1
         try clear hx369_0
         try clear hx369_1
         try clear hx379_0
         try clear hx379_1
         try clear hx380_0
         try clear hx380_1
         try clear p2
         try clear p3
         try clear p36
         try clear p368
         try clear p369
         try clear p37
         try clear p379
         try clear p38
         try clear p380
         try clear q3
         try clear q36
         try clear q368
         try clear q369
         try clear q37
         try clear q379
         try clear q38
         try clear q380
         obtain ⟨kq, x45_74, rfl, HA, HJ74, HB⟩ := hcut
         cases kq with
         | zero => exact absurd HA.out (by simp [flywheellaw17_TrendPlays.j8])
         | succ kj74 =>
          have H := HA.out
          clear HA
          simp only [flywheellaw17_TrendPlays.j8] at H
          by_cases c78 : x45_74 = true
          ·subst c78
           have H1 : (if 0 ≤ x11_2 then (if x11_2 < (l2.length : Int) then (none) else (none)) else (none)) = some r := by rw [if_pos rfl] at H; exact H
           clear H
           have H := H1
           clear H1
           by_cases c79 : 0 ≤ x11_2
           ·rw [if_pos c79] at H
            have c79b0 : decide (0 ≤ x11_2) = true := decide_eq_true c79
            clear c79
            by_cases c80 : x11_2 < (l2.length : Int)
            ·rw [if_pos c80] at H
             have c80b0 : decide (x11_2 < (l2.length : Int)) = true := decide_eq_true c80
             clear c80
             exact absurd H (by simp)
            ·rw [if_neg c80] at H
             exact absurd H (by simp)
           ·rw [if_neg c79] at H
            exact absurd H (by simp)
          ·replace c78 := Bool.eq_false_iff.mpr c78
           subst c78
           have H1 : ((flywheellaw17_wakes.f kj74).bind fun t452 => (some t452)) = some r := by rw [if_neg (show ¬ (false = true) by decide)] at H; exact H
           clear H
           have H := H1
           clear H1
           replace H := Option.bind_eq_some_iff.mp H
           obtain ⟨t452, A810, H⟩ := H
           replace H : (some t452) = some r := H
           have A81 := Aside0.mk A810
           clear A810
           obtain rfl := Option.some.inj H
           go_wp2_with (first | ((with_reducible refine gate_callee (f := 10) rfl ?_); refine goesL_ (some 87) rfl rfl Try.func10 (by kernel_rfl) rfl #[] rfl (by (try simp only [List.map_toArray, List.map_cons, List.map_nil]); first | done | rfl | (simp only [List.length_drop, List.length_take]; rfl)) ?_; (with_reducible refine (flywheellaw17_wakes.calls kj74  t452 _ A81.out).mono ?_); rintro e w82 ⟨rfl, hb⟩; refine ⟨_, rfl, ?_⟩; have n0_ := Aside0.mk (below_step (by repeat (first | (with_reducible first | exact HB.out | apply below_alloc | apply pw_below_drewN | apply below_drew1) | exact HB.out)) hb); clear HB; have HB := n0_; clear n0_; (try clear hb); (try clear hb2); (try clear hk); (try clear hi)))
           go_ret
           exact ⟨by first | rfl | (simp [errW_none, errW_some] <;> rfl) | (simp [*, errW_none, errW_some] <;> rfl), by repeat (first | (with_reducible first | exact HB.out | apply below_alloc | apply pw_below_drewN | apply below_drew1) | exact HB.out)⟩
  ·rw [if_neg c68] at H
   have c68b0 : (flywheelref17_New.made.f a0 a1).isSome = false := by simpa using c68
   clear c68
   replace H := Option.bind_eq_some_iff.mp H
   obtain ⟨t455, A830, H⟩ := H
   replace H : (if t441 = t455 then (flywheellaw17_TrendPlays.j9 k l2 false) else (flywheellaw17_TrendPlays.j9 k l2 true)) = some r := H
   have A83 := Aside0.mk A830
   clear A830
   have HC84 := Aside0.mk H
   clear H
   go_enter Try.func4, Try.ntmps4
   go_upto_region 3 with (first | ((with_reducible refine gate_callee (f := 14) rfl ?_); refine goesL_ (some 15) rfl rfl Try.func14 (by kernel_rfl) rfl #[.int .i64 a0, .int .i64 a1] rfl (by (try simp only [List.map_toArray, List.map_cons, List.map_nil]); first | done | rfl | (simp only [List.length_drop, List.length_take]; rfl)) ?_; (with_reducible refine (trend_New.nil.calls a0 a1 t441 _ A67.out).mono ?_); rintro e w85 ⟨rfl, hb⟩; refine ⟨_, rfl, ?_⟩; have n0_ := Aside0.mk (below_step (by repeat (first | (with_reducible first | exact HB.out | apply below_alloc | apply pw_below_drewN | apply below_drew1) | exact HB.out)) hb); clear HB; have HB := n0_; clear n0_; (try clear hb); (try clear hb2); (try clear hk); (try clear hi)) | ((with_reducible refine gate_callee (f := 15) rfl ?_); refine goesL_ (some 21) rfl rfl Try.func15 (by kernel_rfl) rfl #[.int .i64 a0, .int .i64 a1] rfl (by (try simp only [List.map_toArray, List.map_cons, List.map_nil]); first | done | rfl | (simp only [List.length_drop, List.length_take]; rfl)) ?_; (with_reducible refine (flywheelref17_New.nil.calls a0 a1 t455 _ A83.out).mono ?_); rintro e w86 ⟨rfl, hb⟩; refine ⟨_, rfl, ?_⟩; have n0_ := Aside0.mk (below_step (by repeat (first | (with_reducible first | exact HB.out | apply below_alloc | apply pw_below_drewN | apply below_drew1) | exact HB.out)) hb); clear HB; have HB := n0_; clear n0_; (try clear hb); (try clear hb2); (try clear hk); (try clear hi)))
   (try simp only [Act.put, List.setIfInBounds_toArray, List.set_cons_zero, List.set_cons_succ])
   go_cut [33] (fun v33 wc => ∃ (kq : Nat) (x33_83 : Bool), v33 = .bool x33_83 ∧ Aside0 (flywheellaw17_TrendPlays.j9 kq l2 x33_83 = some r) ∧ Aside0 (kq ≤ k) ∧ Aside0 (Below w.heap.size w wc))
   case first =>
    have H := HC84.out
    clear HC84
    by_cases c87 : t441 = t455
    ·rw [if_pos c87] at H
     have c87b0 : (t441 == t455) = true := beq_iff_eq.mpr c87
     have c87b1 : (t441 != t455) = false := bne_eq_false_iff_eq.mpr c87
     clear c87
     (first | rw [c87b0] | (simp only [i64_w, i32_w]; rw [c87b0]) | skip)
     have H' := Aside0.mk H
     clear H
     go_wp2
     go_meet
     case rel => exact ⟨_, (false), (by first | rfl | (simp; done) | (simp [*]; done)), H', ⟨by first | omega | exact Nat.le_refl _⟩, ⟨by repeat (first | (with_reducible first | exact HB.out | apply below_alloc | apply pw_below_drewN | apply below_drew1) | exact HB.out)⟩⟩
    ·rw [if_neg c87] at H
     have c87b0 : (t441 == t455) = false := beq_eq_false_iff_ne.mpr c87
     have c87b1 : (t441 != t455) = true := bne_iff_ne.mpr c87
     (first | rw [c87b0] | (simp only [i64_w, i32_w]; rw [c87b0]) | skip)
     have H' := Aside0.mk H
     clear H
     go_wp2
     go_meet
     case rel => exact ⟨_, (true), (by first | rfl | (simp; done) | (simp [*]; done)), H', ⟨by first | omega | exact Nat.le_refl _⟩, ⟨by repeat (first | (with_reducible first | exact HB.out | apply below_alloc | apply pw_below_drewN | apply below_drew1) | exact HB.out)⟩⟩
   case rest =>
    clear HC84
    try clear c1
    try clear c2
    try clear p2
    try clear p3
    try clear q3
    try clear hx3
    try clear c4
    try clear c4b0
    try clear c5
    try clear c6
    try clear c6b0
    try clear c7
    try clear c8
    try clear c10
    try clear c14
    try clear c15
    try clear c16
    try clear c17
    try clear c18
    try clear c19
    try clear c21
    try clear c21b0
    try clear c21b1
    try clear p36
    try clear q36
    try clear hx36
    try clear p37
    try clear q37
    try clear hx37
    try clear p38
    try clear q38
    try clear hx38
    try clear c56
    try clear c56b0
    try clear c56b1
    try clear c57
    try clear c59
    try clear c59b0
    try clear c60
    try clear c60b0
    try clear c61
    try clear c62
    try clear c62b0
    try clear c63
    try clear c63b0
    try clear c68
    try clear c68b0
    try clear c73
    try clear c73b0
    try clear c73b1
    try clear c74
    try clear c76
    try clear c76b0
    try clear c77
    try clear c77b0
    try clear c78
    try clear c79
    try clear c79b0
    try clear c80
    try clear c80b0
    try clear c87
    try clear c87b0
    try clear c87b1
    try clear hx368_0
    try clear hx368_1
    try clear hx369_0
    try clear hx369_1
    try clear hx379_0
    try clear hx379_1
    try clear hx380_0
    try clear hx380_1
    try clear p2
    try clear p3
    try clear p36
    try clear p368
    try clear p369
    try clear p37
    try clear p379
    try clear p38
    try clear p380
    try clear q3
    try clear q36
    try clear q368
    try clear q369
    try clear q37
    try clear q379
    try clear q38
    try clear q380
    obtain ⟨kq, x33_83, rfl, HA, HJ83, HB⟩ := hcut
    cases kq with
    | zero => exact absurd HA.out (by simp [flywheellaw17_TrendPlays.j9])
    | succ kj83 =>
     have H := HA.out
     clear HA
     simp only [flywheellaw17_TrendPlays.j9] at H
     by_cases c88 : x33_83 = true
     ·subst c88
      have H1 : (some false) = some r := by rw [if_pos rfl] at H; exact H
      clear H
      have H := H1
      clear H1
      obtain rfl := Option.some.inj H
      go_wp2
      go_ret
      exact ⟨by first | rfl | (simp [errW_none, errW_some] <;> rfl) | (simp [*, errW_none, errW_some] <;> rfl), by repeat (first | (with_reducible first | exact HB.out | apply below_alloc | apply pw_below_drewN | apply below_drew1) | exact HB.out)⟩
     ·replace c88 := Bool.eq_false_iff.mpr c88
      subst c88
      have H1 : (flywheellaw17_TrendPlays.l5002 kj83 l2 0) = some r := by rw [if_neg (show ¬ (false = true) by decide)] at H; exact H
      clear H
      have H := H1
      clear H1
      have H' := Aside0.mk H
      clear H
      go_wp2
      go_loopg [11] kj83 (fun kq v11 w' => ∃ (x11_2 : Int), v11 = .int .i64 x11_2 ∧ Aside0 (flywheellaw17_TrendPlays.l5002 kq l2 x11_2 = some r) ∧ Aside0 (kq ≤ kj83) ∧ Aside0 (Below w.heap.size w w'))
      case atStart => exact ⟨(0), (by first | rfl | (simp; done) | (simp [*]; done)), H', ⟨Nat.le_refl _⟩, ⟨by repeat (first | (with_reducible first | exact HB.out | apply below_alloc | apply pw_below_drewN | apply below_drew1) | exact HB.out)⟩⟩
      case round =>
       clear H'
       try clear c1
       try clear c2
       try clear p2
       try clear p3
       try clear q3
       try clear hx3
       try clear c4
       try clear c4b0
       try clear c5
       try clear c6
       try clear c6b0
       try clear c7
       try clear c8
       try clear c10
       try clear c14
       try clear c15
       try clear c16
       try clear c17
       try clear c18
       try clear c19
       try clear c21
       try clear c21b0
       try clear c21b1
       try clear p36
       try clear q36
       try clear hx36
       try clear p37
       try clear q37
       try clear hx37
       try clear p38
       try clear q38
       try clear hx38
       try clear c56
       try clear c56b0
       try clear c56b1
       try clear c57
       try clear c59
       try clear c59b0
       try clear c60
       try clear c60b0
       try clear c61
       try clear c62
       try clear c62b0
       try clear c63
       try clear c63b0
       try clear c68
       try clear c68b0
       try clear c73
       try clear c73b0
       try clear c73b1
       try clear c74
       try clear c76
       try clear c76b0
       try clear c77
       try clear c77b0
       try clear c78
       try clear c79
       try clear c79b0
       try clear c80
       try clear c80b0
       try clear c87
       try clear c87b0
       try clear c87b1
       try clear c88
       try clear hx368_0
       try clear hx368_1
       try clear hx369_0
       try clear hx369_1
       try clear hx379_0
       try clear hx379_1
       try clear hx380_0
       try clear hx380_1
       try clear p2
       try clear p3
       try clear p36
       try clear p368
       try clear p369
       try clear p37
       try clear p379
       try clear p38
       try clear p380
       try clear q3
       try clear q36
       try clear q368
       try clear q369
       try clear q37
       try clear q379
       try clear q38
       try clear q380
       obtain ⟨x11_2, rfl, HA, HK2, HB⟩ := hrel
       cases gk with
       | zero => exact absurd HA.out (by simp [flywheellaw17_TrendPlays.l5002])
       | succ k2 =>
        have H := HA.out
        clear HA
        simp only [flywheellaw17_TrendPlays.l5002] at H
        have HC89 := Aside0.mk H
        clear H
        go_upto_region 6 with (fail)
        go_cut [45] (fun v45 wc => ∃ (kq : Nat) (x45_88 : Bool), v45 = .bool x45_88 ∧ Aside0 (flywheellaw17_TrendPlays.j11 kq l2 x11_2 x45_88 = some r) ∧ Aside0 (kq ≤ k2) ∧ Aside0 (Below w.heap.size w wc))
        case first =>
         have H := HC89.out
         clear HC89
         by_cases c90 : x11_2 < (l2.length : Int)
         ·rw [if_pos c90] at H
          have c90b0 : decide (x11_2 < (l2.length : Int)) = true := decide_eq_true c90
          clear c90
          (first | rw [c90b0] | (simp only [i64_w, i32_w]; rw [c90b0]) | skip)
          by_cases c91 : x11_2 < 100
          ·rw [if_pos c91] at H
           have c91b0 : decide (x11_2 < 100) = true := decide_eq_true c91
           clear c91
           have H' := Aside0.mk H
           clear H
           go_wp2
           go_meet
           case rel => exact ⟨_, (false), (by first | rfl | (simp; done) | (simp [*]; done)), H', ⟨by have := HJ83.out; have := HK2.out; first | omega | exact Nat.le_refl _⟩, ⟨by repeat (first | (with_reducible first | exact HB.out | apply below_alloc | apply pw_below_drewN | apply below_drew1) | exact HB.out)⟩⟩
          ·rw [if_neg c91] at H
           have c91b0 : decide (x11_2 < 100) = false := decide_eq_false c91
           clear c91
           have H' := Aside0.mk H
           clear H
           go_wp2
           go_meet
           case rel => exact ⟨_, (false), (by first | rfl | (simp; done) | (simp [*]; done)), H', ⟨by have := HJ83.out; have := HK2.out; first | omega | exact Nat.le_refl _⟩, ⟨by repeat (first | (with_reducible first | exact HB.out | apply below_alloc | apply pw_below_drewN | apply below_drew1) | exact HB.out)⟩⟩
         ·rw [if_neg c90] at H
          have c90b0 : decide (x11_2 < (l2.length : Int)) = false := decide_eq_false c90
          clear c90
          (first | rw [c90b0] | (simp only [i64_w, i32_w]; rw [c90b0]) | skip)
          have H' := Aside0.mk H
          clear H
          go_wp2
          go_meet
          case rel => exact ⟨_, (false), (by first | rfl | (simp; done) | (simp [*]; done)), H', ⟨by have := HJ83.out; have := HK2.out; first | omega | exact Nat.le_refl _⟩, ⟨by repeat (first | (with_reducible first | exact HB.out | apply below_alloc | apply pw_below_drewN | apply below_drew1) | exact HB.out)⟩⟩
        case rest =>
         clear HC89
         try clear c1
         try clear c2
         try clear p2
         try clear p3
         try clear q3
         try clear hx3
         try clear c4
         try clear c4b0
         try clear c5
         try clear c6
         try clear c6b0
         try clear c7
         try clear c8
         try clear c9
         try clear c10
         try clear c14
         try clear c15
         try clear c16
         try clear c17
         try clear c18
         try clear c19
         try clear c21
         try clear c21b0
         try clear c21b1
         try clear p36
         try clear q36
         try clear hx36
         try clear p37
         try clear q37
         try clear hx37
         try clear p38
         try clear q38
         try clear hx38
         try clear c56
         try clear c56b0
         try clear c56b1
         try clear c57
         try clear c59
         try clear c59b0
         try clear c60
         try clear c60b0
         try clear c61
         try clear c62
         try clear c62b0
         try clear c63
         try clear c63b0
         try clear c68
         try clear c68b0
         try clear c73
         try clear c73b0
         try clear c73b1
         try clear c74
         try clear c76
         try clear c76b0
         try clear c77
         try clear c77b0
         try clear c78
         try clear c79
         try clear c79b0
         try clear c80
         try clear c80b0
         try clear c87
         try clear c87b0
         try clear c87b1
         try clear c88
         try clear c90
         try clear c90b0
         try clear c91
         try clear c91b0
         try clear hx368_0
         try clear hx368_1
         try clear hx369_0
         try clear hx369_1
         try clear hx379_0
         try clear hx379_1
         try clear hx380_0
         try clear hx380_1
         try clear p2
         try clear p3
         try clear p36
         try clear p368
         try clear p369
         try clear p37
         try clear p379
         try clear p38
         try clear p380
         try clear q3
         try clear q36
         try clear q368
         try clear q369
         try clear q37
         try clear q379
         try clear q38
         try clear q380
         obtain ⟨kq, x45_88, rfl, HA, HJ88, HB⟩ := hcut
         cases kq with
         | zero => exact absurd HA.out (by simp [flywheellaw17_TrendPlays.j11])
         | succ kj88 =>
          have H := HA.out
          clear HA
          simp only [flywheellaw17_TrendPlays.j11] at H
          by_cases c92 : x45_88 = true
          ·subst c92
           have H1 : (if 0 ≤ x11_2 then (if x11_2 < (l2.length : Int) then (none) else (none)) else (none)) = some r := by rw [if_pos rfl] at H; exact H
           clear H
           have H := H1
           clear H1
           by_cases c93 : 0 ≤ x11_2
           ·rw [if_pos c93] at H
            have c93b0 : decide (0 ≤ x11_2) = true := decide_eq_true c93
            clear c93
            by_cases c94 : x11_2 < (l2.length : Int)
            ·rw [if_pos c94] at H
             have c94b0 : decide (x11_2 < (l2.length : Int)) = true := decide_eq_true c94
             clear c94
             exact absurd H (by simp)
            ·rw [if_neg c94] at H
             exact absurd H (by simp)
           ·rw [if_neg c93] at H
            exact absurd H (by simp)
          ·replace c92 := Bool.eq_false_iff.mpr c92
           subst c92
           have H1 : ((flywheellaw17_wakes.f kj88).bind fun t456 => (some t456)) = some r := by rw [if_neg (show ¬ (false = true) by decide)] at H; exact H
           clear H
           have H := H1
           clear H1
           replace H := Option.bind_eq_some_iff.mp H
           obtain ⟨t456, A950, H⟩ := H
           replace H : (some t456) = some r := H
           have A95 := Aside0.mk A950
           clear A950
           obtain rfl := Option.some.inj H
           go_wp2_with (first | ((with_reducible refine gate_callee (f := 10) rfl ?_); refine goesL_ (some 87) rfl rfl Try.func10 (by kernel_rfl) rfl #[] rfl (by (try simp only [List.map_toArray, List.map_cons, List.map_nil]); first | done | rfl | (simp only [List.length_drop, List.length_take]; rfl)) ?_; (with_reducible refine (flywheellaw17_wakes.calls kj88  t456 _ A95.out).mono ?_); rintro e w96 ⟨rfl, hb⟩; refine ⟨_, rfl, ?_⟩; have n0_ := Aside0.mk (below_step (by repeat (first | (with_reducible first | exact HB.out | apply below_alloc | apply pw_below_drewN | apply below_drew1) | exact HB.out)) hb); clear HB; have HB := n0_; clear n0_; (try clear hb); (try clear hb2); (try clear hk); (try clear hi)))
           go_ret
           exact ⟨by first | rfl | (simp [errW_none, errW_some] <;> rfl) | (simp [*, errW_none, errW_some] <;> rfl), by repeat (first | (with_reducible first | exact HB.out | apply below_alloc | apply pw_below_drewN | apply below_drew1) | exact HB.out)⟩
def flywheellaw17_TrendPlays.Pure : Prop := ∀ (a0 : Int) (a1 : Int) (l2 : List (S36)), (Lit.int .i64 a0).wf = true → (Lit.int .i64 a1).wf = true → l2.length ≤ maxLen → l2.length * 16 ≤ 140737488351232 → (∀ x ∈ l2, (Lit.int .i64 x.f0).wf = true ∧ (Lit.int .i64 x.f1).wf = true) → ∃ k, flywheellaw17_TrendPlays.f k a0 a1 l2 = some true
theorem flywheellaw17_TrendPlays.walk (P : flywheellaw17_TrendPlays.Pure) (a0 : Int) (a1 : Int) (A2 : Option Addr) (c2 : Nat) (l2 : List (S36)) (w : World) (w0 : (Lit.int .i64 a0).wf = true) (w1 : (Lit.int .i64 a1).wf = true) (hm2 : l2.length ≤ maxLen) (y2 : l2.length * 16 ≤ 140737488351232) (hw2 : (∀ x ∈ l2, (Lit.int .i64 x.f0).wf = true ∧ (Lit.int .i64 x.f1).wf = true)) (hr2 : Kd.C k36 w A2 l2.length l2) (hc2 : l2.length ≤ c2) :
  Calls Try.prog 4 #[.int .i64 a0, .int .i64 a1, .slice A2 l2.length c2] w fun e w' => e = .returned (.bool true) ∧ Below w.heap.size w w' := by
 obtain ⟨k, h⟩ := P a0 a1 l2 w0 w1 hm2 y2 hw2
 refine (flywheellaw17_TrendPlays.calls k a0 a1 A2 c2 l2 true w hr2 hc2 h).mono ?_
 rintro e w' ⟨rfl, hd⟩
 exact ⟨rfl, hd⟩
end Go.Proofs.Ytmcfgaokimlngaa.P
end

section
namespace Go.Proofs.Ytmcfgaokimlngaa.P
open Go.RowKit
set_option linter.unusedVariables false
set_option linter.unusedSimpArgs false
theorem rclamp_eq (a lo hi : Int) : flywheelref01_Clamp.f a lo hi = some (if a < lo then lo else if a > hi then hi else a) := by
  unfold flywheelref01_Clamp.f
  split
  · rfl
  · split <;> rfl
end Go.Proofs.Ytmcfgaokimlngaa.P
end

section
namespace Go.Proofs.Ytmcfgaokimlngaa.P
open Go.RowKit
set_option linter.unusedVariables false
set_option linter.unusedSimpArgs false
theorem clamp_eq (a lo hi : Int) : sat_Clamp.f a lo hi = some (if a < lo then lo else if a > hi then hi else a) := by
  unfold sat_Clamp.f
  split
  · rfl
  · split <;> rfl
end Go.Proofs.Ytmcfgaokimlngaa.P
end

section
namespace Go.Proofs.Ytmcfgaokimlngaa.P
open Go.RowKit Go.Proofs.YtmcfgaokimlngaaW.PrintWords Go.Proofs.YtmcfgaokimlngaaW.PrintLast Go.Proofs.YtmcfgaokimlngaaW.PrintMore
attribute [local go_sem] max2_int min2_int max_two min_two max_three min_three max_four min_four   -- for this text's walks alone
set_option linter.unusedVariables false
set_option linter.unusedSimpArgs false
end Go.Proofs.Ytmcfgaokimlngaa.P
end

section
namespace Go.Proofs.Ytmcfgaokimlngaa.P
open Go.RowKit Go.Proofs.YtmcfgaokimlngaaW.PrintWords Go.Proofs.YtmcfgaokimlngaaW.PrintLast Go.Proofs.YtmcfgaokimlngaaW.PrintMore
attribute [local go_sem] max2_int min2_int max_two min_two max_three min_three max_four min_four   -- for this text's walks alone
set_option linter.unusedVariables false
set_option linter.unusedSimpArgs false
end Go.Proofs.Ytmcfgaokimlngaa.P
end

-- PUT TOGETHER by a program of this session: of the claim's texts, what is used
import Derived.Test.YtdddpmmpfemibaaKProbePlays7
import Derived.Test.YtdddpmmpfemibaaKProbePlays8
import Derived.Test.YtdddpmmpfemibaaKProbePlays9
import Derived.Test.YtdddpmmpfemibaaKProbePlays10
section
namespace Go.Proofs.Ytdddpmmpfemibaa.P
open Go.RowKit Go.Proofs.YtdddpmmpfemibaaW.PrintWords Go.Proofs.YtdddpmmpfemibaaW.PrintLast Go.Proofs.YtdddpmmpfemibaaW.PrintMore
attribute [local go_sem] max2_int min2_int max_two min_two max_three min_three max_four min_four   -- for this text's walks alone
set_option linter.unusedVariables false
set_option linter.unusedSimpArgs false
theorem TB.of {W : World} {b : Nat} {cs : Array Value} {t : TypeId} (h : W.heap[b]? = some (.cells cs t (0, 0))) (ht : t ≠ 42 ∧ t ≠ 49 ∧ t ≠ 45 ∧ t ≠ 52 ∧ t ≠ 57) : TB W b := ⟨cs, t, h, ht⟩
theorem IsS45.keepM {w0 W0 W W1 : World} {g : Nat} {s : PrS} (h : IsS45 w0 W0 g s) (hm : IsS45 w0 W0 g s → IsS45 w0 W g s) (hk : KeepT W W1) {p : Prop} (_ : p) : IsS45 w0 W1 g s := (hm h).keepT hk
theorem IsS42.keepM {w0 W0 W W1 : World} {g : Nat} {s : PbS} (h : IsS42 w0 W0 g s) (hm : IsS42 w0 W0 g s → IsS42 w0 W g s) (hk : KeepR W W1) {p : Prop} (_ : p) : IsS42 w0 W1 g s := (hm h).keepR hk
mutual
def flywheellaw26_ProbePlays.l0 : Nat → List (S28) → Int → PbS → PrS → Option (Bool)
 | 0, _, _, _, _ => none
 | k + 1, x0, x5, x156000, x158000 => if x5 < (x0.length : Int) then (flywheellaw26_ProbePlays.j1 k x0 x5 (decide (x5 < 200)) x156000 x158000) else (flywheellaw26_ProbePlays.j1 k x0 x5 false x156000 x158000)
def flywheellaw26_ProbePlays.j1 : Nat → List (S28) → Int → Bool → PbS → PrS → Option (Bool)
 | 0, _, _, _, _, _ => none
 | k + 1, x0, x5, x22, x156000, x158000 => if x22 = true then (if 0 ≤ x5 then (if x5 < (x0.length : Int) then (if ((rd_T28 x0 x5).f0) = 0 then ((probe_Probe_Start.f x156000 ((rd_T28 x0 x5).f3)).bind fun bt161 => ((flywheelref26_Probe_Start.f x158000 ((rd_T28 x0 x5).f3)).bind fun bt163 => (if bt161.1 = bt163.1 then (flywheellaw26_ProbePlays.j2 k x0 x5 bt161.2 bt163.2) else (some false)))) else (if ((rd_T28 x0 x5).f0) = 1 then ((probe_Probe_Sent.f x156000 ((rd_T28 x0 x5).f1) ((rd_T28 x0 x5).f2) ((rd_T28 x0 x5).f4)).bind fun bt165 => ((flywheelref26_Probe_Sent.f x158000 ((rd_T28 x0 x5).f1) ((rd_T28 x0 x5).f2) ((rd_T28 x0 x5).f4)).bind fun bt167 => (if bt165.1 = true then (if bt167.1 = true then (flywheellaw26_ProbePlays.j2 k x0 x5 bt165.2 bt167.2) else (some false)) else (if bt167.1 = true then (some false) else (flywheellaw26_ProbePlays.j2 k x0 x5 bt165.2 bt167.2))))) else (if ((rd_T28 x0 x5).f0) = 2 then ((probe_Probe_Got.f k x156000 ((rd_T28 x0 x5).f1) ((rd_T28 x0 x5).f2) ((rd_T28 x0 x5).f4) ((rd_T28 x0 x5).f5)).bind fun bt169 => ((flywheelref26_Probe_Got.f x158000 ((rd_T28 x0 x5).f1) ((rd_T28 x0 x5).f2) ((rd_T28 x0 x5).f4) ((rd_T28 x0 x5).f5)).bind fun bt171 => (if bt169.1 = bt171.1 then (flywheellaw26_ProbePlays.j2 k x0 x5 bt169.2 bt171.2) else (some false)))) else (flywheellaw26_ProbePlays.j2 k x0 x5 x156000 x158000)))) else (none)) else (none)) else ((flywheellaw26_wakes.f).bind fun t158 => (some t158))
def flywheellaw26_ProbePlays.j2 : Nat → List (S28) → Int → PbS → PrS → Option (Bool)
 | 0, _, _, _, _ => none
 | k + 1, x0, x5, x156000, x158000 => (probe_Probe_Open.f x156000).bind fun bt173 => ((flywheelref26_Probe_Open.f x158000).bind fun bt177 => (if bt173.1 = bt177.1 then (if bt173.2.1 = bt177.2.1 then (if bt173.2.2.1 = bt177.2.2.1 then ((probe_Probe_Best.f bt173.2.2.2).bind fun bt182 => ((flywheelref26_Probe_Best.f bt177.2.2.2).bind fun bt184 => (if bt182.1 = bt184.1 then (flywheellaw26_ProbePlays.l0 k x0 (wrap64 (x5 + 1)) bt182.2 bt184.2) else (some false)))) else (some false)) else (some false)) else (some false)))
end
def flywheellaw26_ProbePlays.f (k : Nat) (l0 : List (S28)) : Option (Bool) := (probe_New.f).bind fun t154 => ((flywheelref26_New.f).bind fun t156 => (flywheellaw26_ProbePlays.l0 k l0 0 t154 t156))
def flywheellaw26_ProbePlays.T10 : Bool × List (List Nat × List Nat) := (true, [([], []), ([], []), ([1], [1]), ([0, 2], [0, 2]), ([], []), ([], []), ([5], [5]), ([4, 6, 3], [4, 6]), ([3, 7], [3, 7])])
def flywheellaw26_ProbePlays.B10 : List Nat := [0, 0, 2, 7, 0, 0, 32, 127, 255]
theorem flywheellaw26_ProbePlays.tab10 : rtab .any (opsOf Try.f3 10) = flywheellaw26_ProbePlays.T10 := by kernel_rfl
theorem flywheellaw26_ProbePlays.bits10 : waitsOk flywheellaw26_ProbePlays.T10.2 flywheellaw26_ProbePlays.B10 = true := by kernel_rfl
def flywheellaw26_ProbePlays.T13 : Bool × List (List Nat × List Nat) := (true, [([], []), ([], []), ([1], [1]), ([], []), ([3], [3]), ([], []), ([5], [5]), ([0, 2, 4, 6], [0, 2, 4, 6]), ([], []), ([], []), ([9], [9]), ([], []), ([11], [11]), ([], []), ([13], [13]), ([8, 10, 12, 14, 7], [8, 10, 12, 14]), ([7, 15], [7, 15])])
def flywheellaw26_ProbePlays.B13 : List Nat := [0, 0, 2, 0, 8, 0, 32, 127, 0, 0, 512, 0, 2048, 0, 8192, 32767, 65535]
theorem flywheellaw26_ProbePlays.tab13 : rtab .any (opsOf Try.f3 13) = flywheellaw26_ProbePlays.T13 := by kernel_rfl
theorem flywheellaw26_ProbePlays.bits13 : waitsOk flywheellaw26_ProbePlays.T13.2 flywheellaw26_ProbePlays.B13 = true := by kernel_rfl
def flywheellaw26_ProbePlays.T16 : Bool × List (List Nat × List Nat) := (true, [([], []), ([], []), ([1], [1]), ([], []), ([3], [3]), ([], []), ([5], [5]), ([], []), ([7], [7]), ([0, 2, 4, 6, 8], [0, 2, 4, 6, 8]), ([], []), ([], []), ([11], [11]), ([], []), ([13], [13]), ([], []), ([15], [15]), ([], []), ([17], [17]), ([10, 12, 14, 16, 18, 9], [10, 12, 14, 16, 18]), ([9, 19], [9, 19])])
def flywheellaw26_ProbePlays.B16 : List Nat := [0, 0, 2, 0, 8, 0, 32, 0, 128, 511, 0, 0, 2048, 0, 8192, 0, 32768, 0, 131072, 524287, 1048575]
theorem flywheellaw26_ProbePlays.tab16 : rtab .any (opsOf Try.f3 16) = flywheellaw26_ProbePlays.T16 := by kernel_rfl
theorem flywheellaw26_ProbePlays.bits16 : waitsOk flywheellaw26_ProbePlays.T16.2 flywheellaw26_ProbePlays.B16 = true := by kernel_rfl
set_option maxHeartbeats 8000000 in
set_option maxRecDepth 100000 in
theorem flywheellaw26_ProbePlays.calls (k : Nat) (A0 : Option Addr) (c0 : Nat) (l0 : List (S28)) (r : Bool) (w : World) (hr0 : Kd.C k28 w A0 l0.length l0) (hc0 : l0.length ≤ c0) (h : flywheellaw26_ProbePlays.f k l0 = some r) :
  Calls Try.prog 3 #[.slice A0 l0.length c0] w fun e w' => e = .returned (.bool r) ∧ Below w.heap.size w w' := by
 have hu28 := Try.underlying28
 have hu35 := Try.underlying35
 have hpn23_eql : ∀ (a_ : Addr) (W_ : World), (Go.binOp .eql 23 (.pointer (some a_)) (.pointer none)).run Try.prog W_ = .ok (.bool false) W_ := fun _ _ => by kernel_rfl
 have hnn23_eql : ∀ (W_ : World), (Go.binOp .eql 23 (.pointer none) (.pointer none)).run Try.prog W_ = .ok (.bool true) W_ := fun _ => by kernel_rfl
 have HR0 := Aside0.mk hr0
 have HC0 := Aside0.mk hc0
 clear hr0 hc0
 have HB := Aside0.mk (Below.refl w.heap.size w)
 have H : ((probe_New.f).bind fun t154 => ((flywheelref26_New.f).bind fun t156 => (flywheellaw26_ProbePlays.l0 k l0 0 t154 t156))) = some r := h
 clear h
 replace H := Option.bind_eq_some_iff.mp H
 obtain ⟨t154, A20, H⟩ := H
 replace H : ((flywheelref26_New.f).bind fun t156 => (flywheellaw26_ProbePlays.l0 k l0 0 t154 t156)) = some r := H
 have A2 := Aside0.mk A20
 clear A20
 replace H := Option.bind_eq_some_iff.mp H
 obtain ⟨t156, A30, H⟩ := H
 replace H : (flywheellaw26_ProbePlays.l0 k l0 0 t154 t156) = some r := H
 have A3 := Aside0.mk A30
 clear A30
 have H' := Aside0.mk H
 clear H
 go_enter Try.func3, Try.ntmps3
 go_wp2_with (first | ((with_reducible refine gate_callee (f := 4) rfl ?_); refine goesL_ (some 11) rfl rfl Try.func4 (by kernel_rfl) rfl #[] rfl (by (try simp only [List.map_toArray, List.map_cons, List.map_nil]); first | done | rfl | (simp only [List.length_drop, List.length_take]; rfl)) ?_; (with_reducible refine (probe_New.calls  t154 _ _ (Below.refl _ _) A2.out).mono ?_); rintro e w4 ⟨g155, rfl, hi, hb, hb2⟩; refine ⟨_, rfl, ?_⟩; have n0_ := Aside0.mk (below_step (by repeat (first | (with_reducible first | exact HB.out | apply below_alloc | apply pw_below_drewN | apply below_drew1) | exact HB.out)) hb2); have n1_ := Aside0.mk ((IsS42.rebase hi (below_size (by repeat (first | (with_reducible first | exact HB.out | apply below_alloc | apply pw_below_drewN | apply below_drew1) | exact HB.out))))); clear HB; have HB := n0_; have HI155 := n1_; clear n0_ n1_; (try clear hb); (try clear hb2); (try clear hk); (try clear hi)) | ((with_reducible refine gate_callee (f := 5) rfl ?_); refine goesL_ (some 12) rfl rfl Try.func5 (by kernel_rfl) rfl #[] rfl (by (try simp only [List.map_toArray, List.map_cons, List.map_nil]); first | done | rfl | (simp only [List.length_drop, List.length_take]; rfl)) ?_; (with_reducible refine (flywheelref26_New.calls  t156 _ _ (Below.refl _ _) A3.out).mono ?_); rintro e w5 ⟨g157, rfl, hi, hb, hb2⟩; refine ⟨_, rfl, ?_⟩; have n0_ := Aside0.mk (IsS42.below (by repeat (first | (with_reducible first | exact HI155.out | apply IsS42.alloc | apply IsS42.drewN | apply IsS42.drew) | exact HI155.out)) hb2); have n1_ := Aside0.mk (below_step (by repeat (first | (with_reducible first | exact HB.out | apply below_alloc | apply pw_below_drewN | apply below_drew1 | refine below_set ?_ (IsS42.ge HI155.out)) | exact HB.out)) hb2); have n2_ := Aside0.mk ((IsS45.rebase hi (below_size (by repeat (first | (with_reducible first | exact HB.out | apply below_alloc | apply pw_below_drewN | apply below_drew1 | refine below_set ?_ (IsS42.ge HI155.out)) | exact HB.out))))); have n3_ := Aside0.mk ((Nat.ne_of_gt (Nat.lt_of_lt_of_le (IsS42.lt (by repeat (first | (with_reducible first | exact HI155.out | apply IsS42.alloc | apply IsS42.drewN | apply IsS42.drew) | exact HI155.out))) (IsS45.ge hi)))); have n4_ := Aside0.mk (Ne.symm (Nat.ne_of_gt (Nat.lt_of_lt_of_le (IsS42.lt (by repeat (first | (with_reducible first | exact HI155.out | apply IsS42.alloc | apply IsS42.drewN | apply IsS42.drew) | exact HI155.out))) (IsS45.ge hi)))); clear HI155; clear HB; have HI155 := n0_; have HB := n1_; have HI157 := n2_; have NB157_155 := n3_; have NB155_157 := n4_; clear n0_ n1_ n2_ n3_ n4_; (try clear hb); (try clear hb2); (try clear hk); (try clear hi)))
 go_loopg [5] k (fun kq v5 w' => ∃ (x5_1 : Int) (x156000_1 : PbS) (x158000_1 : PrS), v5 = .int .i64 x5_1 ∧ Aside0 (flywheellaw26_ProbePlays.l0 kq l0 x5_1 x156000_1 x158000_1 = some r) ∧ Aside0 (kq ≤ k) ∧ Aside0 (IsS42 w w' g155 x156000_1) ∧ Aside0 (IsS45 w w' g157 x158000_1) ∧ Aside0 (Below w.heap.size w w'))
 case atStart => exact ⟨(0), (t154), (t156), (by first | rfl | (simp; done) | (simp [*]; done)), H', ⟨Nat.le_refl _⟩, ⟨by repeat (first | (with_reducible first | exact HI155.out | apply IsS42.alloc | apply IsS42.drewN | apply IsS42.drew) | exact HI155.out)⟩, ⟨by repeat (first | (with_reducible first | exact HI157.out | apply IsS45.alloc | apply IsS45.drewN | apply IsS45.drew) | exact HI157.out)⟩, ⟨by repeat (first | (with_reducible first | exact HB.out | apply below_alloc | apply pw_below_drewN | apply below_drew1 | refine below_set ?_ (IsS42.ge HI155.out) | refine below_set ?_ (IsS45.ge HI157.out)) | exact HB.out)⟩⟩
 case round =>
  clear H'
  try clear p2
  try clear c3
  try clear c4
  try clear c5
  obtain ⟨x5_1, x156000_1, x158000_1, rfl, HA, HK1, HI155, HI157, HB⟩ := hrel
  cases gk with
  | zero => exact absurd HA.out (by simp [flywheellaw26_ProbePlays.l0])
  | succ k1 =>
   have H := HA.out
   clear HA
   simp only [flywheellaw26_ProbePlays.l0] at H
   have HC6 := Aside0.mk H
   clear H
   go_upto_region 5 with (fail)
   go_cut [22] (fun v22 wc => ∃ (kq : Nat) (x22_5 : Bool), v22 = .bool x22_5 ∧ Aside0 (flywheellaw26_ProbePlays.j1 kq l0 x5_1 x22_5 x156000_1 x158000_1 = some r) ∧ Aside0 (kq ≤ k1) ∧ Aside0 (IsS42 w wc g155 x156000_1) ∧ Aside0 (IsS45 w wc g157 x158000_1) ∧ Aside0 (Below w.heap.size w wc))
   case first =>
    have H := HC6.out
    clear HC6
    by_cases c7 : x5_1 < (l0.length : Int)
    ·rw [if_pos c7] at H
     have c7b0 : decide (x5_1 < (l0.length : Int)) = true := decide_eq_true c7
     clear c7
     (first | rw [c7b0] | (simp only [i64_w, i32_w]; rw [c7b0]) | skip)
     have H' := Aside0.mk H
     clear H
     go_wp2
     go_meet
     case rel => exact ⟨_, (decide (x5_1 < 200)), (by first | rfl | (simp; done) | (simp [*]; done)), H', ⟨by have := HK1.out; first | omega | exact Nat.le_refl _⟩, ⟨by repeat (first | (with_reducible first | exact HI155.out | apply IsS42.alloc | apply IsS42.drewN | apply IsS42.drew) | exact HI155.out)⟩, ⟨by repeat (first | (with_reducible first | exact HI157.out | apply IsS45.alloc | apply IsS45.drewN | apply IsS45.drew) | exact HI157.out)⟩, ⟨by repeat (first | (with_reducible first | exact HB.out | apply below_alloc | apply pw_below_drewN | apply below_drew1 | refine below_set ?_ (IsS42.ge HI155.out) | refine below_set ?_ (IsS45.ge HI157.out)) | exact HB.out)⟩⟩
    ·rw [if_neg c7] at H
     have c7b0 : decide (x5_1 < (l0.length : Int)) = false := decide_eq_false c7
     clear c7
     (first | rw [c7b0] | (simp only [i64_w, i32_w]; rw [c7b0]) | skip)
     have H' := Aside0.mk H
     clear H
     go_wp2
     go_meet
     case rel => exact ⟨_, (false), (by first | rfl | (simp; done) | (simp [*]; done)), H', ⟨by have := HK1.out; first | omega | exact Nat.le_refl _⟩, ⟨by repeat (first | (with_reducible first | exact HI155.out | apply IsS42.alloc | apply IsS42.drewN | apply IsS42.drew) | exact HI155.out)⟩, ⟨by repeat (first | (with_reducible first | exact HI157.out | apply IsS45.alloc | apply IsS45.drewN | apply IsS45.drew) | exact HI157.out)⟩, ⟨by repeat (first | (with_reducible first | exact HB.out | apply below_alloc | apply pw_below_drewN | apply below_drew1 | refine below_set ?_ (IsS42.ge HI155.out) | refine below_set ?_ (IsS45.ge HI157.out)) | exact HB.out)⟩⟩
   case rest =>
    clear HC6
    try clear p2
    try clear c3
    try clear c4
    try clear c5
    try clear c7
    try clear c7b0
    try clear p2
    obtain ⟨kq, x22_5, rfl, HA, HJ5, HI155, HI157, HB⟩ := hcut
    cases kq with
    | zero => exact absurd HA.out (by simp [flywheellaw26_ProbePlays.j1])
    | succ kj5 =>
     have H := HA.out
     clear HA
     simp only [flywheellaw26_ProbePlays.j1] at H
     by_cases c8 : x22_5 = true
     ·subst c8
      have H1 : (if 0 ≤ x5_1 then (if x5_1 < (l0.length : Int) then (if ((rd_T28 l0 x5_1).f0) = 0 then ((probe_Probe_Start.f x156000_1 ((rd_T28 l0 x5_1).f3)).bind fun bt161 => ((flywheelref26_Probe_Start.f x158000_1 ((rd_T28 l0 x5_1).f3)).bind fun bt163 => (if bt161.1 = bt163.1 then (flywheellaw26_ProbePlays.j2 kj5 l0 x5_1 bt161.2 bt163.2) else (some false)))) else (if ((rd_T28 l0 x5_1).f0) = 1 then ((probe_Probe_Sent.f x156000_1 ((rd_T28 l0 x5_1).f1) ((rd_T28 l0 x5_1).f2) ((rd_T28 l0 x5_1).f4)).bind fun bt165 => ((flywheelref26_Probe_Sent.f x158000_1 ((rd_T28 l0 x5_1).f1) ((rd_T28 l0 x5_1).f2) ((rd_T28 l0 x5_1).f4)).bind fun bt167 => (if bt165.1 = true then (if bt167.1 = true then (flywheellaw26_ProbePlays.j2 kj5 l0 x5_1 bt165.2 bt167.2) else (some false)) else (if bt167.1 = true then (some false) else (flywheellaw26_ProbePlays.j2 kj5 l0 x5_1 bt165.2 bt167.2))))) else (if ((rd_T28 l0 x5_1).f0) = 2 then ((probe_Probe_Got.f kj5 x156000_1 ((rd_T28 l0 x5_1).f1) ((rd_T28 l0 x5_1).f2) ((rd_T28 l0 x5_1).f4) ((rd_T28 l0 x5_1).f5)).bind fun bt169 => ((flywheelref26_Probe_Got.f x158000_1 ((rd_T28 l0 x5_1).f1) ((rd_T28 l0 x5_1).f2) ((rd_T28 l0 x5_1).f4) ((rd_T28 l0 x5_1).f5)).bind fun bt171 => (if bt169.1 = bt171.1 then (flywheellaw26_ProbePlays.j2 kj5 l0 x5_1 bt169.2 bt171.2) else (some false)))) else (flywheellaw26_ProbePlays.j2 kj5 l0 x5_1 x156000_1 x158000_1)))) else (none)) else (none)) = some r := by rw [if_pos rfl] at H; exact H
      clear H
      have H := H1
      clear H1
      by_cases c9 : 0 ≤ x5_1
      ·rw [if_pos c9] at H
       have c9b0 : decide (0 ≤ x5_1) = true := decide_eq_true c9
       clear c9
       by_cases c10 : x5_1 < (l0.length : Int)
       ·rw [if_pos c10] at H
        have c10b0 : decide (x5_1 < (l0.length : Int)) = true := decide_eq_true c10
        clear c10
        have HC11 := Aside0.mk H
        clear H
        have p159 : 0 ≤ (x5_1 : Int) := of_decide_eq_true (by first | (with_reducible assumption) | assumption)
        have q159 : x5_1 < (l0.length : Int) := of_decide_eq_true (by first | (with_reducible assumption) | assumption)
        obtain ⟨ad159, e159, hx159_0, hx159_1, hx159_2, hx159_3, hx159_4, hx159_5⟩ := at_T28 HR0.out x5_1 p159 q159
        cases e159
        replace hx159_0 := (HB.out.cell (World.block_lt_of_cell? w _ hx159_0)).trans hx159_0
        replace hx159_1 := (HB.out.cell (World.block_lt_of_cell? w _ hx159_1)).trans hx159_1
        replace hx159_2 := (HB.out.cell (World.block_lt_of_cell? w _ hx159_2)).trans hx159_2
        replace hx159_3 := (HB.out.cell (World.block_lt_of_cell? w _ hx159_3)).trans hx159_3
        replace hx159_4 := (HB.out.cell (World.block_lt_of_cell? w _ hx159_4)).trans hx159_4
        replace hx159_5 := (HB.out.cell (World.block_lt_of_cell? w _ hx159_5)).trans hx159_5
        replace p159 := eq_true p159
        replace q159 := eq_true q159
        go_upto_block 2 with (first | ((with_reducible refine gate_dst (N := 6) rfl ?_); refine box_event ?hg (N := 6) ?hd (cs := #[.int .i64 0, .int .i64 0, .int .i64 0, .int .i64 0, .int .i64 0, .int .i64 0]) (t := 28) ?hr ?_; (case hd => rfl); (case hg => rfl); (case hr => first | (go_simp; done) | (go_simp; rfl)); intro gb160 hg w12 hbox hb; have n0_ := Aside0.mk (IsS42.below (by repeat (first | (with_reducible first | exact HI155.out | apply IsS42.alloc | apply IsS42.drewN | apply IsS42.drew) | exact HI155.out)) hb); have n1_ := Aside0.mk (IsS45.below (by repeat (first | (with_reducible first | exact HI157.out | apply IsS45.alloc | apply IsS45.drewN | apply IsS45.drew) | exact HI157.out)) hb); have n2_ := Aside0.mk (below_step (by repeat (first | (with_reducible first | exact HB.out | apply below_alloc | apply pw_below_drewN | apply below_drew1 | refine below_set ?_ (IsS42.ge HI155.out) | refine below_set ?_ (IsS45.ge HI157.out)) | exact HB.out)) hb); have n3_ := Aside0.mk (hbox); have n4_ := Aside0.mk ((by rw [hg]; exact (below_size (by repeat (first | (with_reducible first | exact HB.out | apply below_alloc | apply pw_below_drewN | apply below_drew1 | refine below_set ?_ (IsS42.ge HI155.out) | refine below_set ?_ (IsS45.ge HI157.out)) | exact HB.out))) : w.heap.size ≤ gb160)); have n5_ := Aside0.mk ((by rw [hg]; exact (below_size (by repeat (first | (with_reducible first | exact HB.out | apply below_alloc | apply pw_below_drewN | apply below_drew1 | refine below_set ?_ (IsS42.ge HI155.out) | refine below_set ?_ (IsS45.ge HI157.out)) | exact HB.out))) : w.heap.size ≤ gb160)); have n6_ := Aside0.mk ((by rw [hg]; exact Nat.ne_of_lt (IsS42.lt (show IsS42 w _ g155 x156000_1 from by repeat (first | (with_reducible first | exact HI155.out | apply IsS42.alloc | apply IsS42.drewN | apply IsS42.drew) | exact HI155.out))) : g155 ≠ gb160)); have n7_ := Aside0.mk ((by rw [hg]; exact Nat.ne_of_gt (IsS42.lt (show IsS42 w _ g155 x156000_1 from by repeat (first | (with_reducible first | exact HI155.out | apply IsS42.alloc | apply IsS42.drewN | apply IsS42.drew) | exact HI155.out))) : gb160 ≠ g155)); have n8_ := Aside0.mk ((by rw [hg]; exact Nat.ne_of_lt (IsS45.lt (show IsS45 w _ g157 x158000_1 from by repeat (first | (with_reducible first | exact HI157.out | apply IsS45.alloc | apply IsS45.drewN | apply IsS45.drew) | exact HI157.out))) : g157 ≠ gb160)); have n9_ := Aside0.mk ((by rw [hg]; exact Nat.ne_of_gt (IsS45.lt (show IsS45 w _ g157 x158000_1 from by repeat (first | (with_reducible first | exact HI157.out | apply IsS45.alloc | apply IsS45.drewN | apply IsS45.drew) | exact HI157.out))) : gb160 ≠ g157)); clear HI155; clear HI157; clear HB; have HI155 := n0_; have HI157 := n1_; have HB := n2_; have BK160 := n3_; have GW160 := n4_; have GE160 := n5_; have NB155_160 := n6_; have NB160_155 := n7_; have NB157_160 := n8_; have NB160_157 := n9_; clear n0_ n1_ n2_ n3_ n4_ n5_ n6_ n7_ n8_ n9_; clear hb hbox hg; have hnb13 := NB160_155.out; have hnc13 := NB155_160.out; have hnb14 := NB160_157.out; have hnc14 := NB157_160.out; have hcz15_0 : w12.cell? ⟨gb160, 0, none⟩ = some (.int .i64 0) := (blk_cell BK160.out 0).trans rfl; have hcz15_1 : w12.cell? ⟨gb160, 1, none⟩ = some (.int .i64 0) := (blk_cell BK160.out 1).trans rfl; have hcz15_2 : w12.cell? ⟨gb160, 2, none⟩ = some (.int .i64 0) := (blk_cell BK160.out 2).trans rfl; have hcz15_3 : w12.cell? ⟨gb160, 3, none⟩ = some (.int .i64 0) := (blk_cell BK160.out 3).trans rfl; have hcz15_4 : w12.cell? ⟨gb160, 4, none⟩ = some (.int .i64 0) := (blk_cell BK160.out 4).trans rfl; have hcz15_5 : w12.cell? ⟨gb160, 5, none⟩ = some (.int .i64 0) := (blk_cell BK160.out 5).trans rfl; have hfz15_0 := blk_frozen BK160.out 0; have hfz15_1 := blk_frozen BK160.out 1; have hfz15_2 := blk_frozen BK160.out 2; have hfz15_3 := blk_frozen BK160.out 3; have hfz15_4 := blk_frozen BK160.out 4; have hfz15_5 := blk_frozen BK160.out 5))
        (try simp only [Act.put, List.setIfInBounds_toArray, List.set_cons_zero, List.set_cons_succ])
        go_cut [] (fun wc => ∃ (kq : Nat) (x156000_10 : PbS) (x158000_10 : PrS), Aside0 (flywheellaw26_ProbePlays.j2 kq l0 x5_1 x156000_10 x158000_10 = some r) ∧ Aside0 (kq ≤ kj5) ∧ Aside0 (wc.heap[gb160]? = some (.cells #[.int .i64 ((rd_T28 l0 x5_1).f0), .int .i64 ((rd_T28 l0 x5_1).f1), .int .i64 ((rd_T28 l0 x5_1).f2), .int .i64 ((rd_T28 l0 x5_1).f3), .int .i64 ((rd_T28 l0 x5_1).f4), .int .i64 ((rd_T28 l0 x5_1).f5)] 28 (0, 0))) ∧ Aside0 (IsS42 w wc g155 x156000_10) ∧ Aside0 (IsS45 w wc g157 x158000_10) ∧ Aside0 (Below w.heap.size w wc))
        case first =>
         have H := HC11.out
         clear HC11
         by_cases c16 : ((rd_T28 l0 x5_1).f0) = 0
         ·rw [if_pos c16] at H
          have c16b0 : (((rd_T28 l0 x5_1).f0) == 0) = true := beq_iff_eq.mpr c16
          have c16b1 : (((rd_T28 l0 x5_1).f0) != 0) = false := bne_eq_false_iff_eq.mpr c16
          clear c16
          (first | rw [c16b0] | (simp only [i64_w, i32_w]; rw [c16b0]) | skip)
          replace H := Option.bind_eq_some_iff.mp H
          obtain ⟨⟨t161, t162⟩, A170, H⟩ := H
          replace H : ((flywheelref26_Probe_Start.f x158000_1 ((rd_T28 l0 x5_1).f3)).bind fun bt163 => (if t161 = bt163.1 then (flywheellaw26_ProbePlays.j2 kj5 l0 x5_1 t162 bt163.2) else (some false))) = some r := H
          have A17 := Aside0.mk A170
          clear A170
          replace H := Option.bind_eq_some_iff.mp H
          obtain ⟨⟨t163, t164⟩, A180, H⟩ := H
          replace H : (if t161 = t163 then (flywheellaw26_ProbePlays.j2 kj5 l0 x5_1 t162 t164) else (some false)) = some r := H
          have A18 := Aside0.mk A180
          clear A180
          by_cases c19 : t161 = t163
          ·rw [if_pos c19] at H
           have c19b0 : (t161 == t163) = true := beq_iff_eq.mpr c19
           have c19b1 : (t161 != t163) = false := bne_eq_false_iff_eq.mpr c19
           clear c19
           have H' := Aside0.mk H
           clear H
           try go_wp2
           have n0_ : Aside0 (((((((w12.setCell ⟨gb160, 0, none⟩ (.int .i64 ((rd_T28 l0 x5_1).f0))).setCell ⟨gb160, 1, none⟩ (.int .i64 ((rd_T28 l0 x5_1).f1))).setCell ⟨gb160, 2, none⟩ (.int .i64 ((rd_T28 l0 x5_1).f2))).setCell ⟨gb160, 3, none⟩ (.int .i64 ((rd_T28 l0 x5_1).f3))).setCell ⟨gb160, 4, none⟩ (.int .i64 ((rd_T28 l0 x5_1).f4))).setCell ⟨gb160, 5, none⟩ (.int .i64 ((rd_T28 l0 x5_1).f5))).heap[gb160]? = some (.cells #[.int .i64 ((rd_T28 l0 x5_1).f0), .int .i64 ((rd_T28 l0 x5_1).f1), .int .i64 ((rd_T28 l0 x5_1).f2), .int .i64 ((rd_T28 l0 x5_1).f3), .int .i64 ((rd_T28 l0 x5_1).f4), .int .i64 ((rd_T28 l0 x5_1).f5)] 28 (0, 0))) := ⟨by (with_reducible repeat (first | refine blk_drewN ?_ _ | refine blk_drew ?_ | refine blk_alloc ?_ _)); refine blk_put (cs := #[.int .i64 ((rd_T28 l0 x5_1).f0), .int .i64 ((rd_T28 l0 x5_1).f1), .int .i64 ((rd_T28 l0 x5_1).f2), .int .i64 ((rd_T28 l0 x5_1).f3), .int .i64 ((rd_T28 l0 x5_1).f4), .int .i64 0]) ?_ 5 _ rfl; (with_reducible repeat (first | refine blk_drewN ?_ _ | refine blk_drew ?_ | refine blk_alloc ?_ _)); refine blk_put (cs := #[.int .i64 ((rd_T28 l0 x5_1).f0), .int .i64 ((rd_T28 l0 x5_1).f1), .int .i64 ((rd_T28 l0 x5_1).f2), .int .i64 ((rd_T28 l0 x5_1).f3), .int .i64 0, .int .i64 0]) ?_ 4 _ rfl; (with_reducible repeat (first | refine blk_drewN ?_ _ | refine blk_drew ?_ | refine blk_alloc ?_ _)); refine blk_put (cs := #[.int .i64 ((rd_T28 l0 x5_1).f0), .int .i64 ((rd_T28 l0 x5_1).f1), .int .i64 ((rd_T28 l0 x5_1).f2), .int .i64 0, .int .i64 0, .int .i64 0]) ?_ 3 _ rfl; (with_reducible repeat (first | refine blk_drewN ?_ _ | refine blk_drew ?_ | refine blk_alloc ?_ _)); refine blk_put (cs := #[.int .i64 ((rd_T28 l0 x5_1).f0), .int .i64 ((rd_T28 l0 x5_1).f1), .int .i64 0, .int .i64 0, .int .i64 0, .int .i64 0]) ?_ 2 _ rfl; (with_reducible repeat (first | refine blk_drewN ?_ _ | refine blk_drew ?_ | refine blk_alloc ?_ _)); refine blk_put (cs := #[.int .i64 ((rd_T28 l0 x5_1).f0), .int .i64 0, .int .i64 0, .int .i64 0, .int .i64 0, .int .i64 0]) ?_ 1 _ rfl; (with_reducible repeat (first | refine blk_drewN ?_ _ | refine blk_drew ?_ | refine blk_alloc ?_ _)); refine blk_put (cs := #[.int .i64 0, .int .i64 0, .int .i64 0, .int .i64 0, .int .i64 0, .int .i64 0]) ?_ 0 _ rfl; (with_reducible repeat (first | refine blk_drewN ?_ _ | refine blk_drew ?_ | refine blk_alloc ?_ _)); exact BK160.out⟩
           have n1_ : Aside0 (IsS42 w ((((((w12.setCell ⟨gb160, 0, none⟩ (.int .i64 ((rd_T28 l0 x5_1).f0))).setCell ⟨gb160, 1, none⟩ (.int .i64 ((rd_T28 l0 x5_1).f1))).setCell ⟨gb160, 2, none⟩ (.int .i64 ((rd_T28 l0 x5_1).f2))).setCell ⟨gb160, 3, none⟩ (.int .i64 ((rd_T28 l0 x5_1).f3))).setCell ⟨gb160, 4, none⟩ (.int .i64 ((rd_T28 l0 x5_1).f4))).setCell ⟨gb160, 5, none⟩ (.int .i64 ((rd_T28 l0 x5_1).f5))) g155 x156000_1) := ⟨by repeat (first | (with_reducible first | exact HI155.out | apply IsS42.alloc | apply IsS42.drewN | apply IsS42.drew | refine IsS42.farB ?_ (by repeat (first | exact TB.of BK160.out (by decide) | exact TB.of BK181.out (by decide) | apply TB.set | apply TB.drewN | apply TB.drew | apply TB.alloc))) | exact HI155.out)⟩
           have n2_ : Aside0 (IsS45 w ((((((w12.setCell ⟨gb160, 0, none⟩ (.int .i64 ((rd_T28 l0 x5_1).f0))).setCell ⟨gb160, 1, none⟩ (.int .i64 ((rd_T28 l0 x5_1).f1))).setCell ⟨gb160, 2, none⟩ (.int .i64 ((rd_T28 l0 x5_1).f2))).setCell ⟨gb160, 3, none⟩ (.int .i64 ((rd_T28 l0 x5_1).f3))).setCell ⟨gb160, 4, none⟩ (.int .i64 ((rd_T28 l0 x5_1).f4))).setCell ⟨gb160, 5, none⟩ (.int .i64 ((rd_T28 l0 x5_1).f5))) g157 x158000_1) := ⟨by repeat (first | (with_reducible first | exact HI157.out | apply IsS45.alloc | apply IsS45.drewN | apply IsS45.drew | refine IsS45.farB ?_ (by repeat (first | exact TB.of BK160.out (by decide) | exact TB.of BK181.out (by decide) | apply TB.set | apply TB.drewN | apply TB.drew | apply TB.alloc))) | exact HI157.out)⟩
           have n3_ : Aside0 (Below w.heap.size w ((((((w12.setCell ⟨gb160, 0, none⟩ (.int .i64 ((rd_T28 l0 x5_1).f0))).setCell ⟨gb160, 1, none⟩ (.int .i64 ((rd_T28 l0 x5_1).f1))).setCell ⟨gb160, 2, none⟩ (.int .i64 ((rd_T28 l0 x5_1).f2))).setCell ⟨gb160, 3, none⟩ (.int .i64 ((rd_T28 l0 x5_1).f3))).setCell ⟨gb160, 4, none⟩ (.int .i64 ((rd_T28 l0 x5_1).f4))).setCell ⟨gb160, 5, none⟩ (.int .i64 ((rd_T28 l0 x5_1).f5)))) := ⟨by repeat (first | (with_reducible first | exact HB.out | apply below_alloc | apply pw_below_drewN | apply below_drew1 | refine below_set ?_ (IsS42.ge HI155.out) | refine below_set ?_ (IsS45.ge HI157.out) | refine below_set ?_ GE160.out) | exact HB.out)⟩
           (try clear BK160)
           (try clear HI155)
           (try clear HI157)
           (try clear HB)
           generalize ((((((w12.setCell ⟨gb160, 0, none⟩ (.int .i64 ((rd_T28 l0 x5_1).f0))).setCell ⟨gb160, 1, none⟩ (.int .i64 ((rd_T28 l0 x5_1).f1))).setCell ⟨gb160, 2, none⟩ (.int .i64 ((rd_T28 l0 x5_1).f2))).setCell ⟨gb160, 3, none⟩ (.int .i64 ((rd_T28 l0 x5_1).f3))).setCell ⟨gb160, 4, none⟩ (.int .i64 ((rd_T28 l0 x5_1).f4))).setCell ⟨gb160, 5, none⟩ (.int .i64 ((rd_T28 l0 x5_1).f5))) = w20 at n0_ n1_ n2_ n3_ ⊢
           have BK160 := n0_
           have HI155 := n1_
           have HI157 := n2_
           have HB := n3_
           clear n0_ n1_ n2_ n3_
           have n0_ := Aside0.mk (blk_drew BK160.out)
           have n1_ := Aside0.mk (IsS42.drew HI155.out)
           have n2_ := Aside0.mk (IsS45.drew HI157.out)
           have n3_ := Aside0.mk (below_drew1 HB.out)
           clear BK160
           clear HI155
           clear HI157
           clear HB
           have BK160 := n0_
           have HI155 := n1_
           have HI157 := n2_
           have HB := n3_
           clear n0_ n1_ n2_ n3_
           refine start_ (n := 9) (S := fun w' => w'.cell? ⟨gb160, 0, none⟩ = some (.int .i64 ((rd_T28 l0 x5_1).f0)) ∧ w'.cell? ⟨gb160, 1, none⟩ = some (.int .i64 ((rd_T28 l0 x5_1).f1)) ∧ w'.cell? ⟨gb160, 2, none⟩ = some (.int .i64 ((rd_T28 l0 x5_1).f2)) ∧ w'.cell? ⟨gb160, 3, none⟩ = some (.int .i64 ((rd_T28 l0 x5_1).f3)) ∧ w'.cell? ⟨gb160, 4, none⟩ = some (.int .i64 ((rd_T28 l0 x5_1).f4)) ∧ w'.cell? ⟨gb160, 5, none⟩ = some (.int .i64 ((rd_T28 l0 x5_1).f5))) (ds := []) #[false, false, false, false, false, false, false, false, false] (by kernel_rfl) rfl rfl ⟨(blk_cell BK160.out 0).trans rfl, (blk_cell BK160.out 1).trans rfl, (blk_cell BK160.out 2).trans rfl, (blk_cell BK160.out 3).trans rfl, (blk_cell BK160.out 4).trans rfl, (blk_cell BK160.out 5).trans rfl⟩ (fun hHeld => ?_); refine with_tabW flywheellaw26_ProbePlays.tab10 flywheellaw26_ProbePlays.bits10 (fun HT_ HW_ => ?_)
           generalize w20.drew = w21 at BK160 HI155 HI157 HB hHeld ⊢
           refine pure_ (i := 0) (N := some 33) (v := ?_) (a' := ?_) #[true, false, false, false, false, false, false, false, false] rfl rfl (any_of HT_.out (by kernel_rfl)) (fun _ _ _ h => h) (Or.inl ⟨by rfl, ?_⟩) ?_ ?_
           rotate_left
           ·intro w'
            go_simp
            with_reducible rfl
           rotate_left
           ·simp only [Act.put, List.setIfInBounds_toArray, List.set_cons_zero, List.set_cons_succ, i64_w, i32_w]
            rfl
           refine pure_ (i := 1) (N := some 34) (v := ?_) (a' := ?_) #[true, true, false, false, false, false, false, false, false] rfl rfl (any_of HT_.out (by kernel_rfl)) (fun _ _ _ h => h) (Or.inl ⟨by rfl, ?_⟩) ?_ ?_
           rotate_left
           ·intro w'
            go_simp
            with_reducible rfl
           rotate_left
           ·simp only [Act.put, List.setIfInBounds_toArray, List.set_cons_zero, List.set_cons_succ, i64_w, i32_w]
            rfl
           refine pure_ (i := 4) (N := some 37) (v := ?_) (a' := ?_) #[true, true, false, false, true, false, false, false, false] rfl rfl (any_of HT_.out (by kernel_rfl)) (fun _ _ _ h => h) (Or.inl ⟨by rfl, ?_⟩) ?_ ?_
           rotate_left
           ·intro w'
            go_simp
            with_reducible rfl
           rotate_left
           ·simp only [Act.put, List.setIfInBounds_toArray, List.set_cons_zero, List.set_cons_succ, i64_w, i32_w]
            rfl
           refine pure_ (i := 5) (N := some 38) (v := ?_) (a' := ?_) #[true, true, false, false, true, true, false, false, false] rfl rfl (any_of HT_.out (by kernel_rfl)) (fun _ _ _ h => h) (Or.inl ⟨by rfl, ?_⟩) ?_ ?_
           rotate_left
           ·intro w'
            go_simp
            with_reducible rfl
           rotate_left
           ·simp only [Act.put, List.setIfInBounds_toArray, List.set_cons_zero, List.set_cons_succ, i64_w, i32_w]
            rfl
           refine take_ (i := 2) (N := some 35) (v := ?_) (a' := ?_) #[true, true, true, false, true, true, false, false, false] rfl rfl (take_ofW HT_.out HW_.out (by kernel_rfl)) (fun _ _ _ h => h) (Or.inl ⟨by rfl, ?_⟩) hHeld ?_ ?_
           rotate_left
           ·rintro w' ⟨s0, s1, s2, s3, s4, s5⟩
            go_simp
            with_reducible rfl
           rotate_left
           ·simp only [Act.put, List.setIfInBounds_toArray, List.set_cons_zero, List.set_cons_succ, i64_w, i32_w]
            rfl
           refine take_ (i := 6) (N := some 39) (v := ?_) (a' := ?_) #[true, true, true, false, true, true, true, false, false] rfl rfl (take_ofW HT_.out HW_.out (by kernel_rfl)) (fun _ _ _ h => h) (Or.inl ⟨by rfl, ?_⟩) hHeld ?_ ?_
           rotate_left
           ·rintro w' ⟨s0, s1, s2, s3, s4, s5⟩
            go_simp
            with_reducible rfl
           rotate_left
           ·simp only [Act.put, List.setIfInBounds_toArray, List.set_cons_zero, List.set_cons_succ, i64_w, i32_w]
            rfl
           refine one_ (i := 3) (N := some 36) #[true, true, true, true, true, true, true, false, false] rfl rfl (one_of HT_.out (by kernel_rfl)) (by decide) (fun K hK => ?_)
           refine goes_ Try.func6 (by kernel_rfl) rfl #[.pointer (some ⟨g155, 0, none⟩), .int .i64 ((rd_T28 l0 x5_1).f3)] (by rfl) rfl rfl (by (try simp only [List.map_toArray, List.map_cons, List.map_nil]); first | done | rfl | (simp only [List.length_drop, List.length_take]; rfl)) ?_
           with_reducible refine (probe_Probe_Start.calls g155 x156000_1 ((rd_T28 l0 x5_1).f3) t161 t162 w _ ?side1 ?side2 A17.out).mono ?_
           (case side1 => repeat (first | (with_reducible first | exact HI155.out | apply IsS42.alloc | apply IsS42.drewN | apply IsS42.drew | refine IsS42.farB ?_ (by repeat (first | exact TB.of BK160.out (by decide) | exact TB.of BK181.out (by decide) | apply TB.set | apply TB.drewN | apply TB.drew | apply TB.alloc))) | exact HI155.out))
           (case side2 => repeat (first | (with_reducible first | exact HB.out | apply below_alloc | apply pw_below_drewN | apply below_drew1 | refine below_set ?_ (IsS42.ge HI155.out) | refine below_set ?_ (IsS45.ge HI157.out) | refine below_set ?_ GE160.out) | exact HB.out))
           rintro e w22 ⟨rfl, hi, hb, hk⟩
           refine ⟨_, rfl, ?_⟩
           have n0_ := Aside0.mk (IsS45.keepM HI157.out (fun h_ => by repeat (first | (with_reducible first | exact h_ | apply IsS45.alloc | apply IsS45.drewN | apply IsS45.drew | refine IsS45.farB ?_ (by repeat (first | exact TB.of BK160.out (by decide) | exact TB.of BK181.out (by decide) | apply TB.set | apply TB.drewN | apply TB.drew | apply TB.alloc))) | exact HI157.out)) hk NB157_155.out)
           have n1_ := Aside0.mk (hk.kblk (g' := gb160) (cs := #[.int .i64 ((rd_T28 l0 x5_1).f0), .int .i64 ((rd_T28 l0 x5_1).f1), .int .i64 ((rd_T28 l0 x5_1).f2), .int .i64 ((rd_T28 l0 x5_1).f3), .int .i64 ((rd_T28 l0 x5_1).f4), .int .i64 ((rd_T28 l0 x5_1).f5)]) (t := 28) (by (with_reducible repeat (first | refine blk_drewN ?_ _ | refine blk_drew ?_ | refine blk_alloc ?_ _)); exact BK160.out) NB160_155.out (by simp))
           have n2_ := Aside0.mk (hb)
           have n3_ := Aside0.mk (hi)
           clear HI157
           clear BK160
           clear HB
           clear HI155
           have HI157 := n0_
           have BK160 := n1_
           have HB := n2_
           have HI155 := n3_
           clear n0_ n1_ n2_ n3_
           (try clear hb)
           (try clear hb2)
           (try clear hk)
           (try clear hi)
           refine hK.out _ _ ⟨(blk_cell BK160.out 0).trans rfl, (blk_cell BK160.out 1).trans rfl, (blk_cell BK160.out 2).trans rfl, (blk_cell BK160.out 3).trans rfl, (blk_cell BK160.out 4).trans rfl, (blk_cell BK160.out 5).trans rfl⟩ (fun hHeld => ?_)
           clear hK K
           refine norm_ (a' := ?_) ?_ ?_
           rotate_left
           ·show Act.put _ (some 36) _ = _
            simp only [Act.put, List.setIfInBounds_toArray, List.set_cons_zero, List.set_cons_succ, i64_w, i32_w]
            rfl
           refine one_ (i := 7) (N := some 40) #[true, true, true, true, true, true, true, true, false] rfl rfl (one_of HT_.out (by kernel_rfl)) (by decide) (fun K hK => ?_)
           refine goes_ Try.func7 (by kernel_rfl) rfl #[.pointer (some ⟨g157, 0, none⟩), .int .i64 ((rd_T28 l0 x5_1).f3)] (by rfl) rfl rfl (by (try simp only [List.map_toArray, List.map_cons, List.map_nil]); first | done | rfl | (simp only [List.length_drop, List.length_take]; rfl)) ?_
           with_reducible refine (flywheelref26_Probe_Start.calls g157 x158000_1 ((rd_T28 l0 x5_1).f3) t163 t164 w _ ?side1 ?side2 A18.out).mono ?_
           (case side1 => repeat (first | (with_reducible first | exact HI157.out | apply IsS45.alloc | apply IsS45.drewN | apply IsS45.drew | refine IsS45.farB ?_ (by repeat (first | exact TB.of BK160.out (by decide) | exact TB.of BK181.out (by decide) | apply TB.set | apply TB.drewN | apply TB.drew | apply TB.alloc))) | exact HI157.out))
           (case side2 => repeat (first | (with_reducible first | exact HB.out | apply below_alloc | apply pw_below_drewN | apply below_drew1 | refine below_set ?_ (IsS42.ge HI155.out) | refine below_set ?_ (IsS45.ge HI157.out) | refine below_set ?_ GE160.out) | exact HB.out))
           rintro e w23 ⟨rfl, hi, hb, hk⟩
           refine ⟨_, rfl, ?_⟩
           have n0_ := Aside0.mk (IsS42.keepM HI155.out (fun h_ => by repeat (first | (with_reducible first | exact h_ | apply IsS42.alloc | apply IsS42.drewN | apply IsS42.drew | refine IsS42.farB ?_ (by repeat (first | exact TB.of BK160.out (by decide) | exact TB.of BK181.out (by decide) | apply TB.set | apply TB.drewN | apply TB.drew | apply TB.alloc))) | exact HI155.out)) hk NB155_157.out)
           have n1_ := Aside0.mk (hk.kblk (g' := gb160) (cs := #[.int .i64 ((rd_T28 l0 x5_1).f0), .int .i64 ((rd_T28 l0 x5_1).f1), .int .i64 ((rd_T28 l0 x5_1).f2), .int .i64 ((rd_T28 l0 x5_1).f3), .int .i64 ((rd_T28 l0 x5_1).f4), .int .i64 ((rd_T28 l0 x5_1).f5)]) (t := 28) (by (with_reducible repeat (first | refine blk_drewN ?_ _ | refine blk_drew ?_ | refine blk_alloc ?_ _)); exact BK160.out) NB160_157.out (by simp))
           have n2_ := Aside0.mk (hb)
           have n3_ := Aside0.mk (hi)
           clear HI155
           clear BK160
           clear HB
           clear HI157
           have HI155 := n0_
           have BK160 := n1_
           have HB := n2_
           have HI157 := n3_
           clear n0_ n1_ n2_ n3_
           (try clear hb)
           (try clear hb2)
           (try clear hk)
           (try clear hi)
           refine hK.out _ _ ⟨(blk_cell BK160.out 0).trans rfl, (blk_cell BK160.out 1).trans rfl, (blk_cell BK160.out 2).trans rfl, (blk_cell BK160.out 3).trans rfl, (blk_cell BK160.out 4).trans rfl, (blk_cell BK160.out 5).trans rfl⟩ (fun hHeld => ?_)
           clear hK K
           refine norm_ (a' := ?_) ?_ ?_
           rotate_left
           ·show Act.put _ (some 40) _ = _
            simp only [Act.put, List.setIfInBounds_toArray, List.set_cons_zero, List.set_cons_succ, i64_w, i32_w]
            rfl
           refine pure_ (i := 8) (N := some 41) (v := ?_) (a' := ?_) #[true, true, true, true, true, true, true, true, true] rfl rfl (any_of HT_.out (by kernel_rfl)) (fun _ _ _ h => h) (Or.inl ⟨by rfl, ?_⟩) ?_ ?_
           rotate_left
           ·intro w'
            go_simp
            with_reducible rfl
           rotate_left
           ·simp only [Act.put, List.setIfInBounds_toArray, List.set_cons_zero, List.set_cons_succ, i64_w, i32_w]
            rfl
           refine done_ (done_of HT_.out (by kernel_rfl)) ?_
           try go_wp2
           go_meet
           case rel => exact ⟨_, (t162), (t164), H', ⟨by have := HK1.out; have := HJ5.out; first | omega | exact Nat.le_refl _⟩, ⟨by (with_reducible repeat (first | refine blk_drewN ?_ _ | refine blk_drew ?_ | refine blk_alloc ?_ _)); exact BK160.out⟩, ⟨by repeat (first | (with_reducible first | exact HI155.out | apply IsS42.alloc | apply IsS42.drewN | apply IsS42.drew | refine IsS42.farB ?_ (by repeat (first | exact TB.of BK160.out (by decide) | exact TB.of BK181.out (by decide) | apply TB.set | apply TB.drewN | apply TB.drew | apply TB.alloc))) | exact HI155.out)⟩, ⟨by repeat (first | (with_reducible first | exact HI157.out | apply IsS45.alloc | apply IsS45.drewN | apply IsS45.drew | refine IsS45.farB ?_ (by repeat (first | exact TB.of BK160.out (by decide) | exact TB.of BK181.out (by decide) | apply TB.set | apply TB.drewN | apply TB.drew | apply TB.alloc))) | exact HI157.out)⟩, ⟨by repeat (first | (with_reducible first | exact HB.out | apply below_alloc | apply pw_below_drewN | apply below_drew1 | refine below_set ?_ (IsS42.ge HI155.out) | refine below_set ?_ (IsS45.ge HI157.out) | refine below_set ?_ GE160.out) | exact HB.out)⟩⟩
          ·rw [if_neg c19] at H
           have c19b0 : (t161 == t163) = false := beq_eq_false_iff_ne.mpr c19
           have c19b1 : (t161 != t163) = true := bne_iff_ne.mpr c19
           obtain rfl := Option.some.inj H
           try go_wp2
           have n0_ : Aside0 (((((((w12.setCell ⟨gb160, 0, none⟩ (.int .i64 ((rd_T28 l0 x5_1).f0))).setCell ⟨gb160, 1, none⟩ (.int .i64 ((rd_T28 l0 x5_1).f1))).setCell ⟨gb160, 2, none⟩ (.int .i64 ((rd_T28 l0 x5_1).f2))).setCell ⟨gb160, 3, none⟩ (.int .i64 ((rd_T28 l0 x5_1).f3))).setCell ⟨gb160, 4, none⟩ (.int .i64 ((rd_T28 l0 x5_1).f4))).setCell ⟨gb160, 5, none⟩ (.int .i64 ((rd_T28 l0 x5_1).f5))).heap[gb160]? = some (.cells #[.int .i64 ((rd_T28 l0 x5_1).f0), .int .i64 ((rd_T28 l0 x5_1).f1), .int .i64 ((rd_T28 l0 x5_1).f2), .int .i64 ((rd_T28 l0 x5_1).f3), .int .i64 ((rd_T28 l0 x5_1).f4), .int .i64 ((rd_T28 l0 x5_1).f5)] 28 (0, 0))) := ⟨by (with_reducible repeat (first | refine blk_drewN ?_ _ | refine blk_drew ?_ | refine blk_alloc ?_ _)); refine blk_put (cs := #[.int .i64 ((rd_T28 l0 x5_1).f0), .int .i64 ((rd_T28 l0 x5_1).f1), .int .i64 ((rd_T28 l0 x5_1).f2), .int .i64 ((rd_T28 l0 x5_1).f3), .int .i64 ((rd_T28 l0 x5_1).f4), .int .i64 0]) ?_ 5 _ rfl; (with_reducible repeat (first | refine blk_drewN ?_ _ | refine blk_drew ?_ | refine blk_alloc ?_ _)); refine blk_put (cs := #[.int .i64 ((rd_T28 l0 x5_1).f0), .int .i64 ((rd_T28 l0 x5_1).f1), .int .i64 ((rd_T28 l0 x5_1).f2), .int .i64 ((rd_T28 l0 x5_1).f3), .int .i64 0, .int .i64 0]) ?_ 4 _ rfl; (with_reducible repeat (first | refine blk_drewN ?_ _ | refine blk_drew ?_ | refine blk_alloc ?_ _)); refine blk_put (cs := #[.int .i64 ((rd_T28 l0 x5_1).f0), .int .i64 ((rd_T28 l0 x5_1).f1), .int .i64 ((rd_T28 l0 x5_1).f2), .int .i64 0, .int .i64 0, .int .i64 0]) ?_ 3 _ rfl; (with_reducible repeat (first | refine blk_drewN ?_ _ | refine blk_drew ?_ | refine blk_alloc ?_ _)); refine blk_put (cs := #[.int .i64 ((rd_T28 l0 x5_1).f0), .int .i64 ((rd_T28 l0 x5_1).f1), .int .i64 0, .int .i64 0, .int .i64 0, .int .i64 0]) ?_ 2 _ rfl; (with_reducible repeat (first | refine blk_drewN ?_ _ | refine blk_drew ?_ | refine blk_alloc ?_ _)); refine blk_put (cs := #[.int .i64 ((rd_T28 l0 x5_1).f0), .int .i64 0, .int .i64 0, .int .i64 0, .int .i64 0, .int .i64 0]) ?_ 1 _ rfl; (with_reducible repeat (first | refine blk_drewN ?_ _ | refine blk_drew ?_ | refine blk_alloc ?_ _)); refine blk_put (cs := #[.int .i64 0, .int .i64 0, .int .i64 0, .int .i64 0, .int .i64 0, .int .i64 0]) ?_ 0 _ rfl; (with_reducible repeat (first | refine blk_drewN ?_ _ | refine blk_drew ?_ | refine blk_alloc ?_ _)); exact BK160.out⟩
           have n1_ : Aside0 (IsS42 w ((((((w12.setCell ⟨gb160, 0, none⟩ (.int .i64 ((rd_T28 l0 x5_1).f0))).setCell ⟨gb160, 1, none⟩ (.int .i64 ((rd_T28 l0 x5_1).f1))).setCell ⟨gb160, 2, none⟩ (.int .i64 ((rd_T28 l0 x5_1).f2))).setCell ⟨gb160, 3, none⟩ (.int .i64 ((rd_T28 l0 x5_1).f3))).setCell ⟨gb160, 4, none⟩ (.int .i64 ((rd_T28 l0 x5_1).f4))).setCell ⟨gb160, 5, none⟩ (.int .i64 ((rd_T28 l0 x5_1).f5))) g155 x156000_1) := ⟨by repeat (first | (with_reducible first | exact HI155.out | apply IsS42.alloc | apply IsS42.drewN | apply IsS42.drew | refine IsS42.farB ?_ (by repeat (first | exact TB.of BK160.out (by decide) | exact TB.of BK181.out (by decide) | apply TB.set | apply TB.drewN | apply TB.drew | apply TB.alloc))) | exact HI155.out)⟩
           have n2_ : Aside0 (IsS45 w ((((((w12.setCell ⟨gb160, 0, none⟩ (.int .i64 ((rd_T28 l0 x5_1).f0))).setCell ⟨gb160, 1, none⟩ (.int .i64 ((rd_T28 l0 x5_1).f1))).setCell ⟨gb160, 2, none⟩ (.int .i64 ((rd_T28 l0 x5_1).f2))).setCell ⟨gb160, 3, none⟩ (.int .i64 ((rd_T28 l0 x5_1).f3))).setCell ⟨gb160, 4, none⟩ (.int .i64 ((rd_T28 l0 x5_1).f4))).setCell ⟨gb160, 5, none⟩ (.int .i64 ((rd_T28 l0 x5_1).f5))) g157 x158000_1) := ⟨by repeat (first | (with_reducible first | exact HI157.out | apply IsS45.alloc | apply IsS45.drewN | apply IsS45.drew | refine IsS45.farB ?_ (by repeat (first | exact TB.of BK160.out (by decide) | exact TB.of BK181.out (by decide) | apply TB.set | apply TB.drewN | apply TB.drew | apply TB.alloc))) | exact HI157.out)⟩
           have n3_ : Aside0 (Below w.heap.size w ((((((w12.setCell ⟨gb160, 0, none⟩ (.int .i64 ((rd_T28 l0 x5_1).f0))).setCell ⟨gb160, 1, none⟩ (.int .i64 ((rd_T28 l0 x5_1).f1))).setCell ⟨gb160, 2, none⟩ (.int .i64 ((rd_T28 l0 x5_1).f2))).setCell ⟨gb160, 3, none⟩ (.int .i64 ((rd_T28 l0 x5_1).f3))).setCell ⟨gb160, 4, none⟩ (.int .i64 ((rd_T28 l0 x5_1).f4))).setCell ⟨gb160, 5, none⟩ (.int .i64 ((rd_T28 l0 x5_1).f5)))) := ⟨by repeat (first | (with_reducible first | exact HB.out | apply below_alloc | apply pw_below_drewN | apply below_drew1 | refine below_set ?_ (IsS42.ge HI155.out) | refine below_set ?_ (IsS45.ge HI157.out) | refine below_set ?_ GE160.out) | exact HB.out)⟩
           (try clear BK160)
           (try clear HI155)
           (try clear HI157)
           (try clear HB)
           generalize ((((((w12.setCell ⟨gb160, 0, none⟩ (.int .i64 ((rd_T28 l0 x5_1).f0))).setCell ⟨gb160, 1, none⟩ (.int .i64 ((rd_T28 l0 x5_1).f1))).setCell ⟨gb160, 2, none⟩ (.int .i64 ((rd_T28 l0 x5_1).f2))).setCell ⟨gb160, 3, none⟩ (.int .i64 ((rd_T28 l0 x5_1).f3))).setCell ⟨gb160, 4, none⟩ (.int .i64 ((rd_T28 l0 x5_1).f4))).setCell ⟨gb160, 5, none⟩ (.int .i64 ((rd_T28 l0 x5_1).f5))) = w24 at n0_ n1_ n2_ n3_ ⊢
           have BK160 := n0_
           have HI155 := n1_
           have HI157 := n2_
           have HB := n3_
           clear n0_ n1_ n2_ n3_
           have n0_ := Aside0.mk (blk_drew BK160.out)
           have n1_ := Aside0.mk (IsS42.drew HI155.out)
           have n2_ := Aside0.mk (IsS45.drew HI157.out)
           have n3_ := Aside0.mk (below_drew1 HB.out)
           clear BK160
           clear HI155
           clear HI157
           clear HB
           have BK160 := n0_
           have HI155 := n1_
           have HI157 := n2_
           have HB := n3_
           clear n0_ n1_ n2_ n3_
           refine start_ (n := 9) (S := fun w' => w'.cell? ⟨gb160, 0, none⟩ = some (.int .i64 ((rd_T28 l0 x5_1).f0)) ∧ w'.cell? ⟨gb160, 1, none⟩ = some (.int .i64 ((rd_T28 l0 x5_1).f1)) ∧ w'.cell? ⟨gb160, 2, none⟩ = some (.int .i64 ((rd_T28 l0 x5_1).f2)) ∧ w'.cell? ⟨gb160, 3, none⟩ = some (.int .i64 ((rd_T28 l0 x5_1).f3)) ∧ w'.cell? ⟨gb160, 4, none⟩ = some (.int .i64 ((rd_T28 l0 x5_1).f4)) ∧ w'.cell? ⟨gb160, 5, none⟩ = some (.int .i64 ((rd_T28 l0 x5_1).f5))) (ds := []) #[false, false, false, false, false, false, false, false, false] (by kernel_rfl) rfl rfl ⟨(blk_cell BK160.out 0).trans rfl, (blk_cell BK160.out 1).trans rfl, (blk_cell BK160.out 2).trans rfl, (blk_cell BK160.out 3).trans rfl, (blk_cell BK160.out 4).trans rfl, (blk_cell BK160.out 5).trans rfl⟩ (fun hHeld => ?_); refine with_tabW flywheellaw26_ProbePlays.tab10 flywheellaw26_ProbePlays.bits10 (fun HT_ HW_ => ?_)
           generalize w24.drew = w25 at BK160 HI155 HI157 HB hHeld ⊢
           refine pure_ (i := 0) (N := some 33) (v := ?_) (a' := ?_) #[true, false, false, false, false, false, false, false, false] rfl rfl (any_of HT_.out (by kernel_rfl)) (fun _ _ _ h => h) (Or.inl ⟨by rfl, ?_⟩) ?_ ?_
           rotate_left
           ·intro w'
            go_simp
            with_reducible rfl
           rotate_left
           ·simp only [Act.put, List.setIfInBounds_toArray, List.set_cons_zero, List.set_cons_succ, i64_w, i32_w]
            rfl
           refine pure_ (i := 1) (N := some 34) (v := ?_) (a' := ?_) #[true, true, false, false, false, false, false, false, false] rfl rfl (any_of HT_.out (by kernel_rfl)) (fun _ _ _ h => h) (Or.inl ⟨by rfl, ?_⟩) ?_ ?_
           rotate_left
           ·intro w'
            go_simp
            with_reducible rfl
           rotate_left
           ·simp only [Act.put, List.setIfInBounds_toArray, List.set_cons_zero, List.set_cons_succ, i64_w, i32_w]
            rfl
           refine pure_ (i := 4) (N := some 37) (v := ?_) (a' := ?_) #[true, true, false, false, true, false, false, false, false] rfl rfl (any_of HT_.out (by kernel_rfl)) (fun _ _ _ h => h) (Or.inl ⟨by rfl, ?_⟩) ?_ ?_
           rotate_left
           ·intro w'
            go_simp
            with_reducible rfl
           rotate_left
           ·simp only [Act.put, List.setIfInBounds_toArray, List.set_cons_zero, List.set_cons_succ, i64_w, i32_w]
            rfl
           refine pure_ (i := 5) (N := some 38) (v := ?_) (a' := ?_) #[true, true, false, false, true, true, false, false, false] rfl rfl (any_of HT_.out (by kernel_rfl)) (fun _ _ _ h => h) (Or.inl ⟨by rfl, ?_⟩) ?_ ?_
           rotate_left
           ·intro w'
            go_simp
            with_reducible rfl
           rotate_left
           ·simp only [Act.put, List.setIfInBounds_toArray, List.set_cons_zero, List.set_cons_succ, i64_w, i32_w]
            rfl
           refine take_ (i := 2) (N := some 35) (v := ?_) (a' := ?_) #[true, true, true, false, true, true, false, false, false] rfl rfl (take_ofW HT_.out HW_.out (by kernel_rfl)) (fun _ _ _ h => h) (Or.inl ⟨by rfl, ?_⟩) hHeld ?_ ?_
           rotate_left
           ·rintro w' ⟨s0, s1, s2, s3, s4, s5⟩
            go_simp
            with_reducible rfl
           rotate_left
           ·simp only [Act.put, List.setIfInBounds_toArray, List.set_cons_zero, List.set_cons_succ, i64_w, i32_w]
            rfl
           refine take_ (i := 6) (N := some 39) (v := ?_) (a' := ?_) #[true, true, true, false, true, true, true, false, false] rfl rfl (take_ofW HT_.out HW_.out (by kernel_rfl)) (fun _ _ _ h => h) (Or.inl ⟨by rfl, ?_⟩) hHeld ?_ ?_
           rotate_left
           ·rintro w' ⟨s0, s1, s2, s3, s4, s5⟩
            go_simp
            with_reducible rfl
           rotate_left
           ·simp only [Act.put, List.setIfInBounds_toArray, List.set_cons_zero, List.set_cons_succ, i64_w, i32_w]
            rfl
           refine one_ (i := 3) (N := some 36) #[true, true, true, true, true, true, true, false, false] rfl rfl (one_of HT_.out (by kernel_rfl)) (by decide) (fun K hK => ?_)
           refine goes_ Try.func6 (by kernel_rfl) rfl #[.pointer (some ⟨g155, 0, none⟩), .int .i64 ((rd_T28 l0 x5_1).f3)] (by rfl) rfl rfl (by (try simp only [List.map_toArray, List.map_cons, List.map_nil]); first | done | rfl | (simp only [List.length_drop, List.length_take]; rfl)) ?_
           with_reducible refine (probe_Probe_Start.calls g155 x156000_1 ((rd_T28 l0 x5_1).f3) t161 t162 w _ ?side1 ?side2 A17.out).mono ?_
           (case side1 => repeat (first | (with_reducible first | exact HI155.out | apply IsS42.alloc | apply IsS42.drewN | apply IsS42.drew | refine IsS42.farB ?_ (by repeat (first | exact TB.of BK160.out (by decide) | exact TB.of BK181.out (by decide) | apply TB.set | apply TB.drewN | apply TB.drew | apply TB.alloc))) | exact HI155.out))
           (case side2 => repeat (first | (with_reducible first | exact HB.out | apply below_alloc | apply pw_below_drewN | apply below_drew1 | refine below_set ?_ (IsS42.ge HI155.out) | refine below_set ?_ (IsS45.ge HI157.out) | refine below_set ?_ GE160.out) | exact HB.out))
           rintro e w26 ⟨rfl, hi, hb, hk⟩
           refine ⟨_, rfl, ?_⟩
           have n0_ := Aside0.mk (IsS45.keepM HI157.out (fun h_ => by repeat (first | (with_reducible first | exact h_ | apply IsS45.alloc | apply IsS45.drewN | apply IsS45.drew | refine IsS45.farB ?_ (by repeat (first | exact TB.of BK160.out (by decide) | exact TB.of BK181.out (by decide) | apply TB.set | apply TB.drewN | apply TB.drew | apply TB.alloc))) | exact HI157.out)) hk NB157_155.out)
           have n1_ := Aside0.mk (hk.kblk (g' := gb160) (cs := #[.int .i64 ((rd_T28 l0 x5_1).f0), .int .i64 ((rd_T28 l0 x5_1).f1), .int .i64 ((rd_T28 l0 x5_1).f2), .int .i64 ((rd_T28 l0 x5_1).f3), .int .i64 ((rd_T28 l0 x5_1).f4), .int .i64 ((rd_T28 l0 x5_1).f5)]) (t := 28) (by (with_reducible repeat (first | refine blk_drewN ?_ _ | refine blk_drew ?_ | refine blk_alloc ?_ _)); exact BK160.out) NB160_155.out (by simp))
           have n2_ := Aside0.mk (hb)
           have n3_ := Aside0.mk (hi)
           clear HI157
           clear BK160
           clear HB
           clear HI155
           have HI157 := n0_
           have BK160 := n1_
           have HB := n2_
           have HI155 := n3_
           clear n0_ n1_ n2_ n3_
           (try clear hb)
           (try clear hb2)
           (try clear hk)
           (try clear hi)
           refine hK.out _ _ ⟨(blk_cell BK160.out 0).trans rfl, (blk_cell BK160.out 1).trans rfl, (blk_cell BK160.out 2).trans rfl, (blk_cell BK160.out 3).trans rfl, (blk_cell BK160.out 4).trans rfl, (blk_cell BK160.out 5).trans rfl⟩ (fun hHeld => ?_)
           clear hK K
           refine norm_ (a' := ?_) ?_ ?_
           rotate_left
           ·show Act.put _ (some 36) _ = _
            simp only [Act.put, List.setIfInBounds_toArray, List.set_cons_zero, List.set_cons_succ, i64_w, i32_w]
            rfl
           refine one_ (i := 7) (N := some 40) #[true, true, true, true, true, true, true, true, false] rfl rfl (one_of HT_.out (by kernel_rfl)) (by decide) (fun K hK => ?_)
           refine goes_ Try.func7 (by kernel_rfl) rfl #[.pointer (some ⟨g157, 0, none⟩), .int .i64 ((rd_T28 l0 x5_1).f3)] (by rfl) rfl rfl (by (try simp only [List.map_toArray, List.map_cons, List.map_nil]); first | done | rfl | (simp only [List.length_drop, List.length_take]; rfl)) ?_
           with_reducible refine (flywheelref26_Probe_Start.calls g157 x158000_1 ((rd_T28 l0 x5_1).f3) t163 t164 w _ ?side1 ?side2 A18.out).mono ?_
           (case side1 => repeat (first | (with_reducible first | exact HI157.out | apply IsS45.alloc | apply IsS45.drewN | apply IsS45.drew | refine IsS45.farB ?_ (by repeat (first | exact TB.of BK160.out (by decide) | exact TB.of BK181.out (by decide) | apply TB.set | apply TB.drewN | apply TB.drew | apply TB.alloc))) | exact HI157.out))
           (case side2 => repeat (first | (with_reducible first | exact HB.out | apply below_alloc | apply pw_below_drewN | apply below_drew1 | refine below_set ?_ (IsS42.ge HI155.out) | refine below_set ?_ (IsS45.ge HI157.out) | refine below_set ?_ GE160.out) | exact HB.out))
           rintro e w27 ⟨rfl, hi, hb, hk⟩
           refine ⟨_, rfl, ?_⟩
           have n0_ := Aside0.mk (IsS42.keepM HI155.out (fun h_ => by repeat (first | (with_reducible first | exact h_ | apply IsS42.alloc | apply IsS42.drewN | apply IsS42.drew | refine IsS42.farB ?_ (by repeat (first | exact TB.of BK160.out (by decide) | exact TB.of BK181.out (by decide) | apply TB.set | apply TB.drewN | apply TB.drew | apply TB.alloc))) | exact HI155.out)) hk NB155_157.out)
           have n1_ := Aside0.mk (hk.kblk (g' := gb160) (cs := #[.int .i64 ((rd_T28 l0 x5_1).f0), .int .i64 ((rd_T28 l0 x5_1).f1), .int .i64 ((rd_T28 l0 x5_1).f2), .int .i64 ((rd_T28 l0 x5_1).f3), .int .i64 ((rd_T28 l0 x5_1).f4), .int .i64 ((rd_T28 l0 x5_1).f5)]) (t := 28) (by (with_reducible repeat (first | refine blk_drewN ?_ _ | refine blk_drew ?_ | refine blk_alloc ?_ _)); exact BK160.out) NB160_157.out (by simp))
           have n2_ := Aside0.mk (hb)
           have n3_ := Aside0.mk (hi)
           clear HI155
           clear BK160
           clear HB
           clear HI157
           have HI155 := n0_
           have BK160 := n1_
           have HB := n2_
           have HI157 := n3_
           clear n0_ n1_ n2_ n3_
           (try clear hb)
           (try clear hb2)
           (try clear hk)
           (try clear hi)
           refine hK.out _ _ ⟨(blk_cell BK160.out 0).trans rfl, (blk_cell BK160.out 1).trans rfl, (blk_cell BK160.out 2).trans rfl, (blk_cell BK160.out 3).trans rfl, (blk_cell BK160.out 4).trans rfl, (blk_cell BK160.out 5).trans rfl⟩ (fun hHeld => ?_)
           clear hK K
           refine norm_ (a' := ?_) ?_ ?_
           rotate_left
           ·show Act.put _ (some 40) _ = _
            simp only [Act.put, List.setIfInBounds_toArray, List.set_cons_zero, List.set_cons_succ, i64_w, i32_w]
            rfl
           refine pure_ (i := 8) (N := some 41) (v := ?_) (a' := ?_) #[true, true, true, true, true, true, true, true, true] rfl rfl (any_of HT_.out (by kernel_rfl)) (fun _ _ _ h => h) (Or.inl ⟨by rfl, ?_⟩) ?_ ?_
           rotate_left
           ·intro w'
            go_simp
            with_reducible rfl
           rotate_left
           ·simp only [Act.put, List.setIfInBounds_toArray, List.set_cons_zero, List.set_cons_succ, i64_w, i32_w]
            rfl
           refine done_ (done_of HT_.out (by kernel_rfl)) ?_
           try go_wp2
           go_ret
           exact ⟨by first | rfl | (simp [errW_none, errW_some] <;> rfl) | (simp [*, errW_none, errW_some] <;> rfl), by repeat (first | (with_reducible first | exact HB.out | apply below_alloc | apply pw_below_drewN | apply below_drew1 | refine below_set ?_ (IsS42.ge HI155.out) | refine below_set ?_ (IsS45.ge HI157.out) | refine below_set ?_ GE160.out) | exact HB.out)⟩
         ·rw [if_neg c16] at H
          have c16b0 : (((rd_T28 l0 x5_1).f0) == 0) = false := beq_eq_false_iff_ne.mpr c16
          have c16b1 : (((rd_T28 l0 x5_1).f0) != 0) = true := bne_iff_ne.mpr c16
          (first | rw [c16b0] | (simp only [i64_w, i32_w]; rw [c16b0]) | skip)
          by_cases c28 : ((rd_T28 l0 x5_1).f0) = 1
          ·rw [if_pos c28] at H
           have c28b0 : (((rd_T28 l0 x5_1).f0) == 1) = true := beq_iff_eq.mpr c28
           have c28b1 : (((rd_T28 l0 x5_1).f0) != 1) = false := bne_eq_false_iff_eq.mpr c28
           clear c28
           replace H := Option.bind_eq_some_iff.mp H
           obtain ⟨⟨t165, t166⟩, A290, H⟩ := H
           replace H : ((flywheelref26_Probe_Sent.f x158000_1 ((rd_T28 l0 x5_1).f1) ((rd_T28 l0 x5_1).f2) ((rd_T28 l0 x5_1).f4)).bind fun bt167 => (if t165 = true then (if bt167.1 = true then (flywheellaw26_ProbePlays.j2 kj5 l0 x5_1 t166 bt167.2) else (some false)) else (if bt167.1 = true then (some false) else (flywheellaw26_ProbePlays.j2 kj5 l0 x5_1 t166 bt167.2)))) = some r := H
           have A29 := Aside0.mk A290
           clear A290
           replace H := Option.bind_eq_some_iff.mp H
           obtain ⟨⟨t167, t168⟩, A300, H⟩ := H
           replace H : (if t165 = true then (if t167 = true then (flywheellaw26_ProbePlays.j2 kj5 l0 x5_1 t166 t168) else (some false)) else (if t167 = true then (some false) else (flywheellaw26_ProbePlays.j2 kj5 l0 x5_1 t166 t168))) = some r := H
           have A30 := Aside0.mk A300
           clear A300
           by_cases c31 : t165 = true
           ·subst c31
            have H1 : (if t167 = true then (flywheellaw26_ProbePlays.j2 kj5 l0 x5_1 t166 t168) else (some false)) = some r := by rw [if_pos rfl] at H; exact H
            clear H
            have H := H1
            clear H1
            by_cases c32 : t167 = true
            ·subst c32
             have H1 : (flywheellaw26_ProbePlays.j2 kj5 l0 x5_1 t166 t168) = some r := by rw [if_pos rfl] at H; exact H
             clear H
             have H := H1
             clear H1
             have H' := Aside0.mk H
             clear H
             try go_wp2
             have n0_ : Aside0 (((((((w12.setCell ⟨gb160, 0, none⟩ (.int .i64 ((rd_T28 l0 x5_1).f0))).setCell ⟨gb160, 1, none⟩ (.int .i64 ((rd_T28 l0 x5_1).f1))).setCell ⟨gb160, 2, none⟩ (.int .i64 ((rd_T28 l0 x5_1).f2))).setCell ⟨gb160, 3, none⟩ (.int .i64 ((rd_T28 l0 x5_1).f3))).setCell ⟨gb160, 4, none⟩ (.int .i64 ((rd_T28 l0 x5_1).f4))).setCell ⟨gb160, 5, none⟩ (.int .i64 ((rd_T28 l0 x5_1).f5))).heap[gb160]? = some (.cells #[.int .i64 ((rd_T28 l0 x5_1).f0), .int .i64 ((rd_T28 l0 x5_1).f1), .int .i64 ((rd_T28 l0 x5_1).f2), .int .i64 ((rd_T28 l0 x5_1).f3), .int .i64 ((rd_T28 l0 x5_1).f4), .int .i64 ((rd_T28 l0 x5_1).f5)] 28 (0, 0))) := ⟨by (with_reducible repeat (first | refine blk_drewN ?_ _ | refine blk_drew ?_ | refine blk_alloc ?_ _)); refine blk_put (cs := #[.int .i64 ((rd_T28 l0 x5_1).f0), .int .i64 ((rd_T28 l0 x5_1).f1), .int .i64 ((rd_T28 l0 x5_1).f2), .int .i64 ((rd_T28 l0 x5_1).f3), .int .i64 ((rd_T28 l0 x5_1).f4), .int .i64 0]) ?_ 5 _ rfl; (with_reducible repeat (first | refine blk_drewN ?_ _ | refine blk_drew ?_ | refine blk_alloc ?_ _)); refine blk_put (cs := #[.int .i64 ((rd_T28 l0 x5_1).f0), .int .i64 ((rd_T28 l0 x5_1).f1), .int .i64 ((rd_T28 l0 x5_1).f2), .int .i64 ((rd_T28 l0 x5_1).f3), .int .i64 0, .int .i64 0]) ?_ 4 _ rfl; (with_reducible repeat (first | refine blk_drewN ?_ _ | refine blk_drew ?_ | refine blk_alloc ?_ _)); refine blk_put (cs := #[.int .i64 ((rd_T28 l0 x5_1).f0), .int .i64 ((rd_T28 l0 x5_1).f1), .int .i64 ((rd_T28 l0 x5_1).f2), .int .i64 0, .int .i64 0, .int .i64 0]) ?_ 3 _ rfl; (with_reducible repeat (first | refine blk_drewN ?_ _ | refine blk_drew ?_ | refine blk_alloc ?_ _)); refine blk_put (cs := #[.int .i64 ((rd_T28 l0 x5_1).f0), .int .i64 ((rd_T28 l0 x5_1).f1), .int .i64 0, .int .i64 0, .int .i64 0, .int .i64 0]) ?_ 2 _ rfl; (with_reducible repeat (first | refine blk_drewN ?_ _ | refine blk_drew ?_ | refine blk_alloc ?_ _)); refine blk_put (cs := #[.int .i64 ((rd_T28 l0 x5_1).f0), .int .i64 0, .int .i64 0, .int .i64 0, .int .i64 0, .int .i64 0]) ?_ 1 _ rfl; (with_reducible repeat (first | refine blk_drewN ?_ _ | refine blk_drew ?_ | refine blk_alloc ?_ _)); refine blk_put (cs := #[.int .i64 0, .int .i64 0, .int .i64 0, .int .i64 0, .int .i64 0, .int .i64 0]) ?_ 0 _ rfl; (with_reducible repeat (first | refine blk_drewN ?_ _ | refine blk_drew ?_ | refine blk_alloc ?_ _)); exact BK160.out⟩
             have n1_ : Aside0 (IsS42 w ((((((w12.setCell ⟨gb160, 0, none⟩ (.int .i64 ((rd_T28 l0 x5_1).f0))).setCell ⟨gb160, 1, none⟩ (.int .i64 ((rd_T28 l0 x5_1).f1))).setCell ⟨gb160, 2, none⟩ (.int .i64 ((rd_T28 l0 x5_1).f2))).setCell ⟨gb160, 3, none⟩ (.int .i64 ((rd_T28 l0 x5_1).f3))).setCell ⟨gb160, 4, none⟩ (.int .i64 ((rd_T28 l0 x5_1).f4))).setCell ⟨gb160, 5, none⟩ (.int .i64 ((rd_T28 l0 x5_1).f5))) g155 x156000_1) := ⟨by repeat (first | (with_reducible first | exact HI155.out | apply IsS42.alloc | apply IsS42.drewN | apply IsS42.drew | refine IsS42.farB ?_ (by repeat (first | exact TB.of BK160.out (by decide) | exact TB.of BK181.out (by decide) | apply TB.set | apply TB.drewN | apply TB.drew | apply TB.alloc))) | exact HI155.out)⟩
             have n2_ : Aside0 (IsS45 w ((((((w12.setCell ⟨gb160, 0, none⟩ (.int .i64 ((rd_T28 l0 x5_1).f0))).setCell ⟨gb160, 1, none⟩ (.int .i64 ((rd_T28 l0 x5_1).f1))).setCell ⟨gb160, 2, none⟩ (.int .i64 ((rd_T28 l0 x5_1).f2))).setCell ⟨gb160, 3, none⟩ (.int .i64 ((rd_T28 l0 x5_1).f3))).setCell ⟨gb160, 4, none⟩ (.int .i64 ((rd_T28 l0 x5_1).f4))).setCell ⟨gb160, 5, none⟩ (.int .i64 ((rd_T28 l0 x5_1).f5))) g157 x158000_1) := ⟨by repeat (first | (with_reducible first | exact HI157.out | apply IsS45.alloc | apply IsS45.drewN | apply IsS45.drew | refine IsS45.farB ?_ (by repeat (first | exact TB.of BK160.out (by decide) | exact TB.of BK181.out (by decide) | apply TB.set | apply TB.drewN | apply TB.drew | apply TB.alloc))) | exact HI157.out)⟩
             have n3_ : Aside0 (Below w.heap.size w ((((((w12.setCell ⟨gb160, 0, none⟩ (.int .i64 ((rd_T28 l0 x5_1).f0))).setCell ⟨gb160, 1, none⟩ (.int .i64 ((rd_T28 l0 x5_1).f1))).setCell ⟨gb160, 2, none⟩ (.int .i64 ((rd_T28 l0 x5_1).f2))).setCell ⟨gb160, 3, none⟩ (.int .i64 ((rd_T28 l0 x5_1).f3))).setCell ⟨gb160, 4, none⟩ (.int .i64 ((rd_T28 l0 x5_1).f4))).setCell ⟨gb160, 5, none⟩ (.int .i64 ((rd_T28 l0 x5_1).f5)))) := ⟨by repeat (first | (with_reducible first | exact HB.out | apply below_alloc | apply pw_below_drewN | apply below_drew1 | refine below_set ?_ (IsS42.ge HI155.out) | refine below_set ?_ (IsS45.ge HI157.out) | refine below_set ?_ GE160.out) | exact HB.out)⟩
             (try clear BK160)
             (try clear HI155)
             (try clear HI157)
             (try clear HB)
             generalize ((((((w12.setCell ⟨gb160, 0, none⟩ (.int .i64 ((rd_T28 l0 x5_1).f0))).setCell ⟨gb160, 1, none⟩ (.int .i64 ((rd_T28 l0 x5_1).f1))).setCell ⟨gb160, 2, none⟩ (.int .i64 ((rd_T28 l0 x5_1).f2))).setCell ⟨gb160, 3, none⟩ (.int .i64 ((rd_T28 l0 x5_1).f3))).setCell ⟨gb160, 4, none⟩ (.int .i64 ((rd_T28 l0 x5_1).f4))).setCell ⟨gb160, 5, none⟩ (.int .i64 ((rd_T28 l0 x5_1).f5))) = w33 at n0_ n1_ n2_ n3_ ⊢
             have BK160 := n0_
             have HI155 := n1_
             have HI157 := n2_
             have HB := n3_
             clear n0_ n1_ n2_ n3_
             have n0_ := Aside0.mk (blk_drew BK160.out)
             have n1_ := Aside0.mk (IsS42.drew HI155.out)
             have n2_ := Aside0.mk (IsS45.drew HI157.out)
             have n3_ := Aside0.mk (below_drew1 HB.out)
             clear BK160
             clear HI155
             clear HI157
             clear HB
             have BK160 := n0_
             have HI155 := n1_
             have HI157 := n2_
             have HB := n3_
             clear n0_ n1_ n2_ n3_
             refine start_ (n := 17) (S := fun w' => w'.cell? ⟨gb160, 0, none⟩ = some (.int .i64 ((rd_T28 l0 x5_1).f0)) ∧ w'.cell? ⟨gb160, 1, none⟩ = some (.int .i64 ((rd_T28 l0 x5_1).f1)) ∧ w'.cell? ⟨gb160, 2, none⟩ = some (.int .i64 ((rd_T28 l0 x5_1).f2)) ∧ w'.cell? ⟨gb160, 3, none⟩ = some (.int .i64 ((rd_T28 l0 x5_1).f3)) ∧ w'.cell? ⟨gb160, 4, none⟩ = some (.int .i64 ((rd_T28 l0 x5_1).f4)) ∧ w'.cell? ⟨gb160, 5, none⟩ = some (.int .i64 ((rd_T28 l0 x5_1).f5))) (ds := []) #[false, false, false, false, false, false, false, false, false, false, false, false, false, false, false, false, false] (by kernel_rfl) rfl rfl ⟨(blk_cell BK160.out 0).trans rfl, (blk_cell BK160.out 1).trans rfl, (blk_cell BK160.out 2).trans rfl, (blk_cell BK160.out 3).trans rfl, (blk_cell BK160.out 4).trans rfl, (blk_cell BK160.out 5).trans rfl⟩ (fun hHeld => ?_); refine with_tabW flywheellaw26_ProbePlays.tab13 flywheellaw26_ProbePlays.bits13 (fun HT_ HW_ => ?_)
             generalize w33.drew = w34 at BK160 HI155 HI157 HB hHeld ⊢
             refine pure_ (i := 0) (N := some 44) (v := ?_) (a' := ?_) #[true, false, false, false, false, false, false, false, false, false, false, false, false, false, false, false, false] rfl rfl (any_of HT_.out (by kernel_rfl)) (fun _ _ _ h => h) (Or.inl ⟨by rfl, ?_⟩) ?_ ?_
             rotate_left
             ·intro w'
              go_simp
              with_reducible rfl
             rotate_left
             ·simp only [Act.put, List.setIfInBounds_toArray, List.set_cons_zero, List.set_cons_succ, i64_w, i32_w]
              rfl
             refine pure_ (i := 1) (N := some 45) (v := ?_) (a' := ?_) #[true, true, false, false, false, false, false, false, false, false, false, false, false, false, false, false, false] rfl rfl (any_of HT_.out (by kernel_rfl)) (fun _ _ _ h => h) (Or.inl ⟨by rfl, ?_⟩) ?_ ?_
             rotate_left
             ·intro w'
              go_simp
              with_reducible rfl
             rotate_left
             ·simp only [Act.put, List.setIfInBounds_toArray, List.set_cons_zero, List.set_cons_succ, i64_w, i32_w]
              rfl
             refine pure_ (i := 3) (N := some 47) (v := ?_) (a' := ?_) #[true, true, false, true, false, false, false, false, false, false, false, false, false, false, false, false, false] rfl rfl (any_of HT_.out (by kernel_rfl)) (fun _ _ _ h => h) (Or.inl ⟨by rfl, ?_⟩) ?_ ?_
             rotate_left
             ·intro w'
              go_simp
              with_reducible rfl
             rotate_left
             ·simp only [Act.put, List.setIfInBounds_toArray, List.set_cons_zero, List.set_cons_succ, i64_w, i32_w]
              rfl
             refine pure_ (i := 5) (N := some 49) (v := ?_) (a' := ?_) #[true, true, false, true, false, true, false, false, false, false, false, false, false, false, false, false, false] rfl rfl (any_of HT_.out (by kernel_rfl)) (fun _ _ _ h => h) (Or.inl ⟨by rfl, ?_⟩) ?_ ?_
             rotate_left
             ·intro w'
              go_simp
              with_reducible rfl
             rotate_left
             ·simp only [Act.put, List.setIfInBounds_toArray, List.set_cons_zero, List.set_cons_succ, i64_w, i32_w]
              rfl
             refine pure_ (i := 8) (N := some 52) (v := ?_) (a' := ?_) #[true, true, false, true, false, true, false, false, true, false, false, false, false, false, false, false, false] rfl rfl (any_of HT_.out (by kernel_rfl)) (fun _ _ _ h => h) (Or.inl ⟨by rfl, ?_⟩) ?_ ?_
             rotate_left
             ·intro w'
              go_simp
              with_reducible rfl
             rotate_left
             ·simp only [Act.put, List.setIfInBounds_toArray, List.set_cons_zero, List.set_cons_succ, i64_w, i32_w]
              rfl
             refine pure_ (i := 9) (N := some 53) (v := ?_) (a' := ?_) #[true, true, false, true, false, true, false, false, true, true, false, false, false, false, false, false, false] rfl rfl (any_of HT_.out (by kernel_rfl)) (fun _ _ _ h => h) (Or.inl ⟨by rfl, ?_⟩) ?_ ?_
             rotate_left
             ·intro w'
              go_simp
              with_reducible rfl
             rotate_left
             ·simp only [Act.put, List.setIfInBounds_toArray, List.set_cons_zero, List.set_cons_succ, i64_w, i32_w]
              rfl
             refine pure_ (i := 11) (N := some 55) (v := ?_) (a' := ?_) #[true, true, false, true, false, true, false, false, true, true, false, true, false, false, false, false, false] rfl rfl (any_of HT_.out (by kernel_rfl)) (fun _ _ _ h => h) (Or.inl ⟨by rfl, ?_⟩) ?_ ?_
             rotate_left
             ·intro w'
              go_simp
              with_reducible rfl
             rotate_left
             ·simp only [Act.put, List.setIfInBounds_toArray, List.set_cons_zero, List.set_cons_succ, i64_w, i32_w]
              rfl
             refine pure_ (i := 13) (N := some 57) (v := ?_) (a' := ?_) #[true, true, false, true, false, true, false, false, true, true, false, true, false, true, false, false, false] rfl rfl (any_of HT_.out (by kernel_rfl)) (fun _ _ _ h => h) (Or.inl ⟨by rfl, ?_⟩) ?_ ?_
             rotate_left
             ·intro w'
              go_simp
              with_reducible rfl
             rotate_left
             ·simp only [Act.put, List.setIfInBounds_toArray, List.set_cons_zero, List.set_cons_succ, i64_w, i32_w]
              rfl
             refine take_ (i := 2) (N := some 46) (v := ?_) (a' := ?_) #[true, true, true, true, false, true, false, false, true, true, false, true, false, true, false, false, false] rfl rfl (take_ofW HT_.out HW_.out (by kernel_rfl)) (fun _ _ _ h => h) (Or.inl ⟨by rfl, ?_⟩) hHeld ?_ ?_
             rotate_left
             ·rintro w' ⟨s0, s1, s2, s3, s4, s5⟩
              go_simp
              with_reducible rfl
             rotate_left
             ·simp only [Act.put, List.setIfInBounds_toArray, List.set_cons_zero, List.set_cons_succ, i64_w, i32_w]
              rfl
             refine take_ (i := 4) (N := some 48) (v := ?_) (a' := ?_) #[true, true, true, true, true, true, false, false, true, true, false, true, false, true, false, false, false] rfl rfl (take_ofW HT_.out HW_.out (by kernel_rfl)) (fun _ _ _ h => h) (Or.inl ⟨by rfl, ?_⟩) hHeld ?_ ?_
             rotate_left
             ·rintro w' ⟨s0, s1, s2, s3, s4, s5⟩
              go_simp
              with_reducible rfl
             rotate_left
             ·simp only [Act.put, List.setIfInBounds_toArray, List.set_cons_zero, List.set_cons_succ, i64_w, i32_w]
              rfl
             refine take_ (i := 6) (N := some 50) (v := ?_) (a' := ?_) #[true, true, true, true, true, true, true, false, true, true, false, true, false, true, false, false, false] rfl rfl (take_ofW HT_.out HW_.out (by kernel_rfl)) (fun _ _ _ h => h) (Or.inl ⟨by rfl, ?_⟩) hHeld ?_ ?_
             rotate_left
             ·rintro w' ⟨s0, s1, s2, s3, s4, s5⟩
              go_simp
              with_reducible rfl
             rotate_left
             ·simp only [Act.put, List.setIfInBounds_toArray, List.set_cons_zero, List.set_cons_succ, i64_w, i32_w]
              rfl
             refine take_ (i := 10) (N := some 54) (v := ?_) (a' := ?_) #[true, true, true, true, true, true, true, false, true, true, true, true, false, true, false, false, false] rfl rfl (take_ofW HT_.out HW_.out (by kernel_rfl)) (fun _ _ _ h => h) (Or.inl ⟨by rfl, ?_⟩) hHeld ?_ ?_
             rotate_left
             ·rintro w' ⟨s0, s1, s2, s3, s4, s5⟩
              go_simp
              with_reducible rfl
             rotate_left
             ·simp only [Act.put, List.setIfInBounds_toArray, List.set_cons_zero, List.set_cons_succ, i64_w, i32_w]
              rfl
             refine take_ (i := 12) (N := some 56) (v := ?_) (a' := ?_) #[true, true, true, true, true, true, true, false, true, true, true, true, true, true, false, false, false] rfl rfl (take_ofW HT_.out HW_.out (by kernel_rfl)) (fun _ _ _ h => h) (Or.inl ⟨by rfl, ?_⟩) hHeld ?_ ?_
             rotate_left
             ·rintro w' ⟨s0, s1, s2, s3, s4, s5⟩
              go_simp
              with_reducible rfl
             rotate_left
             ·simp only [Act.put, List.setIfInBounds_toArray, List.set_cons_zero, List.set_cons_succ, i64_w, i32_w]
              rfl
             refine take_ (i := 14) (N := some 58) (v := ?_) (a' := ?_) #[true, true, true, true, true, true, true, false, true, true, true, true, true, true, true, false, false] rfl rfl (take_ofW HT_.out HW_.out (by kernel_rfl)) (fun _ _ _ h => h) (Or.inl ⟨by rfl, ?_⟩) hHeld ?_ ?_
             rotate_left
             ·rintro w' ⟨s0, s1, s2, s3, s4, s5⟩
              go_simp
              with_reducible rfl
             rotate_left
             ·simp only [Act.put, List.setIfInBounds_toArray, List.set_cons_zero, List.set_cons_succ, i64_w, i32_w]
              rfl
             refine one_ (i := 7) (N := some 51) #[true, true, true, true, true, true, true, true, true, true, true, true, true, true, true, false, false] rfl rfl (one_of HT_.out (by kernel_rfl)) (by decide) (fun K hK => ?_)
             refine goes_ Try.func8 (by kernel_rfl) rfl #[.pointer (some ⟨g155, 0, none⟩), .int .i64 ((rd_T28 l0 x5_1).f1), .int .i64 ((rd_T28 l0 x5_1).f2), .int .i64 ((rd_T28 l0 x5_1).f4)] (by rfl) rfl rfl (by (try simp only [List.map_toArray, List.map_cons, List.map_nil]); first | done | rfl | (simp only [List.length_drop, List.length_take]; rfl)) ?_
             with_reducible refine (probe_Probe_Sent.calls g155 x156000_1 ((rd_T28 l0 x5_1).f1) ((rd_T28 l0 x5_1).f2) ((rd_T28 l0 x5_1).f4) true t166 w _ ?side1 ?side2 A29.out).mono ?_
             (case side1 => repeat (first | (with_reducible first | exact HI155.out | apply IsS42.alloc | apply IsS42.drewN | apply IsS42.drew | refine IsS42.farB ?_ (by repeat (first | exact TB.of BK160.out (by decide) | exact TB.of BK181.out (by decide) | apply TB.set | apply TB.drewN | apply TB.drew | apply TB.alloc))) | exact HI155.out))
             (case side2 => repeat (first | (with_reducible first | exact HB.out | apply below_alloc | apply pw_below_drewN | apply below_drew1 | refine below_set ?_ (IsS42.ge HI155.out) | refine below_set ?_ (IsS45.ge HI157.out) | refine below_set ?_ GE160.out) | exact HB.out))
             rintro e w35 ⟨rfl, hi, hb, hk⟩
             refine ⟨_, rfl, ?_⟩
             have n0_ := Aside0.mk (IsS45.keepM HI157.out (fun h_ => by repeat (first | (with_reducible first | exact h_ | apply IsS45.alloc | apply IsS45.drewN | apply IsS45.drew | refine IsS45.farB ?_ (by repeat (first | exact TB.of BK160.out (by decide) | exact TB.of BK181.out (by decide) | apply TB.set | apply TB.drewN | apply TB.drew | apply TB.alloc))) | exact HI157.out)) hk NB157_155.out)
             have n1_ := Aside0.mk (hk.kblk (g' := gb160) (cs := #[.int .i64 ((rd_T28 l0 x5_1).f0), .int .i64 ((rd_T28 l0 x5_1).f1), .int .i64 ((rd_T28 l0 x5_1).f2), .int .i64 ((rd_T28 l0 x5_1).f3), .int .i64 ((rd_T28 l0 x5_1).f4), .int .i64 ((rd_T28 l0 x5_1).f5)]) (t := 28) (by (with_reducible repeat (first | refine blk_drewN ?_ _ | refine blk_drew ?_ | refine blk_alloc ?_ _)); exact BK160.out) NB160_155.out (by simp))
             have n2_ := Aside0.mk (hb)
             have n3_ := Aside0.mk (hi)
             clear HI157
             clear BK160
             clear HB
             clear HI155
             have HI157 := n0_
             have BK160 := n1_
             have HB := n2_
             have HI155 := n3_
             clear n0_ n1_ n2_ n3_
             (try clear hb)
             (try clear hb2)
             (try clear hk)
             (try clear hi)
             refine hK.out _ _ ⟨(blk_cell BK160.out 0).trans rfl, (blk_cell BK160.out 1).trans rfl, (blk_cell BK160.out 2).trans rfl, (blk_cell BK160.out 3).trans rfl, (blk_cell BK160.out 4).trans rfl, (blk_cell BK160.out 5).trans rfl⟩ (fun hHeld => ?_)
             clear hK K
             refine norm_ (a' := ?_) ?_ ?_
             rotate_left
             ·show Act.put _ (some 51) _ = _
              simp only [Act.put, List.setIfInBounds_toArray, List.set_cons_zero, List.set_cons_succ, i64_w, i32_w]
              rfl
             refine one_ (i := 15) (N := some 59) #[true, true, true, true, true, true, true, true, true, true, true, true, true, true, true, true, false] rfl rfl (one_of HT_.out (by kernel_rfl)) (by decide) (fun K hK => ?_)
             refine goes_ Try.func9 (by kernel_rfl) rfl #[.pointer (some ⟨g157, 0, none⟩), .int .i64 ((rd_T28 l0 x5_1).f1), .int .i64 ((rd_T28 l0 x5_1).f2), .int .i64 ((rd_T28 l0 x5_1).f4)] (by rfl) rfl rfl (by (try simp only [List.map_toArray, List.map_cons, List.map_nil]); first | done | rfl | (simp only [List.length_drop, List.length_take]; rfl)) ?_
             with_reducible refine (flywheelref26_Probe_Sent.calls g157 x158000_1 ((rd_T28 l0 x5_1).f1) ((rd_T28 l0 x5_1).f2) ((rd_T28 l0 x5_1).f4) true t168 w _ ?side1 ?side2 A30.out).mono ?_
             (case side1 => repeat (first | (with_reducible first | exact HI157.out | apply IsS45.alloc | apply IsS45.drewN | apply IsS45.drew | refine IsS45.farB ?_ (by repeat (first | exact TB.of BK160.out (by decide) | exact TB.of BK181.out (by decide) | apply TB.set | apply TB.drewN | apply TB.drew | apply TB.alloc))) | exact HI157.out))
             (case side2 => repeat (first | (with_reducible first | exact HB.out | apply below_alloc | apply pw_below_drewN | apply below_drew1 | refine below_set ?_ (IsS42.ge HI155.out) | refine below_set ?_ (IsS45.ge HI157.out) | refine below_set ?_ GE160.out) | exact HB.out))
             rintro e w36 ⟨rfl, hi, hb, hk⟩
             refine ⟨_, rfl, ?_⟩
             have n0_ := Aside0.mk (IsS42.keepM HI155.out (fun h_ => by repeat (first | (with_reducible first | exact h_ | apply IsS42.alloc | apply IsS42.drewN | apply IsS42.drew | refine IsS42.farB ?_ (by repeat (first | exact TB.of BK160.out (by decide) | exact TB.of BK181.out (by decide) | apply TB.set | apply TB.drewN | apply TB.drew | apply TB.alloc))) | exact HI155.out)) hk NB155_157.out)
             have n1_ := Aside0.mk (hk.kblk (g' := gb160) (cs := #[.int .i64 ((rd_T28 l0 x5_1).f0), .int .i64 ((rd_T28 l0 x5_1).f1), .int .i64 ((rd_T28 l0 x5_1).f2), .int .i64 ((rd_T28 l0 x5_1).f3), .int .i64 ((rd_T28 l0 x5_1).f4), .int .i64 ((rd_T28 l0 x5_1).f5)]) (t := 28) (by (with_reducible repeat (first | refine blk_drewN ?_ _ | refine blk_drew ?_ | refine blk_alloc ?_ _)); exact BK160.out) NB160_157.out (by simp))
             have n2_ := Aside0.mk (hb)
             have n3_ := Aside0.mk (hi)
             clear HI155
             clear BK160
             clear HB
             clear HI157
             have HI155 := n0_
             have BK160 := n1_
             have HB := n2_
             have HI157 := n3_
             clear n0_ n1_ n2_ n3_
             (try clear hb)
             (try clear hb2)
             (try clear hk)
             (try clear hi)
             refine hK.out _ _ ⟨(blk_cell BK160.out 0).trans rfl, (blk_cell BK160.out 1).trans rfl, (blk_cell BK160.out 2).trans rfl, (blk_cell BK160.out 3).trans rfl, (blk_cell BK160.out 4).trans rfl, (blk_cell BK160.out 5).trans rfl⟩ (fun hHeld => ?_)
             clear hK K
             refine norm_ (a' := ?_) ?_ ?_
             rotate_left
             ·show Act.put _ (some 59) _ = _
              simp only [Act.put, List.setIfInBounds_toArray, List.set_cons_zero, List.set_cons_succ, i64_w, i32_w]
              rfl
             refine pure_ (i := 16) (N := some 60) (v := ?_) (a' := ?_) #[true, true, true, true, true, true, true, true, true, true, true, true, true, true, true, true, true] rfl rfl (any_of HT_.out (by kernel_rfl)) (fun _ _ _ h => h) (Or.inl ⟨by rfl, ?_⟩) ?_ ?_
             rotate_left
             ·intro w'
              go_simp
              with_reducible rfl
             rotate_left
             ·simp only [Act.put, List.setIfInBounds_toArray, List.set_cons_zero, List.set_cons_succ, i64_w, i32_w]
              rfl
             refine done_ (done_of HT_.out (by kernel_rfl)) ?_
             try go_wp2
             go_meet
             case rel => exact ⟨_, (t166), (t168), H', ⟨by have := HK1.out; have := HJ5.out; first | omega | exact Nat.le_refl _⟩, ⟨by (with_reducible repeat (first | refine blk_drewN ?_ _ | refine blk_drew ?_ | refine blk_alloc ?_ _)); exact BK160.out⟩, ⟨by repeat (first | (with_reducible first | exact HI155.out | apply IsS42.alloc | apply IsS42.drewN | apply IsS42.drew | refine IsS42.farB ?_ (by repeat (first | exact TB.of BK160.out (by decide) | exact TB.of BK181.out (by decide) | apply TB.set | apply TB.drewN | apply TB.drew | apply TB.alloc))) | exact HI155.out)⟩, ⟨by repeat (first | (with_reducible first | exact HI157.out | apply IsS45.alloc | apply IsS45.drewN | apply IsS45.drew | refine IsS45.farB ?_ (by repeat (first | exact TB.of BK160.out (by decide) | exact TB.of BK181.out (by decide) | apply TB.set | apply TB.drewN | apply TB.drew | apply TB.alloc))) | exact HI157.out)⟩, ⟨by repeat (first | (with_reducible first | exact HB.out | apply below_alloc | apply pw_below_drewN | apply below_drew1 | refine below_set ?_ (IsS42.ge HI155.out) | refine below_set ?_ (IsS45.ge HI157.out) | refine below_set ?_ GE160.out) | exact HB.out)⟩⟩
            ·replace c32 := Bool.eq_false_iff.mpr c32
             subst c32
             have H1 : (some false) = some r := by rw [if_neg (show ¬ (false = true) by decide)] at H; exact H
             clear H
             have H := H1
             clear H1
             obtain rfl := Option.some.inj H
             try go_wp2
             have n0_ : Aside0 (((((((w12.setCell ⟨gb160, 0, none⟩ (.int .i64 ((rd_T28 l0 x5_1).f0))).setCell ⟨gb160, 1, none⟩ (.int .i64 ((rd_T28 l0 x5_1).f1))).setCell ⟨gb160, 2, none⟩ (.int .i64 ((rd_T28 l0 x5_1).f2))).setCell ⟨gb160, 3, none⟩ (.int .i64 ((rd_T28 l0 x5_1).f3))).setCell ⟨gb160, 4, none⟩ (.int .i64 ((rd_T28 l0 x5_1).f4))).setCell ⟨gb160, 5, none⟩ (.int .i64 ((rd_T28 l0 x5_1).f5))).heap[gb160]? = some (.cells #[.int .i64 ((rd_T28 l0 x5_1).f0), .int .i64 ((rd_T28 l0 x5_1).f1), .int .i64 ((rd_T28 l0 x5_1).f2), .int .i64 ((rd_T28 l0 x5_1).f3), .int .i64 ((rd_T28 l0 x5_1).f4), .int .i64 ((rd_T28 l0 x5_1).f5)] 28 (0, 0))) := ⟨by (with_reducible repeat (first | refine blk_drewN ?_ _ | refine blk_drew ?_ | refine blk_alloc ?_ _)); refine blk_put (cs := #[.int .i64 ((rd_T28 l0 x5_1).f0), .int .i64 ((rd_T28 l0 x5_1).f1), .int .i64 ((rd_T28 l0 x5_1).f2), .int .i64 ((rd_T28 l0 x5_1).f3), .int .i64 ((rd_T28 l0 x5_1).f4), .int .i64 0]) ?_ 5 _ rfl; (with_reducible repeat (first | refine blk_drewN ?_ _ | refine blk_drew ?_ | refine blk_alloc ?_ _)); refine blk_put (cs := #[.int .i64 ((rd_T28 l0 x5_1).f0), .int .i64 ((rd_T28 l0 x5_1).f1), .int .i64 ((rd_T28 l0 x5_1).f2), .int .i64 ((rd_T28 l0 x5_1).f3), .int .i64 0, .int .i64 0]) ?_ 4 _ rfl; (with_reducible repeat (first | refine blk_drewN ?_ _ | refine blk_drew ?_ | refine blk_alloc ?_ _)); refine blk_put (cs := #[.int .i64 ((rd_T28 l0 x5_1).f0), .int .i64 ((rd_T28 l0 x5_1).f1), .int .i64 ((rd_T28 l0 x5_1).f2), .int .i64 0, .int .i64 0, .int .i64 0]) ?_ 3 _ rfl; (with_reducible repeat (first | refine blk_drewN ?_ _ | refine blk_drew ?_ | refine blk_alloc ?_ _)); refine blk_put (cs := #[.int .i64 ((rd_T28 l0 x5_1).f0), .int .i64 ((rd_T28 l0 x5_1).f1), .int .i64 0, .int .i64 0, .int .i64 0, .int .i64 0]) ?_ 2 _ rfl; (with_reducible repeat (first | refine blk_drewN ?_ _ | refine blk_drew ?_ | refine blk_alloc ?_ _)); refine blk_put (cs := #[.int .i64 ((rd_T28 l0 x5_1).f0), .int .i64 0, .int .i64 0, .int .i64 0, .int .i64 0, .int .i64 0]) ?_ 1 _ rfl; (with_reducible repeat (first | refine blk_drewN ?_ _ | refine blk_drew ?_ | refine blk_alloc ?_ _)); refine blk_put (cs := #[.int .i64 0, .int .i64 0, .int .i64 0, .int .i64 0, .int .i64 0, .int .i64 0]) ?_ 0 _ rfl; (with_reducible repeat (first | refine blk_drewN ?_ _ | refine blk_drew ?_ | refine blk_alloc ?_ _)); exact BK160.out⟩
             have n1_ : Aside0 (IsS42 w ((((((w12.setCell ⟨gb160, 0, none⟩ (.int .i64 ((rd_T28 l0 x5_1).f0))).setCell ⟨gb160, 1, none⟩ (.int .i64 ((rd_T28 l0 x5_1).f1))).setCell ⟨gb160, 2, none⟩ (.int .i64 ((rd_T28 l0 x5_1).f2))).setCell ⟨gb160, 3, none⟩ (.int .i64 ((rd_T28 l0 x5_1).f3))).setCell ⟨gb160, 4, none⟩ (.int .i64 ((rd_T28 l0 x5_1).f4))).setCell ⟨gb160, 5, none⟩ (.int .i64 ((rd_T28 l0 x5_1).f5))) g155 x156000_1) := ⟨by repeat (first | (with_reducible first | exact HI155.out | apply IsS42.alloc | apply IsS42.drewN | apply IsS42.drew | refine IsS42.farB ?_ (by repeat (first | exact TB.of BK160.out (by decide) | exact TB.of BK181.out (by decide) | apply TB.set | apply TB.drewN | apply TB.drew | apply TB.alloc))) | exact HI155.out)⟩
             have n2_ : Aside0 (IsS45 w ((((((w12.setCell ⟨gb160, 0, none⟩ (.int .i64 ((rd_T28 l0 x5_1).f0))).setCell ⟨gb160, 1, none⟩ (.int .i64 ((rd_T28 l0 x5_1).f1))).setCell ⟨gb160, 2, none⟩ (.int .i64 ((rd_T28 l0 x5_1).f2))).setCell ⟨gb160, 3, none⟩ (.int .i64 ((rd_T28 l0 x5_1).f3))).setCell ⟨gb160, 4, none⟩ (.int .i64 ((rd_T28 l0 x5_1).f4))).setCell ⟨gb160, 5, none⟩ (.int .i64 ((rd_T28 l0 x5_1).f5))) g157 x158000_1) := ⟨by repeat (first | (with_reducible first | exact HI157.out | apply IsS45.alloc | apply IsS45.drewN | apply IsS45.drew | refine IsS45.farB ?_ (by repeat (first | exact TB.of BK160.out (by decide) | exact TB.of BK181.out (by decide) | apply TB.set | apply TB.drewN | apply TB.drew | apply TB.alloc))) | exact HI157.out)⟩
             have n3_ : Aside0 (Below w.heap.size w ((((((w12.setCell ⟨gb160, 0, none⟩ (.int .i64 ((rd_T28 l0 x5_1).f0))).setCell ⟨gb160, 1, none⟩ (.int .i64 ((rd_T28 l0 x5_1).f1))).setCell ⟨gb160, 2, none⟩ (.int .i64 ((rd_T28 l0 x5_1).f2))).setCell ⟨gb160, 3, none⟩ (.int .i64 ((rd_T28 l0 x5_1).f3))).setCell ⟨gb160, 4, none⟩ (.int .i64 ((rd_T28 l0 x5_1).f4))).setCell ⟨gb160, 5, none⟩ (.int .i64 ((rd_T28 l0 x5_1).f5)))) := ⟨by repeat (first | (with_reducible first | exact HB.out | apply below_alloc | apply pw_below_drewN | apply below_drew1 | refine below_set ?_ (IsS42.ge HI155.out) | refine below_set ?_ (IsS45.ge HI157.out) | refine below_set ?_ GE160.out) | exact HB.out)⟩
             (try clear BK160)
             (try clear HI155)
             (try clear HI157)
             (try clear HB)
             generalize ((((((w12.setCell ⟨gb160, 0, none⟩ (.int .i64 ((rd_T28 l0 x5_1).f0))).setCell ⟨gb160, 1, none⟩ (.int .i64 ((rd_T28 l0 x5_1).f1))).setCell ⟨gb160, 2, none⟩ (.int .i64 ((rd_T28 l0 x5_1).f2))).setCell ⟨gb160, 3, none⟩ (.int .i64 ((rd_T28 l0 x5_1).f3))).setCell ⟨gb160, 4, none⟩ (.int .i64 ((rd_T28 l0 x5_1).f4))).setCell ⟨gb160, 5, none⟩ (.int .i64 ((rd_T28 l0 x5_1).f5))) = w37 at n0_ n1_ n2_ n3_ ⊢
             have BK160 := n0_
             have HI155 := n1_
             have HI157 := n2_
             have HB := n3_
             clear n0_ n1_ n2_ n3_
             have n0_ := Aside0.mk (blk_drew BK160.out)
             have n1_ := Aside0.mk (IsS42.drew HI155.out)
             have n2_ := Aside0.mk (IsS45.drew HI157.out)
             have n3_ := Aside0.mk (below_drew1 HB.out)
             clear BK160
             clear HI155
             clear HI157
             clear HB
             have BK160 := n0_
             have HI155 := n1_
             have HI157 := n2_
             have HB := n3_
             clear n0_ n1_ n2_ n3_
             refine start_ (n := 17) (S := fun w' => w'.cell? ⟨gb160, 0, none⟩ = some (.int .i64 ((rd_T28 l0 x5_1).f0)) ∧ w'.cell? ⟨gb160, 1, none⟩ = some (.int .i64 ((rd_T28 l0 x5_1).f1)) ∧ w'.cell? ⟨gb160, 2, none⟩ = some (.int .i64 ((rd_T28 l0 x5_1).f2)) ∧ w'.cell? ⟨gb160, 3, none⟩ = some (.int .i64 ((rd_T28 l0 x5_1).f3)) ∧ w'.cell? ⟨gb160, 4, none⟩ = some (.int .i64 ((rd_T28 l0 x5_1).f4)) ∧ w'.cell? ⟨gb160, 5, none⟩ = some (.int .i64 ((rd_T28 l0 x5_1).f5))) (ds := []) #[false, false, false, false, false, false, false, false, false, false, false, false, false, false, false, false, false] (by kernel_rfl) rfl rfl ⟨(blk_cell BK160.out 0).trans rfl, (blk_cell BK160.out 1).trans rfl, (blk_cell BK160.out 2).trans rfl, (blk_cell BK160.out 3).trans rfl, (blk_cell BK160.out 4).trans rfl, (blk_cell BK160.out 5).trans rfl⟩ (fun hHeld => ?_); refine with_tabW flywheellaw26_ProbePlays.tab13 flywheellaw26_ProbePlays.bits13 (fun HT_ HW_ => ?_)
             generalize w37.drew = w38 at BK160 HI155 HI157 HB hHeld ⊢
             refine pure_ (i := 0) (N := some 44) (v := ?_) (a' := ?_) #[true, false, false, false, false, false, false, false, false, false, false, false, false, false, false, false, false] rfl rfl (any_of HT_.out (by kernel_rfl)) (fun _ _ _ h => h) (Or.inl ⟨by rfl, ?_⟩) ?_ ?_
             rotate_left
             ·intro w'
              go_simp
              with_reducible rfl
             rotate_left
             ·simp only [Act.put, List.setIfInBounds_toArray, List.set_cons_zero, List.set_cons_succ, i64_w, i32_w]
              rfl
             refine pure_ (i := 1) (N := some 45) (v := ?_) (a' := ?_) #[true, true, false, false, false, false, false, false, false, false, false, false, false, false, false, false, false] rfl rfl (any_of HT_.out (by kernel_rfl)) (fun _ _ _ h => h) (Or.inl ⟨by rfl, ?_⟩) ?_ ?_
             rotate_left
             ·intro w'
              go_simp
              with_reducible rfl
             rotate_left
             ·simp only [Act.put, List.setIfInBounds_toArray, List.set_cons_zero, List.set_cons_succ, i64_w, i32_w]
              rfl
             refine pure_ (i := 3) (N := some 47) (v := ?_) (a' := ?_) #[true, true, false, true, false, false, false, false, false, false, false, false, false, false, false, false, false] rfl rfl (any_of HT_.out (by kernel_rfl)) (fun _ _ _ h => h) (Or.inl ⟨by rfl, ?_⟩) ?_ ?_
             rotate_left
             ·intro w'
              go_simp
              with_reducible rfl
             rotate_left
             ·simp only [Act.put, List.setIfInBounds_toArray, List.set_cons_zero, List.set_cons_succ, i64_w, i32_w]
              rfl
             refine pure_ (i := 5) (N := some 49) (v := ?_) (a' := ?_) #[true, true, false, true, false, true, false, false, false, false, false, false, false, false, false, false, false] rfl rfl (any_of HT_.out (by kernel_rfl)) (fun _ _ _ h => h) (Or.inl ⟨by rfl, ?_⟩) ?_ ?_
             rotate_left
             ·intro w'
              go_simp
              with_reducible rfl
             rotate_left
             ·simp only [Act.put, List.setIfInBounds_toArray, List.set_cons_zero, List.set_cons_succ, i64_w, i32_w]
              rfl
             refine pure_ (i := 8) (N := some 52) (v := ?_) (a' := ?_) #[true, true, false, true, false, true, false, false, true, false, false, false, false, false, false, false, false] rfl rfl (any_of HT_.out (by kernel_rfl)) (fun _ _ _ h => h) (Or.inl ⟨by rfl, ?_⟩) ?_ ?_
             rotate_left
             ·intro w'
              go_simp
              with_reducible rfl
             rotate_left
             ·simp only [Act.put, List.setIfInBounds_toArray, List.set_cons_zero, List.set_cons_succ, i64_w, i32_w]
              rfl
             refine pure_ (i := 9) (N := some 53) (v := ?_) (a' := ?_) #[true, true, false, true, false, true, false, false, true, true, false, false, false, false, false, false, false] rfl rfl (any_of HT_.out (by kernel_rfl)) (fun _ _ _ h => h) (Or.inl ⟨by rfl, ?_⟩) ?_ ?_
             rotate_left
             ·intro w'
              go_simp
              with_reducible rfl
             rotate_left
             ·simp only [Act.put, List.setIfInBounds_toArray, List.set_cons_zero, List.set_cons_succ, i64_w, i32_w]
              rfl
             refine pure_ (i := 11) (N := some 55) (v := ?_) (a' := ?_) #[true, true, false, true, false, true, false, false, true, true, false, true, false, false, false, false, false] rfl rfl (any_of HT_.out (by kernel_rfl)) (fun _ _ _ h => h) (Or.inl ⟨by rfl, ?_⟩) ?_ ?_
             rotate_left
             ·intro w'
              go_simp
              with_reducible rfl
             rotate_left
             ·simp only [Act.put, List.setIfInBounds_toArray, List.set_cons_zero, List.set_cons_succ, i64_w, i32_w]
              rfl
             refine pure_ (i := 13) (N := some 57) (v := ?_) (a' := ?_) #[true, true, false, true, false, true, false, false, true, true, false, true, false, true, false, false, false] rfl rfl (any_of HT_.out (by kernel_rfl)) (fun _ _ _ h => h) (Or.inl ⟨by rfl, ?_⟩) ?_ ?_
             rotate_left
             ·intro w'
              go_simp
              with_reducible rfl
             rotate_left
             ·simp only [Act.put, List.setIfInBounds_toArray, List.set_cons_zero, List.set_cons_succ, i64_w, i32_w]
              rfl
             refine take_ (i := 2) (N := some 46) (v := ?_) (a' := ?_) #[true, true, true, true, false, true, false, false, true, true, false, true, false, true, false, false, false] rfl rfl (take_ofW HT_.out HW_.out (by kernel_rfl)) (fun _ _ _ h => h) (Or.inl ⟨by rfl, ?_⟩) hHeld ?_ ?_
             rotate_left
             ·rintro w' ⟨s0, s1, s2, s3, s4, s5⟩
              go_simp
              with_reducible rfl
             rotate_left
             ·simp only [Act.put, List.setIfInBounds_toArray, List.set_cons_zero, List.set_cons_succ, i64_w, i32_w]
              rfl
             refine take_ (i := 4) (N := some 48) (v := ?_) (a' := ?_) #[true, true, true, true, true, true, false, false, true, true, false, true, false, true, false, false, false] rfl rfl (take_ofW HT_.out HW_.out (by kernel_rfl)) (fun _ _ _ h => h) (Or.inl ⟨by rfl, ?_⟩) hHeld ?_ ?_
             rotate_left
             ·rintro w' ⟨s0, s1, s2, s3, s4, s5⟩
              go_simp
              with_reducible rfl
             rotate_left
             ·simp only [Act.put, List.setIfInBounds_toArray, List.set_cons_zero, List.set_cons_succ, i64_w, i32_w]
              rfl
             refine take_ (i := 6) (N := some 50) (v := ?_) (a' := ?_) #[true, true, true, true, true, true, true, false, true, true, false, true, false, true, false, false, false] rfl rfl (take_ofW HT_.out HW_.out (by kernel_rfl)) (fun _ _ _ h => h) (Or.inl ⟨by rfl, ?_⟩) hHeld ?_ ?_
             rotate_left
             ·rintro w' ⟨s0, s1, s2, s3, s4, s5⟩
              go_simp
              with_reducible rfl
             rotate_left
             ·simp only [Act.put, List.setIfInBounds_toArray, List.set_cons_zero, List.set_cons_succ, i64_w, i32_w]
              rfl
             refine take_ (i := 10) (N := some 54) (v := ?_) (a' := ?_) #[true, true, true, true, true, true, true, false, true, true, true, true, false, true, false, false, false] rfl rfl (take_ofW HT_.out HW_.out (by kernel_rfl)) (fun _ _ _ h => h) (Or.inl ⟨by rfl, ?_⟩) hHeld ?_ ?_
             rotate_left
             ·rintro w' ⟨s0, s1, s2, s3, s4, s5⟩
              go_simp
              with_reducible rfl
             rotate_left
             ·simp only [Act.put, List.setIfInBounds_toArray, List.set_cons_zero, List.set_cons_succ, i64_w, i32_w]
              rfl
             refine take_ (i := 12) (N := some 56) (v := ?_) (a' := ?_) #[true, true, true, true, true, true, true, false, true, true, true, true, true, true, false, false, false] rfl rfl (take_ofW HT_.out HW_.out (by kernel_rfl)) (fun _ _ _ h => h) (Or.inl ⟨by rfl, ?_⟩) hHeld ?_ ?_
             rotate_left
             ·rintro w' ⟨s0, s1, s2, s3, s4, s5⟩
              go_simp
              with_reducible rfl
             rotate_left
             ·simp only [Act.put, List.setIfInBounds_toArray, List.set_cons_zero, List.set_cons_succ, i64_w, i32_w]
              rfl
             refine take_ (i := 14) (N := some 58) (v := ?_) (a' := ?_) #[true, true, true, true, true, true, true, false, true, true, true, true, true, true, true, false, false] rfl rfl (take_ofW HT_.out HW_.out (by kernel_rfl)) (fun _ _ _ h => h) (Or.inl ⟨by rfl, ?_⟩) hHeld ?_ ?_
             rotate_left
             ·rintro w' ⟨s0, s1, s2, s3, s4, s5⟩
              go_simp
              with_reducible rfl
             rotate_left
             ·simp only [Act.put, List.setIfInBounds_toArray, List.set_cons_zero, List.set_cons_succ, i64_w, i32_w]
              rfl
             refine one_ (i := 7) (N := some 51) #[true, true, true, true, true, true, true, true, true, true, true, true, true, true, true, false, false] rfl rfl (one_of HT_.out (by kernel_rfl)) (by decide) (fun K hK => ?_)
             refine goes_ Try.func8 (by kernel_rfl) rfl #[.pointer (some ⟨g155, 0, none⟩), .int .i64 ((rd_T28 l0 x5_1).f1), .int .i64 ((rd_T28 l0 x5_1).f2), .int .i64 ((rd_T28 l0 x5_1).f4)] (by rfl) rfl rfl (by (try simp only [List.map_toArray, List.map_cons, List.map_nil]); first | done | rfl | (simp only [List.length_drop, List.length_take]; rfl)) ?_
             with_reducible refine (probe_Probe_Sent.calls g155 x156000_1 ((rd_T28 l0 x5_1).f1) ((rd_T28 l0 x5_1).f2) ((rd_T28 l0 x5_1).f4) true t166 w _ ?side1 ?side2 A29.out).mono ?_
             (case side1 => repeat (first | (with_reducible first | exact HI155.out | apply IsS42.alloc | apply IsS42.drewN | apply IsS42.drew | refine IsS42.farB ?_ (by repeat (first | exact TB.of BK160.out (by decide) | exact TB.of BK181.out (by decide) | apply TB.set | apply TB.drewN | apply TB.drew | apply TB.alloc))) | exact HI155.out))
             (case side2 => repeat (first | (with_reducible first | exact HB.out | apply below_alloc | apply pw_below_drewN | apply below_drew1 | refine below_set ?_ (IsS42.ge HI155.out) | refine below_set ?_ (IsS45.ge HI157.out) | refine below_set ?_ GE160.out) | exact HB.out))
             rintro e w39 ⟨rfl, hi, hb, hk⟩
             refine ⟨_, rfl, ?_⟩
             have n0_ := Aside0.mk (IsS45.keepM HI157.out (fun h_ => by repeat (first | (with_reducible first | exact h_ | apply IsS45.alloc | apply IsS45.drewN | apply IsS45.drew | refine IsS45.farB ?_ (by repeat (first | exact TB.of BK160.out (by decide) | exact TB.of BK181.out (by decide) | apply TB.set | apply TB.drewN | apply TB.drew | apply TB.alloc))) | exact HI157.out)) hk NB157_155.out)
             have n1_ := Aside0.mk (hk.kblk (g' := gb160) (cs := #[.int .i64 ((rd_T28 l0 x5_1).f0), .int .i64 ((rd_T28 l0 x5_1).f1), .int .i64 ((rd_T28 l0 x5_1).f2), .int .i64 ((rd_T28 l0 x5_1).f3), .int .i64 ((rd_T28 l0 x5_1).f4), .int .i64 ((rd_T28 l0 x5_1).f5)]) (t := 28) (by (with_reducible repeat (first | refine blk_drewN ?_ _ | refine blk_drew ?_ | refine blk_alloc ?_ _)); exact BK160.out) NB160_155.out (by simp))
             have n2_ := Aside0.mk (hb)
             have n3_ := Aside0.mk (hi)
             clear HI157
             clear BK160
             clear HB
             clear HI155
             have HI157 := n0_
             have BK160 := n1_
             have HB := n2_
             have HI155 := n3_
             clear n0_ n1_ n2_ n3_
             (try clear hb)
             (try clear hb2)
             (try clear hk)
             (try clear hi)
             refine hK.out _ _ ⟨(blk_cell BK160.out 0).trans rfl, (blk_cell BK160.out 1).trans rfl, (blk_cell BK160.out 2).trans rfl, (blk_cell BK160.out 3).trans rfl, (blk_cell BK160.out 4).trans rfl, (blk_cell BK160.out 5).trans rfl⟩ (fun hHeld => ?_)
             clear hK K
             refine norm_ (a' := ?_) ?_ ?_
             rotate_left
             ·show Act.put _ (some 51) _ = _
              simp only [Act.put, List.setIfInBounds_toArray, List.set_cons_zero, List.set_cons_succ, i64_w, i32_w]
              rfl
             refine one_ (i := 15) (N := some 59) #[true, true, true, true, true, true, true, true, true, true, true, true, true, true, true, true, false] rfl rfl (one_of HT_.out (by kernel_rfl)) (by decide) (fun K hK => ?_)
             refine goes_ Try.func9 (by kernel_rfl) rfl #[.pointer (some ⟨g157, 0, none⟩), .int .i64 ((rd_T28 l0 x5_1).f1), .int .i64 ((rd_T28 l0 x5_1).f2), .int .i64 ((rd_T28 l0 x5_1).f4)] (by rfl) rfl rfl (by (try simp only [List.map_toArray, List.map_cons, List.map_nil]); first | done | rfl | (simp only [List.length_drop, List.length_take]; rfl)) ?_
             with_reducible refine (flywheelref26_Probe_Sent.calls g157 x158000_1 ((rd_T28 l0 x5_1).f1) ((rd_T28 l0 x5_1).f2) ((rd_T28 l0 x5_1).f4) false t168 w _ ?side1 ?side2 A30.out).mono ?_
             (case side1 => repeat (first | (with_reducible first | exact HI157.out | apply IsS45.alloc | apply IsS45.drewN | apply IsS45.drew | refine IsS45.farB ?_ (by repeat (first | exact TB.of BK160.out (by decide) | exact TB.of BK181.out (by decide) | apply TB.set | apply TB.drewN | apply TB.drew | apply TB.alloc))) | exact HI157.out))
             (case side2 => repeat (first | (with_reducible first | exact HB.out | apply below_alloc | apply pw_below_drewN | apply below_drew1 | refine below_set ?_ (IsS42.ge HI155.out) | refine below_set ?_ (IsS45.ge HI157.out) | refine below_set ?_ GE160.out) | exact HB.out))
             rintro e w40 ⟨rfl, hi, hb, hk⟩
             refine ⟨_, rfl, ?_⟩
             have n0_ := Aside0.mk (IsS42.keepM HI155.out (fun h_ => by repeat (first | (with_reducible first | exact h_ | apply IsS42.alloc | apply IsS42.drewN | apply IsS42.drew | refine IsS42.farB ?_ (by repeat (first | exact TB.of BK160.out (by decide) | exact TB.of BK181.out (by decide) | apply TB.set | apply TB.drewN | apply TB.drew | apply TB.alloc))) | exact HI155.out)) hk NB155_157.out)
             have n1_ := Aside0.mk (hk.kblk (g' := gb160) (cs := #[.int .i64 ((rd_T28 l0 x5_1).f0), .int .i64 ((rd_T28 l0 x5_1).f1), .int .i64 ((rd_T28 l0 x5_1).f2), .int .i64 ((rd_T28 l0 x5_1).f3), .int .i64 ((rd_T28 l0 x5_1).f4), .int .i64 ((rd_T28 l0 x5_1).f5)]) (t := 28) (by (with_reducible repeat (first | refine blk_drewN ?_ _ | refine blk_drew ?_ | refine blk_alloc ?_ _)); exact BK160.out) NB160_157.out (by simp))
             have n2_ := Aside0.mk (hb)
             have n3_ := Aside0.mk (hi)
             clear HI155
             clear BK160
             clear HB
             clear HI157
             have HI155 := n0_
             have BK160 := n1_
             have HB := n2_
             have HI157 := n3_
             clear n0_ n1_ n2_ n3_
             (try clear hb)
             (try clear hb2)
             (try clear hk)
             (try clear hi)
             refine hK.out _ _ ⟨(blk_cell BK160.out 0).trans rfl, (blk_cell BK160.out 1).trans rfl, (blk_cell BK160.out 2).trans rfl, (blk_cell BK160.out 3).trans rfl, (blk_cell BK160.out 4).trans rfl, (blk_cell BK160.out 5).trans rfl⟩ (fun hHeld => ?_)
             clear hK K
             refine norm_ (a' := ?_) ?_ ?_
             rotate_left
             ·show Act.put _ (some 59) _ = _
              simp only [Act.put, List.setIfInBounds_toArray, List.set_cons_zero, List.set_cons_succ, i64_w, i32_w]
              rfl
             refine pure_ (i := 16) (N := some 60) (v := ?_) (a' := ?_) #[true, true, true, true, true, true, true, true, true, true, true, true, true, true, true, true, true] rfl rfl (any_of HT_.out (by kernel_rfl)) (fun _ _ _ h => h) (Or.inl ⟨by rfl, ?_⟩) ?_ ?_
             rotate_left
             ·intro w'
              go_simp
              with_reducible rfl
             rotate_left
             ·simp only [Act.put, List.setIfInBounds_toArray, List.set_cons_zero, List.set_cons_succ, i64_w, i32_w]
              rfl
             refine done_ (done_of HT_.out (by kernel_rfl)) ?_
             try go_wp2
             go_ret
             exact ⟨by first | rfl | (simp [errW_none, errW_some] <;> rfl) | (simp [*, errW_none, errW_some] <;> rfl), by repeat (first | (with_reducible first | exact HB.out | apply below_alloc | apply pw_below_drewN | apply below_drew1 | refine below_set ?_ (IsS42.ge HI155.out) | refine below_set ?_ (IsS45.ge HI157.out) | refine below_set ?_ GE160.out) | exact HB.out)⟩
           ·replace c31 := Bool.eq_false_iff.mpr c31
            subst c31
            have H1 : (if t167 = true then (some false) else (flywheellaw26_ProbePlays.j2 kj5 l0 x5_1 t166 t168)) = some r := by rw [if_neg (show ¬ (false = true) by decide)] at H; exact H
            clear H
            have H := H1
            clear H1
            by_cases c41 : t167 = true
            ·subst c41
             have H1 : (some false) = some r := by rw [if_pos rfl] at H; exact H
             clear H
             have H := H1
             clear H1
             obtain rfl := Option.some.inj H
             try go_wp2
             have n0_ : Aside0 (((((((w12.setCell ⟨gb160, 0, none⟩ (.int .i64 ((rd_T28 l0 x5_1).f0))).setCell ⟨gb160, 1, none⟩ (.int .i64 ((rd_T28 l0 x5_1).f1))).setCell ⟨gb160, 2, none⟩ (.int .i64 ((rd_T28 l0 x5_1).f2))).setCell ⟨gb160, 3, none⟩ (.int .i64 ((rd_T28 l0 x5_1).f3))).setCell ⟨gb160, 4, none⟩ (.int .i64 ((rd_T28 l0 x5_1).f4))).setCell ⟨gb160, 5, none⟩ (.int .i64 ((rd_T28 l0 x5_1).f5))).heap[gb160]? = some (.cells #[.int .i64 ((rd_T28 l0 x5_1).f0), .int .i64 ((rd_T28 l0 x5_1).f1), .int .i64 ((rd_T28 l0 x5_1).f2), .int .i64 ((rd_T28 l0 x5_1).f3), .int .i64 ((rd_T28 l0 x5_1).f4), .int .i64 ((rd_T28 l0 x5_1).f5)] 28 (0, 0))) := ⟨by (with_reducible repeat (first | refine blk_drewN ?_ _ | refine blk_drew ?_ | refine blk_alloc ?_ _)); refine blk_put (cs := #[.int .i64 ((rd_T28 l0 x5_1).f0), .int .i64 ((rd_T28 l0 x5_1).f1), .int .i64 ((rd_T28 l0 x5_1).f2), .int .i64 ((rd_T28 l0 x5_1).f3), .int .i64 ((rd_T28 l0 x5_1).f4), .int .i64 0]) ?_ 5 _ rfl; (with_reducible repeat (first | refine blk_drewN ?_ _ | refine blk_drew ?_ | refine blk_alloc ?_ _)); refine blk_put (cs := #[.int .i64 ((rd_T28 l0 x5_1).f0), .int .i64 ((rd_T28 l0 x5_1).f1), .int .i64 ((rd_T28 l0 x5_1).f2), .int .i64 ((rd_T28 l0 x5_1).f3), .int .i64 0, .int .i64 0]) ?_ 4 _ rfl; (with_reducible repeat (first | refine blk_drewN ?_ _ | refine blk_drew ?_ | refine blk_alloc ?_ _)); refine blk_put (cs := #[.int .i64 ((rd_T28 l0 x5_1).f0), .int .i64 ((rd_T28 l0 x5_1).f1), .int .i64 ((rd_T28 l0 x5_1).f2), .int .i64 0, .int .i64 0, .int .i64 0]) ?_ 3 _ rfl; (with_reducible repeat (first | refine blk_drewN ?_ _ | refine blk_drew ?_ | refine blk_alloc ?_ _)); refine blk_put (cs := #[.int .i64 ((rd_T28 l0 x5_1).f0), .int .i64 ((rd_T28 l0 x5_1).f1), .int .i64 0, .int .i64 0, .int .i64 0, .int .i64 0]) ?_ 2 _ rfl; (with_reducible repeat (first | refine blk_drewN ?_ _ | refine blk_drew ?_ | refine blk_alloc ?_ _)); refine blk_put (cs := #[.int .i64 ((rd_T28 l0 x5_1).f0), .int .i64 0, .int .i64 0, .int .i64 0, .int .i64 0, .int .i64 0]) ?_ 1 _ rfl; (with_reducible repeat (first | refine blk_drewN ?_ _ | refine blk_drew ?_ | refine blk_alloc ?_ _)); refine blk_put (cs := #[.int .i64 0, .int .i64 0, .int .i64 0, .int .i64 0, .int .i64 0, .int .i64 0]) ?_ 0 _ rfl; (with_reducible repeat (first | refine blk_drewN ?_ _ | refine blk_drew ?_ | refine blk_alloc ?_ _)); exact BK160.out⟩
             have n1_ : Aside0 (IsS42 w ((((((w12.setCell ⟨gb160, 0, none⟩ (.int .i64 ((rd_T28 l0 x5_1).f0))).setCell ⟨gb160, 1, none⟩ (.int .i64 ((rd_T28 l0 x5_1).f1))).setCell ⟨gb160, 2, none⟩ (.int .i64 ((rd_T28 l0 x5_1).f2))).setCell ⟨gb160, 3, none⟩ (.int .i64 ((rd_T28 l0 x5_1).f3))).setCell ⟨gb160, 4, none⟩ (.int .i64 ((rd_T28 l0 x5_1).f4))).setCell ⟨gb160, 5, none⟩ (.int .i64 ((rd_T28 l0 x5_1).f5))) g155 x156000_1) := ⟨by repeat (first | (with_reducible first | exact HI155.out | apply IsS42.alloc | apply IsS42.drewN | apply IsS42.drew | refine IsS42.farB ?_ (by repeat (first | exact TB.of BK160.out (by decide) | exact TB.of BK181.out (by decide) | apply TB.set | apply TB.drewN | apply TB.drew | apply TB.alloc))) | exact HI155.out)⟩
             have n2_ : Aside0 (IsS45 w ((((((w12.setCell ⟨gb160, 0, none⟩ (.int .i64 ((rd_T28 l0 x5_1).f0))).setCell ⟨gb160, 1, none⟩ (.int .i64 ((rd_T28 l0 x5_1).f1))).setCell ⟨gb160, 2, none⟩ (.int .i64 ((rd_T28 l0 x5_1).f2))).setCell ⟨gb160, 3, none⟩ (.int .i64 ((rd_T28 l0 x5_1).f3))).setCell ⟨gb160, 4, none⟩ (.int .i64 ((rd_T28 l0 x5_1).f4))).setCell ⟨gb160, 5, none⟩ (.int .i64 ((rd_T28 l0 x5_1).f5))) g157 x158000_1) := ⟨by repeat (first | (with_reducible first | exact HI157.out | apply IsS45.alloc | apply IsS45.drewN | apply IsS45.drew | refine IsS45.farB ?_ (by repeat (first | exact TB.of BK160.out (by decide) | exact TB.of BK181.out (by decide) | apply TB.set | apply TB.drewN | apply TB.drew | apply TB.alloc))) | exact HI157.out)⟩
             have n3_ : Aside0 (Below w.heap.size w ((((((w12.setCell ⟨gb160, 0, none⟩ (.int .i64 ((rd_T28 l0 x5_1).f0))).setCell ⟨gb160, 1, none⟩ (.int .i64 ((rd_T28 l0 x5_1).f1))).setCell ⟨gb160, 2, none⟩ (.int .i64 ((rd_T28 l0 x5_1).f2))).setCell ⟨gb160, 3, none⟩ (.int .i64 ((rd_T28 l0 x5_1).f3))).setCell ⟨gb160, 4, none⟩ (.int .i64 ((rd_T28 l0 x5_1).f4))).setCell ⟨gb160, 5, none⟩ (.int .i64 ((rd_T28 l0 x5_1).f5)))) := ⟨by repeat (first | (with_reducible first | exact HB.out | apply below_alloc | apply pw_below_drewN | apply below_drew1 | refine below_set ?_ (IsS42.ge HI155.out) | refine below_set ?_ (IsS45.ge HI157.out) | refine below_set ?_ GE160.out) | exact HB.out)⟩
             (try clear BK160)
             (try clear HI155)
             (try clear HI157)
             (try clear HB)
             generalize ((((((w12.setCell ⟨gb160, 0, none⟩ (.int .i64 ((rd_T28 l0 x5_1).f0))).setCell ⟨gb160, 1, none⟩ (.int .i64 ((rd_T28 l0 x5_1).f1))).setCell ⟨gb160, 2, none⟩ (.int .i64 ((rd_T28 l0 x5_1).f2))).setCell ⟨gb160, 3, none⟩ (.int .i64 ((rd_T28 l0 x5_1).f3))).setCell ⟨gb160, 4, none⟩ (.int .i64 ((rd_T28 l0 x5_1).f4))).setCell ⟨gb160, 5, none⟩ (.int .i64 ((rd_T28 l0 x5_1).f5))) = w42 at n0_ n1_ n2_ n3_ ⊢
             have BK160 := n0_
             have HI155 := n1_
             have HI157 := n2_
             have HB := n3_
             clear n0_ n1_ n2_ n3_
             have n0_ := Aside0.mk (blk_drew BK160.out)
             have n1_ := Aside0.mk (IsS42.drew HI155.out)
             have n2_ := Aside0.mk (IsS45.drew HI157.out)
             have n3_ := Aside0.mk (below_drew1 HB.out)
             clear BK160
             clear HI155
             clear HI157
             clear HB
             have BK160 := n0_
             have HI155 := n1_
             have HI157 := n2_
             have HB := n3_
             clear n0_ n1_ n2_ n3_
             refine start_ (n := 17) (S := fun w' => w'.cell? ⟨gb160, 0, none⟩ = some (.int .i64 ((rd_T28 l0 x5_1).f0)) ∧ w'.cell? ⟨gb160, 1, none⟩ = some (.int .i64 ((rd_T28 l0 x5_1).f1)) ∧ w'.cell? ⟨gb160, 2, none⟩ = some (.int .i64 ((rd_T28 l0 x5_1).f2)) ∧ w'.cell? ⟨gb160, 3, none⟩ = some (.int .i64 ((rd_T28 l0 x5_1).f3)) ∧ w'.cell? ⟨gb160, 4, none⟩ = some (.int .i64 ((rd_T28 l0 x5_1).f4)) ∧ w'.cell? ⟨gb160, 5, none⟩ = some (.int .i64 ((rd_T28 l0 x5_1).f5))) (ds := []) #[false, false, false, false, false, false, false, false, false, false, false, false, false, false, false, false, false] (by kernel_rfl) rfl rfl ⟨(blk_cell BK160.out 0).trans rfl, (blk_cell BK160.out 1).trans rfl, (blk_cell BK160.out 2).trans rfl, (blk_cell BK160.out 3).trans rfl, (blk_cell BK160.out 4).trans rfl, (blk_cell BK160.out 5).trans rfl⟩ (fun hHeld => ?_); refine with_tabW flywheellaw26_ProbePlays.tab13 flywheellaw26_ProbePlays.bits13 (fun HT_ HW_ => ?_)
             generalize w42.drew = w43 at BK160 HI155 HI157 HB hHeld ⊢
             refine pure_ (i := 0) (N := some 44) (v := ?_) (a' := ?_) #[true, false, false, false, false, false, false, false, false, false, false, false, false, false, false, false, false] rfl rfl (any_of HT_.out (by kernel_rfl)) (fun _ _ _ h => h) (Or.inl ⟨by rfl, ?_⟩) ?_ ?_
             rotate_left
             ·intro w'
              go_simp
              with_reducible rfl
             rotate_left
             ·simp only [Act.put, List.setIfInBounds_toArray, List.set_cons_zero, List.set_cons_succ, i64_w, i32_w]
              rfl
             refine pure_ (i := 1) (N := some 45) (v := ?_) (a' := ?_) #[true, true, false, false, false, false, false, false, false, false, false, false, false, false, false, false, false] rfl rfl (any_of HT_.out (by kernel_rfl)) (fun _ _ _ h => h) (Or.inl ⟨by rfl, ?_⟩) ?_ ?_
             rotate_left
             ·intro w'
              go_simp
              with_reducible rfl
             rotate_left
             ·simp only [Act.put, List.setIfInBounds_toArray, List.set_cons_zero, List.set_cons_succ, i64_w, i32_w]
              rfl
             refine pure_ (i := 3) (N := some 47) (v := ?_) (a' := ?_) #[true, true, false, true, false, false, false, false, false, false, false, false, false, false, false, false, false] rfl rfl (any_of HT_.out (by kernel_rfl)) (fun _ _ _ h => h) (Or.inl ⟨by rfl, ?_⟩) ?_ ?_
             rotate_left
             ·intro w'
              go_simp
              with_reducible rfl
             rotate_left
             ·simp only [Act.put, List.setIfInBounds_toArray, List.set_cons_zero, List.set_cons_succ, i64_w, i32_w]
              rfl
             refine pure_ (i := 5) (N := some 49) (v := ?_) (a' := ?_) #[true, true, false, true, false, true, false, false, false, false, false, false, false, false, false, false, false] rfl rfl (any_of HT_.out (by kernel_rfl)) (fun _ _ _ h => h) (Or.inl ⟨by rfl, ?_⟩) ?_ ?_
             rotate_left
             ·intro w'
              go_simp
              with_reducible rfl
             rotate_left
             ·simp only [Act.put, List.setIfInBounds_toArray, List.set_cons_zero, List.set_cons_succ, i64_w, i32_w]
              rfl
             refine pure_ (i := 8) (N := some 52) (v := ?_) (a' := ?_) #[true, true, false, true, false, true, false, false, true, false, false, false, false, false, false, false, false] rfl rfl (any_of HT_.out (by kernel_rfl)) (fun _ _ _ h => h) (Or.inl ⟨by rfl, ?_⟩) ?_ ?_
             rotate_left
             ·intro w'
              go_simp
              with_reducible rfl
             rotate_left
             ·simp only [Act.put, List.setIfInBounds_toArray, List.set_cons_zero, List.set_cons_succ, i64_w, i32_w]
              rfl
             refine pure_ (i := 9) (N := some 53) (v := ?_) (a' := ?_) #[true, true, false, true, false, true, false, false, true, true, false, false, false, false, false, false, false] rfl rfl (any_of HT_.out (by kernel_rfl)) (fun _ _ _ h => h) (Or.inl ⟨by rfl, ?_⟩) ?_ ?_
             rotate_left
             ·intro w'
              go_simp
              with_reducible rfl
             rotate_left
             ·simp only [Act.put, List.setIfInBounds_toArray, List.set_cons_zero, List.set_cons_succ, i64_w, i32_w]
              rfl
             refine pure_ (i := 11) (N := some 55) (v := ?_) (a' := ?_) #[true, true, false, true, false, true, false, false, true, true, false, true, false, false, false, false, false] rfl rfl (any_of HT_.out (by kernel_rfl)) (fun _ _ _ h => h) (Or.inl ⟨by rfl, ?_⟩) ?_ ?_
             rotate_left
             ·intro w'
              go_simp
              with_reducible rfl
             rotate_left
             ·simp only [Act.put, List.setIfInBounds_toArray, List.set_cons_zero, List.set_cons_succ, i64_w, i32_w]
              rfl
             refine pure_ (i := 13) (N := some 57) (v := ?_) (a' := ?_) #[true, true, false, true, false, true, false, false, true, true, false, true, false, true, false, false, false] rfl rfl (any_of HT_.out (by kernel_rfl)) (fun _ _ _ h => h) (Or.inl ⟨by rfl, ?_⟩) ?_ ?_
             rotate_left
             ·intro w'
              go_simp
              with_reducible rfl
             rotate_left
             ·simp only [Act.put, List.setIfInBounds_toArray, List.set_cons_zero, List.set_cons_succ, i64_w, i32_w]
              rfl
             refine take_ (i := 2) (N := some 46) (v := ?_) (a' := ?_) #[true, true, true, true, false, true, false, false, true, true, false, true, false, true, false, false, false] rfl rfl (take_ofW HT_.out HW_.out (by kernel_rfl)) (fun _ _ _ h => h) (Or.inl ⟨by rfl, ?_⟩) hHeld ?_ ?_
             rotate_left
             ·rintro w' ⟨s0, s1, s2, s3, s4, s5⟩
              go_simp
              with_reducible rfl
             rotate_left
             ·simp only [Act.put, List.setIfInBounds_toArray, List.set_cons_zero, List.set_cons_succ, i64_w, i32_w]
              rfl
             refine take_ (i := 4) (N := some 48) (v := ?_) (a' := ?_) #[true, true, true, true, true, true, false, false, true, true, false, true, false, true, false, false, false] rfl rfl (take_ofW HT_.out HW_.out (by kernel_rfl)) (fun _ _ _ h => h) (Or.inl ⟨by rfl, ?_⟩) hHeld ?_ ?_
             rotate_left
             ·rintro w' ⟨s0, s1, s2, s3, s4, s5⟩
              go_simp
              with_reducible rfl
             rotate_left
             ·simp only [Act.put, List.setIfInBounds_toArray, List.set_cons_zero, List.set_cons_succ, i64_w, i32_w]
              rfl
             refine take_ (i := 6) (N := some 50) (v := ?_) (a' := ?_) #[true, true, true, true, true, true, true, false, true, true, false, true, false, true, false, false, false] rfl rfl (take_ofW HT_.out HW_.out (by kernel_rfl)) (fun _ _ _ h => h) (Or.inl ⟨by rfl, ?_⟩) hHeld ?_ ?_
             rotate_left
             ·rintro w' ⟨s0, s1, s2, s3, s4, s5⟩
              go_simp
              with_reducible rfl
             rotate_left
             ·simp only [Act.put, List.setIfInBounds_toArray, List.set_cons_zero, List.set_cons_succ, i64_w, i32_w]
              rfl
             refine take_ (i := 10) (N := some 54) (v := ?_) (a' := ?_) #[true, true, true, true, true, true, true, false, true, true, true, true, false, true, false, false, false] rfl rfl (take_ofW HT_.out HW_.out (by kernel_rfl)) (fun _ _ _ h => h) (Or.inl ⟨by rfl, ?_⟩) hHeld ?_ ?_
             rotate_left
             ·rintro w' ⟨s0, s1, s2, s3, s4, s5⟩
              go_simp
              with_reducible rfl
             rotate_left
             ·simp only [Act.put, List.setIfInBounds_toArray, List.set_cons_zero, List.set_cons_succ, i64_w, i32_w]
              rfl
             refine take_ (i := 12) (N := some 56) (v := ?_) (a' := ?_) #[true, true, true, true, true, true, true, false, true, true, true, true, true, true, false, false, false] rfl rfl (take_ofW HT_.out HW_.out (by kernel_rfl)) (fun _ _ _ h => h) (Or.inl ⟨by rfl, ?_⟩) hHeld ?_ ?_
             rotate_left
             ·rintro w' ⟨s0, s1, s2, s3, s4, s5⟩
              go_simp
              with_reducible rfl
             rotate_left
             ·simp only [Act.put, List.setIfInBounds_toArray, List.set_cons_zero, List.set_cons_succ, i64_w, i32_w]
              rfl
             refine take_ (i := 14) (N := some 58) (v := ?_) (a' := ?_) #[true, true, true, true, true, true, true, false, true, true, true, true, true, true, true, false, false] rfl rfl (take_ofW HT_.out HW_.out (by kernel_rfl)) (fun _ _ _ h => h) (Or.inl ⟨by rfl, ?_⟩) hHeld ?_ ?_
             rotate_left
             ·rintro w' ⟨s0, s1, s2, s3, s4, s5⟩
              go_simp
              with_reducible rfl
             rotate_left
             ·simp only [Act.put, List.setIfInBounds_toArray, List.set_cons_zero, List.set_cons_succ, i64_w, i32_w]
              rfl
             refine one_ (i := 7) (N := some 51) #[true, true, true, true, true, true, true, true, true, true, true, true, true, true, true, false, false] rfl rfl (one_of HT_.out (by kernel_rfl)) (by decide) (fun K hK => ?_)
             refine goes_ Try.func8 (by kernel_rfl) rfl #[.pointer (some ⟨g155, 0, none⟩), .int .i64 ((rd_T28 l0 x5_1).f1), .int .i64 ((rd_T28 l0 x5_1).f2), .int .i64 ((rd_T28 l0 x5_1).f4)] (by rfl) rfl rfl (by (try simp only [List.map_toArray, List.map_cons, List.map_nil]); first | done | rfl | (simp only [List.length_drop, List.length_take]; rfl)) ?_
             with_reducible refine (probe_Probe_Sent.calls g155 x156000_1 ((rd_T28 l0 x5_1).f1) ((rd_T28 l0 x5_1).f2) ((rd_T28 l0 x5_1).f4) false t166 w _ ?side1 ?side2 A29.out).mono ?_
             (case side1 => repeat (first | (with_reducible first | exact HI155.out | apply IsS42.alloc | apply IsS42.drewN | apply IsS42.drew | refine IsS42.farB ?_ (by repeat (first | exact TB.of BK160.out (by decide) | exact TB.of BK181.out (by decide) | apply TB.set | apply TB.drewN | apply TB.drew | apply TB.alloc))) | exact HI155.out))
             (case side2 => repeat (first | (with_reducible first | exact HB.out | apply below_alloc | apply pw_below_drewN | apply below_drew1 | refine below_set ?_ (IsS42.ge HI155.out) | refine below_set ?_ (IsS45.ge HI157.out) | refine below_set ?_ GE160.out) | exact HB.out))
             rintro e w44 ⟨rfl, hi, hb, hk⟩
             refine ⟨_, rfl, ?_⟩
             have n0_ := Aside0.mk (IsS45.keepM HI157.out (fun h_ => by repeat (first | (with_reducible first | exact h_ | apply IsS45.alloc | apply IsS45.drewN | apply IsS45.drew | refine IsS45.farB ?_ (by repeat (first | exact TB.of BK160.out (by decide) | exact TB.of BK181.out (by decide) | apply TB.set | apply TB.drewN | apply TB.drew | apply TB.alloc))) | exact HI157.out)) hk NB157_155.out)
             have n1_ := Aside0.mk (hk.kblk (g' := gb160) (cs := #[.int .i64 ((rd_T28 l0 x5_1).f0), .int .i64 ((rd_T28 l0 x5_1).f1), .int .i64 ((rd_T28 l0 x5_1).f2), .int .i64 ((rd_T28 l0 x5_1).f3), .int .i64 ((rd_T28 l0 x5_1).f4), .int .i64 ((rd_T28 l0 x5_1).f5)]) (t := 28) (by (with_reducible repeat (first | refine blk_drewN ?_ _ | refine blk_drew ?_ | refine blk_alloc ?_ _)); exact BK160.out) NB160_155.out (by simp))
             have n2_ := Aside0.mk (hb)
             have n3_ := Aside0.mk (hi)
             clear HI157
             clear BK160
             clear HB
             clear HI155
             have HI157 := n0_
             have BK160 := n1_
             have HB := n2_
             have HI155 := n3_
             clear n0_ n1_ n2_ n3_
             (try clear hb)
             (try clear hb2)
             (try clear hk)
             (try clear hi)
             refine hK.out _ _ ⟨(blk_cell BK160.out 0).trans rfl, (blk_cell BK160.out 1).trans rfl, (blk_cell BK160.out 2).trans rfl, (blk_cell BK160.out 3).trans rfl, (blk_cell BK160.out 4).trans rfl, (blk_cell BK160.out 5).trans rfl⟩ (fun hHeld => ?_)
             clear hK K
             refine norm_ (a' := ?_) ?_ ?_
             rotate_left
             ·show Act.put _ (some 51) _ = _
              simp only [Act.put, List.setIfInBounds_toArray, List.set_cons_zero, List.set_cons_succ, i64_w, i32_w]
              rfl
             refine one_ (i := 15) (N := some 59) #[true, true, true, true, true, true, true, true, true, true, true, true, true, true, true, true, false] rfl rfl (one_of HT_.out (by kernel_rfl)) (by decide) (fun K hK => ?_)
             refine goes_ Try.func9 (by kernel_rfl) rfl #[.pointer (some ⟨g157, 0, none⟩), .int .i64 ((rd_T28 l0 x5_1).f1), .int .i64 ((rd_T28 l0 x5_1).f2), .int .i64 ((rd_T28 l0 x5_1).f4)] (by rfl) rfl rfl (by (try simp only [List.map_toArray, List.map_cons, List.map_nil]); first | done | rfl | (simp only [List.length_drop, List.length_take]; rfl)) ?_
             with_reducible refine (flywheelref26_Probe_Sent.calls g157 x158000_1 ((rd_T28 l0 x5_1).f1) ((rd_T28 l0 x5_1).f2) ((rd_T28 l0 x5_1).f4) true t168 w _ ?side1 ?side2 A30.out).mono ?_
             (case side1 => repeat (first | (with_reducible first | exact HI157.out | apply IsS45.alloc | apply IsS45.drewN | apply IsS45.drew | refine IsS45.farB ?_ (by repeat (first | exact TB.of BK160.out (by decide) | exact TB.of BK181.out (by decide) | apply TB.set | apply TB.drewN | apply TB.drew | apply TB.alloc))) | exact HI157.out))
             (case side2 => repeat (first | (with_reducible first | exact HB.out | apply below_alloc | apply pw_below_drewN | apply below_drew1 | refine below_set ?_ (IsS42.ge HI155.out) | refine below_set ?_ (IsS45.ge HI157.out) | refine below_set ?_ GE160.out) | exact HB.out))
             rintro e w45 ⟨rfl, hi, hb, hk⟩
             refine ⟨_, rfl, ?_⟩
             have n0_ := Aside0.mk (IsS42.keepM HI155.out (fun h_ => by repeat (first | (with_reducible first | exact h_ | apply IsS42.alloc | apply IsS42.drewN | apply IsS42.drew | refine IsS42.farB ?_ (by repeat (first | exact TB.of BK160.out (by decide) | exact TB.of BK181.out (by decide) | apply TB.set | apply TB.drewN | apply TB.drew | apply TB.alloc))) | exact HI155.out)) hk NB155_157.out)
             have n1_ := Aside0.mk (hk.kblk (g' := gb160) (cs := #[.int .i64 ((rd_T28 l0 x5_1).f0), .int .i64 ((rd_T28 l0 x5_1).f1), .int .i64 ((rd_T28 l0 x5_1).f2), .int .i64 ((rd_T28 l0 x5_1).f3), .int .i64 ((rd_T28 l0 x5_1).f4), .int .i64 ((rd_T28 l0 x5_1).f5)]) (t := 28) (by (with_reducible repeat (first | refine blk_drewN ?_ _ | refine blk_drew ?_ | refine blk_alloc ?_ _)); exact BK160.out) NB160_157.out (by simp))
             have n2_ := Aside0.mk (hb)
             have n3_ := Aside0.mk (hi)
             clear HI155
             clear BK160
             clear HB
             clear HI157
             have HI155 := n0_
             have BK160 := n1_
             have HB := n2_
             have HI157 := n3_
             clear n0_ n1_ n2_ n3_
             (try clear hb)
             (try clear hb2)
             (try clear hk)
             (try clear hi)
             refine hK.out _ _ ⟨(blk_cell BK160.out 0).trans rfl, (blk_cell BK160.out 1).trans rfl, (blk_cell BK160.out 2).trans rfl, (blk_cell BK160.out 3).trans rfl, (blk_cell BK160.out 4).trans rfl, (blk_cell BK160.out 5).trans rfl⟩ (fun hHeld => ?_)
             clear hK K
             refine norm_ (a' := ?_) ?_ ?_
             rotate_left
             ·show Act.put _ (some 59) _ = _
              simp only [Act.put, List.setIfInBounds_toArray, List.set_cons_zero, List.set_cons_succ, i64_w, i32_w]
              rfl
             refine pure_ (i := 16) (N := some 60) (v := ?_) (a' := ?_) #[true, true, true, true, true, true, true, true, true, true, true, true, true, true, true, true, true] rfl rfl (any_of HT_.out (by kernel_rfl)) (fun _ _ _ h => h) (Or.inl ⟨by rfl, ?_⟩) ?_ ?_
             rotate_left
             ·intro w'
              go_simp
              with_reducible rfl
             rotate_left
             ·simp only [Act.put, List.setIfInBounds_toArray, List.set_cons_zero, List.set_cons_succ, i64_w, i32_w]
              rfl
             refine done_ (done_of HT_.out (by kernel_rfl)) ?_
             try go_wp2
             go_ret
             exact ⟨by first | rfl | (simp [errW_none, errW_some] <;> rfl) | (simp [*, errW_none, errW_some] <;> rfl), by repeat (first | (with_reducible first | exact HB.out | apply below_alloc | apply pw_below_drewN | apply below_drew1 | refine below_set ?_ (IsS42.ge HI155.out) | refine below_set ?_ (IsS45.ge HI157.out) | refine below_set ?_ GE160.out) | exact HB.out)⟩
            ·replace c41 := Bool.eq_false_iff.mpr c41
             subst c41
             have H1 : (flywheellaw26_ProbePlays.j2 kj5 l0 x5_1 t166 t168) = some r := by rw [if_neg (show ¬ (false = true) by decide)] at H; exact H
             clear H
             have H := H1
             clear H1
             have H' := Aside0.mk H
             clear H
             try go_wp2
             have n0_ : Aside0 (((((((w12.setCell ⟨gb160, 0, none⟩ (.int .i64 ((rd_T28 l0 x5_1).f0))).setCell ⟨gb160, 1, none⟩ (.int .i64 ((rd_T28 l0 x5_1).f1))).setCell ⟨gb160, 2, none⟩ (.int .i64 ((rd_T28 l0 x5_1).f2))).setCell ⟨gb160, 3, none⟩ (.int .i64 ((rd_T28 l0 x5_1).f3))).setCell ⟨gb160, 4, none⟩ (.int .i64 ((rd_T28 l0 x5_1).f4))).setCell ⟨gb160, 5, none⟩ (.int .i64 ((rd_T28 l0 x5_1).f5))).heap[gb160]? = some (.cells #[.int .i64 ((rd_T28 l0 x5_1).f0), .int .i64 ((rd_T28 l0 x5_1).f1), .int .i64 ((rd_T28 l0 x5_1).f2), .int .i64 ((rd_T28 l0 x5_1).f3), .int .i64 ((rd_T28 l0 x5_1).f4), .int .i64 ((rd_T28 l0 x5_1).f5)] 28 (0, 0))) := ⟨by (with_reducible repeat (first | refine blk_drewN ?_ _ | refine blk_drew ?_ | refine blk_alloc ?_ _)); refine blk_put (cs := #[.int .i64 ((rd_T28 l0 x5_1).f0), .int .i64 ((rd_T28 l0 x5_1).f1), .int .i64 ((rd_T28 l0 x5_1).f2), .int .i64 ((rd_T28 l0 x5_1).f3), .int .i64 ((rd_T28 l0 x5_1).f4), .int .i64 0]) ?_ 5 _ rfl; (with_reducible repeat (first | refine blk_drewN ?_ _ | refine blk_drew ?_ | refine blk_alloc ?_ _)); refine blk_put (cs := #[.int .i64 ((rd_T28 l0 x5_1).f0), .int .i64 ((rd_T28 l0 x5_1).f1), .int .i64 ((rd_T28 l0 x5_1).f2), .int .i64 ((rd_T28 l0 x5_1).f3), .int .i64 0, .int .i64 0]) ?_ 4 _ rfl; (with_reducible repeat (first | refine blk_drewN ?_ _ | refine blk_drew ?_ | refine blk_alloc ?_ _)); refine blk_put (cs := #[.int .i64 ((rd_T28 l0 x5_1).f0), .int .i64 ((rd_T28 l0 x5_1).f1), .int .i64 ((rd_T28 l0 x5_1).f2), .int .i64 0, .int .i64 0, .int .i64 0]) ?_ 3 _ rfl; (with_reducible repeat (first | refine blk_drewN ?_ _ | refine blk_drew ?_ | refine blk_alloc ?_ _)); refine blk_put (cs := #[.int .i64 ((rd_T28 l0 x5_1).f0), .int .i64 ((rd_T28 l0 x5_1).f1), .int .i64 0, .int .i64 0, .int .i64 0, .int .i64 0]) ?_ 2 _ rfl; (with_reducible repeat (first | refine blk_drewN ?_ _ | refine blk_drew ?_ | refine blk_alloc ?_ _)); refine blk_put (cs := #[.int .i64 ((rd_T28 l0 x5_1).f0), .int .i64 0, .int .i64 0, .int .i64 0, .int .i64 0, .int .i64 0]) ?_ 1 _ rfl; (with_reducible repeat (first | refine blk_drewN ?_ _ | refine blk_drew ?_ | refine blk_alloc ?_ _)); refine blk_put (cs := #[.int .i64 0, .int .i64 0, .int .i64 0, .int .i64 0, .int .i64 0, .int .i64 0]) ?_ 0 _ rfl; (with_reducible repeat (first | refine blk_drewN ?_ _ | refine blk_drew ?_ | refine blk_alloc ?_ _)); exact BK160.out⟩
             have n1_ : Aside0 (IsS42 w ((((((w12.setCell ⟨gb160, 0, none⟩ (.int .i64 ((rd_T28 l0 x5_1).f0))).setCell ⟨gb160, 1, none⟩ (.int .i64 ((rd_T28 l0 x5_1).f1))).setCell ⟨gb160, 2, none⟩ (.int .i64 ((rd_T28 l0 x5_1).f2))).setCell ⟨gb160, 3, none⟩ (.int .i64 ((rd_T28 l0 x5_1).f3))).setCell ⟨gb160, 4, none⟩ (.int .i64 ((rd_T28 l0 x5_1).f4))).setCell ⟨gb160, 5, none⟩ (.int .i64 ((rd_T28 l0 x5_1).f5))) g155 x156000_1) := ⟨by repeat (first | (with_reducible first | exact HI155.out | apply IsS42.alloc | apply IsS42.drewN | apply IsS42.drew | refine IsS42.farB ?_ (by repeat (first | exact TB.of BK160.out (by decide) | exact TB.of BK181.out (by decide) | apply TB.set | apply TB.drewN | apply TB.drew | apply TB.alloc))) | exact HI155.out)⟩
             have n2_ : Aside0 (IsS45 w ((((((w12.setCell ⟨gb160, 0, none⟩ (.int .i64 ((rd_T28 l0 x5_1).f0))).setCell ⟨gb160, 1, none⟩ (.int .i64 ((rd_T28 l0 x5_1).f1))).setCell ⟨gb160, 2, none⟩ (.int .i64 ((rd_T28 l0 x5_1).f2))).setCell ⟨gb160, 3, none⟩ (.int .i64 ((rd_T28 l0 x5_1).f3))).setCell ⟨gb160, 4, none⟩ (.int .i64 ((rd_T28 l0 x5_1).f4))).setCell ⟨gb160, 5, none⟩ (.int .i64 ((rd_T28 l0 x5_1).f5))) g157 x158000_1) := ⟨by repeat (first | (with_reducible first | exact HI157.out | apply IsS45.alloc | apply IsS45.drewN | apply IsS45.drew | refine IsS45.farB ?_ (by repeat (first | exact TB.of BK160.out (by decide) | exact TB.of BK181.out (by decide) | apply TB.set | apply TB.drewN | apply TB.drew | apply TB.alloc))) | exact HI157.out)⟩
             have n3_ : Aside0 (Below w.heap.size w ((((((w12.setCell ⟨gb160, 0, none⟩ (.int .i64 ((rd_T28 l0 x5_1).f0))).setCell ⟨gb160, 1, none⟩ (.int .i64 ((rd_T28 l0 x5_1).f1))).setCell ⟨gb160, 2, none⟩ (.int .i64 ((rd_T28 l0 x5_1).f2))).setCell ⟨gb160, 3, none⟩ (.int .i64 ((rd_T28 l0 x5_1).f3))).setCell ⟨gb160, 4, none⟩ (.int .i64 ((rd_T28 l0 x5_1).f4))).setCell ⟨gb160, 5, none⟩ (.int .i64 ((rd_T28 l0 x5_1).f5)))) := ⟨by repeat (first | (with_reducible first | exact HB.out | apply below_alloc | apply pw_below_drewN | apply below_drew1 | refine below_set ?_ (IsS42.ge HI155.out) | refine below_set ?_ (IsS45.ge HI157.out) | refine below_set ?_ GE160.out) | exact HB.out)⟩
             (try clear BK160)
             (try clear HI155)
             (try clear HI157)
             (try clear HB)
             generalize ((((((w12.setCell ⟨gb160, 0, none⟩ (.int .i64 ((rd_T28 l0 x5_1).f0))).setCell ⟨gb160, 1, none⟩ (.int .i64 ((rd_T28 l0 x5_1).f1))).setCell ⟨gb160, 2, none⟩ (.int .i64 ((rd_T28 l0 x5_1).f2))).setCell ⟨gb160, 3, none⟩ (.int .i64 ((rd_T28 l0 x5_1).f3))).setCell ⟨gb160, 4, none⟩ (.int .i64 ((rd_T28 l0 x5_1).f4))).setCell ⟨gb160, 5, none⟩ (.int .i64 ((rd_T28 l0 x5_1).f5))) = w46 at n0_ n1_ n2_ n3_ ⊢
             have BK160 := n0_
             have HI155 := n1_
             have HI157 := n2_
             have HB := n3_
             clear n0_ n1_ n2_ n3_
             have n0_ := Aside0.mk (blk_drew BK160.out)
             have n1_ := Aside0.mk (IsS42.drew HI155.out)
             have n2_ := Aside0.mk (IsS45.drew HI157.out)
             have n3_ := Aside0.mk (below_drew1 HB.out)
             clear BK160
             clear HI155
             clear HI157
             clear HB
             have BK160 := n0_
             have HI155 := n1_
             have HI157 := n2_
             have HB := n3_
             clear n0_ n1_ n2_ n3_
             refine start_ (n := 17) (S := fun w' => w'.cell? ⟨gb160, 0, none⟩ = some (.int .i64 ((rd_T28 l0 x5_1).f0)) ∧ w'.cell? ⟨gb160, 1, none⟩ = some (.int .i64 ((rd_T28 l0 x5_1).f1)) ∧ w'.cell? ⟨gb160, 2, none⟩ = some (.int .i64 ((rd_T28 l0 x5_1).f2)) ∧ w'.cell? ⟨gb160, 3, none⟩ = some (.int .i64 ((rd_T28 l0 x5_1).f3)) ∧ w'.cell? ⟨gb160, 4, none⟩ = some (.int .i64 ((rd_T28 l0 x5_1).f4)) ∧ w'.cell? ⟨gb160, 5, none⟩ = some (.int .i64 ((rd_T28 l0 x5_1).f5))) (ds := []) #[false, false, false, false, false, false, false, false, false, false, false, false, false, false, false, false, false] (by kernel_rfl) rfl rfl ⟨(blk_cell BK160.out 0).trans rfl, (blk_cell BK160.out 1).trans rfl, (blk_cell BK160.out 2).trans rfl, (blk_cell BK160.out 3).trans rfl, (blk_cell BK160.out 4).trans rfl, (blk_cell BK160.out 5).trans rfl⟩ (fun hHeld => ?_); refine with_tabW flywheellaw26_ProbePlays.tab13 flywheellaw26_ProbePlays.bits13 (fun HT_ HW_ => ?_)
             generalize w46.drew = w47 at BK160 HI155 HI157 HB hHeld ⊢
             refine pure_ (i := 0) (N := some 44) (v := ?_) (a' := ?_) #[true, false, false, false, false, false, false, false, false, false, false, false, false, false, false, false, false] rfl rfl (any_of HT_.out (by kernel_rfl)) (fun _ _ _ h => h) (Or.inl ⟨by rfl, ?_⟩) ?_ ?_
             rotate_left
             ·intro w'
              go_simp
              with_reducible rfl
             rotate_left
             ·simp only [Act.put, List.setIfInBounds_toArray, List.set_cons_zero, List.set_cons_succ, i64_w, i32_w]
              rfl
             refine pure_ (i := 1) (N := some 45) (v := ?_) (a' := ?_) #[true, true, false, false, false, false, false, false, false, false, false, false, false, false, false, false, false] rfl rfl (any_of HT_.out (by kernel_rfl)) (fun _ _ _ h => h) (Or.inl ⟨by rfl, ?_⟩) ?_ ?_
             rotate_left
             ·intro w'
              go_simp
              with_reducible rfl
             rotate_left
             ·simp only [Act.put, List.setIfInBounds_toArray, List.set_cons_zero, List.set_cons_succ, i64_w, i32_w]
              rfl
             refine pure_ (i := 3) (N := some 47) (v := ?_) (a' := ?_) #[true, true, false, true, false, false, false, false, false, false, false, false, false, false, false, false, false] rfl rfl (any_of HT_.out (by kernel_rfl)) (fun _ _ _ h => h) (Or.inl ⟨by rfl, ?_⟩) ?_ ?_
             rotate_left
             ·intro w'
              go_simp
              with_reducible rfl
             rotate_left
             ·simp only [Act.put, List.setIfInBounds_toArray, List.set_cons_zero, List.set_cons_succ, i64_w, i32_w]
              rfl
             refine pure_ (i := 5) (N := some 49) (v := ?_) (a' := ?_) #[true, true, false, true, false, true, false, false, false, false, false, false, false, false, false, false, false] rfl rfl (any_of HT_.out (by kernel_rfl)) (fun _ _ _ h => h) (Or.inl ⟨by rfl, ?_⟩) ?_ ?_
             rotate_left
             ·intro w'
              go_simp
              with_reducible rfl
             rotate_left
             ·simp only [Act.put, List.setIfInBounds_toArray, List.set_cons_zero, List.set_cons_succ, i64_w, i32_w]
              rfl
             refine pure_ (i := 8) (N := some 52) (v := ?_) (a' := ?_) #[true, true, false, true, false, true, false, false, true, false, false, false, false, false, false, false, false] rfl rfl (any_of HT_.out (by kernel_rfl)) (fun _ _ _ h => h) (Or.inl ⟨by rfl, ?_⟩) ?_ ?_
             rotate_left
             ·intro w'
              go_simp
              with_reducible rfl
             rotate_left
             ·simp only [Act.put, List.setIfInBounds_toArray, List.set_cons_zero, List.set_cons_succ, i64_w, i32_w]
              rfl
             refine pure_ (i := 9) (N := some 53) (v := ?_) (a' := ?_) #[true, true, false, true, false, true, false, false, true, true, false, false, false, false, false, false, false] rfl rfl (any_of HT_.out (by kernel_rfl)) (fun _ _ _ h => h) (Or.inl ⟨by rfl, ?_⟩) ?_ ?_
             rotate_left
             ·intro w'
              go_simp
              with_reducible rfl
             rotate_left
             ·simp only [Act.put, List.setIfInBounds_toArray, List.set_cons_zero, List.set_cons_succ, i64_w, i32_w]
              rfl
             refine pure_ (i := 11) (N := some 55) (v := ?_) (a' := ?_) #[true, true, false, true, false, true, false, false, true, true, false, true, false, false, false, false, false] rfl rfl (any_of HT_.out (by kernel_rfl)) (fun _ _ _ h => h) (Or.inl ⟨by rfl, ?_⟩) ?_ ?_
             rotate_left
             ·intro w'
              go_simp
              with_reducible rfl
             rotate_left
             ·simp only [Act.put, List.setIfInBounds_toArray, List.set_cons_zero, List.set_cons_succ, i64_w, i32_w]
              rfl
             refine pure_ (i := 13) (N := some 57) (v := ?_) (a' := ?_) #[true, true, false, true, false, true, false, false, true, true, false, true, false, true, false, false, false] rfl rfl (any_of HT_.out (by kernel_rfl)) (fun _ _ _ h => h) (Or.inl ⟨by rfl, ?_⟩) ?_ ?_
             rotate_left
             ·intro w'
              go_simp
              with_reducible rfl
             rotate_left
             ·simp only [Act.put, List.setIfInBounds_toArray, List.set_cons_zero, List.set_cons_succ, i64_w, i32_w]
              rfl
             refine take_ (i := 2) (N := some 46) (v := ?_) (a' := ?_) #[true, true, true, true, false, true, false, false, true, true, false, true, false, true, false, false, false] rfl rfl (take_ofW HT_.out HW_.out (by kernel_rfl)) (fun _ _ _ h => h) (Or.inl ⟨by rfl, ?_⟩) hHeld ?_ ?_
             rotate_left
             ·rintro w' ⟨s0, s1, s2, s3, s4, s5⟩
              go_simp
              with_reducible rfl
             rotate_left
             ·simp only [Act.put, List.setIfInBounds_toArray, List.set_cons_zero, List.set_cons_succ, i64_w, i32_w]
              rfl
             refine take_ (i := 4) (N := some 48) (v := ?_) (a' := ?_) #[true, true, true, true, true, true, false, false, true, true, false, true, false, true, false, false, false] rfl rfl (take_ofW HT_.out HW_.out (by kernel_rfl)) (fun _ _ _ h => h) (Or.inl ⟨by rfl, ?_⟩) hHeld ?_ ?_
             rotate_left
             ·rintro w' ⟨s0, s1, s2, s3, s4, s5⟩
              go_simp
              with_reducible rfl
             rotate_left
             ·simp only [Act.put, List.setIfInBounds_toArray, List.set_cons_zero, List.set_cons_succ, i64_w, i32_w]
              rfl
             refine take_ (i := 6) (N := some 50) (v := ?_) (a' := ?_) #[true, true, true, true, true, true, true, false, true, true, false, true, false, true, false, false, false] rfl rfl (take_ofW HT_.out HW_.out (by kernel_rfl)) (fun _ _ _ h => h) (Or.inl ⟨by rfl, ?_⟩) hHeld ?_ ?_
             rotate_left
             ·rintro w' ⟨s0, s1, s2, s3, s4, s5⟩
              go_simp
              with_reducible rfl
             rotate_left
             ·simp only [Act.put, List.setIfInBounds_toArray, List.set_cons_zero, List.set_cons_succ, i64_w, i32_w]
              rfl
             refine take_ (i := 10) (N := some 54) (v := ?_) (a' := ?_) #[true, true, true, true, true, true, true, false, true, true, true, true, false, true, false, false, false] rfl rfl (take_ofW HT_.out HW_.out (by kernel_rfl)) (fun _ _ _ h => h) (Or.inl ⟨by rfl, ?_⟩) hHeld ?_ ?_
             rotate_left
             ·rintro w' ⟨s0, s1, s2, s3, s4, s5⟩
              go_simp
              with_reducible rfl
             rotate_left
             ·simp only [Act.put, List.setIfInBounds_toArray, List.set_cons_zero, List.set_cons_succ, i64_w, i32_w]
              rfl
             refine take_ (i := 12) (N := some 56) (v := ?_) (a' := ?_) #[true, true, true, true, true, true, true, false, true, true, true, true, true, true, false, false, false] rfl rfl (take_ofW HT_.out HW_.out (by kernel_rfl)) (fun _ _ _ h => h) (Or.inl ⟨by rfl, ?_⟩) hHeld ?_ ?_
             rotate_left
             ·rintro w' ⟨s0, s1, s2, s3, s4, s5⟩
              go_simp
              with_reducible rfl
             rotate_left
             ·simp only [Act.put, List.setIfInBounds_toArray, List.set_cons_zero, List.set_cons_succ, i64_w, i32_w]
              rfl
             refine take_ (i := 14) (N := some 58) (v := ?_) (a' := ?_) #[true, true, true, true, true, true, true, false, true, true, true, true, true, true, true, false, false] rfl rfl (take_ofW HT_.out HW_.out (by kernel_rfl)) (fun _ _ _ h => h) (Or.inl ⟨by rfl, ?_⟩) hHeld ?_ ?_
             rotate_left
             ·rintro w' ⟨s0, s1, s2, s3, s4, s5⟩
              go_simp
              with_reducible rfl
             rotate_left
             ·simp only [Act.put, List.setIfInBounds_toArray, List.set_cons_zero, List.set_cons_succ, i64_w, i32_w]
              rfl
             refine one_ (i := 7) (N := some 51) #[true, true, true, true, true, true, true, true, true, true, true, true, true, true, true, false, false] rfl rfl (one_of HT_.out (by kernel_rfl)) (by decide) (fun K hK => ?_)
             refine goes_ Try.func8 (by kernel_rfl) rfl #[.pointer (some ⟨g155, 0, none⟩), .int .i64 ((rd_T28 l0 x5_1).f1), .int .i64 ((rd_T28 l0 x5_1).f2), .int .i64 ((rd_T28 l0 x5_1).f4)] (by rfl) rfl rfl (by (try simp only [List.map_toArray, List.map_cons, List.map_nil]); first | done | rfl | (simp only [List.length_drop, List.length_take]; rfl)) ?_
             with_reducible refine (probe_Probe_Sent.calls g155 x156000_1 ((rd_T28 l0 x5_1).f1) ((rd_T28 l0 x5_1).f2) ((rd_T28 l0 x5_1).f4) false t166 w _ ?side1 ?side2 A29.out).mono ?_
             (case side1 => repeat (first | (with_reducible first | exact HI155.out | apply IsS42.alloc | apply IsS42.drewN | apply IsS42.drew | refine IsS42.farB ?_ (by repeat (first | exact TB.of BK160.out (by decide) | exact TB.of BK181.out (by decide) | apply TB.set | apply TB.drewN | apply TB.drew | apply TB.alloc))) | exact HI155.out))
             (case side2 => repeat (first | (with_reducible first | exact HB.out | apply below_alloc | apply pw_below_drewN | apply below_drew1 | refine below_set ?_ (IsS42.ge HI155.out) | refine below_set ?_ (IsS45.ge HI157.out) | refine below_set ?_ GE160.out) | exact HB.out))
             rintro e w48 ⟨rfl, hi, hb, hk⟩
             refine ⟨_, rfl, ?_⟩
             have n0_ := Aside0.mk (IsS45.keepM HI157.out (fun h_ => by repeat (first | (with_reducible first | exact h_ | apply IsS45.alloc | apply IsS45.drewN | apply IsS45.drew | refine IsS45.farB ?_ (by repeat (first | exact TB.of BK160.out (by decide) | exact TB.of BK181.out (by decide) | apply TB.set | apply TB.drewN | apply TB.drew | apply TB.alloc))) | exact HI157.out)) hk NB157_155.out)
             have n1_ := Aside0.mk (hk.kblk (g' := gb160) (cs := #[.int .i64 ((rd_T28 l0 x5_1).f0), .int .i64 ((rd_T28 l0 x5_1).f1), .int .i64 ((rd_T28 l0 x5_1).f2), .int .i64 ((rd_T28 l0 x5_1).f3), .int .i64 ((rd_T28 l0 x5_1).f4), .int .i64 ((rd_T28 l0 x5_1).f5)]) (t := 28) (by (with_reducible repeat (first | refine blk_drewN ?_ _ | refine blk_drew ?_ | refine blk_alloc ?_ _)); exact BK160.out) NB160_155.out (by simp))
             have n2_ := Aside0.mk (hb)
             have n3_ := Aside0.mk (hi)
             clear HI157
             clear BK160
             clear HB
             clear HI155
             have HI157 := n0_
             have BK160 := n1_
             have HB := n2_
             have HI155 := n3_
             clear n0_ n1_ n2_ n3_
             (try clear hb)
             (try clear hb2)
             (try clear hk)
             (try clear hi)
             refine hK.out _ _ ⟨(blk_cell BK160.out 0).trans rfl, (blk_cell BK160.out 1).trans rfl, (blk_cell BK160.out 2).trans rfl, (blk_cell BK160.out 3).trans rfl, (blk_cell BK160.out 4).trans rfl, (blk_cell BK160.out 5).trans rfl⟩ (fun hHeld => ?_)
             clear hK K
             refine norm_ (a' := ?_) ?_ ?_
             rotate_left
             ·show Act.put _ (some 51) _ = _
              simp only [Act.put, List.setIfInBounds_toArray, List.set_cons_zero, List.set_cons_succ, i64_w, i32_w]
              rfl
             refine one_ (i := 15) (N := some 59) #[true, true, true, true, true, true, true, true, true, true, true, true, true, true, true, true, false] rfl rfl (one_of HT_.out (by kernel_rfl)) (by decide) (fun K hK => ?_)
             refine goes_ Try.func9 (by kernel_rfl) rfl #[.pointer (some ⟨g157, 0, none⟩), .int .i64 ((rd_T28 l0 x5_1).f1), .int .i64 ((rd_T28 l0 x5_1).f2), .int .i64 ((rd_T28 l0 x5_1).f4)] (by rfl) rfl rfl (by (try simp only [List.map_toArray, List.map_cons, List.map_nil]); first | done | rfl | (simp only [List.length_drop, List.length_take]; rfl)) ?_
             with_reducible refine (flywheelref26_Probe_Sent.calls g157 x158000_1 ((rd_T28 l0 x5_1).f1) ((rd_T28 l0 x5_1).f2) ((rd_T28 l0 x5_1).f4) false t168 w _ ?side1 ?side2 A30.out).mono ?_
             (case side1 => repeat (first | (with_reducible first | exact HI157.out | apply IsS45.alloc | apply IsS45.drewN | apply IsS45.drew | refine IsS45.farB ?_ (by repeat (first | exact TB.of BK160.out (by decide) | exact TB.of BK181.out (by decide) | apply TB.set | apply TB.drewN | apply TB.drew | apply TB.alloc))) | exact HI157.out))
             (case side2 => repeat (first | (with_reducible first | exact HB.out | apply below_alloc | apply pw_below_drewN | apply below_drew1 | refine below_set ?_ (IsS42.ge HI155.out) | refine below_set ?_ (IsS45.ge HI157.out) | refine below_set ?_ GE160.out) | exact HB.out))
             rintro e w49 ⟨rfl, hi, hb, hk⟩
             refine ⟨_, rfl, ?_⟩
             have n0_ := Aside0.mk (IsS42.keepM HI155.out (fun h_ => by repeat (first | (with_reducible first | exact h_ | apply IsS42.alloc | apply IsS42.drewN | apply IsS42.drew | refine IsS42.farB ?_ (by repeat (first | exact TB.of BK160.out (by decide) | exact TB.of BK181.out (by decide) | apply TB.set | apply TB.drewN | apply TB.drew | apply TB.alloc))) | exact HI155.out)) hk NB155_157.out)
             have n1_ := Aside0.mk (hk.kblk (g' := gb160) (cs := #[.int .i64 ((rd_T28 l0 x5_1).f0), .int .i64 ((rd_T28 l0 x5_1).f1), .int .i64 ((rd_T28 l0 x5_1).f2), .int .i64 ((rd_T28 l0 x5_1).f3), .int .i64 ((rd_T28 l0 x5_1).f4), .int .i64 ((rd_T28 l0 x5_1).f5)]) (t := 28) (by (with_reducible repeat (first | refine blk_drewN ?_ _ | refine blk_drew ?_ | refine blk_alloc ?_ _)); exact BK160.out) NB160_157.out (by simp))
             have n2_ := Aside0.mk (hb)
             have n3_ := Aside0.mk (hi)
             clear HI155
             clear BK160
             clear HB
             clear HI157
             have HI155 := n0_
             have BK160 := n1_
             have HB := n2_
             have HI157 := n3_
             clear n0_ n1_ n2_ n3_
             (try clear hb)
             (try clear hb2)
             (try clear hk)
             (try clear hi)
             refine hK.out _ _ ⟨(blk_cell BK160.out 0).trans rfl, (blk_cell BK160.out 1).trans rfl, (blk_cell BK160.out 2).trans rfl, (blk_cell BK160.out 3).trans rfl, (blk_cell BK160.out 4).trans rfl, (blk_cell BK160.out 5).trans rfl⟩ (fun hHeld => ?_)
             clear hK K
             refine norm_ (a' := ?_) ?_ ?_
             rotate_left
             ·show Act.put _ (some 59) _ = _
              simp only [Act.put, List.setIfInBounds_toArray, List.set_cons_zero, List.set_cons_succ, i64_w, i32_w]
              rfl
             refine pure_ (i := 16) (N := some 60) (v := ?_) (a' := ?_) #[true, true, true, true, true, true, true, true, true, true, true, true, true, true, true, true, true] rfl rfl (any_of HT_.out (by kernel_rfl)) (fun _ _ _ h => h) (Or.inl ⟨by rfl, ?_⟩) ?_ ?_
             rotate_left
             ·intro w'
              go_simp
              with_reducible rfl
             rotate_left
             ·simp only [Act.put, List.setIfInBounds_toArray, List.set_cons_zero, List.set_cons_succ, i64_w, i32_w]
              rfl
             refine done_ (done_of HT_.out (by kernel_rfl)) ?_
             try go_wp2
             go_meet
             case rel => exact ⟨_, (t166), (t168), H', ⟨by have := HK1.out; have := HJ5.out; first | omega | exact Nat.le_refl _⟩, ⟨by (with_reducible repeat (first | refine blk_drewN ?_ _ | refine blk_drew ?_ | refine blk_alloc ?_ _)); exact BK160.out⟩, ⟨by repeat (first | (with_reducible first | exact HI155.out | apply IsS42.alloc | apply IsS42.drewN | apply IsS42.drew | refine IsS42.farB ?_ (by repeat (first | exact TB.of BK160.out (by decide) | exact TB.of BK181.out (by decide) | apply TB.set | apply TB.drewN | apply TB.drew | apply TB.alloc))) | exact HI155.out)⟩, ⟨by repeat (first | (with_reducible first | exact HI157.out | apply IsS45.alloc | apply IsS45.drewN | apply IsS45.drew | refine IsS45.farB ?_ (by repeat (first | exact TB.of BK160.out (by decide) | exact TB.of BK181.out (by decide) | apply TB.set | apply TB.drewN | apply TB.drew | apply TB.alloc))) | exact HI157.out)⟩, ⟨by repeat (first | (with_reducible first | exact HB.out | apply below_alloc | apply pw_below_drewN | apply below_drew1 | refine below_set ?_ (IsS42.ge HI155.out) | refine below_set ?_ (IsS45.ge HI157.out) | refine below_set ?_ GE160.out) | exact HB.out)⟩⟩
          ·rw [if_neg c28] at H
           have c28b0 : (((rd_T28 l0 x5_1).f0) == 1) = false := beq_eq_false_iff_ne.mpr c28
           have c28b1 : (((rd_T28 l0 x5_1).f0) != 1) = true := bne_iff_ne.mpr c28
           by_cases c50 : ((rd_T28 l0 x5_1).f0) = 2
           ·rw [if_pos c50] at H
            have c50b0 : (((rd_T28 l0 x5_1).f0) == 2) = true := beq_iff_eq.mpr c50
            have c50b1 : (((rd_T28 l0 x5_1).f0) != 2) = false := bne_eq_false_iff_eq.mpr c50
            clear c50
            replace H := Option.bind_eq_some_iff.mp H
            obtain ⟨⟨t169, t170⟩, A510, H⟩ := H
            replace H : ((flywheelref26_Probe_Got.f x158000_1 ((rd_T28 l0 x5_1).f1) ((rd_T28 l0 x5_1).f2) ((rd_T28 l0 x5_1).f4) ((rd_T28 l0 x5_1).f5)).bind fun bt171 => (if t169 = bt171.1 then (flywheellaw26_ProbePlays.j2 kj5 l0 x5_1 t170 bt171.2) else (some false))) = some r := H
            have A51 := Aside0.mk A510
            clear A510
            replace H := Option.bind_eq_some_iff.mp H
            obtain ⟨⟨t171, t172⟩, A520, H⟩ := H
            replace H : (if t169 = t171 then (flywheellaw26_ProbePlays.j2 kj5 l0 x5_1 t170 t172) else (some false)) = some r := H
            have A52 := Aside0.mk A520
            clear A520
            by_cases c53 : t169 = t171
            ·rw [if_pos c53] at H
             have c53b0 : (t169 == t171) = true := beq_iff_eq.mpr c53
             have c53b1 : (t169 != t171) = false := bne_eq_false_iff_eq.mpr c53
             clear c53
             have H' := Aside0.mk H
             clear H
             try go_wp2
             have n0_ : Aside0 (((((((w12.setCell ⟨gb160, 0, none⟩ (.int .i64 ((rd_T28 l0 x5_1).f0))).setCell ⟨gb160, 1, none⟩ (.int .i64 ((rd_T28 l0 x5_1).f1))).setCell ⟨gb160, 2, none⟩ (.int .i64 ((rd_T28 l0 x5_1).f2))).setCell ⟨gb160, 3, none⟩ (.int .i64 ((rd_T28 l0 x5_1).f3))).setCell ⟨gb160, 4, none⟩ (.int .i64 ((rd_T28 l0 x5_1).f4))).setCell ⟨gb160, 5, none⟩ (.int .i64 ((rd_T28 l0 x5_1).f5))).heap[gb160]? = some (.cells #[.int .i64 ((rd_T28 l0 x5_1).f0), .int .i64 ((rd_T28 l0 x5_1).f1), .int .i64 ((rd_T28 l0 x5_1).f2), .int .i64 ((rd_T28 l0 x5_1).f3), .int .i64 ((rd_T28 l0 x5_1).f4), .int .i64 ((rd_T28 l0 x5_1).f5)] 28 (0, 0))) := ⟨by (with_reducible repeat (first | refine blk_drewN ?_ _ | refine blk_drew ?_ | refine blk_alloc ?_ _)); refine blk_put (cs := #[.int .i64 ((rd_T28 l0 x5_1).f0), .int .i64 ((rd_T28 l0 x5_1).f1), .int .i64 ((rd_T28 l0 x5_1).f2), .int .i64 ((rd_T28 l0 x5_1).f3), .int .i64 ((rd_T28 l0 x5_1).f4), .int .i64 0]) ?_ 5 _ rfl; (with_reducible repeat (first | refine blk_drewN ?_ _ | refine blk_drew ?_ | refine blk_alloc ?_ _)); refine blk_put (cs := #[.int .i64 ((rd_T28 l0 x5_1).f0), .int .i64 ((rd_T28 l0 x5_1).f1), .int .i64 ((rd_T28 l0 x5_1).f2), .int .i64 ((rd_T28 l0 x5_1).f3), .int .i64 0, .int .i64 0]) ?_ 4 _ rfl; (with_reducible repeat (first | refine blk_drewN ?_ _ | refine blk_drew ?_ | refine blk_alloc ?_ _)); refine blk_put (cs := #[.int .i64 ((rd_T28 l0 x5_1).f0), .int .i64 ((rd_T28 l0 x5_1).f1), .int .i64 ((rd_T28 l0 x5_1).f2), .int .i64 0, .int .i64 0, .int .i64 0]) ?_ 3 _ rfl; (with_reducible repeat (first | refine blk_drewN ?_ _ | refine blk_drew ?_ | refine blk_alloc ?_ _)); refine blk_put (cs := #[.int .i64 ((rd_T28 l0 x5_1).f0), .int .i64 ((rd_T28 l0 x5_1).f1), .int .i64 0, .int .i64 0, .int .i64 0, .int .i64 0]) ?_ 2 _ rfl; (with_reducible repeat (first | refine blk_drewN ?_ _ | refine blk_drew ?_ | refine blk_alloc ?_ _)); refine blk_put (cs := #[.int .i64 ((rd_T28 l0 x5_1).f0), .int .i64 0, .int .i64 0, .int .i64 0, .int .i64 0, .int .i64 0]) ?_ 1 _ rfl; (with_reducible repeat (first | refine blk_drewN ?_ _ | refine blk_drew ?_ | refine blk_alloc ?_ _)); refine blk_put (cs := #[.int .i64 0, .int .i64 0, .int .i64 0, .int .i64 0, .int .i64 0, .int .i64 0]) ?_ 0 _ rfl; (with_reducible repeat (first | refine blk_drewN ?_ _ | refine blk_drew ?_ | refine blk_alloc ?_ _)); exact BK160.out⟩
             have n1_ : Aside0 (IsS42 w ((((((w12.setCell ⟨gb160, 0, none⟩ (.int .i64 ((rd_T28 l0 x5_1).f0))).setCell ⟨gb160, 1, none⟩ (.int .i64 ((rd_T28 l0 x5_1).f1))).setCell ⟨gb160, 2, none⟩ (.int .i64 ((rd_T28 l0 x5_1).f2))).setCell ⟨gb160, 3, none⟩ (.int .i64 ((rd_T28 l0 x5_1).f3))).setCell ⟨gb160, 4, none⟩ (.int .i64 ((rd_T28 l0 x5_1).f4))).setCell ⟨gb160, 5, none⟩ (.int .i64 ((rd_T28 l0 x5_1).f5))) g155 x156000_1) := ⟨by repeat (first | (with_reducible first | exact HI155.out | apply IsS42.alloc | apply IsS42.drewN | apply IsS42.drew | refine IsS42.farB ?_ (by repeat (first | exact TB.of BK160.out (by decide) | exact TB.of BK181.out (by decide) | apply TB.set | apply TB.drewN | apply TB.drew | apply TB.alloc))) | exact HI155.out)⟩
             have n2_ : Aside0 (IsS45 w ((((((w12.setCell ⟨gb160, 0, none⟩ (.int .i64 ((rd_T28 l0 x5_1).f0))).setCell ⟨gb160, 1, none⟩ (.int .i64 ((rd_T28 l0 x5_1).f1))).setCell ⟨gb160, 2, none⟩ (.int .i64 ((rd_T28 l0 x5_1).f2))).setCell ⟨gb160, 3, none⟩ (.int .i64 ((rd_T28 l0 x5_1).f3))).setCell ⟨gb160, 4, none⟩ (.int .i64 ((rd_T28 l0 x5_1).f4))).setCell ⟨gb160, 5, none⟩ (.int .i64 ((rd_T28 l0 x5_1).f5))) g157 x158000_1) := ⟨by repeat (first | (with_reducible first | exact HI157.out | apply IsS45.alloc | apply IsS45.drewN | apply IsS45.drew | refine IsS45.farB ?_ (by repeat (first | exact TB.of BK160.out (by decide) | exact TB.of BK181.out (by decide) | apply TB.set | apply TB.drewN | apply TB.drew | apply TB.alloc))) | exact HI157.out)⟩
             have n3_ : Aside0 (Below w.heap.size w ((((((w12.setCell ⟨gb160, 0, none⟩ (.int .i64 ((rd_T28 l0 x5_1).f0))).setCell ⟨gb160, 1, none⟩ (.int .i64 ((rd_T28 l0 x5_1).f1))).setCell ⟨gb160, 2, none⟩ (.int .i64 ((rd_T28 l0 x5_1).f2))).setCell ⟨gb160, 3, none⟩ (.int .i64 ((rd_T28 l0 x5_1).f3))).setCell ⟨gb160, 4, none⟩ (.int .i64 ((rd_T28 l0 x5_1).f4))).setCell ⟨gb160, 5, none⟩ (.int .i64 ((rd_T28 l0 x5_1).f5)))) := ⟨by repeat (first | (with_reducible first | exact HB.out | apply below_alloc | apply pw_below_drewN | apply below_drew1 | refine below_set ?_ (IsS42.ge HI155.out) | refine below_set ?_ (IsS45.ge HI157.out) | refine below_set ?_ GE160.out) | exact HB.out)⟩
             (try clear BK160)
             (try clear HI155)
             (try clear HI157)
             (try clear HB)
             generalize ((((((w12.setCell ⟨gb160, 0, none⟩ (.int .i64 ((rd_T28 l0 x5_1).f0))).setCell ⟨gb160, 1, none⟩ (.int .i64 ((rd_T28 l0 x5_1).f1))).setCell ⟨gb160, 2, none⟩ (.int .i64 ((rd_T28 l0 x5_1).f2))).setCell ⟨gb160, 3, none⟩ (.int .i64 ((rd_T28 l0 x5_1).f3))).setCell ⟨gb160, 4, none⟩ (.int .i64 ((rd_T28 l0 x5_1).f4))).setCell ⟨gb160, 5, none⟩ (.int .i64 ((rd_T28 l0 x5_1).f5))) = w54 at n0_ n1_ n2_ n3_ ⊢
             have BK160 := n0_
             have HI155 := n1_
             have HI157 := n2_
             have HB := n3_
             clear n0_ n1_ n2_ n3_
             have n0_ := Aside0.mk (blk_drew BK160.out)
             have n1_ := Aside0.mk (IsS42.drew HI155.out)
             have n2_ := Aside0.mk (IsS45.drew HI157.out)
             have n3_ := Aside0.mk (below_drew1 HB.out)
             clear BK160
             clear HI155
             clear HI157
             clear HB
             have BK160 := n0_
             have HI155 := n1_
             have HI157 := n2_
             have HB := n3_
             clear n0_ n1_ n2_ n3_
             refine start_ (n := 21) (S := fun w' => w'.cell? ⟨gb160, 0, none⟩ = some (.int .i64 ((rd_T28 l0 x5_1).f0)) ∧ w'.cell? ⟨gb160, 1, none⟩ = some (.int .i64 ((rd_T28 l0 x5_1).f1)) ∧ w'.cell? ⟨gb160, 2, none⟩ = some (.int .i64 ((rd_T28 l0 x5_1).f2)) ∧ w'.cell? ⟨gb160, 3, none⟩ = some (.int .i64 ((rd_T28 l0 x5_1).f3)) ∧ w'.cell? ⟨gb160, 4, none⟩ = some (.int .i64 ((rd_T28 l0 x5_1).f4)) ∧ w'.cell? ⟨gb160, 5, none⟩ = some (.int .i64 ((rd_T28 l0 x5_1).f5))) (ds := []) #[false, false, false, false, false, false, false, false, false, false, false, false, false, false, false, false, false, false, false, false, false] (by kernel_rfl) rfl rfl ⟨(blk_cell BK160.out 0).trans rfl, (blk_cell BK160.out 1).trans rfl, (blk_cell BK160.out 2).trans rfl, (blk_cell BK160.out 3).trans rfl, (blk_cell BK160.out 4).trans rfl, (blk_cell BK160.out 5).trans rfl⟩ (fun hHeld => ?_); refine with_tabW flywheellaw26_ProbePlays.tab16 flywheellaw26_ProbePlays.bits16 (fun HT_ HW_ => ?_)
             generalize w54.drew = w55 at BK160 HI155 HI157 HB hHeld ⊢
             refine pure_ (i := 0) (N := some 63) (v := ?_) (a' := ?_) #[true, false, false, false, false, false, false, false, false, false, false, false, false, false, false, false, false, false, false, false, false] rfl rfl (any_of HT_.out (by kernel_rfl)) (fun _ _ _ h => h) (Or.inl ⟨by rfl, ?_⟩) ?_ ?_
             rotate_left
             ·intro w'
              go_simp
              with_reducible rfl
             rotate_left
             ·simp only [Act.put, List.setIfInBounds_toArray, List.set_cons_zero, List.set_cons_succ, i64_w, i32_w]
              rfl
             refine pure_ (i := 1) (N := some 64) (v := ?_) (a' := ?_) #[true, true, false, false, false, false, false, false, false, false, false, false, false, false, false, false, false, false, false, false, false] rfl rfl (any_of HT_.out (by kernel_rfl)) (fun _ _ _ h => h) (Or.inl ⟨by rfl, ?_⟩) ?_ ?_
             rotate_left
             ·intro w'
              go_simp
              with_reducible rfl
             rotate_left
             ·simp only [Act.put, List.setIfInBounds_toArray, List.set_cons_zero, List.set_cons_succ, i64_w, i32_w]
              rfl
             refine pure_ (i := 3) (N := some 66) (v := ?_) (a' := ?_) #[true, true, false, true, false, false, false, false, false, false, false, false, false, false, false, false, false, false, false, false, false] rfl rfl (any_of HT_.out (by kernel_rfl)) (fun _ _ _ h => h) (Or.inl ⟨by rfl, ?_⟩) ?_ ?_
             rotate_left
             ·intro w'
              go_simp
              with_reducible rfl
             rotate_left
             ·simp only [Act.put, List.setIfInBounds_toArray, List.set_cons_zero, List.set_cons_succ, i64_w, i32_w]
              rfl
             refine pure_ (i := 5) (N := some 68) (v := ?_) (a' := ?_) #[true, true, false, true, false, true, false, false, false, false, false, false, false, false, false, false, false, false, false, false, false] rfl rfl (any_of HT_.out (by kernel_rfl)) (fun _ _ _ h => h) (Or.inl ⟨by rfl, ?_⟩) ?_ ?_
             rotate_left
             ·intro w'
              go_simp
              with_reducible rfl
             rotate_left
             ·simp only [Act.put, List.setIfInBounds_toArray, List.set_cons_zero, List.set_cons_succ, i64_w, i32_w]
              rfl
             refine pure_ (i := 7) (N := some 70) (v := ?_) (a' := ?_) #[true, true, false, true, false, true, false, true, false, false, false, false, false, false, false, false, false, false, false, false, false] rfl rfl (any_of HT_.out (by kernel_rfl)) (fun _ _ _ h => h) (Or.inl ⟨by rfl, ?_⟩) ?_ ?_
             rotate_left
             ·intro w'
              go_simp
              with_reducible rfl
             rotate_left
             ·simp only [Act.put, List.setIfInBounds_toArray, List.set_cons_zero, List.set_cons_succ, i64_w, i32_w]
              rfl
             refine pure_ (i := 10) (N := some 73) (v := ?_) (a' := ?_) #[true, true, false, true, false, true, false, true, false, false, true, false, false, false, false, false, false, false, false, false, false] rfl rfl (any_of HT_.out (by kernel_rfl)) (fun _ _ _ h => h) (Or.inl ⟨by rfl, ?_⟩) ?_ ?_
             rotate_left
             ·intro w'
              go_simp
              with_reducible rfl
             rotate_left
             ·simp only [Act.put, List.setIfInBounds_toArray, List.set_cons_zero, List.set_cons_succ, i64_w, i32_w]
              rfl
             refine pure_ (i := 11) (N := some 74) (v := ?_) (a' := ?_) #[true, true, false, true, false, true, false, true, false, false, true, true, false, false, false, false, false, false, false, false, false] rfl rfl (any_of HT_.out (by kernel_rfl)) (fun _ _ _ h => h) (Or.inl ⟨by rfl, ?_⟩) ?_ ?_
             rotate_left
             ·intro w'
              go_simp
              with_reducible rfl
             rotate_left
             ·simp only [Act.put, List.setIfInBounds_toArray, List.set_cons_zero, List.set_cons_succ, i64_w, i32_w]
              rfl
             refine pure_ (i := 13) (N := some 76) (v := ?_) (a' := ?_) #[true, true, false, true, false, true, false, true, false, false, true, true, false, true, false, false, false, false, false, false, false] rfl rfl (any_of HT_.out (by kernel_rfl)) (fun _ _ _ h => h) (Or.inl ⟨by rfl, ?_⟩) ?_ ?_
             rotate_left
             ·intro w'
              go_simp
              with_reducible rfl
             rotate_left
             ·simp only [Act.put, List.setIfInBounds_toArray, List.set_cons_zero, List.set_cons_succ, i64_w, i32_w]
              rfl
             refine pure_ (i := 15) (N := some 78) (v := ?_) (a' := ?_) #[true, true, false, true, false, true, false, true, false, false, true, true, false, true, false, true, false, false, false, false, false] rfl rfl (any_of HT_.out (by kernel_rfl)) (fun _ _ _ h => h) (Or.inl ⟨by rfl, ?_⟩) ?_ ?_
             rotate_left
             ·intro w'
              go_simp
              with_reducible rfl
             rotate_left
             ·simp only [Act.put, List.setIfInBounds_toArray, List.set_cons_zero, List.set_cons_succ, i64_w, i32_w]
              rfl
             refine pure_ (i := 17) (N := some 80) (v := ?_) (a' := ?_) #[true, true, false, true, false, true, false, true, false, false, true, true, false, true, false, true, false, true, false, false, false] rfl rfl (any_of HT_.out (by kernel_rfl)) (fun _ _ _ h => h) (Or.inl ⟨by rfl, ?_⟩) ?_ ?_
             rotate_left
             ·intro w'
              go_simp
              with_reducible rfl
             rotate_left
             ·simp only [Act.put, List.setIfInBounds_toArray, List.set_cons_zero, List.set_cons_succ, i64_w, i32_w]
              rfl
             refine take_ (i := 2) (N := some 65) (v := ?_) (a' := ?_) #[true, true, true, true, false, true, false, true, false, false, true, true, false, true, false, true, false, true, false, false, false] rfl rfl (take_ofW HT_.out HW_.out (by kernel_rfl)) (fun _ _ _ h => h) (Or.inl ⟨by rfl, ?_⟩) hHeld ?_ ?_
             rotate_left
             ·rintro w' ⟨s0, s1, s2, s3, s4, s5⟩
              go_simp
              with_reducible rfl
             rotate_left
             ·simp only [Act.put, List.setIfInBounds_toArray, List.set_cons_zero, List.set_cons_succ, i64_w, i32_w]
              rfl
             refine take_ (i := 4) (N := some 67) (v := ?_) (a' := ?_) #[true, true, true, true, true, true, false, true, false, false, true, true, false, true, false, true, false, true, false, false, false] rfl rfl (take_ofW HT_.out HW_.out (by kernel_rfl)) (fun _ _ _ h => h) (Or.inl ⟨by rfl, ?_⟩) hHeld ?_ ?_
             rotate_left
             ·rintro w' ⟨s0, s1, s2, s3, s4, s5⟩
              go_simp
              with_reducible rfl
             rotate_left
             ·simp only [Act.put, List.setIfInBounds_toArray, List.set_cons_zero, List.set_cons_succ, i64_w, i32_w]
              rfl
             refine take_ (i := 6) (N := some 69) (v := ?_) (a' := ?_) #[true, true, true, true, true, true, true, true, false, false, true, true, false, true, false, true, false, true, false, false, false] rfl rfl (take_ofW HT_.out HW_.out (by kernel_rfl)) (fun _ _ _ h => h) (Or.inl ⟨by rfl, ?_⟩) hHeld ?_ ?_
             rotate_left
             ·rintro w' ⟨s0, s1, s2, s3, s4, s5⟩
              go_simp
              with_reducible rfl
             rotate_left
             ·simp only [Act.put, List.setIfInBounds_toArray, List.set_cons_zero, List.set_cons_succ, i64_w, i32_w]
              rfl
             refine take_ (i := 8) (N := some 71) (v := ?_) (a' := ?_) #[true, true, true, true, true, true, true, true, true, false, true, true, false, true, false, true, false, true, false, false, false] rfl rfl (take_ofW HT_.out HW_.out (by kernel_rfl)) (fun _ _ _ h => h) (Or.inl ⟨by rfl, ?_⟩) hHeld ?_ ?_
             rotate_left
             ·rintro w' ⟨s0, s1, s2, s3, s4, s5⟩
              go_simp
              with_reducible rfl
             rotate_left
             ·simp only [Act.put, List.setIfInBounds_toArray, List.set_cons_zero, List.set_cons_succ, i64_w, i32_w]
              rfl
             refine take_ (i := 12) (N := some 75) (v := ?_) (a' := ?_) #[true, true, true, true, true, true, true, true, true, false, true, true, true, true, false, true, false, true, false, false, false] rfl rfl (take_ofW HT_.out HW_.out (by kernel_rfl)) (fun _ _ _ h => h) (Or.inl ⟨by rfl, ?_⟩) hHeld ?_ ?_
             rotate_left
             ·rintro w' ⟨s0, s1, s2, s3, s4, s5⟩
              go_simp
              with_reducible rfl
             rotate_left
             ·simp only [Act.put, List.setIfInBounds_toArray, List.set_cons_zero, List.set_cons_succ, i64_w, i32_w]
              rfl
             refine take_ (i := 14) (N := some 77) (v := ?_) (a' := ?_) #[true, true, true, true, true, true, true, true, true, false, true, true, true, true, true, true, false, true, false, false, false] rfl rfl (take_ofW HT_.out HW_.out (by kernel_rfl)) (fun _ _ _ h => h) (Or.inl ⟨by rfl, ?_⟩) hHeld ?_ ?_
             rotate_left
             ·rintro w' ⟨s0, s1, s2, s3, s4, s5⟩
              go_simp
              with_reducible rfl
             rotate_left
             ·simp only [Act.put, List.setIfInBounds_toArray, List.set_cons_zero, List.set_cons_succ, i64_w, i32_w]
              rfl
             refine take_ (i := 16) (N := some 79) (v := ?_) (a' := ?_) #[true, true, true, true, true, true, true, true, true, false, true, true, true, true, true, true, true, true, false, false, false] rfl rfl (take_ofW HT_.out HW_.out (by kernel_rfl)) (fun _ _ _ h => h) (Or.inl ⟨by rfl, ?_⟩) hHeld ?_ ?_
             rotate_left
             ·rintro w' ⟨s0, s1, s2, s3, s4, s5⟩
              go_simp
              with_reducible rfl
             rotate_left
             ·simp only [Act.put, List.setIfInBounds_toArray, List.set_cons_zero, List.set_cons_succ, i64_w, i32_w]
              rfl
             refine take_ (i := 18) (N := some 81) (v := ?_) (a' := ?_) #[true, true, true, true, true, true, true, true, true, false, true, true, true, true, true, true, true, true, true, false, false] rfl rfl (take_ofW HT_.out HW_.out (by kernel_rfl)) (fun _ _ _ h => h) (Or.inl ⟨by rfl, ?_⟩) hHeld ?_ ?_
             rotate_left
             ·rintro w' ⟨s0, s1, s2, s3, s4, s5⟩
              go_simp
              with_reducible rfl
             rotate_left
             ·simp only [Act.put, List.setIfInBounds_toArray, List.set_cons_zero, List.set_cons_succ, i64_w, i32_w]
              rfl
             refine one_ (i := 9) (N := some 72) #[true, true, true, true, true, true, true, true, true, true, true, true, true, true, true, true, true, true, true, false, false] rfl rfl (one_of HT_.out (by kernel_rfl)) (by decide) (fun K hK => ?_)
             refine goes_ Try.func10 (by kernel_rfl) rfl #[.pointer (some ⟨g155, 0, none⟩), .int .i64 ((rd_T28 l0 x5_1).f1), .int .i64 ((rd_T28 l0 x5_1).f2), .int .i64 ((rd_T28 l0 x5_1).f4), .int .i64 ((rd_T28 l0 x5_1).f5)] (by rfl) rfl rfl (by (try simp only [List.map_toArray, List.map_cons, List.map_nil]); first | done | rfl | (simp only [List.length_drop, List.length_take]; rfl)) ?_
             with_reducible refine (probe_Probe_Got.calls kj5 g155 x156000_1 ((rd_T28 l0 x5_1).f1) ((rd_T28 l0 x5_1).f2) ((rd_T28 l0 x5_1).f4) ((rd_T28 l0 x5_1).f5) t169 t170 w _ ?side1 ?side2 A51.out).mono ?_
             (case side1 => repeat (first | (with_reducible first | exact HI155.out | apply IsS42.alloc | apply IsS42.drewN | apply IsS42.drew | refine IsS42.farB ?_ (by repeat (first | exact TB.of BK160.out (by decide) | exact TB.of BK181.out (by decide) | apply TB.set | apply TB.drewN | apply TB.drew | apply TB.alloc))) | exact HI155.out))
             (case side2 => repeat (first | (with_reducible first | exact HB.out | apply below_alloc | apply pw_below_drewN | apply below_drew1 | refine below_set ?_ (IsS42.ge HI155.out) | refine below_set ?_ (IsS45.ge HI157.out) | refine below_set ?_ GE160.out) | exact HB.out))
             rintro e w56 ⟨rfl, hi, hb, hk⟩
             refine ⟨_, rfl, ?_⟩
             have n0_ := Aside0.mk (IsS45.keepM HI157.out (fun h_ => by repeat (first | (with_reducible first | exact h_ | apply IsS45.alloc | apply IsS45.drewN | apply IsS45.drew | refine IsS45.farB ?_ (by repeat (first | exact TB.of BK160.out (by decide) | exact TB.of BK181.out (by decide) | apply TB.set | apply TB.drewN | apply TB.drew | apply TB.alloc))) | exact HI157.out)) hk NB157_155.out)
             have n1_ := Aside0.mk (hk.kblk (g' := gb160) (cs := #[.int .i64 ((rd_T28 l0 x5_1).f0), .int .i64 ((rd_T28 l0 x5_1).f1), .int .i64 ((rd_T28 l0 x5_1).f2), .int .i64 ((rd_T28 l0 x5_1).f3), .int .i64 ((rd_T28 l0 x5_1).f4), .int .i64 ((rd_T28 l0 x5_1).f5)]) (t := 28) (by (with_reducible repeat (first | refine blk_drewN ?_ _ | refine blk_drew ?_ | refine blk_alloc ?_ _)); exact BK160.out) NB160_155.out (by simp))
             have n2_ := Aside0.mk (hb)
             have n3_ := Aside0.mk (hi)
             clear HI157
             clear BK160
             clear HB
             clear HI155
             have HI157 := n0_
             have BK160 := n1_
             have HB := n2_
             have HI155 := n3_
             clear n0_ n1_ n2_ n3_
             (try clear hb)
             (try clear hb2)
             (try clear hk)
             (try clear hi)
             refine hK.out _ _ ⟨(blk_cell BK160.out 0).trans rfl, (blk_cell BK160.out 1).trans rfl, (blk_cell BK160.out 2).trans rfl, (blk_cell BK160.out 3).trans rfl, (blk_cell BK160.out 4).trans rfl, (blk_cell BK160.out 5).trans rfl⟩ (fun hHeld => ?_)
             clear hK K
             refine norm_ (a' := ?_) ?_ ?_
             rotate_left
             ·show Act.put _ (some 72) _ = _
              simp only [Act.put, List.setIfInBounds_toArray, List.set_cons_zero, List.set_cons_succ, i64_w, i32_w]
              rfl
             refine one_ (i := 19) (N := some 82) #[true, true, true, true, true, true, true, true, true, true, true, true, true, true, true, true, true, true, true, true, false] rfl rfl (one_of HT_.out (by kernel_rfl)) (by decide) (fun K hK => ?_)
             refine goes_ Try.func11 (by kernel_rfl) rfl #[.pointer (some ⟨g157, 0, none⟩), .int .i64 ((rd_T28 l0 x5_1).f1), .int .i64 ((rd_T28 l0 x5_1).f2), .int .i64 ((rd_T28 l0 x5_1).f4), .int .i64 ((rd_T28 l0 x5_1).f5)] (by rfl) rfl rfl (by (try simp only [List.map_toArray, List.map_cons, List.map_nil]); first | done | rfl | (simp only [List.length_drop, List.length_take]; rfl)) ?_
             with_reducible refine (flywheelref26_Probe_Got.calls g157 x158000_1 ((rd_T28 l0 x5_1).f1) ((rd_T28 l0 x5_1).f2) ((rd_T28 l0 x5_1).f4) ((rd_T28 l0 x5_1).f5) t171 t172 w _ ?side1 ?side2 A52.out).mono ?_
             (case side1 => repeat (first | (with_reducible first | exact HI157.out | apply IsS45.alloc | apply IsS45.drewN | apply IsS45.drew | refine IsS45.farB ?_ (by repeat (first | exact TB.of BK160.out (by decide) | exact TB.of BK181.out (by decide) | apply TB.set | apply TB.drewN | apply TB.drew | apply TB.alloc))) | exact HI157.out))
             (case side2 => repeat (first | (with_reducible first | exact HB.out | apply below_alloc | apply pw_below_drewN | apply below_drew1 | refine below_set ?_ (IsS42.ge HI155.out) | refine below_set ?_ (IsS45.ge HI157.out) | refine below_set ?_ GE160.out) | exact HB.out))
             rintro e w57 ⟨rfl, hi, hb, hk⟩
             refine ⟨_, rfl, ?_⟩
             have n0_ := Aside0.mk (IsS42.keepM HI155.out (fun h_ => by repeat (first | (with_reducible first | exact h_ | apply IsS42.alloc | apply IsS42.drewN | apply IsS42.drew | refine IsS42.farB ?_ (by repeat (first | exact TB.of BK160.out (by decide) | exact TB.of BK181.out (by decide) | apply TB.set | apply TB.drewN | apply TB.drew | apply TB.alloc))) | exact HI155.out)) hk NB155_157.out)
             have n1_ := Aside0.mk (hk.kblk (g' := gb160) (cs := #[.int .i64 ((rd_T28 l0 x5_1).f0), .int .i64 ((rd_T28 l0 x5_1).f1), .int .i64 ((rd_T28 l0 x5_1).f2), .int .i64 ((rd_T28 l0 x5_1).f3), .int .i64 ((rd_T28 l0 x5_1).f4), .int .i64 ((rd_T28 l0 x5_1).f5)]) (t := 28) (by (with_reducible repeat (first | refine blk_drewN ?_ _ | refine blk_drew ?_ | refine blk_alloc ?_ _)); exact BK160.out) NB160_157.out (by simp))
             have n2_ := Aside0.mk (hb)
             have n3_ := Aside0.mk (hi)
             clear HI155
             clear BK160
             clear HB
             clear HI157
             have HI155 := n0_
             have BK160 := n1_
             have HB := n2_
             have HI157 := n3_
             clear n0_ n1_ n2_ n3_
             (try clear hb)
             (try clear hb2)
             (try clear hk)
             (try clear hi)
             refine hK.out _ _ ⟨(blk_cell BK160.out 0).trans rfl, (blk_cell BK160.out 1).trans rfl, (blk_cell BK160.out 2).trans rfl, (blk_cell BK160.out 3).trans rfl, (blk_cell BK160.out 4).trans rfl, (blk_cell BK160.out 5).trans rfl⟩ (fun hHeld => ?_)
             clear hK K
             refine norm_ (a' := ?_) ?_ ?_
             rotate_left
             ·show Act.put _ (some 82) _ = _
              simp only [Act.put, List.setIfInBounds_toArray, List.set_cons_zero, List.set_cons_succ, i64_w, i32_w]
              rfl
             refine pure_ (i := 20) (N := some 83) (v := ?_) (a' := ?_) #[true, true, true, true, true, true, true, true, true, true, true, true, true, true, true, true, true, true, true, true, true] rfl rfl (any_of HT_.out (by kernel_rfl)) (fun _ _ _ h => h) (Or.inl ⟨by rfl, ?_⟩) ?_ ?_
             rotate_left
             ·intro w'
              go_simp
              with_reducible rfl
             rotate_left
             ·simp only [Act.put, List.setIfInBounds_toArray, List.set_cons_zero, List.set_cons_succ, i64_w, i32_w]
              rfl
             refine done_ (done_of HT_.out (by kernel_rfl)) ?_
             try go_wp2
             go_meet
             case rel => exact ⟨_, (t170), (t172), H', ⟨by have := HK1.out; have := HJ5.out; first | omega | exact Nat.le_refl _⟩, ⟨by (with_reducible repeat (first | refine blk_drewN ?_ _ | refine blk_drew ?_ | refine blk_alloc ?_ _)); exact BK160.out⟩, ⟨by repeat (first | (with_reducible first | exact HI155.out | apply IsS42.alloc | apply IsS42.drewN | apply IsS42.drew | refine IsS42.farB ?_ (by repeat (first | exact TB.of BK160.out (by decide) | exact TB.of BK181.out (by decide) | apply TB.set | apply TB.drewN | apply TB.drew | apply TB.alloc))) | exact HI155.out)⟩, ⟨by repeat (first | (with_reducible first | exact HI157.out | apply IsS45.alloc | apply IsS45.drewN | apply IsS45.drew | refine IsS45.farB ?_ (by repeat (first | exact TB.of BK160.out (by decide) | exact TB.of BK181.out (by decide) | apply TB.set | apply TB.drewN | apply TB.drew | apply TB.alloc))) | exact HI157.out)⟩, ⟨by repeat (first | (with_reducible first | exact HB.out | apply below_alloc | apply pw_below_drewN | apply below_drew1 | refine below_set ?_ (IsS42.ge HI155.out) | refine below_set ?_ (IsS45.ge HI157.out) | refine below_set ?_ GE160.out) | exact HB.out)⟩⟩
            ·rw [if_neg c53] at H
             have c53b0 : (t169 == t171) = false := beq_eq_false_iff_ne.mpr c53
             have c53b1 : (t169 != t171) = true := bne_iff_ne.mpr c53
             obtain rfl := Option.some.inj H
             try go_wp2
             have n0_ : Aside0 (((((((w12.setCell ⟨gb160, 0, none⟩ (.int .i64 ((rd_T28 l0 x5_1).f0))).setCell ⟨gb160, 1, none⟩ (.int .i64 ((rd_T28 l0 x5_1).f1))).setCell ⟨gb160, 2, none⟩ (.int .i64 ((rd_T28 l0 x5_1).f2))).setCell ⟨gb160, 3, none⟩ (.int .i64 ((rd_T28 l0 x5_1).f3))).setCell ⟨gb160, 4, none⟩ (.int .i64 ((rd_T28 l0 x5_1).f4))).setCell ⟨gb160, 5, none⟩ (.int .i64 ((rd_T28 l0 x5_1).f5))).heap[gb160]? = some (.cells #[.int .i64 ((rd_T28 l0 x5_1).f0), .int .i64 ((rd_T28 l0 x5_1).f1), .int .i64 ((rd_T28 l0 x5_1).f2), .int .i64 ((rd_T28 l0 x5_1).f3), .int .i64 ((rd_T28 l0 x5_1).f4), .int .i64 ((rd_T28 l0 x5_1).f5)] 28 (0, 0))) := ⟨by (with_reducible repeat (first | refine blk_drewN ?_ _ | refine blk_drew ?_ | refine blk_alloc ?_ _)); refine blk_put (cs := #[.int .i64 ((rd_T28 l0 x5_1).f0), .int .i64 ((rd_T28 l0 x5_1).f1), .int .i64 ((rd_T28 l0 x5_1).f2), .int .i64 ((rd_T28 l0 x5_1).f3), .int .i64 ((rd_T28 l0 x5_1).f4), .int .i64 0]) ?_ 5 _ rfl; (with_reducible repeat (first | refine blk_drewN ?_ _ | refine blk_drew ?_ | refine blk_alloc ?_ _)); refine blk_put (cs := #[.int .i64 ((rd_T28 l0 x5_1).f0), .int .i64 ((rd_T28 l0 x5_1).f1), .int .i64 ((rd_T28 l0 x5_1).f2), .int .i64 ((rd_T28 l0 x5_1).f3), .int .i64 0, .int .i64 0]) ?_ 4 _ rfl; (with_reducible repeat (first | refine blk_drewN ?_ _ | refine blk_drew ?_ | refine blk_alloc ?_ _)); refine blk_put (cs := #[.int .i64 ((rd_T28 l0 x5_1).f0), .int .i64 ((rd_T28 l0 x5_1).f1), .int .i64 ((rd_T28 l0 x5_1).f2), .int .i64 0, .int .i64 0, .int .i64 0]) ?_ 3 _ rfl; (with_reducible repeat (first | refine blk_drewN ?_ _ | refine blk_drew ?_ | refine blk_alloc ?_ _)); refine blk_put (cs := #[.int .i64 ((rd_T28 l0 x5_1).f0), .int .i64 ((rd_T28 l0 x5_1).f1), .int .i64 0, .int .i64 0, .int .i64 0, .int .i64 0]) ?_ 2 _ rfl; (with_reducible repeat (first | refine blk_drewN ?_ _ | refine blk_drew ?_ | refine blk_alloc ?_ _)); refine blk_put (cs := #[.int .i64 ((rd_T28 l0 x5_1).f0), .int .i64 0, .int .i64 0, .int .i64 0, .int .i64 0, .int .i64 0]) ?_ 1 _ rfl; (with_reducible repeat (first | refine blk_drewN ?_ _ | refine blk_drew ?_ | refine blk_alloc ?_ _)); refine blk_put (cs := #[.int .i64 0, .int .i64 0, .int .i64 0, .int .i64 0, .int .i64 0, .int .i64 0]) ?_ 0 _ rfl; (with_reducible repeat (first | refine blk_drewN ?_ _ | refine blk_drew ?_ | refine blk_alloc ?_ _)); exact BK160.out⟩
             have n1_ : Aside0 (IsS42 w ((((((w12.setCell ⟨gb160, 0, none⟩ (.int .i64 ((rd_T28 l0 x5_1).f0))).setCell ⟨gb160, 1, none⟩ (.int .i64 ((rd_T28 l0 x5_1).f1))).setCell ⟨gb160, 2, none⟩ (.int .i64 ((rd_T28 l0 x5_1).f2))).setCell ⟨gb160, 3, none⟩ (.int .i64 ((rd_T28 l0 x5_1).f3))).setCell ⟨gb160, 4, none⟩ (.int .i64 ((rd_T28 l0 x5_1).f4))).setCell ⟨gb160, 5, none⟩ (.int .i64 ((rd_T28 l0 x5_1).f5))) g155 x156000_1) := ⟨by repeat (first | (with_reducible first | exact HI155.out | apply IsS42.alloc | apply IsS42.drewN | apply IsS42.drew | refine IsS42.farB ?_ (by repeat (first | exact TB.of BK160.out (by decide) | exact TB.of BK181.out (by decide) | apply TB.set | apply TB.drewN | apply TB.drew | apply TB.alloc))) | exact HI155.out)⟩
             have n2_ : Aside0 (IsS45 w ((((((w12.setCell ⟨gb160, 0, none⟩ (.int .i64 ((rd_T28 l0 x5_1).f0))).setCell ⟨gb160, 1, none⟩ (.int .i64 ((rd_T28 l0 x5_1).f1))).setCell ⟨gb160, 2, none⟩ (.int .i64 ((rd_T28 l0 x5_1).f2))).setCell ⟨gb160, 3, none⟩ (.int .i64 ((rd_T28 l0 x5_1).f3))).setCell ⟨gb160, 4, none⟩ (.int .i64 ((rd_T28 l0 x5_1).f4))).setCell ⟨gb160, 5, none⟩ (.int .i64 ((rd_T28 l0 x5_1).f5))) g157 x158000_1) := ⟨by repeat (first | (with_reducible first | exact HI157.out | apply IsS45.alloc | apply IsS45.drewN | apply IsS45.drew | refine IsS45.farB ?_ (by repeat (first | exact TB.of BK160.out (by decide) | exact TB.of BK181.out (by decide) | apply TB.set | apply TB.drewN | apply TB.drew | apply TB.alloc))) | exact HI157.out)⟩
             have n3_ : Aside0 (Below w.heap.size w ((((((w12.setCell ⟨gb160, 0, none⟩ (.int .i64 ((rd_T28 l0 x5_1).f0))).setCell ⟨gb160, 1, none⟩ (.int .i64 ((rd_T28 l0 x5_1).f1))).setCell ⟨gb160, 2, none⟩ (.int .i64 ((rd_T28 l0 x5_1).f2))).setCell ⟨gb160, 3, none⟩ (.int .i64 ((rd_T28 l0 x5_1).f3))).setCell ⟨gb160, 4, none⟩ (.int .i64 ((rd_T28 l0 x5_1).f4))).setCell ⟨gb160, 5, none⟩ (.int .i64 ((rd_T28 l0 x5_1).f5)))) := ⟨by repeat (first | (with_reducible first | exact HB.out | apply below_alloc | apply pw_below_drewN | apply below_drew1 | refine below_set ?_ (IsS42.ge HI155.out) | refine below_set ?_ (IsS45.ge HI157.out) | refine below_set ?_ GE160.out) | exact HB.out)⟩
             (try clear BK160)
             (try clear HI155)
             (try clear HI157)
             (try clear HB)
             generalize ((((((w12.setCell ⟨gb160, 0, none⟩ (.int .i64 ((rd_T28 l0 x5_1).f0))).setCell ⟨gb160, 1, none⟩ (.int .i64 ((rd_T28 l0 x5_1).f1))).setCell ⟨gb160, 2, none⟩ (.int .i64 ((rd_T28 l0 x5_1).f2))).setCell ⟨gb160, 3, none⟩ (.int .i64 ((rd_T28 l0 x5_1).f3))).setCell ⟨gb160, 4, none⟩ (.int .i64 ((rd_T28 l0 x5_1).f4))).setCell ⟨gb160, 5, none⟩ (.int .i64 ((rd_T28 l0 x5_1).f5))) = w58 at n0_ n1_ n2_ n3_ ⊢
             have BK160 := n0_
             have HI155 := n1_
             have HI157 := n2_
             have HB := n3_
             clear n0_ n1_ n2_ n3_
             have n0_ := Aside0.mk (blk_drew BK160.out)
             have n1_ := Aside0.mk (IsS42.drew HI155.out)
             have n2_ := Aside0.mk (IsS45.drew HI157.out)
             have n3_ := Aside0.mk (below_drew1 HB.out)
             clear BK160
             clear HI155
             clear HI157
             clear HB
             have BK160 := n0_
             have HI155 := n1_
             have HI157 := n2_
             have HB := n3_
             clear n0_ n1_ n2_ n3_
             refine start_ (n := 21) (S := fun w' => w'.cell? ⟨gb160, 0, none⟩ = some (.int .i64 ((rd_T28 l0 x5_1).f0)) ∧ w'.cell? ⟨gb160, 1, none⟩ = some (.int .i64 ((rd_T28 l0 x5_1).f1)) ∧ w'.cell? ⟨gb160, 2, none⟩ = some (.int .i64 ((rd_T28 l0 x5_1).f2)) ∧ w'.cell? ⟨gb160, 3, none⟩ = some (.int .i64 ((rd_T28 l0 x5_1).f3)) ∧ w'.cell? ⟨gb160, 4, none⟩ = some (.int .i64 ((rd_T28 l0 x5_1).f4)) ∧ w'.cell? ⟨gb160, 5, none⟩ = some (.int .i64 ((rd_T28 l0 x5_1).f5))) (ds := []) #[false, false, false, false, false, false, false, false, false, false, false, false, false, false, false, false, false, false, false, false, false] (by kernel_rfl) rfl rfl ⟨(blk_cell BK160.out 0).trans rfl, (blk_cell BK160.out 1).trans rfl, (blk_cell BK160.out 2).trans rfl, (blk_cell BK160.out 3).trans rfl, (blk_cell BK160.out 4).trans rfl, (blk_cell BK160.out 5).trans rfl⟩ (fun hHeld => ?_); refine with_tabW flywheellaw26_ProbePlays.tab16 flywheellaw26_ProbePlays.bits16 (fun HT_ HW_ => ?_)
             generalize w58.drew = w59 at BK160 HI155 HI157 HB hHeld ⊢
             refine pure_ (i := 0) (N := some 63) (v := ?_) (a' := ?_) #[true, false, false, false, false, false, false, false, false, false, false, false, false, false, false, false, false, false, false, false, false] rfl rfl (any_of HT_.out (by kernel_rfl)) (fun _ _ _ h => h) (Or.inl ⟨by rfl, ?_⟩) ?_ ?_
             rotate_left
             ·intro w'
              go_simp
              with_reducible rfl
             rotate_left
             ·simp only [Act.put, List.setIfInBounds_toArray, List.set_cons_zero, List.set_cons_succ, i64_w, i32_w]
              rfl
             refine pure_ (i := 1) (N := some 64) (v := ?_) (a' := ?_) #[true, true, false, false, false, false, false, false, false, false, false, false, false, false, false, false, false, false, false, false, false] rfl rfl (any_of HT_.out (by kernel_rfl)) (fun _ _ _ h => h) (Or.inl ⟨by rfl, ?_⟩) ?_ ?_
             rotate_left
             ·intro w'
              go_simp
              with_reducible rfl
             rotate_left
             ·simp only [Act.put, List.setIfInBounds_toArray, List.set_cons_zero, List.set_cons_succ, i64_w, i32_w]
              rfl
             refine pure_ (i := 3) (N := some 66) (v := ?_) (a' := ?_) #[true, true, false, true, false, false, false, false, false, false, false, false, false, false, false, false, false, false, false, false, false] rfl rfl (any_of HT_.out (by kernel_rfl)) (fun _ _ _ h => h) (Or.inl ⟨by rfl, ?_⟩) ?_ ?_
             rotate_left
             ·intro w'
              go_simp
              with_reducible rfl
             rotate_left
             ·simp only [Act.put, List.setIfInBounds_toArray, List.set_cons_zero, List.set_cons_succ, i64_w, i32_w]
              rfl
             refine pure_ (i := 5) (N := some 68) (v := ?_) (a' := ?_) #[true, true, false, true, false, true, false, false, false, false, false, false, false, false, false, false, false, false, false, false, false] rfl rfl (any_of HT_.out (by kernel_rfl)) (fun _ _ _ h => h) (Or.inl ⟨by rfl, ?_⟩) ?_ ?_
             rotate_left
             ·intro w'
              go_simp
              with_reducible rfl
             rotate_left
             ·simp only [Act.put, List.setIfInBounds_toArray, List.set_cons_zero, List.set_cons_succ, i64_w, i32_w]
              rfl
             refine pure_ (i := 7) (N := some 70) (v := ?_) (a' := ?_) #[true, true, false, true, false, true, false, true, false, false, false, false, false, false, false, false, false, false, false, false, false] rfl rfl (any_of HT_.out (by kernel_rfl)) (fun _ _ _ h => h) (Or.inl ⟨by rfl, ?_⟩) ?_ ?_
             rotate_left
             ·intro w'
              go_simp
              with_reducible rfl
             rotate_left
             ·simp only [Act.put, List.setIfInBounds_toArray, List.set_cons_zero, List.set_cons_succ, i64_w, i32_w]
              rfl
             refine pure_ (i := 10) (N := some 73) (v := ?_) (a' := ?_) #[true, true, false, true, false, true, false, true, false, false, true, false, false, false, false, false, false, false, false, false, false] rfl rfl (any_of HT_.out (by kernel_rfl)) (fun _ _ _ h => h) (Or.inl ⟨by rfl, ?_⟩) ?_ ?_
             rotate_left
             ·intro w'
              go_simp
              with_reducible rfl
             rotate_left
             ·simp only [Act.put, List.setIfInBounds_toArray, List.set_cons_zero, List.set_cons_succ, i64_w, i32_w]
              rfl
             refine pure_ (i := 11) (N := some 74) (v := ?_) (a' := ?_) #[true, true, false, true, false, true, false, true, false, false, true, true, false, false, false, false, false, false, false, false, false] rfl rfl (any_of HT_.out (by kernel_rfl)) (fun _ _ _ h => h) (Or.inl ⟨by rfl, ?_⟩) ?_ ?_
             rotate_left
             ·intro w'
              go_simp
              with_reducible rfl
             rotate_left
             ·simp only [Act.put, List.setIfInBounds_toArray, List.set_cons_zero, List.set_cons_succ, i64_w, i32_w]
              rfl
             refine pure_ (i := 13) (N := some 76) (v := ?_) (a' := ?_) #[true, true, false, true, false, true, false, true, false, false, true, true, false, true, false, false, false, false, false, false, false] rfl rfl (any_of HT_.out (by kernel_rfl)) (fun _ _ _ h => h) (Or.inl ⟨by rfl, ?_⟩) ?_ ?_
             rotate_left
             ·intro w'
              go_simp
              with_reducible rfl
             rotate_left
             ·simp only [Act.put, List.setIfInBounds_toArray, List.set_cons_zero, List.set_cons_succ, i64_w, i32_w]
              rfl
             refine pure_ (i := 15) (N := some 78) (v := ?_) (a' := ?_) #[true, true, false, true, false, true, false, true, false, false, true, true, false, true, false, true, false, false, false, false, false] rfl rfl (any_of HT_.out (by kernel_rfl)) (fun _ _ _ h => h) (Or.inl ⟨by rfl, ?_⟩) ?_ ?_
             rotate_left
             ·intro w'
              go_simp
              with_reducible rfl
             rotate_left
             ·simp only [Act.put, List.setIfInBounds_toArray, List.set_cons_zero, List.set_cons_succ, i64_w, i32_w]
              rfl
             refine pure_ (i := 17) (N := some 80) (v := ?_) (a' := ?_) #[true, true, false, true, false, true, false, true, false, false, true, true, false, true, false, true, false, true, false, false, false] rfl rfl (any_of HT_.out (by kernel_rfl)) (fun _ _ _ h => h) (Or.inl ⟨by rfl, ?_⟩) ?_ ?_
             rotate_left
             ·intro w'
              go_simp
              with_reducible rfl
             rotate_left
             ·simp only [Act.put, List.setIfInBounds_toArray, List.set_cons_zero, List.set_cons_succ, i64_w, i32_w]
              rfl
             refine take_ (i := 2) (N := some 65) (v := ?_) (a' := ?_) #[true, true, true, true, false, true, false, true, false, false, true, true, false, true, false, true, false, true, false, false, false] rfl rfl (take_ofW HT_.out HW_.out (by kernel_rfl)) (fun _ _ _ h => h) (Or.inl ⟨by rfl, ?_⟩) hHeld ?_ ?_
             rotate_left
             ·rintro w' ⟨s0, s1, s2, s3, s4, s5⟩
              go_simp
              with_reducible rfl
             rotate_left
             ·simp only [Act.put, List.setIfInBounds_toArray, List.set_cons_zero, List.set_cons_succ, i64_w, i32_w]
              rfl
             refine take_ (i := 4) (N := some 67) (v := ?_) (a' := ?_) #[true, true, true, true, true, true, false, true, false, false, true, true, false, true, false, true, false, true, false, false, false] rfl rfl (take_ofW HT_.out HW_.out (by kernel_rfl)) (fun _ _ _ h => h) (Or.inl ⟨by rfl, ?_⟩) hHeld ?_ ?_
             rotate_left
             ·rintro w' ⟨s0, s1, s2, s3, s4, s5⟩
              go_simp
              with_reducible rfl
             rotate_left
             ·simp only [Act.put, List.setIfInBounds_toArray, List.set_cons_zero, List.set_cons_succ, i64_w, i32_w]
              rfl
             refine take_ (i := 6) (N := some 69) (v := ?_) (a' := ?_) #[true, true, true, true, true, true, true, true, false, false, true, true, false, true, false, true, false, true, false, false, false] rfl rfl (take_ofW HT_.out HW_.out (by kernel_rfl)) (fun _ _ _ h => h) (Or.inl ⟨by rfl, ?_⟩) hHeld ?_ ?_
             rotate_left
             ·rintro w' ⟨s0, s1, s2, s3, s4, s5⟩
              go_simp
              with_reducible rfl
             rotate_left
             ·simp only [Act.put, List.setIfInBounds_toArray, List.set_cons_zero, List.set_cons_succ, i64_w, i32_w]
              rfl
             refine take_ (i := 8) (N := some 71) (v := ?_) (a' := ?_) #[true, true, true, true, true, true, true, true, true, false, true, true, false, true, false, true, false, true, false, false, false] rfl rfl (take_ofW HT_.out HW_.out (by kernel_rfl)) (fun _ _ _ h => h) (Or.inl ⟨by rfl, ?_⟩) hHeld ?_ ?_
             rotate_left
             ·rintro w' ⟨s0, s1, s2, s3, s4, s5⟩
              go_simp
              with_reducible rfl
             rotate_left
             ·simp only [Act.put, List.setIfInBounds_toArray, List.set_cons_zero, List.set_cons_succ, i64_w, i32_w]
              rfl
             refine take_ (i := 12) (N := some 75) (v := ?_) (a' := ?_) #[true, true, true, true, true, true, true, true, true, false, true, true, true, true, false, true, false, true, false, false, false] rfl rfl (take_ofW HT_.out HW_.out (by kernel_rfl)) (fun _ _ _ h => h) (Or.inl ⟨by rfl, ?_⟩) hHeld ?_ ?_
             rotate_left
             ·rintro w' ⟨s0, s1, s2, s3, s4, s5⟩
              go_simp
              with_reducible rfl
             rotate_left
             ·simp only [Act.put, List.setIfInBounds_toArray, List.set_cons_zero, List.set_cons_succ, i64_w, i32_w]
              rfl
             refine take_ (i := 14) (N := some 77) (v := ?_) (a' := ?_) #[true, true, true, true, true, true, true, true, true, false, true, true, true, true, true, true, false, true, false, false, false] rfl rfl (take_ofW HT_.out HW_.out (by kernel_rfl)) (fun _ _ _ h => h) (Or.inl ⟨by rfl, ?_⟩) hHeld ?_ ?_
             rotate_left
             ·rintro w' ⟨s0, s1, s2, s3, s4, s5⟩
              go_simp
              with_reducible rfl
             rotate_left
             ·simp only [Act.put, List.setIfInBounds_toArray, List.set_cons_zero, List.set_cons_succ, i64_w, i32_w]
              rfl
             refine take_ (i := 16) (N := some 79) (v := ?_) (a' := ?_) #[true, true, true, true, true, true, true, true, true, false, true, true, true, true, true, true, true, true, false, false, false] rfl rfl (take_ofW HT_.out HW_.out (by kernel_rfl)) (fun _ _ _ h => h) (Or.inl ⟨by rfl, ?_⟩) hHeld ?_ ?_
             rotate_left
             ·rintro w' ⟨s0, s1, s2, s3, s4, s5⟩
              go_simp
              with_reducible rfl
             rotate_left
             ·simp only [Act.put, List.setIfInBounds_toArray, List.set_cons_zero, List.set_cons_succ, i64_w, i32_w]
              rfl
             refine take_ (i := 18) (N := some 81) (v := ?_) (a' := ?_) #[true, true, true, true, true, true, true, true, true, false, true, true, true, true, true, true, true, true, true, false, false] rfl rfl (take_ofW HT_.out HW_.out (by kernel_rfl)) (fun _ _ _ h => h) (Or.inl ⟨by rfl, ?_⟩) hHeld ?_ ?_
             rotate_left
             ·rintro w' ⟨s0, s1, s2, s3, s4, s5⟩
              go_simp
              with_reducible rfl
             rotate_left
             ·simp only [Act.put, List.setIfInBounds_toArray, List.set_cons_zero, List.set_cons_succ, i64_w, i32_w]
              rfl
             refine one_ (i := 9) (N := some 72) #[true, true, true, true, true, true, true, true, true, true, true, true, true, true, true, true, true, true, true, false, false] rfl rfl (one_of HT_.out (by kernel_rfl)) (by decide) (fun K hK => ?_)
             refine goes_ Try.func10 (by kernel_rfl) rfl #[.pointer (some ⟨g155, 0, none⟩), .int .i64 ((rd_T28 l0 x5_1).f1), .int .i64 ((rd_T28 l0 x5_1).f2), .int .i64 ((rd_T28 l0 x5_1).f4), .int .i64 ((rd_T28 l0 x5_1).f5)] (by rfl) rfl rfl (by (try simp only [List.map_toArray, List.map_cons, List.map_nil]); first | done | rfl | (simp only [List.length_drop, List.length_take]; rfl)) ?_
             with_reducible refine (probe_Probe_Got.calls kj5 g155 x156000_1 ((rd_T28 l0 x5_1).f1) ((rd_T28 l0 x5_1).f2) ((rd_T28 l0 x5_1).f4) ((rd_T28 l0 x5_1).f5) t169 t170 w _ ?side1 ?side2 A51.out).mono ?_
             (case side1 => repeat (first | (with_reducible first | exact HI155.out | apply IsS42.alloc | apply IsS42.drewN | apply IsS42.drew | refine IsS42.farB ?_ (by repeat (first | exact TB.of BK160.out (by decide) | exact TB.of BK181.out (by decide) | apply TB.set | apply TB.drewN | apply TB.drew | apply TB.alloc))) | exact HI155.out))
             (case side2 => repeat (first | (with_reducible first | exact HB.out | apply below_alloc | apply pw_below_drewN | apply below_drew1 | refine below_set ?_ (IsS42.ge HI155.out) | refine below_set ?_ (IsS45.ge HI157.out) | refine below_set ?_ GE160.out) | exact HB.out))
             rintro e w60 ⟨rfl, hi, hb, hk⟩
             refine ⟨_, rfl, ?_⟩
             have n0_ := Aside0.mk (IsS45.keepM HI157.out (fun h_ => by repeat (first | (with_reducible first | exact h_ | apply IsS45.alloc | apply IsS45.drewN | apply IsS45.drew | refine IsS45.farB ?_ (by repeat (first | exact TB.of BK160.out (by decide) | exact TB.of BK181.out (by decide) | apply TB.set | apply TB.drewN | apply TB.drew | apply TB.alloc))) | exact HI157.out)) hk NB157_155.out)
             have n1_ := Aside0.mk (hk.kblk (g' := gb160) (cs := #[.int .i64 ((rd_T28 l0 x5_1).f0), .int .i64 ((rd_T28 l0 x5_1).f1), .int .i64 ((rd_T28 l0 x5_1).f2), .int .i64 ((rd_T28 l0 x5_1).f3), .int .i64 ((rd_T28 l0 x5_1).f4), .int .i64 ((rd_T28 l0 x5_1).f5)]) (t := 28) (by (with_reducible repeat (first | refine blk_drewN ?_ _ | refine blk_drew ?_ | refine blk_alloc ?_ _)); exact BK160.out) NB160_155.out (by simp))
             have n2_ := Aside0.mk (hb)
             have n3_ := Aside0.mk (hi)
             clear HI157
             clear BK160
             clear HB
             clear HI155
             have HI157 := n0_
             have BK160 := n1_
             have HB := n2_
             have HI155 := n3_
             clear n0_ n1_ n2_ n3_
             (try clear hb)
             (try clear hb2)
             (try clear hk)
             (try clear hi)
             refine hK.out _ _ ⟨(blk_cell BK160.out 0).trans rfl, (blk_cell BK160.out 1).trans rfl, (blk_cell BK160.out 2).trans rfl, (blk_cell BK160.out 3).trans rfl, (blk_cell BK160.out 4).trans rfl, (blk_cell BK160.out 5).trans rfl⟩ (fun hHeld => ?_)
             clear hK K
             refine norm_ (a' := ?_) ?_ ?_
             rotate_left
             ·show Act.put _ (some 72) _ = _
              simp only [Act.put, List.setIfInBounds_toArray, List.set_cons_zero, List.set_cons_succ, i64_w, i32_w]
              rfl
             refine one_ (i := 19) (N := some 82) #[true, true, true, true, true, true, true, true, true, true, true, true, true, true, true, true, true, true, true, true, false] rfl rfl (one_of HT_.out (by kernel_rfl)) (by decide) (fun K hK => ?_)
             refine goes_ Try.func11 (by kernel_rfl) rfl #[.pointer (some ⟨g157, 0, none⟩), .int .i64 ((rd_T28 l0 x5_1).f1), .int .i64 ((rd_T28 l0 x5_1).f2), .int .i64 ((rd_T28 l0 x5_1).f4), .int .i64 ((rd_T28 l0 x5_1).f5)] (by rfl) rfl rfl (by (try simp only [List.map_toArray, List.map_cons, List.map_nil]); first | done | rfl | (simp only [List.length_drop, List.length_take]; rfl)) ?_
             with_reducible refine (flywheelref26_Probe_Got.calls g157 x158000_1 ((rd_T28 l0 x5_1).f1) ((rd_T28 l0 x5_1).f2) ((rd_T28 l0 x5_1).f4) ((rd_T28 l0 x5_1).f5) t171 t172 w _ ?side1 ?side2 A52.out).mono ?_
             (case side1 => repeat (first | (with_reducible first | exact HI157.out | apply IsS45.alloc | apply IsS45.drewN | apply IsS45.drew | refine IsS45.farB ?_ (by repeat (first | exact TB.of BK160.out (by decide) | exact TB.of BK181.out (by decide) | apply TB.set | apply TB.drewN | apply TB.drew | apply TB.alloc))) | exact HI157.out))
             (case side2 => repeat (first | (with_reducible first | exact HB.out | apply below_alloc | apply pw_below_drewN | apply below_drew1 | refine below_set ?_ (IsS42.ge HI155.out) | refine below_set ?_ (IsS45.ge HI157.out) | refine below_set ?_ GE160.out) | exact HB.out))
             rintro e w61 ⟨rfl, hi, hb, hk⟩
             refine ⟨_, rfl, ?_⟩
             have n0_ := Aside0.mk (IsS42.keepM HI155.out (fun h_ => by repeat (first | (with_reducible first | exact h_ | apply IsS42.alloc | apply IsS42.drewN | apply IsS42.drew | refine IsS42.farB ?_ (by repeat (first | exact TB.of BK160.out (by decide) | exact TB.of BK181.out (by decide) | apply TB.set | apply TB.drewN | apply TB.drew | apply TB.alloc))) | exact HI155.out)) hk NB155_157.out)
             have n1_ := Aside0.mk (hk.kblk (g' := gb160) (cs := #[.int .i64 ((rd_T28 l0 x5_1).f0), .int .i64 ((rd_T28 l0 x5_1).f1), .int .i64 ((rd_T28 l0 x5_1).f2), .int .i64 ((rd_T28 l0 x5_1).f3), .int .i64 ((rd_T28 l0 x5_1).f4), .int .i64 ((rd_T28 l0 x5_1).f5)]) (t := 28) (by (with_reducible repeat (first | refine blk_drewN ?_ _ | refine blk_drew ?_ | refine blk_alloc ?_ _)); exact BK160.out) NB160_157.out (by simp))
             have n2_ := Aside0.mk (hb)
             have n3_ := Aside0.mk (hi)
             clear HI155
             clear BK160
             clear HB
             clear HI157
             have HI155 := n0_
             have BK160 := n1_
             have HB := n2_
             have HI157 := n3_
             clear n0_ n1_ n2_ n3_
             (try clear hb)
             (try clear hb2)
             (try clear hk)
             (try clear hi)
             refine hK.out _ _ ⟨(blk_cell BK160.out 0).trans rfl, (blk_cell BK160.out 1).trans rfl, (blk_cell BK160.out 2).trans rfl, (blk_cell BK160.out 3).trans rfl, (blk_cell BK160.out 4).trans rfl, (blk_cell BK160.out 5).trans rfl⟩ (fun hHeld => ?_)
             clear hK K
             refine norm_ (a' := ?_) ?_ ?_
             rotate_left
             ·show Act.put _ (some 82) _ = _
              simp only [Act.put, List.setIfInBounds_toArray, List.set_cons_zero, List.set_cons_succ, i64_w, i32_w]
              rfl
             refine pure_ (i := 20) (N := some 83) (v := ?_) (a' := ?_) #[true, true, true, true, true, true, true, true, true, true, true, true, true, true, true, true, true, true, true, true, true] rfl rfl (any_of HT_.out (by kernel_rfl)) (fun _ _ _ h => h) (Or.inl ⟨by rfl, ?_⟩) ?_ ?_
             rotate_left
             ·intro w'
              go_simp
              with_reducible rfl
             rotate_left
             ·simp only [Act.put, List.setIfInBounds_toArray, List.set_cons_zero, List.set_cons_succ, i64_w, i32_w]
              rfl
             refine done_ (done_of HT_.out (by kernel_rfl)) ?_
             try go_wp2
             go_ret
             exact ⟨by first | rfl | (simp [errW_none, errW_some] <;> rfl) | (simp [*, errW_none, errW_some] <;> rfl), by repeat (first | (with_reducible first | exact HB.out | apply below_alloc | apply pw_below_drewN | apply below_drew1 | refine below_set ?_ (IsS42.ge HI155.out) | refine below_set ?_ (IsS45.ge HI157.out) | refine below_set ?_ GE160.out) | exact HB.out)⟩
           ·rw [if_neg c50] at H
            have c50b0 : (((rd_T28 l0 x5_1).f0) == 2) = false := beq_eq_false_iff_ne.mpr c50
            have c50b1 : (((rd_T28 l0 x5_1).f0) != 2) = true := bne_iff_ne.mpr c50
            have H' := Aside0.mk H
            clear H
            go_wp2
            go_meet
            case rel => exact ⟨_, (x156000_1), (x158000_1), H', ⟨by have := HK1.out; have := HJ5.out; first | omega | exact Nat.le_refl _⟩, ⟨by (with_reducible repeat (first | refine blk_drewN ?_ _ | refine blk_drew ?_ | refine blk_alloc ?_ _)); refine blk_put (cs := #[.int .i64 ((rd_T28 l0 x5_1).f0), .int .i64 ((rd_T28 l0 x5_1).f1), .int .i64 ((rd_T28 l0 x5_1).f2), .int .i64 ((rd_T28 l0 x5_1).f3), .int .i64 ((rd_T28 l0 x5_1).f4), .int .i64 0]) ?_ 5 _ rfl; (with_reducible repeat (first | refine blk_drewN ?_ _ | refine blk_drew ?_ | refine blk_alloc ?_ _)); refine blk_put (cs := #[.int .i64 ((rd_T28 l0 x5_1).f0), .int .i64 ((rd_T28 l0 x5_1).f1), .int .i64 ((rd_T28 l0 x5_1).f2), .int .i64 ((rd_T28 l0 x5_1).f3), .int .i64 0, .int .i64 0]) ?_ 4 _ rfl; (with_reducible repeat (first | refine blk_drewN ?_ _ | refine blk_drew ?_ | refine blk_alloc ?_ _)); refine blk_put (cs := #[.int .i64 ((rd_T28 l0 x5_1).f0), .int .i64 ((rd_T28 l0 x5_1).f1), .int .i64 ((rd_T28 l0 x5_1).f2), .int .i64 0, .int .i64 0, .int .i64 0]) ?_ 3 _ rfl; (with_reducible repeat (first | refine blk_drewN ?_ _ | refine blk_drew ?_ | refine blk_alloc ?_ _)); refine blk_put (cs := #[.int .i64 ((rd_T28 l0 x5_1).f0), .int .i64 ((rd_T28 l0 x5_1).f1), .int .i64 0, .int .i64 0, .int .i64 0, .int .i64 0]) ?_ 2 _ rfl; (with_reducible repeat (first | refine blk_drewN ?_ _ | refine blk_drew ?_ | refine blk_alloc ?_ _)); refine blk_put (cs := #[.int .i64 ((rd_T28 l0 x5_1).f0), .int .i64 0, .int .i64 0, .int .i64 0, .int .i64 0, .int .i64 0]) ?_ 1 _ rfl; (with_reducible repeat (first | refine blk_drewN ?_ _ | refine blk_drew ?_ | refine blk_alloc ?_ _)); refine blk_put (cs := #[.int .i64 0, .int .i64 0, .int .i64 0, .int .i64 0, .int .i64 0, .int .i64 0]) ?_ 0 _ rfl; (with_reducible repeat (first | refine blk_drewN ?_ _ | refine blk_drew ?_ | refine blk_alloc ?_ _)); exact BK160.out⟩, ⟨by repeat (first | (with_reducible first | exact HI155.out | apply IsS42.alloc | apply IsS42.drewN | apply IsS42.drew | refine IsS42.farB ?_ (by repeat (first | exact TB.of BK160.out (by decide) | exact TB.of BK181.out (by decide) | apply TB.set | apply TB.drewN | apply TB.drew | apply TB.alloc))) | exact HI155.out)⟩, ⟨by repeat (first | (with_reducible first | exact HI157.out | apply IsS45.alloc | apply IsS45.drewN | apply IsS45.drew | refine IsS45.farB ?_ (by repeat (first | exact TB.of BK160.out (by decide) | exact TB.of BK181.out (by decide) | apply TB.set | apply TB.drewN | apply TB.drew | apply TB.alloc))) | exact HI157.out)⟩, ⟨by repeat (first | (with_reducible first | exact HB.out | apply below_alloc | apply pw_below_drewN | apply below_drew1 | refine below_set ?_ (IsS42.ge HI155.out) | refine below_set ?_ (IsS45.ge HI157.out) | refine below_set ?_ GE160.out) | exact HB.out)⟩⟩
        case rest =>
         clear HC11
         try clear c1
         try clear c2
         try clear p2
         try clear c5
         try clear c9
         try clear c10
         try clear c11
         try clear c28
         try clear c28b0
         try clear c28b1
         try clear c50
         try clear c50b0
         try clear c50b1
         try clear c53
         try clear c53b0
         try clear c53b1
         obtain ⟨kq, x156000_10, x158000_10, HA, HJ10, BK160, HI155, HI157, HB⟩ := hcut
         cases kq with
         | zero => exact absurd HA.out (by simp [flywheellaw26_ProbePlays.j2])
         | succ kj10 =>
          have H := HA.out
          clear HA
          simp only [flywheellaw26_ProbePlays.j2] at H
          replace H := Option.bind_eq_some_iff.mp H
          obtain ⟨⟨t173, t174, t175, t176⟩, A620, H⟩ := H
          replace H : ((flywheelref26_Probe_Open.f x158000_10).bind fun bt177 => (if t173 = bt177.1 then (if t174 = bt177.2.1 then (if t175 = bt177.2.2.1 then ((probe_Probe_Best.f t176).bind fun bt182 => ((flywheelref26_Probe_Best.f bt177.2.2.2).bind fun bt184 => (if bt182.1 = bt184.1 then (flywheellaw26_ProbePlays.l0 kj10 l0 (wrap64 (x5_1 + 1)) bt182.2 bt184.2) else (some false)))) else (some false)) else (some false)) else (some false))) = some r := H
          have A62 := Aside0.mk A620
          clear A620
          replace H := Option.bind_eq_some_iff.mp H
          obtain ⟨⟨t177, t178, t179, t180⟩, A630, H⟩ := H
          replace H : (if t173 = t177 then (if t174 = t178 then (if t175 = t179 then ((probe_Probe_Best.f t176).bind fun bt182 => ((flywheelref26_Probe_Best.f t180).bind fun bt184 => (if bt182.1 = bt184.1 then (flywheellaw26_ProbePlays.l0 kj10 l0 (wrap64 (x5_1 + 1)) bt182.2 bt184.2) else (some false)))) else (some false)) else (some false)) else (some false)) = some r := H
          have A63 := Aside0.mk A630
          clear A630
          by_cases c64 : t173 = t177
          ·rw [if_pos c64] at H
           have c64b0 : (t173 == t177) = true := beq_iff_eq.mpr c64
           have c64b1 : (t173 != t177) = false := bne_eq_false_iff_eq.mpr c64
           clear c64
           by_cases c65 : t174 = t178
           ·rw [if_pos c65] at H
            have c65b0 : (t174 == t178) = true := beq_iff_eq.mpr c65
            have c65b1 : (t174 != t178) = false := bne_eq_false_iff_eq.mpr c65
            clear c65
            by_cases c66 : t175 = t179
            ·rw [if_pos c66] at H
             have c66b0 : (t175 == t179) = true := beq_iff_eq.mpr c66
             have c66b1 : (t175 != t179) = false := bne_eq_false_iff_eq.mpr c66
             clear c66
             replace H := Option.bind_eq_some_iff.mp H
             obtain ⟨⟨t182, t183⟩, A670, H⟩ := H
             replace H : ((flywheelref26_Probe_Best.f t180).bind fun bt184 => (if t182 = bt184.1 then (flywheellaw26_ProbePlays.l0 kj10 l0 (wrap64 (x5_1 + 1)) t183 bt184.2) else (some false))) = some r := H
             have A67 := Aside0.mk A670
             clear A670
             replace H := Option.bind_eq_some_iff.mp H
             obtain ⟨⟨t184, t185⟩, A680, H⟩ := H
             replace H : (if t182 = t184 then (flywheellaw26_ProbePlays.l0 kj10 l0 (wrap64 (x5_1 + 1)) t183 t185) else (some false)) = some r := H
             have A68 := Aside0.mk A680
             clear A680
             by_cases c69 : t182 = t184
             ·rw [if_pos c69] at H
              have c69b0 : (t182 == t184) = true := beq_iff_eq.mpr c69
              have c69b1 : (t182 != t184) = false := bne_eq_false_iff_eq.mpr c69
              clear c69
              have H' := Aside0.mk H
              clear H
              go_wp2_with (first | ((with_reducible refine gate_callee (f := 12) rfl ?_); refine goesL_ (some 86) rfl rfl Try.func12 (by kernel_rfl) rfl #[.pointer (some ⟨g155, 0, none⟩)] rfl (by (try simp only [List.map_toArray, List.map_cons, List.map_nil]); first | done | rfl | (simp only [List.length_drop, List.length_take]; rfl)) ?_; (with_reducible refine (probe_Probe_Open.calls g155 x156000_10 t173 t174 t175 t176 w _ ?side1 ?side2 A62.out).mono ?_); (case side1 => repeat (first | (with_reducible first | exact HI155.out | apply IsS42.alloc | apply IsS42.drewN | apply IsS42.drew | refine IsS42.farB ?_ (by repeat (first | exact TB.of BK160.out (by decide) | exact TB.of BK181.out (by decide) | apply TB.set | apply TB.drewN | apply TB.drew | apply TB.alloc))) | exact HI155.out)); (case side2 => repeat (first | (with_reducible first | exact HB.out | apply below_alloc | apply pw_below_drewN | apply below_drew1 | refine below_set ?_ (IsS42.ge HI155.out) | refine below_set ?_ (IsS45.ge HI157.out) | refine below_set ?_ GE160.out) | exact HB.out)); rintro e w70 ⟨rfl, hi, hb, hk⟩; refine ⟨_, rfl, ?_⟩; have n0_ := Aside0.mk (hk.kblk (g' := gb160) (cs := #[.int .i64 ((rd_T28 l0 x5_1).f0), .int .i64 ((rd_T28 l0 x5_1).f1), .int .i64 ((rd_T28 l0 x5_1).f2), .int .i64 ((rd_T28 l0 x5_1).f3), .int .i64 ((rd_T28 l0 x5_1).f4), .int .i64 ((rd_T28 l0 x5_1).f5)]) (t := 28) (by (with_reducible repeat (first | refine blk_drewN ?_ _ | refine blk_drew ?_ | refine blk_alloc ?_ _)); exact BK160.out) NB160_155.out (by simp)); have n1_ := Aside0.mk (IsS45.keepM HI157.out (fun h_ => by repeat (first | (with_reducible first | exact h_ | apply IsS45.alloc | apply IsS45.drewN | apply IsS45.drew | refine IsS45.farB ?_ (by repeat (first | exact TB.of BK160.out (by decide) | exact TB.of BK181.out (by decide) | apply TB.set | apply TB.drewN | apply TB.drew | apply TB.alloc))) | exact HI157.out)) hk NB157_155.out); have n2_ := Aside0.mk (hb); have n3_ := Aside0.mk (hi); clear BK160; clear HI157; clear HB; clear HI155; have BK160 := n0_; have HI157 := n1_; have HB := n2_; have HI155 := n3_; clear n0_ n1_ n2_ n3_; (try clear hb); (try clear hb2); (try clear hk); (try clear hi)) | ((with_reducible refine gate_callee (f := 13) rfl ?_); refine goesL_ (some 91) rfl rfl Try.func13 (by kernel_rfl) rfl #[.pointer (some ⟨g157, 0, none⟩)] rfl (by (try simp only [List.map_toArray, List.map_cons, List.map_nil]); first | done | rfl | (simp only [List.length_drop, List.length_take]; rfl)) ?_; (with_reducible refine (flywheelref26_Probe_Open.calls g157 x158000_10 t177 t178 t179 t180 w _ ?side1 ?side2 A63.out).mono ?_); (case side1 => repeat (first | (with_reducible first | exact HI157.out | apply IsS45.alloc | apply IsS45.drewN | apply IsS45.drew | refine IsS45.farB ?_ (by repeat (first | exact TB.of BK160.out (by decide) | exact TB.of BK181.out (by decide) | apply TB.set | apply TB.drewN | apply TB.drew | apply TB.alloc))) | exact HI157.out)); (case side2 => repeat (first | (with_reducible first | exact HB.out | apply below_alloc | apply pw_below_drewN | apply below_drew1 | refine below_set ?_ (IsS42.ge HI155.out) | refine below_set ?_ (IsS45.ge HI157.out) | refine below_set ?_ GE160.out) | exact HB.out)); rintro e w71 ⟨rfl, hi, hb, hk⟩; refine ⟨_, rfl, ?_⟩; have n0_ := Aside0.mk (hk.kblk (g' := gb160) (cs := #[.int .i64 ((rd_T28 l0 x5_1).f0), .int .i64 ((rd_T28 l0 x5_1).f1), .int .i64 ((rd_T28 l0 x5_1).f2), .int .i64 ((rd_T28 l0 x5_1).f3), .int .i64 ((rd_T28 l0 x5_1).f4), .int .i64 ((rd_T28 l0 x5_1).f5)]) (t := 28) (by (with_reducible repeat (first | refine blk_drewN ?_ _ | refine blk_drew ?_ | refine blk_alloc ?_ _)); exact BK160.out) NB160_157.out (by simp)); have n1_ := Aside0.mk (IsS42.keepM HI155.out (fun h_ => by repeat (first | (with_reducible first | exact h_ | apply IsS42.alloc | apply IsS42.drewN | apply IsS42.drew | refine IsS42.farB ?_ (by repeat (first | exact TB.of BK160.out (by decide) | exact TB.of BK181.out (by decide) | apply TB.set | apply TB.drewN | apply TB.drew | apply TB.alloc))) | exact HI155.out)) hk NB155_157.out); have n2_ := Aside0.mk (hb); have n3_ := Aside0.mk (hi); clear BK160; clear HI155; clear HB; clear HI157; have BK160 := n0_; have HI155 := n1_; have HB := n2_; have HI157 := n3_; clear n0_ n1_ n2_ n3_; (try clear hb); (try clear hb2); (try clear hk); (try clear hi)) | ((with_reducible refine gate_dst (N := 10) rfl ?_); refine box_event ?hg (N := 10) ?hd (cs := #[.int .i64 0, .int .i64 0, .int .i64 0]) (t := 35) ?hr ?_; (case hd => rfl); (case hg => rfl); (case hr => first | (go_simp; done) | (go_simp; rfl)); intro gb181 hg w72 hbox hb; have n0_ := Aside0.mk (blk_below (g := gb160) (o := .cells #[.int .i64 ((rd_T28 l0 x5_1).f0), .int .i64 ((rd_T28 l0 x5_1).f1), .int .i64 ((rd_T28 l0 x5_1).f2), .int .i64 ((rd_T28 l0 x5_1).f3), .int .i64 ((rd_T28 l0 x5_1).f4), .int .i64 ((rd_T28 l0 x5_1).f5)] 28 (0, 0)) (by (with_reducible repeat (first | refine blk_drewN ?_ _ | refine blk_drew ?_ | refine blk_alloc ?_ _)); exact BK160.out) hb); have n1_ := Aside0.mk (IsS42.below (by repeat (first | (with_reducible first | exact HI155.out | apply IsS42.alloc | apply IsS42.drewN | apply IsS42.drew | refine IsS42.farB ?_ (by repeat (first | exact TB.of BK160.out (by decide) | exact TB.of BK181.out (by decide) | apply TB.set | apply TB.drewN | apply TB.drew | apply TB.alloc))) | exact HI155.out)) hb); have n2_ := Aside0.mk (IsS45.below (by repeat (first | (with_reducible first | exact HI157.out | apply IsS45.alloc | apply IsS45.drewN | apply IsS45.drew | refine IsS45.farB ?_ (by repeat (first | exact TB.of BK160.out (by decide) | exact TB.of BK181.out (by decide) | apply TB.set | apply TB.drewN | apply TB.drew | apply TB.alloc))) | exact HI157.out)) hb); have n3_ := Aside0.mk (below_step (by repeat (first | (with_reducible first | exact HB.out | apply below_alloc | apply pw_below_drewN | apply below_drew1 | refine below_set ?_ (IsS42.ge HI155.out) | refine below_set ?_ (IsS45.ge HI157.out) | refine below_set ?_ GE160.out) | exact HB.out)) hb); have n4_ := Aside0.mk (hbox); have n5_ := Aside0.mk ((by rw [hg]; exact (below_size (by repeat (first | (with_reducible first | exact HB.out | apply below_alloc | apply pw_below_drewN | apply below_drew1 | refine below_set ?_ (IsS42.ge HI155.out) | refine below_set ?_ (IsS45.ge HI157.out) | refine below_set ?_ GE160.out) | exact HB.out))) : w.heap.size ≤ gb181)); have n6_ := Aside0.mk ((by rw [hg]; exact (below_size (by repeat (first | (with_reducible first | exact HB.out | apply below_alloc | apply pw_below_drewN | apply below_drew1 | refine below_set ?_ (IsS42.ge HI155.out) | refine below_set ?_ (IsS45.ge HI157.out) | refine below_set ?_ GE160.out) | exact HB.out))) : w.heap.size ≤ gb181)); have n7_ := Aside0.mk ((by rw [hg]; exact Nat.ne_of_lt (blk_lt (g := gb160) (o := .cells #[.int .i64 ((rd_T28 l0 x5_1).f0), .int .i64 ((rd_T28 l0 x5_1).f1), .int .i64 ((rd_T28 l0 x5_1).f2), .int .i64 ((rd_T28 l0 x5_1).f3), .int .i64 ((rd_T28 l0 x5_1).f4), .int .i64 ((rd_T28 l0 x5_1).f5)] 28 (0, 0)) (by (with_reducible repeat (first | refine blk_drewN ?_ _ | refine blk_drew ?_ | refine blk_alloc ?_ _)); exact BK160.out)) : gb160 ≠ gb181)); have n8_ := Aside0.mk ((by rw [hg]; exact Nat.ne_of_gt (blk_lt (g := gb160) (o := .cells #[.int .i64 ((rd_T28 l0 x5_1).f0), .int .i64 ((rd_T28 l0 x5_1).f1), .int .i64 ((rd_T28 l0 x5_1).f2), .int .i64 ((rd_T28 l0 x5_1).f3), .int .i64 ((rd_T28 l0 x5_1).f4), .int .i64 ((rd_T28 l0 x5_1).f5)] 28 (0, 0)) (by (with_reducible repeat (first | refine blk_drewN ?_ _ | refine blk_drew ?_ | refine blk_alloc ?_ _)); exact BK160.out)) : gb181 ≠ gb160)); have n9_ := Aside0.mk ((by rw [hg]; exact Nat.ne_of_lt (IsS42.lt (show IsS42 w _ g155 t176 from by repeat (first | (with_reducible first | exact HI155.out | apply IsS42.alloc | apply IsS42.drewN | apply IsS42.drew | refine IsS42.farB ?_ (by repeat (first | exact TB.of BK160.out (by decide) | exact TB.of BK181.out (by decide) | apply TB.set | apply TB.drewN | apply TB.drew | apply TB.alloc))) | exact HI155.out))) : g155 ≠ gb181)); have n10_ := Aside0.mk ((by rw [hg]; exact Nat.ne_of_gt (IsS42.lt (show IsS42 w _ g155 t176 from by repeat (first | (with_reducible first | exact HI155.out | apply IsS42.alloc | apply IsS42.drewN | apply IsS42.drew | refine IsS42.farB ?_ (by repeat (first | exact TB.of BK160.out (by decide) | exact TB.of BK181.out (by decide) | apply TB.set | apply TB.drewN | apply TB.drew | apply TB.alloc))) | exact HI155.out))) : gb181 ≠ g155)); have n11_ := Aside0.mk ((by rw [hg]; exact Nat.ne_of_lt (IsS45.lt (show IsS45 w _ g157 t180 from by repeat (first | (with_reducible first | exact HI157.out | apply IsS45.alloc | apply IsS45.drewN | apply IsS45.drew | refine IsS45.farB ?_ (by repeat (first | exact TB.of BK160.out (by decide) | exact TB.of BK181.out (by decide) | apply TB.set | apply TB.drewN | apply TB.drew | apply TB.alloc))) | exact HI157.out))) : g157 ≠ gb181)); have n12_ := Aside0.mk ((by rw [hg]; exact Nat.ne_of_gt (IsS45.lt (show IsS45 w _ g157 t180 from by repeat (first | (with_reducible first | exact HI157.out | apply IsS45.alloc | apply IsS45.drewN | apply IsS45.drew | refine IsS45.farB ?_ (by repeat (first | exact TB.of BK160.out (by decide) | exact TB.of BK181.out (by decide) | apply TB.set | apply TB.drewN | apply TB.drew | apply TB.alloc))) | exact HI157.out))) : gb181 ≠ g157)); clear BK160; clear HI155; clear HI157; clear HB; have BK160 := n0_; have HI155 := n1_; have HI157 := n2_; have HB := n3_; have BK181 := n4_; have GW181 := n5_; have GE181 := n6_; have NB160_181 := n7_; have NB181_160 := n8_; have NB155_181 := n9_; have NB181_155 := n10_; have NB157_181 := n11_; have NB181_157 := n12_; clear n0_ n1_ n2_ n3_ n4_ n5_ n6_ n7_ n8_ n9_ n10_ n11_ n12_; clear hb hbox hg; have hnb73 := NB181_160.out; have hnc73 := NB160_181.out; have hnb74 := NB181_155.out; have hnc74 := NB155_181.out; have hnb75 := NB181_157.out; have hnc75 := NB157_181.out; have hcz76_0 : w72.cell? ⟨gb181, 0, none⟩ = some (.int .i64 0) := (blk_cell BK181.out 0).trans rfl; have hcz76_1 : w72.cell? ⟨gb181, 1, none⟩ = some (.int .i64 0) := (blk_cell BK181.out 1).trans rfl; have hcz76_2 : w72.cell? ⟨gb181, 2, none⟩ = some (.int .i64 0) := (blk_cell BK181.out 2).trans rfl; have hfz76_0 := blk_frozen BK181.out 0; have hfz76_1 := blk_frozen BK181.out 1; have hfz76_2 := blk_frozen BK181.out 2) | (go_at_call 14; (with_reducible refine (probe_Probe_Best.calls g155 t176 t182 t183 w _ ?side1 ?side2 A67.out).mono ?_); (case side1 => repeat (first | (with_reducible first | exact HI155.out | apply IsS42.alloc | apply IsS42.drewN | apply IsS42.drew | refine IsS42.farB ?_ (by repeat (first | exact TB.of BK160.out (by decide) | exact TB.of BK181.out (by decide) | apply TB.set | apply TB.drewN | apply TB.drew | apply TB.alloc))) | exact HI155.out)); (case side2 => repeat (first | (with_reducible first | exact HB.out | apply below_alloc | apply pw_below_drewN | apply below_drew1 | refine below_set ?_ (IsS42.ge HI155.out) | refine below_set ?_ (IsS45.ge HI157.out) | refine below_set ?_ GE160.out | refine below_set ?_ GE181.out) | exact HB.out)); rintro e w77 ⟨rfl, hi, hb, hk⟩; have n0_ := Aside0.mk (hk.kblk (g' := gb160) (cs := #[.int .i64 ((rd_T28 l0 x5_1).f0), .int .i64 ((rd_T28 l0 x5_1).f1), .int .i64 ((rd_T28 l0 x5_1).f2), .int .i64 ((rd_T28 l0 x5_1).f3), .int .i64 ((rd_T28 l0 x5_1).f4), .int .i64 ((rd_T28 l0 x5_1).f5)]) (t := 28) (by (with_reducible repeat (first | refine blk_drewN ?_ _ | refine blk_drew ?_ | refine blk_alloc ?_ _)); refine blk_far ?_ NB160_181.out _; (with_reducible repeat (first | refine blk_drewN ?_ _ | refine blk_drew ?_ | refine blk_alloc ?_ _)); refine blk_far ?_ NB160_181.out _; (with_reducible repeat (first | refine blk_drewN ?_ _ | refine blk_drew ?_ | refine blk_alloc ?_ _)); refine blk_far ?_ NB160_181.out _; (with_reducible repeat (first | refine blk_drewN ?_ _ | refine blk_drew ?_ | refine blk_alloc ?_ _)); exact BK160.out) NB160_155.out (by simp)); have n1_ := Aside0.mk (IsS45.keepM HI157.out (fun h_ => by repeat (first | (with_reducible first | exact h_ | apply IsS45.alloc | apply IsS45.drewN | apply IsS45.drew | refine IsS45.farB ?_ (by repeat (first | exact TB.of BK160.out (by decide) | exact TB.of BK181.out (by decide) | apply TB.set | apply TB.drewN | apply TB.drew | apply TB.alloc))) | exact HI157.out)) hk NB157_155.out); have n2_ := Aside0.mk (hk.kblk (g' := gb181) (cs := #[.int .i64 t177, .int .i64 t178, .int .i64 t179]) (t := 35) (by (with_reducible repeat (first | refine blk_drewN ?_ _ | refine blk_drew ?_ | refine blk_alloc ?_ _)); refine blk_put (cs := #[.int .i64 t177, .int .i64 t178, .int .i64 0]) ?_ 2 _ rfl; (with_reducible repeat (first | refine blk_drewN ?_ _ | refine blk_drew ?_ | refine blk_alloc ?_ _)); refine blk_put (cs := #[.int .i64 t177, .int .i64 0, .int .i64 0]) ?_ 1 _ rfl; (with_reducible repeat (first | refine blk_drewN ?_ _ | refine blk_drew ?_ | refine blk_alloc ?_ _)); refine blk_put (cs := #[.int .i64 0, .int .i64 0, .int .i64 0]) ?_ 0 _ rfl; (with_reducible repeat (first | refine blk_drewN ?_ _ | refine blk_drew ?_ | refine blk_alloc ?_ _)); exact BK181.out) NB181_155.out (by simp)); have n3_ := Aside0.mk (hb); have n4_ := Aside0.mk (hi); clear BK160; clear HI157; clear BK181; clear HB; clear HI155; have BK160 := n0_; have HI157 := n1_; have BK181 := n2_; have HB := n3_; have HI155 := n4_; clear n0_ n1_ n2_ n3_ n4_; (try clear hb); (try clear hb2); (try clear hk); (try clear hi)) | (go_at_call 15; (with_reducible refine (flywheelref26_Probe_Best.calls g157 t180 t184 t185 w _ ?side1 ?side2 A68.out).mono ?_); (case side1 => repeat (first | (with_reducible first | exact HI157.out | apply IsS45.alloc | apply IsS45.drewN | apply IsS45.drew | refine IsS45.farB ?_ (by repeat (first | exact TB.of BK160.out (by decide) | exact TB.of BK181.out (by decide) | apply TB.set | apply TB.drewN | apply TB.drew | apply TB.alloc))) | exact HI157.out)); (case side2 => repeat (first | (with_reducible first | exact HB.out | apply below_alloc | apply pw_below_drewN | apply below_drew1 | refine below_set ?_ (IsS42.ge HI155.out) | refine below_set ?_ (IsS45.ge HI157.out) | refine below_set ?_ GE160.out | refine below_set ?_ GE181.out) | exact HB.out)); rintro e w78 ⟨rfl, hi, hb, hk⟩; have n0_ := Aside0.mk (hk.kblk (g' := gb160) (cs := #[.int .i64 ((rd_T28 l0 x5_1).f0), .int .i64 ((rd_T28 l0 x5_1).f1), .int .i64 ((rd_T28 l0 x5_1).f2), .int .i64 ((rd_T28 l0 x5_1).f3), .int .i64 ((rd_T28 l0 x5_1).f4), .int .i64 ((rd_T28 l0 x5_1).f5)]) (t := 28) (by (with_reducible repeat (first | refine blk_drewN ?_ _ | refine blk_drew ?_ | refine blk_alloc ?_ _)); exact BK160.out) NB160_157.out (by simp)); have n1_ := Aside0.mk (IsS42.keepM HI155.out (fun h_ => by repeat (first | (with_reducible first | exact h_ | apply IsS42.alloc | apply IsS42.drewN | apply IsS42.drew | refine IsS42.farB ?_ (by repeat (first | exact TB.of BK160.out (by decide) | exact TB.of BK181.out (by decide) | apply TB.set | apply TB.drewN | apply TB.drew | apply TB.alloc))) | exact HI155.out)) hk NB155_157.out); have n2_ := Aside0.mk (hk.kblk (g' := gb181) (cs := #[.int .i64 t177, .int .i64 t178, .int .i64 t179]) (t := 35) (by (with_reducible repeat (first | refine blk_drewN ?_ _ | refine blk_drew ?_ | refine blk_alloc ?_ _)); exact BK181.out) NB181_157.out (by simp)); have n3_ := Aside0.mk (hb); have n4_ := Aside0.mk (hi); clear BK160; clear HI155; clear BK181; clear HB; clear HI157; have BK160 := n0_; have HI155 := n1_; have BK181 := n2_; have HB := n3_; have HI157 := n4_; clear n0_ n1_ n2_ n3_ n4_; (try clear hb); (try clear hb2); (try clear hk); (try clear hi)))
              go_roundg kj10
              case measure => have := HK1.out; have := HJ5.out; have := HJ10.out; omega
              case rel => exact ⟨(wrap64 (x5_1 + 1)), (t183), (t185), (by first | rfl | (simp; done) | (simp [*]; done)), H', ⟨by have := HK1.out; have := HJ5.out; have := HJ10.out; omega⟩, ⟨by repeat (first | (with_reducible first | exact HI155.out | apply IsS42.alloc | apply IsS42.drewN | apply IsS42.drew | refine IsS42.farB ?_ (by repeat (first | exact TB.of BK160.out (by decide) | exact TB.of BK181.out (by decide) | apply TB.set | apply TB.drewN | apply TB.drew | apply TB.alloc))) | exact HI155.out)⟩, ⟨by repeat (first | (with_reducible first | exact HI157.out | apply IsS45.alloc | apply IsS45.drewN | apply IsS45.drew | refine IsS45.farB ?_ (by repeat (first | exact TB.of BK160.out (by decide) | exact TB.of BK181.out (by decide) | apply TB.set | apply TB.drewN | apply TB.drew | apply TB.alloc))) | exact HI157.out)⟩, ⟨by repeat (first | (with_reducible first | exact HB.out | apply below_alloc | apply pw_below_drewN | apply below_drew1 | refine below_set ?_ (IsS42.ge HI155.out) | refine below_set ?_ (IsS45.ge HI157.out) | refine below_set ?_ GE160.out | refine below_set ?_ GE181.out) | exact HB.out)⟩⟩
             ·rw [if_neg c69] at H
              have c69b0 : (t182 == t184) = false := beq_eq_false_iff_ne.mpr c69
              have c69b1 : (t182 != t184) = true := bne_iff_ne.mpr c69
              obtain rfl := Option.some.inj H
              go_wp2_with (first | ((with_reducible refine gate_callee (f := 12) rfl ?_); refine goesL_ (some 86) rfl rfl Try.func12 (by kernel_rfl) rfl #[.pointer (some ⟨g155, 0, none⟩)] rfl (by (try simp only [List.map_toArray, List.map_cons, List.map_nil]); first | done | rfl | (simp only [List.length_drop, List.length_take]; rfl)) ?_; (with_reducible refine (probe_Probe_Open.calls g155 x156000_10 t173 t174 t175 t176 w _ ?side1 ?side2 A62.out).mono ?_); (case side1 => repeat (first | (with_reducible first | exact HI155.out | apply IsS42.alloc | apply IsS42.drewN | apply IsS42.drew | refine IsS42.farB ?_ (by repeat (first | exact TB.of BK160.out (by decide) | exact TB.of BK181.out (by decide) | apply TB.set | apply TB.drewN | apply TB.drew | apply TB.alloc))) | exact HI155.out)); (case side2 => repeat (first | (with_reducible first | exact HB.out | apply below_alloc | apply pw_below_drewN | apply below_drew1 | refine below_set ?_ (IsS42.ge HI155.out) | refine below_set ?_ (IsS45.ge HI157.out) | refine below_set ?_ GE160.out) | exact HB.out)); rintro e w79 ⟨rfl, hi, hb, hk⟩; refine ⟨_, rfl, ?_⟩; have n0_ := Aside0.mk (hk.kblk (g' := gb160) (cs := #[.int .i64 ((rd_T28 l0 x5_1).f0), .int .i64 ((rd_T28 l0 x5_1).f1), .int .i64 ((rd_T28 l0 x5_1).f2), .int .i64 ((rd_T28 l0 x5_1).f3), .int .i64 ((rd_T28 l0 x5_1).f4), .int .i64 ((rd_T28 l0 x5_1).f5)]) (t := 28) (by (with_reducible repeat (first | refine blk_drewN ?_ _ | refine blk_drew ?_ | refine blk_alloc ?_ _)); exact BK160.out) NB160_155.out (by simp)); have n1_ := Aside0.mk (IsS45.keepM HI157.out (fun h_ => by repeat (first | (with_reducible first | exact h_ | apply IsS45.alloc | apply IsS45.drewN | apply IsS45.drew | refine IsS45.farB ?_ (by repeat (first | exact TB.of BK160.out (by decide) | exact TB.of BK181.out (by decide) | apply TB.set | apply TB.drewN | apply TB.drew | apply TB.alloc))) | exact HI157.out)) hk NB157_155.out); have n2_ := Aside0.mk (hb); have n3_ := Aside0.mk (hi); clear BK160; clear HI157; clear HB; clear HI155; have BK160 := n0_; have HI157 := n1_; have HB := n2_; have HI155 := n3_; clear n0_ n1_ n2_ n3_; (try clear hb); (try clear hb2); (try clear hk); (try clear hi)) | ((with_reducible refine gate_callee (f := 13) rfl ?_); refine goesL_ (some 91) rfl rfl Try.func13 (by kernel_rfl) rfl #[.pointer (some ⟨g157, 0, none⟩)] rfl (by (try simp only [List.map_toArray, List.map_cons, List.map_nil]); first | done | rfl | (simp only [List.length_drop, List.length_take]; rfl)) ?_; (with_reducible refine (flywheelref26_Probe_Open.calls g157 x158000_10 t177 t178 t179 t180 w _ ?side1 ?side2 A63.out).mono ?_); (case side1 => repeat (first | (with_reducible first | exact HI157.out | apply IsS45.alloc | apply IsS45.drewN | apply IsS45.drew | refine IsS45.farB ?_ (by repeat (first | exact TB.of BK160.out (by decide) | exact TB.of BK181.out (by decide) | apply TB.set | apply TB.drewN | apply TB.drew | apply TB.alloc))) | exact HI157.out)); (case side2 => repeat (first | (with_reducible first | exact HB.out | apply below_alloc | apply pw_below_drewN | apply below_drew1 | refine below_set ?_ (IsS42.ge HI155.out) | refine below_set ?_ (IsS45.ge HI157.out) | refine below_set ?_ GE160.out) | exact HB.out)); rintro e w80 ⟨rfl, hi, hb, hk⟩; refine ⟨_, rfl, ?_⟩; have n0_ := Aside0.mk (hk.kblk (g' := gb160) (cs := #[.int .i64 ((rd_T28 l0 x5_1).f0), .int .i64 ((rd_T28 l0 x5_1).f1), .int .i64 ((rd_T28 l0 x5_1).f2), .int .i64 ((rd_T28 l0 x5_1).f3), .int .i64 ((rd_T28 l0 x5_1).f4), .int .i64 ((rd_T28 l0 x5_1).f5)]) (t := 28) (by (with_reducible repeat (first | refine blk_drewN ?_ _ | refine blk_drew ?_ | refine blk_alloc ?_ _)); exact BK160.out) NB160_157.out (by simp)); have n1_ := Aside0.mk (IsS42.keepM HI155.out (fun h_ => by repeat (first | (with_reducible first | exact h_ | apply IsS42.alloc | apply IsS42.drewN | apply IsS42.drew | refine IsS42.farB ?_ (by repeat (first | exact TB.of BK160.out (by decide) | exact TB.of BK181.out (by decide) | apply TB.set | apply TB.drewN | apply TB.drew | apply TB.alloc))) | exact HI155.out)) hk NB155_157.out); have n2_ := Aside0.mk (hb); have n3_ := Aside0.mk (hi); clear BK160; clear HI155; clear HB; clear HI157; have BK160 := n0_; have HI155 := n1_; have HB := n2_; have HI157 := n3_; clear n0_ n1_ n2_ n3_; (try clear hb); (try clear hb2); (try clear hk); (try clear hi)) | ((with_reducible refine gate_dst (N := 10) rfl ?_); refine box_event ?hg (N := 10) ?hd (cs := #[.int .i64 0, .int .i64 0, .int .i64 0]) (t := 35) ?hr ?_; (case hd => rfl); (case hg => rfl); (case hr => first | (go_simp; done) | (go_simp; rfl)); intro gb181 hg w81 hbox hb; have n0_ := Aside0.mk (blk_below (g := gb160) (o := .cells #[.int .i64 ((rd_T28 l0 x5_1).f0), .int .i64 ((rd_T28 l0 x5_1).f1), .int .i64 ((rd_T28 l0 x5_1).f2), .int .i64 ((rd_T28 l0 x5_1).f3), .int .i64 ((rd_T28 l0 x5_1).f4), .int .i64 ((rd_T28 l0 x5_1).f5)] 28 (0, 0)) (by (with_reducible repeat (first | refine blk_drewN ?_ _ | refine blk_drew ?_ | refine blk_alloc ?_ _)); exact BK160.out) hb); have n1_ := Aside0.mk (IsS42.below (by repeat (first | (with_reducible first | exact HI155.out | apply IsS42.alloc | apply IsS42.drewN | apply IsS42.drew | refine IsS42.farB ?_ (by repeat (first | exact TB.of BK160.out (by decide) | exact TB.of BK181.out (by decide) | apply TB.set | apply TB.drewN | apply TB.drew | apply TB.alloc))) | exact HI155.out)) hb); have n2_ := Aside0.mk (IsS45.below (by repeat (first | (with_reducible first | exact HI157.out | apply IsS45.alloc | apply IsS45.drewN | apply IsS45.drew | refine IsS45.farB ?_ (by repeat (first | exact TB.of BK160.out (by decide) | exact TB.of BK181.out (by decide) | apply TB.set | apply TB.drewN | apply TB.drew | apply TB.alloc))) | exact HI157.out)) hb); have n3_ := Aside0.mk (below_step (by repeat (first | (with_reducible first | exact HB.out | apply below_alloc | apply pw_below_drewN | apply below_drew1 | refine below_set ?_ (IsS42.ge HI155.out) | refine below_set ?_ (IsS45.ge HI157.out) | refine below_set ?_ GE160.out) | exact HB.out)) hb); have n4_ := Aside0.mk (hbox); have n5_ := Aside0.mk ((by rw [hg]; exact (below_size (by repeat (first | (with_reducible first | exact HB.out | apply below_alloc | apply pw_below_drewN | apply below_drew1 | refine below_set ?_ (IsS42.ge HI155.out) | refine below_set ?_ (IsS45.ge HI157.out) | refine below_set ?_ GE160.out) | exact HB.out))) : w.heap.size ≤ gb181)); have n6_ := Aside0.mk ((by rw [hg]; exact (below_size (by repeat (first | (with_reducible first | exact HB.out | apply below_alloc | apply pw_below_drewN | apply below_drew1 | refine below_set ?_ (IsS42.ge HI155.out) | refine below_set ?_ (IsS45.ge HI157.out) | refine below_set ?_ GE160.out) | exact HB.out))) : w.heap.size ≤ gb181)); have n7_ := Aside0.mk ((by rw [hg]; exact Nat.ne_of_lt (blk_lt (g := gb160) (o := .cells #[.int .i64 ((rd_T28 l0 x5_1).f0), .int .i64 ((rd_T28 l0 x5_1).f1), .int .i64 ((rd_T28 l0 x5_1).f2), .int .i64 ((rd_T28 l0 x5_1).f3), .int .i64 ((rd_T28 l0 x5_1).f4), .int .i64 ((rd_T28 l0 x5_1).f5)] 28 (0, 0)) (by (with_reducible repeat (first | refine blk_drewN ?_ _ | refine blk_drew ?_ | refine blk_alloc ?_ _)); exact BK160.out)) : gb160 ≠ gb181)); have n8_ := Aside0.mk ((by rw [hg]; exact Nat.ne_of_gt (blk_lt (g := gb160) (o := .cells #[.int .i64 ((rd_T28 l0 x5_1).f0), .int .i64 ((rd_T28 l0 x5_1).f1), .int .i64 ((rd_T28 l0 x5_1).f2), .int .i64 ((rd_T28 l0 x5_1).f3), .int .i64 ((rd_T28 l0 x5_1).f4), .int .i64 ((rd_T28 l0 x5_1).f5)] 28 (0, 0)) (by (with_reducible repeat (first | refine blk_drewN ?_ _ | refine blk_drew ?_ | refine blk_alloc ?_ _)); exact BK160.out)) : gb181 ≠ gb160)); have n9_ := Aside0.mk ((by rw [hg]; exact Nat.ne_of_lt (IsS42.lt (show IsS42 w _ g155 t176 from by repeat (first | (with_reducible first | exact HI155.out | apply IsS42.alloc | apply IsS42.drewN | apply IsS42.drew | refine IsS42.farB ?_ (by repeat (first | exact TB.of BK160.out (by decide) | exact TB.of BK181.out (by decide) | apply TB.set | apply TB.drewN | apply TB.drew | apply TB.alloc))) | exact HI155.out))) : g155 ≠ gb181)); have n10_ := Aside0.mk ((by rw [hg]; exact Nat.ne_of_gt (IsS42.lt (show IsS42 w _ g155 t176 from by repeat (first | (with_reducible first | exact HI155.out | apply IsS42.alloc | apply IsS42.drewN | apply IsS42.drew | refine IsS42.farB ?_ (by repeat (first | exact TB.of BK160.out (by decide) | exact TB.of BK181.out (by decide) | apply TB.set | apply TB.drewN | apply TB.drew | apply TB.alloc))) | exact HI155.out))) : gb181 ≠ g155)); have n11_ := Aside0.mk ((by rw [hg]; exact Nat.ne_of_lt (IsS45.lt (show IsS45 w _ g157 t180 from by repeat (first | (with_reducible first | exact HI157.out | apply IsS45.alloc | apply IsS45.drewN | apply IsS45.drew | refine IsS45.farB ?_ (by repeat (first | exact TB.of BK160.out (by decide) | exact TB.of BK181.out (by decide) | apply TB.set | apply TB.drewN | apply TB.drew | apply TB.alloc))) | exact HI157.out))) : g157 ≠ gb181)); have n12_ := Aside0.mk ((by rw [hg]; exact Nat.ne_of_gt (IsS45.lt (show IsS45 w _ g157 t180 from by repeat (first | (with_reducible first | exact HI157.out | apply IsS45.alloc | apply IsS45.drewN | apply IsS45.drew | refine IsS45.farB ?_ (by repeat (first | exact TB.of BK160.out (by decide) | exact TB.of BK181.out (by decide) | apply TB.set | apply TB.drewN | apply TB.drew | apply TB.alloc))) | exact HI157.out))) : gb181 ≠ g157)); clear BK160; clear HI155; clear HI157; clear HB; have BK160 := n0_; have HI155 := n1_; have HI157 := n2_; have HB := n3_; have BK181 := n4_; have GW181 := n5_; have GE181 := n6_; have NB160_181 := n7_; have NB181_160 := n8_; have NB155_181 := n9_; have NB181_155 := n10_; have NB157_181 := n11_; have NB181_157 := n12_; clear n0_ n1_ n2_ n3_ n4_ n5_ n6_ n7_ n8_ n9_ n10_ n11_ n12_; clear hb hbox hg; have hnb82 := NB181_160.out; have hnc82 := NB160_181.out; have hnb83 := NB181_155.out; have hnc83 := NB155_181.out; have hnb84 := NB181_157.out; have hnc84 := NB157_181.out; have hcz85_0 : w81.cell? ⟨gb181, 0, none⟩ = some (.int .i64 0) := (blk_cell BK181.out 0).trans rfl; have hcz85_1 : w81.cell? ⟨gb181, 1, none⟩ = some (.int .i64 0) := (blk_cell BK181.out 1).trans rfl; have hcz85_2 : w81.cell? ⟨gb181, 2, none⟩ = some (.int .i64 0) := (blk_cell BK181.out 2).trans rfl; have hfz85_0 := blk_frozen BK181.out 0; have hfz85_1 := blk_frozen BK181.out 1; have hfz85_2 := blk_frozen BK181.out 2) | (go_at_call 14; (with_reducible refine (probe_Probe_Best.calls g155 t176 t182 t183 w _ ?side1 ?side2 A67.out).mono ?_); (case side1 => repeat (first | (with_reducible first | exact HI155.out | apply IsS42.alloc | apply IsS42.drewN | apply IsS42.drew | refine IsS42.farB ?_ (by repeat (first | exact TB.of BK160.out (by decide) | exact TB.of BK181.out (by decide) | apply TB.set | apply TB.drewN | apply TB.drew | apply TB.alloc))) | exact HI155.out)); (case side2 => repeat (first | (with_reducible first | exact HB.out | apply below_alloc | apply pw_below_drewN | apply below_drew1 | refine below_set ?_ (IsS42.ge HI155.out) | refine below_set ?_ (IsS45.ge HI157.out) | refine below_set ?_ GE160.out | refine below_set ?_ GE181.out) | exact HB.out)); rintro e w86 ⟨rfl, hi, hb, hk⟩; have n0_ := Aside0.mk (hk.kblk (g' := gb160) (cs := #[.int .i64 ((rd_T28 l0 x5_1).f0), .int .i64 ((rd_T28 l0 x5_1).f1), .int .i64 ((rd_T28 l0 x5_1).f2), .int .i64 ((rd_T28 l0 x5_1).f3), .int .i64 ((rd_T28 l0 x5_1).f4), .int .i64 ((rd_T28 l0 x5_1).f5)]) (t := 28) (by (with_reducible repeat (first | refine blk_drewN ?_ _ | refine blk_drew ?_ | refine blk_alloc ?_ _)); refine blk_far ?_ NB160_181.out _; (with_reducible repeat (first | refine blk_drewN ?_ _ | refine blk_drew ?_ | refine blk_alloc ?_ _)); refine blk_far ?_ NB160_181.out _; (with_reducible repeat (first | refine blk_drewN ?_ _ | refine blk_drew ?_ | refine blk_alloc ?_ _)); refine blk_far ?_ NB160_181.out _; (with_reducible repeat (first | refine blk_drewN ?_ _ | refine blk_drew ?_ | refine blk_alloc ?_ _)); exact BK160.out) NB160_155.out (by simp)); have n1_ := Aside0.mk (IsS45.keepM HI157.out (fun h_ => by repeat (first | (with_reducible first | exact h_ | apply IsS45.alloc | apply IsS45.drewN | apply IsS45.drew | refine IsS45.farB ?_ (by repeat (first | exact TB.of BK160.out (by decide) | exact TB.of BK181.out (by decide) | apply TB.set | apply TB.drewN | apply TB.drew | apply TB.alloc))) | exact HI157.out)) hk NB157_155.out); have n2_ := Aside0.mk (hk.kblk (g' := gb181) (cs := #[.int .i64 t177, .int .i64 t178, .int .i64 t179]) (t := 35) (by (with_reducible repeat (first | refine blk_drewN ?_ _ | refine blk_drew ?_ | refine blk_alloc ?_ _)); refine blk_put (cs := #[.int .i64 t177, .int .i64 t178, .int .i64 0]) ?_ 2 _ rfl; (with_reducible repeat (first | refine blk_drewN ?_ _ | refine blk_drew ?_ | refine blk_alloc ?_ _)); refine blk_put (cs := #[.int .i64 t177, .int .i64 0, .int .i64 0]) ?_ 1 _ rfl; (with_reducible repeat (first | refine blk_drewN ?_ _ | refine blk_drew ?_ | refine blk_alloc ?_ _)); refine blk_put (cs := #[.int .i64 0, .int .i64 0, .int .i64 0]) ?_ 0 _ rfl; (with_reducible repeat (first | refine blk_drewN ?_ _ | refine blk_drew ?_ | refine blk_alloc ?_ _)); exact BK181.out) NB181_155.out (by simp)); have n3_ := Aside0.mk (hb); have n4_ := Aside0.mk (hi); clear BK160; clear HI157; clear BK181; clear HB; clear HI155; have BK160 := n0_; have HI157 := n1_; have BK181 := n2_; have HB := n3_; have HI155 := n4_; clear n0_ n1_ n2_ n3_ n4_; (try clear hb); (try clear hb2); (try clear hk); (try clear hi)) | (go_at_call 15; (with_reducible refine (flywheelref26_Probe_Best.calls g157 t180 t184 t185 w _ ?side1 ?side2 A68.out).mono ?_); (case side1 => repeat (first | (with_reducible first | exact HI157.out | apply IsS45.alloc | apply IsS45.drewN | apply IsS45.drew | refine IsS45.farB ?_ (by repeat (first | exact TB.of BK160.out (by decide) | exact TB.of BK181.out (by decide) | apply TB.set | apply TB.drewN | apply TB.drew | apply TB.alloc))) | exact HI157.out)); (case side2 => repeat (first | (with_reducible first | exact HB.out | apply below_alloc | apply pw_below_drewN | apply below_drew1 | refine below_set ?_ (IsS42.ge HI155.out) | refine below_set ?_ (IsS45.ge HI157.out) | refine below_set ?_ GE160.out | refine below_set ?_ GE181.out) | exact HB.out)); rintro e w87 ⟨rfl, hi, hb, hk⟩; have n0_ := Aside0.mk (hk.kblk (g' := gb160) (cs := #[.int .i64 ((rd_T28 l0 x5_1).f0), .int .i64 ((rd_T28 l0 x5_1).f1), .int .i64 ((rd_T28 l0 x5_1).f2), .int .i64 ((rd_T28 l0 x5_1).f3), .int .i64 ((rd_T28 l0 x5_1).f4), .int .i64 ((rd_T28 l0 x5_1).f5)]) (t := 28) (by (with_reducible repeat (first | refine blk_drewN ?_ _ | refine blk_drew ?_ | refine blk_alloc ?_ _)); exact BK160.out) NB160_157.out (by simp)); have n1_ := Aside0.mk (IsS42.keepM HI155.out (fun h_ => by repeat (first | (with_reducible first | exact h_ | apply IsS42.alloc | apply IsS42.drewN | apply IsS42.drew | refine IsS42.farB ?_ (by repeat (first | exact TB.of BK160.out (by decide) | exact TB.of BK181.out (by decide) | apply TB.set | apply TB.drewN | apply TB.drew | apply TB.alloc))) | exact HI155.out)) hk NB155_157.out); have n2_ := Aside0.mk (hk.kblk (g' := gb181) (cs := #[.int .i64 t177, .int .i64 t178, .int .i64 t179]) (t := 35) (by (with_reducible repeat (first | refine blk_drewN ?_ _ | refine blk_drew ?_ | refine blk_alloc ?_ _)); exact BK181.out) NB181_157.out (by simp)); have n3_ := Aside0.mk (hb); have n4_ := Aside0.mk (hi); clear BK160; clear HI155; clear BK181; clear HB; clear HI157; have BK160 := n0_; have HI155 := n1_; have BK181 := n2_; have HB := n3_; have HI157 := n4_; clear n0_ n1_ n2_ n3_ n4_; (try clear hb); (try clear hb2); (try clear hk); (try clear hi)))
              go_ret
              exact ⟨by first | rfl | (simp [errW_none, errW_some] <;> rfl) | (simp [*, errW_none, errW_some] <;> rfl), by repeat (first | (with_reducible first | exact HB.out | apply below_alloc | apply pw_below_drewN | apply below_drew1 | refine below_set ?_ (IsS42.ge HI155.out) | refine below_set ?_ (IsS45.ge HI157.out) | refine below_set ?_ GE160.out | refine below_set ?_ GE181.out) | exact HB.out)⟩
            ·rw [if_neg c66] at H
             have c66b0 : (t175 == t179) = false := beq_eq_false_iff_ne.mpr c66
             have c66b1 : (t175 != t179) = true := bne_iff_ne.mpr c66
             obtain rfl := Option.some.inj H
             go_wp2_with (first | ((with_reducible refine gate_callee (f := 12) rfl ?_); refine goesL_ (some 86) rfl rfl Try.func12 (by kernel_rfl) rfl #[.pointer (some ⟨g155, 0, none⟩)] rfl (by (try simp only [List.map_toArray, List.map_cons, List.map_nil]); first | done | rfl | (simp only [List.length_drop, List.length_take]; rfl)) ?_; (with_reducible refine (probe_Probe_Open.calls g155 x156000_10 t173 t174 t175 t176 w _ ?side1 ?side2 A62.out).mono ?_); (case side1 => repeat (first | (with_reducible first | exact HI155.out | apply IsS42.alloc | apply IsS42.drewN | apply IsS42.drew | refine IsS42.farB ?_ (by repeat (first | exact TB.of BK160.out (by decide) | exact TB.of BK181.out (by decide) | apply TB.set | apply TB.drewN | apply TB.drew | apply TB.alloc))) | exact HI155.out)); (case side2 => repeat (first | (with_reducible first | exact HB.out | apply below_alloc | apply pw_below_drewN | apply below_drew1 | refine below_set ?_ (IsS42.ge HI155.out) | refine below_set ?_ (IsS45.ge HI157.out) | refine below_set ?_ GE160.out) | exact HB.out)); rintro e w88 ⟨rfl, hi, hb, hk⟩; refine ⟨_, rfl, ?_⟩; have n0_ := Aside0.mk (hk.kblk (g' := gb160) (cs := #[.int .i64 ((rd_T28 l0 x5_1).f0), .int .i64 ((rd_T28 l0 x5_1).f1), .int .i64 ((rd_T28 l0 x5_1).f2), .int .i64 ((rd_T28 l0 x5_1).f3), .int .i64 ((rd_T28 l0 x5_1).f4), .int .i64 ((rd_T28 l0 x5_1).f5)]) (t := 28) (by (with_reducible repeat (first | refine blk_drewN ?_ _ | refine blk_drew ?_ | refine blk_alloc ?_ _)); exact BK160.out) NB160_155.out (by simp)); have n1_ := Aside0.mk (IsS45.keepM HI157.out (fun h_ => by repeat (first | (with_reducible first | exact h_ | apply IsS45.alloc | apply IsS45.drewN | apply IsS45.drew | refine IsS45.farB ?_ (by repeat (first | exact TB.of BK160.out (by decide) | exact TB.of BK181.out (by decide) | apply TB.set | apply TB.drewN | apply TB.drew | apply TB.alloc))) | exact HI157.out)) hk NB157_155.out); have n2_ := Aside0.mk (hb); have n3_ := Aside0.mk (hi); clear BK160; clear HI157; clear HB; clear HI155; have BK160 := n0_; have HI157 := n1_; have HB := n2_; have HI155 := n3_; clear n0_ n1_ n2_ n3_; (try clear hb); (try clear hb2); (try clear hk); (try clear hi)) | ((with_reducible refine gate_callee (f := 13) rfl ?_); refine goesL_ (some 91) rfl rfl Try.func13 (by kernel_rfl) rfl #[.pointer (some ⟨g157, 0, none⟩)] rfl (by (try simp only [List.map_toArray, List.map_cons, List.map_nil]); first | done | rfl | (simp only [List.length_drop, List.length_take]; rfl)) ?_; (with_reducible refine (flywheelref26_Probe_Open.calls g157 x158000_10 t177 t178 t179 t180 w _ ?side1 ?side2 A63.out).mono ?_); (case side1 => repeat (first | (with_reducible first | exact HI157.out | apply IsS45.alloc | apply IsS45.drewN | apply IsS45.drew | refine IsS45.farB ?_ (by repeat (first | exact TB.of BK160.out (by decide) | exact TB.of BK181.out (by decide) | apply TB.set | apply TB.drewN | apply TB.drew | apply TB.alloc))) | exact HI157.out)); (case side2 => repeat (first | (with_reducible first | exact HB.out | apply below_alloc | apply pw_below_drewN | apply below_drew1 | refine below_set ?_ (IsS42.ge HI155.out) | refine below_set ?_ (IsS45.ge HI157.out) | refine below_set ?_ GE160.out) | exact HB.out)); rintro e w89 ⟨rfl, hi, hb, hk⟩; refine ⟨_, rfl, ?_⟩; have n0_ := Aside0.mk (hk.kblk (g' := gb160) (cs := #[.int .i64 ((rd_T28 l0 x5_1).f0), .int .i64 ((rd_T28 l0 x5_1).f1), .int .i64 ((rd_T28 l0 x5_1).f2), .int .i64 ((rd_T28 l0 x5_1).f3), .int .i64 ((rd_T28 l0 x5_1).f4), .int .i64 ((rd_T28 l0 x5_1).f5)]) (t := 28) (by (with_reducible repeat (first | refine blk_drewN ?_ _ | refine blk_drew ?_ | refine blk_alloc ?_ _)); exact BK160.out) NB160_157.out (by simp)); have n1_ := Aside0.mk (IsS42.keepM HI155.out (fun h_ => by repeat (first | (with_reducible first | exact h_ | apply IsS42.alloc | apply IsS42.drewN | apply IsS42.drew | refine IsS42.farB ?_ (by repeat (first | exact TB.of BK160.out (by decide) | exact TB.of BK181.out (by decide) | apply TB.set | apply TB.drewN | apply TB.drew | apply TB.alloc))) | exact HI155.out)) hk NB155_157.out); have n2_ := Aside0.mk (hb); have n3_ := Aside0.mk (hi); clear BK160; clear HI155; clear HB; clear HI157; have BK160 := n0_; have HI155 := n1_; have HB := n2_; have HI157 := n3_; clear n0_ n1_ n2_ n3_; (try clear hb); (try clear hb2); (try clear hk); (try clear hi)) | ((with_reducible refine gate_dst (N := 10) rfl ?_); refine box_event ?hg (N := 10) ?hd (cs := #[.int .i64 0, .int .i64 0, .int .i64 0]) (t := 35) ?hr ?_; (case hd => rfl); (case hg => rfl); (case hr => first | (go_simp; done) | (go_simp; rfl)); intro gb181 hg w90 hbox hb; have n0_ := Aside0.mk (blk_below (g := gb160) (o := .cells #[.int .i64 ((rd_T28 l0 x5_1).f0), .int .i64 ((rd_T28 l0 x5_1).f1), .int .i64 ((rd_T28 l0 x5_1).f2), .int .i64 ((rd_T28 l0 x5_1).f3), .int .i64 ((rd_T28 l0 x5_1).f4), .int .i64 ((rd_T28 l0 x5_1).f5)] 28 (0, 0)) (by (with_reducible repeat (first | refine blk_drewN ?_ _ | refine blk_drew ?_ | refine blk_alloc ?_ _)); exact BK160.out) hb); have n1_ := Aside0.mk (IsS42.below (by repeat (first | (with_reducible first | exact HI155.out | apply IsS42.alloc | apply IsS42.drewN | apply IsS42.drew | refine IsS42.farB ?_ (by repeat (first | exact TB.of BK160.out (by decide) | exact TB.of BK181.out (by decide) | apply TB.set | apply TB.drewN | apply TB.drew | apply TB.alloc))) | exact HI155.out)) hb); have n2_ := Aside0.mk (IsS45.below (by repeat (first | (with_reducible first | exact HI157.out | apply IsS45.alloc | apply IsS45.drewN | apply IsS45.drew | refine IsS45.farB ?_ (by repeat (first | exact TB.of BK160.out (by decide) | exact TB.of BK181.out (by decide) | apply TB.set | apply TB.drewN | apply TB.drew | apply TB.alloc))) | exact HI157.out)) hb); have n3_ := Aside0.mk (below_step (by repeat (first | (with_reducible first | exact HB.out | apply below_alloc | apply pw_below_drewN | apply below_drew1 | refine below_set ?_ (IsS42.ge HI155.out) | refine below_set ?_ (IsS45.ge HI157.out) | refine below_set ?_ GE160.out) | exact HB.out)) hb); have n4_ := Aside0.mk (hbox); have n5_ := Aside0.mk ((by rw [hg]; exact (below_size (by repeat (first | (with_reducible first | exact HB.out | apply below_alloc | apply pw_below_drewN | apply below_drew1 | refine below_set ?_ (IsS42.ge HI155.out) | refine below_set ?_ (IsS45.ge HI157.out) | refine below_set ?_ GE160.out) | exact HB.out))) : w.heap.size ≤ gb181)); have n6_ := Aside0.mk ((by rw [hg]; exact (below_size (by repeat (first | (with_reducible first | exact HB.out | apply below_alloc | apply pw_below_drewN | apply below_drew1 | refine below_set ?_ (IsS42.ge HI155.out) | refine below_set ?_ (IsS45.ge HI157.out) | refine below_set ?_ GE160.out) | exact HB.out))) : w.heap.size ≤ gb181)); have n7_ := Aside0.mk ((by rw [hg]; exact Nat.ne_of_lt (blk_lt (g := gb160) (o := .cells #[.int .i64 ((rd_T28 l0 x5_1).f0), .int .i64 ((rd_T28 l0 x5_1).f1), .int .i64 ((rd_T28 l0 x5_1).f2), .int .i64 ((rd_T28 l0 x5_1).f3), .int .i64 ((rd_T28 l0 x5_1).f4), .int .i64 ((rd_T28 l0 x5_1).f5)] 28 (0, 0)) (by (with_reducible repeat (first | refine blk_drewN ?_ _ | refine blk_drew ?_ | refine blk_alloc ?_ _)); exact BK160.out)) : gb160 ≠ gb181)); have n8_ := Aside0.mk ((by rw [hg]; exact Nat.ne_of_gt (blk_lt (g := gb160) (o := .cells #[.int .i64 ((rd_T28 l0 x5_1).f0), .int .i64 ((rd_T28 l0 x5_1).f1), .int .i64 ((rd_T28 l0 x5_1).f2), .int .i64 ((rd_T28 l0 x5_1).f3), .int .i64 ((rd_T28 l0 x5_1).f4), .int .i64 ((rd_T28 l0 x5_1).f5)] 28 (0, 0)) (by (with_reducible repeat (first | refine blk_drewN ?_ _ | refine blk_drew ?_ | refine blk_alloc ?_ _)); exact BK160.out)) : gb181 ≠ gb160)); have n9_ := Aside0.mk ((by rw [hg]; exact Nat.ne_of_lt (IsS42.lt (show IsS42 w _ g155 t176 from by repeat (first | (with_reducible first | exact HI155.out | apply IsS42.alloc | apply IsS42.drewN | apply IsS42.drew | refine IsS42.farB ?_ (by repeat (first | exact TB.of BK160.out (by decide) | exact TB.of BK181.out (by decide) | apply TB.set | apply TB.drewN | apply TB.drew | apply TB.alloc))) | exact HI155.out))) : g155 ≠ gb181)); have n10_ := Aside0.mk ((by rw [hg]; exact Nat.ne_of_gt (IsS42.lt (show IsS42 w _ g155 t176 from by repeat (first | (with_reducible first | exact HI155.out | apply IsS42.alloc | apply IsS42.drewN | apply IsS42.drew | refine IsS42.farB ?_ (by repeat (first | exact TB.of BK160.out (by decide) | exact TB.of BK181.out (by decide) | apply TB.set | apply TB.drewN | apply TB.drew | apply TB.alloc))) | exact HI155.out))) : gb181 ≠ g155)); have n11_ := Aside0.mk ((by rw [hg]; exact Nat.ne_of_lt (IsS45.lt (show IsS45 w _ g157 t180 from by repeat (first | (with_reducible first | exact HI157.out | apply IsS45.alloc | apply IsS45.drewN | apply IsS45.drew | refine IsS45.farB ?_ (by repeat (first | exact TB.of BK160.out (by decide) | exact TB.of BK181.out (by decide) | apply TB.set | apply TB.drewN | apply TB.drew | apply TB.alloc))) | exact HI157.out))) : g157 ≠ gb181)); have n12_ := Aside0.mk ((by rw [hg]; exact Nat.ne_of_gt (IsS45.lt (show IsS45 w _ g157 t180 from by repeat (first | (with_reducible first | exact HI157.out | apply IsS45.alloc | apply IsS45.drewN | apply IsS45.drew | refine IsS45.farB ?_ (by repeat (first | exact TB.of BK160.out (by decide) | exact TB.of BK181.out (by decide) | apply TB.set | apply TB.drewN | apply TB.drew | apply TB.alloc))) | exact HI157.out))) : gb181 ≠ g157)); clear BK160; clear HI155; clear HI157; clear HB; have BK160 := n0_; have HI155 := n1_; have HI157 := n2_; have HB := n3_; have BK181 := n4_; have GW181 := n5_; have GE181 := n6_; have NB160_181 := n7_; have NB181_160 := n8_; have NB155_181 := n9_; have NB181_155 := n10_; have NB157_181 := n11_; have NB181_157 := n12_; clear n0_ n1_ n2_ n3_ n4_ n5_ n6_ n7_ n8_ n9_ n10_ n11_ n12_; clear hb hbox hg; have hnb91 := NB181_160.out; have hnc91 := NB160_181.out; have hnb92 := NB181_155.out; have hnc92 := NB155_181.out; have hnb93 := NB181_157.out; have hnc93 := NB157_181.out; have hcz94_0 : w90.cell? ⟨gb181, 0, none⟩ = some (.int .i64 0) := (blk_cell BK181.out 0).trans rfl; have hcz94_1 : w90.cell? ⟨gb181, 1, none⟩ = some (.int .i64 0) := (blk_cell BK181.out 1).trans rfl; have hcz94_2 : w90.cell? ⟨gb181, 2, none⟩ = some (.int .i64 0) := (blk_cell BK181.out 2).trans rfl; have hfz94_0 := blk_frozen BK181.out 0; have hfz94_1 := blk_frozen BK181.out 1; have hfz94_2 := blk_frozen BK181.out 2))
             go_ret
             exact ⟨by first | rfl | (simp [errW_none, errW_some] <;> rfl) | (simp [*, errW_none, errW_some] <;> rfl), by repeat (first | (with_reducible first | exact HB.out | apply below_alloc | apply pw_below_drewN | apply below_drew1 | refine below_set ?_ (IsS42.ge HI155.out) | refine below_set ?_ (IsS45.ge HI157.out) | refine below_set ?_ GE160.out | refine below_set ?_ GE181.out) | exact HB.out)⟩
           ·rw [if_neg c65] at H
            have c65b0 : (t174 == t178) = false := beq_eq_false_iff_ne.mpr c65
            have c65b1 : (t174 != t178) = true := bne_iff_ne.mpr c65
            obtain rfl := Option.some.inj H
            go_wp2_with (first | ((with_reducible refine gate_callee (f := 12) rfl ?_); refine goesL_ (some 86) rfl rfl Try.func12 (by kernel_rfl) rfl #[.pointer (some ⟨g155, 0, none⟩)] rfl (by (try simp only [List.map_toArray, List.map_cons, List.map_nil]); first | done | rfl | (simp only [List.length_drop, List.length_take]; rfl)) ?_; (with_reducible refine (probe_Probe_Open.calls g155 x156000_10 t173 t174 t175 t176 w _ ?side1 ?side2 A62.out).mono ?_); (case side1 => repeat (first | (with_reducible first | exact HI155.out | apply IsS42.alloc | apply IsS42.drewN | apply IsS42.drew | refine IsS42.farB ?_ (by repeat (first | exact TB.of BK160.out (by decide) | exact TB.of BK181.out (by decide) | apply TB.set | apply TB.drewN | apply TB.drew | apply TB.alloc))) | exact HI155.out)); (case side2 => repeat (first | (with_reducible first | exact HB.out | apply below_alloc | apply pw_below_drewN | apply below_drew1 | refine below_set ?_ (IsS42.ge HI155.out) | refine below_set ?_ (IsS45.ge HI157.out) | refine below_set ?_ GE160.out) | exact HB.out)); rintro e w95 ⟨rfl, hi, hb, hk⟩; refine ⟨_, rfl, ?_⟩; have n0_ := Aside0.mk (hk.kblk (g' := gb160) (cs := #[.int .i64 ((rd_T28 l0 x5_1).f0), .int .i64 ((rd_T28 l0 x5_1).f1), .int .i64 ((rd_T28 l0 x5_1).f2), .int .i64 ((rd_T28 l0 x5_1).f3), .int .i64 ((rd_T28 l0 x5_1).f4), .int .i64 ((rd_T28 l0 x5_1).f5)]) (t := 28) (by (with_reducible repeat (first | refine blk_drewN ?_ _ | refine blk_drew ?_ | refine blk_alloc ?_ _)); exact BK160.out) NB160_155.out (by simp)); have n1_ := Aside0.mk (IsS45.keepM HI157.out (fun h_ => by repeat (first | (with_reducible first | exact h_ | apply IsS45.alloc | apply IsS45.drewN | apply IsS45.drew | refine IsS45.farB ?_ (by repeat (first | exact TB.of BK160.out (by decide) | exact TB.of BK181.out (by decide) | apply TB.set | apply TB.drewN | apply TB.drew | apply TB.alloc))) | exact HI157.out)) hk NB157_155.out); have n2_ := Aside0.mk (hb); have n3_ := Aside0.mk (hi); clear BK160; clear HI157; clear HB; clear HI155; have BK160 := n0_; have HI157 := n1_; have HB := n2_; have HI155 := n3_; clear n0_ n1_ n2_ n3_; (try clear hb); (try clear hb2); (try clear hk); (try clear hi)) | ((with_reducible refine gate_callee (f := 13) rfl ?_); refine goesL_ (some 91) rfl rfl Try.func13 (by kernel_rfl) rfl #[.pointer (some ⟨g157, 0, none⟩)] rfl (by (try simp only [List.map_toArray, List.map_cons, List.map_nil]); first | done | rfl | (simp only [List.length_drop, List.length_take]; rfl)) ?_; (with_reducible refine (flywheelref26_Probe_Open.calls g157 x158000_10 t177 t178 t179 t180 w _ ?side1 ?side2 A63.out).mono ?_); (case side1 => repeat (first | (with_reducible first | exact HI157.out | apply IsS45.alloc | apply IsS45.drewN | apply IsS45.drew | refine IsS45.farB ?_ (by repeat (first | exact TB.of BK160.out (by decide) | exact TB.of BK181.out (by decide) | apply TB.set | apply TB.drewN | apply TB.drew | apply TB.alloc))) | exact HI157.out)); (case side2 => repeat (first | (with_reducible first | exact HB.out | apply below_alloc | apply pw_below_drewN | apply below_drew1 | refine below_set ?_ (IsS42.ge HI155.out) | refine below_set ?_ (IsS45.ge HI157.out) | refine below_set ?_ GE160.out) | exact HB.out)); rintro e w96 ⟨rfl, hi, hb, hk⟩; refine ⟨_, rfl, ?_⟩; have n0_ := Aside0.mk (hk.kblk (g' := gb160) (cs := #[.int .i64 ((rd_T28 l0 x5_1).f0), .int .i64 ((rd_T28 l0 x5_1).f1), .int .i64 ((rd_T28 l0 x5_1).f2), .int .i64 ((rd_T28 l0 x5_1).f3), .int .i64 ((rd_T28 l0 x5_1).f4), .int .i64 ((rd_T28 l0 x5_1).f5)]) (t := 28) (by (with_reducible repeat (first | refine blk_drewN ?_ _ | refine blk_drew ?_ | refine blk_alloc ?_ _)); exact BK160.out) NB160_157.out (by simp)); have n1_ := Aside0.mk (IsS42.keepM HI155.out (fun h_ => by repeat (first | (with_reducible first | exact h_ | apply IsS42.alloc | apply IsS42.drewN | apply IsS42.drew | refine IsS42.farB ?_ (by repeat (first | exact TB.of BK160.out (by decide) | exact TB.of BK181.out (by decide) | apply TB.set | apply TB.drewN | apply TB.drew | apply TB.alloc))) | exact HI155.out)) hk NB155_157.out); have n2_ := Aside0.mk (hb); have n3_ := Aside0.mk (hi); clear BK160; clear HI155; clear HB; clear HI157; have BK160 := n0_; have HI155 := n1_; have HB := n2_; have HI157 := n3_; clear n0_ n1_ n2_ n3_; (try clear hb); (try clear hb2); (try clear hk); (try clear hi)) | ((with_reducible refine gate_dst (N := 10) rfl ?_); refine box_event ?hg (N := 10) ?hd (cs := #[.int .i64 0, .int .i64 0, .int .i64 0]) (t := 35) ?hr ?_; (case hd => rfl); (case hg => rfl); (case hr => first | (go_simp; done) | (go_simp; rfl)); intro gb181 hg w97 hbox hb; have n0_ := Aside0.mk (blk_below (g := gb160) (o := .cells #[.int .i64 ((rd_T28 l0 x5_1).f0), .int .i64 ((rd_T28 l0 x5_1).f1), .int .i64 ((rd_T28 l0 x5_1).f2), .int .i64 ((rd_T28 l0 x5_1).f3), .int .i64 ((rd_T28 l0 x5_1).f4), .int .i64 ((rd_T28 l0 x5_1).f5)] 28 (0, 0)) (by (with_reducible repeat (first | refine blk_drewN ?_ _ | refine blk_drew ?_ | refine blk_alloc ?_ _)); exact BK160.out) hb); have n1_ := Aside0.mk (IsS42.below (by repeat (first | (with_reducible first | exact HI155.out | apply IsS42.alloc | apply IsS42.drewN | apply IsS42.drew | refine IsS42.farB ?_ (by repeat (first | exact TB.of BK160.out (by decide) | exact TB.of BK181.out (by decide) | apply TB.set | apply TB.drewN | apply TB.drew | apply TB.alloc))) | exact HI155.out)) hb); have n2_ := Aside0.mk (IsS45.below (by repeat (first | (with_reducible first | exact HI157.out | apply IsS45.alloc | apply IsS45.drewN | apply IsS45.drew | refine IsS45.farB ?_ (by repeat (first | exact TB.of BK160.out (by decide) | exact TB.of BK181.out (by decide) | apply TB.set | apply TB.drewN | apply TB.drew | apply TB.alloc))) | exact HI157.out)) hb); have n3_ := Aside0.mk (below_step (by repeat (first | (with_reducible first | exact HB.out | apply below_alloc | apply pw_below_drewN | apply below_drew1 | refine below_set ?_ (IsS42.ge HI155.out) | refine below_set ?_ (IsS45.ge HI157.out) | refine below_set ?_ GE160.out) | exact HB.out)) hb); have n4_ := Aside0.mk (hbox); have n5_ := Aside0.mk ((by rw [hg]; exact (below_size (by repeat (first | (with_reducible first | exact HB.out | apply below_alloc | apply pw_below_drewN | apply below_drew1 | refine below_set ?_ (IsS42.ge HI155.out) | refine below_set ?_ (IsS45.ge HI157.out) | refine below_set ?_ GE160.out) | exact HB.out))) : w.heap.size ≤ gb181)); have n6_ := Aside0.mk ((by rw [hg]; exact (below_size (by repeat (first | (with_reducible first | exact HB.out | apply below_alloc | apply pw_below_drewN | apply below_drew1 | refine below_set ?_ (IsS42.ge HI155.out) | refine below_set ?_ (IsS45.ge HI157.out) | refine below_set ?_ GE160.out) | exact HB.out))) : w.heap.size ≤ gb181)); have n7_ := Aside0.mk ((by rw [hg]; exact Nat.ne_of_lt (blk_lt (g := gb160) (o := .cells #[.int .i64 ((rd_T28 l0 x5_1).f0), .int .i64 ((rd_T28 l0 x5_1).f1), .int .i64 ((rd_T28 l0 x5_1).f2), .int .i64 ((rd_T28 l0 x5_1).f3), .int .i64 ((rd_T28 l0 x5_1).f4), .int .i64 ((rd_T28 l0 x5_1).f5)] 28 (0, 0)) (by (with_reducible repeat (first | refine blk_drewN ?_ _ | refine blk_drew ?_ | refine blk_alloc ?_ _)); exact BK160.out)) : gb160 ≠ gb181)); have n8_ := Aside0.mk ((by rw [hg]; exact Nat.ne_of_gt (blk_lt (g := gb160) (o := .cells #[.int .i64 ((rd_T28 l0 x5_1).f0), .int .i64 ((rd_T28 l0 x5_1).f1), .int .i64 ((rd_T28 l0 x5_1).f2), .int .i64 ((rd_T28 l0 x5_1).f3), .int .i64 ((rd_T28 l0 x5_1).f4), .int .i64 ((rd_T28 l0 x5_1).f5)] 28 (0, 0)) (by (with_reducible repeat (first | refine blk_drewN ?_ _ | refine blk_drew ?_ | refine blk_alloc ?_ _)); exact BK160.out)) : gb181 ≠ gb160)); have n9_ := Aside0.mk ((by rw [hg]; exact Nat.ne_of_lt (IsS42.lt (show IsS42 w _ g155 t176 from by repeat (first | (with_reducible first | exact HI155.out | apply IsS42.alloc | apply IsS42.drewN | apply IsS42.drew | refine IsS42.farB ?_ (by repeat (first | exact TB.of BK160.out (by decide) | exact TB.of BK181.out (by decide) | apply TB.set | apply TB.drewN | apply TB.drew | apply TB.alloc))) | exact HI155.out))) : g155 ≠ gb181)); have n10_ := Aside0.mk ((by rw [hg]; exact Nat.ne_of_gt (IsS42.lt (show IsS42 w _ g155 t176 from by repeat (first | (with_reducible first | exact HI155.out | apply IsS42.alloc | apply IsS42.drewN | apply IsS42.drew | refine IsS42.farB ?_ (by repeat (first | exact TB.of BK160.out (by decide) | exact TB.of BK181.out (by decide) | apply TB.set | apply TB.drewN | apply TB.drew | apply TB.alloc))) | exact HI155.out))) : gb181 ≠ g155)); have n11_ := Aside0.mk ((by rw [hg]; exact Nat.ne_of_lt (IsS45.lt (show IsS45 w _ g157 t180 from by repeat (first | (with_reducible first | exact HI157.out | apply IsS45.alloc | apply IsS45.drewN | apply IsS45.drew | refine IsS45.farB ?_ (by repeat (first | exact TB.of BK160.out (by decide) | exact TB.of BK181.out (by decide) | apply TB.set | apply TB.drewN | apply TB.drew | apply TB.alloc))) | exact HI157.out))) : g157 ≠ gb181)); have n12_ := Aside0.mk ((by rw [hg]; exact Nat.ne_of_gt (IsS45.lt (show IsS45 w _ g157 t180 from by repeat (first | (with_reducible first | exact HI157.out | apply IsS45.alloc | apply IsS45.drewN | apply IsS45.drew | refine IsS45.farB ?_ (by repeat (first | exact TB.of BK160.out (by decide) | exact TB.of BK181.out (by decide) | apply TB.set | apply TB.drewN | apply TB.drew | apply TB.alloc))) | exact HI157.out))) : gb181 ≠ g157)); clear BK160; clear HI155; clear HI157; clear HB; have BK160 := n0_; have HI155 := n1_; have HI157 := n2_; have HB := n3_; have BK181 := n4_; have GW181 := n5_; have GE181 := n6_; have NB160_181 := n7_; have NB181_160 := n8_; have NB155_181 := n9_; have NB181_155 := n10_; have NB157_181 := n11_; have NB181_157 := n12_; clear n0_ n1_ n2_ n3_ n4_ n5_ n6_ n7_ n8_ n9_ n10_ n11_ n12_; clear hb hbox hg; have hnb98 := NB181_160.out; have hnc98 := NB160_181.out; have hnb99 := NB181_155.out; have hnc99 := NB155_181.out; have hnb100 := NB181_157.out; have hnc100 := NB157_181.out; have hcz101_0 : w97.cell? ⟨gb181, 0, none⟩ = some (.int .i64 0) := (blk_cell BK181.out 0).trans rfl; have hcz101_1 : w97.cell? ⟨gb181, 1, none⟩ = some (.int .i64 0) := (blk_cell BK181.out 1).trans rfl; have hcz101_2 : w97.cell? ⟨gb181, 2, none⟩ = some (.int .i64 0) := (blk_cell BK181.out 2).trans rfl; have hfz101_0 := blk_frozen BK181.out 0; have hfz101_1 := blk_frozen BK181.out 1; have hfz101_2 := blk_frozen BK181.out 2))
            go_ret
            exact ⟨by first | rfl | (simp [errW_none, errW_some] <;> rfl) | (simp [*, errW_none, errW_some] <;> rfl), by repeat (first | (with_reducible first | exact HB.out | apply below_alloc | apply pw_below_drewN | apply below_drew1 | refine below_set ?_ (IsS42.ge HI155.out) | refine below_set ?_ (IsS45.ge HI157.out) | refine below_set ?_ GE160.out | refine below_set ?_ GE181.out) | exact HB.out)⟩
          ·rw [if_neg c64] at H
           have c64b0 : (t173 == t177) = false := beq_eq_false_iff_ne.mpr c64
           have c64b1 : (t173 != t177) = true := bne_iff_ne.mpr c64
           obtain rfl := Option.some.inj H
           go_wp2_with (first | ((with_reducible refine gate_callee (f := 12) rfl ?_); refine goesL_ (some 86) rfl rfl Try.func12 (by kernel_rfl) rfl #[.pointer (some ⟨g155, 0, none⟩)] rfl (by (try simp only [List.map_toArray, List.map_cons, List.map_nil]); first | done | rfl | (simp only [List.length_drop, List.length_take]; rfl)) ?_; (with_reducible refine (probe_Probe_Open.calls g155 x156000_10 t173 t174 t175 t176 w _ ?side1 ?side2 A62.out).mono ?_); (case side1 => repeat (first | (with_reducible first | exact HI155.out | apply IsS42.alloc | apply IsS42.drewN | apply IsS42.drew | refine IsS42.farB ?_ (by repeat (first | exact TB.of BK160.out (by decide) | exact TB.of BK181.out (by decide) | apply TB.set | apply TB.drewN | apply TB.drew | apply TB.alloc))) | exact HI155.out)); (case side2 => repeat (first | (with_reducible first | exact HB.out | apply below_alloc | apply pw_below_drewN | apply below_drew1 | refine below_set ?_ (IsS42.ge HI155.out) | refine below_set ?_ (IsS45.ge HI157.out) | refine below_set ?_ GE160.out) | exact HB.out)); rintro e w102 ⟨rfl, hi, hb, hk⟩; refine ⟨_, rfl, ?_⟩; have n0_ := Aside0.mk (hk.kblk (g' := gb160) (cs := #[.int .i64 ((rd_T28 l0 x5_1).f0), .int .i64 ((rd_T28 l0 x5_1).f1), .int .i64 ((rd_T28 l0 x5_1).f2), .int .i64 ((rd_T28 l0 x5_1).f3), .int .i64 ((rd_T28 l0 x5_1).f4), .int .i64 ((rd_T28 l0 x5_1).f5)]) (t := 28) (by (with_reducible repeat (first | refine blk_drewN ?_ _ | refine blk_drew ?_ | refine blk_alloc ?_ _)); exact BK160.out) NB160_155.out (by simp)); have n1_ := Aside0.mk (IsS45.keepM HI157.out (fun h_ => by repeat (first | (with_reducible first | exact h_ | apply IsS45.alloc | apply IsS45.drewN | apply IsS45.drew | refine IsS45.farB ?_ (by repeat (first | exact TB.of BK160.out (by decide) | exact TB.of BK181.out (by decide) | apply TB.set | apply TB.drewN | apply TB.drew | apply TB.alloc))) | exact HI157.out)) hk NB157_155.out); have n2_ := Aside0.mk (hb); have n3_ := Aside0.mk (hi); clear BK160; clear HI157; clear HB; clear HI155; have BK160 := n0_; have HI157 := n1_; have HB := n2_; have HI155 := n3_; clear n0_ n1_ n2_ n3_; (try clear hb); (try clear hb2); (try clear hk); (try clear hi)) | ((with_reducible refine gate_callee (f := 13) rfl ?_); refine goesL_ (some 91) rfl rfl Try.func13 (by kernel_rfl) rfl #[.pointer (some ⟨g157, 0, none⟩)] rfl (by (try simp only [List.map_toArray, List.map_cons, List.map_nil]); first | done | rfl | (simp only [List.length_drop, List.length_take]; rfl)) ?_; (with_reducible refine (flywheelref26_Probe_Open.calls g157 x158000_10 t177 t178 t179 t180 w _ ?side1 ?side2 A63.out).mono ?_); (case side1 => repeat (first | (with_reducible first | exact HI157.out | apply IsS45.alloc | apply IsS45.drewN | apply IsS45.drew | refine IsS45.farB ?_ (by repeat (first | exact TB.of BK160.out (by decide) | exact TB.of BK181.out (by decide) | apply TB.set | apply TB.drewN | apply TB.drew | apply TB.alloc))) | exact HI157.out)); (case side2 => repeat (first | (with_reducible first | exact HB.out | apply below_alloc | apply pw_below_drewN | apply below_drew1 | refine below_set ?_ (IsS42.ge HI155.out) | refine below_set ?_ (IsS45.ge HI157.out) | refine below_set ?_ GE160.out) | exact HB.out)); rintro e w103 ⟨rfl, hi, hb, hk⟩; refine ⟨_, rfl, ?_⟩; have n0_ := Aside0.mk (hk.kblk (g' := gb160) (cs := #[.int .i64 ((rd_T28 l0 x5_1).f0), .int .i64 ((rd_T28 l0 x5_1).f1), .int .i64 ((rd_T28 l0 x5_1).f2), .int .i64 ((rd_T28 l0 x5_1).f3), .int .i64 ((rd_T28 l0 x5_1).f4), .int .i64 ((rd_T28 l0 x5_1).f5)]) (t := 28) (by (with_reducible repeat (first | refine blk_drewN ?_ _ | refine blk_drew ?_ | refine blk_alloc ?_ _)); exact BK160.out) NB160_157.out (by simp)); have n1_ := Aside0.mk (IsS42.keepM HI155.out (fun h_ => by repeat (first | (with_reducible first | exact h_ | apply IsS42.alloc | apply IsS42.drewN | apply IsS42.drew | refine IsS42.farB ?_ (by repeat (first | exact TB.of BK160.out (by decide) | exact TB.of BK181.out (by decide) | apply TB.set | apply TB.drewN | apply TB.drew | apply TB.alloc))) | exact HI155.out)) hk NB155_157.out); have n2_ := Aside0.mk (hb); have n3_ := Aside0.mk (hi); clear BK160; clear HI155; clear HB; clear HI157; have BK160 := n0_; have HI155 := n1_; have HB := n2_; have HI157 := n3_; clear n0_ n1_ n2_ n3_; (try clear hb); (try clear hb2); (try clear hk); (try clear hi)) | ((with_reducible refine gate_dst (N := 10) rfl ?_); refine box_event ?hg (N := 10) ?hd (cs := #[.int .i64 0, .int .i64 0, .int .i64 0]) (t := 35) ?hr ?_; (case hd => rfl); (case hg => rfl); (case hr => first | (go_simp; done) | (go_simp; rfl)); intro gb181 hg w104 hbox hb; have n0_ := Aside0.mk (blk_below (g := gb160) (o := .cells #[.int .i64 ((rd_T28 l0 x5_1).f0), .int .i64 ((rd_T28 l0 x5_1).f1), .int .i64 ((rd_T28 l0 x5_1).f2), .int .i64 ((rd_T28 l0 x5_1).f3), .int .i64 ((rd_T28 l0 x5_1).f4), .int .i64 ((rd_T28 l0 x5_1).f5)] 28 (0, 0)) (by (with_reducible repeat (first | refine blk_drewN ?_ _ | refine blk_drew ?_ | refine blk_alloc ?_ _)); exact BK160.out) hb); have n1_ := Aside0.mk (IsS42.below (by repeat (first | (with_reducible first | exact HI155.out | apply IsS42.alloc | apply IsS42.drewN | apply IsS42.drew | refine IsS42.farB ?_ (by repeat (first | exact TB.of BK160.out (by decide) | exact TB.of BK181.out (by decide) | apply TB.set | apply TB.drewN | apply TB.drew | apply TB.alloc))) | exact HI155.out)) hb); have n2_ := Aside0.mk (IsS45.below (by repeat (first | (with_reducible first | exact HI157.out | apply IsS45.alloc | apply IsS45.drewN | apply IsS45.drew | refine IsS45.farB ?_ (by repeat (first | exact TB.of BK160.out (by decide) | exact TB.of BK181.out (by decide) | apply TB.set | apply TB.drewN | apply TB.drew | apply TB.alloc))) | exact HI157.out)) hb); have n3_ := Aside0.mk (below_step (by repeat (first | (with_reducible first | exact HB.out | apply below_alloc | apply pw_below_drewN | apply below_drew1 | refine below_set ?_ (IsS42.ge HI155.out) | refine below_set ?_ (IsS45.ge HI157.out) | refine below_set ?_ GE160.out) | exact HB.out)) hb); have n4_ := Aside0.mk (hbox); have n5_ := Aside0.mk ((by rw [hg]; exact (below_size (by repeat (first | (with_reducible first | exact HB.out | apply below_alloc | apply pw_below_drewN | apply below_drew1 | refine below_set ?_ (IsS42.ge HI155.out) | refine below_set ?_ (IsS45.ge HI157.out) | refine below_set ?_ GE160.out) | exact HB.out))) : w.heap.size ≤ gb181)); have n6_ := Aside0.mk ((by rw [hg]; exact (below_size (by repeat (first | (with_reducible first | exact HB.out | apply below_alloc | apply pw_below_drewN | apply below_drew1 | refine below_set ?_ (IsS42.ge HI155.out) | refine below_set ?_ (IsS45.ge HI157.out) | refine below_set ?_ GE160.out) | exact HB.out))) : w.heap.size ≤ gb181)); have n7_ := Aside0.mk ((by rw [hg]; exact Nat.ne_of_lt (blk_lt (g := gb160) (o := .cells #[.int .i64 ((rd_T28 l0 x5_1).f0), .int .i64 ((rd_T28 l0 x5_1).f1), .int .i64 ((rd_T28 l0 x5_1).f2), .int .i64 ((rd_T28 l0 x5_1).f3), .int .i64 ((rd_T28 l0 x5_1).f4), .int .i64 ((rd_T28 l0 x5_1).f5)] 28 (0, 0)) (by (with_reducible repeat (first | refine blk_drewN ?_ _ | refine blk_drew ?_ | refine blk_alloc ?_ _)); exact BK160.out)) : gb160 ≠ gb181)); have n8_ := Aside0.mk ((by rw [hg]; exact Nat.ne_of_gt (blk_lt (g := gb160) (o := .cells #[.int .i64 ((rd_T28 l0 x5_1).f0), .int .i64 ((rd_T28 l0 x5_1).f1), .int .i64 ((rd_T28 l0 x5_1).f2), .int .i64 ((rd_T28 l0 x5_1).f3), .int .i64 ((rd_T28 l0 x5_1).f4), .int .i64 ((rd_T28 l0 x5_1).f5)] 28 (0, 0)) (by (with_reducible repeat (first | refine blk_drewN ?_ _ | refine blk_drew ?_ | refine blk_alloc ?_ _)); exact BK160.out)) : gb181 ≠ gb160)); have n9_ := Aside0.mk ((by rw [hg]; exact Nat.ne_of_lt (IsS42.lt (show IsS42 w _ g155 t176 from by repeat (first | (with_reducible first | exact HI155.out | apply IsS42.alloc | apply IsS42.drewN | apply IsS42.drew | refine IsS42.farB ?_ (by repeat (first | exact TB.of BK160.out (by decide) | exact TB.of BK181.out (by decide) | apply TB.set | apply TB.drewN | apply TB.drew | apply TB.alloc))) | exact HI155.out))) : g155 ≠ gb181)); have n10_ := Aside0.mk ((by rw [hg]; exact Nat.ne_of_gt (IsS42.lt (show IsS42 w _ g155 t176 from by repeat (first | (with_reducible first | exact HI155.out | apply IsS42.alloc | apply IsS42.drewN | apply IsS42.drew | refine IsS42.farB ?_ (by repeat (first | exact TB.of BK160.out (by decide) | exact TB.of BK181.out (by decide) | apply TB.set | apply TB.drewN | apply TB.drew | apply TB.alloc))) | exact HI155.out))) : gb181 ≠ g155)); have n11_ := Aside0.mk ((by rw [hg]; exact Nat.ne_of_lt (IsS45.lt (show IsS45 w _ g157 t180 from by repeat (first | (with_reducible first | exact HI157.out | apply IsS45.alloc | apply IsS45.drewN | apply IsS45.drew | refine IsS45.farB ?_ (by repeat (first | exact TB.of BK160.out (by decide) | exact TB.of BK181.out (by decide) | apply TB.set | apply TB.drewN | apply TB.drew | apply TB.alloc))) | exact HI157.out))) : g157 ≠ gb181)); have n12_ := Aside0.mk ((by rw [hg]; exact Nat.ne_of_gt (IsS45.lt (show IsS45 w _ g157 t180 from by repeat (first | (with_reducible first | exact HI157.out | apply IsS45.alloc | apply IsS45.drewN | apply IsS45.drew | refine IsS45.farB ?_ (by repeat (first | exact TB.of BK160.out (by decide) | exact TB.of BK181.out (by decide) | apply TB.set | apply TB.drewN | apply TB.drew | apply TB.alloc))) | exact HI157.out))) : gb181 ≠ g157)); clear BK160; clear HI155; clear HI157; clear HB; have BK160 := n0_; have HI155 := n1_; have HI157 := n2_; have HB := n3_; have BK181 := n4_; have GW181 := n5_; have GE181 := n6_; have NB160_181 := n7_; have NB181_160 := n8_; have NB155_181 := n9_; have NB181_155 := n10_; have NB157_181 := n11_; have NB181_157 := n12_; clear n0_ n1_ n2_ n3_ n4_ n5_ n6_ n7_ n8_ n9_ n10_ n11_ n12_; clear hb hbox hg; have hnb105 := NB181_160.out; have hnc105 := NB160_181.out; have hnb106 := NB181_155.out; have hnc106 := NB155_181.out; have hnb107 := NB181_157.out; have hnc107 := NB157_181.out; have hcz108_0 : w104.cell? ⟨gb181, 0, none⟩ = some (.int .i64 0) := (blk_cell BK181.out 0).trans rfl; have hcz108_1 : w104.cell? ⟨gb181, 1, none⟩ = some (.int .i64 0) := (blk_cell BK181.out 1).trans rfl; have hcz108_2 : w104.cell? ⟨gb181, 2, none⟩ = some (.int .i64 0) := (blk_cell BK181.out 2).trans rfl; have hfz108_0 := blk_frozen BK181.out 0; have hfz108_1 := blk_frozen BK181.out 1; have hfz108_2 := blk_frozen BK181.out 2))
           go_ret
           exact ⟨by first | rfl | (simp [errW_none, errW_some] <;> rfl) | (simp [*, errW_none, errW_some] <;> rfl), by repeat (first | (with_reducible first | exact HB.out | apply below_alloc | apply pw_below_drewN | apply below_drew1 | refine below_set ?_ (IsS42.ge HI155.out) | refine below_set ?_ (IsS45.ge HI157.out) | refine below_set ?_ GE160.out | refine below_set ?_ GE181.out) | exact HB.out)⟩
       ·rw [if_neg c10] at H
        exact absurd H (by simp)
      ·rw [if_neg c9] at H
       exact absurd H (by simp)
     ·replace c8 := Bool.eq_false_iff.mpr c8
      subst c8
      have H1 : ((flywheellaw26_wakes.f).bind fun t158 => (some t158)) = some r := by rw [if_neg (show ¬ (false = true) by decide)] at H; exact H
      clear H
      have H := H1
      clear H1
      replace H := Option.bind_eq_some_iff.mp H
      obtain ⟨t158, A1090, H⟩ := H
      replace H : (some t158) = some r := H
      have A109 := Aside0.mk A1090
      clear A1090
      obtain rfl := Option.some.inj H
      go_wp2_with (first | ((with_reducible refine gate_callee (f := 16) rfl ?_); refine goesL_ (some 115) rfl rfl Try.func16 (by kernel_rfl) rfl #[] rfl (by (try simp only [List.map_toArray, List.map_cons, List.map_nil]); first | done | rfl | (simp only [List.length_drop, List.length_take]; rfl)) ?_; (with_reducible refine (flywheellaw26_wakes.calls  t158 _ A109.out).mono ?_); rintro e w110 ⟨rfl, hb⟩; refine ⟨_, rfl, ?_⟩; have n0_ := Aside0.mk (IsS42.below (by repeat (first | (with_reducible first | exact HI155.out | apply IsS42.alloc | apply IsS42.drewN | apply IsS42.drew) | exact HI155.out)) hb); have n1_ := Aside0.mk (IsS45.below (by repeat (first | (with_reducible first | exact HI157.out | apply IsS45.alloc | apply IsS45.drewN | apply IsS45.drew) | exact HI157.out)) hb); have n2_ := Aside0.mk (below_step (by repeat (first | (with_reducible first | exact HB.out | apply below_alloc | apply pw_below_drewN | apply below_drew1 | refine below_set ?_ (IsS42.ge HI155.out) | refine below_set ?_ (IsS45.ge HI157.out)) | exact HB.out)) hb); clear HI155; clear HI157; clear HB; have HI155 := n0_; have HI157 := n1_; have HB := n2_; clear n0_ n1_ n2_; (try clear hb); (try clear hb2); (try clear hk); (try clear hi)))
      go_ret
      exact ⟨by first | rfl | (simp [errW_none, errW_some] <;> rfl) | (simp [*, errW_none, errW_some] <;> rfl), by repeat (first | (with_reducible first | exact HB.out | apply below_alloc | apply pw_below_drewN | apply below_drew1 | refine below_set ?_ (IsS42.ge HI155.out) | refine below_set ?_ (IsS45.ge HI157.out)) | exact HB.out)⟩
def flywheellaw26_ProbePlays.Pure : Prop := ∀ (l0 : List (S28)), l0.length ≤ maxLen → l0.length * 48 ≤ 140737488351232 → (∀ x ∈ l0, (Lit.int .i64 x.f0).wf = true ∧ (Lit.int .i64 x.f1).wf = true ∧ (Lit.int .i64 x.f2).wf = true ∧ (Lit.int .i64 x.f3).wf = true ∧ (Lit.int .i64 x.f4).wf = true ∧ (Lit.int .i64 x.f5).wf = true) → ∃ k, flywheellaw26_ProbePlays.f k l0 = some true
theorem flywheellaw26_ProbePlays.walk (P : flywheellaw26_ProbePlays.Pure) (A0 : Option Addr) (c0 : Nat) (l0 : List (S28)) (w : World) (hm0 : l0.length ≤ maxLen) (y0 : l0.length * 48 ≤ 140737488351232) (hw0 : (∀ x ∈ l0, (Lit.int .i64 x.f0).wf = true ∧ (Lit.int .i64 x.f1).wf = true ∧ (Lit.int .i64 x.f2).wf = true ∧ (Lit.int .i64 x.f3).wf = true ∧ (Lit.int .i64 x.f4).wf = true ∧ (Lit.int .i64 x.f5).wf = true)) (hr0 : Kd.C k28 w A0 l0.length l0) (hc0 : l0.length ≤ c0) :
  Calls Try.prog 3 #[.slice A0 l0.length c0] w fun e w' => e = .returned (.bool true) ∧ Below w.heap.size w w' := by
 obtain ⟨k, h⟩ := P l0 hm0 y0 hw0
 refine (flywheellaw26_ProbePlays.calls k A0 c0 l0 true w hr0 hc0 h).mono ?_
 rintro e w' ⟨rfl, hd⟩
 exact ⟨rfl, hd⟩
end Go.Proofs.Ytdddpmmpfemibaa.P
end

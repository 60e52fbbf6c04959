-- PUT TOGETHER by a program of this session: of the claim's texts, what is used
import Derived.Test.YtlgfnclgkhfhpaaKAllocSums2
import Derived.Test.YtlgfnclgkhfhpaaKAllocSums7
section
namespace Go.Proofs.Ytlgfnclgkhfhpaa.P
open Go.RowKit Go.Proofs.YtlgfnclgkhfhpaaW.PrintWords Go.Proofs.YtlgfnclgkhfhpaaW.PrintLast Go.Proofs.YtlgfnclgkhfhpaaW.PrintMore
attribute [local go_sem] max2_int min2_int max_two min_two max_three min_three max_four min_four   -- for this text's walks alone
set_option linter.unusedVariables false
set_option linter.unusedSimpArgs false
mutual
def alloc_Split.l0 : Nat → List (S31) → Int → List Int → List (S31) → Int → Int → Option (List Int)
 | 0, _, _, _, _, _, _ => none
 | k + 1, x1, x5, x6, x17, x18, x19 => if x19 < x18 then (if 0 ≤ x19 then (if x19 < (x17.length : Int) then (if x6.length < 17592186044416 then (alloc_Split.l0 k x1 (wrap64 (x5 - (mn ((rd_T31 x17 x19).f1) x5))) (x6 ++ [mn ((rd_T31 x17 x19).f1) x5]) x17 x18 (wrap64 (x19 + 1))) else (none)) else (none)) else (none)) else (alloc_Split.l1 k x1 x5 x6)
def alloc_Split.l1 : Nat → List (S31) → Int → List Int → Option (List Int)
 | 0, _, _, _ => none
 | k + 1, x1, x5, x6 => (alloc_round.f k x5 x1 x6).bind fun bt137 => (if bt137.2.1 = true then (if (wrap64 (x5 - bt137.1)) > 0 then (alloc_Split.l1 k x1 (wrap64 (x5 - bt137.1)) bt137.2.2) else (some bt137.2.2)) else (some bt137.2.2))
end
def alloc_Split.f (k : Nat) (a0 : Int) (l1 : List (S31)) : Option (List Int) := (alloc_Good.f k l1).bind fun t130 => (if t130 = true then ((sat_Clamp.f a0 0 17179869184).bind fun t131 => (alloc_Split.l0 k l1 t131 ([] : List Int) l1 (l1.length : Int) 0)) else (some ([] : List Int)))
theorem alloc_Split.mono_l : ∀ k, (∀ y0 y1 y2 y3 y4 y5, LeO (alloc_Split.l0 k y0 y1 y2 y3 y4 y5) (alloc_Split.l0 (k + 1) y0 y1 y2 y3 y4 y5)) ∧ (∀ y0 y1 y2, LeO (alloc_Split.l1 k y0 y1 y2) (alloc_Split.l1 (k + 1) y0 y1 y2))
 | 0 => ⟨fun _ _ _ _ _ _ r h => by simp [alloc_Split.l0] at h, fun _ _ _ r h => by simp [alloc_Split.l1] at h⟩
 | k + 1 => by
  obtain ⟨ih0, ih1⟩ := alloc_Split.mono_l k
  refine ⟨?_, ?_⟩
  ·intro y0 y1 y2 y3 y4 y5
   unfold alloc_Split.l0
   repeat' first
   | (with_reducible exact ih0 _ _ _ _ _ _)
   | (with_reducible exact ih1 _ _ _)
   | (with_reducible exact alloc_Good.mono _ _)
   | (with_reducible exact alloc_round.mono _ _ _ _)
   | (with_reducible exact LeO.refl _)
   | (with_reducible exact LeO.none _)
   | (with_reducible refine LeO.ite ?_ ?_)
   | (with_reducible refine LeO.bind ?_ (fun _ => ?_))
   | exact ih0 _ _ _ _ _ _
   | exact ih1 _ _ _
   | exact alloc_Good.mono _ _
   | exact alloc_round.mono _ _ _ _
   | exact LeO.none _
   | refine LeO.ite ?_ ?_
   | refine LeO.bind ?_ (fun _ => ?_)
  ·intro y0 y1 y2
   unfold alloc_Split.l1
   repeat' first
   | (with_reducible exact ih0 _ _ _ _ _ _)
   | (with_reducible exact ih1 _ _ _)
   | (with_reducible exact alloc_Good.mono _ _)
   | (with_reducible exact alloc_round.mono _ _ _ _)
   | (with_reducible exact LeO.refl _)
   | (with_reducible exact LeO.none _)
   | (with_reducible refine LeO.ite ?_ ?_)
   | (with_reducible refine LeO.bind ?_ (fun _ => ?_))
   | exact ih0 _ _ _ _ _ _
   | exact ih1 _ _ _
   | exact alloc_Good.mono _ _
   | exact alloc_round.mono _ _ _ _
   | exact LeO.none _
   | refine LeO.ite ?_ ?_
   | refine LeO.bind ?_ (fun _ => ?_)
theorem alloc_Split.mono : ∀ a0 a1 k, LeO (alloc_Split.f k a0 a1) (alloc_Split.f (k + 1) a0 a1) := by
 intro a0 a1 k
 obtain ⟨ih0, ih1⟩ := alloc_Split.mono_l k
 unfold alloc_Split.f
 repeat' first
   | (with_reducible exact ih0 _ _ _ _ _ _)
   | (with_reducible exact ih1 _ _ _)
   | (with_reducible exact alloc_Good.mono _ _)
   | (with_reducible exact alloc_round.mono _ _ _ _)
   | (with_reducible exact LeO.refl _)
   | (with_reducible exact LeO.none _)
   | (with_reducible refine LeO.ite ?_ ?_)
   | (with_reducible refine LeO.bind ?_ (fun _ => ?_))
   | exact ih0 _ _ _ _ _ _
   | exact ih1 _ _ _
   | exact alloc_Good.mono _ _
   | exact alloc_round.mono _ _ _ _
   | exact LeO.none _
   | refine LeO.ite ?_ ?_
   | refine LeO.bind ?_ (fun _ => ?_)
set_option maxHeartbeats 8000000 in
set_option maxRecDepth 100000 in
theorem alloc_Split.calls (k : Nat) (a0 : Int) (A1 : Option Addr) (c1 : Nat) (l1 : List (S31)) (r : List Int) (w : World) (hr1 : Kd.C k31 w A1 l1.length l1) (hc1 : l1.length ≤ c1) (h : alloc_Split.f k a0 l1 = some r) :
  Calls Try.prog 18 #[.int .i64 a0, .slice A1 l1.length c1] w fun e w' => ∃ v0_ : Value, e = .returned (v0_) ∧ Kd.R (Kd.int .i64) 2 w' w.heap.size (fun _ => True) v0_ r ∧ Below w.heap.size w w' := by
 have hu31 := Try.underlying31
 have HR1 := Aside0.mk hr1
 have HC1 := Aside0.mk hc1
 clear hr1 hc1
 have HB := Aside0.mk (Below.refl w.heap.size w)
 have H : ((alloc_Good.f k l1).bind fun t130 => (if t130 = true then ((sat_Clamp.f a0 0 17179869184).bind fun t131 => (alloc_Split.l0 k l1 t131 ([] : List Int) l1 (l1.length : Int) 0)) else (some ([] : List Int)))) = some r := h
 clear h
 replace H := Option.bind_eq_some_iff.mp H
 obtain ⟨t130, A30, H⟩ := H
 replace H : (if t130 = true then ((sat_Clamp.f a0 0 17179869184).bind fun t131 => (alloc_Split.l0 k l1 t131 ([] : List Int) l1 (l1.length : Int) 0)) else (some ([] : List Int))) = some r := H
 have A3 := Aside0.mk A30
 clear A30
 by_cases c4 : t130 = true
 ·subst c4
  have H1 : ((sat_Clamp.f a0 0 17179869184).bind fun t131 => (alloc_Split.l0 k l1 t131 ([] : List Int) l1 (l1.length : Int) 0)) = some r := by rw [if_pos rfl] at H; exact H
  clear H
  have H := H1
  clear H1
  replace H := Option.bind_eq_some_iff.mp H
  obtain ⟨t131, A50, H⟩ := H
  replace H : (alloc_Split.l0 k l1 t131 ([] : List Int) l1 (l1.length : Int) 0) = some r := H
  have A5 := Aside0.mk A50
  clear A50
  have H' := Aside0.mk H
  clear H
  go_enter Try.func18, Try.ntmps18
  go_wp2
  obtain ⟨J_, hJ_⟩ : ∃ J_ : Nat → Act → World → Prop, J_ = (fun kq a_ w' => ∃ (x5_2 : Int) (x6_2 : List Int) (u2 u3 u4 u6 u7 u8 u9 u10 u11 u12 u13 u14 u15 u16 u17 u18 u19 u20 u21 u22 u23 u24 u25 u26 u27 u28 u29 u30 u31 u32 u33 u34 u35 u36 u37 u38 u39 u40 u41 u42 u43 u44 u45 u46 u47 u48 : Value), a_ = { tmps := #[.int .i64 a0, .slice A1 l1.length c1, u2, u3, u4, .int .i64 x5_2, u6, u7, u8, u9, u10, u11, u12, u13, u14, u15, u16, u17, u18, u19, u20, u21, u22, u23, u24, u25, u26, u27, u28, u29, u30, u31, u32, u33, u34, u35, u36, u37, u38, u39, u40, u41, u42, u43, u44, u45, u46, u47, u48], defers := [] } ∧ Aside0 (alloc_Split.l1 kq l1 x5_2 x6_2 = some r) ∧ Aside0 (kq ≤ k) ∧ Aside0 (Kd.R (Kd.int .i64) 2 w' w.heap.size (fun _ => True) u6 x6_2) ∧ Aside0 (Below w.heap.size w w')) := ⟨_, rfl⟩
  refine wp_scope_ghost2 0 J_ rfl ?pass (fun PASS0 => ?first)
  case pass =>
   intro gk a_ wr hJ
   rw [hJ_] at hJ
   obtain ⟨x5_2, x6_2, u2, u3, u4, u6, u7, u8, u9, u10, u11, u12, u13, u14, u15, u16, u17, u18, u19, u20, u21, u22, u23, u24, u25, u26, u27, u28, u29, u30, u31, u32, u33, u34, u35, u36, u37, u38, u39, u40, u41, u42, u43, u44, u45, u46, u47, u48, rfl, HA, HK2, HO_6, HB⟩ := hJ
   cases gk with
   | zero => exact absurd HA.out (by simp [alloc_Split.l1])
   | succ k2 =>
    have H := HA.out
    clear HA
    simp only [alloc_Split.l1] at H
    replace H := Option.bind_eq_some_iff.mp H
    obtain ⟨⟨t137, t138, t139⟩, A150, H⟩ := H
    replace H : (if t138 = true then (if (wrap64 (x5_2 - t137)) > 0 then (alloc_Split.l1 k2 l1 (wrap64 (x5_2 - t137)) t139) else (some t139)) else (some t139)) = some r := H
    have A15 := Aside0.mk A150
    clear A150
    by_cases c16 : t138 = true
    ·subst c16
     have H1 : (if (wrap64 (x5_2 - t137)) > 0 then (alloc_Split.l1 k2 l1 (wrap64 (x5_2 - t137)) t139) else (some t139)) = some r := by rw [if_pos rfl] at H; exact H
     clear H
     have H := H1
     clear H1
     by_cases c17 : (wrap64 (x5_2 - t137)) > 0
     ·rw [if_pos c17] at H
      have c17b0 : decide (0 < (wrap64 (x5_2 - t137))) = true := decide_eq_true c17
      clear c17
      have H' := Aside0.mk H
      clear H
      obtain ⟨Ao18, co18, eo18⟩ := Kd.R_slice HO_6.out
      subst eo18
      go_wp2_with (first | ((with_reducible refine gate_callee (f := 40) rfl ?_); refine goesL_ (some 39) rfl rfl Try.func40 (by kernel_rfl) rfl #[.int .i64 x5_2, .slice A1 l1.length c1, .slice Ao18 x6_2.length co18] rfl (by (try simp only [List.map_toArray, List.map_cons, List.map_nil]); first | done | rfl | (simp only [List.length_drop, List.length_take]; rfl)) ?_; (with_reducible refine (alloc_round.calls k2 x5_2 _ _ l1 (fun k_ => some k_ = (.slice Ao18 x6_2.length co18 : Value).ownBlock) (.slice Ao18 x6_2.length co18) x6_2 t137 true t139 w _ ?side1 ?side2 ?side3 ?side4 A15.out).mono ?_); (case side1 => repeat (first | (with_reducible first | exact HB.out | apply below_alloc | apply pw_below_drewN | apply below_drew1) | exact HB.out)); (case side2 => exact Kd.C_kept_came k31_heap HR1.out (by repeat (first | (with_reducible first | exact HB.out | apply below_alloc | apply pw_below_drewN | apply below_drew1) | exact HB.out)) (fun k_ hs_ => (fun e_ => Kd.R_base HO_6.out k_ e_.symm) hs_)); (case side3 => exact HC1.out); (case side4 => exact Kd.R_tight rfl HO_6.out); rintro e w19 ⟨rfl, hy0, hb, hkp⟩; refine ⟨_, rfl, ?_⟩; have n0_ := Aside0.mk (Kd.R_reok rfl hy0 (fun k_ e_ => HO_6.out.1 k_ e_)); have n1_ := Aside0.mk (hb); clear HO_6; clear HB; have HO_6 := n0_; have HB := n1_; clear n0_ n1_; (try clear hb); (try clear hkp); (try clear hy0)))
      go_step3
      refine ⟨rfl, k2, by omega, ?_⟩
      rw [hJ_]
      exact ⟨(wrap64 (x5_2 - t137)), (t139), _, _, _, _, _, _, _, _, _, _, _, _, _, _, _, _, _, _, _, _, _, _, _, _, _, _, _, _, _, _, _, _, _, _, _, _, _, _, _, _, _, _, _, _, _, _, rfl, H', ⟨by have := HK2.out; omega⟩, ⟨by (with_reducible repeat (first | apply Kd.R_alloc | apply Kd.R_drewN | apply Kd.R_drew)); exact HO_6.out⟩, ⟨by repeat (first | (with_reducible first | exact HB.out | apply below_alloc | apply pw_below_drewN | apply below_drew1) | exact HB.out)⟩⟩
     ·rw [if_neg c17] at H
      have c17b0 : decide (0 < (wrap64 (x5_2 - t137))) = false := decide_eq_false c17
      clear c17
      obtain rfl := Option.some.inj H
      obtain ⟨Ao20, co20, eo20⟩ := Kd.R_slice HO_6.out
      subst eo20
      go_wp2_with (first | ((with_reducible refine gate_callee (f := 40) rfl ?_); refine goesL_ (some 39) rfl rfl Try.func40 (by kernel_rfl) rfl #[.int .i64 x5_2, .slice A1 l1.length c1, .slice Ao20 x6_2.length co20] rfl (by (try simp only [List.map_toArray, List.map_cons, List.map_nil]); first | done | rfl | (simp only [List.length_drop, List.length_take]; rfl)) ?_; (with_reducible refine (alloc_round.calls k2 x5_2 _ _ l1 (fun k_ => some k_ = (.slice Ao20 x6_2.length co20 : Value).ownBlock) (.slice Ao20 x6_2.length co20) x6_2 t137 true t139 w _ ?side1 ?side2 ?side3 ?side4 A15.out).mono ?_); (case side1 => repeat (first | (with_reducible first | exact HB.out | apply below_alloc | apply pw_below_drewN | apply below_drew1) | exact HB.out)); (case side2 => exact Kd.C_kept_came k31_heap HR1.out (by repeat (first | (with_reducible first | exact HB.out | apply below_alloc | apply pw_below_drewN | apply below_drew1) | exact HB.out)) (fun k_ hs_ => (fun e_ => Kd.R_base HO_6.out k_ e_.symm) hs_)); (case side3 => exact HC1.out); (case side4 => exact Kd.R_tight rfl HO_6.out); rintro e w21 ⟨rfl, hy0, hb, hkp⟩; refine ⟨_, rfl, ?_⟩; have n0_ := Aside0.mk (Kd.R_reok rfl hy0 (fun k_ e_ => HO_6.out.1 k_ e_)); have n1_ := Aside0.mk (hb); clear HO_6; clear HB; have HO_6 := n0_; have HB := n1_; clear n0_ n1_; (try clear hb); (try clear hkp); (try clear hy0)))
      simp only [Exit.jump]
      go_ret
      exact ⟨_, by first | rfl | (simp [errW_none, errW_some] <;> rfl) | (simp [*, errW_none, errW_some] <;> rfl), by (with_reducible repeat (first | apply Kd.R_alloc | apply Kd.R_drewN | apply Kd.R_drew)); exact HO_6.out, by repeat (first | (with_reducible first | exact HB.out | apply below_alloc | apply pw_below_drewN | apply below_drew1) | exact HB.out)⟩
    ·replace c16 := Bool.eq_false_iff.mpr c16
     subst c16
     have H1 : (some t139) = some r := by rw [if_neg (show ¬ (false = true) by decide)] at H; exact H
     clear H
     have H := H1
     clear H1
     obtain rfl := Option.some.inj H
     obtain ⟨Ao22, co22, eo22⟩ := Kd.R_slice HO_6.out
     subst eo22
     go_wp2_with (first | ((with_reducible refine gate_callee (f := 40) rfl ?_); refine goesL_ (some 39) rfl rfl Try.func40 (by kernel_rfl) rfl #[.int .i64 x5_2, .slice A1 l1.length c1, .slice Ao22 x6_2.length co22] rfl (by (try simp only [List.map_toArray, List.map_cons, List.map_nil]); first | done | rfl | (simp only [List.length_drop, List.length_take]; rfl)) ?_; (with_reducible refine (alloc_round.calls k2 x5_2 _ _ l1 (fun k_ => some k_ = (.slice Ao22 x6_2.length co22 : Value).ownBlock) (.slice Ao22 x6_2.length co22) x6_2 t137 false t139 w _ ?side1 ?side2 ?side3 ?side4 A15.out).mono ?_); (case side1 => repeat (first | (with_reducible first | exact HB.out | apply below_alloc | apply pw_below_drewN | apply below_drew1) | exact HB.out)); (case side2 => exact Kd.C_kept_came k31_heap HR1.out (by repeat (first | (with_reducible first | exact HB.out | apply below_alloc | apply pw_below_drewN | apply below_drew1) | exact HB.out)) (fun k_ hs_ => (fun e_ => Kd.R_base HO_6.out k_ e_.symm) hs_)); (case side3 => exact HC1.out); (case side4 => exact Kd.R_tight rfl HO_6.out); rintro e w23 ⟨rfl, hy0, hb, hkp⟩; refine ⟨_, rfl, ?_⟩; have n0_ := Aside0.mk (Kd.R_reok rfl hy0 (fun k_ e_ => HO_6.out.1 k_ e_)); have n1_ := Aside0.mk (hb); clear HO_6; clear HB; have HO_6 := n0_; have HB := n1_; clear n0_ n1_; (try clear hb); (try clear hkp); (try clear hy0)))
     simp only [Exit.jump]
     go_ret
     exact ⟨_, by first | rfl | (simp [errW_none, errW_some] <;> rfl) | (simp [*, errW_none, errW_some] <;> rfl), by (with_reducible repeat (first | apply Kd.R_alloc | apply Kd.R_drewN | apply Kd.R_drew)); exact HO_6.out, by repeat (first | (with_reducible first | exact HB.out | apply below_alloc | apply pw_below_drewN | apply below_drew1) | exact HB.out)⟩
  case first =>
   have PASS := Aside0.mk PASS0
   clear PASS0
   go_wp2_with (first | ((with_reducible refine gate_callee (f := 14) rfl ?_); refine goesL_ (some 13) rfl rfl Try.func14 (by kernel_rfl) rfl #[.slice A1 l1.length c1] rfl (by (try simp only [List.map_toArray, List.map_cons, List.map_nil]); first | done | rfl | (simp only [List.length_drop, List.length_take]; rfl)) ?_; (with_reducible refine (alloc_Good.calls k _ _ l1 true _ ?side1 ?side2 A3.out).mono ?_); (case side1 => repeat (first | exact HR1.out | (with_reducible refine Kd.C_alloc ?_ _) | (with_reducible refine Kd.C_drewN ?_ _) | (with_reducible refine Kd.C_drew ?_))); (case side2 => exact HC1.out); rintro e w6 ⟨rfl, hb⟩; refine ⟨_, rfl, ?_⟩; have n0_ := Aside0.mk (below_step (by repeat (first | (with_reducible first | exact HB.out | apply below_alloc | apply pw_below_drewN | apply below_drew1) | exact HB.out)) hb); clear HB; have HB := n0_; clear n0_; (try clear hb); (try clear hb2); (try clear hk); (try clear hi)) | ((with_reducible refine gate_callee (f := 39) rfl ?_); refine goesL_ (some 16) rfl rfl Try.func39 (by kernel_rfl) rfl #[.int .i64 a0, .int .i64 0, .int .i64 17179869184] rfl (by (try simp only [List.map_toArray, List.map_cons, List.map_nil]); first | done | rfl | (simp only [List.length_drop, List.length_take]; rfl)) ?_; (with_reducible refine (sat_Clamp.calls a0 0 17179869184 t131 _ A5.out).mono ?_); rintro e w' ⟨rfl, ⟨nd, rfl⟩⟩; refine ⟨_, rfl, ?_⟩))
   go_loopg [5, 6, 19] k (fun kq v5 v6 v19 w' => ∃ (x5_1 : Int) (x6_1 : List Int) (x19_1 : Int), v5 = .int .i64 x5_1 ∧ v19 = .int .i64 x19_1 ∧ Aside0 (alloc_Split.l0 kq l1 x5_1 x6_1 l1 (l1.length : Int) x19_1 = some r) ∧ Aside0 (kq ≤ k) ∧ Aside0 (Kd.R (Kd.int .i64) 2 w' w.heap.size (fun _ => True) v6 x6_1) ∧ Aside0 (Below w.heap.size w w'))
   case atStart => exact ⟨(t131), (([] : List Int)), (0), (by first | rfl | (simp; done) | (simp [*]; done)), (by first | rfl | (simp; done) | (simp [*]; done)), H', ⟨Nat.le_refl _⟩, ⟨by first | exact Kd.R_nil _ _ _ _ _ | exact Kd.N_nil _ _ _ _ _ | exact Kd.V_nil _ _ _ _ _ | exact Kd.Q_nil _ _ _ _ _ | exact Kd.S_nil _ _ _ _ _⟩, ⟨by repeat (first | (with_reducible first | exact HB.out | apply below_alloc | apply pw_below_drewN | apply below_drew1) | exact HB.out)⟩⟩
   case round =>
    clear H'
    try clear c1
    try clear p2
    try clear c3
    try clear c4
    obtain ⟨x5_1, x6_1, x19_1, rfl, rfl, HA, HK1, HO_6, HB⟩ := hrel
    cases gk with
    | zero => exact absurd HA.out (by simp [alloc_Split.l0])
    | succ k1 =>
     have H := HA.out
     clear HA
     simp only [alloc_Split.l0] at H
     by_cases c7 : x19_1 < (l1.length : Int)
     ·rw [if_pos c7] at H
      have c7b0 : decide (x19_1 < (l1.length : Int)) = true := decide_eq_true c7
      clear c7
      by_cases c8 : 0 ≤ x19_1
      ·rw [if_pos c8] at H
       have c8b0 : decide (0 ≤ x19_1) = true := decide_eq_true c8
       clear c8
       by_cases c9 : x19_1 < (l1.length : Int)
       ·rw [if_pos c9] at H
        have c9b0 : decide (x19_1 < (l1.length : Int)) = true := decide_eq_true c9
        clear c9
        obtain ⟨ji10, hji10⟩ : ∃ j_ : Int, (mn ((rd_T31 l1 x19_1).f1) x5_1) = j_ := ⟨_, rfl⟩
        replace H : (if x6_1.length < 17592186044416 then (alloc_Split.l0 k1 l1 (wrap64 (x5_1 - (ji10))) (x6_1 ++ [ji10]) l1 (l1.length : Int) (wrap64 (x19_1 + 1))) else (none)) = some r := by first | (rw [hji10] at H; exact H) | (simp only [hji10] at H ⊢; exact H)
        have hji10_ : (if x5_1 < ((rd_T31 l1 x19_1).f1) then x5_1 else ((rd_T31 l1 x19_1).f1)) = ji10 := hji10
        by_cases c11 : x6_1.length < 17592186044416
        ·rw [if_pos c11] at H
         have LMc11 := Aside0.mk c11
         clear c11
         obtain ⟨y134, hy134⟩ : ∃ y_ : List Int, y_ = (x6_1 ++ [ji10]) := ⟨_, rfl⟩
         replace H : (alloc_Split.l0 k1 l1 (wrap64 (x5_1 - (ji10))) y134 l1 (l1.length : Int) (wrap64 (x19_1 + 1))) = some r := by first | (rw [hy134]; with_reducible exact H) | (have H2_ := (Option.bind_some _ _).symm.trans H; rw [hy134]; with_reducible exact H2_) | (have H2_ := (Option.bind_some _ _).symm.trans H; with_reducible exact H2_) | with_reducible exact H | (rw [hy134]; exact H) | exact H
         have Ny134 := Aside0.mk hy134
         clear hy134
         have H' := Aside0.mk H
         clear H
         have p132 : 0 ≤ (x19_1 : Int) := of_decide_eq_true (by first | (with_reducible assumption) | assumption)
         have q132 : x19_1 < (l1.length : Int) := of_decide_eq_true (by first | (with_reducible assumption) | assumption)
         obtain ⟨ad132, e132, hx132_0, hx132_1, hx132_2⟩ := at_T31 HR1.out x19_1 p132 q132
         cases e132
         replace hx132_0 := (HB.out.cell (World.block_lt_of_cell? w _ hx132_0)).trans hx132_0
         replace hx132_1 := (HB.out.cell (World.block_lt_of_cell? w _ hx132_1)).trans hx132_1
         replace hx132_2 := (HB.out.cell (World.block_lt_of_cell? w _ hx132_2)).trans hx132_2
         replace p132 := eq_true p132
         replace q132 := eq_true q132
         go_wp2_with (first | ((with_reducible refine gate_dst (N := 8) rfl ?_); refine box_event ?hg (N := 8) ?hd (cs := #[.int .i64 0, .int .i64 0, .int .i64 0]) (t := 31) ?hr ?_; (case hd => rfl); (case hg => rfl); (case hr => first | (go_simp; done) | (go_simp; rfl)); intro gb133 hg w12 hbox hb; have n0_ := Aside0.mk (Kd.R_below (by (with_reducible repeat (first | apply Kd.R_alloc | apply Kd.R_drewN | apply Kd.R_drew)); exact HO_6.out) hb); have n1_ := Aside0.mk (below_step (by repeat (first | (with_reducible first | exact HB.out | apply below_alloc | apply pw_below_drewN | apply below_drew1) | exact HB.out)) hb); have n2_ := Aside0.mk (hbox); have n3_ := Aside0.mk ((by rw [hg]; exact (below_size (by repeat (first | (with_reducible first | exact HB.out | apply below_alloc | apply pw_below_drewN | apply below_drew1) | exact HB.out))) : w.heap.size ≤ gb133)); have n4_ := Aside0.mk ((by rw [hg]; exact (below_size (by repeat (first | (with_reducible first | exact HB.out | apply below_alloc | apply pw_below_drewN | apply below_drew1) | exact HB.out))) : w.heap.size ≤ gb133)); clear HO_6; clear HB; have HO_6 := n0_; have HB := n1_; have BK133 := n2_; have GW133 := n3_; have GE133 := n4_; clear n0_ n1_ n2_ n3_ n4_; clear hb hbox hg; have hcz13_0 : w12.cell? ⟨gb133, 0, none⟩ = some (.int .i64 0) := (blk_cell BK133.out 0).trans rfl; have hcz13_1 : w12.cell? ⟨gb133, 1, none⟩ = some (.int .i64 0) := (blk_cell BK133.out 1).trans rfl; have hcz13_2 : w12.cell? ⟨gb133, 2, none⟩ = some (.int .i64 0) := (blk_cell BK133.out 2).trans rfl; have hfz13_0 := blk_frozen BK133.out 0; have hfz13_1 := blk_frozen BK133.out 1; have hfz13_2 := blk_frozen BK133.out 2) | ((with_reducible refine gate_builtin (b := .append) (xs := #[.tmp 27, .tmp 29]) rfl ?_); at_builtin; refine Kd.R_append (Kd.int .i64) (w0 := w) w.heap.size rfl (.tmp 27) (.tmp 29) 27 2 (.int .i64 0) 8 rfl Try.underlying27 info2 rfl (by decide) (by omega) u6 x6_1 ji10 [.int .i64 ji10] (fun _ => True) (fun _ => False) rfl (by first | (go_simp; done) | (go_simp; rfl)) ?aP (fun _ hk => hk.elim) ?aF ?aO ?aB ?aS ?aL ?_; (case aP => exact rfl); (case aB => exact (by repeat (first | (with_reducible first | exact HB.out | apply below_alloc | apply pw_below_drewN | apply below_drew1 | refine below_set ?_ GE133.out) | exact HB.out))); (case aF => exact (fun _ _ => trivial)); (case aO => exact (by (with_reducible repeat (first | apply Kd.R_alloc | apply Kd.R_drewN | apply Kd.R_drew)); exact Kd.R_mono (Kd.R_far (p := ⟨gb133, 2, none⟩) (Kd.R_far (p := ⟨gb133, 1, none⟩) (Kd.R_far (p := ⟨gb133, 0, none⟩) (Kd.R_types HO_6.out BK133.out (by decide)) (fun _ hk => hk.2) (.int .i64 ((rd_T31 l1 x19_1).f0))) (fun _ hk => hk.2) (.int .i64 ((rd_T31 l1 x19_1).f1))) (fun _ hk => hk.2) (.int .i64 ((rd_T31 l1 x19_1).f2))) (fun _ hk => trivial))); (case aS => exact (below_size (by repeat (first | (with_reducible first | exact HB.out | apply below_alloc | apply pw_below_drewN | apply below_drew1 | refine below_set ?_ GE133.out) | exact HB.out)))); (case aL => have := LMc11.out; omega); intro v135 w14 ho hb hg hat; rw [← Ny134.out] at ho; have n0_ := Aside0.mk (blk_grown (g := gb133) (o := .cells #[.int .i64 ((rd_T31 l1 x19_1).f0), .int .i64 ((rd_T31 l1 x19_1).f1), .int .i64 ((rd_T31 l1 x19_1).f2)] 31 (0, 0)) (by (with_reducible repeat (first | refine blk_drewN ?_ _ | refine blk_drew ?_ | refine blk_alloc ?_ _)); refine blk_put (cs := #[.int .i64 ((rd_T31 l1 x19_1).f0), .int .i64 ((rd_T31 l1 x19_1).f1), .int .i64 0]) ?_ 2 _ rfl; (with_reducible repeat (first | refine blk_drewN ?_ _ | refine blk_drew ?_ | refine blk_alloc ?_ _)); refine blk_put (cs := #[.int .i64 ((rd_T31 l1 x19_1).f0), .int .i64 0, .int .i64 0]) ?_ 1 _ rfl; (with_reducible repeat (first | refine blk_drewN ?_ _ | refine blk_drew ?_ | refine blk_alloc ?_ _)); refine blk_put (cs := #[.int .i64 0, .int .i64 0, .int .i64 0]) ?_ 0 _ rfl; (with_reducible repeat (first | refine blk_drewN ?_ _ | refine blk_drew ?_ | refine blk_alloc ?_ _)); exact BK133.out) hg (Kd.R_ne HO_6.out BK133.out (by decide))); have n1_ := Aside0.mk (hb); have n2_ := Aside0.mk (ho); clear BK133; clear HB; clear HO_6; have BK133 := n0_; have HB := n1_; have HO136 := n2_; clear n0_ n1_ n2_; clear ho hb hg hat))
         go_roundg k1
         case measure => have := HK1.out; omega
         case rel => exact ⟨(wrap64 (x5_1 - (ji10))), (y134), (wrap64 (x19_1 + 1)), (by first | rfl | (simp; done) | (simp only [← hji10] <;> (first | rfl | simp)) | (simp [*]; done)), (by first | rfl | (simp; done) | (simp [*]; done)), H', ⟨by have := HK1.out; omega⟩, ⟨by (with_reducible repeat (first | apply Kd.R_alloc | apply Kd.R_drewN | apply Kd.R_drew)); exact HO136.out⟩, ⟨by repeat (first | (with_reducible first | exact HB.out | apply below_alloc | apply pw_below_drewN | apply below_drew1 | refine below_set ?_ GE133.out) | exact HB.out)⟩⟩
        ·rw [if_neg c11] at H
         exact absurd H (by simp)
       ·rw [if_neg c9] at H
        exact absurd H (by simp)
      ·rw [if_neg c8] at H
       exact absurd H (by simp)
     ·rw [if_neg c7] at H
      have c7b0 : decide (x19_1 < (l1.length : Int)) = false := decide_eq_false c7
      clear c7
      have H' := Aside0.mk H
      clear H
      go_wp2
      (first | refine wp_label_then (PASS.out k1 _ _ ?_) | (refine wp_label ?_; rename ∀ (a : Act) (w : World), Code.wp _ _ _ a w → _ => hK_; refine hK_ _ _ (PASS.out k1 _ _ ?_)))
      rw [hJ_]
      exact ⟨(x5_1), (x6_1), _, _, _, _, _, _, _, _, _, _, _, _, _, _, _, _, _, _, _, _, _, _, _, _, _, _, _, _, _, _, _, _, _, _, _, _, _, _, _, _, _, _, _, _, _, _, rfl, H', ⟨by have := HK1.out; omega⟩, ⟨by (with_reducible repeat (first | apply Kd.R_alloc | apply Kd.R_drewN | apply Kd.R_drew)); exact HO_6.out⟩, ⟨by repeat (first | (with_reducible first | exact HB.out | apply below_alloc | apply pw_below_drewN | apply below_drew1) | exact HB.out)⟩⟩
 ·replace c4 := Bool.eq_false_iff.mpr c4
  subst c4
  have H1 : (some ([] : List Int)) = some r := by rw [if_neg (show ¬ (false = true) by decide)] at H; exact H
  clear H
  have H := H1
  clear H1
  obtain rfl := Option.some.inj H
  go_enter Try.func18, Try.ntmps18
  go_wp2
  go_step3
  go_wp2_with (first | ((with_reducible refine gate_callee (f := 14) rfl ?_); refine goesL_ (some 13) rfl rfl Try.func14 (by kernel_rfl) rfl #[.slice A1 l1.length c1] rfl (by (try simp only [List.map_toArray, List.map_cons, List.map_nil]); first | done | rfl | (simp only [List.length_drop, List.length_take]; rfl)) ?_; (with_reducible refine (alloc_Good.calls k _ _ l1 false _ ?side1 ?side2 A3.out).mono ?_); (case side1 => repeat (first | exact HR1.out | (with_reducible refine Kd.C_alloc ?_ _) | (with_reducible refine Kd.C_drewN ?_ _) | (with_reducible refine Kd.C_drew ?_))); (case side2 => exact HC1.out); rintro e w24 ⟨rfl, hb⟩; refine ⟨_, rfl, ?_⟩; have n0_ := Aside0.mk (below_step (by repeat (first | (with_reducible first | exact HB.out | apply below_alloc | apply pw_below_drewN | apply below_drew1) | exact HB.out)) hb); clear HB; have HB := n0_; clear n0_; (try clear hb); (try clear hb2); (try clear hk); (try clear hi)))
  (try rw [Exit.noGoto_ret])
  go_ret
  exact ⟨_, by first | rfl | (simp [errW_none, errW_some] <;> rfl) | (simp [*, errW_none, errW_some] <;> rfl), by first | exact Kd.R_nil _ _ _ _ _ | exact Kd.N_nil _ _ _ _ _ | exact Kd.V_nil _ _ _ _ _ | exact Kd.Q_nil _ _ _ _ _ | exact Kd.S_nil _ _ _ _ _, by repeat (first | (with_reducible first | exact HB.out | apply below_alloc | apply pw_below_drewN | apply below_drew1) | exact HB.out)⟩
def alloc_Split.nilres.f (k : Nat) (a0 : Int) (l1 : List (S31)) : Option Int := (alloc_Good.f k l1).bind fun t => (if t = true then (none) else (some 0))
set_option maxHeartbeats 8000000 in
set_option maxRecDepth 100000 in
theorem alloc_Split.nilres.calls (k : Nat) (a0 : Int) (A1 : Option Addr) (c1 : Nat) (l1 : List (S31)) (r : Int) (w : World) (hr1 : Kd.C k31 w A1 l1.length l1) (hc1 : l1.length ≤ c1) (h : alloc_Split.nilres.f k a0 l1 = some r) :
  Calls Try.prog 18 #[.int .i64 a0, .slice A1 l1.length c1] w fun e w' => e = .returned (.slice none 0 0) ∧ Below w.heap.size w w' := by
 obtain ⟨b, A, H⟩ := Option.bind_eq_some_iff.mp h
 cases b with
 | true => simp at H
 | false =>
  go_enter Try.func18, Try.ntmps18
  go_wp2
  go_step3
  go_wp2_with (first | ((with_reducible refine gate_callee (f := 14) rfl ?_); refine goesL_ (some 13) rfl rfl Try.func14 (by kernel_rfl) rfl #[.slice A1 l1.length c1] rfl (by (try simp only [List.map_toArray, List.map_cons, List.map_nil]); first | done | rfl) ?_; (with_reducible refine (alloc_Good.calls k A1 c1 l1 false _ hr1 hc1 A).mono ?_); rintro e w1 ⟨rfl, hb⟩; refine ⟨_, rfl, ?_⟩))
  (try rw [Exit.noGoto_ret])
  go_ret
  exact ⟨rfl, hb⟩
def flywheellaw27_wakes.f (k : Nat)  : Option (Bool) := (alloc_Split.f k 1000 (([(⟨1, 0, 10000⟩ : S31), (⟨3, 0, 10000⟩ : S31)] : List (S31)))).bind fun t143 => (if (t143.length : Int) = 2 then (if 0 < (t143.length : Int) then (if (rd t143 0) = 250 then (if 1 < (t143.length : Int) then (some ((rd t143 1) == 750)) else (none)) else (some false)) else (none)) else (some false))
theorem flywheellaw27_wakes.mono : ∀ k, LeO (flywheellaw27_wakes.f k ) (flywheellaw27_wakes.f (k + 1) ) := by
 intro  k
 unfold flywheellaw27_wakes.f
 repeat' first
   | (with_reducible exact alloc_Split.mono _ _ _)
   | (with_reducible exact LeO.refl _)
   | (with_reducible exact LeO.none _)
   | (with_reducible refine LeO.ite ?_ ?_)
   | (with_reducible refine LeO.bind ?_ (fun _ => ?_))
   | exact alloc_Split.mono _ _ _
   | exact LeO.none _
   | refine LeO.ite ?_ ?_
   | refine LeO.bind ?_ (fun _ => ?_)
set_option maxHeartbeats 8000000 in
set_option maxRecDepth 100000 in
theorem flywheellaw27_wakes.calls (k : Nat)  (r : Bool) (w : World) (h : flywheellaw27_wakes.f k  = some r) :
  Calls Try.prog 13 #[] w fun e w' => e = .returned (.bool r) ∧ Below w.heap.size w w' := by
 have hu31 := Try.underlying31
 have HB := Aside0.mk (Below.refl w.heap.size w)
 have H : ((alloc_Split.f k 1000 (([(⟨1, 0, 10000⟩ : S31), (⟨3, 0, 10000⟩ : S31)] : List (S31)))).bind fun t143 => (if (t143.length : Int) = 2 then (if 0 < (t143.length : Int) then (if (rd t143 0) = 250 then (if 1 < (t143.length : Int) then (some ((rd t143 1) == 750)) else (none)) else (some false)) else (none)) else (some false))) = some r := h
 clear h
 obtain ⟨y140, hy140⟩ : ∃ y_ : List (S31), y_ = (([(⟨1, 0, 10000⟩ : S31), (⟨3, 0, 10000⟩ : S31)] : List (S31))) := ⟨_, rfl⟩
 replace H : ((alloc_Split.f k 1000 y140).bind fun t143 => (if (t143.length : Int) = 2 then (if 0 < (t143.length : Int) then (if (rd t143 0) = 250 then (if 1 < (t143.length : Int) then (some ((rd t143 1) == 750)) else (none)) else (some false)) else (none)) else (some false))) = some r := by first | (rw [hy140]; with_reducible exact H) | (have H2_ := (Option.bind_some _ _).symm.trans H; rw [hy140]; with_reducible exact H2_) | (have H2_ := (Option.bind_some _ _).symm.trans H; with_reducible exact H2_) | with_reducible exact H | (rw [hy140]; exact H) | exact H
 have Ny140 := Aside0.mk hy140
 clear hy140
 replace H := Option.bind_eq_some_iff.mp H
 obtain ⟨t143, A10, H⟩ := H
 replace H : (if (t143.length : Int) = 2 then (if 0 < (t143.length : Int) then (if (rd t143 0) = 250 then (if 1 < (t143.length : Int) then (some ((rd t143 1) == 750)) else (none)) else (some false)) else (none)) else (some false)) = some r := H
 have A1 := Aside0.mk A10
 clear A10
 by_cases c2 : (t143.length : Int) = 2
 ·rw [if_pos c2] at H
  have c2b0 : ((t143.length : Int) == 2) = true := beq_iff_eq.mpr c2
  have c2b1 : ((t143.length : Int) != 2) = false := bne_eq_false_iff_eq.mpr c2
  clear c2
  by_cases c3 : 0 < (t143.length : Int)
  ·rw [if_pos c3] at H
   have c3b0 : decide (0 < (t143.length : Int)) = true := decide_eq_true c3
   have c3b1 : decide (0 < t143.length) = true := decide_eq_true (by omega)
   clear c3
   by_cases c4 : (rd t143 0) = 250
   ·rw [if_pos c4] at H
    have c4b0 : ((rd t143 0) == 250) = true := beq_iff_eq.mpr c4
    have c4b1 : ((rd t143 0) != 250) = false := bne_eq_false_iff_eq.mpr c4
    clear c4
    by_cases c5 : 1 < (t143.length : Int)
    ·rw [if_pos c5] at H
     have c5b0 : decide (1 < (t143.length : Int)) = true := decide_eq_true c5
     have c5b1 : decide (1 < t143.length) = true := decide_eq_true (by omega)
     clear c5
     obtain rfl := Option.some.inj H
     go_enter Try.func13, Try.ntmps13
     go_wp2_with (first | ((with_reducible refine gate_dst (N := 4) rfl ?_); refine Kd.R_lit k31 _ 31 ?hg (N := 4) ?hd (xs := ([(⟨1, 0, 10000⟩ : S31), (⟨3, 0, 10000⟩ : S31)] : List (S31))) (inner := [.int .i64 1, .int .i64 0, .int .i64 10000, .int .i64 3, .int .i64 0, .int .i64 10000]) (ok := fun _ => True) (okp := fun _ => True) ?hr ?hp (fun _ hk => hk) trivial (Below.refl _ _) (Nat.le_refl _) (by simp) ?_; (case hd => rfl); (case hg => rfl); (case hr => first | (go_simp; done) | (go_simp; rfl)); (case hp => exact (Reps.c3 (show Kd.M k31 _ _ _ (⟨1, 0, 10000⟩ : S31) [.int .i64 1, .int .i64 0, .int .i64 10000] from (k31_mkM _ _ _ (⟨1, 0, 10000⟩ : S31) )) (Reps.c3 (show Kd.M k31 _ _ _ (⟨3, 0, 10000⟩ : S31) [.int .i64 3, .int .i64 0, .int .i64 10000] from (k31_mkM _ _ _ (⟨3, 0, 10000⟩ : S31) )) (Reps.none _ _)))); intro v141 w6 ho7 hb hg_ hnew_; clear hg_ hnew_; (first | rw [← Ny140.out] at ho7 | (simp only [Int.reduceToNat] at ho7; rw [← Ny140.out] at ho7)); have n0_ := Aside0.mk (Kd.R_lower ho7 (below_size (by repeat (first | (with_reducible first | exact HB.out | apply below_alloc | apply pw_below_drewN | apply below_drew1) | exact HB.out)))); have n1_ := Aside0.mk (below_step (by repeat (first | (with_reducible first | exact HB.out | apply below_alloc | apply pw_below_drewN | apply below_drew1) | exact HB.out)) hb); clear HB; have HO142 := n0_; have HB := n1_; clear n0_ n1_; clear hb ho7; obtain ⟨Ao8, co8, eo8⟩ := Kd.R_slice HO142.out; subst eo8) | ((with_reducible refine gate_callee (f := 18) rfl ?_); refine goesL_ (some 5) rfl rfl Try.func18 (by kernel_rfl) rfl #[.int .i64 1000, .slice Ao8 y140.length co8] rfl (by (try simp only [List.map_toArray, List.map_cons, List.map_nil]); first | done | rfl | (simp only [List.length_drop, List.length_take]; rfl)) ?_; (with_reducible refine (alloc_Split.calls k 1000 _ _ y140 t143 _ ?side1 ?side2 A1.out).mono ?_); (case side1 => repeat (first | exact (Kd.R_reads' HO142.out).2.2 | (with_reducible refine Kd.C_alloc ?_ _) | (with_reducible refine Kd.C_drewN ?_ _) | (with_reducible refine Kd.C_drew ?_))); (case side2 => exact (Kd.R_reads' HO142.out).2.1); rintro e w9 ⟨v144, rfl, ho0, hb⟩; refine ⟨_, rfl, ?_⟩; have n0_ := Aside0.mk (Kd.R_below (by (with_reducible repeat (first | apply Kd.R_alloc | apply Kd.R_drewN | apply Kd.R_drew)); exact HO142.out) hb); have n1_ := Aside0.mk (Kd.R_lower ho0 (below_size (by repeat (first | (with_reducible first | exact HB.out | apply below_alloc | apply pw_below_drewN | apply below_drew1) | exact HB.out)))); have n2_ := Aside0.mk (below_step (by repeat (first | (with_reducible first | exact HB.out | apply below_alloc | apply pw_below_drewN | apply below_drew1) | exact HB.out)) hb); clear HO142; clear HB; have HO142 := n0_; have HO145 := n1_; have HB := n2_; clear n0_ n1_ n2_; (try clear hb); (try clear hb2); (try clear hk); (try clear hi); (try clear ho0); obtain ⟨Ao10, co10, eo10⟩ := Kd.R_slice HO145.out; subst eo10; have p146 : 0 ≤ (0 : Int) := (by omega); have q146 : 0 < (t143.length : Int) := of_decide_eq_true (by first | (with_reducible assumption) | assumption); obtain ⟨ad146, e146, hx146_0⟩ := Kd.at_int (Kd.R_reads' HO145.out).2.2 0 p146 q146; cases e146; have qi146 : (0 < t143.length) = True := eq_true (by omega); (try rw [show ((0 : Int)).toNat = 0 from rfl] at hx146_0); (try rw [Addr.add_zero'] at hx146_0); replace p146 := eq_true p146; replace q146 := eq_true q146; have p147 : 0 ≤ (1 : Int) := (by omega); have q147 : 1 < (t143.length : Int) := of_decide_eq_true (by first | (with_reducible assumption) | assumption); obtain ⟨ad147, e147, hx147_0⟩ := Kd.at_int (Kd.R_reads' HO145.out).2.2 1 p147 q147; obtain rfl : ad146 = ad147 := (by injection e147); (try simp only [show (1 : Int).toNat = 1 from rfl, Nat.reduceMul, Nat.reduceEqDiff, Go.Addr.add, ↓reduceIte] at hx147_0); have qi147 : (1 < t143.length) = True := eq_true (by omega); (try rw [show ((1 : Int)).toNat = 1 from rfl] at hx147_0); replace p147 := eq_true p147; replace q147 := eq_true q147))
     go_ret
     exact ⟨by first | rfl | (simp [errW_none, errW_some] <;> rfl) | (simp [*, errW_none, errW_some] <;> rfl), by repeat (first | (with_reducible first | exact HB.out | apply below_alloc | apply pw_below_drewN | apply below_drew1) | exact HB.out)⟩
    ·rw [if_neg c5] at H
     exact absurd H (by simp)
   ·rw [if_neg c4] at H
    have c4b0 : ((rd t143 0) == 250) = false := beq_eq_false_iff_ne.mpr c4
    have c4b1 : ((rd t143 0) != 250) = true := bne_iff_ne.mpr c4
    obtain rfl := Option.some.inj H
    go_enter Try.func13, Try.ntmps13
    go_wp2_with (first | ((with_reducible refine gate_dst (N := 4) rfl ?_); refine Kd.R_lit k31 _ 31 ?hg (N := 4) ?hd (xs := ([(⟨1, 0, 10000⟩ : S31), (⟨3, 0, 10000⟩ : S31)] : List (S31))) (inner := [.int .i64 1, .int .i64 0, .int .i64 10000, .int .i64 3, .int .i64 0, .int .i64 10000]) (ok := fun _ => True) (okp := fun _ => True) ?hr ?hp (fun _ hk => hk) trivial (Below.refl _ _) (Nat.le_refl _) (by simp) ?_; (case hd => rfl); (case hg => rfl); (case hr => first | (go_simp; done) | (go_simp; rfl)); (case hp => exact (Reps.c3 (show Kd.M k31 _ _ _ (⟨1, 0, 10000⟩ : S31) [.int .i64 1, .int .i64 0, .int .i64 10000] from (k31_mkM _ _ _ (⟨1, 0, 10000⟩ : S31) )) (Reps.c3 (show Kd.M k31 _ _ _ (⟨3, 0, 10000⟩ : S31) [.int .i64 3, .int .i64 0, .int .i64 10000] from (k31_mkM _ _ _ (⟨3, 0, 10000⟩ : S31) )) (Reps.none _ _)))); intro v141 w11 ho12 hb hg_ hnew_; clear hg_ hnew_; (first | rw [← Ny140.out] at ho12 | (simp only [Int.reduceToNat] at ho12; rw [← Ny140.out] at ho12)); have n0_ := Aside0.mk (Kd.R_lower ho12 (below_size (by repeat (first | (with_reducible first | exact HB.out | apply below_alloc | apply pw_below_drewN | apply below_drew1) | exact HB.out)))); have n1_ := Aside0.mk (below_step (by repeat (first | (with_reducible first | exact HB.out | apply below_alloc | apply pw_below_drewN | apply below_drew1) | exact HB.out)) hb); clear HB; have HO142 := n0_; have HB := n1_; clear n0_ n1_; clear hb ho12; obtain ⟨Ao13, co13, eo13⟩ := Kd.R_slice HO142.out; subst eo13) | ((with_reducible refine gate_callee (f := 18) rfl ?_); refine goesL_ (some 5) rfl rfl Try.func18 (by kernel_rfl) rfl #[.int .i64 1000, .slice Ao13 y140.length co13] rfl (by (try simp only [List.map_toArray, List.map_cons, List.map_nil]); first | done | rfl | (simp only [List.length_drop, List.length_take]; rfl)) ?_; (with_reducible refine (alloc_Split.calls k 1000 _ _ y140 t143 _ ?side1 ?side2 A1.out).mono ?_); (case side1 => repeat (first | exact (Kd.R_reads' HO142.out).2.2 | (with_reducible refine Kd.C_alloc ?_ _) | (with_reducible refine Kd.C_drewN ?_ _) | (with_reducible refine Kd.C_drew ?_))); (case side2 => exact (Kd.R_reads' HO142.out).2.1); rintro e w14 ⟨v144, rfl, ho0, hb⟩; refine ⟨_, rfl, ?_⟩; have n0_ := Aside0.mk (Kd.R_below (by (with_reducible repeat (first | apply Kd.R_alloc | apply Kd.R_drewN | apply Kd.R_drew)); exact HO142.out) hb); have n1_ := Aside0.mk (Kd.R_lower ho0 (below_size (by repeat (first | (with_reducible first | exact HB.out | apply below_alloc | apply pw_below_drewN | apply below_drew1) | exact HB.out)))); have n2_ := Aside0.mk (below_step (by repeat (first | (with_reducible first | exact HB.out | apply below_alloc | apply pw_below_drewN | apply below_drew1) | exact HB.out)) hb); clear HO142; clear HB; have HO142 := n0_; have HO145 := n1_; have HB := n2_; clear n0_ n1_ n2_; (try clear hb); (try clear hb2); (try clear hk); (try clear hi); (try clear ho0); obtain ⟨Ao15, co15, eo15⟩ := Kd.R_slice HO145.out; subst eo15; have p146 : 0 ≤ (0 : Int) := (by omega); have q146 : 0 < (t143.length : Int) := of_decide_eq_true (by first | (with_reducible assumption) | assumption); obtain ⟨ad146, e146, hx146_0⟩ := Kd.at_int (Kd.R_reads' HO145.out).2.2 0 p146 q146; cases e146; have qi146 : (0 < t143.length) = True := eq_true (by omega); (try rw [show ((0 : Int)).toNat = 0 from rfl] at hx146_0); (try rw [Addr.add_zero'] at hx146_0); replace p146 := eq_true p146; replace q146 := eq_true q146))
    go_ret
    exact ⟨by first | rfl | (simp [errW_none, errW_some] <;> rfl) | (simp [*, errW_none, errW_some] <;> rfl), by repeat (first | (with_reducible first | exact HB.out | apply below_alloc | apply pw_below_drewN | apply below_drew1) | exact HB.out)⟩
  ·rw [if_neg c3] at H
   exact absurd H (by simp)
 ·rw [if_neg c2] at H
  have c2b0 : ((t143.length : Int) == 2) = false := beq_eq_false_iff_ne.mpr c2
  have c2b1 : ((t143.length : Int) != 2) = true := bne_iff_ne.mpr c2
  obtain rfl := Option.some.inj H
  go_enter Try.func13, Try.ntmps13
  go_wp2_with (first | ((with_reducible refine gate_dst (N := 4) rfl ?_); refine Kd.R_lit k31 _ 31 ?hg (N := 4) ?hd (xs := ([(⟨1, 0, 10000⟩ : S31), (⟨3, 0, 10000⟩ : S31)] : List (S31))) (inner := [.int .i64 1, .int .i64 0, .int .i64 10000, .int .i64 3, .int .i64 0, .int .i64 10000]) (ok := fun _ => True) (okp := fun _ => True) ?hr ?hp (fun _ hk => hk) trivial (Below.refl _ _) (Nat.le_refl _) (by simp) ?_; (case hd => rfl); (case hg => rfl); (case hr => first | (go_simp; done) | (go_simp; rfl)); (case hp => exact (Reps.c3 (show Kd.M k31 _ _ _ (⟨1, 0, 10000⟩ : S31) [.int .i64 1, .int .i64 0, .int .i64 10000] from (k31_mkM _ _ _ (⟨1, 0, 10000⟩ : S31) )) (Reps.c3 (show Kd.M k31 _ _ _ (⟨3, 0, 10000⟩ : S31) [.int .i64 3, .int .i64 0, .int .i64 10000] from (k31_mkM _ _ _ (⟨3, 0, 10000⟩ : S31) )) (Reps.none _ _)))); intro v141 w16 ho17 hb hg_ hnew_; clear hg_ hnew_; (first | rw [← Ny140.out] at ho17 | (simp only [Int.reduceToNat] at ho17; rw [← Ny140.out] at ho17)); have n0_ := Aside0.mk (Kd.R_lower ho17 (below_size (by repeat (first | (with_reducible first | exact HB.out | apply below_alloc | apply pw_below_drewN | apply below_drew1) | exact HB.out)))); have n1_ := Aside0.mk (below_step (by repeat (first | (with_reducible first | exact HB.out | apply below_alloc | apply pw_below_drewN | apply below_drew1) | exact HB.out)) hb); clear HB; have HO142 := n0_; have HB := n1_; clear n0_ n1_; clear hb ho17; obtain ⟨Ao18, co18, eo18⟩ := Kd.R_slice HO142.out; subst eo18) | ((with_reducible refine gate_callee (f := 18) rfl ?_); refine goesL_ (some 5) rfl rfl Try.func18 (by kernel_rfl) rfl #[.int .i64 1000, .slice Ao18 y140.length co18] rfl (by (try simp only [List.map_toArray, List.map_cons, List.map_nil]); first | done | rfl | (simp only [List.length_drop, List.length_take]; rfl)) ?_; (with_reducible refine (alloc_Split.calls k 1000 _ _ y140 t143 _ ?side1 ?side2 A1.out).mono ?_); (case side1 => repeat (first | exact (Kd.R_reads' HO142.out).2.2 | (with_reducible refine Kd.C_alloc ?_ _) | (with_reducible refine Kd.C_drewN ?_ _) | (with_reducible refine Kd.C_drew ?_))); (case side2 => exact (Kd.R_reads' HO142.out).2.1); rintro e w19 ⟨v144, rfl, ho0, hb⟩; refine ⟨_, rfl, ?_⟩; have n0_ := Aside0.mk (Kd.R_below (by (with_reducible repeat (first | apply Kd.R_alloc | apply Kd.R_drewN | apply Kd.R_drew)); exact HO142.out) hb); have n1_ := Aside0.mk (Kd.R_lower ho0 (below_size (by repeat (first | (with_reducible first | exact HB.out | apply below_alloc | apply pw_below_drewN | apply below_drew1) | exact HB.out)))); have n2_ := Aside0.mk (below_step (by repeat (first | (with_reducible first | exact HB.out | apply below_alloc | apply pw_below_drewN | apply below_drew1) | exact HB.out)) hb); clear HO142; clear HB; have HO142 := n0_; have HO145 := n1_; have HB := n2_; clear n0_ n1_ n2_; (try clear hb); (try clear hb2); (try clear hk); (try clear hi); (try clear ho0); obtain ⟨Ao20, co20, eo20⟩ := Kd.R_slice HO145.out; subst eo20))
  go_ret
  exact ⟨by first | rfl | (simp [errW_none, errW_some] <;> rfl) | (simp [*, errW_none, errW_some] <;> rfl), by repeat (first | (with_reducible first | exact HB.out | apply below_alloc | apply pw_below_drewN | apply below_drew1) | exact HB.out)⟩
def flywheellaw27_few.f (l0 : List (S31)) : Option ((List (S31))) := (some (([] : List (S31)) : List (S31))).bind fun y148 => (if y148.length + l0.length < 5864062014805 then (some (y148 ++ l0)) else (none))
set_option maxHeartbeats 8000000 in
set_option maxRecDepth 100000 in
theorem flywheellaw27_few.calls (A0 : Option Addr) (c0 : Nat) (l0 : List (S31)) (r : List (S31)) (w : World) (hr0 : Kd.C k31 w A0 l0.length l0) (hc0 : l0.length ≤ c0) (h : flywheellaw27_few.f l0 = some r) :
  Calls Try.prog 15 #[.slice A0 l0.length c0] w fun e w' => ∃ v0_ : Value, e = .returned (v0_) ∧ Kd.R k31 31 w' w.heap.size (fun _ => True) v0_ r ∧ Below w.heap.size w w' := by
 have HR0 := Aside0.mk hr0
 have HC0 := Aside0.mk hc0
 clear hr0 hc0
 have HB := Aside0.mk (Below.refl w.heap.size w)
 have H : ((some (([] : List (S31)) : List (S31))).bind fun y148 => (if y148.length + l0.length < 5864062014805 then (some (y148 ++ l0)) else (none))) = some r := h
 clear h
 obtain ⟨y148, hy148⟩ : ∃ y_ : List (S31), y_ = (([] : List (S31))) := ⟨_, rfl⟩
 replace H : (if y148.length + l0.length < 5864062014805 then (some (y148 ++ l0)) else (none)) = some r := by first | (rw [hy148]; with_reducible exact H) | (have H2_ := (Option.bind_some _ _).symm.trans H; rw [hy148]; with_reducible exact H2_) | (have H2_ := (Option.bind_some _ _).symm.trans H; with_reducible exact H2_) | with_reducible exact H | (rw [hy148]; exact H) | exact H
 have Ny148 := Aside0.mk hy148
 clear hy148
 by_cases c2 : y148.length + l0.length < 5864062014805
 ·rw [if_pos c2] at H
  have LMc2 := Aside0.mk c2
  clear c2
  obtain ⟨y151, hy151⟩ : ∃ y_ : List (S31), y_ = (y148 ++ l0) := ⟨_, rfl⟩
  replace H : (some y151) = some r := by first | (rw [hy151]; with_reducible exact H) | (have H2_ := (Option.bind_some _ _).symm.trans H; rw [hy151]; with_reducible exact H2_) | (have H2_ := (Option.bind_some _ _).symm.trans H; with_reducible exact H2_) | with_reducible exact H | (rw [hy151]; exact H) | exact H
  have Ny151 := Aside0.mk hy151
  clear hy151
  obtain rfl := Option.some.inj H
  go_enter Try.func15, Try.ntmps15
  go_wp2_with (first | ((with_reducible refine gate_dst (N := 3) rfl ?_); refine Kd.R_lit k31 _ 31 ?hg (N := 3) ?hd (xs := ([] : List (S31))) (inner := []) (ok := fun _ => True) (okp := fun _ => True) ?hr ?hp (fun _ hk => hk) trivial (Below.refl _ _) (Nat.le_refl _) (by simp) ?_; (case hd => rfl); (case hg => rfl); (case hr => first | (go_simp; done) | (go_simp; rfl)); (case hp => exact (Reps.none _ _)); intro v149 w3 ho4 hb hg_ hnew_; clear hg_ hnew_; (first | rw [← Ny148.out] at ho4 | (simp only [Int.reduceToNat] at ho4; rw [← Ny148.out] at ho4)); have n0_ := Aside0.mk (Kd.R_lower ho4 (below_size (by repeat (first | (with_reducible first | exact HB.out | apply below_alloc | apply pw_below_drewN | apply below_drew1) | exact HB.out)))); have n1_ := Aside0.mk (below_step (by repeat (first | (with_reducible first | exact HB.out | apply below_alloc | apply pw_below_drewN | apply below_drew1) | exact HB.out)) hb); clear HB; have HO150 := n0_; have HB := n1_; clear n0_ n1_; clear hb ho4) | ((with_reducible refine gate_builtin (b := .append) (xs := #[.tmp 3, .tmp 4]) rfl ?_); at_builtin; refine Kd.R_append_rows k31 (w0 := w) w.heap.size rfl (.tmp 3) (.tmp 4) 22 31 (.agg #[(.int .i64 0), (.int .i64 0), (.int .i64 0)]) 24 rfl Try.underlying22 info31 rfl (by decide) (by omega) v149 y148 l0 _ _ _ (fun _ => True) (fun _ => False) rfl rfl ?aO ?aR (fun _ _ h => h) (fun _ h => h.elim) ?aF ?aB ?aS ?aL ?_; (case aR => repeat (first | exact (Kd.C_below HR0.out HB.out) | (with_reducible refine Kd.C_alloc ?_ _) | (with_reducible refine Kd.C_drewN ?_ _) | (with_reducible refine Kd.C_drew ?_))); (case aB => exact (by repeat (first | (with_reducible first | exact HB.out | apply below_alloc | apply pw_below_drewN | apply below_drew1) | exact HB.out))); (case aF => exact (fun _ _ => trivial)); (case aO => exact (by (with_reducible repeat (first | apply Kd.R_alloc | apply Kd.R_drewN | apply Kd.R_drew)); exact HO150.out)); (case aS => exact (below_size (by repeat (first | (with_reducible first | exact HB.out | apply below_alloc | apply pw_below_drewN | apply below_drew1) | exact HB.out)))); (case aL => have := LMc2.out; omega); intro v152 w5 ho hb hg hat; rw [← Ny151.out] at ho; have n0_ := Aside0.mk (hb); have n1_ := Aside0.mk (ho); clear HB; clear HO150; have HB := n0_; have HO153 := n1_; clear n0_ n1_; clear ho hb hg hat))
  go_ret
  exact ⟨_, by first | rfl | (simp [errW_none, errW_some] <;> rfl) | (simp [*, errW_none, errW_some] <;> rfl), by (with_reducible repeat (first | apply Kd.R_alloc | apply Kd.R_drewN | apply Kd.R_drew)); exact HO153.out, by repeat (first | (with_reducible first | exact HB.out | apply below_alloc | apply pw_below_drewN | apply below_drew1) | exact HB.out)⟩
 ·rw [if_neg c2] at H
  exact absurd H (by simp)
def flywheelref27_Good.l0 : Nat → List (S31) → Int → Option (Bool)
 | 0, _, _ => none
 | k + 1, x0, x3 => if x3 < (x0.length : Int) then (if 0 ≤ x3 then (if ((rd_T31 x0 x3).f0) < 1 then (some false) else (if ((rd_T31 x0 x3).f0) > 1000 then (some false) else (if ((rd_T31 x0 x3).f1) < 0 then (some false) else (if ((rd_T31 x0 x3).f1) > ((rd_T31 x0 x3).f2) then (some false) else (if ((rd_T31 x0 x3).f2) > 17179869184 then (some false) else (flywheelref27_Good.l0 k x0 (wrap64 (x3 + 1)))))))) else (none)) else (some true)
def flywheelref27_Good.f (k : Nat) (l0 : List (S31)) : Option (Bool) := if (l0.length : Int) > 8 then (some false) else (flywheelref27_Good.l0 k l0 0)
set_option maxHeartbeats 8000000 in
set_option maxRecDepth 100000 in
theorem flywheelref27_Good.calls (k : Nat) (A0 : Option Addr) (c0 : Nat) (l0 : List (S31)) (r : Bool) (w : World) (hr0 : Kd.C k31 w A0 l0.length l0) (hc0 : l0.length ≤ c0) (h : flywheelref27_Good.f k l0 = some r) :
  Calls Try.prog 16 #[.slice A0 l0.length c0] w fun e w' => e = .returned (.bool r) ∧ Drawn0 w w' := by
 have HR0 := Aside0.mk hr0
 have HC0 := Aside0.mk hc0
 clear hr0 hc0
 have H : (if (l0.length : Int) > 8 then (some false) else (flywheelref27_Good.l0 k l0 0)) = some r := h
 clear h
 by_cases c2 : (l0.length : Int) > 8
 ·rw [if_pos c2] at H
  have c2b0 : decide (8 < (l0.length : Int)) = true := decide_eq_true c2
  have c2b1 : decide (8 < l0.length) = true := decide_eq_true (by omega)
  clear c2
  obtain rfl := Option.some.inj H
  go_enter Try.func16, Try.ntmps16
  go_wp2
  repeat (go_quiet (fail); try go_wp2)
  go_ret
  exact ⟨by first | rfl | (simp; done) | (simp [*]; done), by repeat (first | exact Drawn0.refl _ | apply Drawn0.step)⟩
 ·rw [if_neg c2] at H
  have c2b0 : decide (8 < (l0.length : Int)) = false := decide_eq_false c2
  have c2b1 : decide (8 < l0.length) = false := decide_eq_false (by omega)
  clear c2
  have H' := Aside0.mk H
  clear H
  go_enter Try.func16, Try.ntmps16
  go_wp2
  repeat (go_quiet (fail); try go_wp2)
  go_loopg [3] k (fun kq v3 w' => ∃ (x3_1 : Int), v3 = .int .i64 x3_1 ∧ Aside0 (flywheelref27_Good.l0 kq l0 x3_1 = some r) ∧ Aside0 (kq ≤ k) ∧ Drawn0 w w')
  case atStart => exact ⟨(0), (by first | rfl | (simp; done) | (simp [*]; done)), H', ⟨Nat.le_refl _⟩, by repeat (first | exact Drawn0.refl _ | apply Drawn0.step)⟩
  case round =>
   clear H'
   try clear c1
   try clear c2
   try clear c2b0
   try clear c2b1
   try clear p2
   obtain ⟨x3_1, rfl, HA, HK1, ⟨m1, rfl⟩⟩ := hrel
   cases gk with
   | zero => exact absurd HA.out (by simp [flywheelref27_Good.l0])
   | succ k1 =>
    have H := HA.out
    clear HA
    simp only [flywheelref27_Good.l0] at H
    by_cases c3 : x3_1 < (l0.length : Int)
    ·rw [if_pos c3] at H
     have c3b0 : decide (x3_1 < (l0.length : Int)) = true := decide_eq_true c3
     clear c3
     by_cases c4 : 0 ≤ x3_1
     ·rw [if_pos c4] at H
      have c4b0 : decide (0 ≤ x3_1) = true := decide_eq_true c4
      clear c4
      by_cases c5 : ((rd_T31 l0 x3_1).f0) < 1
      ·rw [if_pos c5] at H
       have c5b0 : decide (((rd_T31 l0 x3_1).f0) < 1) = true := decide_eq_true c5
       clear c5
       obtain rfl := Option.some.inj H
       have p154 : 0 ≤ (x3_1 : Int) := of_decide_eq_true (by first | (with_reducible assumption) | assumption)
       have q154 : x3_1 < (l0.length : Int) := of_decide_eq_true (by first | (with_reducible assumption) | assumption)
       obtain ⟨ad154, e154, hx154_0, hx154_1, hx154_2⟩ := at_T31 HR0.out x3_1 p154 q154
       cases e154
       replace p154 := eq_true p154
       replace q154 := eq_true q154
       go_wp2
       repeat (go_quiet (fail); try go_wp2)
       go_ret
       exact ⟨by first | rfl | (simp; done) | (simp [*]; done), by repeat (first | exact Drawn0.refl _ | apply Drawn0.step)⟩
      ·rw [if_neg c5] at H
       have c5b0 : decide (((rd_T31 l0 x3_1).f0) < 1) = false := decide_eq_false c5
       clear c5
       by_cases c6 : ((rd_T31 l0 x3_1).f0) > 1000
       ·rw [if_pos c6] at H
        have c6b0 : decide (1000 < ((rd_T31 l0 x3_1).f0)) = true := decide_eq_true c6
        clear c6
        obtain rfl := Option.some.inj H
        have p154 : 0 ≤ (x3_1 : Int) := of_decide_eq_true (by first | (with_reducible assumption) | assumption)
        have q154 : x3_1 < (l0.length : Int) := of_decide_eq_true (by first | (with_reducible assumption) | assumption)
        obtain ⟨ad154, e154, hx154_0, hx154_1, hx154_2⟩ := at_T31 HR0.out x3_1 p154 q154
        cases e154
        replace p154 := eq_true p154
        replace q154 := eq_true q154
        have p155 : 0 ≤ (x3_1 : Int) := of_decide_eq_true (by first | (with_reducible assumption) | assumption)
        have q155 : x3_1 < (l0.length : Int) := of_decide_eq_true (by first | (with_reducible assumption) | assumption)
        obtain ⟨ad155, e155, hx155_0, hx155_1, hx155_2⟩ := at_T31 HR0.out x3_1 p155 q155
        obtain rfl : ad154 = ad155 := (by injection e155)
        replace p155 := eq_true p155
        replace q155 := eq_true q155
        go_wp2
        repeat (go_quiet (fail); try go_wp2)
        go_ret
        exact ⟨by first | rfl | (simp; done) | (simp [*]; done), by repeat (first | exact Drawn0.refl _ | apply Drawn0.step)⟩
       ·rw [if_neg c6] at H
        have c6b0 : decide (1000 < ((rd_T31 l0 x3_1).f0)) = false := decide_eq_false c6
        clear c6
        by_cases c7 : ((rd_T31 l0 x3_1).f1) < 0
        ·rw [if_pos c7] at H
         have c7b0 : decide (((rd_T31 l0 x3_1).f1) < 0) = true := decide_eq_true c7
         clear c7
         obtain rfl := Option.some.inj H
         have p154 : 0 ≤ (x3_1 : Int) := of_decide_eq_true (by first | (with_reducible assumption) | assumption)
         have q154 : x3_1 < (l0.length : Int) := of_decide_eq_true (by first | (with_reducible assumption) | assumption)
         obtain ⟨ad154, e154, hx154_0, hx154_1, hx154_2⟩ := at_T31 HR0.out x3_1 p154 q154
         cases e154
         replace p154 := eq_true p154
         replace q154 := eq_true q154
         have p155 : 0 ≤ (x3_1 : Int) := of_decide_eq_true (by first | (with_reducible assumption) | assumption)
         have q155 : x3_1 < (l0.length : Int) := of_decide_eq_true (by first | (with_reducible assumption) | assumption)
         obtain ⟨ad155, e155, hx155_0, hx155_1, hx155_2⟩ := at_T31 HR0.out x3_1 p155 q155
         obtain rfl : ad154 = ad155 := (by injection e155)
         replace p155 := eq_true p155
         replace q155 := eq_true q155
         have p156 : 0 ≤ (x3_1 : Int) := of_decide_eq_true (by first | (with_reducible assumption) | assumption)
         have q156 : x3_1 < (l0.length : Int) := of_decide_eq_true (by first | (with_reducible assumption) | assumption)
         obtain ⟨ad156, e156, hx156_0, hx156_1, hx156_2⟩ := at_T31 HR0.out x3_1 p156 q156
         obtain rfl : ad154 = ad156 := (by injection e156)
         replace p156 := eq_true p156
         replace q156 := eq_true q156
         go_wp2
         repeat (go_quiet (fail); try go_wp2)
         go_ret
         exact ⟨by first | rfl | (simp; done) | (simp [*]; done), by repeat (first | exact Drawn0.refl _ | apply Drawn0.step)⟩
        ·rw [if_neg c7] at H
         have c7b0 : decide (((rd_T31 l0 x3_1).f1) < 0) = false := decide_eq_false c7
         clear c7
         by_cases c8 : ((rd_T31 l0 x3_1).f1) > ((rd_T31 l0 x3_1).f2)
         ·rw [if_pos c8] at H
          have c8b0 : decide (((rd_T31 l0 x3_1).f2) < ((rd_T31 l0 x3_1).f1)) = true := decide_eq_true c8
          clear c8
          obtain rfl := Option.some.inj H
          have p154 : 0 ≤ (x3_1 : Int) := of_decide_eq_true (by first | (with_reducible assumption) | assumption)
          have q154 : x3_1 < (l0.length : Int) := of_decide_eq_true (by first | (with_reducible assumption) | assumption)
          obtain ⟨ad154, e154, hx154_0, hx154_1, hx154_2⟩ := at_T31 HR0.out x3_1 p154 q154
          cases e154
          replace p154 := eq_true p154
          replace q154 := eq_true q154
          have p155 : 0 ≤ (x3_1 : Int) := of_decide_eq_true (by first | (with_reducible assumption) | assumption)
          have q155 : x3_1 < (l0.length : Int) := of_decide_eq_true (by first | (with_reducible assumption) | assumption)
          obtain ⟨ad155, e155, hx155_0, hx155_1, hx155_2⟩ := at_T31 HR0.out x3_1 p155 q155
          obtain rfl : ad154 = ad155 := (by injection e155)
          replace p155 := eq_true p155
          replace q155 := eq_true q155
          have p156 : 0 ≤ (x3_1 : Int) := of_decide_eq_true (by first | (with_reducible assumption) | assumption)
          have q156 : x3_1 < (l0.length : Int) := of_decide_eq_true (by first | (with_reducible assumption) | assumption)
          obtain ⟨ad156, e156, hx156_0, hx156_1, hx156_2⟩ := at_T31 HR0.out x3_1 p156 q156
          obtain rfl : ad154 = ad156 := (by injection e156)
          replace p156 := eq_true p156
          replace q156 := eq_true q156
          have p157 : 0 ≤ (x3_1 : Int) := of_decide_eq_true (by first | (with_reducible assumption) | assumption)
          have q157 : x3_1 < (l0.length : Int) := of_decide_eq_true (by first | (with_reducible assumption) | assumption)
          obtain ⟨ad157, e157, hx157_0, hx157_1, hx157_2⟩ := at_T31 HR0.out x3_1 p157 q157
          obtain rfl : ad154 = ad157 := (by injection e157)
          replace p157 := eq_true p157
          replace q157 := eq_true q157
          have p158 : 0 ≤ (x3_1 : Int) := of_decide_eq_true (by first | (with_reducible assumption) | assumption)
          have q158 : x3_1 < (l0.length : Int) := of_decide_eq_true (by first | (with_reducible assumption) | assumption)
          obtain ⟨ad158, e158, hx158_0, hx158_1, hx158_2⟩ := at_T31 HR0.out x3_1 p158 q158
          obtain rfl : ad154 = ad158 := (by injection e158)
          replace p158 := eq_true p158
          replace q158 := eq_true q158
          go_wp2
          repeat (go_quiet (fail); try go_wp2)
          go_ret
          exact ⟨by first | rfl | (simp; done) | (simp [*]; done), by repeat (first | exact Drawn0.refl _ | apply Drawn0.step)⟩
         ·rw [if_neg c8] at H
          have c8b0 : decide (((rd_T31 l0 x3_1).f2) < ((rd_T31 l0 x3_1).f1)) = false := decide_eq_false c8
          clear c8
          by_cases c9 : ((rd_T31 l0 x3_1).f2) > 17179869184
          ·rw [if_pos c9] at H
           have c9b0 : decide (17179869184 < ((rd_T31 l0 x3_1).f2)) = true := decide_eq_true c9
           clear c9
           obtain rfl := Option.some.inj H
           have p154 : 0 ≤ (x3_1 : Int) := of_decide_eq_true (by first | (with_reducible assumption) | assumption)
           have q154 : x3_1 < (l0.length : Int) := of_decide_eq_true (by first | (with_reducible assumption) | assumption)
           obtain ⟨ad154, e154, hx154_0, hx154_1, hx154_2⟩ := at_T31 HR0.out x3_1 p154 q154
           cases e154
           replace p154 := eq_true p154
           replace q154 := eq_true q154
           have p155 : 0 ≤ (x3_1 : Int) := of_decide_eq_true (by first | (with_reducible assumption) | assumption)
           have q155 : x3_1 < (l0.length : Int) := of_decide_eq_true (by first | (with_reducible assumption) | assumption)
           obtain ⟨ad155, e155, hx155_0, hx155_1, hx155_2⟩ := at_T31 HR0.out x3_1 p155 q155
           obtain rfl : ad154 = ad155 := (by injection e155)
           replace p155 := eq_true p155
           replace q155 := eq_true q155
           have p156 : 0 ≤ (x3_1 : Int) := of_decide_eq_true (by first | (with_reducible assumption) | assumption)
           have q156 : x3_1 < (l0.length : Int) := of_decide_eq_true (by first | (with_reducible assumption) | assumption)
           obtain ⟨ad156, e156, hx156_0, hx156_1, hx156_2⟩ := at_T31 HR0.out x3_1 p156 q156
           obtain rfl : ad154 = ad156 := (by injection e156)
           replace p156 := eq_true p156
           replace q156 := eq_true q156
           have p157 : 0 ≤ (x3_1 : Int) := of_decide_eq_true (by first | (with_reducible assumption) | assumption)
           have q157 : x3_1 < (l0.length : Int) := of_decide_eq_true (by first | (with_reducible assumption) | assumption)
           obtain ⟨ad157, e157, hx157_0, hx157_1, hx157_2⟩ := at_T31 HR0.out x3_1 p157 q157
           obtain rfl : ad154 = ad157 := (by injection e157)
           replace p157 := eq_true p157
           replace q157 := eq_true q157
           have p158 : 0 ≤ (x3_1 : Int) := of_decide_eq_true (by first | (with_reducible assumption) | assumption)
           have q158 : x3_1 < (l0.length : Int) := of_decide_eq_true (by first | (with_reducible assumption) | assumption)
           obtain ⟨ad158, e158, hx158_0, hx158_1, hx158_2⟩ := at_T31 HR0.out x3_1 p158 q158
           obtain rfl : ad154 = ad158 := (by injection e158)
           replace p158 := eq_true p158
           replace q158 := eq_true q158
           have p159 : 0 ≤ (x3_1 : Int) := of_decide_eq_true (by first | (with_reducible assumption) | assumption)
           have q159 : x3_1 < (l0.length : Int) := of_decide_eq_true (by first | (with_reducible assumption) | assumption)
           obtain ⟨ad159, e159, hx159_0, hx159_1, hx159_2⟩ := at_T31 HR0.out x3_1 p159 q159
           obtain rfl : ad154 = ad159 := (by injection e159)
           replace p159 := eq_true p159
           replace q159 := eq_true q159
           go_wp2
           repeat (go_quiet (fail); try go_wp2)
           go_ret
           exact ⟨by first | rfl | (simp; done) | (simp [*]; done), by repeat (first | exact Drawn0.refl _ | apply Drawn0.step)⟩
          ·rw [if_neg c9] at H
           have c9b0 : decide (17179869184 < ((rd_T31 l0 x3_1).f2)) = false := decide_eq_false c9
           clear c9
           have H' := Aside0.mk H
           clear H
           have p154 : 0 ≤ (x3_1 : Int) := of_decide_eq_true (by first | (with_reducible assumption) | assumption)
           have q154 : x3_1 < (l0.length : Int) := of_decide_eq_true (by first | (with_reducible assumption) | assumption)
           obtain ⟨ad154, e154, hx154_0, hx154_1, hx154_2⟩ := at_T31 HR0.out x3_1 p154 q154
           cases e154
           replace p154 := eq_true p154
           replace q154 := eq_true q154
           have p155 : 0 ≤ (x3_1 : Int) := of_decide_eq_true (by first | (with_reducible assumption) | assumption)
           have q155 : x3_1 < (l0.length : Int) := of_decide_eq_true (by first | (with_reducible assumption) | assumption)
           obtain ⟨ad155, e155, hx155_0, hx155_1, hx155_2⟩ := at_T31 HR0.out x3_1 p155 q155
           obtain rfl : ad154 = ad155 := (by injection e155)
           replace p155 := eq_true p155
           replace q155 := eq_true q155
           have p156 : 0 ≤ (x3_1 : Int) := of_decide_eq_true (by first | (with_reducible assumption) | assumption)
           have q156 : x3_1 < (l0.length : Int) := of_decide_eq_true (by first | (with_reducible assumption) | assumption)
           obtain ⟨ad156, e156, hx156_0, hx156_1, hx156_2⟩ := at_T31 HR0.out x3_1 p156 q156
           obtain rfl : ad154 = ad156 := (by injection e156)
           replace p156 := eq_true p156
           replace q156 := eq_true q156
           have p157 : 0 ≤ (x3_1 : Int) := of_decide_eq_true (by first | (with_reducible assumption) | assumption)
           have q157 : x3_1 < (l0.length : Int) := of_decide_eq_true (by first | (with_reducible assumption) | assumption)
           obtain ⟨ad157, e157, hx157_0, hx157_1, hx157_2⟩ := at_T31 HR0.out x3_1 p157 q157
           obtain rfl : ad154 = ad157 := (by injection e157)
           replace p157 := eq_true p157
           replace q157 := eq_true q157
           have p158 : 0 ≤ (x3_1 : Int) := of_decide_eq_true (by first | (with_reducible assumption) | assumption)
           have q158 : x3_1 < (l0.length : Int) := of_decide_eq_true (by first | (with_reducible assumption) | assumption)
           obtain ⟨ad158, e158, hx158_0, hx158_1, hx158_2⟩ := at_T31 HR0.out x3_1 p158 q158
           obtain rfl : ad154 = ad158 := (by injection e158)
           replace p158 := eq_true p158
           replace q158 := eq_true q158
           have p159 : 0 ≤ (x3_1 : Int) := of_decide_eq_true (by first | (with_reducible assumption) | assumption)
           have q159 : x3_1 < (l0.length : Int) := of_decide_eq_true (by first | (with_reducible assumption) | assumption)
           obtain ⟨ad159, e159, hx159_0, hx159_1, hx159_2⟩ := at_T31 HR0.out x3_1 p159 q159
           obtain rfl : ad154 = ad159 := (by injection e159)
           replace p159 := eq_true p159
           replace q159 := eq_true q159
           go_wp2
           repeat (go_quiet (fail); try go_wp2)
           go_roundg k1
           case measure => have := HK1.out; omega
           case rel => exact ⟨(wrap64 (x3_1 + 1)), (by first | rfl | (simp; done) | (simp [*]; done)), H', ⟨by have := HK1.out; omega⟩, by repeat (first | exact Drawn0.refl _ | apply Drawn0.step)⟩
     ·rw [if_neg c4] at H
      exact absurd H (by simp)
    ·rw [if_neg c3] at H
     have c3b0 : decide (x3_1 < (l0.length : Int)) = false := decide_eq_false c3
     clear c3
     obtain rfl := Option.some.inj H
     go_wp2
     repeat (go_quiet (fail); try go_wp2)
     go_ret
     exact ⟨by first | rfl | (simp; done) | (simp [*]; done), by repeat (first | exact Drawn0.refl _ | apply Drawn0.step)⟩
end Go.Proofs.Ytlgfnclgkhfhpaa.P
end

section
namespace Go.Proofs.Ytlgfnclgkhfhpaa.P
open Go.RowKit Go.Proofs.YtlgfnclgkhfhpaaW.PrintWords Go.Proofs.YtlgfnclgkhfhpaaW.PrintLast Go.Proofs.YtlgfnclgkhfhpaaW.PrintMore
attribute [local go_sem] max2_int min2_int max_two min_two max_three min_three max_four min_four   -- for this text's walks alone
set_option linter.unusedVariables false
set_option linter.unusedSimpArgs false
end Go.Proofs.Ytlgfnclgkhfhpaa.P
end

section
namespace Go.Proofs.Ytlgfnclgkhfhpaa.P
open Go.RowKit Go.Proofs.YtlgfnclgkhfhpaaW.PrintWords Go.Proofs.YtlgfnclgkhfhpaaW.PrintLast Go.Proofs.YtlgfnclgkhfhpaaW.PrintMore
attribute [local go_sem] max2_int min2_int max_two min_two max_three min_three max_four min_four   -- for this text's walks alone
set_option linter.unusedVariables false
set_option linter.unusedSimpArgs false
end Go.Proofs.Ytlgfnclgkhfhpaa.P
end

section
namespace Go.Proofs.Ytlgfnclgkhfhpaa.P
open Go.RowKit Go.Proofs.YtlgfnclgkhfhpaaW.PrintWords Go.Proofs.YtlgfnclgkhfhpaaW.PrintLast Go.Proofs.YtlgfnclgkhfhpaaW.PrintMore
attribute [local go_sem] max2_int min2_int max_two min_two max_three min_three max_four min_four   -- for this text's walks alone
set_option linter.unusedVariables false
set_option linter.unusedSimpArgs false
end Go.Proofs.Ytlgfnclgkhfhpaa.P
end

section
namespace Go.Proofs.Ytlgfnclgkhfhpaa.P
open Go.RowKit Go.Proofs.YtlgfnclgkhfhpaaW.PrintWords Go.Proofs.YtlgfnclgkhfhpaaW.PrintLast Go.Proofs.YtlgfnclgkhfhpaaW.PrintMore
attribute [local go_sem] max2_int min2_int max_two min_two max_three min_three max_four min_four   -- for this text's walks alone
set_option linter.unusedVariables false
set_option linter.unusedSimpArgs false
end Go.Proofs.Ytlgfnclgkhfhpaa.P
end

section
namespace Go.Proofs.Ytlgfnclgkhfhpaa.P
open Go.RowKit Go.Proofs.YtlgfnclgkhfhpaaW.PrintWords Go.Proofs.YtlgfnclgkhfhpaaW.PrintLast Go.Proofs.YtlgfnclgkhfhpaaW.PrintMore
attribute [local go_sem] max2_int min2_int max_two min_two max_three min_three max_four min_four   -- for this text's walks alone
set_option linter.unusedVariables false
set_option linter.unusedSimpArgs false
def alloc_Share.l0 : Nat → Int → Int → List (S67) → List Int → Int → Int → Option ((List (S67)) × Int)
 | 0, _, _, _, _, _, _ => none
 | k + 1, x3, x10, x11, x30, x31, x32 => if x32 < x31 then (if 0 ≤ x32 then (if x32 < (x30.length : Int) then ((muldiv_Do.f (rd x30 x32) x10 256 1).bind fun t297 => (if x11.length < 8796093022208 then (alloc_Share.l0 k x3 x10 (x11 ++ [(⟨wrap64 ((rd x30 x32) - t297), t297⟩ : S67)]) x30 x31 (wrap64 (x32 + 1))) else (none))) else (none)) else (none)) else (some (x11, x3))
def alloc_Share.f (k : Nat) (a0 : Int) (l1 : List (S31)) (a2 : Int) (a3 : Int) : Option ((List (S67)) × Int) := (alloc_Good.f k l1).bind fun t289 => (if t289 = true then ((sat_Clamp.f a0 0 17179869184).bind fun t290 => ((sat_Clamp.f a3 0 (wrap64 (Int.tdiv t290 4))).bind fun t291 => ((sat_Clamp.f a2 0 128).bind fun t292 => ((alloc_Split.f k (wrap64 (t290 - t291)) l1).bind fun t293 => (alloc_Share.l0 k t291 t292 ([] : List (S67)) t293 (t293.length : Int) 0))))) else (some (([] : List (S67)), 0)))
set_option maxHeartbeats 8000000 in
set_option maxRecDepth 100000 in
theorem alloc_Share.calls (k : Nat) (a0 : Int) (A1 : Option Addr) (c1 : Nat) (l1 : List (S31)) (a2 : Int) (a3 : Int) (r1 : List (S67)) (r2 : Int) (w : World) (hr1 : Kd.C k31 w A1 l1.length l1) (hc1 : l1.length ≤ c1) (h : alloc_Share.f k a0 l1 a2 a3 = some (r1, r2)) :
  Calls Try.prog 36 #[.int .i64 a0, .slice A1 l1.length c1, .int .i64 a2, .int .i64 a3] w fun e w' => ∃ v0_ : Value, e = .returned (.tuple #[v0_, .int .i64 r2]) ∧ Kd.R k67 67 w' w.heap.size (fun _ => True) v0_ r1 ∧ Below w.heap.size w w' := by
 have hu67 := Try.underlying67
 have HR1 := Aside0.mk hr1
 have HC1 := Aside0.mk hc1
 clear hr1 hc1
 have HB := Aside0.mk (Below.refl w.heap.size w)
 have H : ((alloc_Good.f k l1).bind fun t289 => (if t289 = true then ((sat_Clamp.f a0 0 17179869184).bind fun t290 => ((sat_Clamp.f a3 0 (wrap64 (Int.tdiv t290 4))).bind fun t291 => ((sat_Clamp.f a2 0 128).bind fun t292 => ((alloc_Split.f k (wrap64 (t290 - t291)) l1).bind fun t293 => (alloc_Share.l0 k t291 t292 ([] : List (S67)) t293 (t293.length : Int) 0))))) else (some (([] : List (S67)), 0)))) = some (r1, r2) := h
 clear h
 replace H := Option.bind_eq_some_iff.mp H
 obtain ⟨t289, A50, H⟩ := H
 replace H : (if t289 = true then ((sat_Clamp.f a0 0 17179869184).bind fun t290 => ((sat_Clamp.f a3 0 (wrap64 (Int.tdiv t290 4))).bind fun t291 => ((sat_Clamp.f a2 0 128).bind fun t292 => ((alloc_Split.f k (wrap64 (t290 - t291)) l1).bind fun t293 => (alloc_Share.l0 k t291 t292 ([] : List (S67)) t293 (t293.length : Int) 0))))) else (some (([] : List (S67)), 0))) = some (r1, r2) := H
 have A5 := Aside0.mk A50
 clear A50
 by_cases c6 : t289 = true
 ·subst c6
  have H1 : ((sat_Clamp.f a0 0 17179869184).bind fun t290 => ((sat_Clamp.f a3 0 (wrap64 (Int.tdiv t290 4))).bind fun t291 => ((sat_Clamp.f a2 0 128).bind fun t292 => ((alloc_Split.f k (wrap64 (t290 - t291)) l1).bind fun t293 => (alloc_Share.l0 k t291 t292 ([] : List (S67)) t293 (t293.length : Int) 0))))) = some (r1, r2) := by rw [if_pos rfl] at H; exact H
  clear H
  have H := H1
  clear H1
  replace H := Option.bind_eq_some_iff.mp H
  obtain ⟨t290, A70, H⟩ := H
  replace H : ((sat_Clamp.f a3 0 (wrap64 (Int.tdiv t290 4))).bind fun t291 => ((sat_Clamp.f a2 0 128).bind fun t292 => ((alloc_Split.f k (wrap64 (t290 - t291)) l1).bind fun t293 => (alloc_Share.l0 k t291 t292 ([] : List (S67)) t293 (t293.length : Int) 0)))) = some (r1, r2) := H
  have A7 := Aside0.mk A70
  clear A70
  replace H := Option.bind_eq_some_iff.mp H
  obtain ⟨t291, A80, H⟩ := H
  replace H : ((sat_Clamp.f a2 0 128).bind fun t292 => ((alloc_Split.f k (wrap64 (t290 - t291)) l1).bind fun t293 => (alloc_Share.l0 k t291 t292 ([] : List (S67)) t293 (t293.length : Int) 0))) = some (r1, r2) := H
  have A8 := Aside0.mk A80
  clear A80
  replace H := Option.bind_eq_some_iff.mp H
  obtain ⟨t292, A90, H⟩ := H
  replace H : ((alloc_Split.f k (wrap64 (t290 - t291)) l1).bind fun t293 => (alloc_Share.l0 k t291 t292 ([] : List (S67)) t293 (t293.length : Int) 0)) = some (r1, r2) := H
  have A9 := Aside0.mk A90
  clear A90
  replace H := Option.bind_eq_some_iff.mp H
  obtain ⟨t293, A100, H⟩ := H
  replace H : (alloc_Share.l0 k t291 t292 ([] : List (S67)) t293 (t293.length : Int) 0) = some (r1, r2) := H
  have A10 := Aside0.mk A100
  clear A100
  have H' := Aside0.mk H
  clear H
  go_enter Try.func36, Try.ntmps36
  go_wp2_with (first | ((with_reducible refine gate_callee (f := 14) rfl ?_); refine goesL_ (some 16) rfl rfl Try.func14 (by kernel_rfl) rfl #[.slice A1 l1.length c1] rfl (by (try simp only [List.map_toArray, List.map_cons, List.map_nil]); first | done | rfl | (simp only [List.length_drop, List.length_take]; rfl)) ?_; (with_reducible refine (alloc_Good.calls k _ _ l1 true _ ?side1 ?side2 A5.out).mono ?_); (case side1 => repeat (first | exact HR1.out | (with_reducible refine Kd.C_alloc ?_ _) | (with_reducible refine Kd.C_drewN ?_ _) | (with_reducible refine Kd.C_drew ?_))); (case side2 => exact HC1.out); rintro e w11 ⟨rfl, hb⟩; refine ⟨_, rfl, ?_⟩; have n0_ := Aside0.mk (below_step (by repeat (first | (with_reducible first | exact HB.out | apply below_alloc | apply pw_below_drewN | apply below_drew1) | exact HB.out)) hb); clear HB; have HB := n0_; clear n0_; (try clear hb); (try clear hb2); (try clear hk); (try clear hi)) | ((with_reducible refine gate_callee (f := 39) rfl ?_); refine goesL_ (some 19) rfl rfl Try.func39 (by kernel_rfl) rfl #[.int .i64 a0, .int .i64 0, .int .i64 17179869184] rfl (by (try simp only [List.map_toArray, List.map_cons, List.map_nil]); first | done | rfl | (simp only [List.length_drop, List.length_take]; rfl)) ?_; (with_reducible refine (sat_Clamp.calls a0 0 17179869184 t290 _ A7.out).mono ?_); rintro e w' ⟨rfl, ⟨nd, rfl⟩⟩; refine ⟨_, rfl, ?_⟩) | ((with_reducible refine gate_callee (f := 39) rfl ?_); refine goesL_ (some 23) rfl rfl Try.func39 (by kernel_rfl) rfl #[.int .i64 a3, .int .i64 0, .int .i64 (wrap64 (Int.tdiv t290 4))] rfl (by (try simp only [List.map_toArray, List.map_cons, List.map_nil]); first | done | rfl | (simp only [List.length_drop, List.length_take]; rfl)) ?_; (with_reducible refine (sat_Clamp.calls a3 0 (wrap64 (Int.tdiv t290 4)) t291 _ A8.out).mono ?_); rintro e w' ⟨rfl, ⟨nd, rfl⟩⟩; refine ⟨_, rfl, ?_⟩) | ((with_reducible refine gate_callee (f := 39) rfl ?_); refine goesL_ (some 25) rfl rfl Try.func39 (by kernel_rfl) rfl #[.int .i64 a2, .int .i64 0, .int .i64 128] rfl (by (try simp only [List.map_toArray, List.map_cons, List.map_nil]); first | done | rfl | (simp only [List.length_drop, List.length_take]; rfl)) ?_; (with_reducible refine (sat_Clamp.calls a2 0 128 t292 _ A9.out).mono ?_); rintro e w' ⟨rfl, ⟨nd, rfl⟩⟩; refine ⟨_, rfl, ?_⟩) | ((with_reducible refine gate_callee (f := 18) rfl ?_); refine goesL_ (some 30) rfl rfl Try.func18 (by kernel_rfl) rfl #[.int .i64 (wrap64 (t290 - t291)), .slice A1 l1.length c1] rfl (by (try simp only [List.map_toArray, List.map_cons, List.map_nil]); first | done | rfl | (simp only [List.length_drop, List.length_take]; rfl)) ?_; (with_reducible refine (alloc_Split.calls k (wrap64 (t290 - t291)) _ _ l1 t293 _ ?side1 ?side2 A10.out).mono ?_); (case side1 => repeat (first | exact (Kd.C_below HR1.out (by repeat (first | (with_reducible first | exact HB.out | apply below_alloc | apply pw_below_drewN | apply below_drew1) | exact HB.out))) | (with_reducible refine Kd.C_alloc ?_ _) | (with_reducible refine Kd.C_drewN ?_ _) | (with_reducible refine Kd.C_drew ?_))); (case side2 => exact HC1.out); rintro e w12 ⟨v294, rfl, ho0, hb⟩; refine ⟨_, rfl, ?_⟩; have n0_ := Aside0.mk (Kd.R_lower ho0 (below_size (by repeat (first | (with_reducible first | exact HB.out | apply below_alloc | apply pw_below_drewN | apply below_drew1) | exact HB.out)))); have n1_ := Aside0.mk (below_step (by repeat (first | (with_reducible first | exact HB.out | apply below_alloc | apply pw_below_drewN | apply below_drew1) | exact HB.out)) hb); clear HB; have HO295 := n0_; have HB := n1_; clear n0_ n1_; (try clear hb); (try clear hb2); (try clear hk); (try clear hi); (try clear ho0); obtain ⟨Ao13, co13, eo13⟩ := Kd.R_slice HO295.out; subst eo13))
  go_loopg [11, 32] k (fun kq v11 v32 w' => ∃ (x11_1 : List (S67)) (x32_1 : Int), v32 = .int .i64 x32_1 ∧ Aside0 (alloc_Share.l0 kq t291 t292 x11_1 t293 (t293.length : Int) x32_1 = some (r1, r2)) ∧ Aside0 (kq ≤ k) ∧ Aside0 (Kd.R k67 67 w' w.heap.size (fun _ => True) v11 x11_1) ∧ Aside0 (Kd.R (Kd.int .i64) 2 w' w.heap.size (fun _ => True) (.slice Ao13 t293.length co13) t293) ∧ Aside0 (Below w.heap.size w w'))
  case atStart => exact ⟨(([] : List (S67))), (0), (by first | rfl | (simp; done) | (simp [*]; done)), H', ⟨Nat.le_refl _⟩, ⟨by first | exact Kd.R_nil _ _ _ _ _ | exact Kd.N_nil _ _ _ _ _ | exact Kd.V_nil _ _ _ _ _ | exact Kd.Q_nil _ _ _ _ _ | exact Kd.S_nil _ _ _ _ _⟩, ⟨by (with_reducible repeat (first | apply Kd.R_alloc | apply Kd.R_drewN | apply Kd.R_drew)); exact HO295.out⟩, ⟨by repeat (first | (with_reducible first | exact HB.out | apply below_alloc | apply pw_below_drewN | apply below_drew1) | exact HB.out)⟩⟩
  case round =>
   clear H'
   try clear c1
   try clear p2
   try clear c3
   try clear c6
   try clear p6
   obtain ⟨x11_1, x32_1, rfl, HA, HK1, HO_11, HO_30, HB⟩ := hrel
   cases gk with
   | zero => exact absurd HA.out (by simp [alloc_Share.l0])
   | succ k1 =>
    have H := HA.out
    clear HA
    simp only [alloc_Share.l0] at H
    by_cases c14 : x32_1 < (t293.length : Int)
    ·rw [if_pos c14] at H
     have c14b0 : decide (x32_1 < (t293.length : Int)) = true := decide_eq_true c14
     clear c14
     by_cases c15 : 0 ≤ x32_1
     ·rw [if_pos c15] at H
      have c15b0 : decide (0 ≤ x32_1) = true := decide_eq_true c15
      clear c15
      by_cases c16 : x32_1 < (t293.length : Int)
      ·rw [if_pos c16] at H
       have c16b0 : decide (x32_1 < (t293.length : Int)) = true := decide_eq_true c16
       clear c16
       replace H := Option.bind_eq_some_iff.mp H
       obtain ⟨t297, A170, H⟩ := H
       replace H : (if x11_1.length < 8796093022208 then (alloc_Share.l0 k1 t291 t292 (x11_1 ++ [(⟨wrap64 ((rd t293 x32_1) - t297), t297⟩ : S67)]) t293 (t293.length : Int) (wrap64 (x32_1 + 1))) else (none)) = some (r1, r2) := H
       have A17 := Aside0.mk A170
       clear A170
       by_cases c18 : x11_1.length < 8796093022208
       ·rw [if_pos c18] at H
        have LMc18 := Aside0.mk c18
        clear c18
        obtain ⟨y298, hy298⟩ : ∃ y_ : List (S67), y_ = (x11_1 ++ [(⟨wrap64 ((rd t293 x32_1) - t297), t297⟩ : S67)]) := ⟨_, rfl⟩
        replace H : (alloc_Share.l0 k1 t291 t292 y298 t293 (t293.length : Int) (wrap64 (x32_1 + 1))) = some (r1, r2) := by first | (rw [hy298]; with_reducible exact H) | (have H2_ := (Option.bind_some _ _).symm.trans H; rw [hy298]; with_reducible exact H2_) | (have H2_ := (Option.bind_some _ _).symm.trans H; with_reducible exact H2_) | with_reducible exact H | (rw [hy298]; exact H) | exact H
        have Ny298 := Aside0.mk hy298
        clear hy298
        have H' := Aside0.mk H
        clear H
        have p296 : 0 ≤ (x32_1 : Int) := of_decide_eq_true (by first | (with_reducible assumption) | assumption)
        have q296 : x32_1 < (t293.length : Int) := of_decide_eq_true (by first | (with_reducible assumption) | assumption)
        obtain ⟨ad296, e296, hx296_0⟩ := Kd.at_int (Kd.R_reads' HO_30.out).2.2 x32_1 p296 q296
        cases e296
        replace p296 := eq_true p296
        replace q296 := eq_true q296
        go_wp2_with (first | ((with_reducible refine gate_callee (f := 50) rfl ?_); refine goesL_ (some 38) rfl rfl Try.func50 (by kernel_rfl) rfl #[.int .i64 (rd t293 x32_1), .int .i64 t292, .int .i64 256, .int .i64 1] rfl (by (try simp only [List.map_toArray, List.map_cons, List.map_nil]); first | done | rfl | (simp only [List.length_drop, List.length_take]; rfl)) ?_; (with_reducible refine (muldiv_Do.calls (rd t293 x32_1) t292 256 1 t297 _ A17.out).mono ?_); rintro e w19 ⟨rfl, hb⟩; refine ⟨_, rfl, ?_⟩; have n0_ := Aside0.mk (Kd.R_below (by (with_reducible repeat (first | apply Kd.R_alloc | apply Kd.R_drewN | apply Kd.R_drew)); exact HO_11.out) hb); have n1_ := Aside0.mk (Kd.R_below (by (with_reducible repeat (first | apply Kd.R_alloc | apply Kd.R_drewN | apply Kd.R_drew)); exact HO_30.out) hb); have n2_ := Aside0.mk (below_step (by repeat (first | (with_reducible first | exact HB.out | apply below_alloc | apply pw_below_drewN | apply below_drew1) | exact HB.out)) hb); clear HO_11; clear HO_30; clear HB; have HO_11 := n0_; have HO_30 := n1_; have HB := n2_; clear n0_ n1_ n2_; (try clear hb); (try clear hb2); (try clear hk); (try clear hi)) | ((with_reducible refine gate_builtin (b := .append) (xs := #[.tmp 39, .tmp 45]) rfl ?_); at_builtin; refine Kd.R_append k67 (w0 := w) w.heap.size rfl (.tmp 39) (.tmp 45) 58 67 (.agg #[(.int .i64 0), (.int .i64 0)]) 16 rfl Try.underlying58 info67 rfl (by decide) (by omega) u11 x11_1 (⟨wrap64 ((rd t293 x32_1) - t297), t297⟩ : S67) [.int .i64 (wrap64 ((rd t293 x32_1) - t297)), .int .i64 t297] (fun _ => True) (fun _ => False) rfl rfl ?aP (fun _ hk => hk.elim) ?aF ?aO ?aB ?aS ?aL ?_; (case aP => exact k67_mkM _ _ _ (⟨wrap64 ((rd t293 x32_1) - t297), t297⟩ : S67)); (case aB => exact (by repeat (first | (with_reducible first | exact HB.out | apply below_alloc | apply pw_below_drewN | apply below_drew1) | exact HB.out))); (case aF => exact (fun _ _ => trivial)); (case aO => exact (by (with_reducible repeat (first | apply Kd.R_alloc | apply Kd.R_drewN | apply Kd.R_drew)); exact HO_11.out)); (case aS => exact (below_size (by repeat (first | (with_reducible first | exact HB.out | apply below_alloc | apply pw_below_drewN | apply below_drew1) | exact HB.out)))); (case aL => have := LMc18.out; omega); intro v299 w20 ho hb hg hat; rw [← Ny298.out] at ho; have n0_ := Aside0.mk (Kd.R_over' (by (with_reducible repeat (first | apply Kd.R_alloc | apply Kd.R_drewN | apply Kd.R_drew)); exact HO_30.out) (Kd.R_typed (by (with_reducible repeat (first | apply Kd.R_alloc | apply Kd.R_drewN | apply Kd.R_drew)); exact HO_11.out)) (by decide) hg); have n1_ := Aside0.mk (hb); have n2_ := Aside0.mk (ho); clear HO_30; clear HB; clear HO_11; have HO_30 := n0_; have HB := n1_; have HO300 := n2_; clear n0_ n1_ n2_; clear ho hb hg hat))
        go_roundg k1
        case measure => have := HK1.out; omega
        case rel => exact ⟨(y298), (wrap64 (x32_1 + 1)), (by first | rfl | (simp; done) | (simp [*]; done)), H', ⟨by have := HK1.out; omega⟩, ⟨by (with_reducible repeat (first | apply Kd.R_alloc | apply Kd.R_drewN | apply Kd.R_drew)); exact HO300.out⟩, ⟨by (with_reducible repeat (first | apply Kd.R_alloc | apply Kd.R_drewN | apply Kd.R_drew)); exact HO_30.out⟩, ⟨by repeat (first | (with_reducible first | exact HB.out | apply below_alloc | apply pw_below_drewN | apply below_drew1) | exact HB.out)⟩⟩
       ·rw [if_neg c18] at H
        exact absurd H (by simp)
      ·rw [if_neg c16] at H
       exact absurd H (by simp)
     ·rw [if_neg c15] at H
      exact absurd H (by simp)
    ·rw [if_neg c14] at H
     have c14b0 : decide (x32_1 < (t293.length : Int)) = false := decide_eq_false c14
     clear c14
     simp only [Option.some.injEq, Prod.mk.injEq] at H
     obtain ⟨rfl, rfl⟩ := H
     go_wp2
     go_ret2
     exact ⟨_, by first | rfl | (simp [errW_none, errW_some] <;> rfl) | (simp [*, errW_none, errW_some] <;> rfl), by (with_reducible repeat (first | apply Kd.R_alloc | apply Kd.R_drewN | apply Kd.R_drew)); exact HO_11.out, by repeat (first | (with_reducible first | exact HB.out | apply below_alloc | apply pw_below_drewN | apply below_drew1) | exact HB.out)⟩
 ·replace c6 := Bool.eq_false_iff.mpr c6
  subst c6
  have H1 : (some (([] : List (S67)), 0)) = some (r1, r2) := by rw [if_neg (show ¬ (false = true) by decide)] at H; exact H
  clear H
  have H := H1
  clear H1
  simp only [Option.some.injEq, Prod.mk.injEq] at H
  obtain ⟨rfl, rfl⟩ := H
  go_enter Try.func36, Try.ntmps36
  go_wp2_with (first | ((with_reducible refine gate_callee (f := 14) rfl ?_); refine goesL_ (some 16) rfl rfl Try.func14 (by kernel_rfl) rfl #[.slice A1 l1.length c1] rfl (by (try simp only [List.map_toArray, List.map_cons, List.map_nil]); first | done | rfl | (simp only [List.length_drop, List.length_take]; rfl)) ?_; (with_reducible refine (alloc_Good.calls k _ _ l1 false _ ?side1 ?side2 A5.out).mono ?_); (case side1 => repeat (first | exact HR1.out | (with_reducible refine Kd.C_alloc ?_ _) | (with_reducible refine Kd.C_drewN ?_ _) | (with_reducible refine Kd.C_drew ?_))); (case side2 => exact HC1.out); rintro e w21 ⟨rfl, hb⟩; refine ⟨_, rfl, ?_⟩; have n0_ := Aside0.mk (below_step (by repeat (first | (with_reducible first | exact HB.out | apply below_alloc | apply pw_below_drewN | apply below_drew1) | exact HB.out)) hb); clear HB; have HB := n0_; clear n0_; (try clear hb); (try clear hb2); (try clear hk); (try clear hi)))
  go_ret2
  exact ⟨_, by first | rfl | (simp [errW_none, errW_some] <;> rfl) | (simp [*, errW_none, errW_some] <;> rfl), by first | exact Kd.R_nil _ _ _ _ _ | exact Kd.N_nil _ _ _ _ _ | exact Kd.V_nil _ _ _ _ _ | exact Kd.Q_nil _ _ _ _ _ | exact Kd.S_nil _ _ _ _ _, by repeat (first | (with_reducible first | exact HB.out | apply below_alloc | apply pw_below_drewN | apply below_drew1) | exact HB.out)⟩
end Go.Proofs.Ytlgfnclgkhfhpaa.P
end

section
namespace Go.Proofs.Ytlgfnclgkhfhpaa.P
open Go.RowKit Go.Proofs.YtlgfnclgkhfhpaaW.PrintWords Go.Proofs.YtlgfnclgkhfhpaaW.PrintLast Go.Proofs.YtlgfnclgkhfhpaaW.PrintMore
attribute [local go_sem] max2_int min2_int max_two min_two max_three min_three max_four min_four   -- for this text's walks alone
set_option linter.unusedVariables false
set_option linter.unusedSimpArgs false
mutual
def flywheellaw27_AllocSums.l0 : Nat → List (S31) → Int → List (S67) → Int → Int → Int → Int → Int → Option (Bool)
 | 0, _, _, _, _, _, _, _, _ => none
 | k + 1, x1, x7, x8, x9, x10, x11, x12, x13 => if x13 < (x8.length : Int) then (if 0 ≤ x13 then (if ((rd_T67 x8 x13).f0) < 0 then (some false) else (if ((rd_T67 x8 x13).f1) < 0 then (some false) else (if x13 < (x1.length : Int) then (if (wrap64 (((rd_T67 x8 x13).f0) + ((rd_T67 x8 x13).f1))) > ((rd_T31 x1 x13).f2) then (some false) else (if ((rd_T67 x8 x13).f1) > ((rd_T67 x8 x13).f0) then (some false) else (flywheellaw27_AllocSums.l0 k x1 x7 x8 x9 (wrap64 (x10 + (wrap64 (((rd_T67 x8 x13).f0) + ((rd_T67 x8 x13).f1))))) (wrap64 (x11 + ((rd_T31 x1 x13).f1))) (wrap64 (x12 + ((rd_T31 x1 x13).f2))) (wrap64 (x13 + 1))))) else (none)))) else (none)) else (flywheellaw27_AllocSums.l1 k x1 x7 x8 x9 x10 x11 x12 0)
def flywheellaw27_AllocSums.l1 : Nat → List (S31) → Int → List (S67) → Int → Int → Int → Int → Int → Option (Bool)
 | 0, _, _, _, _, _, _, _, _ => none
 | k + 1, x1, x7, x8, x9, x10, x11, x12, x15 => if x15 < (x8.length : Int) then (if x11 ≤ (wrap64 (x7 - x9)) then (if 0 ≤ x15 then (if x15 < (x1.length : Int) then (if (wrap64 (((rd_T67 x8 x15).f0) + ((rd_T67 x8 x15).f1))) < ((rd_T31 x1 x15).f1) then (some false) else (flywheellaw27_AllocSums.l1 k x1 x7 x8 x9 x10 x11 x12 (wrap64 (x15 + 1)))) else (none)) else (none)) else (flywheellaw27_AllocSums.l1 k x1 x7 x8 x9 x10 x11 x12 (wrap64 (x15 + 1)))) else (if (x8.length : Int) = (x1.length : Int) then (if x9 ≥ 0 then (if x9 ≤ (wrap64 (Int.tdiv x7 4)) then (if x10 ≤ x7 then (if x10 = x7 then ((flywheellaw27_wakes.f k).bind fun t361 => (some t361)) else (if (wrap64 (x10 - x9)) = x12 then ((flywheellaw27_wakes.f k).bind fun t362 => (some t362)) else (some false))) else (some false)) else (some false)) else (some false)) else (some false))
end
def flywheellaw27_AllocSums.f (k : Nat) (a0 : Int) (l1 : List (S31)) (a2_0 : Int) (a2_1 : Int) : Option (Bool) := (flywheelref27_Good.f k l1).bind fun t336 => (if t336 = true then ((flywheellaw27_few.f l1).bind fun t342 => ((alloc_Share.f k a0 t342 (Int.tmod a2_0 1000) a2_1).bind fun bt345 => (flywheellaw27_AllocSums.l0 k l1 (mx 0 (mn a0 17179869184)) bt345.1 bt345.2 bt345.2 0 0 0))) else ((flywheellaw27_few.f l1).bind fun t337 => ((alloc_Split.nilres.f k a0 t337).bind fun t340 => ((flywheellaw27_wakes.f k).bind fun t341 => (some t341)))))
def flywheellaw27_AllocSums.T4 : Bool × List (List Nat × List Nat) := (true, [([], []), ([], []), ([1], [1]), ([], []), ([3], [3]), ([4], [4]), ([], []), ([6], [6]), ([0, 2, 5, 7, 2], [0, 2, 5, 7]), ([8], [8]), ([9], [9]), ([9], [9]), ([10, 8, 0, 1, 2, 3, 4, 5, 6, 7, 8, 9, 10], [10]), ([11, 12, 0, 1, 2, 3, 4, 5, 6, 7, 8, 9, 10, 11, 12], [11])])
def flywheellaw27_AllocSums.B4 : List Nat := [0, 0, 2, 0, 8, 24, 0, 64, 255, 511, 1023, 1023, 2047, 8191]
theorem flywheellaw27_AllocSums.tab4 : rtab .any (opsOf Try.f11 4) = flywheellaw27_AllocSums.T4 := by kernel_rfl
theorem flywheellaw27_AllocSums.bits4 : waitsOk flywheellaw27_AllocSums.T4.2 flywheellaw27_AllocSums.B4 = true := by kernel_rfl
def flywheellaw27_AllocSums.T9 : Bool × List (List Nat × List Nat) := (true, [([], []), ([], []), ([0, 1], [0, 1]), ([2], [2]), ([3], [3]), ([], []), ([], []), ([5, 6], [5, 6]), ([7], [7]), ([8], [8]), ([4, 9], [4, 9]), ([10, 0, 1, 2, 3, 4, 5, 6, 7, 8, 9, 10], [10])])
def flywheellaw27_AllocSums.B9 : List Nat := [0, 0, 3, 7, 15, 0, 0, 96, 224, 480, 1023, 2047]
theorem flywheellaw27_AllocSums.tab9 : rtab .any (opsOf Try.f11 9) = flywheellaw27_AllocSums.T9 := by kernel_rfl
theorem flywheellaw27_AllocSums.bits9 : waitsOk flywheellaw27_AllocSums.T9.2 flywheellaw27_AllocSums.B9 = true := by kernel_rfl
def flywheellaw27_AllocSums.T10 : Bool × List (List Nat × List Nat) := (true, [([], []), ([], []), ([0, 1], [0, 1]), ([2], [2]), ([3], [3]), ([4], [4]), ([5], [5]), ([6], [6]), ([6], [6]), ([7, 8, 6], [6, 7, 8]), ([9, 6], [6, 9]), ([10, 6], [6, 10]), ([11, 6], [6, 11]), ([6, 12], [6, 12]), ([13, 6], [13]), ([14], [14]), ([14], [14]), ([14], [14]), ([16, 17, 14], [14, 16, 17]), ([18, 14], [14, 18]), ([19, 14], [14, 19]), ([15, 20, 14], [14, 15, 20]), ([14, 21], [14, 21]), ([22, 14], [22]), ([23], [23]), ([23], [23]), ([24, 25, 23], [23, 24, 25]), ([26, 23], [23, 26]), ([27, 23], [23, 27]), ([23], [23]), ([23], [23]), ([29, 30, 23], [23, 29, 30]), ([31, 23], [23, 31]), ([32, 23], [23, 32]), ([28, 33, 23], [23, 28, 33]), ([23, 34], [23, 34])])
def flywheellaw27_AllocSums.B10 : List Nat := [0, 0, 3, 7, 15, 31, 63, 127, 127, 511, 1023, 2047, 4095, 8191, 16383, 32767, 32767, 32767, 229375, 491519, 1015807, 2097151, 4194303, 8388607, 16777215, 16777215, 67108863, 134217727, 268435455, 16777215, 16777215, 1627389951, 3774873599, 8069840895, 17179869183, 34359738367]
theorem flywheellaw27_AllocSums.tab10 : rtab .any (opsOf Try.f11 10) = flywheellaw27_AllocSums.T10 := by kernel_rfl
theorem flywheellaw27_AllocSums.bits10 : waitsOk flywheellaw27_AllocSums.T10.2 flywheellaw27_AllocSums.B10 = true := by kernel_rfl
def flywheellaw27_AllocSums.T18 : Bool × List (List Nat × List Nat) := (true, [([], []), ([], []), ([], []), ([1, 2], [1, 2]), ([0, 3], [0, 3]), ([4], [4]), ([5], [5]), ([5], [5]), ([6, 7, 5], [5, 6, 7]), ([8, 5], [5, 8]), ([9, 5], [5, 9]), ([5], [5]), ([5], [5]), ([11, 12, 5], [5, 11, 12]), ([13, 5], [5, 13]), ([14, 5], [5, 14]), ([10, 15, 5], [5, 10, 15]), ([5], [5]), ([5], [5]), ([17, 18, 5], [5, 17, 18]), ([19, 5], [5, 19]), ([20, 5], [5, 20]), ([16, 21, 5], [5, 16, 21]), ([5, 22], [5, 22])])
def flywheellaw27_AllocSums.B18 : List Nat := [0, 0, 0, 6, 15, 31, 63, 63, 255, 511, 1023, 63, 63, 6207, 14399, 30783, 65535, 63, 63, 393279, 917567, 1966143, 4194303, 8388607]
theorem flywheellaw27_AllocSums.tab18 : rtab .any (opsOf Try.f11 18) = flywheellaw27_AllocSums.T18 := by kernel_rfl
theorem flywheellaw27_AllocSums.bits18 : waitsOk flywheellaw27_AllocSums.T18.2 flywheellaw27_AllocSums.B18 = true := by kernel_rfl
set_option maxHeartbeats 8000000 in
set_option maxRecDepth 100000 in
theorem flywheellaw27_AllocSums.calls (k : Nat) (a0 : Int) (A1 : Option Addr) (c1 : Nat) (l1 : List (S31)) (a2_0 : Int) (a2_1 : Int) (r : Bool) (w : World) (hr1 : Kd.C k31 w A1 l1.length l1) (hc1 : l1.length ≤ c1) (h : flywheellaw27_AllocSums.f k a0 l1 a2_0 a2_1 = some r) :
  Calls Try.prog 11 #[.int .i64 a0, .slice A1 l1.length c1, .agg #[.int .i64 a2_0, .int .i64 a2_1]] w fun e w' => e = .returned (.bool r) ∧ Below w.heap.size w w' := by
 have hu57 := Try.underlying57
 have hsn27_eql : ∀ (W_ : World), (Go.binOp .eql 27 (.slice none 0 0) (.slice none 0 0)).run Try.prog W_ = .ok (.bool true) W_ := fun _ => by kernel_rfl
 have HR1 := Aside0.mk hr1
 have HC1 := Aside0.mk hc1
 clear hr1 hc1
 have HB := Aside0.mk (Below.refl w.heap.size w)
 have H : ((flywheelref27_Good.f k l1).bind fun t336 => (if t336 = true then ((flywheellaw27_few.f l1).bind fun t342 => ((alloc_Share.f k a0 t342 (Int.tmod a2_0 1000) a2_1).bind fun bt345 => (flywheellaw27_AllocSums.l0 k l1 (mx 0 (mn a0 17179869184)) bt345.1 bt345.2 bt345.2 0 0 0))) else ((flywheellaw27_few.f l1).bind fun t337 => ((alloc_Split.nilres.f k a0 t337).bind fun t340 => ((flywheellaw27_wakes.f k).bind fun t341 => (some t341)))))) = some r := h
 clear h
 replace H := Option.bind_eq_some_iff.mp H
 obtain ⟨t336, A40, H⟩ := H
 replace H : (if t336 = true then ((flywheellaw27_few.f l1).bind fun t342 => ((alloc_Share.f k a0 t342 (Int.tmod a2_0 1000) a2_1).bind fun bt345 => (flywheellaw27_AllocSums.l0 k l1 (mx 0 (mn a0 17179869184)) bt345.1 bt345.2 bt345.2 0 0 0))) else ((flywheellaw27_few.f l1).bind fun t337 => ((alloc_Split.nilres.f k a0 t337).bind fun t340 => ((flywheellaw27_wakes.f k).bind fun t341 => (some t341))))) = some r := H
 have A4 := Aside0.mk A40
 clear A40
 by_cases c5 : t336 = true
 ·subst c5
  have H1 : ((flywheellaw27_few.f l1).bind fun t342 => ((alloc_Share.f k a0 t342 (Int.tmod a2_0 1000) a2_1).bind fun bt345 => (flywheellaw27_AllocSums.l0 k l1 (mx 0 (mn a0 17179869184)) bt345.1 bt345.2 bt345.2 0 0 0))) = some r := by rw [if_pos rfl] at H; exact H
  clear H
  have H := H1
  clear H1
  obtain ⟨ji6, hji6⟩ : ∃ j_ : Int, (mn a0 17179869184) = j_ := ⟨_, rfl⟩
  replace H : ((flywheellaw27_few.f l1).bind fun t342 => ((alloc_Share.f k a0 t342 (Int.tmod a2_0 1000) a2_1).bind fun bt345 => (flywheellaw27_AllocSums.l0 k l1 (mx 0 (ji6)) bt345.1 bt345.2 bt345.2 0 0 0))) = some r := by first | (rw [hji6] at H; exact H) | (simp only [hji6] at H ⊢; exact H)
  (try rw [hji6] at A4)
  (try (have hji6h : ji6 ≤ 17179869184 := by (rw [← hji6]; unfold mn; (repeat' split) <;> omega)))
  (try (have hji6g : ji6 ≤ 64 := by omega))
  have hji6_ : (if 17179869184 < a0 then 17179869184 else a0) = ji6 := hji6
  obtain ⟨ji7, hji7⟩ : ∃ j_ : Int, (mx 0 (ji6)) = j_ := ⟨_, rfl⟩
  replace H : ((flywheellaw27_few.f l1).bind fun t342 => ((alloc_Share.f k a0 t342 (Int.tmod a2_0 1000) a2_1).bind fun bt345 => (flywheellaw27_AllocSums.l0 k l1 ji7 bt345.1 bt345.2 bt345.2 0 0 0))) = some r := by first | (rw [hji7] at H; exact H) | (simp only [hji7] at H ⊢; exact H)
  (try rw [hji7] at A4)
  have hji7_ : (if 0 < (ji6) then (ji6) else 0) = ji7 := hji7
  replace H := Option.bind_eq_some_iff.mp H
  obtain ⟨t342, A80, H⟩ := H
  replace H : ((alloc_Share.f k a0 t342 (Int.tmod a2_0 1000) a2_1).bind fun bt345 => (flywheellaw27_AllocSums.l0 k l1 ji7 bt345.1 bt345.2 bt345.2 0 0 0)) = some r := H
  have A8 := Aside0.mk A80
  clear A80
  replace H := Option.bind_eq_some_iff.mp H
  obtain ⟨⟨t345, t346⟩, A90, H⟩ := H
  replace H : (flywheellaw27_AllocSums.l0 k l1 ji7 t345 t346 t346 0 0 0) = some r := H
  have A9 := Aside0.mk A90
  clear A90
  have H' := Aside0.mk H
  clear H
  go_enter Try.func11, Try.ntmps11
  try go_wp2_with (first | ((with_reducible refine gate_dst (N := 5) rfl ?_); refine box_event ?hg (N := 5) ?hd (cs := #[.int .i64 a2_0, .int .i64 a2_1]) (t := 57) ?hr ?_; (case hd => rfl); (case hg => rfl); (case hr => first | (go_simp; done) | (go_simp; rfl)); intro gb335 hg w10 hbox hb; have n0_ := Aside0.mk (below_step (by repeat (first | (with_reducible first | exact HB.out | apply below_alloc | apply pw_below_drewN | apply below_drew1) | exact HB.out)) hb); have n1_ := Aside0.mk (hbox); have n2_ := Aside0.mk ((by rw [hg]; exact (below_size (by repeat (first | (with_reducible first | exact HB.out | apply below_alloc | apply pw_below_drewN | apply below_drew1) | exact HB.out))) : w.heap.size ≤ gb335)); have n3_ := Aside0.mk ((by rw [hg]; exact (below_size (by repeat (first | (with_reducible first | exact HB.out | apply below_alloc | apply pw_below_drewN | apply below_drew1) | exact HB.out))) : w.heap.size ≤ gb335)); clear HB; have HB := n0_; have BK335 := n1_; have GW335 := n2_; have GE335 := n3_; clear n0_ n1_ n2_ n3_; clear hb hbox hg) | ((with_reducible refine gate_callee (f := 16) rfl ?_); refine goesL_ (some 17) rfl rfl Try.func16 (by kernel_rfl) rfl #[.slice A1 l1.length c1] rfl (by (try simp only [List.map_toArray, List.map_cons, List.map_nil]); first | done | rfl | (simp only [List.length_drop, List.length_take]; rfl)) ?_; (with_reducible refine (flywheelref27_Good.calls k _ _ l1 true _ ?side1 ?side2 A4.out).mono ?_); (case side1 => repeat (first | exact (Kd.C_below HR1.out HB.out) | (with_reducible refine Kd.C_alloc ?_ _) | (with_reducible refine Kd.C_drewN ?_ _) | (with_reducible refine Kd.C_drew ?_))); (case side2 => exact HC1.out); rintro e w' ⟨rfl, ⟨nd, rfl⟩⟩; refine ⟨_, rfl, ?_⟩))
  (try (rw [drewN_self w10]; generalize hq_ : World.drewN w10 _ = w10; have n0_ : Aside0 (w10.heap[gb335]? = some (.cells #[.int .i64 a2_0, .int .i64 a2_1] 57 (0, 0))) := ⟨by rw [← hq_]; exact (by (with_reducible repeat (first | refine blk_drewN ?_ _ | refine blk_drew ?_ | refine blk_alloc ?_ _)); exact BK335.out)⟩; have n1_ : Aside0 (Below w.heap.size w w10) := ⟨by rw [← hq_]; exact (by repeat (first | (with_reducible first | exact HB.out | apply below_alloc | apply pw_below_drewN | apply below_drew1 | refine below_set ?_ GE335.out) | exact HB.out))⟩; clear BK335 HB hq_; have BK335 := n0_; have HB := n1_; clear n0_ n1_))
  have n0_ := Aside0.mk (blk_drew BK335.out)
  have n1_ := Aside0.mk (below_drew1 HB.out)
  clear BK335
  clear HB
  have BK335 := n0_
  have HB := n1_
  clear n0_ n1_
  refine start_ (n := 14) (S := fun w' => w'.cell? ⟨gb335, 0, none⟩ = some (.int .i64 a2_0) ∧ w'.cell? ⟨gb335, 1, none⟩ = some (.int .i64 a2_1)) (ds := []) #[false, false, false, false, false, false, false, false, false, false, false, false, false, false] (by kernel_rfl) rfl rfl ⟨(blk_cell BK335.out 0).trans rfl, (blk_cell BK335.out 1).trans rfl⟩ (fun hHeld => ?_); refine with_tabW flywheellaw27_AllocSums.tab4 flywheellaw27_AllocSums.bits4 (fun HT_ HW_ => ?_)
  generalize w10.drew = w11 at BK335 HB hHeld ⊢
  refine pure_ (i := 0) (N := some 31) (v := ?_) (a' := ?_) (bl 14 1) rfl rfl (any_of HT_.out (by kernel_rfl)) (fun _ _ _ h => h) (Or.inl ⟨by rfl, ?_⟩) ?_ ?_
  rotate_left
  ·intro w'
   go_simp
   with_reducible rfl
  rotate_left
  ·simp only [puts_]
   rfl
  refine pure_ (i := 1) (N := some 32) (v := ?_) (a' := ?_) (bl 14 3) rfl rfl (any_of HT_.out (by kernel_rfl)) (fun _ _ _ h => h) (Or.inl ⟨by rfl, ?_⟩) ?_ ?_
  rotate_left
  ·intro w'
   go_simp
   with_reducible rfl
  rotate_left
  ·simp only [puts_]
   rfl
  refine pure_ (i := 3) (N := some 34) (v := ?_) (a' := ?_) (bl 14 11) rfl rfl (any_of HT_.out (by kernel_rfl)) (fun _ _ _ h => h) (Or.inl ⟨by rfl, ?_⟩) ?_ ?_
  rotate_left
  ·intro w'
   go_simp
   with_reducible rfl
  rotate_left
  ·simp only [puts_]
   rfl
  refine pure_ (i := 6) (N := some 37) (v := ?_) (a' := ?_) (bl 14 75) rfl rfl (any_of HT_.out (by kernel_rfl)) (fun _ _ _ h => h) (Or.inl ⟨by rfl, ?_⟩) ?_ ?_
  rotate_left
  ·intro w'
   go_simp
   with_reducible rfl
  rotate_left
  ·simp only [puts_]
   rfl
  refine take_ (i := 4) (N := some 35) (v := ?_) (a' := ?_) (bl 14 91) rfl rfl (take_ofW HT_.out HW_.out (by kernel_rfl)) (fun _ _ _ h => h) (Or.inl ⟨by rfl, ?_⟩) hHeld ?_ ?_
  rotate_left
  ·rintro w' ⟨s0, s1⟩
   go_simp
   with_reducible rfl
  rotate_left
  ·simp only [puts_]
   rfl
  refine pure_ (i := 5) (N := some 36) (v := ?_) (a' := ?_) (bl 14 123) rfl rfl (any_of HT_.out (by kernel_rfl)) (fun _ _ _ h => h) (Or.inl ⟨by rfl, ?_⟩) ?_ ?_
  rotate_left
  ·intro w'
   go_simp
   with_reducible rfl
  rotate_left
  ·simp only [puts_]
   rfl
  refine take_ (i := 7) (N := some 38) (v := ?_) (a' := ?_) (bl 14 251) rfl rfl (take_ofW HT_.out HW_.out (by kernel_rfl)) (fun _ _ _ h => h) (Or.inl ⟨by rfl, ?_⟩) hHeld ?_ ?_
  rotate_left
  ·rintro w' ⟨s0, s1⟩
   go_simp
   with_reducible rfl
  rotate_left
  ·simp only [puts_]
   rfl
  refine one_ (i := 2) (N := some 33) (bl 14 255) rfl rfl (one_of HT_.out (by kernel_rfl)) (by decide) (fun K hK => ?_)
  refine goes_ Try.func15 (by kernel_rfl) rfl #[.slice A1 l1.length c1] (by rfl) rfl rfl (by (try simp only [List.map_toArray, List.map_cons, List.map_nil]); first | done | rfl | (simp only [List.length_drop, List.length_take]; rfl)) ?_
  with_reducible refine (flywheellaw27_few.calls _ _ l1 t342 _ ?side1 ?side2 A8.out).mono ?_
  (case side1 => repeat (first | exact (Kd.C_below HR1.out HB.out) | (with_reducible refine Kd.C_alloc ?_ _) | (with_reducible refine Kd.C_drewN ?_ _) | (with_reducible refine Kd.C_drew ?_)))
  (case side2 => exact HC1.out)
  rintro e w12 ⟨v343, rfl, ho0, hb⟩
  refine ⟨_, rfl, ?_⟩
  have n0_ := Aside0.mk (Kd.R_lower ho0 (below_size (by repeat (first | (with_reducible first | exact HB.out | apply below_alloc | apply pw_below_drewN | apply below_drew1 | refine below_set ?_ GE335.out) | exact HB.out))))
  have n1_ := Aside0.mk (blk_below (g := gb335) (o := .cells #[.int .i64 a2_0, .int .i64 a2_1] 57 (0, 0)) (by (with_reducible repeat (first | refine blk_drewN ?_ _ | refine blk_drew ?_ | refine blk_alloc ?_ _)); exact BK335.out) hb)
  have n2_ := Aside0.mk (below_step (by repeat (first | (with_reducible first | exact HB.out | apply below_alloc | apply pw_below_drewN | apply below_drew1 | refine below_set ?_ GE335.out) | exact HB.out)) hb)
  clear BK335
  clear HB
  have HO344 := n0_
  have BK335 := n1_
  have HB := n2_
  clear n0_ n1_ n2_
  (try clear hb)
  (try clear hb2)
  (try clear hk)
  (try clear hi)
  (try clear ho0)
  obtain ⟨Ao13, co13, eo13⟩ := Kd.R_slice HO344.out
  (first | subst eo13 | (injection eo13 with f1_ f2_ f3_; have f4_ := f1_.symm; have f5_ := f3_.symm; clear f1_ f2_ f3_; subst f4_; subst f5_))
  refine hK.out _ _ ⟨(blk_cell BK335.out 0).trans rfl, (blk_cell BK335.out 1).trans rfl⟩ (fun hHeld => ?_)
  clear hK K
  refine norm_ (a' := ?_) ?_ ?_
  rotate_left
  ·show Act.put _ (some 33) _ = _
   simp only [puts_]
   rfl
  refine one_ (i := 8) (N := some 39) (bl 14 511) rfl rfl (one_of HT_.out (by kernel_rfl)) (by decide) (fun K hK => ?_)
  refine goes_ Try.func36 (by kernel_rfl) rfl #[.int .i64 a0, .slice Ao13 t342.length co13, .int .i64 (Int.tmod a2_0 1000), .int .i64 a2_1] (by rfl) rfl rfl (by (try simp only [List.map_toArray, List.map_cons, List.map_nil]); first | done | rfl | (simp only [List.length_drop, List.length_take]; rfl)) ?_
  with_reducible refine (alloc_Share.calls k a0 _ _ t342 (Int.tmod a2_0 1000) a2_1 t345 t346 _ ?side1 ?side2 A9.out).mono ?_
  (case side1 => repeat (first | exact (Kd.R_reads' HO344.out).2.2 | (with_reducible refine Kd.C_alloc ?_ _) | (with_reducible refine Kd.C_drewN ?_ _) | (with_reducible refine Kd.C_drew ?_)))
  (case side2 => exact (Kd.R_reads' HO344.out).2.1)
  rintro e w14 ⟨v347, rfl, ho0, hb⟩
  refine ⟨_, rfl, ?_⟩
  have n0_ := Aside0.mk (Kd.R_below (by (with_reducible repeat (first | apply Kd.R_alloc | apply Kd.R_drewN | apply Kd.R_drew)); exact HO344.out) hb)
  have n1_ := Aside0.mk (Kd.R_lower ho0 (below_size (by repeat (first | (with_reducible first | exact HB.out | apply below_alloc | apply pw_below_drewN | apply below_drew1 | refine below_set ?_ GE335.out) | exact HB.out))))
  have n2_ := Aside0.mk (blk_below (g := gb335) (o := .cells #[.int .i64 a2_0, .int .i64 a2_1] 57 (0, 0)) (by (with_reducible repeat (first | refine blk_drewN ?_ _ | refine blk_drew ?_ | refine blk_alloc ?_ _)); exact BK335.out) hb)
  have n3_ := Aside0.mk (below_step (by repeat (first | (with_reducible first | exact HB.out | apply below_alloc | apply pw_below_drewN | apply below_drew1 | refine below_set ?_ GE335.out) | exact HB.out)) hb)
  clear HO344
  clear BK335
  clear HB
  have HO344 := n0_
  have HO348 := n1_
  have BK335 := n2_
  have HB := n3_
  clear n0_ n1_ n2_ n3_
  (try clear hb)
  (try clear hb2)
  (try clear hk)
  (try clear hi)
  (try clear ho0)
  refine hK.out _ _ ⟨(blk_cell BK335.out 0).trans rfl, (blk_cell BK335.out 1).trans rfl⟩ (fun hHeld => ?_)
  clear hK K
  refine norm_ (a' := ?_) ?_ ?_
  rotate_left
  ·show Act.put _ (some 39) _ = _
   simp only [puts_]
   rfl
  refine pure_ (i := 9) (N := some 30) (v := ?_) (a' := ?_) (bl 14 1023) rfl rfl (any_of HT_.out (by kernel_rfl)) (fun _ _ _ h => h) (Or.inl ⟨by rfl, ?_⟩) ?_ ?_
  rotate_left
  ·intro w'
   go_simp
   with_reducible rfl
  rotate_left
  ·simp only [puts_]
   rfl
  refine pure_ (i := 10) (N := some 40) (v := ?_) (a' := ?_) (bl 14 2047) rfl rfl (any_of HT_.out (by kernel_rfl)) (fun _ _ _ h => h) (Or.inl ⟨by rfl, ?_⟩) ?_ ?_
  rotate_left
  ·intro w'
   go_simp
   with_reducible rfl
  rotate_left
  ·simp only [puts_]
   rfl
  refine pure_ (i := 11) (N := some 41) (v := ?_) (a' := ?_) (bl 14 4095) rfl rfl (any_of HT_.out (by kernel_rfl)) (fun _ _ _ h => h) (Or.inl ⟨by rfl, ?_⟩) ?_ ?_
  rotate_left
  ·intro w'
   go_simp
   with_reducible rfl
  rotate_left
  ·simp only [puts_]
   rfl
  refine pure_ (i := 12) (N := some 8) (v := ?_) (a' := ?_) (bl 14 8191) rfl rfl (any_of HT_.out (by kernel_rfl)) (fun _ _ _ h => h) (Or.inl ⟨by rfl, ?_⟩) ?_ ?_
  rotate_left
  ·intro w'
   go_simp
   with_reducible rfl
  rotate_left
  ·simp only [puts_]
   rfl
  refine pure_ (i := 13) (N := some 9) (v := ?_) (a' := ?_) (bl 14 16383) rfl rfl (any_of HT_.out (by kernel_rfl)) (fun _ _ _ h => h) (Or.inl ⟨by rfl, ?_⟩) ?_ ?_
  rotate_left
  ·intro w'
   go_simp
   with_reducible rfl
  rotate_left
  ·simp only [puts_]
   rfl
  refine done_ (done_of HT_.out (by kernel_rfl)) ?_
  try go_wp2
  go_loopg [10, 11, 12, 13] k (fun kq v10 v11 v12 v13 w' => ∃ (x10_1 : Int) (x11_1 : Int) (x12_1 : Int) (x13_1 : Int), v10 = .int .i64 x10_1 ∧ v11 = .int .i64 x11_1 ∧ v12 = .int .i64 x12_1 ∧ v13 = .int .i64 x13_1 ∧ Aside0 (flywheellaw27_AllocSums.l0 kq l1 ji7 t345 t346 x10_1 x11_1 x12_1 x13_1 = some r) ∧ Aside0 (kq ≤ k) ∧ Aside0 (Kd.R k67 67 w' w.heap.size (fun _ => True) v347 t345) ∧ Aside0 (w'.heap[gb335]? = some (.cells #[.int .i64 a2_0, .int .i64 a2_1] 57 (0, 0))) ∧ Aside0 (Below w.heap.size w w'))
  case atStart => exact ⟨(t346), (0), (0), (0), (by first | rfl | (simp; done) | (simp [*]; done)), (by first | rfl | (simp; done) | (simp [*]; done)), (by first | rfl | (simp; done) | (simp [*]; done)), (by first | rfl | (simp; done) | (simp [*]; done)), H', ⟨Nat.le_refl _⟩, ⟨by (with_reducible repeat (first | apply Kd.R_alloc | apply Kd.R_drewN | apply Kd.R_drew)); exact HO348.out⟩, ⟨by (with_reducible repeat (first | refine blk_drewN ?_ _ | refine blk_drew ?_ | refine blk_alloc ?_ _)); exact BK335.out⟩, ⟨by repeat (first | (with_reducible first | exact HB.out | apply below_alloc | apply pw_below_drewN | apply below_drew1 | refine below_set ?_ GE335.out) | exact HB.out)⟩⟩
  case round =>
   clear H'
   try clear c1
   try clear p2
   try clear c3
   try clear c5
   try clear c11
   obtain ⟨x10_1, x11_1, x12_1, x13_1, rfl, rfl, rfl, rfl, HA, HK1, HO_8, BK335, HB⟩ := hrel
   cases gk with
   | zero => exact absurd HA.out (by simp [flywheellaw27_AllocSums.l0])
   | succ k1 =>
    have H := HA.out
    clear HA
    simp only [flywheellaw27_AllocSums.l0] at H
    by_cases c15 : x13_1 < (t345.length : Int)
    ·rw [if_pos c15] at H
     have c15b0 : decide (x13_1 < (t345.length : Int)) = true := decide_eq_true c15
     clear c15
     by_cases c16 : 0 ≤ x13_1
     ·rw [if_pos c16] at H
      have c16b0 : decide (0 ≤ x13_1) = true := decide_eq_true c16
      clear c16
      by_cases c17 : ((rd_T67 t345 x13_1).f0) < 0
      ·rw [if_pos c17] at H
       have c17b0 : decide (((rd_T67 t345 x13_1).f0) < 0) = true := decide_eq_true c17
       clear c17
       obtain rfl := Option.some.inj H
       obtain ⟨Ao18, co18, eo18⟩ := Kd.R_slice HO_8.out
       subst eo18
       try go_wp2
       have n0_ := Aside0.mk (Kd.R_drew HO_8.out)
       have n1_ := Aside0.mk (blk_drew BK335.out)
       have n2_ := Aside0.mk (below_drew1 HB.out)
       clear HO_8
       clear BK335
       clear HB
       have HO_8 := n0_
       have BK335 := n1_
       have HB := n2_
       clear n0_ n1_ n2_
       have p349 : 0 ≤ (x13_1 : Int) := of_decide_eq_true (by first | (with_reducible assumption) | assumption)
       have q349 : x13_1 < (t345.length : Int) := of_decide_eq_true (by first | (with_reducible assumption) | assumption)
       obtain ⟨ad349, e349, hx349_0, hx349_1⟩ := at_T67 (Kd.R_reads' HO_8.out).2.2 x13_1 p349 q349
       cases e349
       replace p349 := eq_true p349
       replace q349 := eq_true q349
       have p350 : 0 ≤ (x13_1 : Int) := of_decide_eq_true (by first | (with_reducible assumption) | assumption)
       have q350 : x13_1 < (t345.length : Int) := of_decide_eq_true (by first | (with_reducible assumption) | assumption)
       obtain ⟨ad350, e350, hx350_0, hx350_1⟩ := at_T67 (Kd.R_reads' HO_8.out).2.2 x13_1 p350 q350
       obtain rfl : ad349 = ad350 := (by injection e350)
       replace p350 := eq_true p350
       replace q350 := eq_true q350
       refine start_ (n := 12) (S := fun w' => w'.cell? (ad349.add ((x13_1).toNat * 2)) = some (.int .i64 ((rd_T67 t345 x13_1).f0)) ∧ w'.cell? ⟨(ad349.add ((x13_1).toNat * 2)).block, (ad349.add ((x13_1).toNat * 2)).off + 1, none⟩ = some (.int .i64 ((rd_T67 t345 x13_1).f1)) ∧ w'.cell? (ad349.add ((x13_1).toNat * 2)) = some (.int .i64 ((rd_T67 t345 x13_1).f0)) ∧ w'.cell? ⟨(ad349.add ((x13_1).toNat * 2)).block, (ad349.add ((x13_1).toNat * 2)).off + 1, none⟩ = some (.int .i64 ((rd_T67 t345 x13_1).f1))) (ds := []) #[false, false, false, false, false, false, false, false, false, false, false, false] (by kernel_rfl) rfl rfl ⟨hx349_0, hx349_1, hx350_0, hx350_1⟩ (fun hHeld => ?_); refine with_tabW flywheellaw27_AllocSums.tab9 flywheellaw27_AllocSums.bits9 (fun HT_ HW_ => ?_)
       generalize wr.drew = w19 at HO_8 BK335 HB hx349_0 hx349_1 hx350_0 hx350_1 hHeld ⊢
       refine pure_ (i := 0) (N := some 49) (v := ?_) (a' := ?_) (bl 12 1) rfl rfl (any_of HT_.out (by kernel_rfl)) (fun _ _ _ h => h) (Or.inl ⟨by rfl, ?_⟩) ?_ ?_
       rotate_left
       ·intro w'
        go_simp
        with_reducible rfl
       rotate_left
       ·simp only [puts_]
        rfl
       refine pure_ (i := 1) (N := some 50) (v := ?_) (a' := ?_) (bl 12 3) rfl rfl (any_of HT_.out (by kernel_rfl)) (fun _ _ _ h => h) (Or.inl ⟨by rfl, ?_⟩) ?_ ?_
       rotate_left
       ·intro w'
        go_simp
        with_reducible rfl
       rotate_left
       ·simp only [puts_]
        rfl
       refine pure_ (i := 2) (N := some 51) (v := ?_) (a' := ?_) (bl 12 7) rfl rfl (any_of HT_.out (by kernel_rfl)) (fun _ _ _ h => h) (Or.inl ⟨by rfl, ?_⟩) ?_ ?_
       rotate_left
       ·intro w'
        go_simp
        with_reducible rfl
       rotate_left
       ·simp only [puts_]
        rfl
       refine pure_ (i := 3) (N := some 52) (v := ?_) (a' := ?_) (bl 12 15) rfl rfl (any_of HT_.out (by kernel_rfl)) (fun _ _ _ h => h) (Or.inl ⟨by rfl, ?_⟩) ?_ ?_
       rotate_left
       ·intro w'
        go_simp
        with_reducible rfl
       rotate_left
       ·simp only [puts_]
        rfl
       refine pure_ (i := 5) (N := some 54) (v := ?_) (a' := ?_) (bl 12 47) rfl rfl (any_of HT_.out (by kernel_rfl)) (fun _ _ _ h => h) (Or.inl ⟨by rfl, ?_⟩) ?_ ?_
       rotate_left
       ·intro w'
        go_simp
        with_reducible rfl
       rotate_left
       ·simp only [puts_]
        rfl
       refine pure_ (i := 6) (N := some 55) (v := ?_) (a' := ?_) (bl 12 111) rfl rfl (any_of HT_.out (by kernel_rfl)) (fun _ _ _ h => h) (Or.inl ⟨by rfl, ?_⟩) ?_ ?_
       rotate_left
       ·intro w'
        go_simp
        with_reducible rfl
       rotate_left
       ·simp only [puts_]
        rfl
       refine pure_ (i := 7) (N := some 56) (v := ?_) (a' := ?_) (bl 12 239) rfl rfl (any_of HT_.out (by kernel_rfl)) (fun _ _ _ h => h) (Or.inl ⟨by rfl, ?_⟩) ?_ ?_
       rotate_left
       ·intro w'
        go_simp
        with_reducible rfl
       rotate_left
       ·simp only [puts_]
        rfl
       refine pure_ (i := 8) (N := some 57) (v := ?_) (a' := ?_) (bl 12 495) rfl rfl (any_of HT_.out (by kernel_rfl)) (fun _ _ _ h => h) (Or.inl ⟨by rfl, ?_⟩) ?_ ?_
       rotate_left
       ·intro w'
        go_simp
        with_reducible rfl
       rotate_left
       ·simp only [puts_]
        rfl
       refine take_ (i := 4) (N := some 53) (v := ?_) (a' := ?_) (bl 12 511) rfl rfl (take_ofW HT_.out HW_.out (by kernel_rfl)) (fun _ _ _ h => h) (Or.inl ⟨by rfl, ?_⟩) hHeld ?_ ?_
       rotate_left
       ·rintro w' ⟨s0, s1, s2, s3⟩
        go_simp
        with_reducible rfl
       rotate_left
       ·simp only [puts_]
        rfl
       refine take_ (i := 9) (N := some 58) (v := ?_) (a' := ?_) (bl 12 1023) rfl rfl (take_ofW HT_.out HW_.out (by kernel_rfl)) (fun _ _ _ h => h) (Or.inl ⟨by rfl, ?_⟩) hHeld ?_ ?_
       rotate_left
       ·rintro w' ⟨s0, s1, s2, s3⟩
        go_simp
        with_reducible rfl
       rotate_left
       ·simp only [puts_]
        rfl
       refine pure_ (i := 10) (N := some 59) (v := ?_) (a' := ?_) (bl 12 2047) rfl rfl (any_of HT_.out (by kernel_rfl)) (fun _ _ _ h => h) (Or.inl ⟨by rfl, ?_⟩) ?_ ?_
       rotate_left
       ·intro w'
        go_simp
        with_reducible rfl
       rotate_left
       ·simp only [puts_]
        rfl
       refine pure_ (i := 11) (N := some 14) (v := ?_) (a' := ?_) (bl 12 4095) rfl rfl (any_of HT_.out (by kernel_rfl)) (fun _ _ _ h => h) (Or.inl ⟨by rfl, ?_⟩) ?_ ?_
       rotate_left
       ·intro w'
        go_simp
        with_reducible rfl
       rotate_left
       ·simp only [puts_]
        rfl
       refine done_ (done_of HT_.out (by kernel_rfl)) ?_
       try go_wp2
       have n0_ := Aside0.mk (Kd.R_drew HO_8.out)
       have n1_ := Aside0.mk (blk_drew BK335.out)
       have n2_ := Aside0.mk (below_drew1 HB.out)
       clear HO_8
       clear BK335
       clear HB
       have HO_8 := n0_
       have BK335 := n1_
       have HB := n2_
       clear n0_ n1_ n2_
       have p351 : 0 ≤ (x13_1 : Int) := of_decide_eq_true (by first | (with_reducible assumption) | assumption)
       have q351 : x13_1 < (t345.length : Int) := of_decide_eq_true (by first | (with_reducible assumption) | assumption)
       obtain ⟨ad351, e351, hx351_0, hx351_1⟩ := at_T67 (Kd.R_reads' HO_8.out).2.2 x13_1 p351 q351
       obtain rfl : ad349 = ad351 := (by injection e351)
       replace p351 := eq_true p351
       replace q351 := eq_true q351
       refine start_ (n := 36) (S := fun w' => w'.cell? (ad349.add ((x13_1).toNat * 2)) = some (.int .i64 ((rd_T67 t345 x13_1).f0)) ∧ w'.cell? ⟨(ad349.add ((x13_1).toNat * 2)).block, (ad349.add ((x13_1).toNat * 2)).off + 1, none⟩ = some (.int .i64 ((rd_T67 t345 x13_1).f1))) (ds := []) #[false, false, false, false, false, false, false, false, false, false, false, false, false, false, false, false, false, false, false, false, false, false, false, false, false, false, false, false, false, false, false, false, false, false, false, false] (by kernel_rfl) rfl rfl ⟨hx351_0, hx351_1⟩ (fun hHeld => ?_); refine with_tabW flywheellaw27_AllocSums.tab10 flywheellaw27_AllocSums.bits10 (fun HT_ HW_ => ?_)
       generalize w19.drew = w20 at HO_8 BK335 HB hx351_0 hx351_1 hHeld ⊢
       refine pure_ (i := 0) (N := some 60) (v := ?_) (a' := ?_) (bl 36 1) rfl rfl (any_of HT_.out (by kernel_rfl)) (fun _ _ _ h => h) (Or.inl ⟨by rfl, ?_⟩) ?_ ?_
       rotate_left
       ·intro w'
        go_simp
        with_reducible rfl
       rotate_left
       ·simp only [puts_]
        rfl
       refine pure_ (i := 1) (N := some 61) (v := ?_) (a' := ?_) (bl 36 3) rfl rfl (any_of HT_.out (by kernel_rfl)) (fun _ _ _ h => h) (Or.inl ⟨by rfl, ?_⟩) ?_ ?_
       rotate_left
       ·intro w'
        go_simp
        with_reducible rfl
       rotate_left
       ·simp only [puts_]
        rfl
       refine pure_ (i := 2) (N := some 62) (v := ?_) (a' := ?_) (bl 36 7) rfl rfl (any_of HT_.out (by kernel_rfl)) (fun _ _ _ h => h) (Or.inl ⟨by rfl, ?_⟩) ?_ ?_
       rotate_left
       ·intro w'
        go_simp
        with_reducible rfl
       rotate_left
       ·simp only [puts_]
        rfl
       refine pure_ (i := 3) (N := some 63) (v := ?_) (a' := ?_) (bl 36 15) rfl rfl (any_of HT_.out (by kernel_rfl)) (fun _ _ _ h => h) (Or.inl ⟨by rfl, ?_⟩) ?_ ?_
       rotate_left
       ·intro w'
        go_simp
        with_reducible rfl
       rotate_left
       ·simp only [puts_]
        rfl
       refine take_ (i := 4) (N := some 64) (v := ?_) (a' := ?_) (bl 36 31) rfl rfl (take_ofW HT_.out HW_.out (by kernel_rfl)) (fun _ _ _ h => h) (Or.inl ⟨by rfl, ?_⟩) hHeld ?_ ?_
       rotate_left
       ·rintro w' ⟨s0, s1⟩
        go_simp
        with_reducible rfl
       rotate_left
       ·simp only [puts_]
        rfl
       refine pure_ (i := 5) (N := some 65) (v := ?_) (a' := ?_) (bl 36 63) rfl rfl (any_of HT_.out (by kernel_rfl)) (fun _ _ _ h => h) (Or.inl ⟨by rfl, ?_⟩) ?_ ?_
       rotate_left
       ·intro w'
        go_simp
        with_reducible rfl
       rotate_left
       ·simp only [puts_]
        rfl
       refine pure_ (i := 6) (N := some 66) (v := ?_) (a' := ?_) (bl 36 127) rfl rfl (any_of HT_.out (by kernel_rfl)) (fun _ _ _ h => h) (Or.inl ⟨by rfl, ?_⟩) ?_ ?_
       rotate_left
       ·intro w'
        go_simp
        with_reducible rfl
       rotate_left
       ·simp only [puts_]
        rfl
       refine pure_ (i := 7) (N := some 67) (v := undef) (a' := ?_) (bl 36 255) rfl rfl (any_of HT_.out (by kernel_rfl)) (fun _ _ _ h => h) (Or.inr ⟨by rfl, rfl⟩) ?_ ?_
       rotate_left
       ·simp only [puts_]
        rfl
       refine pure_ (i := 8) (N := some 68) (v := undef) (a' := ?_) (bl 36 511) rfl rfl (any_of HT_.out (by kernel_rfl)) (fun _ _ _ h => h) (Or.inr ⟨by rfl, rfl⟩) ?_ ?_
       rotate_left
       ·simp only [puts_]
        rfl
       refine pure_ (i := 9) (N := some 69) (v := undef) (a' := ?_) (bl 36 1023) rfl rfl (any_of HT_.out (by kernel_rfl)) (fun _ _ _ h => h) (Or.inr ⟨by rfl, rfl⟩) ?_ ?_
       rotate_left
       ·simp only [puts_]
        rfl
       refine pure_ (i := 10) (N := some 70) (v := undef) (a' := ?_) (bl 36 2047) rfl rfl (any_of HT_.out (by kernel_rfl)) (fun _ _ _ h => h) (Or.inr ⟨by rfl, rfl⟩) ?_ ?_
       rotate_left
       ·simp only [puts_]
        rfl
       refine pure_ (i := 11) (N := some 71) (v := undef) (a' := ?_) (bl 36 4095) rfl rfl (any_of HT_.out (by kernel_rfl)) (fun _ _ _ h => h) (Or.inr ⟨by rfl, rfl⟩) ?_ ?_
       rotate_left
       ·simp only [puts_]
        rfl
       refine pure_ (i := 12) (N := some 72) (v := undef) (a' := ?_) (bl 36 8191) rfl rfl (any_of HT_.out (by kernel_rfl)) (fun _ _ _ h => h) (Or.inr ⟨by rfl, rfl⟩) ?_ ?_
       rotate_left
       ·simp only [puts_]
        rfl
       refine pure_ (i := 13) (N := some 73) (v := ?_) (a' := ?_) (bl 36 16383) rfl rfl (any_of HT_.out (by kernel_rfl)) (fun _ _ _ h => h) (Or.inl ⟨by rfl, ?_⟩) ?_ ?_
       rotate_left
       ·intro w'
        go_simp
        with_reducible rfl
       rotate_left
       ·simp only [puts_]
        rfl
       refine pure_ (i := 14) (N := some 74) (v := ?_) (a' := ?_) (bl 36 32767) rfl rfl (any_of HT_.out (by kernel_rfl)) (fun _ _ _ h => h) (Or.inl ⟨by rfl, ?_⟩) ?_ ?_
       rotate_left
       ·intro w'
        go_simp
        with_reducible rfl
       rotate_left
       ·simp only [puts_]
        rfl
       refine pure_ (i := 15) (N := some 75) (v := undef) (a' := ?_) (bl 36 65535) rfl rfl (any_of HT_.out (by kernel_rfl)) (fun _ _ _ h => h) (Or.inr ⟨by rfl, rfl⟩) ?_ ?_
       rotate_left
       ·simp only [puts_]
        rfl
       refine pure_ (i := 16) (N := some 76) (v := undef) (a' := ?_) (bl 36 131071) rfl rfl (any_of HT_.out (by kernel_rfl)) (fun _ _ _ h => h) (Or.inr ⟨by rfl, rfl⟩) ?_ ?_
       rotate_left
       ·simp only [puts_]
        rfl
       refine pure_ (i := 17) (N := some 77) (v := undef) (a' := ?_) (bl 36 262143) rfl rfl (any_of HT_.out (by kernel_rfl)) (fun _ _ _ h => h) (Or.inr ⟨by rfl, rfl⟩) ?_ ?_
       rotate_left
       ·simp only [puts_]
        rfl
       refine pure_ (i := 18) (N := some 78) (v := undef) (a' := ?_) (bl 36 524287) rfl rfl (any_of HT_.out (by kernel_rfl)) (fun _ _ _ h => h) (Or.inr ⟨by rfl, rfl⟩) ?_ ?_
       rotate_left
       ·simp only [puts_]
        rfl
       refine pure_ (i := 19) (N := some 79) (v := undef) (a' := ?_) (bl 36 1048575) rfl rfl (any_of HT_.out (by kernel_rfl)) (fun _ _ _ h => h) (Or.inr ⟨by rfl, rfl⟩) ?_ ?_
       rotate_left
       ·simp only [puts_]
        rfl
       refine pure_ (i := 20) (N := some 80) (v := undef) (a' := ?_) (bl 36 2097151) rfl rfl (any_of HT_.out (by kernel_rfl)) (fun _ _ _ h => h) (Or.inr ⟨by rfl, rfl⟩) ?_ ?_
       rotate_left
       ·simp only [puts_]
        rfl
       refine pure_ (i := 21) (N := some 81) (v := undef) (a' := ?_) (bl 36 4194303) rfl rfl (any_of HT_.out (by kernel_rfl)) (fun _ _ _ h => h) (Or.inr ⟨by rfl, rfl⟩) ?_ ?_
       rotate_left
       ·simp only [puts_]
        rfl
       refine pure_ (i := 22) (N := some 82) (v := ?_) (a' := ?_) (bl 36 8388607) rfl rfl (any_of HT_.out (by kernel_rfl)) (fun _ _ _ h => h) (Or.inl ⟨by rfl, ?_⟩) ?_ ?_
       rotate_left
       ·intro w'
        go_simp
        with_reducible rfl
       rotate_left
       ·simp only [puts_]
        rfl
       refine pure_ (i := 23) (N := some 83) (v := ?_) (a' := ?_) (bl 36 16777215) rfl rfl (any_of HT_.out (by kernel_rfl)) (fun _ _ _ h => h) (Or.inl ⟨by rfl, ?_⟩) ?_ ?_
       rotate_left
       ·intro w'
        go_simp
        with_reducible rfl
       rotate_left
       ·simp only [puts_]
        rfl
       refine pure_ (i := 24) (N := some 84) (v := undef) (a' := ?_) (bl 36 33554431) rfl rfl (any_of HT_.out (by kernel_rfl)) (fun _ _ _ h => h) (Or.inr ⟨by rfl, rfl⟩) ?_ ?_
       rotate_left
       ·simp only [puts_]
        rfl
       refine pure_ (i := 25) (N := some 85) (v := undef) (a' := ?_) (bl 36 67108863) rfl rfl (any_of HT_.out (by kernel_rfl)) (fun _ _ _ h => h) (Or.inr ⟨by rfl, rfl⟩) ?_ ?_
       rotate_left
       ·simp only [puts_]
        rfl
       refine pure_ (i := 26) (N := some 86) (v := undef) (a' := ?_) (bl 36 134217727) rfl rfl (any_of HT_.out (by kernel_rfl)) (fun _ _ _ h => h) (Or.inr ⟨by rfl, rfl⟩) ?_ ?_
       rotate_left
       ·simp only [puts_]
        rfl
       refine pure_ (i := 27) (N := some 87) (v := undef) (a' := ?_) (bl 36 268435455) rfl rfl (any_of HT_.out (by kernel_rfl)) (fun _ _ _ h => h) (Or.inr ⟨by rfl, rfl⟩) ?_ ?_
       rotate_left
       ·simp only [puts_]
        rfl
       refine pure_ (i := 28) (N := some 88) (v := undef) (a' := ?_) (bl 36 536870911) rfl rfl (any_of HT_.out (by kernel_rfl)) (fun _ _ _ h => h) (Or.inr ⟨by rfl, rfl⟩) ?_ ?_
       rotate_left
       ·simp only [puts_]
        rfl
       refine pure_ (i := 29) (N := some 89) (v := undef) (a' := ?_) (bl 36 1073741823) rfl rfl (any_of HT_.out (by kernel_rfl)) (fun _ _ _ h => h) (Or.inr ⟨by rfl, rfl⟩) ?_ ?_
       rotate_left
       ·simp only [puts_]
        rfl
       refine pure_ (i := 30) (N := some 90) (v := undef) (a' := ?_) (bl 36 2147483647) rfl rfl (any_of HT_.out (by kernel_rfl)) (fun _ _ _ h => h) (Or.inr ⟨by rfl, rfl⟩) ?_ ?_
       rotate_left
       ·simp only [puts_]
        rfl
       refine pure_ (i := 31) (N := some 91) (v := undef) (a' := ?_) (bl 36 4294967295) rfl rfl (any_of HT_.out (by kernel_rfl)) (fun _ _ _ h => h) (Or.inr ⟨by rfl, rfl⟩) ?_ ?_
       rotate_left
       ·simp only [puts_]
        rfl
       refine pure_ (i := 32) (N := some 92) (v := undef) (a' := ?_) (bl 36 8589934591) rfl rfl (any_of HT_.out (by kernel_rfl)) (fun _ _ _ h => h) (Or.inr ⟨by rfl, rfl⟩) ?_ ?_
       rotate_left
       ·simp only [puts_]
        rfl
       refine pure_ (i := 33) (N := some 93) (v := undef) (a' := ?_) (bl 36 17179869183) rfl rfl (any_of HT_.out (by kernel_rfl)) (fun _ _ _ h => h) (Or.inr ⟨by rfl, rfl⟩) ?_ ?_
       rotate_left
       ·simp only [puts_]
        rfl
       refine pure_ (i := 34) (N := some 94) (v := undef) (a' := ?_) (bl 36 34359738367) rfl rfl (any_of HT_.out (by kernel_rfl)) (fun _ _ _ h => h) (Or.inr ⟨by rfl, rfl⟩) ?_ ?_
       rotate_left
       ·simp only [puts_]
        rfl
       refine pure_ (i := 35) (N := some 95) (v := ?_) (a' := ?_) (bl 36 68719476735) rfl rfl (any_of HT_.out (by kernel_rfl)) (fun _ _ _ h => h) (Or.inl ⟨by rfl, ?_⟩) ?_ ?_
       rotate_left
       ·intro w'
        go_simp
        with_reducible rfl
       rotate_left
       ·simp only [puts_]
        rfl
       refine done_ (done_of HT_.out (by kernel_rfl)) ?_
       try go_wp2
       go_ret
       exact ⟨by first | rfl | (simp [errW_none, errW_some] <;> rfl) | (simp only [← hji6, ← hji7]; first | rfl | (simp [errW_none, errW_some] <;> rfl)) | (simp [*, errW_none, errW_some] <;> rfl), by repeat (first | (with_reducible first | exact HB.out | apply below_alloc | apply pw_below_drewN | apply below_drew1 | refine below_set ?_ GE335.out) | exact HB.out)⟩
      ·rw [if_neg c17] at H
       have c17b0 : decide (((rd_T67 t345 x13_1).f0) < 0) = false := decide_eq_false c17
       clear c17
       by_cases c21 : ((rd_T67 t345 x13_1).f1) < 0
       ·rw [if_pos c21] at H
        have c21b0 : decide (((rd_T67 t345 x13_1).f1) < 0) = true := decide_eq_true c21
        clear c21
        obtain rfl := Option.some.inj H
        obtain ⟨Ao22, co22, eo22⟩ := Kd.R_slice HO_8.out
        subst eo22
        try go_wp2
        have n0_ := Aside0.mk (Kd.R_drew HO_8.out)
        have n1_ := Aside0.mk (blk_drew BK335.out)
        have n2_ := Aside0.mk (below_drew1 HB.out)
        clear HO_8
        clear BK335
        clear HB
        have HO_8 := n0_
        have BK335 := n1_
        have HB := n2_
        clear n0_ n1_ n2_
        have p349 : 0 ≤ (x13_1 : Int) := of_decide_eq_true (by first | (with_reducible assumption) | assumption)
        have q349 : x13_1 < (t345.length : Int) := of_decide_eq_true (by first | (with_reducible assumption) | assumption)
        obtain ⟨ad349, e349, hx349_0, hx349_1⟩ := at_T67 (Kd.R_reads' HO_8.out).2.2 x13_1 p349 q349
        cases e349
        replace p349 := eq_true p349
        replace q349 := eq_true q349
        have p350 : 0 ≤ (x13_1 : Int) := of_decide_eq_true (by first | (with_reducible assumption) | assumption)
        have q350 : x13_1 < (t345.length : Int) := of_decide_eq_true (by first | (with_reducible assumption) | assumption)
        obtain ⟨ad350, e350, hx350_0, hx350_1⟩ := at_T67 (Kd.R_reads' HO_8.out).2.2 x13_1 p350 q350
        obtain rfl : ad349 = ad350 := (by injection e350)
        replace p350 := eq_true p350
        replace q350 := eq_true q350
        refine start_ (n := 12) (S := fun w' => w'.cell? (ad349.add ((x13_1).toNat * 2)) = some (.int .i64 ((rd_T67 t345 x13_1).f0)) ∧ w'.cell? ⟨(ad349.add ((x13_1).toNat * 2)).block, (ad349.add ((x13_1).toNat * 2)).off + 1, none⟩ = some (.int .i64 ((rd_T67 t345 x13_1).f1)) ∧ w'.cell? (ad349.add ((x13_1).toNat * 2)) = some (.int .i64 ((rd_T67 t345 x13_1).f0)) ∧ w'.cell? ⟨(ad349.add ((x13_1).toNat * 2)).block, (ad349.add ((x13_1).toNat * 2)).off + 1, none⟩ = some (.int .i64 ((rd_T67 t345 x13_1).f1))) (ds := []) #[false, false, false, false, false, false, false, false, false, false, false, false] (by kernel_rfl) rfl rfl ⟨hx349_0, hx349_1, hx350_0, hx350_1⟩ (fun hHeld => ?_); refine with_tabW flywheellaw27_AllocSums.tab9 flywheellaw27_AllocSums.bits9 (fun HT_ HW_ => ?_)
        generalize wr.drew = w23 at HO_8 BK335 HB hx349_0 hx349_1 hx350_0 hx350_1 hHeld ⊢
        refine pure_ (i := 0) (N := some 49) (v := ?_) (a' := ?_) (bl 12 1) rfl rfl (any_of HT_.out (by kernel_rfl)) (fun _ _ _ h => h) (Or.inl ⟨by rfl, ?_⟩) ?_ ?_
        rotate_left
        ·intro w'
         go_simp
         with_reducible rfl
        rotate_left
        ·simp only [puts_]
         rfl
        refine pure_ (i := 1) (N := some 50) (v := ?_) (a' := ?_) (bl 12 3) rfl rfl (any_of HT_.out (by kernel_rfl)) (fun _ _ _ h => h) (Or.inl ⟨by rfl, ?_⟩) ?_ ?_
        rotate_left
        ·intro w'
         go_simp
         with_reducible rfl
        rotate_left
        ·simp only [puts_]
         rfl
        refine pure_ (i := 2) (N := some 51) (v := ?_) (a' := ?_) (bl 12 7) rfl rfl (any_of HT_.out (by kernel_rfl)) (fun _ _ _ h => h) (Or.inl ⟨by rfl, ?_⟩) ?_ ?_
        rotate_left
        ·intro w'
         go_simp
         with_reducible rfl
        rotate_left
        ·simp only [puts_]
         rfl
        refine pure_ (i := 3) (N := some 52) (v := ?_) (a' := ?_) (bl 12 15) rfl rfl (any_of HT_.out (by kernel_rfl)) (fun _ _ _ h => h) (Or.inl ⟨by rfl, ?_⟩) ?_ ?_
        rotate_left
        ·intro w'
         go_simp
         with_reducible rfl
        rotate_left
        ·simp only [puts_]
         rfl
        refine pure_ (i := 5) (N := some 54) (v := ?_) (a' := ?_) (bl 12 47) rfl rfl (any_of HT_.out (by kernel_rfl)) (fun _ _ _ h => h) (Or.inl ⟨by rfl, ?_⟩) ?_ ?_
        rotate_left
        ·intro w'
         go_simp
         with_reducible rfl
        rotate_left
        ·simp only [puts_]
         rfl
        refine pure_ (i := 6) (N := some 55) (v := ?_) (a' := ?_) (bl 12 111) rfl rfl (any_of HT_.out (by kernel_rfl)) (fun _ _ _ h => h) (Or.inl ⟨by rfl, ?_⟩) ?_ ?_
        rotate_left
        ·intro w'
         go_simp
         with_reducible rfl
        rotate_left
        ·simp only [puts_]
         rfl
        refine pure_ (i := 7) (N := some 56) (v := ?_) (a' := ?_) (bl 12 239) rfl rfl (any_of HT_.out (by kernel_rfl)) (fun _ _ _ h => h) (Or.inl ⟨by rfl, ?_⟩) ?_ ?_
        rotate_left
        ·intro w'
         go_simp
         with_reducible rfl
        rotate_left
        ·simp only [puts_]
         rfl
        refine pure_ (i := 8) (N := some 57) (v := ?_) (a' := ?_) (bl 12 495) rfl rfl (any_of HT_.out (by kernel_rfl)) (fun _ _ _ h => h) (Or.inl ⟨by rfl, ?_⟩) ?_ ?_
        rotate_left
        ·intro w'
         go_simp
         with_reducible rfl
        rotate_left
        ·simp only [puts_]
         rfl
        refine take_ (i := 4) (N := some 53) (v := ?_) (a' := ?_) (bl 12 511) rfl rfl (take_ofW HT_.out HW_.out (by kernel_rfl)) (fun _ _ _ h => h) (Or.inl ⟨by rfl, ?_⟩) hHeld ?_ ?_
        rotate_left
        ·rintro w' ⟨s0, s1, s2, s3⟩
         go_simp
         with_reducible rfl
        rotate_left
        ·simp only [puts_]
         rfl
        refine take_ (i := 9) (N := some 58) (v := ?_) (a' := ?_) (bl 12 1023) rfl rfl (take_ofW HT_.out HW_.out (by kernel_rfl)) (fun _ _ _ h => h) (Or.inl ⟨by rfl, ?_⟩) hHeld ?_ ?_
        rotate_left
        ·rintro w' ⟨s0, s1, s2, s3⟩
         go_simp
         with_reducible rfl
        rotate_left
        ·simp only [puts_]
         rfl
        refine pure_ (i := 10) (N := some 59) (v := ?_) (a' := ?_) (bl 12 2047) rfl rfl (any_of HT_.out (by kernel_rfl)) (fun _ _ _ h => h) (Or.inl ⟨by rfl, ?_⟩) ?_ ?_
        rotate_left
        ·intro w'
         go_simp
         with_reducible rfl
        rotate_left
        ·simp only [puts_]
         rfl
        refine pure_ (i := 11) (N := some 14) (v := ?_) (a' := ?_) (bl 12 4095) rfl rfl (any_of HT_.out (by kernel_rfl)) (fun _ _ _ h => h) (Or.inl ⟨by rfl, ?_⟩) ?_ ?_
        rotate_left
        ·intro w'
         go_simp
         with_reducible rfl
        rotate_left
        ·simp only [puts_]
         rfl
        refine done_ (done_of HT_.out (by kernel_rfl)) ?_
        try go_wp2
        have n0_ := Aside0.mk (Kd.R_drew HO_8.out)
        have n1_ := Aside0.mk (blk_drew BK335.out)
        have n2_ := Aside0.mk (below_drew1 HB.out)
        clear HO_8
        clear BK335
        clear HB
        have HO_8 := n0_
        have BK335 := n1_
        have HB := n2_
        clear n0_ n1_ n2_
        have p351 : 0 ≤ (x13_1 : Int) := of_decide_eq_true (by first | (with_reducible assumption) | assumption)
        have q351 : x13_1 < (t345.length : Int) := of_decide_eq_true (by first | (with_reducible assumption) | assumption)
        obtain ⟨ad351, e351, hx351_0, hx351_1⟩ := at_T67 (Kd.R_reads' HO_8.out).2.2 x13_1 p351 q351
        obtain rfl : ad349 = ad351 := (by injection e351)
        replace p351 := eq_true p351
        replace q351 := eq_true q351
        have p352 : 0 ≤ (x13_1 : Int) := of_decide_eq_true (by first | (with_reducible assumption) | assumption)
        have q352 : x13_1 < (t345.length : Int) := of_decide_eq_true (by first | (with_reducible assumption) | assumption)
        obtain ⟨ad352, e352, hx352_0, hx352_1⟩ := at_T67 (Kd.R_reads' HO_8.out).2.2 x13_1 p352 q352
        obtain rfl : ad349 = ad352 := (by injection e352)
        replace p352 := eq_true p352
        replace q352 := eq_true q352
        refine start_ (n := 36) (S := fun w' => w'.cell? (ad349.add ((x13_1).toNat * 2)) = some (.int .i64 ((rd_T67 t345 x13_1).f0)) ∧ w'.cell? ⟨(ad349.add ((x13_1).toNat * 2)).block, (ad349.add ((x13_1).toNat * 2)).off + 1, none⟩ = some (.int .i64 ((rd_T67 t345 x13_1).f1)) ∧ w'.cell? (ad349.add ((x13_1).toNat * 2)) = some (.int .i64 ((rd_T67 t345 x13_1).f0)) ∧ w'.cell? ⟨(ad349.add ((x13_1).toNat * 2)).block, (ad349.add ((x13_1).toNat * 2)).off + 1, none⟩ = some (.int .i64 ((rd_T67 t345 x13_1).f1))) (ds := []) #[false, false, false, false, false, false, false, false, false, false, false, false, false, false, false, false, false, false, false, false, false, false, false, false, false, false, false, false, false, false, false, false, false, false, false, false] (by kernel_rfl) rfl rfl ⟨hx351_0, hx351_1, hx352_0, hx352_1⟩ (fun hHeld => ?_); refine with_tabW flywheellaw27_AllocSums.tab10 flywheellaw27_AllocSums.bits10 (fun HT_ HW_ => ?_)
        generalize w23.drew = w24 at HO_8 BK335 HB hx351_0 hx351_1 hx352_0 hx352_1 hHeld ⊢
        refine pure_ (i := 0) (N := some 60) (v := ?_) (a' := ?_) (bl 36 1) rfl rfl (any_of HT_.out (by kernel_rfl)) (fun _ _ _ h => h) (Or.inl ⟨by rfl, ?_⟩) ?_ ?_
        rotate_left
        ·intro w'
         go_simp
         with_reducible rfl
        rotate_left
        ·simp only [puts_]
         rfl
        refine pure_ (i := 1) (N := some 61) (v := ?_) (a' := ?_) (bl 36 3) rfl rfl (any_of HT_.out (by kernel_rfl)) (fun _ _ _ h => h) (Or.inl ⟨by rfl, ?_⟩) ?_ ?_
        rotate_left
        ·intro w'
         go_simp
         with_reducible rfl
        rotate_left
        ·simp only [puts_]
         rfl
        refine pure_ (i := 2) (N := some 62) (v := ?_) (a' := ?_) (bl 36 7) rfl rfl (any_of HT_.out (by kernel_rfl)) (fun _ _ _ h => h) (Or.inl ⟨by rfl, ?_⟩) ?_ ?_
        rotate_left
        ·intro w'
         go_simp
         with_reducible rfl
        rotate_left
        ·simp only [puts_]
         rfl
        refine pure_ (i := 3) (N := some 63) (v := ?_) (a' := ?_) (bl 36 15) rfl rfl (any_of HT_.out (by kernel_rfl)) (fun _ _ _ h => h) (Or.inl ⟨by rfl, ?_⟩) ?_ ?_
        rotate_left
        ·intro w'
         go_simp
         with_reducible rfl
        rotate_left
        ·simp only [puts_]
         rfl
        refine take_ (i := 4) (N := some 64) (v := ?_) (a' := ?_) (bl 36 31) rfl rfl (take_ofW HT_.out HW_.out (by kernel_rfl)) (fun _ _ _ h => h) (Or.inl ⟨by rfl, ?_⟩) hHeld ?_ ?_
        rotate_left
        ·rintro w' ⟨s0, s1, s2, s3⟩
         go_simp
         with_reducible rfl
        rotate_left
        ·simp only [puts_]
         rfl
        refine pure_ (i := 5) (N := some 65) (v := ?_) (a' := ?_) (bl 36 63) rfl rfl (any_of HT_.out (by kernel_rfl)) (fun _ _ _ h => h) (Or.inl ⟨by rfl, ?_⟩) ?_ ?_
        rotate_left
        ·intro w'
         go_simp
         with_reducible rfl
        rotate_left
        ·simp only [puts_]
         rfl
        refine pure_ (i := 6) (N := some 66) (v := ?_) (a' := ?_) (bl 36 127) rfl rfl (any_of HT_.out (by kernel_rfl)) (fun _ _ _ h => h) (Or.inl ⟨by rfl, ?_⟩) ?_ ?_
        rotate_left
        ·intro w'
         go_simp
         with_reducible rfl
        rotate_left
        ·simp only [puts_]
         rfl
        refine pure_ (i := 7) (N := some 67) (v := ?_) (a' := ?_) (bl 36 255) rfl rfl (any_of HT_.out (by kernel_rfl)) (fun _ _ _ h => h) (Or.inl ⟨by rfl, ?_⟩) ?_ ?_
        rotate_left
        ·intro w'
         go_simp
         with_reducible rfl
        rotate_left
        ·simp only [puts_]
         rfl
        refine pure_ (i := 8) (N := some 68) (v := ?_) (a' := ?_) (bl 36 511) rfl rfl (any_of HT_.out (by kernel_rfl)) (fun _ _ _ h => h) (Or.inl ⟨by rfl, ?_⟩) ?_ ?_
        rotate_left
        ·intro w'
         go_simp
         with_reducible rfl
        rotate_left
        ·simp only [puts_]
         rfl
        refine pure_ (i := 9) (N := some 69) (v := ?_) (a' := ?_) (bl 36 1023) rfl rfl (any_of HT_.out (by kernel_rfl)) (fun _ _ _ h => h) (Or.inl ⟨by rfl, ?_⟩) ?_ ?_
        rotate_left
        ·intro w'
         go_simp
         with_reducible rfl
        rotate_left
        ·simp only [puts_]
         rfl
        refine pure_ (i := 10) (N := some 70) (v := ?_) (a' := ?_) (bl 36 2047) rfl rfl (any_of HT_.out (by kernel_rfl)) (fun _ _ _ h => h) (Or.inl ⟨by rfl, ?_⟩) ?_ ?_
        rotate_left
        ·intro w'
         go_simp
         with_reducible rfl
        rotate_left
        ·simp only [puts_]
         rfl
        refine take_ (i := 11) (N := some 71) (v := ?_) (a' := ?_) (bl 36 4095) rfl rfl (take_ofW HT_.out HW_.out (by kernel_rfl)) (fun _ _ _ h => h) (Or.inl ⟨by rfl, ?_⟩) hHeld ?_ ?_
        rotate_left
        ·rintro w' ⟨s0, s1, s2, s3⟩
         go_simp
         with_reducible rfl
        rotate_left
        ·simp only [puts_]
         rfl
        refine pure_ (i := 12) (N := some 72) (v := ?_) (a' := ?_) (bl 36 8191) rfl rfl (any_of HT_.out (by kernel_rfl)) (fun _ _ _ h => h) (Or.inl ⟨by rfl, ?_⟩) ?_ ?_
        rotate_left
        ·intro w'
         go_simp
         with_reducible rfl
        rotate_left
        ·simp only [puts_]
         rfl
        refine pure_ (i := 13) (N := some 73) (v := ?_) (a' := ?_) (bl 36 16383) rfl rfl (any_of HT_.out (by kernel_rfl)) (fun _ _ _ h => h) (Or.inl ⟨by rfl, ?_⟩) ?_ ?_
        rotate_left
        ·intro w'
         go_simp
         with_reducible rfl
        rotate_left
        ·simp only [puts_]
         rfl
        refine pure_ (i := 14) (N := some 74) (v := ?_) (a' := ?_) (bl 36 32767) rfl rfl (any_of HT_.out (by kernel_rfl)) (fun _ _ _ h => h) (Or.inl ⟨by rfl, ?_⟩) ?_ ?_
        rotate_left
        ·intro w'
         go_simp
         with_reducible rfl
        rotate_left
        ·simp only [puts_]
         rfl
        refine pure_ (i := 15) (N := some 75) (v := undef) (a' := ?_) (bl 36 65535) rfl rfl (any_of HT_.out (by kernel_rfl)) (fun _ _ _ h => h) (Or.inr ⟨by rfl, rfl⟩) ?_ ?_
        rotate_left
        ·simp only [puts_]
         rfl
        refine pure_ (i := 16) (N := some 76) (v := undef) (a' := ?_) (bl 36 131071) rfl rfl (any_of HT_.out (by kernel_rfl)) (fun _ _ _ h => h) (Or.inr ⟨by rfl, rfl⟩) ?_ ?_
        rotate_left
        ·simp only [puts_]
         rfl
        refine pure_ (i := 17) (N := some 77) (v := undef) (a' := ?_) (bl 36 262143) rfl rfl (any_of HT_.out (by kernel_rfl)) (fun _ _ _ h => h) (Or.inr ⟨by rfl, rfl⟩) ?_ ?_
        rotate_left
        ·simp only [puts_]
         rfl
        refine pure_ (i := 18) (N := some 78) (v := undef) (a' := ?_) (bl 36 524287) rfl rfl (any_of HT_.out (by kernel_rfl)) (fun _ _ _ h => h) (Or.inr ⟨by rfl, rfl⟩) ?_ ?_
        rotate_left
        ·simp only [puts_]
         rfl
        refine pure_ (i := 19) (N := some 79) (v := undef) (a' := ?_) (bl 36 1048575) rfl rfl (any_of HT_.out (by kernel_rfl)) (fun _ _ _ h => h) (Or.inr ⟨by rfl, rfl⟩) ?_ ?_
        rotate_left
        ·simp only [puts_]
         rfl
        refine pure_ (i := 20) (N := some 80) (v := undef) (a' := ?_) (bl 36 2097151) rfl rfl (any_of HT_.out (by kernel_rfl)) (fun _ _ _ h => h) (Or.inr ⟨by rfl, rfl⟩) ?_ ?_
        rotate_left
        ·simp only [puts_]
         rfl
        refine pure_ (i := 21) (N := some 81) (v := undef) (a' := ?_) (bl 36 4194303) rfl rfl (any_of HT_.out (by kernel_rfl)) (fun _ _ _ h => h) (Or.inr ⟨by rfl, rfl⟩) ?_ ?_
        rotate_left
        ·simp only [puts_]
         rfl
        refine pure_ (i := 22) (N := some 82) (v := ?_) (a' := ?_) (bl 36 8388607) rfl rfl (any_of HT_.out (by kernel_rfl)) (fun _ _ _ h => h) (Or.inl ⟨by rfl, ?_⟩) ?_ ?_
        rotate_left
        ·intro w'
         go_simp
         with_reducible rfl
        rotate_left
        ·simp only [puts_]
         rfl
        refine pure_ (i := 23) (N := some 83) (v := ?_) (a' := ?_) (bl 36 16777215) rfl rfl (any_of HT_.out (by kernel_rfl)) (fun _ _ _ h => h) (Or.inl ⟨by rfl, ?_⟩) ?_ ?_
        rotate_left
        ·intro w'
         go_simp
         with_reducible rfl
        rotate_left
        ·simp only [puts_]
         rfl
        refine pure_ (i := 24) (N := some 84) (v := undef) (a' := ?_) (bl 36 33554431) rfl rfl (any_of HT_.out (by kernel_rfl)) (fun _ _ _ h => h) (Or.inr ⟨by rfl, rfl⟩) ?_ ?_
        rotate_left
        ·simp only [puts_]
         rfl
        refine pure_ (i := 25) (N := some 85) (v := undef) (a' := ?_) (bl 36 67108863) rfl rfl (any_of HT_.out (by kernel_rfl)) (fun _ _ _ h => h) (Or.inr ⟨by rfl, rfl⟩) ?_ ?_
        rotate_left
        ·simp only [puts_]
         rfl
        refine pure_ (i := 26) (N := some 86) (v := undef) (a' := ?_) (bl 36 134217727) rfl rfl (any_of HT_.out (by kernel_rfl)) (fun _ _ _ h => h) (Or.inr ⟨by rfl, rfl⟩) ?_ ?_
        rotate_left
        ·simp only [puts_]
         rfl
        refine pure_ (i := 27) (N := some 87) (v := undef) (a' := ?_) (bl 36 268435455) rfl rfl (any_of HT_.out (by kernel_rfl)) (fun _ _ _ h => h) (Or.inr ⟨by rfl, rfl⟩) ?_ ?_
        rotate_left
        ·simp only [puts_]
         rfl
        refine pure_ (i := 28) (N := some 88) (v := undef) (a' := ?_) (bl 36 536870911) rfl rfl (any_of HT_.out (by kernel_rfl)) (fun _ _ _ h => h) (Or.inr ⟨by rfl, rfl⟩) ?_ ?_
        rotate_left
        ·simp only [puts_]
         rfl
        refine pure_ (i := 29) (N := some 89) (v := undef) (a' := ?_) (bl 36 1073741823) rfl rfl (any_of HT_.out (by kernel_rfl)) (fun _ _ _ h => h) (Or.inr ⟨by rfl, rfl⟩) ?_ ?_
        rotate_left
        ·simp only [puts_]
         rfl
        refine pure_ (i := 30) (N := some 90) (v := undef) (a' := ?_) (bl 36 2147483647) rfl rfl (any_of HT_.out (by kernel_rfl)) (fun _ _ _ h => h) (Or.inr ⟨by rfl, rfl⟩) ?_ ?_
        rotate_left
        ·simp only [puts_]
         rfl
        refine pure_ (i := 31) (N := some 91) (v := undef) (a' := ?_) (bl 36 4294967295) rfl rfl (any_of HT_.out (by kernel_rfl)) (fun _ _ _ h => h) (Or.inr ⟨by rfl, rfl⟩) ?_ ?_
        rotate_left
        ·simp only [puts_]
         rfl
        refine pure_ (i := 32) (N := some 92) (v := undef) (a' := ?_) (bl 36 8589934591) rfl rfl (any_of HT_.out (by kernel_rfl)) (fun _ _ _ h => h) (Or.inr ⟨by rfl, rfl⟩) ?_ ?_
        rotate_left
        ·simp only [puts_]
         rfl
        refine pure_ (i := 33) (N := some 93) (v := undef) (a' := ?_) (bl 36 17179869183) rfl rfl (any_of HT_.out (by kernel_rfl)) (fun _ _ _ h => h) (Or.inr ⟨by rfl, rfl⟩) ?_ ?_
        rotate_left
        ·simp only [puts_]
         rfl
        refine pure_ (i := 34) (N := some 94) (v := undef) (a' := ?_) (bl 36 34359738367) rfl rfl (any_of HT_.out (by kernel_rfl)) (fun _ _ _ h => h) (Or.inr ⟨by rfl, rfl⟩) ?_ ?_
        rotate_left
        ·simp only [puts_]
         rfl
        refine pure_ (i := 35) (N := some 95) (v := ?_) (a' := ?_) (bl 36 68719476735) rfl rfl (any_of HT_.out (by kernel_rfl)) (fun _ _ _ h => h) (Or.inl ⟨by rfl, ?_⟩) ?_ ?_
        rotate_left
        ·intro w'
         go_simp
         with_reducible rfl
        rotate_left
        ·simp only [puts_]
         rfl
        refine done_ (done_of HT_.out (by kernel_rfl)) ?_
        try go_wp2
        go_ret
        exact ⟨by first | rfl | (simp [errW_none, errW_some] <;> rfl) | (simp only [← hji6, ← hji7]; first | rfl | (simp [errW_none, errW_some] <;> rfl)) | (simp [*, errW_none, errW_some] <;> rfl), by repeat (first | (with_reducible first | exact HB.out | apply below_alloc | apply pw_below_drewN | apply below_drew1 | refine below_set ?_ GE335.out) | exact HB.out)⟩
       ·rw [if_neg c21] at H
        have c21b0 : decide (((rd_T67 t345 x13_1).f1) < 0) = false := decide_eq_false c21
        clear c21
        by_cases c25 : x13_1 < (l1.length : Int)
        ·rw [if_pos c25] at H
         have c25b0 : decide (x13_1 < (l1.length : Int)) = true := decide_eq_true c25
         clear c25
         by_cases c26 : (wrap64 (((rd_T67 t345 x13_1).f0) + ((rd_T67 t345 x13_1).f1))) > ((rd_T31 l1 x13_1).f2)
         ·rw [if_pos c26] at H
          have c26b0 : decide (((rd_T31 l1 x13_1).f2) < (wrap64 (((rd_T67 t345 x13_1).f0) + ((rd_T67 t345 x13_1).f1)))) = true := decide_eq_true c26
          clear c26
          obtain rfl := Option.some.inj H
          obtain ⟨Ao27, co27, eo27⟩ := Kd.R_slice HO_8.out
          subst eo27
          try go_wp2
          have n0_ := Aside0.mk (Kd.R_drew HO_8.out)
          have n1_ := Aside0.mk (blk_drew BK335.out)
          have n2_ := Aside0.mk (below_drew1 HB.out)
          clear HO_8
          clear BK335
          clear HB
          have HO_8 := n0_
          have BK335 := n1_
          have HB := n2_
          clear n0_ n1_ n2_
          have p349 : 0 ≤ (x13_1 : Int) := of_decide_eq_true (by first | (with_reducible assumption) | assumption)
          have q349 : x13_1 < (t345.length : Int) := of_decide_eq_true (by first | (with_reducible assumption) | assumption)
          obtain ⟨ad349, e349, hx349_0, hx349_1⟩ := at_T67 (Kd.R_reads' HO_8.out).2.2 x13_1 p349 q349
          cases e349
          replace p349 := eq_true p349
          replace q349 := eq_true q349
          have p350 : 0 ≤ (x13_1 : Int) := of_decide_eq_true (by first | (with_reducible assumption) | assumption)
          have q350 : x13_1 < (t345.length : Int) := of_decide_eq_true (by first | (with_reducible assumption) | assumption)
          obtain ⟨ad350, e350, hx350_0, hx350_1⟩ := at_T67 (Kd.R_reads' HO_8.out).2.2 x13_1 p350 q350
          obtain rfl : ad349 = ad350 := (by injection e350)
          replace p350 := eq_true p350
          replace q350 := eq_true q350
          refine start_ (n := 12) (S := fun w' => w'.cell? (ad349.add ((x13_1).toNat * 2)) = some (.int .i64 ((rd_T67 t345 x13_1).f0)) ∧ w'.cell? ⟨(ad349.add ((x13_1).toNat * 2)).block, (ad349.add ((x13_1).toNat * 2)).off + 1, none⟩ = some (.int .i64 ((rd_T67 t345 x13_1).f1)) ∧ w'.cell? (ad349.add ((x13_1).toNat * 2)) = some (.int .i64 ((rd_T67 t345 x13_1).f0)) ∧ w'.cell? ⟨(ad349.add ((x13_1).toNat * 2)).block, (ad349.add ((x13_1).toNat * 2)).off + 1, none⟩ = some (.int .i64 ((rd_T67 t345 x13_1).f1))) (ds := []) #[false, false, false, false, false, false, false, false, false, false, false, false] (by kernel_rfl) rfl rfl ⟨hx349_0, hx349_1, hx350_0, hx350_1⟩ (fun hHeld => ?_); refine with_tabW flywheellaw27_AllocSums.tab9 flywheellaw27_AllocSums.bits9 (fun HT_ HW_ => ?_)
          generalize wr.drew = w28 at HO_8 BK335 HB hx349_0 hx349_1 hx350_0 hx350_1 hHeld ⊢
          refine pure_ (i := 0) (N := some 49) (v := ?_) (a' := ?_) (bl 12 1) rfl rfl (any_of HT_.out (by kernel_rfl)) (fun _ _ _ h => h) (Or.inl ⟨by rfl, ?_⟩) ?_ ?_
          rotate_left
          ·intro w'
           go_simp
           with_reducible rfl
          rotate_left
          ·simp only [puts_]
           rfl
          refine pure_ (i := 1) (N := some 50) (v := ?_) (a' := ?_) (bl 12 3) rfl rfl (any_of HT_.out (by kernel_rfl)) (fun _ _ _ h => h) (Or.inl ⟨by rfl, ?_⟩) ?_ ?_
          rotate_left
          ·intro w'
           go_simp
           with_reducible rfl
          rotate_left
          ·simp only [puts_]
           rfl
          refine pure_ (i := 2) (N := some 51) (v := ?_) (a' := ?_) (bl 12 7) rfl rfl (any_of HT_.out (by kernel_rfl)) (fun _ _ _ h => h) (Or.inl ⟨by rfl, ?_⟩) ?_ ?_
          rotate_left
          ·intro w'
           go_simp
           with_reducible rfl
          rotate_left
          ·simp only [puts_]
           rfl
          refine pure_ (i := 3) (N := some 52) (v := ?_) (a' := ?_) (bl 12 15) rfl rfl (any_of HT_.out (by kernel_rfl)) (fun _ _ _ h => h) (Or.inl ⟨by rfl, ?_⟩) ?_ ?_
          rotate_left
          ·intro w'
           go_simp
           with_reducible rfl
          rotate_left
          ·simp only [puts_]
           rfl
          refine pure_ (i := 5) (N := some 54) (v := ?_) (a' := ?_) (bl 12 47) rfl rfl (any_of HT_.out (by kernel_rfl)) (fun _ _ _ h => h) (Or.inl ⟨by rfl, ?_⟩) ?_ ?_
          rotate_left
          ·intro w'
           go_simp
           with_reducible rfl
          rotate_left
          ·simp only [puts_]
           rfl
          refine pure_ (i := 6) (N := some 55) (v := ?_) (a' := ?_) (bl 12 111) rfl rfl (any_of HT_.out (by kernel_rfl)) (fun _ _ _ h => h) (Or.inl ⟨by rfl, ?_⟩) ?_ ?_
          rotate_left
          ·intro w'
           go_simp
           with_reducible rfl
          rotate_left
          ·simp only [puts_]
           rfl
          refine pure_ (i := 7) (N := some 56) (v := ?_) (a' := ?_) (bl 12 239) rfl rfl (any_of HT_.out (by kernel_rfl)) (fun _ _ _ h => h) (Or.inl ⟨by rfl, ?_⟩) ?_ ?_
          rotate_left
          ·intro w'
           go_simp
           with_reducible rfl
          rotate_left
          ·simp only [puts_]
           rfl
          refine pure_ (i := 8) (N := some 57) (v := ?_) (a' := ?_) (bl 12 495) rfl rfl (any_of HT_.out (by kernel_rfl)) (fun _ _ _ h => h) (Or.inl ⟨by rfl, ?_⟩) ?_ ?_
          rotate_left
          ·intro w'
           go_simp
           with_reducible rfl
          rotate_left
          ·simp only [puts_]
           rfl
          refine take_ (i := 4) (N := some 53) (v := ?_) (a' := ?_) (bl 12 511) rfl rfl (take_ofW HT_.out HW_.out (by kernel_rfl)) (fun _ _ _ h => h) (Or.inl ⟨by rfl, ?_⟩) hHeld ?_ ?_
          rotate_left
          ·rintro w' ⟨s0, s1, s2, s3⟩
           go_simp
           with_reducible rfl
          rotate_left
          ·simp only [puts_]
           rfl
          refine take_ (i := 9) (N := some 58) (v := ?_) (a' := ?_) (bl 12 1023) rfl rfl (take_ofW HT_.out HW_.out (by kernel_rfl)) (fun _ _ _ h => h) (Or.inl ⟨by rfl, ?_⟩) hHeld ?_ ?_
          rotate_left
          ·rintro w' ⟨s0, s1, s2, s3⟩
           go_simp
           with_reducible rfl
          rotate_left
          ·simp only [puts_]
           rfl
          refine pure_ (i := 10) (N := some 59) (v := ?_) (a' := ?_) (bl 12 2047) rfl rfl (any_of HT_.out (by kernel_rfl)) (fun _ _ _ h => h) (Or.inl ⟨by rfl, ?_⟩) ?_ ?_
          rotate_left
          ·intro w'
           go_simp
           with_reducible rfl
          rotate_left
          ·simp only [puts_]
           rfl
          refine pure_ (i := 11) (N := some 14) (v := ?_) (a' := ?_) (bl 12 4095) rfl rfl (any_of HT_.out (by kernel_rfl)) (fun _ _ _ h => h) (Or.inl ⟨by rfl, ?_⟩) ?_ ?_
          rotate_left
          ·intro w'
           go_simp
           with_reducible rfl
          rotate_left
          ·simp only [puts_]
           rfl
          refine done_ (done_of HT_.out (by kernel_rfl)) ?_
          try go_wp2
          have n0_ := Aside0.mk (Kd.R_drew HO_8.out)
          have n1_ := Aside0.mk (blk_drew BK335.out)
          have n2_ := Aside0.mk (below_drew1 HB.out)
          clear HO_8
          clear BK335
          clear HB
          have HO_8 := n0_
          have BK335 := n1_
          have HB := n2_
          clear n0_ n1_ n2_
          have p351 : 0 ≤ (x13_1 : Int) := of_decide_eq_true (by first | (with_reducible assumption) | assumption)
          have q351 : x13_1 < (t345.length : Int) := of_decide_eq_true (by first | (with_reducible assumption) | assumption)
          obtain ⟨ad351, e351, hx351_0, hx351_1⟩ := at_T67 (Kd.R_reads' HO_8.out).2.2 x13_1 p351 q351
          obtain rfl : ad349 = ad351 := (by injection e351)
          replace p351 := eq_true p351
          replace q351 := eq_true q351
          have p352 : 0 ≤ (x13_1 : Int) := of_decide_eq_true (by first | (with_reducible assumption) | assumption)
          have q352 : x13_1 < (t345.length : Int) := of_decide_eq_true (by first | (with_reducible assumption) | assumption)
          obtain ⟨ad352, e352, hx352_0, hx352_1⟩ := at_T67 (Kd.R_reads' HO_8.out).2.2 x13_1 p352 q352
          obtain rfl : ad349 = ad352 := (by injection e352)
          replace p352 := eq_true p352
          replace q352 := eq_true q352
          have p353 : 0 ≤ (x13_1 : Int) := of_decide_eq_true (by first | (with_reducible assumption) | assumption)
          have q353 : x13_1 < (l1.length : Int) := of_decide_eq_true (by first | (with_reducible assumption) | assumption)
          obtain ⟨ad353, e353, hx353_0, hx353_1, hx353_2⟩ := at_T31 HR1.out x13_1 p353 q353
          have hw353_2 := hx353_2
          have hw353_1 := hx353_1
          have hw353_0 := hx353_0
          cases e353
          replace hx353_0 := (HB.out.cell (World.block_lt_of_cell? w _ hx353_0)).trans hx353_0
          replace hx353_1 := (HB.out.cell (World.block_lt_of_cell? w _ hx353_1)).trans hx353_1
          replace hx353_2 := (HB.out.cell (World.block_lt_of_cell? w _ hx353_2)).trans hx353_2
          replace p353 := eq_true p353
          replace q353 := eq_true q353
          refine start_ (n := 36) (S := fun w' => w'.cell? (ad349.add ((x13_1).toNat * 2)) = some (.int .i64 ((rd_T67 t345 x13_1).f0)) ∧ w'.cell? ⟨(ad349.add ((x13_1).toNat * 2)).block, (ad349.add ((x13_1).toNat * 2)).off + 1, none⟩ = some (.int .i64 ((rd_T67 t345 x13_1).f1)) ∧ w'.cell? (ad349.add ((x13_1).toNat * 2)) = some (.int .i64 ((rd_T67 t345 x13_1).f0)) ∧ w'.cell? ⟨(ad349.add ((x13_1).toNat * 2)).block, (ad349.add ((x13_1).toNat * 2)).off + 1, none⟩ = some (.int .i64 ((rd_T67 t345 x13_1).f1)) ∧ w'.cell? (ad353.add ((x13_1).toNat * 3)) = some (.int .i64 ((rd_T31 l1 x13_1).f0)) ∧ w'.cell? ⟨(ad353.add ((x13_1).toNat * 3)).block, (ad353.add ((x13_1).toNat * 3)).off + 1, none⟩ = some (.int .i64 ((rd_T31 l1 x13_1).f1)) ∧ w'.cell? ⟨(ad353.add ((x13_1).toNat * 3)).block, (ad353.add ((x13_1).toNat * 3)).off + 2, none⟩ = some (.int .i64 ((rd_T31 l1 x13_1).f2))) (ds := []) #[false, false, false, false, false, false, false, false, false, false, false, false, false, false, false, false, false, false, false, false, false, false, false, false, false, false, false, false, false, false, false, false, false, false, false, false] (by kernel_rfl) rfl rfl ⟨hx351_0, hx351_1, hx352_0, hx352_1, ((HB.out.cell (World.block_lt_of_cell? w _ hw353_0)).trans hw353_0), ((HB.out.cell (World.block_lt_of_cell? w _ hw353_1)).trans hw353_1), ((HB.out.cell (World.block_lt_of_cell? w _ hw353_2)).trans hw353_2)⟩ (fun hHeld => ?_); refine with_tabW flywheellaw27_AllocSums.tab10 flywheellaw27_AllocSums.bits10 (fun HT_ HW_ => ?_)
          generalize w28.drew = w29 at HO_8 BK335 HB hx351_0 hx351_1 hx352_0 hx352_1 hx353_0 hx353_1 hx353_2 hHeld ⊢
          refine pure_ (i := 0) (N := some 60) (v := ?_) (a' := ?_) (bl 36 1) rfl rfl (any_of HT_.out (by kernel_rfl)) (fun _ _ _ h => h) (Or.inl ⟨by rfl, ?_⟩) ?_ ?_
          rotate_left
          ·intro w'
           go_simp
           with_reducible rfl
          rotate_left
          ·simp only [puts_]
           rfl
          refine pure_ (i := 1) (N := some 61) (v := ?_) (a' := ?_) (bl 36 3) rfl rfl (any_of HT_.out (by kernel_rfl)) (fun _ _ _ h => h) (Or.inl ⟨by rfl, ?_⟩) ?_ ?_
          rotate_left
          ·intro w'
           go_simp
           with_reducible rfl
          rotate_left
          ·simp only [puts_]
           rfl
          refine pure_ (i := 2) (N := some 62) (v := ?_) (a' := ?_) (bl 36 7) rfl rfl (any_of HT_.out (by kernel_rfl)) (fun _ _ _ h => h) (Or.inl ⟨by rfl, ?_⟩) ?_ ?_
          rotate_left
          ·intro w'
           go_simp
           with_reducible rfl
          rotate_left
          ·simp only [puts_]
           rfl
          refine pure_ (i := 3) (N := some 63) (v := ?_) (a' := ?_) (bl 36 15) rfl rfl (any_of HT_.out (by kernel_rfl)) (fun _ _ _ h => h) (Or.inl ⟨by rfl, ?_⟩) ?_ ?_
          rotate_left
          ·intro w'
           go_simp
           with_reducible rfl
          rotate_left
          ·simp only [puts_]
           rfl
          refine take_ (i := 4) (N := some 64) (v := ?_) (a' := ?_) (bl 36 31) rfl rfl (take_ofW HT_.out HW_.out (by kernel_rfl)) (fun _ _ _ h => h) (Or.inl ⟨by rfl, ?_⟩) hHeld ?_ ?_
          rotate_left
          ·rintro w' ⟨s0, s1, s2, s3, s4, s5, s6⟩
           go_simp
           with_reducible rfl
          rotate_left
          ·simp only [puts_]
           rfl
          refine pure_ (i := 5) (N := some 65) (v := ?_) (a' := ?_) (bl 36 63) rfl rfl (any_of HT_.out (by kernel_rfl)) (fun _ _ _ h => h) (Or.inl ⟨by rfl, ?_⟩) ?_ ?_
          rotate_left
          ·intro w'
           go_simp
           with_reducible rfl
          rotate_left
          ·simp only [puts_]
           rfl
          refine pure_ (i := 6) (N := some 66) (v := ?_) (a' := ?_) (bl 36 127) rfl rfl (any_of HT_.out (by kernel_rfl)) (fun _ _ _ h => h) (Or.inl ⟨by rfl, ?_⟩) ?_ ?_
          rotate_left
          ·intro w'
           go_simp
           with_reducible rfl
          rotate_left
          ·simp only [puts_]
           rfl
          refine pure_ (i := 7) (N := some 67) (v := ?_) (a' := ?_) (bl 36 255) rfl rfl (any_of HT_.out (by kernel_rfl)) (fun _ _ _ h => h) (Or.inl ⟨by rfl, ?_⟩) ?_ ?_
          rotate_left
          ·intro w'
           go_simp
           with_reducible rfl
          rotate_left
          ·simp only [puts_]
           rfl
          refine pure_ (i := 8) (N := some 68) (v := ?_) (a' := ?_) (bl 36 511) rfl rfl (any_of HT_.out (by kernel_rfl)) (fun _ _ _ h => h) (Or.inl ⟨by rfl, ?_⟩) ?_ ?_
          rotate_left
          ·intro w'
           go_simp
           with_reducible rfl
          rotate_left
          ·simp only [puts_]
           rfl
          refine pure_ (i := 9) (N := some 69) (v := ?_) (a' := ?_) (bl 36 1023) rfl rfl (any_of HT_.out (by kernel_rfl)) (fun _ _ _ h => h) (Or.inl ⟨by rfl, ?_⟩) ?_ ?_
          rotate_left
          ·intro w'
           go_simp
           with_reducible rfl
          rotate_left
          ·simp only [puts_]
           rfl
          refine pure_ (i := 10) (N := some 70) (v := ?_) (a' := ?_) (bl 36 2047) rfl rfl (any_of HT_.out (by kernel_rfl)) (fun _ _ _ h => h) (Or.inl ⟨by rfl, ?_⟩) ?_ ?_
          rotate_left
          ·intro w'
           go_simp
           with_reducible rfl
          rotate_left
          ·simp only [puts_]
           rfl
          refine take_ (i := 11) (N := some 71) (v := ?_) (a' := ?_) (bl 36 4095) rfl rfl (take_ofW HT_.out HW_.out (by kernel_rfl)) (fun _ _ _ h => h) (Or.inl ⟨by rfl, ?_⟩) hHeld ?_ ?_
          rotate_left
          ·rintro w' ⟨s0, s1, s2, s3, s4, s5, s6⟩
           go_simp
           with_reducible rfl
          rotate_left
          ·simp only [puts_]
           rfl
          refine pure_ (i := 12) (N := some 72) (v := ?_) (a' := ?_) (bl 36 8191) rfl rfl (any_of HT_.out (by kernel_rfl)) (fun _ _ _ h => h) (Or.inl ⟨by rfl, ?_⟩) ?_ ?_
          rotate_left
          ·intro w'
           go_simp
           with_reducible rfl
          rotate_left
          ·simp only [puts_]
           rfl
          refine pure_ (i := 13) (N := some 73) (v := ?_) (a' := ?_) (bl 36 16383) rfl rfl (any_of HT_.out (by kernel_rfl)) (fun _ _ _ h => h) (Or.inl ⟨by rfl, ?_⟩) ?_ ?_
          rotate_left
          ·intro w'
           go_simp
           with_reducible rfl
          rotate_left
          ·simp only [puts_]
           rfl
          refine pure_ (i := 14) (N := some 74) (v := ?_) (a' := ?_) (bl 36 32767) rfl rfl (any_of HT_.out (by kernel_rfl)) (fun _ _ _ h => h) (Or.inl ⟨by rfl, ?_⟩) ?_ ?_
          rotate_left
          ·intro w'
           go_simp
           with_reducible rfl
          rotate_left
          ·simp only [puts_]
           rfl
          refine pure_ (i := 15) (N := some 75) (v := ?_) (a' := ?_) (bl 36 65535) rfl rfl (any_of HT_.out (by kernel_rfl)) (fun _ _ _ h => h) (Or.inl ⟨by rfl, ?_⟩) ?_ ?_
          rotate_left
          ·intro w'
           go_simp
           with_reducible rfl
          rotate_left
          ·simp only [puts_]
           rfl
          refine pure_ (i := 16) (N := some 76) (v := ?_) (a' := ?_) (bl 36 131071) rfl rfl (any_of HT_.out (by kernel_rfl)) (fun _ _ _ h => h) (Or.inl ⟨by rfl, ?_⟩) ?_ ?_
          rotate_left
          ·intro w'
           go_simp
           with_reducible rfl
          rotate_left
          ·simp only [puts_]
           rfl
          refine pure_ (i := 17) (N := some 77) (v := ?_) (a' := ?_) (bl 36 262143) rfl rfl (any_of HT_.out (by kernel_rfl)) (fun _ _ _ h => h) (Or.inl ⟨by rfl, ?_⟩) ?_ ?_
          rotate_left
          ·intro w'
           go_simp
           with_reducible rfl
          rotate_left
          ·simp only [puts_]
           rfl
          refine pure_ (i := 18) (N := some 78) (v := ?_) (a' := ?_) (bl 36 524287) rfl rfl (any_of HT_.out (by kernel_rfl)) (fun _ _ _ h => h) (Or.inl ⟨by rfl, ?_⟩) ?_ ?_
          rotate_left
          ·intro w'
           go_simp
           with_reducible rfl
          rotate_left
          ·simp only [puts_]
           rfl
          refine pure_ (i := 19) (N := some 79) (v := ?_) (a' := ?_) (bl 36 1048575) rfl rfl (any_of HT_.out (by kernel_rfl)) (fun _ _ _ h => h) (Or.inl ⟨by rfl, ?_⟩) ?_ ?_
          rotate_left
          ·intro w'
           go_simp
           with_reducible rfl
          rotate_left
          ·simp only [puts_]
           rfl
          refine take_ (i := 20) (N := some 80) (v := ?_) (a' := ?_) (bl 36 2097151) rfl rfl (take_ofW HT_.out HW_.out (by kernel_rfl)) (fun _ _ _ h => h) (Or.inl ⟨by rfl, ?_⟩) hHeld ?_ ?_
          rotate_left
          ·rintro w' ⟨s0, s1, s2, s3, s4, s5, s6⟩
           go_simp
           with_reducible rfl
          rotate_left
          ·simp only [puts_]
           rfl
          refine pure_ (i := 21) (N := some 81) (v := ?_) (a' := ?_) (bl 36 4194303) rfl rfl (any_of HT_.out (by kernel_rfl)) (fun _ _ _ h => h) (Or.inl ⟨by rfl, ?_⟩) ?_ ?_
          rotate_left
          ·intro w'
           go_simp
           with_reducible rfl
          rotate_left
          ·simp only [puts_]
           rfl
          refine pure_ (i := 22) (N := some 82) (v := ?_) (a' := ?_) (bl 36 8388607) rfl rfl (any_of HT_.out (by kernel_rfl)) (fun _ _ _ h => h) (Or.inl ⟨by rfl, ?_⟩) ?_ ?_
          rotate_left
          ·intro w'
           go_simp
           with_reducible rfl
          rotate_left
          ·simp only [puts_]
           rfl
          refine pure_ (i := 23) (N := some 83) (v := ?_) (a' := ?_) (bl 36 16777215) rfl rfl (any_of HT_.out (by kernel_rfl)) (fun _ _ _ h => h) (Or.inl ⟨by rfl, ?_⟩) ?_ ?_
          rotate_left
          ·intro w'
           go_simp
           with_reducible rfl
          rotate_left
          ·simp only [puts_]
           rfl
          refine pure_ (i := 24) (N := some 84) (v := undef) (a' := ?_) (bl 36 33554431) rfl rfl (any_of HT_.out (by kernel_rfl)) (fun _ _ _ h => h) (Or.inr ⟨by rfl, rfl⟩) ?_ ?_
          rotate_left
          ·simp only [puts_]
           rfl
          refine pure_ (i := 25) (N := some 85) (v := undef) (a' := ?_) (bl 36 67108863) rfl rfl (any_of HT_.out (by kernel_rfl)) (fun _ _ _ h => h) (Or.inr ⟨by rfl, rfl⟩) ?_ ?_
          rotate_left
          ·simp only [puts_]
           rfl
          refine pure_ (i := 26) (N := some 86) (v := undef) (a' := ?_) (bl 36 134217727) rfl rfl (any_of HT_.out (by kernel_rfl)) (fun _ _ _ h => h) (Or.inr ⟨by rfl, rfl⟩) ?_ ?_
          rotate_left
          ·simp only [puts_]
           rfl
          refine pure_ (i := 27) (N := some 87) (v := undef) (a' := ?_) (bl 36 268435455) rfl rfl (any_of HT_.out (by kernel_rfl)) (fun _ _ _ h => h) (Or.inr ⟨by rfl, rfl⟩) ?_ ?_
          rotate_left
          ·simp only [puts_]
           rfl
          refine pure_ (i := 28) (N := some 88) (v := undef) (a' := ?_) (bl 36 536870911) rfl rfl (any_of HT_.out (by kernel_rfl)) (fun _ _ _ h => h) (Or.inr ⟨by rfl, rfl⟩) ?_ ?_
          rotate_left
          ·simp only [puts_]
           rfl
          refine pure_ (i := 29) (N := some 89) (v := undef) (a' := ?_) (bl 36 1073741823) rfl rfl (any_of HT_.out (by kernel_rfl)) (fun _ _ _ h => h) (Or.inr ⟨by rfl, rfl⟩) ?_ ?_
          rotate_left
          ·simp only [puts_]
           rfl
          refine pure_ (i := 30) (N := some 90) (v := undef) (a' := ?_) (bl 36 2147483647) rfl rfl (any_of HT_.out (by kernel_rfl)) (fun _ _ _ h => h) (Or.inr ⟨by rfl, rfl⟩) ?_ ?_
          rotate_left
          ·simp only [puts_]
           rfl
          refine pure_ (i := 31) (N := some 91) (v := undef) (a' := ?_) (bl 36 4294967295) rfl rfl (any_of HT_.out (by kernel_rfl)) (fun _ _ _ h => h) (Or.inr ⟨by rfl, rfl⟩) ?_ ?_
          rotate_left
          ·simp only [puts_]
           rfl
          refine pure_ (i := 32) (N := some 92) (v := undef) (a' := ?_) (bl 36 8589934591) rfl rfl (any_of HT_.out (by kernel_rfl)) (fun _ _ _ h => h) (Or.inr ⟨by rfl, rfl⟩) ?_ ?_
          rotate_left
          ·simp only [puts_]
           rfl
          refine pure_ (i := 33) (N := some 93) (v := undef) (a' := ?_) (bl 36 17179869183) rfl rfl (any_of HT_.out (by kernel_rfl)) (fun _ _ _ h => h) (Or.inr ⟨by rfl, rfl⟩) ?_ ?_
          rotate_left
          ·simp only [puts_]
           rfl
          refine pure_ (i := 34) (N := some 94) (v := undef) (a' := ?_) (bl 36 34359738367) rfl rfl (any_of HT_.out (by kernel_rfl)) (fun _ _ _ h => h) (Or.inr ⟨by rfl, rfl⟩) ?_ ?_
          rotate_left
          ·simp only [puts_]
           rfl
          refine pure_ (i := 35) (N := some 95) (v := ?_) (a' := ?_) (bl 36 68719476735) rfl rfl (any_of HT_.out (by kernel_rfl)) (fun _ _ _ h => h) (Or.inl ⟨by rfl, ?_⟩) ?_ ?_
          rotate_left
          ·intro w'
           go_simp
           with_reducible rfl
          rotate_left
          ·simp only [puts_]
           rfl
          refine done_ (done_of HT_.out (by kernel_rfl)) ?_
          try go_wp2
          go_ret
          exact ⟨by first | rfl | (simp [errW_none, errW_some] <;> rfl) | (simp only [← hji6, ← hji7]; first | rfl | (simp [errW_none, errW_some] <;> rfl)) | (simp [*, errW_none, errW_some] <;> rfl), by repeat (first | (with_reducible first | exact HB.out | apply below_alloc | apply pw_below_drewN | apply below_drew1 | refine below_set ?_ GE335.out) | exact HB.out)⟩
         ·rw [if_neg c26] at H
          have c26b0 : decide (((rd_T31 l1 x13_1).f2) < (wrap64 (((rd_T67 t345 x13_1).f0) + ((rd_T67 t345 x13_1).f1)))) = false := decide_eq_false c26
          clear c26
          by_cases c30 : ((rd_T67 t345 x13_1).f1) > ((rd_T67 t345 x13_1).f0)
          ·rw [if_pos c30] at H
           have c30b0 : decide (((rd_T67 t345 x13_1).f0) < ((rd_T67 t345 x13_1).f1)) = true := decide_eq_true c30
           clear c30
           obtain rfl := Option.some.inj H
           obtain ⟨Ao31, co31, eo31⟩ := Kd.R_slice HO_8.out
           subst eo31
           try go_wp2
           have n0_ := Aside0.mk (Kd.R_drew HO_8.out)
           have n1_ := Aside0.mk (blk_drew BK335.out)
           have n2_ := Aside0.mk (below_drew1 HB.out)
           clear HO_8
           clear BK335
           clear HB
           have HO_8 := n0_
           have BK335 := n1_
           have HB := n2_
           clear n0_ n1_ n2_
           have p349 : 0 ≤ (x13_1 : Int) := of_decide_eq_true (by first | (with_reducible assumption) | assumption)
           have q349 : x13_1 < (t345.length : Int) := of_decide_eq_true (by first | (with_reducible assumption) | assumption)
           obtain ⟨ad349, e349, hx349_0, hx349_1⟩ := at_T67 (Kd.R_reads' HO_8.out).2.2 x13_1 p349 q349
           cases e349
           replace p349 := eq_true p349
           replace q349 := eq_true q349
           have p350 : 0 ≤ (x13_1 : Int) := of_decide_eq_true (by first | (with_reducible assumption) | assumption)
           have q350 : x13_1 < (t345.length : Int) := of_decide_eq_true (by first | (with_reducible assumption) | assumption)
           obtain ⟨ad350, e350, hx350_0, hx350_1⟩ := at_T67 (Kd.R_reads' HO_8.out).2.2 x13_1 p350 q350
           obtain rfl : ad349 = ad350 := (by injection e350)
           replace p350 := eq_true p350
           replace q350 := eq_true q350
           refine start_ (n := 12) (S := fun w' => w'.cell? (ad349.add ((x13_1).toNat * 2)) = some (.int .i64 ((rd_T67 t345 x13_1).f0)) ∧ w'.cell? ⟨(ad349.add ((x13_1).toNat * 2)).block, (ad349.add ((x13_1).toNat * 2)).off + 1, none⟩ = some (.int .i64 ((rd_T67 t345 x13_1).f1)) ∧ w'.cell? (ad349.add ((x13_1).toNat * 2)) = some (.int .i64 ((rd_T67 t345 x13_1).f0)) ∧ w'.cell? ⟨(ad349.add ((x13_1).toNat * 2)).block, (ad349.add ((x13_1).toNat * 2)).off + 1, none⟩ = some (.int .i64 ((rd_T67 t345 x13_1).f1))) (ds := []) #[false, false, false, false, false, false, false, false, false, false, false, false] (by kernel_rfl) rfl rfl ⟨hx349_0, hx349_1, hx350_0, hx350_1⟩ (fun hHeld => ?_); refine with_tabW flywheellaw27_AllocSums.tab9 flywheellaw27_AllocSums.bits9 (fun HT_ HW_ => ?_)
           generalize wr.drew = w32 at HO_8 BK335 HB hx349_0 hx349_1 hx350_0 hx350_1 hHeld ⊢
           refine pure_ (i := 0) (N := some 49) (v := ?_) (a' := ?_) (bl 12 1) rfl rfl (any_of HT_.out (by kernel_rfl)) (fun _ _ _ h => h) (Or.inl ⟨by rfl, ?_⟩) ?_ ?_
           rotate_left
           ·intro w'
            go_simp
            with_reducible rfl
           rotate_left
           ·simp only [puts_]
            rfl
           refine pure_ (i := 1) (N := some 50) (v := ?_) (a' := ?_) (bl 12 3) rfl rfl (any_of HT_.out (by kernel_rfl)) (fun _ _ _ h => h) (Or.inl ⟨by rfl, ?_⟩) ?_ ?_
           rotate_left
           ·intro w'
            go_simp
            with_reducible rfl
           rotate_left
           ·simp only [puts_]
            rfl
           refine pure_ (i := 2) (N := some 51) (v := ?_) (a' := ?_) (bl 12 7) rfl rfl (any_of HT_.out (by kernel_rfl)) (fun _ _ _ h => h) (Or.inl ⟨by rfl, ?_⟩) ?_ ?_
           rotate_left
           ·intro w'
            go_simp
            with_reducible rfl
           rotate_left
           ·simp only [puts_]
            rfl
           refine pure_ (i := 3) (N := some 52) (v := ?_) (a' := ?_) (bl 12 15) rfl rfl (any_of HT_.out (by kernel_rfl)) (fun _ _ _ h => h) (Or.inl ⟨by rfl, ?_⟩) ?_ ?_
           rotate_left
           ·intro w'
            go_simp
            with_reducible rfl
           rotate_left
           ·simp only [puts_]
            rfl
           refine pure_ (i := 5) (N := some 54) (v := ?_) (a' := ?_) (bl 12 47) rfl rfl (any_of HT_.out (by kernel_rfl)) (fun _ _ _ h => h) (Or.inl ⟨by rfl, ?_⟩) ?_ ?_
           rotate_left
           ·intro w'
            go_simp
            with_reducible rfl
           rotate_left
           ·simp only [puts_]
            rfl
           refine pure_ (i := 6) (N := some 55) (v := ?_) (a' := ?_) (bl 12 111) rfl rfl (any_of HT_.out (by kernel_rfl)) (fun _ _ _ h => h) (Or.inl ⟨by rfl, ?_⟩) ?_ ?_
           rotate_left
           ·intro w'
            go_simp
            with_reducible rfl
           rotate_left
           ·simp only [puts_]
            rfl
           refine pure_ (i := 7) (N := some 56) (v := ?_) (a' := ?_) (bl 12 239) rfl rfl (any_of HT_.out (by kernel_rfl)) (fun _ _ _ h => h) (Or.inl ⟨by rfl, ?_⟩) ?_ ?_
           rotate_left
           ·intro w'
            go_simp
            with_reducible rfl
           rotate_left
           ·simp only [puts_]
            rfl
           refine pure_ (i := 8) (N := some 57) (v := ?_) (a' := ?_) (bl 12 495) rfl rfl (any_of HT_.out (by kernel_rfl)) (fun _ _ _ h => h) (Or.inl ⟨by rfl, ?_⟩) ?_ ?_
           rotate_left
           ·intro w'
            go_simp
            with_reducible rfl
           rotate_left
           ·simp only [puts_]
            rfl
           refine take_ (i := 4) (N := some 53) (v := ?_) (a' := ?_) (bl 12 511) rfl rfl (take_ofW HT_.out HW_.out (by kernel_rfl)) (fun _ _ _ h => h) (Or.inl ⟨by rfl, ?_⟩) hHeld ?_ ?_
           rotate_left
           ·rintro w' ⟨s0, s1, s2, s3⟩
            go_simp
            with_reducible rfl
           rotate_left
           ·simp only [puts_]
            rfl
           refine take_ (i := 9) (N := some 58) (v := ?_) (a' := ?_) (bl 12 1023) rfl rfl (take_ofW HT_.out HW_.out (by kernel_rfl)) (fun _ _ _ h => h) (Or.inl ⟨by rfl, ?_⟩) hHeld ?_ ?_
           rotate_left
           ·rintro w' ⟨s0, s1, s2, s3⟩
            go_simp
            with_reducible rfl
           rotate_left
           ·simp only [puts_]
            rfl
           refine pure_ (i := 10) (N := some 59) (v := ?_) (a' := ?_) (bl 12 2047) rfl rfl (any_of HT_.out (by kernel_rfl)) (fun _ _ _ h => h) (Or.inl ⟨by rfl, ?_⟩) ?_ ?_
           rotate_left
           ·intro w'
            go_simp
            with_reducible rfl
           rotate_left
           ·simp only [puts_]
            rfl
           refine pure_ (i := 11) (N := some 14) (v := ?_) (a' := ?_) (bl 12 4095) rfl rfl (any_of HT_.out (by kernel_rfl)) (fun _ _ _ h => h) (Or.inl ⟨by rfl, ?_⟩) ?_ ?_
           rotate_left
           ·intro w'
            go_simp
            with_reducible rfl
           rotate_left
           ·simp only [puts_]
            rfl
           refine done_ (done_of HT_.out (by kernel_rfl)) ?_
           try go_wp2
           have n0_ := Aside0.mk (Kd.R_drew HO_8.out)
           have n1_ := Aside0.mk (blk_drew BK335.out)
           have n2_ := Aside0.mk (below_drew1 HB.out)
           clear HO_8
           clear BK335
           clear HB
           have HO_8 := n0_
           have BK335 := n1_
           have HB := n2_
           clear n0_ n1_ n2_
           have p351 : 0 ≤ (x13_1 : Int) := of_decide_eq_true (by first | (with_reducible assumption) | assumption)
           have q351 : x13_1 < (t345.length : Int) := of_decide_eq_true (by first | (with_reducible assumption) | assumption)
           obtain ⟨ad351, e351, hx351_0, hx351_1⟩ := at_T67 (Kd.R_reads' HO_8.out).2.2 x13_1 p351 q351
           obtain rfl : ad349 = ad351 := (by injection e351)
           replace p351 := eq_true p351
           replace q351 := eq_true q351
           have p352 : 0 ≤ (x13_1 : Int) := of_decide_eq_true (by first | (with_reducible assumption) | assumption)
           have q352 : x13_1 < (t345.length : Int) := of_decide_eq_true (by first | (with_reducible assumption) | assumption)
           obtain ⟨ad352, e352, hx352_0, hx352_1⟩ := at_T67 (Kd.R_reads' HO_8.out).2.2 x13_1 p352 q352
           obtain rfl : ad349 = ad352 := (by injection e352)
           replace p352 := eq_true p352
           replace q352 := eq_true q352
           have p353 : 0 ≤ (x13_1 : Int) := of_decide_eq_true (by first | (with_reducible assumption) | assumption)
           have q353 : x13_1 < (l1.length : Int) := of_decide_eq_true (by first | (with_reducible assumption) | assumption)
           obtain ⟨ad353, e353, hx353_0, hx353_1, hx353_2⟩ := at_T31 HR1.out x13_1 p353 q353
           have hw353_2 := hx353_2
           have hw353_1 := hx353_1
           have hw353_0 := hx353_0
           cases e353
           replace hx353_0 := (HB.out.cell (World.block_lt_of_cell? w _ hx353_0)).trans hx353_0
           replace hx353_1 := (HB.out.cell (World.block_lt_of_cell? w _ hx353_1)).trans hx353_1
           replace hx353_2 := (HB.out.cell (World.block_lt_of_cell? w _ hx353_2)).trans hx353_2
           replace p353 := eq_true p353
           replace q353 := eq_true q353
           have p354 : 0 ≤ (x13_1 : Int) := of_decide_eq_true (by first | (with_reducible assumption) | assumption)
           have q354 : x13_1 < (t345.length : Int) := of_decide_eq_true (by first | (with_reducible assumption) | assumption)
           obtain ⟨ad354, e354, hx354_0, hx354_1⟩ := at_T67 (Kd.R_reads' HO_8.out).2.2 x13_1 p354 q354
           obtain rfl : ad349 = ad354 := (by injection e354)
           replace p354 := eq_true p354
           replace q354 := eq_true q354
           have p355 : 0 ≤ (x13_1 : Int) := of_decide_eq_true (by first | (with_reducible assumption) | assumption)
           have q355 : x13_1 < (t345.length : Int) := of_decide_eq_true (by first | (with_reducible assumption) | assumption)
           obtain ⟨ad355, e355, hx355_0, hx355_1⟩ := at_T67 (Kd.R_reads' HO_8.out).2.2 x13_1 p355 q355
           obtain rfl : ad349 = ad355 := (by injection e355)
           replace p355 := eq_true p355
           replace q355 := eq_true q355
           refine start_ (n := 36) (S := fun w' => w'.cell? (ad349.add ((x13_1).toNat * 2)) = some (.int .i64 ((rd_T67 t345 x13_1).f0)) ∧ w'.cell? ⟨(ad349.add ((x13_1).toNat * 2)).block, (ad349.add ((x13_1).toNat * 2)).off + 1, none⟩ = some (.int .i64 ((rd_T67 t345 x13_1).f1)) ∧ w'.cell? (ad349.add ((x13_1).toNat * 2)) = some (.int .i64 ((rd_T67 t345 x13_1).f0)) ∧ w'.cell? ⟨(ad349.add ((x13_1).toNat * 2)).block, (ad349.add ((x13_1).toNat * 2)).off + 1, none⟩ = some (.int .i64 ((rd_T67 t345 x13_1).f1)) ∧ w'.cell? (ad353.add ((x13_1).toNat * 3)) = some (.int .i64 ((rd_T31 l1 x13_1).f0)) ∧ w'.cell? ⟨(ad353.add ((x13_1).toNat * 3)).block, (ad353.add ((x13_1).toNat * 3)).off + 1, none⟩ = some (.int .i64 ((rd_T31 l1 x13_1).f1)) ∧ w'.cell? ⟨(ad353.add ((x13_1).toNat * 3)).block, (ad353.add ((x13_1).toNat * 3)).off + 2, none⟩ = some (.int .i64 ((rd_T31 l1 x13_1).f2)) ∧ w'.cell? (ad349.add ((x13_1).toNat * 2)) = some (.int .i64 ((rd_T67 t345 x13_1).f0)) ∧ w'.cell? ⟨(ad349.add ((x13_1).toNat * 2)).block, (ad349.add ((x13_1).toNat * 2)).off + 1, none⟩ = some (.int .i64 ((rd_T67 t345 x13_1).f1)) ∧ w'.cell? (ad349.add ((x13_1).toNat * 2)) = some (.int .i64 ((rd_T67 t345 x13_1).f0)) ∧ w'.cell? ⟨(ad349.add ((x13_1).toNat * 2)).block, (ad349.add ((x13_1).toNat * 2)).off + 1, none⟩ = some (.int .i64 ((rd_T67 t345 x13_1).f1))) (ds := []) #[false, false, false, false, false, false, false, false, false, false, false, false, false, false, false, false, false, false, false, false, false, false, false, false, false, false, false, false, false, false, false, false, false, false, false, false] (by kernel_rfl) rfl rfl ⟨hx351_0, hx351_1, hx352_0, hx352_1, ((HB.out.cell (World.block_lt_of_cell? w _ hw353_0)).trans hw353_0), ((HB.out.cell (World.block_lt_of_cell? w _ hw353_1)).trans hw353_1), ((HB.out.cell (World.block_lt_of_cell? w _ hw353_2)).trans hw353_2), hx354_0, hx354_1, hx355_0, hx355_1⟩ (fun hHeld => ?_); refine with_tabW flywheellaw27_AllocSums.tab10 flywheellaw27_AllocSums.bits10 (fun HT_ HW_ => ?_)
           generalize w32.drew = w33 at HO_8 BK335 HB hx351_0 hx351_1 hx352_0 hx352_1 hx353_0 hx353_1 hx353_2 hx354_0 hx354_1 hx355_0 hx355_1 hHeld ⊢
           refine pure_ (i := 0) (N := some 60) (v := ?_) (a' := ?_) (bl 36 1) rfl rfl (any_of HT_.out (by kernel_rfl)) (fun _ _ _ h => h) (Or.inl ⟨by rfl, ?_⟩) ?_ ?_
           rotate_left
           ·intro w'
            go_simp
            with_reducible rfl
           rotate_left
           ·simp only [puts_]
            rfl
           refine pure_ (i := 1) (N := some 61) (v := ?_) (a' := ?_) (bl 36 3) rfl rfl (any_of HT_.out (by kernel_rfl)) (fun _ _ _ h => h) (Or.inl ⟨by rfl, ?_⟩) ?_ ?_
           rotate_left
           ·intro w'
            go_simp
            with_reducible rfl
           rotate_left
           ·simp only [puts_]
            rfl
           refine pure_ (i := 2) (N := some 62) (v := ?_) (a' := ?_) (bl 36 7) rfl rfl (any_of HT_.out (by kernel_rfl)) (fun _ _ _ h => h) (Or.inl ⟨by rfl, ?_⟩) ?_ ?_
           rotate_left
           ·intro w'
            go_simp
            with_reducible rfl
           rotate_left
           ·simp only [puts_]
            rfl
           refine pure_ (i := 3) (N := some 63) (v := ?_) (a' := ?_) (bl 36 15) rfl rfl (any_of HT_.out (by kernel_rfl)) (fun _ _ _ h => h) (Or.inl ⟨by rfl, ?_⟩) ?_ ?_
           rotate_left
           ·intro w'
            go_simp
            with_reducible rfl
           rotate_left
           ·simp only [puts_]
            rfl
           refine take_ (i := 4) (N := some 64) (v := ?_) (a' := ?_) (bl 36 31) rfl rfl (take_ofW HT_.out HW_.out (by kernel_rfl)) (fun _ _ _ h => h) (Or.inl ⟨by rfl, ?_⟩) hHeld ?_ ?_
           rotate_left
           ·rintro w' ⟨s0, s1, s2, s3, s4, s5, s6, s7, s8, s9, s10⟩
            go_simp
            with_reducible rfl
           rotate_left
           ·simp only [puts_]
            rfl
           refine pure_ (i := 5) (N := some 65) (v := ?_) (a' := ?_) (bl 36 63) rfl rfl (any_of HT_.out (by kernel_rfl)) (fun _ _ _ h => h) (Or.inl ⟨by rfl, ?_⟩) ?_ ?_
           rotate_left
           ·intro w'
            go_simp
            with_reducible rfl
           rotate_left
           ·simp only [puts_]
            rfl
           refine pure_ (i := 6) (N := some 66) (v := ?_) (a' := ?_) (bl 36 127) rfl rfl (any_of HT_.out (by kernel_rfl)) (fun _ _ _ h => h) (Or.inl ⟨by rfl, ?_⟩) ?_ ?_
           rotate_left
           ·intro w'
            go_simp
            with_reducible rfl
           rotate_left
           ·simp only [puts_]
            rfl
           refine pure_ (i := 7) (N := some 67) (v := ?_) (a' := ?_) (bl 36 255) rfl rfl (any_of HT_.out (by kernel_rfl)) (fun _ _ _ h => h) (Or.inl ⟨by rfl, ?_⟩) ?_ ?_
           rotate_left
           ·intro w'
            go_simp
            with_reducible rfl
           rotate_left
           ·simp only [puts_]
            rfl
           refine pure_ (i := 8) (N := some 68) (v := ?_) (a' := ?_) (bl 36 511) rfl rfl (any_of HT_.out (by kernel_rfl)) (fun _ _ _ h => h) (Or.inl ⟨by rfl, ?_⟩) ?_ ?_
           rotate_left
           ·intro w'
            go_simp
            with_reducible rfl
           rotate_left
           ·simp only [puts_]
            rfl
           refine pure_ (i := 9) (N := some 69) (v := ?_) (a' := ?_) (bl 36 1023) rfl rfl (any_of HT_.out (by kernel_rfl)) (fun _ _ _ h => h) (Or.inl ⟨by rfl, ?_⟩) ?_ ?_
           rotate_left
           ·intro w'
            go_simp
            with_reducible rfl
           rotate_left
           ·simp only [puts_]
            rfl
           refine pure_ (i := 10) (N := some 70) (v := ?_) (a' := ?_) (bl 36 2047) rfl rfl (any_of HT_.out (by kernel_rfl)) (fun _ _ _ h => h) (Or.inl ⟨by rfl, ?_⟩) ?_ ?_
           rotate_left
           ·intro w'
            go_simp
            with_reducible rfl
           rotate_left
           ·simp only [puts_]
            rfl
           refine take_ (i := 11) (N := some 71) (v := ?_) (a' := ?_) (bl 36 4095) rfl rfl (take_ofW HT_.out HW_.out (by kernel_rfl)) (fun _ _ _ h => h) (Or.inl ⟨by rfl, ?_⟩) hHeld ?_ ?_
           rotate_left
           ·rintro w' ⟨s0, s1, s2, s3, s4, s5, s6, s7, s8, s9, s10⟩
            go_simp
            with_reducible rfl
           rotate_left
           ·simp only [puts_]
            rfl
           refine pure_ (i := 12) (N := some 72) (v := ?_) (a' := ?_) (bl 36 8191) rfl rfl (any_of HT_.out (by kernel_rfl)) (fun _ _ _ h => h) (Or.inl ⟨by rfl, ?_⟩) ?_ ?_
           rotate_left
           ·intro w'
            go_simp
            with_reducible rfl
           rotate_left
           ·simp only [puts_]
            rfl
           refine pure_ (i := 13) (N := some 73) (v := ?_) (a' := ?_) (bl 36 16383) rfl rfl (any_of HT_.out (by kernel_rfl)) (fun _ _ _ h => h) (Or.inl ⟨by rfl, ?_⟩) ?_ ?_
           rotate_left
           ·intro w'
            go_simp
            with_reducible rfl
           rotate_left
           ·simp only [puts_]
            rfl
           refine pure_ (i := 14) (N := some 74) (v := ?_) (a' := ?_) (bl 36 32767) rfl rfl (any_of HT_.out (by kernel_rfl)) (fun _ _ _ h => h) (Or.inl ⟨by rfl, ?_⟩) ?_ ?_
           rotate_left
           ·intro w'
            go_simp
            with_reducible rfl
           rotate_left
           ·simp only [puts_]
            rfl
           refine pure_ (i := 15) (N := some 75) (v := ?_) (a' := ?_) (bl 36 65535) rfl rfl (any_of HT_.out (by kernel_rfl)) (fun _ _ _ h => h) (Or.inl ⟨by rfl, ?_⟩) ?_ ?_
           rotate_left
           ·intro w'
            go_simp
            with_reducible rfl
           rotate_left
           ·simp only [puts_]
            rfl
           refine pure_ (i := 16) (N := some 76) (v := ?_) (a' := ?_) (bl 36 131071) rfl rfl (any_of HT_.out (by kernel_rfl)) (fun _ _ _ h => h) (Or.inl ⟨by rfl, ?_⟩) ?_ ?_
           rotate_left
           ·intro w'
            go_simp
            with_reducible rfl
           rotate_left
           ·simp only [puts_]
            rfl
           refine pure_ (i := 17) (N := some 77) (v := ?_) (a' := ?_) (bl 36 262143) rfl rfl (any_of HT_.out (by kernel_rfl)) (fun _ _ _ h => h) (Or.inl ⟨by rfl, ?_⟩) ?_ ?_
           rotate_left
           ·intro w'
            go_simp
            with_reducible rfl
           rotate_left
           ·simp only [puts_]
            rfl
           refine pure_ (i := 18) (N := some 78) (v := ?_) (a' := ?_) (bl 36 524287) rfl rfl (any_of HT_.out (by kernel_rfl)) (fun _ _ _ h => h) (Or.inl ⟨by rfl, ?_⟩) ?_ ?_
           rotate_left
           ·intro w'
            go_simp
            with_reducible rfl
           rotate_left
           ·simp only [puts_]
            rfl
           refine pure_ (i := 19) (N := some 79) (v := ?_) (a' := ?_) (bl 36 1048575) rfl rfl (any_of HT_.out (by kernel_rfl)) (fun _ _ _ h => h) (Or.inl ⟨by rfl, ?_⟩) ?_ ?_
           rotate_left
           ·intro w'
            go_simp
            with_reducible rfl
           rotate_left
           ·simp only [puts_]
            rfl
           refine take_ (i := 20) (N := some 80) (v := ?_) (a' := ?_) (bl 36 2097151) rfl rfl (take_ofW HT_.out HW_.out (by kernel_rfl)) (fun _ _ _ h => h) (Or.inl ⟨by rfl, ?_⟩) hHeld ?_ ?_
           rotate_left
           ·rintro w' ⟨s0, s1, s2, s3, s4, s5, s6, s7, s8, s9, s10⟩
            go_simp
            with_reducible rfl
           rotate_left
           ·simp only [puts_]
            rfl
           refine pure_ (i := 21) (N := some 81) (v := ?_) (a' := ?_) (bl 36 4194303) rfl rfl (any_of HT_.out (by kernel_rfl)) (fun _ _ _ h => h) (Or.inl ⟨by rfl, ?_⟩) ?_ ?_
           rotate_left
           ·intro w'
            go_simp
            with_reducible rfl
           rotate_left
           ·simp only [puts_]
            rfl
           refine pure_ (i := 22) (N := some 82) (v := ?_) (a' := ?_) (bl 36 8388607) rfl rfl (any_of HT_.out (by kernel_rfl)) (fun _ _ _ h => h) (Or.inl ⟨by rfl, ?_⟩) ?_ ?_
           rotate_left
           ·intro w'
            go_simp
            with_reducible rfl
           rotate_left
           ·simp only [puts_]
            rfl
           refine pure_ (i := 23) (N := some 83) (v := ?_) (a' := ?_) (bl 36 16777215) rfl rfl (any_of HT_.out (by kernel_rfl)) (fun _ _ _ h => h) (Or.inl ⟨by rfl, ?_⟩) ?_ ?_
           rotate_left
           ·intro w'
            go_simp
            with_reducible rfl
           rotate_left
           ·simp only [puts_]
            rfl
           refine pure_ (i := 24) (N := some 84) (v := ?_) (a' := ?_) (bl 36 33554431) rfl rfl (any_of HT_.out (by kernel_rfl)) (fun _ _ _ h => h) (Or.inl ⟨by rfl, ?_⟩) ?_ ?_
           rotate_left
           ·intro w'
            go_simp
            with_reducible rfl
           rotate_left
           ·simp only [puts_]
            rfl
           refine pure_ (i := 25) (N := some 85) (v := ?_) (a' := ?_) (bl 36 67108863) rfl rfl (any_of HT_.out (by kernel_rfl)) (fun _ _ _ h => h) (Or.inl ⟨by rfl, ?_⟩) ?_ ?_
           rotate_left
           ·intro w'
            go_simp
            with_reducible rfl
           rotate_left
           ·simp only [puts_]
            rfl
           refine pure_ (i := 26) (N := some 86) (v := ?_) (a' := ?_) (bl 36 134217727) rfl rfl (any_of HT_.out (by kernel_rfl)) (fun _ _ _ h => h) (Or.inl ⟨by rfl, ?_⟩) ?_ ?_
           rotate_left
           ·intro w'
            go_simp
            with_reducible rfl
           rotate_left
           ·simp only [puts_]
            rfl
           refine pure_ (i := 27) (N := some 87) (v := ?_) (a' := ?_) (bl 36 268435455) rfl rfl (any_of HT_.out (by kernel_rfl)) (fun _ _ _ h => h) (Or.inl ⟨by rfl, ?_⟩) ?_ ?_
           rotate_left
           ·intro w'
            go_simp
            with_reducible rfl
           rotate_left
           ·simp only [puts_]
            rfl
           refine pure_ (i := 29) (N := some 89) (v := ?_) (a' := ?_) (bl 36 805306367) rfl rfl (any_of HT_.out (by kernel_rfl)) (fun _ _ _ h => h) (Or.inl ⟨by rfl, ?_⟩) ?_ ?_
           rotate_left
           ·intro w'
            go_simp
            with_reducible rfl
           rotate_left
           ·simp only [puts_]
            rfl
           refine pure_ (i := 30) (N := some 90) (v := ?_) (a' := ?_) (bl 36 1879048191) rfl rfl (any_of HT_.out (by kernel_rfl)) (fun _ _ _ h => h) (Or.inl ⟨by rfl, ?_⟩) ?_ ?_
           rotate_left
           ·intro w'
            go_simp
            with_reducible rfl
           rotate_left
           ·simp only [puts_]
            rfl
           refine pure_ (i := 31) (N := some 91) (v := ?_) (a' := ?_) (bl 36 4026531839) rfl rfl (any_of HT_.out (by kernel_rfl)) (fun _ _ _ h => h) (Or.inl ⟨by rfl, ?_⟩) ?_ ?_
           rotate_left
           ·intro w'
            go_simp
            with_reducible rfl
           rotate_left
           ·simp only [puts_]
            rfl
           refine pure_ (i := 32) (N := some 92) (v := ?_) (a' := ?_) (bl 36 8321499135) rfl rfl (any_of HT_.out (by kernel_rfl)) (fun _ _ _ h => h) (Or.inl ⟨by rfl, ?_⟩) ?_ ?_
           rotate_left
           ·intro w'
            go_simp
            with_reducible rfl
           rotate_left
           ·simp only [puts_]
            rfl
           refine take_ (i := 28) (N := some 88) (v := ?_) (a' := ?_) (bl 36 8589934591) rfl rfl (take_ofW HT_.out HW_.out (by kernel_rfl)) (fun _ _ _ h => h) (Or.inl ⟨by rfl, ?_⟩) hHeld ?_ ?_
           rotate_left
           ·rintro w' ⟨s0, s1, s2, s3, s4, s5, s6, s7, s8, s9, s10⟩
            go_simp
            with_reducible rfl
           rotate_left
           ·simp only [puts_]
            rfl
           refine take_ (i := 33) (N := some 93) (v := ?_) (a' := ?_) (bl 36 17179869183) rfl rfl (take_ofW HT_.out HW_.out (by kernel_rfl)) (fun _ _ _ h => h) (Or.inl ⟨by rfl, ?_⟩) hHeld ?_ ?_
           rotate_left
           ·rintro w' ⟨s0, s1, s2, s3, s4, s5, s6, s7, s8, s9, s10⟩
            go_simp
            with_reducible rfl
           rotate_left
           ·simp only [puts_]
            rfl
           refine pure_ (i := 34) (N := some 94) (v := ?_) (a' := ?_) (bl 36 34359738367) rfl rfl (any_of HT_.out (by kernel_rfl)) (fun _ _ _ h => h) (Or.inl ⟨by rfl, ?_⟩) ?_ ?_
           rotate_left
           ·intro w'
            go_simp
            with_reducible rfl
           rotate_left
           ·simp only [puts_]
            rfl
           refine pure_ (i := 35) (N := some 95) (v := ?_) (a' := ?_) (bl 36 68719476735) rfl rfl (any_of HT_.out (by kernel_rfl)) (fun _ _ _ h => h) (Or.inl ⟨by rfl, ?_⟩) ?_ ?_
           rotate_left
           ·intro w'
            go_simp
            with_reducible rfl
           rotate_left
           ·simp only [puts_]
            rfl
           refine done_ (done_of HT_.out (by kernel_rfl)) ?_
           try go_wp2
           go_ret
           exact ⟨by first | rfl | (simp [errW_none, errW_some] <;> rfl) | (simp only [← hji6, ← hji7]; first | rfl | (simp [errW_none, errW_some] <;> rfl)) | (simp [*, errW_none, errW_some] <;> rfl), by repeat (first | (with_reducible first | exact HB.out | apply below_alloc | apply pw_below_drewN | apply below_drew1 | refine below_set ?_ GE335.out) | exact HB.out)⟩
          ·rw [if_neg c30] at H
           have c30b0 : decide (((rd_T67 t345 x13_1).f0) < ((rd_T67 t345 x13_1).f1)) = false := decide_eq_false c30
           clear c30
           have H' := Aside0.mk H
           clear H
           obtain ⟨Ao34, co34, eo34⟩ := Kd.R_slice HO_8.out
           subst eo34
           try go_wp2
           have n0_ := Aside0.mk (Kd.R_drew HO_8.out)
           have n1_ := Aside0.mk (blk_drew BK335.out)
           have n2_ := Aside0.mk (below_drew1 HB.out)
           clear HO_8
           clear BK335
           clear HB
           have HO_8 := n0_
           have BK335 := n1_
           have HB := n2_
           clear n0_ n1_ n2_
           have p349 : 0 ≤ (x13_1 : Int) := of_decide_eq_true (by first | (with_reducible assumption) | assumption)
           have q349 : x13_1 < (t345.length : Int) := of_decide_eq_true (by first | (with_reducible assumption) | assumption)
           obtain ⟨ad349, e349, hx349_0, hx349_1⟩ := at_T67 (Kd.R_reads' HO_8.out).2.2 x13_1 p349 q349
           cases e349
           replace p349 := eq_true p349
           replace q349 := eq_true q349
           have p350 : 0 ≤ (x13_1 : Int) := of_decide_eq_true (by first | (with_reducible assumption) | assumption)
           have q350 : x13_1 < (t345.length : Int) := of_decide_eq_true (by first | (with_reducible assumption) | assumption)
           obtain ⟨ad350, e350, hx350_0, hx350_1⟩ := at_T67 (Kd.R_reads' HO_8.out).2.2 x13_1 p350 q350
           obtain rfl : ad349 = ad350 := (by injection e350)
           replace p350 := eq_true p350
           replace q350 := eq_true q350
           refine start_ (n := 12) (S := fun w' => w'.cell? (ad349.add ((x13_1).toNat * 2)) = some (.int .i64 ((rd_T67 t345 x13_1).f0)) ∧ w'.cell? ⟨(ad349.add ((x13_1).toNat * 2)).block, (ad349.add ((x13_1).toNat * 2)).off + 1, none⟩ = some (.int .i64 ((rd_T67 t345 x13_1).f1)) ∧ w'.cell? (ad349.add ((x13_1).toNat * 2)) = some (.int .i64 ((rd_T67 t345 x13_1).f0)) ∧ w'.cell? ⟨(ad349.add ((x13_1).toNat * 2)).block, (ad349.add ((x13_1).toNat * 2)).off + 1, none⟩ = some (.int .i64 ((rd_T67 t345 x13_1).f1))) (ds := []) #[false, false, false, false, false, false, false, false, false, false, false, false] (by kernel_rfl) rfl rfl ⟨hx349_0, hx349_1, hx350_0, hx350_1⟩ (fun hHeld => ?_); refine with_tabW flywheellaw27_AllocSums.tab9 flywheellaw27_AllocSums.bits9 (fun HT_ HW_ => ?_)
           generalize wr.drew = w35 at HO_8 BK335 HB hx349_0 hx349_1 hx350_0 hx350_1 hHeld ⊢
           refine pure_ (i := 0) (N := some 49) (v := ?_) (a' := ?_) (bl 12 1) rfl rfl (any_of HT_.out (by kernel_rfl)) (fun _ _ _ h => h) (Or.inl ⟨by rfl, ?_⟩) ?_ ?_
           rotate_left
           ·intro w'
            go_simp
            with_reducible rfl
           rotate_left
           ·simp only [puts_]
            rfl
           refine pure_ (i := 1) (N := some 50) (v := ?_) (a' := ?_) (bl 12 3) rfl rfl (any_of HT_.out (by kernel_rfl)) (fun _ _ _ h => h) (Or.inl ⟨by rfl, ?_⟩) ?_ ?_
           rotate_left
           ·intro w'
            go_simp
            with_reducible rfl
           rotate_left
           ·simp only [puts_]
            rfl
           refine pure_ (i := 2) (N := some 51) (v := ?_) (a' := ?_) (bl 12 7) rfl rfl (any_of HT_.out (by kernel_rfl)) (fun _ _ _ h => h) (Or.inl ⟨by rfl, ?_⟩) ?_ ?_
           rotate_left
           ·intro w'
            go_simp
            with_reducible rfl
           rotate_left
           ·simp only [puts_]
            rfl
           refine pure_ (i := 3) (N := some 52) (v := ?_) (a' := ?_) (bl 12 15) rfl rfl (any_of HT_.out (by kernel_rfl)) (fun _ _ _ h => h) (Or.inl ⟨by rfl, ?_⟩) ?_ ?_
           rotate_left
           ·intro w'
            go_simp
            with_reducible rfl
           rotate_left
           ·simp only [puts_]
            rfl
           refine pure_ (i := 5) (N := some 54) (v := ?_) (a' := ?_) (bl 12 47) rfl rfl (any_of HT_.out (by kernel_rfl)) (fun _ _ _ h => h) (Or.inl ⟨by rfl, ?_⟩) ?_ ?_
           rotate_left
           ·intro w'
            go_simp
            with_reducible rfl
           rotate_left
           ·simp only [puts_]
            rfl
           refine pure_ (i := 6) (N := some 55) (v := ?_) (a' := ?_) (bl 12 111) rfl rfl (any_of HT_.out (by kernel_rfl)) (fun _ _ _ h => h) (Or.inl ⟨by rfl, ?_⟩) ?_ ?_
           rotate_left
           ·intro w'
            go_simp
            with_reducible rfl
           rotate_left
           ·simp only [puts_]
            rfl
           refine pure_ (i := 7) (N := some 56) (v := ?_) (a' := ?_) (bl 12 239) rfl rfl (any_of HT_.out (by kernel_rfl)) (fun _ _ _ h => h) (Or.inl ⟨by rfl, ?_⟩) ?_ ?_
           rotate_left
           ·intro w'
            go_simp
            with_reducible rfl
           rotate_left
           ·simp only [puts_]
            rfl
           refine pure_ (i := 8) (N := some 57) (v := ?_) (a' := ?_) (bl 12 495) rfl rfl (any_of HT_.out (by kernel_rfl)) (fun _ _ _ h => h) (Or.inl ⟨by rfl, ?_⟩) ?_ ?_
           rotate_left
           ·intro w'
            go_simp
            with_reducible rfl
           rotate_left
           ·simp only [puts_]
            rfl
           refine take_ (i := 4) (N := some 53) (v := ?_) (a' := ?_) (bl 12 511) rfl rfl (take_ofW HT_.out HW_.out (by kernel_rfl)) (fun _ _ _ h => h) (Or.inl ⟨by rfl, ?_⟩) hHeld ?_ ?_
           rotate_left
           ·rintro w' ⟨s0, s1, s2, s3⟩
            go_simp
            with_reducible rfl
           rotate_left
           ·simp only [puts_]
            rfl
           refine take_ (i := 9) (N := some 58) (v := ?_) (a' := ?_) (bl 12 1023) rfl rfl (take_ofW HT_.out HW_.out (by kernel_rfl)) (fun _ _ _ h => h) (Or.inl ⟨by rfl, ?_⟩) hHeld ?_ ?_
           rotate_left
           ·rintro w' ⟨s0, s1, s2, s3⟩
            go_simp
            with_reducible rfl
           rotate_left
           ·simp only [puts_]
            rfl
           refine pure_ (i := 10) (N := some 59) (v := ?_) (a' := ?_) (bl 12 2047) rfl rfl (any_of HT_.out (by kernel_rfl)) (fun _ _ _ h => h) (Or.inl ⟨by rfl, ?_⟩) ?_ ?_
           rotate_left
           ·intro w'
            go_simp
            with_reducible rfl
           rotate_left
           ·simp only [puts_]
            rfl
           refine pure_ (i := 11) (N := some 14) (v := ?_) (a' := ?_) (bl 12 4095) rfl rfl (any_of HT_.out (by kernel_rfl)) (fun _ _ _ h => h) (Or.inl ⟨by rfl, ?_⟩) ?_ ?_
           rotate_left
           ·intro w'
            go_simp
            with_reducible rfl
           rotate_left
           ·simp only [puts_]
            rfl
           refine done_ (done_of HT_.out (by kernel_rfl)) ?_
           try go_wp2
           have n0_ := Aside0.mk (Kd.R_drew HO_8.out)
           have n1_ := Aside0.mk (blk_drew BK335.out)
           have n2_ := Aside0.mk (below_drew1 HB.out)
           clear HO_8
           clear BK335
           clear HB
           have HO_8 := n0_
           have BK335 := n1_
           have HB := n2_
           clear n0_ n1_ n2_
           have p351 : 0 ≤ (x13_1 : Int) := of_decide_eq_true (by first | (with_reducible assumption) | assumption)
           have q351 : x13_1 < (t345.length : Int) := of_decide_eq_true (by first | (with_reducible assumption) | assumption)
           obtain ⟨ad351, e351, hx351_0, hx351_1⟩ := at_T67 (Kd.R_reads' HO_8.out).2.2 x13_1 p351 q351
           obtain rfl : ad349 = ad351 := (by injection e351)
           replace p351 := eq_true p351
           replace q351 := eq_true q351
           have p352 : 0 ≤ (x13_1 : Int) := of_decide_eq_true (by first | (with_reducible assumption) | assumption)
           have q352 : x13_1 < (t345.length : Int) := of_decide_eq_true (by first | (with_reducible assumption) | assumption)
           obtain ⟨ad352, e352, hx352_0, hx352_1⟩ := at_T67 (Kd.R_reads' HO_8.out).2.2 x13_1 p352 q352
           obtain rfl : ad349 = ad352 := (by injection e352)
           replace p352 := eq_true p352
           replace q352 := eq_true q352
           have p353 : 0 ≤ (x13_1 : Int) := of_decide_eq_true (by first | (with_reducible assumption) | assumption)
           have q353 : x13_1 < (l1.length : Int) := of_decide_eq_true (by first | (with_reducible assumption) | assumption)
           obtain ⟨ad353, e353, hx353_0, hx353_1, hx353_2⟩ := at_T31 HR1.out x13_1 p353 q353
           have hw353_2 := hx353_2
           have hw353_1 := hx353_1
           have hw353_0 := hx353_0
           cases e353
           replace hx353_0 := (HB.out.cell (World.block_lt_of_cell? w _ hx353_0)).trans hx353_0
           replace hx353_1 := (HB.out.cell (World.block_lt_of_cell? w _ hx353_1)).trans hx353_1
           replace hx353_2 := (HB.out.cell (World.block_lt_of_cell? w _ hx353_2)).trans hx353_2
           replace p353 := eq_true p353
           replace q353 := eq_true q353
           have p354 : 0 ≤ (x13_1 : Int) := of_decide_eq_true (by first | (with_reducible assumption) | assumption)
           have q354 : x13_1 < (t345.length : Int) := of_decide_eq_true (by first | (with_reducible assumption) | assumption)
           obtain ⟨ad354, e354, hx354_0, hx354_1⟩ := at_T67 (Kd.R_reads' HO_8.out).2.2 x13_1 p354 q354
           obtain rfl : ad349 = ad354 := (by injection e354)
           replace p354 := eq_true p354
           replace q354 := eq_true q354
           have p355 : 0 ≤ (x13_1 : Int) := of_decide_eq_true (by first | (with_reducible assumption) | assumption)
           have q355 : x13_1 < (t345.length : Int) := of_decide_eq_true (by first | (with_reducible assumption) | assumption)
           obtain ⟨ad355, e355, hx355_0, hx355_1⟩ := at_T67 (Kd.R_reads' HO_8.out).2.2 x13_1 p355 q355
           obtain rfl : ad349 = ad355 := (by injection e355)
           replace p355 := eq_true p355
           replace q355 := eq_true q355
           refine start_ (n := 36) (S := fun w' => w'.cell? (ad349.add ((x13_1).toNat * 2)) = some (.int .i64 ((rd_T67 t345 x13_1).f0)) ∧ w'.cell? ⟨(ad349.add ((x13_1).toNat * 2)).block, (ad349.add ((x13_1).toNat * 2)).off + 1, none⟩ = some (.int .i64 ((rd_T67 t345 x13_1).f1)) ∧ w'.cell? (ad349.add ((x13_1).toNat * 2)) = some (.int .i64 ((rd_T67 t345 x13_1).f0)) ∧ w'.cell? ⟨(ad349.add ((x13_1).toNat * 2)).block, (ad349.add ((x13_1).toNat * 2)).off + 1, none⟩ = some (.int .i64 ((rd_T67 t345 x13_1).f1)) ∧ w'.cell? (ad353.add ((x13_1).toNat * 3)) = some (.int .i64 ((rd_T31 l1 x13_1).f0)) ∧ w'.cell? ⟨(ad353.add ((x13_1).toNat * 3)).block, (ad353.add ((x13_1).toNat * 3)).off + 1, none⟩ = some (.int .i64 ((rd_T31 l1 x13_1).f1)) ∧ w'.cell? ⟨(ad353.add ((x13_1).toNat * 3)).block, (ad353.add ((x13_1).toNat * 3)).off + 2, none⟩ = some (.int .i64 ((rd_T31 l1 x13_1).f2)) ∧ w'.cell? (ad349.add ((x13_1).toNat * 2)) = some (.int .i64 ((rd_T67 t345 x13_1).f0)) ∧ w'.cell? ⟨(ad349.add ((x13_1).toNat * 2)).block, (ad349.add ((x13_1).toNat * 2)).off + 1, none⟩ = some (.int .i64 ((rd_T67 t345 x13_1).f1)) ∧ w'.cell? (ad349.add ((x13_1).toNat * 2)) = some (.int .i64 ((rd_T67 t345 x13_1).f0)) ∧ w'.cell? ⟨(ad349.add ((x13_1).toNat * 2)).block, (ad349.add ((x13_1).toNat * 2)).off + 1, none⟩ = some (.int .i64 ((rd_T67 t345 x13_1).f1))) (ds := []) #[false, false, false, false, false, false, false, false, false, false, false, false, false, false, false, false, false, false, false, false, false, false, false, false, false, false, false, false, false, false, false, false, false, false, false, false] (by kernel_rfl) rfl rfl ⟨hx351_0, hx351_1, hx352_0, hx352_1, ((HB.out.cell (World.block_lt_of_cell? w _ hw353_0)).trans hw353_0), ((HB.out.cell (World.block_lt_of_cell? w _ hw353_1)).trans hw353_1), ((HB.out.cell (World.block_lt_of_cell? w _ hw353_2)).trans hw353_2), hx354_0, hx354_1, hx355_0, hx355_1⟩ (fun hHeld => ?_); refine with_tabW flywheellaw27_AllocSums.tab10 flywheellaw27_AllocSums.bits10 (fun HT_ HW_ => ?_)
           generalize w35.drew = w36 at HO_8 BK335 HB hx351_0 hx351_1 hx352_0 hx352_1 hx353_0 hx353_1 hx353_2 hx354_0 hx354_1 hx355_0 hx355_1 hHeld ⊢
           refine pure_ (i := 0) (N := some 60) (v := ?_) (a' := ?_) (bl 36 1) rfl rfl (any_of HT_.out (by kernel_rfl)) (fun _ _ _ h => h) (Or.inl ⟨by rfl, ?_⟩) ?_ ?_
           rotate_left
           ·intro w'
            go_simp
            with_reducible rfl
           rotate_left
           ·simp only [puts_]
            rfl
           refine pure_ (i := 1) (N := some 61) (v := ?_) (a' := ?_) (bl 36 3) rfl rfl (any_of HT_.out (by kernel_rfl)) (fun _ _ _ h => h) (Or.inl ⟨by rfl, ?_⟩) ?_ ?_
           rotate_left
           ·intro w'
            go_simp
            with_reducible rfl
           rotate_left
           ·simp only [puts_]
            rfl
           refine pure_ (i := 2) (N := some 62) (v := ?_) (a' := ?_) (bl 36 7) rfl rfl (any_of HT_.out (by kernel_rfl)) (fun _ _ _ h => h) (Or.inl ⟨by rfl, ?_⟩) ?_ ?_
           rotate_left
           ·intro w'
            go_simp
            with_reducible rfl
           rotate_left
           ·simp only [puts_]
            rfl
           refine pure_ (i := 3) (N := some 63) (v := ?_) (a' := ?_) (bl 36 15) rfl rfl (any_of HT_.out (by kernel_rfl)) (fun _ _ _ h => h) (Or.inl ⟨by rfl, ?_⟩) ?_ ?_
           rotate_left
           ·intro w'
            go_simp
            with_reducible rfl
           rotate_left
           ·simp only [puts_]
            rfl
           refine take_ (i := 4) (N := some 64) (v := ?_) (a' := ?_) (bl 36 31) rfl rfl (take_ofW HT_.out HW_.out (by kernel_rfl)) (fun _ _ _ h => h) (Or.inl ⟨by rfl, ?_⟩) hHeld ?_ ?_
           rotate_left
           ·rintro w' ⟨s0, s1, s2, s3, s4, s5, s6, s7, s8, s9, s10⟩
            go_simp
            with_reducible rfl
           rotate_left
           ·simp only [puts_]
            rfl
           refine pure_ (i := 5) (N := some 65) (v := ?_) (a' := ?_) (bl 36 63) rfl rfl (any_of HT_.out (by kernel_rfl)) (fun _ _ _ h => h) (Or.inl ⟨by rfl, ?_⟩) ?_ ?_
           rotate_left
           ·intro w'
            go_simp
            with_reducible rfl
           rotate_left
           ·simp only [puts_]
            rfl
           refine pure_ (i := 6) (N := some 66) (v := ?_) (a' := ?_) (bl 36 127) rfl rfl (any_of HT_.out (by kernel_rfl)) (fun _ _ _ h => h) (Or.inl ⟨by rfl, ?_⟩) ?_ ?_
           rotate_left
           ·intro w'
            go_simp
            with_reducible rfl
           rotate_left
           ·simp only [puts_]
            rfl
           refine pure_ (i := 7) (N := some 67) (v := ?_) (a' := ?_) (bl 36 255) rfl rfl (any_of HT_.out (by kernel_rfl)) (fun _ _ _ h => h) (Or.inl ⟨by rfl, ?_⟩) ?_ ?_
           rotate_left
           ·intro w'
            go_simp
            with_reducible rfl
           rotate_left
           ·simp only [puts_]
            rfl
           refine pure_ (i := 8) (N := some 68) (v := ?_) (a' := ?_) (bl 36 511) rfl rfl (any_of HT_.out (by kernel_rfl)) (fun _ _ _ h => h) (Or.inl ⟨by rfl, ?_⟩) ?_ ?_
           rotate_left
           ·intro w'
            go_simp
            with_reducible rfl
           rotate_left
           ·simp only [puts_]
            rfl
           refine pure_ (i := 9) (N := some 69) (v := ?_) (a' := ?_) (bl 36 1023) rfl rfl (any_of HT_.out (by kernel_rfl)) (fun _ _ _ h => h) (Or.inl ⟨by rfl, ?_⟩) ?_ ?_
           rotate_left
           ·intro w'
            go_simp
            with_reducible rfl
           rotate_left
           ·simp only [puts_]
            rfl
           refine pure_ (i := 10) (N := some 70) (v := ?_) (a' := ?_) (bl 36 2047) rfl rfl (any_of HT_.out (by kernel_rfl)) (fun _ _ _ h => h) (Or.inl ⟨by rfl, ?_⟩) ?_ ?_
           rotate_left
           ·intro w'
            go_simp
            with_reducible rfl
           rotate_left
           ·simp only [puts_]
            rfl
           refine take_ (i := 11) (N := some 71) (v := ?_) (a' := ?_) (bl 36 4095) rfl rfl (take_ofW HT_.out HW_.out (by kernel_rfl)) (fun _ _ _ h => h) (Or.inl ⟨by rfl, ?_⟩) hHeld ?_ ?_
           rotate_left
           ·rintro w' ⟨s0, s1, s2, s3, s4, s5, s6, s7, s8, s9, s10⟩
            go_simp
            with_reducible rfl
           rotate_left
           ·simp only [puts_]
            rfl
           refine pure_ (i := 12) (N := some 72) (v := ?_) (a' := ?_) (bl 36 8191) rfl rfl (any_of HT_.out (by kernel_rfl)) (fun _ _ _ h => h) (Or.inl ⟨by rfl, ?_⟩) ?_ ?_
           rotate_left
           ·intro w'
            go_simp
            with_reducible rfl
           rotate_left
           ·simp only [puts_]
            rfl
           refine pure_ (i := 13) (N := some 73) (v := ?_) (a' := ?_) (bl 36 16383) rfl rfl (any_of HT_.out (by kernel_rfl)) (fun _ _ _ h => h) (Or.inl ⟨by rfl, ?_⟩) ?_ ?_
           rotate_left
           ·intro w'
            go_simp
            with_reducible rfl
           rotate_left
           ·simp only [puts_]
            rfl
           refine pure_ (i := 14) (N := some 74) (v := ?_) (a' := ?_) (bl 36 32767) rfl rfl (any_of HT_.out (by kernel_rfl)) (fun _ _ _ h => h) (Or.inl ⟨by rfl, ?_⟩) ?_ ?_
           rotate_left
           ·intro w'
            go_simp
            with_reducible rfl
           rotate_left
           ·simp only [puts_]
            rfl
           refine pure_ (i := 15) (N := some 75) (v := ?_) (a' := ?_) (bl 36 65535) rfl rfl (any_of HT_.out (by kernel_rfl)) (fun _ _ _ h => h) (Or.inl ⟨by rfl, ?_⟩) ?_ ?_
           rotate_left
           ·intro w'
            go_simp
            with_reducible rfl
           rotate_left
           ·simp only [puts_]
            rfl
           refine pure_ (i := 16) (N := some 76) (v := ?_) (a' := ?_) (bl 36 131071) rfl rfl (any_of HT_.out (by kernel_rfl)) (fun _ _ _ h => h) (Or.inl ⟨by rfl, ?_⟩) ?_ ?_
           rotate_left
           ·intro w'
            go_simp
            with_reducible rfl
           rotate_left
           ·simp only [puts_]
            rfl
           refine pure_ (i := 17) (N := some 77) (v := ?_) (a' := ?_) (bl 36 262143) rfl rfl (any_of HT_.out (by kernel_rfl)) (fun _ _ _ h => h) (Or.inl ⟨by rfl, ?_⟩) ?_ ?_
           rotate_left
           ·intro w'
            go_simp
            with_reducible rfl
           rotate_left
           ·simp only [puts_]
            rfl
           refine pure_ (i := 18) (N := some 78) (v := ?_) (a' := ?_) (bl 36 524287) rfl rfl (any_of HT_.out (by kernel_rfl)) (fun _ _ _ h => h) (Or.inl ⟨by rfl, ?_⟩) ?_ ?_
           rotate_left
           ·intro w'
            go_simp
            with_reducible rfl
           rotate_left
           ·simp only [puts_]
            rfl
           refine pure_ (i := 19) (N := some 79) (v := ?_) (a' := ?_) (bl 36 1048575) rfl rfl (any_of HT_.out (by kernel_rfl)) (fun _ _ _ h => h) (Or.inl ⟨by rfl, ?_⟩) ?_ ?_
           rotate_left
           ·intro w'
            go_simp
            with_reducible rfl
           rotate_left
           ·simp only [puts_]
            rfl
           refine take_ (i := 20) (N := some 80) (v := ?_) (a' := ?_) (bl 36 2097151) rfl rfl (take_ofW HT_.out HW_.out (by kernel_rfl)) (fun _ _ _ h => h) (Or.inl ⟨by rfl, ?_⟩) hHeld ?_ ?_
           rotate_left
           ·rintro w' ⟨s0, s1, s2, s3, s4, s5, s6, s7, s8, s9, s10⟩
            go_simp
            with_reducible rfl
           rotate_left
           ·simp only [puts_]
            rfl
           refine pure_ (i := 21) (N := some 81) (v := ?_) (a' := ?_) (bl 36 4194303) rfl rfl (any_of HT_.out (by kernel_rfl)) (fun _ _ _ h => h) (Or.inl ⟨by rfl, ?_⟩) ?_ ?_
           rotate_left
           ·intro w'
            go_simp
            with_reducible rfl
           rotate_left
           ·simp only [puts_]
            rfl
           refine pure_ (i := 22) (N := some 82) (v := ?_) (a' := ?_) (bl 36 8388607) rfl rfl (any_of HT_.out (by kernel_rfl)) (fun _ _ _ h => h) (Or.inl ⟨by rfl, ?_⟩) ?_ ?_
           rotate_left
           ·intro w'
            go_simp
            with_reducible rfl
           rotate_left
           ·simp only [puts_]
            rfl
           refine pure_ (i := 23) (N := some 83) (v := ?_) (a' := ?_) (bl 36 16777215) rfl rfl (any_of HT_.out (by kernel_rfl)) (fun _ _ _ h => h) (Or.inl ⟨by rfl, ?_⟩) ?_ ?_
           rotate_left
           ·intro w'
            go_simp
            with_reducible rfl
           rotate_left
           ·simp only [puts_]
            rfl
           refine pure_ (i := 24) (N := some 84) (v := ?_) (a' := ?_) (bl 36 33554431) rfl rfl (any_of HT_.out (by kernel_rfl)) (fun _ _ _ h => h) (Or.inl ⟨by rfl, ?_⟩) ?_ ?_
           rotate_left
           ·intro w'
            go_simp
            with_reducible rfl
           rotate_left
           ·simp only [puts_]
            rfl
           refine pure_ (i := 25) (N := some 85) (v := ?_) (a' := ?_) (bl 36 67108863) rfl rfl (any_of HT_.out (by kernel_rfl)) (fun _ _ _ h => h) (Or.inl ⟨by rfl, ?_⟩) ?_ ?_
           rotate_left
           ·intro w'
            go_simp
            with_reducible rfl
           rotate_left
           ·simp only [puts_]
            rfl
           refine pure_ (i := 26) (N := some 86) (v := ?_) (a' := ?_) (bl 36 134217727) rfl rfl (any_of HT_.out (by kernel_rfl)) (fun _ _ _ h => h) (Or.inl ⟨by rfl, ?_⟩) ?_ ?_
           rotate_left
           ·intro w'
            go_simp
            with_reducible rfl
           rotate_left
           ·simp only [puts_]
            rfl
           refine pure_ (i := 27) (N := some 87) (v := ?_) (a' := ?_) (bl 36 268435455) rfl rfl (any_of HT_.out (by kernel_rfl)) (fun _ _ _ h => h) (Or.inl ⟨by rfl, ?_⟩) ?_ ?_
           rotate_left
           ·intro w'
            go_simp
            with_reducible rfl
           rotate_left
           ·simp only [puts_]
            rfl
           refine pure_ (i := 29) (N := some 89) (v := ?_) (a' := ?_) (bl 36 805306367) rfl rfl (any_of HT_.out (by kernel_rfl)) (fun _ _ _ h => h) (Or.inl ⟨by rfl, ?_⟩) ?_ ?_
           rotate_left
           ·intro w'
            go_simp
            with_reducible rfl
           rotate_left
           ·simp only [puts_]
            rfl
           refine pure_ (i := 30) (N := some 90) (v := ?_) (a' := ?_) (bl 36 1879048191) rfl rfl (any_of HT_.out (by kernel_rfl)) (fun _ _ _ h => h) (Or.inl ⟨by rfl, ?_⟩) ?_ ?_
           rotate_left
           ·intro w'
            go_simp
            with_reducible rfl
           rotate_left
           ·simp only [puts_]
            rfl
           refine pure_ (i := 31) (N := some 91) (v := ?_) (a' := ?_) (bl 36 4026531839) rfl rfl (any_of HT_.out (by kernel_rfl)) (fun _ _ _ h => h) (Or.inl ⟨by rfl, ?_⟩) ?_ ?_
           rotate_left
           ·intro w'
            go_simp
            with_reducible rfl
           rotate_left
           ·simp only [puts_]
            rfl
           refine pure_ (i := 32) (N := some 92) (v := ?_) (a' := ?_) (bl 36 8321499135) rfl rfl (any_of HT_.out (by kernel_rfl)) (fun _ _ _ h => h) (Or.inl ⟨by rfl, ?_⟩) ?_ ?_
           rotate_left
           ·intro w'
            go_simp
            with_reducible rfl
           rotate_left
           ·simp only [puts_]
            rfl
           refine take_ (i := 28) (N := some 88) (v := ?_) (a' := ?_) (bl 36 8589934591) rfl rfl (take_ofW HT_.out HW_.out (by kernel_rfl)) (fun _ _ _ h => h) (Or.inl ⟨by rfl, ?_⟩) hHeld ?_ ?_
           rotate_left
           ·rintro w' ⟨s0, s1, s2, s3, s4, s5, s6, s7, s8, s9, s10⟩
            go_simp
            with_reducible rfl
           rotate_left
           ·simp only [puts_]
            rfl
           refine take_ (i := 33) (N := some 93) (v := ?_) (a' := ?_) (bl 36 17179869183) rfl rfl (take_ofW HT_.out HW_.out (by kernel_rfl)) (fun _ _ _ h => h) (Or.inl ⟨by rfl, ?_⟩) hHeld ?_ ?_
           rotate_left
           ·rintro w' ⟨s0, s1, s2, s3, s4, s5, s6, s7, s8, s9, s10⟩
            go_simp
            with_reducible rfl
           rotate_left
           ·simp only [puts_]
            rfl
           refine pure_ (i := 34) (N := some 94) (v := ?_) (a' := ?_) (bl 36 34359738367) rfl rfl (any_of HT_.out (by kernel_rfl)) (fun _ _ _ h => h) (Or.inl ⟨by rfl, ?_⟩) ?_ ?_
           rotate_left
           ·intro w'
            go_simp
            with_reducible rfl
           rotate_left
           ·simp only [puts_]
            rfl
           refine pure_ (i := 35) (N := some 95) (v := ?_) (a' := ?_) (bl 36 68719476735) rfl rfl (any_of HT_.out (by kernel_rfl)) (fun _ _ _ h => h) (Or.inl ⟨by rfl, ?_⟩) ?_ ?_
           rotate_left
           ·intro w'
            go_simp
            with_reducible rfl
           rotate_left
           ·simp only [puts_]
            rfl
           refine done_ (done_of HT_.out (by kernel_rfl)) ?_
           have p356 : 0 ≤ (x13_1 : Int) := of_decide_eq_true (by first | (with_reducible assumption) | assumption)
           have q356 : x13_1 < (l1.length : Int) := of_decide_eq_true (by first | (with_reducible assumption) | assumption)
           obtain ⟨ad356, e356, hx356_0, hx356_1, hx356_2⟩ := at_T31 HR1.out x13_1 p356 q356
           obtain rfl : ad353 = ad356 := (by injection e356)
           replace hx356_0 := (HB.out.cell (World.block_lt_of_cell? w _ hx356_0)).trans hx356_0
           replace hx356_1 := (HB.out.cell (World.block_lt_of_cell? w _ hx356_1)).trans hx356_1
           replace hx356_2 := (HB.out.cell (World.block_lt_of_cell? w _ hx356_2)).trans hx356_2
           replace p356 := eq_true p356
           replace q356 := eq_true q356
           have p357 : 0 ≤ (x13_1 : Int) := of_decide_eq_true (by first | (with_reducible assumption) | assumption)
           have q357 : x13_1 < (l1.length : Int) := of_decide_eq_true (by first | (with_reducible assumption) | assumption)
           obtain ⟨ad357, e357, hx357_0, hx357_1, hx357_2⟩ := at_T31 HR1.out x13_1 p357 q357
           obtain rfl : ad353 = ad357 := (by injection e357)
           replace hx357_0 := (HB.out.cell (World.block_lt_of_cell? w _ hx357_0)).trans hx357_0
           replace hx357_1 := (HB.out.cell (World.block_lt_of_cell? w _ hx357_1)).trans hx357_1
           replace hx357_2 := (HB.out.cell (World.block_lt_of_cell? w _ hx357_2)).trans hx357_2
           replace p357 := eq_true p357
           replace q357 := eq_true q357
           try go_wp2
           go_roundg k1
           case measure => have := HK1.out; omega
           case rel => exact ⟨(wrap64 (x10_1 + (wrap64 (((rd_T67 t345 x13_1).f0) + ((rd_T67 t345 x13_1).f1))))), (wrap64 (x11_1 + ((rd_T31 l1 x13_1).f1))), (wrap64 (x12_1 + ((rd_T31 l1 x13_1).f2))), (wrap64 (x13_1 + 1)), (by first | rfl | (simp; done) | (simp [*]; done)), (by first | rfl | (simp; done) | (simp [*]; done)), (by first | rfl | (simp; done) | (simp [*]; done)), (by first | rfl | (simp; done) | (simp [*]; done)), H', ⟨by have := HK1.out; omega⟩, ⟨by (with_reducible repeat (first | apply Kd.R_alloc | apply Kd.R_drewN | apply Kd.R_drew)); exact HO_8.out⟩, ⟨by (with_reducible repeat (first | refine blk_drewN ?_ _ | refine blk_drew ?_ | refine blk_alloc ?_ _)); exact BK335.out⟩, ⟨by repeat (first | (with_reducible first | exact HB.out | apply below_alloc | apply pw_below_drewN | apply below_drew1 | refine below_set ?_ GE335.out) | exact HB.out)⟩⟩
        ·rw [if_neg c25] at H
         exact absurd H (by simp)
     ·rw [if_neg c16] at H
      exact absurd H (by simp)
    ·rw [if_neg c15] at H
     have c15b0 : decide (x13_1 < (t345.length : Int)) = false := decide_eq_false c15
     clear c15
     have H' := Aside0.mk H
     clear H
     obtain ⟨Ao37, co37, eo37⟩ := Kd.R_slice HO_8.out
     subst eo37
     go_wp2
     go_loopg [15] k1 (fun kq v15 w' => ∃ (x15_2 : Int), v15 = .int .i64 x15_2 ∧ Aside0 (flywheellaw27_AllocSums.l1 kq l1 ji7 t345 t346 x10_1 x11_1 x12_1 x15_2 = some r) ∧ Aside0 (kq ≤ k1) ∧ Aside0 (Kd.R k67 67 w' w.heap.size (fun _ => True) (.slice Ao37 t345.length co37) t345) ∧ Aside0 (w'.heap[gb335]? = some (.cells #[.int .i64 a2_0, .int .i64 a2_1] 57 (0, 0))) ∧ Aside0 (Below w.heap.size w w'))
     case atStart => exact ⟨(0), (by first | rfl | (simp; done) | (simp [*]; done)), H', ⟨Nat.le_refl _⟩, ⟨by (with_reducible repeat (first | apply Kd.R_alloc | apply Kd.R_drewN | apply Kd.R_drew)); exact HO_8.out⟩, ⟨by (with_reducible repeat (first | refine blk_drewN ?_ _ | refine blk_drew ?_ | refine blk_alloc ?_ _)); exact BK335.out⟩, ⟨by repeat (first | (with_reducible first | exact HB.out | apply below_alloc | apply pw_below_drewN | apply below_drew1 | refine below_set ?_ GE335.out) | exact HB.out)⟩⟩
     case round =>
      clear H'
      try clear c1
      try clear c2
      try clear p2
      try clear c3
      try clear p3
      try clear q3
      try clear hx3
      try clear p6
      try clear c15
      try clear c15b0
      try clear c16
      try clear c25
      try clear c30
      try clear c30b0
      try clear p34
      try clear q34
      try clear hx34
      try clear p35
      try clear q35
      try clear hx35
      try clear hx349_0
      try clear hx349_1
      try clear hx350_0
      try clear hx350_1
      try clear hx351_0
      try clear hx351_1
      try clear hx352_0
      try clear hx352_1
      try clear hx353_0
      try clear hx353_1
      try clear hx353_2
      try clear hx354_0
      try clear hx354_1
      try clear hx355_0
      try clear hx355_1
      try clear hx356_0
      try clear hx356_1
      try clear hx356_2
      try clear hx357_0
      try clear hx357_1
      try clear hx357_2
      try clear p349
      try clear p350
      try clear p351
      try clear p352
      try clear p353
      try clear p354
      try clear p355
      try clear p356
      try clear p357
      try clear q349
      try clear q350
      try clear q351
      try clear q352
      try clear q353
      try clear q354
      try clear q355
      try clear q356
      try clear q357
      obtain ⟨x15_2, rfl, HA, HK2, HO_8, BK335, HB⟩ := hrel
      cases gk with
      | zero => exact absurd HA.out (by simp [flywheellaw27_AllocSums.l1])
      | succ k2 =>
       have H := HA.out
       clear HA
       simp only [flywheellaw27_AllocSums.l1] at H
       by_cases c38 : x15_2 < (t345.length : Int)
       ·rw [if_pos c38] at H
        have c38b0 : decide (x15_2 < (t345.length : Int)) = true := decide_eq_true c38
        clear c38
        by_cases c39 : x11_1 ≤ (wrap64 (ji7 - t346))
        ·rw [if_pos c39] at H
         have c39b0 : decide (x11_1 ≤ (wrap64 (ji7 - t346))) = true := decide_eq_true c39
         clear c39
         by_cases c40 : 0 ≤ x15_2
         ·rw [if_pos c40] at H
          have c40b0 : decide (0 ≤ x15_2) = true := decide_eq_true c40
          clear c40
          by_cases c41 : x15_2 < (l1.length : Int)
          ·rw [if_pos c41] at H
           have c41b0 : decide (x15_2 < (l1.length : Int)) = true := decide_eq_true c41
           clear c41
           by_cases c42 : (wrap64 (((rd_T67 t345 x15_2).f0) + ((rd_T67 t345 x15_2).f1))) < ((rd_T31 l1 x15_2).f1)
           ·rw [if_pos c42] at H
            have c42b0 : decide ((wrap64 (((rd_T67 t345 x15_2).f0) + ((rd_T67 t345 x15_2).f1))) < ((rd_T31 l1 x15_2).f1)) = true := decide_eq_true c42
            clear c42
            obtain rfl := Option.some.inj H
            try go_wp2
            have n0_ := Aside0.mk (Kd.R_drew HO_8.out)
            have n1_ := Aside0.mk (blk_drew BK335.out)
            have n2_ := Aside0.mk (below_drew1 HB.out)
            clear HO_8
            clear BK335
            clear HB
            have HO_8 := n0_
            have BK335 := n1_
            have HB := n2_
            clear n0_ n1_ n2_
            have p358 : 0 ≤ (x15_2 : Int) := of_decide_eq_true (by first | (with_reducible assumption) | assumption)
            have q358 : x15_2 < (t345.length : Int) := of_decide_eq_true (by first | (with_reducible assumption) | assumption)
            obtain ⟨ad358, e358, hx358_0, hx358_1⟩ := at_T67 (Kd.R_reads' HO_8.out).2.2 x15_2 p358 q358
            cases e358
            replace p358 := eq_true p358
            replace q358 := eq_true q358
            have p359 : 0 ≤ (x15_2 : Int) := of_decide_eq_true (by first | (with_reducible assumption) | assumption)
            have q359 : x15_2 < (t345.length : Int) := of_decide_eq_true (by first | (with_reducible assumption) | assumption)
            obtain ⟨ad359, e359, hx359_0, hx359_1⟩ := at_T67 (Kd.R_reads' HO_8.out).2.2 x15_2 p359 q359
            obtain rfl : ad358 = ad359 := (by injection e359)
            replace p359 := eq_true p359
            replace q359 := eq_true q359
            have p360 : 0 ≤ (x15_2 : Int) := of_decide_eq_true (by first | (with_reducible assumption) | assumption)
            have q360 : x15_2 < (l1.length : Int) := of_decide_eq_true (by first | (with_reducible assumption) | assumption)
            obtain ⟨ad360, e360, hx360_0, hx360_1, hx360_2⟩ := at_T31 HR1.out x15_2 p360 q360
            have hw360_2 := hx360_2
            have hw360_1 := hx360_1
            have hw360_0 := hx360_0
            cases e360
            replace hx360_0 := (HB.out.cell (World.block_lt_of_cell? w _ hx360_0)).trans hx360_0
            replace hx360_1 := (HB.out.cell (World.block_lt_of_cell? w _ hx360_1)).trans hx360_1
            replace hx360_2 := (HB.out.cell (World.block_lt_of_cell? w _ hx360_2)).trans hx360_2
            replace p360 := eq_true p360
            replace q360 := eq_true q360
            refine start_ (n := 24) (S := fun w' => w'.cell? (ad358.add ((x15_2).toNat * 2)) = some (.int .i64 ((rd_T67 t345 x15_2).f0)) ∧ w'.cell? ⟨(ad358.add ((x15_2).toNat * 2)).block, (ad358.add ((x15_2).toNat * 2)).off + 1, none⟩ = some (.int .i64 ((rd_T67 t345 x15_2).f1)) ∧ w'.cell? (ad358.add ((x15_2).toNat * 2)) = some (.int .i64 ((rd_T67 t345 x15_2).f0)) ∧ w'.cell? ⟨(ad358.add ((x15_2).toNat * 2)).block, (ad358.add ((x15_2).toNat * 2)).off + 1, none⟩ = some (.int .i64 ((rd_T67 t345 x15_2).f1)) ∧ w'.cell? (ad360.add ((x15_2).toNat * 3)) = some (.int .i64 ((rd_T31 l1 x15_2).f0)) ∧ w'.cell? ⟨(ad360.add ((x15_2).toNat * 3)).block, (ad360.add ((x15_2).toNat * 3)).off + 1, none⟩ = some (.int .i64 ((rd_T31 l1 x15_2).f1)) ∧ w'.cell? ⟨(ad360.add ((x15_2).toNat * 3)).block, (ad360.add ((x15_2).toNat * 3)).off + 2, none⟩ = some (.int .i64 ((rd_T31 l1 x15_2).f2))) (ds := []) #[false, false, false, false, false, false, false, false, false, false, false, false, false, false, false, false, false, false, false, false, false, false, false, false] (by kernel_rfl) rfl rfl ⟨hx358_0, hx358_1, hx359_0, hx359_1, ((HB.out.cell (World.block_lt_of_cell? w _ hw360_0)).trans hw360_0), ((HB.out.cell (World.block_lt_of_cell? w _ hw360_1)).trans hw360_1), ((HB.out.cell (World.block_lt_of_cell? w _ hw360_2)).trans hw360_2)⟩ (fun hHeld => ?_); refine with_tabW flywheellaw27_AllocSums.tab18 flywheellaw27_AllocSums.bits18 (fun HT_ HW_ => ?_)
            generalize wr.drew = w43 at HO_8 BK335 HB hx358_0 hx358_1 hx359_0 hx359_1 hx360_0 hx360_1 hx360_2 hHeld ⊢
            refine pure_ (i := 0) (N := some 119) (v := ?_) (a' := ?_) (bl 24 1) rfl rfl (any_of HT_.out (by kernel_rfl)) (fun _ _ _ h => h) (Or.inl ⟨by rfl, ?_⟩) ?_ ?_
            rotate_left
            ·intro w'
             go_simp
             with_reducible rfl
            rotate_left
            ·simp only [puts_]
             rfl
            refine pure_ (i := 1) (N := some 120) (v := ?_) (a' := ?_) (bl 24 3) rfl rfl (any_of HT_.out (by kernel_rfl)) (fun _ _ _ h => h) (Or.inl ⟨by rfl, ?_⟩) ?_ ?_
            rotate_left
            ·intro w'
             go_simp
             with_reducible rfl
            rotate_left
            ·simp only [puts_]
             rfl
            refine pure_ (i := 2) (N := some 121) (v := ?_) (a' := ?_) (bl 24 7) rfl rfl (any_of HT_.out (by kernel_rfl)) (fun _ _ _ h => h) (Or.inl ⟨by rfl, ?_⟩) ?_ ?_
            rotate_left
            ·intro w'
             go_simp
             with_reducible rfl
            rotate_left
            ·simp only [puts_]
             rfl
            refine pure_ (i := 3) (N := some 122) (v := ?_) (a' := ?_) (bl 24 15) rfl rfl (any_of HT_.out (by kernel_rfl)) (fun _ _ _ h => h) (Or.inl ⟨by rfl, ?_⟩) ?_ ?_
            rotate_left
            ·intro w'
             go_simp
             with_reducible rfl
            rotate_left
            ·simp only [puts_]
             rfl
            refine pure_ (i := 4) (N := some 123) (v := ?_) (a' := ?_) (bl 24 31) rfl rfl (any_of HT_.out (by kernel_rfl)) (fun _ _ _ h => h) (Or.inl ⟨by rfl, ?_⟩) ?_ ?_
            rotate_left
            ·intro w'
             go_simp
             with_reducible rfl
            rotate_left
            ·simp only [puts_]
             rfl
            refine pure_ (i := 5) (N := some 124) (v := ?_) (a' := ?_) (bl 24 63) rfl rfl (any_of HT_.out (by kernel_rfl)) (fun _ _ _ h => h) (Or.inl ⟨by rfl, ?_⟩) ?_ ?_
            rotate_left
            ·intro w'
             go_simp
             with_reducible rfl
            rotate_left
            ·simp only [puts_]
             rfl
            refine pure_ (i := 6) (N := some 125) (v := ?_) (a' := ?_) (bl 24 127) rfl rfl (any_of HT_.out (by kernel_rfl)) (fun _ _ _ h => h) (Or.inl ⟨by rfl, ?_⟩) ?_ ?_
            rotate_left
            ·intro w'
             go_simp
             with_reducible rfl
            rotate_left
            ·simp only [puts_]
             rfl
            refine pure_ (i := 7) (N := some 126) (v := ?_) (a' := ?_) (bl 24 255) rfl rfl (any_of HT_.out (by kernel_rfl)) (fun _ _ _ h => h) (Or.inl ⟨by rfl, ?_⟩) ?_ ?_
            rotate_left
            ·intro w'
             go_simp
             with_reducible rfl
            rotate_left
            ·simp only [puts_]
             rfl
            refine pure_ (i := 8) (N := some 127) (v := ?_) (a' := ?_) (bl 24 511) rfl rfl (any_of HT_.out (by kernel_rfl)) (fun _ _ _ h => h) (Or.inl ⟨by rfl, ?_⟩) ?_ ?_
            rotate_left
            ·intro w'
             go_simp
             with_reducible rfl
            rotate_left
            ·simp only [puts_]
             rfl
            refine pure_ (i := 9) (N := some 128) (v := ?_) (a' := ?_) (bl 24 1023) rfl rfl (any_of HT_.out (by kernel_rfl)) (fun _ _ _ h => h) (Or.inl ⟨by rfl, ?_⟩) ?_ ?_
            rotate_left
            ·intro w'
             go_simp
             with_reducible rfl
            rotate_left
            ·simp only [puts_]
             rfl
            refine pure_ (i := 11) (N := some 130) (v := ?_) (a' := ?_) (bl 24 3071) rfl rfl (any_of HT_.out (by kernel_rfl)) (fun _ _ _ h => h) (Or.inl ⟨by rfl, ?_⟩) ?_ ?_
            rotate_left
            ·intro w'
             go_simp
             with_reducible rfl
            rotate_left
            ·simp only [puts_]
             rfl
            refine pure_ (i := 12) (N := some 131) (v := ?_) (a' := ?_) (bl 24 7167) rfl rfl (any_of HT_.out (by kernel_rfl)) (fun _ _ _ h => h) (Or.inl ⟨by rfl, ?_⟩) ?_ ?_
            rotate_left
            ·intro w'
             go_simp
             with_reducible rfl
            rotate_left
            ·simp only [puts_]
             rfl
            refine pure_ (i := 13) (N := some 132) (v := ?_) (a' := ?_) (bl 24 15359) rfl rfl (any_of HT_.out (by kernel_rfl)) (fun _ _ _ h => h) (Or.inl ⟨by rfl, ?_⟩) ?_ ?_
            rotate_left
            ·intro w'
             go_simp
             with_reducible rfl
            rotate_left
            ·simp only [puts_]
             rfl
            refine pure_ (i := 14) (N := some 133) (v := ?_) (a' := ?_) (bl 24 31743) rfl rfl (any_of HT_.out (by kernel_rfl)) (fun _ _ _ h => h) (Or.inl ⟨by rfl, ?_⟩) ?_ ?_
            rotate_left
            ·intro w'
             go_simp
             with_reducible rfl
            rotate_left
            ·simp only [puts_]
             rfl
            refine pure_ (i := 17) (N := some 136) (v := ?_) (a' := ?_) (bl 24 162815) rfl rfl (any_of HT_.out (by kernel_rfl)) (fun _ _ _ h => h) (Or.inl ⟨by rfl, ?_⟩) ?_ ?_
            rotate_left
            ·intro w'
             go_simp
             with_reducible rfl
            rotate_left
            ·simp only [puts_]
             rfl
            refine pure_ (i := 18) (N := some 137) (v := ?_) (a' := ?_) (bl 24 424959) rfl rfl (any_of HT_.out (by kernel_rfl)) (fun _ _ _ h => h) (Or.inl ⟨by rfl, ?_⟩) ?_ ?_
            rotate_left
            ·intro w'
             go_simp
             with_reducible rfl
            rotate_left
            ·simp only [puts_]
             rfl
            refine pure_ (i := 19) (N := some 138) (v := ?_) (a' := ?_) (bl 24 949247) rfl rfl (any_of HT_.out (by kernel_rfl)) (fun _ _ _ h => h) (Or.inl ⟨by rfl, ?_⟩) ?_ ?_
            rotate_left
            ·intro w'
             go_simp
             with_reducible rfl
            rotate_left
            ·simp only [puts_]
             rfl
            refine pure_ (i := 20) (N := some 139) (v := ?_) (a' := ?_) (bl 24 1997823) rfl rfl (any_of HT_.out (by kernel_rfl)) (fun _ _ _ h => h) (Or.inl ⟨by rfl, ?_⟩) ?_ ?_
            rotate_left
            ·intro w'
             go_simp
             with_reducible rfl
            rotate_left
            ·simp only [puts_]
             rfl
            refine take_ (i := 10) (N := some 129) (v := ?_) (a' := ?_) (bl 24 1998847) rfl rfl (take_ofW HT_.out HW_.out (by kernel_rfl)) (fun _ _ _ h => h) (Or.inl ⟨by rfl, ?_⟩) hHeld ?_ ?_
            rotate_left
            ·rintro w' ⟨s0, s1, s2, s3, s4, s5, s6⟩
             go_simp
             with_reducible rfl
            rotate_left
            ·simp only [puts_]
             rfl
            refine take_ (i := 15) (N := some 134) (v := ?_) (a' := ?_) (bl 24 2031615) rfl rfl (take_ofW HT_.out HW_.out (by kernel_rfl)) (fun _ _ _ h => h) (Or.inl ⟨by rfl, ?_⟩) hHeld ?_ ?_
            rotate_left
            ·rintro w' ⟨s0, s1, s2, s3, s4, s5, s6⟩
             go_simp
             with_reducible rfl
            rotate_left
            ·simp only [puts_]
             rfl
            refine pure_ (i := 16) (N := some 135) (v := ?_) (a' := ?_) (bl 24 2097151) rfl rfl (any_of HT_.out (by kernel_rfl)) (fun _ _ _ h => h) (Or.inl ⟨by rfl, ?_⟩) ?_ ?_
            rotate_left
            ·intro w'
             go_simp
             with_reducible rfl
            rotate_left
            ·simp only [puts_]
             rfl
            refine take_ (i := 21) (N := some 140) (v := ?_) (a' := ?_) (bl 24 4194303) rfl rfl (take_ofW HT_.out HW_.out (by kernel_rfl)) (fun _ _ _ h => h) (Or.inl ⟨by rfl, ?_⟩) hHeld ?_ ?_
            rotate_left
            ·rintro w' ⟨s0, s1, s2, s3, s4, s5, s6⟩
             go_simp
             with_reducible rfl
            rotate_left
            ·simp only [puts_]
             rfl
            refine pure_ (i := 22) (N := some 141) (v := ?_) (a' := ?_) (bl 24 8388607) rfl rfl (any_of HT_.out (by kernel_rfl)) (fun _ _ _ h => h) (Or.inl ⟨by rfl, ?_⟩) ?_ ?_
            rotate_left
            ·intro w'
             go_simp
             with_reducible rfl
            rotate_left
            ·simp only [puts_]
             rfl
            refine pure_ (i := 23) (N := some 142) (v := ?_) (a' := ?_) (bl 24 16777215) rfl rfl (any_of HT_.out (by kernel_rfl)) (fun _ _ _ h => h) (Or.inl ⟨by rfl, ?_⟩) ?_ ?_
            rotate_left
            ·intro w'
             go_simp
             with_reducible rfl
            rotate_left
            ·simp only [puts_]
             rfl
            refine done_ (done_of HT_.out (by kernel_rfl)) ?_
            try go_wp2
            go_ret
            exact ⟨by first | rfl | (simp [errW_none, errW_some] <;> rfl) | (simp only [← hji6, ← hji7]; first | rfl | (simp [errW_none, errW_some] <;> rfl)) | (simp [*, errW_none, errW_some] <;> rfl), by repeat (first | (with_reducible first | exact HB.out | apply below_alloc | apply pw_below_drewN | apply below_drew1 | refine below_set ?_ GE335.out) | exact HB.out)⟩
           ·rw [if_neg c42] at H
            have c42b0 : decide ((wrap64 (((rd_T67 t345 x15_2).f0) + ((rd_T67 t345 x15_2).f1))) < ((rd_T31 l1 x15_2).f1)) = false := decide_eq_false c42
            clear c42
            have H' := Aside0.mk H
            clear H
            try go_wp2
            have n0_ := Aside0.mk (Kd.R_drew HO_8.out)
            have n1_ := Aside0.mk (blk_drew BK335.out)
            have n2_ := Aside0.mk (below_drew1 HB.out)
            clear HO_8
            clear BK335
            clear HB
            have HO_8 := n0_
            have BK335 := n1_
            have HB := n2_
            clear n0_ n1_ n2_
            have p358 : 0 ≤ (x15_2 : Int) := of_decide_eq_true (by first | (with_reducible assumption) | assumption)
            have q358 : x15_2 < (t345.length : Int) := of_decide_eq_true (by first | (with_reducible assumption) | assumption)
            obtain ⟨ad358, e358, hx358_0, hx358_1⟩ := at_T67 (Kd.R_reads' HO_8.out).2.2 x15_2 p358 q358
            cases e358
            replace p358 := eq_true p358
            replace q358 := eq_true q358
            have p359 : 0 ≤ (x15_2 : Int) := of_decide_eq_true (by first | (with_reducible assumption) | assumption)
            have q359 : x15_2 < (t345.length : Int) := of_decide_eq_true (by first | (with_reducible assumption) | assumption)
            obtain ⟨ad359, e359, hx359_0, hx359_1⟩ := at_T67 (Kd.R_reads' HO_8.out).2.2 x15_2 p359 q359
            obtain rfl : ad358 = ad359 := (by injection e359)
            replace p359 := eq_true p359
            replace q359 := eq_true q359
            have p360 : 0 ≤ (x15_2 : Int) := of_decide_eq_true (by first | (with_reducible assumption) | assumption)
            have q360 : x15_2 < (l1.length : Int) := of_decide_eq_true (by first | (with_reducible assumption) | assumption)
            obtain ⟨ad360, e360, hx360_0, hx360_1, hx360_2⟩ := at_T31 HR1.out x15_2 p360 q360
            have hw360_2 := hx360_2
            have hw360_1 := hx360_1
            have hw360_0 := hx360_0
            cases e360
            replace hx360_0 := (HB.out.cell (World.block_lt_of_cell? w _ hx360_0)).trans hx360_0
            replace hx360_1 := (HB.out.cell (World.block_lt_of_cell? w _ hx360_1)).trans hx360_1
            replace hx360_2 := (HB.out.cell (World.block_lt_of_cell? w _ hx360_2)).trans hx360_2
            replace p360 := eq_true p360
            replace q360 := eq_true q360
            refine start_ (n := 24) (S := fun w' => w'.cell? (ad358.add ((x15_2).toNat * 2)) = some (.int .i64 ((rd_T67 t345 x15_2).f0)) ∧ w'.cell? ⟨(ad358.add ((x15_2).toNat * 2)).block, (ad358.add ((x15_2).toNat * 2)).off + 1, none⟩ = some (.int .i64 ((rd_T67 t345 x15_2).f1)) ∧ w'.cell? (ad358.add ((x15_2).toNat * 2)) = some (.int .i64 ((rd_T67 t345 x15_2).f0)) ∧ w'.cell? ⟨(ad358.add ((x15_2).toNat * 2)).block, (ad358.add ((x15_2).toNat * 2)).off + 1, none⟩ = some (.int .i64 ((rd_T67 t345 x15_2).f1)) ∧ w'.cell? (ad360.add ((x15_2).toNat * 3)) = some (.int .i64 ((rd_T31 l1 x15_2).f0)) ∧ w'.cell? ⟨(ad360.add ((x15_2).toNat * 3)).block, (ad360.add ((x15_2).toNat * 3)).off + 1, none⟩ = some (.int .i64 ((rd_T31 l1 x15_2).f1)) ∧ w'.cell? ⟨(ad360.add ((x15_2).toNat * 3)).block, (ad360.add ((x15_2).toNat * 3)).off + 2, none⟩ = some (.int .i64 ((rd_T31 l1 x15_2).f2))) (ds := []) #[false, false, false, false, false, false, false, false, false, false, false, false, false, false, false, false, false, false, false, false, false, false, false, false] (by kernel_rfl) rfl rfl ⟨hx358_0, hx358_1, hx359_0, hx359_1, ((HB.out.cell (World.block_lt_of_cell? w _ hw360_0)).trans hw360_0), ((HB.out.cell (World.block_lt_of_cell? w _ hw360_1)).trans hw360_1), ((HB.out.cell (World.block_lt_of_cell? w _ hw360_2)).trans hw360_2)⟩ (fun hHeld => ?_); refine with_tabW flywheellaw27_AllocSums.tab18 flywheellaw27_AllocSums.bits18 (fun HT_ HW_ => ?_)
            generalize wr.drew = w44 at HO_8 BK335 HB hx358_0 hx358_1 hx359_0 hx359_1 hx360_0 hx360_1 hx360_2 hHeld ⊢
            refine pure_ (i := 0) (N := some 119) (v := ?_) (a' := ?_) (bl 24 1) rfl rfl (any_of HT_.out (by kernel_rfl)) (fun _ _ _ h => h) (Or.inl ⟨by rfl, ?_⟩) ?_ ?_
            rotate_left
            ·intro w'
             go_simp
             with_reducible rfl
            rotate_left
            ·simp only [puts_]
             rfl
            refine pure_ (i := 1) (N := some 120) (v := ?_) (a' := ?_) (bl 24 3) rfl rfl (any_of HT_.out (by kernel_rfl)) (fun _ _ _ h => h) (Or.inl ⟨by rfl, ?_⟩) ?_ ?_
            rotate_left
            ·intro w'
             go_simp
             with_reducible rfl
            rotate_left
            ·simp only [puts_]
             rfl
            refine pure_ (i := 2) (N := some 121) (v := ?_) (a' := ?_) (bl 24 7) rfl rfl (any_of HT_.out (by kernel_rfl)) (fun _ _ _ h => h) (Or.inl ⟨by rfl, ?_⟩) ?_ ?_
            rotate_left
            ·intro w'
             go_simp
             with_reducible rfl
            rotate_left
            ·simp only [puts_]
             rfl
            refine pure_ (i := 3) (N := some 122) (v := ?_) (a' := ?_) (bl 24 15) rfl rfl (any_of HT_.out (by kernel_rfl)) (fun _ _ _ h => h) (Or.inl ⟨by rfl, ?_⟩) ?_ ?_
            rotate_left
            ·intro w'
             go_simp
             with_reducible rfl
            rotate_left
            ·simp only [puts_]
             rfl
            refine pure_ (i := 4) (N := some 123) (v := ?_) (a' := ?_) (bl 24 31) rfl rfl (any_of HT_.out (by kernel_rfl)) (fun _ _ _ h => h) (Or.inl ⟨by rfl, ?_⟩) ?_ ?_
            rotate_left
            ·intro w'
             go_simp
             with_reducible rfl
            rotate_left
            ·simp only [puts_]
             rfl
            refine pure_ (i := 5) (N := some 124) (v := ?_) (a' := ?_) (bl 24 63) rfl rfl (any_of HT_.out (by kernel_rfl)) (fun _ _ _ h => h) (Or.inl ⟨by rfl, ?_⟩) ?_ ?_
            rotate_left
            ·intro w'
             go_simp
             with_reducible rfl
            rotate_left
            ·simp only [puts_]
             rfl
            refine pure_ (i := 6) (N := some 125) (v := ?_) (a' := ?_) (bl 24 127) rfl rfl (any_of HT_.out (by kernel_rfl)) (fun _ _ _ h => h) (Or.inl ⟨by rfl, ?_⟩) ?_ ?_
            rotate_left
            ·intro w'
             go_simp
             with_reducible rfl
            rotate_left
            ·simp only [puts_]
             rfl
            refine pure_ (i := 7) (N := some 126) (v := ?_) (a' := ?_) (bl 24 255) rfl rfl (any_of HT_.out (by kernel_rfl)) (fun _ _ _ h => h) (Or.inl ⟨by rfl, ?_⟩) ?_ ?_
            rotate_left
            ·intro w'
             go_simp
             with_reducible rfl
            rotate_left
            ·simp only [puts_]
             rfl
            refine pure_ (i := 8) (N := some 127) (v := ?_) (a' := ?_) (bl 24 511) rfl rfl (any_of HT_.out (by kernel_rfl)) (fun _ _ _ h => h) (Or.inl ⟨by rfl, ?_⟩) ?_ ?_
            rotate_left
            ·intro w'
             go_simp
             with_reducible rfl
            rotate_left
            ·simp only [puts_]
             rfl
            refine pure_ (i := 9) (N := some 128) (v := ?_) (a' := ?_) (bl 24 1023) rfl rfl (any_of HT_.out (by kernel_rfl)) (fun _ _ _ h => h) (Or.inl ⟨by rfl, ?_⟩) ?_ ?_
            rotate_left
            ·intro w'
             go_simp
             with_reducible rfl
            rotate_left
            ·simp only [puts_]
             rfl
            refine pure_ (i := 11) (N := some 130) (v := ?_) (a' := ?_) (bl 24 3071) rfl rfl (any_of HT_.out (by kernel_rfl)) (fun _ _ _ h => h) (Or.inl ⟨by rfl, ?_⟩) ?_ ?_
            rotate_left
            ·intro w'
             go_simp
             with_reducible rfl
            rotate_left
            ·simp only [puts_]
             rfl
            refine pure_ (i := 12) (N := some 131) (v := ?_) (a' := ?_) (bl 24 7167) rfl rfl (any_of HT_.out (by kernel_rfl)) (fun _ _ _ h => h) (Or.inl ⟨by rfl, ?_⟩) ?_ ?_
            rotate_left
            ·intro w'
             go_simp
             with_reducible rfl
            rotate_left
            ·simp only [puts_]
             rfl
            refine pure_ (i := 13) (N := some 132) (v := ?_) (a' := ?_) (bl 24 15359) rfl rfl (any_of HT_.out (by kernel_rfl)) (fun _ _ _ h => h) (Or.inl ⟨by rfl, ?_⟩) ?_ ?_
            rotate_left
            ·intro w'
             go_simp
             with_reducible rfl
            rotate_left
            ·simp only [puts_]
             rfl
            refine pure_ (i := 14) (N := some 133) (v := ?_) (a' := ?_) (bl 24 31743) rfl rfl (any_of HT_.out (by kernel_rfl)) (fun _ _ _ h => h) (Or.inl ⟨by rfl, ?_⟩) ?_ ?_
            rotate_left
            ·intro w'
             go_simp
             with_reducible rfl
            rotate_left
            ·simp only [puts_]
             rfl
            refine pure_ (i := 17) (N := some 136) (v := ?_) (a' := ?_) (bl 24 162815) rfl rfl (any_of HT_.out (by kernel_rfl)) (fun _ _ _ h => h) (Or.inl ⟨by rfl, ?_⟩) ?_ ?_
            rotate_left
            ·intro w'
             go_simp
             with_reducible rfl
            rotate_left
            ·simp only [puts_]
             rfl
            refine pure_ (i := 18) (N := some 137) (v := ?_) (a' := ?_) (bl 24 424959) rfl rfl (any_of HT_.out (by kernel_rfl)) (fun _ _ _ h => h) (Or.inl ⟨by rfl, ?_⟩) ?_ ?_
            rotate_left
            ·intro w'
             go_simp
             with_reducible rfl
            rotate_left
            ·simp only [puts_]
             rfl
            refine pure_ (i := 19) (N := some 138) (v := ?_) (a' := ?_) (bl 24 949247) rfl rfl (any_of HT_.out (by kernel_rfl)) (fun _ _ _ h => h) (Or.inl ⟨by rfl, ?_⟩) ?_ ?_
            rotate_left
            ·intro w'
             go_simp
             with_reducible rfl
            rotate_left
            ·simp only [puts_]
             rfl
            refine pure_ (i := 20) (N := some 139) (v := ?_) (a' := ?_) (bl 24 1997823) rfl rfl (any_of HT_.out (by kernel_rfl)) (fun _ _ _ h => h) (Or.inl ⟨by rfl, ?_⟩) ?_ ?_
            rotate_left
            ·intro w'
             go_simp
             with_reducible rfl
            rotate_left
            ·simp only [puts_]
             rfl
            refine take_ (i := 10) (N := some 129) (v := ?_) (a' := ?_) (bl 24 1998847) rfl rfl (take_ofW HT_.out HW_.out (by kernel_rfl)) (fun _ _ _ h => h) (Or.inl ⟨by rfl, ?_⟩) hHeld ?_ ?_
            rotate_left
            ·rintro w' ⟨s0, s1, s2, s3, s4, s5, s6⟩
             go_simp
             with_reducible rfl
            rotate_left
            ·simp only [puts_]
             rfl
            refine take_ (i := 15) (N := some 134) (v := ?_) (a' := ?_) (bl 24 2031615) rfl rfl (take_ofW HT_.out HW_.out (by kernel_rfl)) (fun _ _ _ h => h) (Or.inl ⟨by rfl, ?_⟩) hHeld ?_ ?_
            rotate_left
            ·rintro w' ⟨s0, s1, s2, s3, s4, s5, s6⟩
             go_simp
             with_reducible rfl
            rotate_left
            ·simp only [puts_]
             rfl
            refine pure_ (i := 16) (N := some 135) (v := ?_) (a' := ?_) (bl 24 2097151) rfl rfl (any_of HT_.out (by kernel_rfl)) (fun _ _ _ h => h) (Or.inl ⟨by rfl, ?_⟩) ?_ ?_
            rotate_left
            ·intro w'
             go_simp
             with_reducible rfl
            rotate_left
            ·simp only [puts_]
             rfl
            refine take_ (i := 21) (N := some 140) (v := ?_) (a' := ?_) (bl 24 4194303) rfl rfl (take_ofW HT_.out HW_.out (by kernel_rfl)) (fun _ _ _ h => h) (Or.inl ⟨by rfl, ?_⟩) hHeld ?_ ?_
            rotate_left
            ·rintro w' ⟨s0, s1, s2, s3, s4, s5, s6⟩
             go_simp
             with_reducible rfl
            rotate_left
            ·simp only [puts_]
             rfl
            refine pure_ (i := 22) (N := some 141) (v := ?_) (a' := ?_) (bl 24 8388607) rfl rfl (any_of HT_.out (by kernel_rfl)) (fun _ _ _ h => h) (Or.inl ⟨by rfl, ?_⟩) ?_ ?_
            rotate_left
            ·intro w'
             go_simp
             with_reducible rfl
            rotate_left
            ·simp only [puts_]
             rfl
            refine pure_ (i := 23) (N := some 142) (v := ?_) (a' := ?_) (bl 24 16777215) rfl rfl (any_of HT_.out (by kernel_rfl)) (fun _ _ _ h => h) (Or.inl ⟨by rfl, ?_⟩) ?_ ?_
            rotate_left
            ·intro w'
             go_simp
             with_reducible rfl
            rotate_left
            ·simp only [puts_]
             rfl
            refine done_ (done_of HT_.out (by kernel_rfl)) ?_
            try go_wp2
            go_roundg k2
            case measure => have := HK1.out; have := HK2.out; omega
            case rel => exact ⟨(wrap64 (x15_2 + 1)), (by first | rfl | (simp; done) | (simp [*]; done)), H', ⟨by have := HK1.out; have := HK2.out; omega⟩, ⟨by (with_reducible repeat (first | apply Kd.R_alloc | apply Kd.R_drewN | apply Kd.R_drew)); exact HO_8.out⟩, ⟨by (with_reducible repeat (first | refine blk_drewN ?_ _ | refine blk_drew ?_ | refine blk_alloc ?_ _)); exact BK335.out⟩, ⟨by repeat (first | (with_reducible first | exact HB.out | apply below_alloc | apply pw_below_drewN | apply below_drew1 | refine below_set ?_ GE335.out) | exact HB.out)⟩⟩
          ·rw [if_neg c41] at H
           exact absurd H (by simp)
         ·rw [if_neg c40] at H
          exact absurd H (by simp)
        ·rw [if_neg c39] at H
         have c39b0 : decide (x11_1 ≤ (wrap64 (ji7 - t346))) = false := decide_eq_false c39
         clear c39
         have H' := Aside0.mk H
         clear H
         try go_wp2
         have n0_ := Aside0.mk (Kd.R_drew HO_8.out)
         have n1_ := Aside0.mk (blk_drew BK335.out)
         have n2_ := Aside0.mk (below_drew1 HB.out)
         clear HO_8
         clear BK335
         clear HB
         have HO_8 := n0_
         have BK335 := n1_
         have HB := n2_
         clear n0_ n1_ n2_
         refine start_ (n := 24) (S := fun w' => True) (ds := []) #[false, false, false, false, false, false, false, false, false, false, false, false, false, false, false, false, false, false, false, false, false, false, false, false] (by kernel_rfl) rfl rfl trivial (fun hHeld => ?_); refine with_tabW flywheellaw27_AllocSums.tab18 flywheellaw27_AllocSums.bits18 (fun HT_ HW_ => ?_)
         generalize wr.drew = w45 at HO_8 BK335 HB hHeld ⊢
         refine pure_ (i := 0) (N := some 119) (v := ?_) (a' := ?_) (bl 24 1) rfl rfl (any_of HT_.out (by kernel_rfl)) (fun _ _ _ h => h) (Or.inl ⟨by rfl, ?_⟩) ?_ ?_
         rotate_left
         ·intro w'
          go_simp
          with_reducible rfl
         rotate_left
         ·simp only [puts_]
          rfl
         refine pure_ (i := 1) (N := some 120) (v := ?_) (a' := ?_) (bl 24 3) rfl rfl (any_of HT_.out (by kernel_rfl)) (fun _ _ _ h => h) (Or.inl ⟨by rfl, ?_⟩) ?_ ?_
         rotate_left
         ·intro w'
          go_simp
          with_reducible rfl
         rotate_left
         ·simp only [puts_]
          rfl
         refine pure_ (i := 2) (N := some 121) (v := ?_) (a' := ?_) (bl 24 7) rfl rfl (any_of HT_.out (by kernel_rfl)) (fun _ _ _ h => h) (Or.inl ⟨by rfl, ?_⟩) ?_ ?_
         rotate_left
         ·intro w'
          go_simp
          with_reducible rfl
         rotate_left
         ·simp only [puts_]
          rfl
         refine pure_ (i := 3) (N := some 122) (v := ?_) (a' := ?_) (bl 24 15) rfl rfl (any_of HT_.out (by kernel_rfl)) (fun _ _ _ h => h) (Or.inl ⟨by rfl, ?_⟩) ?_ ?_
         rotate_left
         ·intro w'
          go_simp
          with_reducible rfl
         rotate_left
         ·simp only [puts_]
          rfl
         refine pure_ (i := 4) (N := some 123) (v := ?_) (a' := ?_) (bl 24 31) rfl rfl (any_of HT_.out (by kernel_rfl)) (fun _ _ _ h => h) (Or.inl ⟨by rfl, ?_⟩) ?_ ?_
         rotate_left
         ·intro w'
          go_simp
          with_reducible rfl
         rotate_left
         ·simp only [puts_]
          rfl
         refine pure_ (i := 5) (N := some 124) (v := ?_) (a' := ?_) (bl 24 63) rfl rfl (any_of HT_.out (by kernel_rfl)) (fun _ _ _ h => h) (Or.inl ⟨by rfl, ?_⟩) ?_ ?_
         rotate_left
         ·intro w'
          go_simp
          with_reducible rfl
         rotate_left
         ·simp only [puts_]
          rfl
         refine pure_ (i := 6) (N := some 125) (v := undef) (a' := ?_) (bl 24 127) rfl rfl (any_of HT_.out (by kernel_rfl)) (fun _ _ _ h => h) (Or.inr ⟨by rfl, rfl⟩) ?_ ?_
         rotate_left
         ·simp only [puts_]
          rfl
         refine pure_ (i := 7) (N := some 126) (v := undef) (a' := ?_) (bl 24 255) rfl rfl (any_of HT_.out (by kernel_rfl)) (fun _ _ _ h => h) (Or.inr ⟨by rfl, rfl⟩) ?_ ?_
         rotate_left
         ·simp only [puts_]
          rfl
         refine pure_ (i := 8) (N := some 127) (v := undef) (a' := ?_) (bl 24 511) rfl rfl (any_of HT_.out (by kernel_rfl)) (fun _ _ _ h => h) (Or.inr ⟨by rfl, rfl⟩) ?_ ?_
         rotate_left
         ·simp only [puts_]
          rfl
         refine pure_ (i := 9) (N := some 128) (v := undef) (a' := ?_) (bl 24 1023) rfl rfl (any_of HT_.out (by kernel_rfl)) (fun _ _ _ h => h) (Or.inr ⟨by rfl, rfl⟩) ?_ ?_
         rotate_left
         ·simp only [puts_]
          rfl
         refine pure_ (i := 10) (N := some 129) (v := undef) (a' := ?_) (bl 24 2047) rfl rfl (any_of HT_.out (by kernel_rfl)) (fun _ _ _ h => h) (Or.inr ⟨by rfl, rfl⟩) ?_ ?_
         rotate_left
         ·simp only [puts_]
          rfl
         refine pure_ (i := 11) (N := some 130) (v := undef) (a' := ?_) (bl 24 4095) rfl rfl (any_of HT_.out (by kernel_rfl)) (fun _ _ _ h => h) (Or.inr ⟨by rfl, rfl⟩) ?_ ?_
         rotate_left
         ·simp only [puts_]
          rfl
         refine pure_ (i := 12) (N := some 131) (v := undef) (a' := ?_) (bl 24 8191) rfl rfl (any_of HT_.out (by kernel_rfl)) (fun _ _ _ h => h) (Or.inr ⟨by rfl, rfl⟩) ?_ ?_
         rotate_left
         ·simp only [puts_]
          rfl
         refine pure_ (i := 13) (N := some 132) (v := undef) (a' := ?_) (bl 24 16383) rfl rfl (any_of HT_.out (by kernel_rfl)) (fun _ _ _ h => h) (Or.inr ⟨by rfl, rfl⟩) ?_ ?_
         rotate_left
         ·simp only [puts_]
          rfl
         refine pure_ (i := 14) (N := some 133) (v := undef) (a' := ?_) (bl 24 32767) rfl rfl (any_of HT_.out (by kernel_rfl)) (fun _ _ _ h => h) (Or.inr ⟨by rfl, rfl⟩) ?_ ?_
         rotate_left
         ·simp only [puts_]
          rfl
         refine pure_ (i := 15) (N := some 134) (v := undef) (a' := ?_) (bl 24 65535) rfl rfl (any_of HT_.out (by kernel_rfl)) (fun _ _ _ h => h) (Or.inr ⟨by rfl, rfl⟩) ?_ ?_
         rotate_left
         ·simp only [puts_]
          rfl
         refine pure_ (i := 16) (N := some 135) (v := undef) (a' := ?_) (bl 24 131071) rfl rfl (any_of HT_.out (by kernel_rfl)) (fun _ _ _ h => h) (Or.inr ⟨by rfl, rfl⟩) ?_ ?_
         rotate_left
         ·simp only [puts_]
          rfl
         refine pure_ (i := 17) (N := some 136) (v := undef) (a' := ?_) (bl 24 262143) rfl rfl (any_of HT_.out (by kernel_rfl)) (fun _ _ _ h => h) (Or.inr ⟨by rfl, rfl⟩) ?_ ?_
         rotate_left
         ·simp only [puts_]
          rfl
         refine pure_ (i := 18) (N := some 137) (v := undef) (a' := ?_) (bl 24 524287) rfl rfl (any_of HT_.out (by kernel_rfl)) (fun _ _ _ h => h) (Or.inr ⟨by rfl, rfl⟩) ?_ ?_
         rotate_left
         ·simp only [puts_]
          rfl
         refine pure_ (i := 19) (N := some 138) (v := undef) (a' := ?_) (bl 24 1048575) rfl rfl (any_of HT_.out (by kernel_rfl)) (fun _ _ _ h => h) (Or.inr ⟨by rfl, rfl⟩) ?_ ?_
         rotate_left
         ·simp only [puts_]
          rfl
         refine pure_ (i := 20) (N := some 139) (v := undef) (a' := ?_) (bl 24 2097151) rfl rfl (any_of HT_.out (by kernel_rfl)) (fun _ _ _ h => h) (Or.inr ⟨by rfl, rfl⟩) ?_ ?_
         rotate_left
         ·simp only [puts_]
          rfl
         refine pure_ (i := 21) (N := some 140) (v := undef) (a' := ?_) (bl 24 4194303) rfl rfl (any_of HT_.out (by kernel_rfl)) (fun _ _ _ h => h) (Or.inr ⟨by rfl, rfl⟩) ?_ ?_
         rotate_left
         ·simp only [puts_]
          rfl
         refine pure_ (i := 22) (N := some 141) (v := undef) (a' := ?_) (bl 24 8388607) rfl rfl (any_of HT_.out (by kernel_rfl)) (fun _ _ _ h => h) (Or.inr ⟨by rfl, rfl⟩) ?_ ?_
         rotate_left
         ·simp only [puts_]
          rfl
         refine pure_ (i := 23) (N := some 142) (v := ?_) (a' := ?_) (bl 24 16777215) rfl rfl (any_of HT_.out (by kernel_rfl)) (fun _ _ _ h => h) (Or.inl ⟨by rfl, ?_⟩) ?_ ?_
         rotate_left
         ·intro w'
          go_simp
          with_reducible rfl
         rotate_left
         ·simp only [puts_]
          rfl
         refine done_ (done_of HT_.out (by kernel_rfl)) ?_
         try go_wp2
         go_roundg k2
         case measure => have := HK1.out; have := HK2.out; omega
         case rel => exact ⟨(wrap64 (x15_2 + 1)), (by first | rfl | (simp; done) | (simp [*]; done)), H', ⟨by have := HK1.out; have := HK2.out; omega⟩, ⟨by (with_reducible repeat (first | apply Kd.R_alloc | apply Kd.R_drewN | apply Kd.R_drew)); exact HO_8.out⟩, ⟨by (with_reducible repeat (first | refine blk_drewN ?_ _ | refine blk_drew ?_ | refine blk_alloc ?_ _)); exact BK335.out⟩, ⟨by repeat (first | (with_reducible first | exact HB.out | apply below_alloc | apply pw_below_drewN | apply below_drew1 | refine below_set ?_ GE335.out) | exact HB.out)⟩⟩
       ·rw [if_neg c38] at H
        have c38b0 : decide (x15_2 < (t345.length : Int)) = false := decide_eq_false c38
        clear c38
        by_cases c46 : (t345.length : Int) = (l1.length : Int)
        ·rw [if_pos c46] at H
         have c46b0 : ((t345.length : Int) == (l1.length : Int)) = true := beq_iff_eq.mpr c46
         have c46b1 : ((t345.length : Int) != (l1.length : Int)) = false := bne_eq_false_iff_eq.mpr c46
         have c46b2 : (t345.length == l1.length) = true := by first | simpa using c46 | (simp at c46 ⊢; omega)
         clear c46
         by_cases c47 : t346 ≥ 0
         ·rw [if_pos c47] at H
          have c47b0 : decide (0 ≤ t346) = true := decide_eq_true c47
          clear c47
          by_cases c48 : t346 ≤ (wrap64 (Int.tdiv ji7 4))
          ·rw [if_pos c48] at H
           have c48b0 : decide (t346 ≤ (wrap64 (Int.tdiv ji7 4))) = true := decide_eq_true c48
           have c48x0 : decide (t346 ≤ ji7 / 4) = true := by have u_ : 0 ≤ ji7 ∧ ji7 ≤ 17179869184 := (by rw [← hji7, ← hji6]; unfold mx mn; (repeat' split) <;> omega); have e_ : wrap64 (Int.tdiv ji7 4) = ji7 / 4 := (by rw [Int.tdiv_eq_ediv_of_nonneg u_.1]; unfold wrap64; omega); rw [← e_]; exact c48b0
           clear c48
           by_cases c49 : x10_1 ≤ ji7
           ·rw [if_pos c49] at H
            have c49b0 : decide (x10_1 ≤ ji7) = true := decide_eq_true c49
            clear c49
            by_cases c50 : x10_1 = ji7
            ·rw [if_pos c50] at H
             have c50b0 : (x10_1 == ji7) = true := beq_iff_eq.mpr c50
             have c50b1 : (x10_1 != ji7) = false := bne_eq_false_iff_eq.mpr c50
             clear c50
             replace H := Option.bind_eq_some_iff.mp H
             obtain ⟨t361, A510, H⟩ := H
             replace H : (some t361) = some r := H
             have A51 := Aside0.mk A510
             clear A510
             obtain rfl := Option.some.inj H
             go_wp2_with (first | (go_at_call 13; (with_reducible refine (flywheellaw27_wakes.calls k2  t361 _ A51.out).mono ?_); rintro e w52 ⟨rfl, hb⟩; have n0_ := Aside0.mk (Kd.R_below (by (with_reducible repeat (first | apply Kd.R_alloc | apply Kd.R_drewN | apply Kd.R_drew)); exact HO_8.out) hb); have n1_ := Aside0.mk (blk_below (g := gb335) (o := .cells #[.int .i64 a2_0, .int .i64 a2_1] 57 (0, 0)) (by (with_reducible repeat (first | refine blk_drewN ?_ _ | refine blk_drew ?_ | refine blk_alloc ?_ _)); exact BK335.out) hb); have n2_ := Aside0.mk (below_step (by repeat (first | (with_reducible first | exact HB.out | apply below_alloc | apply pw_below_drewN | apply below_drew1 | refine below_set ?_ GE335.out) | exact HB.out)) hb); clear HO_8; clear BK335; clear HB; have HO_8 := n0_; have BK335 := n1_; have HB := n2_; clear n0_ n1_ n2_; (try clear hb); (try clear hb2); (try clear hk); (try clear hi)))
             go_ret
             exact ⟨by first | rfl | (simp [errW_none, errW_some] <;> rfl) | (simp only [← hji6, ← hji7]; first | rfl | (simp [errW_none, errW_some] <;> rfl)) | (simp [*, errW_none, errW_some] <;> rfl), by repeat (first | (with_reducible first | exact HB.out | apply below_alloc | apply pw_below_drewN | apply below_drew1 | refine below_set ?_ GE335.out) | exact HB.out)⟩
            ·rw [if_neg c50] at H
             have c50b0 : (x10_1 == ji7) = false := beq_eq_false_iff_ne.mpr c50
             have c50b1 : (x10_1 != ji7) = true := bne_iff_ne.mpr c50
             by_cases c53 : (wrap64 (x10_1 - t346)) = x12_1
             ·rw [if_pos c53] at H
              have c53b0 : ((wrap64 (x10_1 - t346)) == x12_1) = true := beq_iff_eq.mpr c53
              have c53b1 : ((wrap64 (x10_1 - t346)) != x12_1) = false := bne_eq_false_iff_eq.mpr c53
              clear c53
              replace H := Option.bind_eq_some_iff.mp H
              obtain ⟨t362, A540, H⟩ := H
              replace H : (some t362) = some r := H
              have A54 := Aside0.mk A540
              clear A540
              obtain rfl := Option.some.inj H
              go_wp2_with (first | (go_at_call 13; (with_reducible refine (flywheellaw27_wakes.calls k2  t362 _ A54.out).mono ?_); rintro e w55 ⟨rfl, hb⟩; have n0_ := Aside0.mk (Kd.R_below (by (with_reducible repeat (first | apply Kd.R_alloc | apply Kd.R_drewN | apply Kd.R_drew)); exact HO_8.out) hb); have n1_ := Aside0.mk (blk_below (g := gb335) (o := .cells #[.int .i64 a2_0, .int .i64 a2_1] 57 (0, 0)) (by (with_reducible repeat (first | refine blk_drewN ?_ _ | refine blk_drew ?_ | refine blk_alloc ?_ _)); exact BK335.out) hb); have n2_ := Aside0.mk (below_step (by repeat (first | (with_reducible first | exact HB.out | apply below_alloc | apply pw_below_drewN | apply below_drew1 | refine below_set ?_ GE335.out) | exact HB.out)) hb); clear HO_8; clear BK335; clear HB; have HO_8 := n0_; have BK335 := n1_; have HB := n2_; clear n0_ n1_ n2_; (try clear hb); (try clear hb2); (try clear hk); (try clear hi)))
              go_ret
              exact ⟨by first | rfl | (simp [errW_none, errW_some] <;> rfl) | (simp only [← hji6, ← hji7]; first | rfl | (simp [errW_none, errW_some] <;> rfl)) | (simp [*, errW_none, errW_some] <;> rfl), by repeat (first | (with_reducible first | exact HB.out | apply below_alloc | apply pw_below_drewN | apply below_drew1 | refine below_set ?_ GE335.out) | exact HB.out)⟩
             ·rw [if_neg c53] at H
              have c53b0 : ((wrap64 (x10_1 - t346)) == x12_1) = false := beq_eq_false_iff_ne.mpr c53
              have c53b1 : ((wrap64 (x10_1 - t346)) != x12_1) = true := bne_iff_ne.mpr c53
              obtain rfl := Option.some.inj H
              go_wp2
              go_ret
              exact ⟨by first | rfl | (simp [errW_none, errW_some] <;> rfl) | (simp only [← hji6, ← hji7]; first | rfl | (simp [errW_none, errW_some] <;> rfl)) | (simp [*, errW_none, errW_some] <;> rfl), by repeat (first | (with_reducible first | exact HB.out | apply below_alloc | apply pw_below_drewN | apply below_drew1 | refine below_set ?_ GE335.out) | exact HB.out)⟩
           ·rw [if_neg c49] at H
            have c49b0 : decide (x10_1 ≤ ji7) = false := decide_eq_false c49
            clear c49
            obtain rfl := Option.some.inj H
            go_wp2
            go_ret
            exact ⟨by first | rfl | (simp [errW_none, errW_some] <;> rfl) | (simp only [← hji6, ← hji7]; first | rfl | (simp [errW_none, errW_some] <;> rfl)) | (simp [*, errW_none, errW_some] <;> rfl), by repeat (first | (with_reducible first | exact HB.out | apply below_alloc | apply pw_below_drewN | apply below_drew1 | refine below_set ?_ GE335.out) | exact HB.out)⟩
          ·rw [if_neg c48] at H
           have c48b0 : decide (t346 ≤ (wrap64 (Int.tdiv ji7 4))) = false := decide_eq_false c48
           have c48x0 : decide (t346 ≤ ji7 / 4) = false := by have u_ : 0 ≤ ji7 ∧ ji7 ≤ 17179869184 := (by rw [← hji7, ← hji6]; unfold mx mn; (repeat' split) <;> omega); have e_ : wrap64 (Int.tdiv ji7 4) = ji7 / 4 := (by rw [Int.tdiv_eq_ediv_of_nonneg u_.1]; unfold wrap64; omega); rw [← e_]; exact c48b0
           clear c48
           obtain rfl := Option.some.inj H
           go_wp2
           go_ret
           exact ⟨by first | rfl | (simp [errW_none, errW_some] <;> rfl) | (simp only [← hji6, ← hji7]; first | rfl | (simp [errW_none, errW_some] <;> rfl)) | (simp [*, errW_none, errW_some] <;> rfl), by repeat (first | (with_reducible first | exact HB.out | apply below_alloc | apply pw_below_drewN | apply below_drew1 | refine below_set ?_ GE335.out) | exact HB.out)⟩
         ·rw [if_neg c47] at H
          have c47b0 : decide (0 ≤ t346) = false := decide_eq_false c47
          clear c47
          obtain rfl := Option.some.inj H
          go_wp2
          go_ret
          exact ⟨by first | rfl | (simp [errW_none, errW_some] <;> rfl) | (simp only [← hji6, ← hji7]; first | rfl | (simp [errW_none, errW_some] <;> rfl)) | (simp [*, errW_none, errW_some] <;> rfl), by repeat (first | (with_reducible first | exact HB.out | apply below_alloc | apply pw_below_drewN | apply below_drew1 | refine below_set ?_ GE335.out) | exact HB.out)⟩
        ·rw [if_neg c46] at H
         have c46b0 : ((t345.length : Int) == (l1.length : Int)) = false := beq_eq_false_iff_ne.mpr c46
         have c46b1 : ((t345.length : Int) != (l1.length : Int)) = true := bne_iff_ne.mpr c46
         have c46b2 : (t345.length == l1.length) = false := by first | simpa using c46 | (simp at c46 ⊢; omega)
         obtain rfl := Option.some.inj H
         go_wp2
         go_ret
         exact ⟨by first | rfl | (simp [errW_none, errW_some] <;> rfl) | (simp only [← hji6, ← hji7]; first | rfl | (simp [errW_none, errW_some] <;> rfl)) | (simp [*, errW_none, errW_some] <;> rfl), by repeat (first | (with_reducible first | exact HB.out | apply below_alloc | apply pw_below_drewN | apply below_drew1 | refine below_set ?_ GE335.out) | exact HB.out)⟩
 ·replace c5 := Bool.eq_false_iff.mpr c5
  subst c5
  have H1 : ((flywheellaw27_few.f l1).bind fun t337 => ((alloc_Split.nilres.f k a0 t337).bind fun t340 => ((flywheellaw27_wakes.f k).bind fun t341 => (some t341)))) = some r := by rw [if_neg (show ¬ (false = true) by decide)] at H; exact H
  clear H
  have H := H1
  clear H1
  replace H := Option.bind_eq_some_iff.mp H
  obtain ⟨t337, A560, H⟩ := H
  replace H : ((alloc_Split.nilres.f k a0 t337).bind fun t340 => ((flywheellaw27_wakes.f k).bind fun t341 => (some t341))) = some r := H
  have A56 := Aside0.mk A560
  clear A560
  replace H := Option.bind_eq_some_iff.mp H
  obtain ⟨t340, A570, H⟩ := H
  replace H : ((flywheellaw27_wakes.f k).bind fun t341 => (some t341)) = some r := H
  have A57 := Aside0.mk A570
  clear A570
  replace H := Option.bind_eq_some_iff.mp H
  obtain ⟨t341, A580, H⟩ := H
  replace H : (some t341) = some r := H
  have A58 := Aside0.mk A580
  clear A580
  obtain rfl := Option.some.inj H
  go_enter Try.func11, Try.ntmps11
  go_wp2_with (first | ((with_reducible refine gate_dst (N := 5) rfl ?_); refine box_event ?hg (N := 5) ?hd (cs := #[.int .i64 a2_0, .int .i64 a2_1]) (t := 57) ?hr ?_; (case hd => rfl); (case hg => rfl); (case hr => first | (go_simp; done) | (go_simp; rfl)); intro gb335 hg w59 hbox hb; have n0_ := Aside0.mk (below_step (by repeat (first | (with_reducible first | exact HB.out | apply below_alloc | apply pw_below_drewN | apply below_drew1) | exact HB.out)) hb); have n1_ := Aside0.mk (hbox); have n2_ := Aside0.mk ((by rw [hg]; exact (below_size (by repeat (first | (with_reducible first | exact HB.out | apply below_alloc | apply pw_below_drewN | apply below_drew1) | exact HB.out))) : w.heap.size ≤ gb335)); have n3_ := Aside0.mk ((by rw [hg]; exact (below_size (by repeat (first | (with_reducible first | exact HB.out | apply below_alloc | apply pw_below_drewN | apply below_drew1) | exact HB.out))) : w.heap.size ≤ gb335)); clear HB; have HB := n0_; have BK335 := n1_; have GW335 := n2_; have GE335 := n3_; clear n0_ n1_ n2_ n3_; clear hb hbox hg) | ((with_reducible refine gate_callee (f := 16) rfl ?_); refine goesL_ (some 17) rfl rfl Try.func16 (by kernel_rfl) rfl #[.slice A1 l1.length c1] rfl (by (try simp only [List.map_toArray, List.map_cons, List.map_nil]); first | done | rfl | (simp only [List.length_drop, List.length_take]; rfl)) ?_; (with_reducible refine (flywheelref27_Good.calls k _ _ l1 false _ ?side1 ?side2 A4.out).mono ?_); (case side1 => repeat (first | exact (Kd.C_below HR1.out HB.out) | (with_reducible refine Kd.C_alloc ?_ _) | (with_reducible refine Kd.C_drewN ?_ _) | (with_reducible refine Kd.C_drew ?_))); (case side2 => exact HC1.out); rintro e w' ⟨rfl, ⟨nd, rfl⟩⟩; refine ⟨_, rfl, ?_⟩) | ((with_reducible refine gate_callee (f := 15) rfl ?_); refine goesL_ (some 21) rfl rfl Try.func15 (by kernel_rfl) rfl #[.slice A1 l1.length c1] rfl (by (try simp only [List.map_toArray, List.map_cons, List.map_nil]); first | done | rfl | (simp only [List.length_drop, List.length_take]; rfl)) ?_; (with_reducible refine (flywheellaw27_few.calls _ _ l1 t337 _ ?side1 ?side2 A56.out).mono ?_); (case side1 => repeat (first | exact (Kd.C_below HR1.out (by repeat (first | (with_reducible first | exact HB.out | apply below_alloc | apply pw_below_drewN | apply below_drew1 | refine below_set ?_ GE335.out) | exact HB.out))) | (with_reducible refine Kd.C_alloc ?_ _) | (with_reducible refine Kd.C_drewN ?_ _) | (with_reducible refine Kd.C_drew ?_))); (case side2 => exact HC1.out); rintro e w60 ⟨v338, rfl, ho0, hb⟩; refine ⟨_, rfl, ?_⟩; have n0_ := Aside0.mk (Kd.R_lower ho0 (below_size (by repeat (first | (with_reducible first | exact HB.out | apply below_alloc | apply pw_below_drewN | apply below_drew1 | refine below_set ?_ GE335.out) | exact HB.out)))); have n1_ := Aside0.mk (blk_below (g := gb335) (o := .cells #[.int .i64 a2_0, .int .i64 a2_1] 57 (0, 0)) (by (with_reducible repeat (first | refine blk_drewN ?_ _ | refine blk_drew ?_ | refine blk_alloc ?_ _)); exact BK335.out) hb); have n2_ := Aside0.mk (below_step (by repeat (first | (with_reducible first | exact HB.out | apply below_alloc | apply pw_below_drewN | apply below_drew1 | refine below_set ?_ GE335.out) | exact HB.out)) hb); clear BK335; clear HB; have HO339 := n0_; have BK335 := n1_; have HB := n2_; clear n0_ n1_ n2_; (try clear hb); (try clear hb2); (try clear hk); (try clear hi); (try clear ho0); obtain ⟨Ao61, co61, eo61⟩ := Kd.R_slice HO339.out; subst eo61) | ((with_reducible refine gate_callee (f := 18) rfl ?_); refine goesL_ (some 22) rfl rfl Try.func18 (by kernel_rfl) rfl #[.int .i64 a0, .slice Ao61 t337.length co61] rfl (by (try simp only [List.map_toArray, List.map_cons, List.map_nil]); first | done | rfl | (simp only [List.length_drop, List.length_take]; rfl)) ?_; (with_reducible refine (alloc_Split.nilres.calls k a0 _ _ t337 t340 _ ?side1 ?side2 A57.out).mono ?_); (case side1 => repeat (first | exact (Kd.R_reads' HO339.out).2.2 | (with_reducible refine Kd.C_alloc ?_ _) | (with_reducible refine Kd.C_drewN ?_ _) | (with_reducible refine Kd.C_drew ?_))); (case side2 => exact (Kd.R_reads' HO339.out).2.1); rintro e w62 ⟨rfl, hb⟩; refine ⟨_, rfl, ?_⟩; have n0_ := Aside0.mk (Kd.R_below (by (with_reducible repeat (first | apply Kd.R_alloc | apply Kd.R_drewN | apply Kd.R_drew)); exact HO339.out) hb); have n1_ := Aside0.mk (blk_below (g := gb335) (o := .cells #[.int .i64 a2_0, .int .i64 a2_1] 57 (0, 0)) (by (with_reducible repeat (first | refine blk_drewN ?_ _ | refine blk_drew ?_ | refine blk_alloc ?_ _)); exact BK335.out) hb); have n2_ := Aside0.mk (below_step (by repeat (first | (with_reducible first | exact HB.out | apply below_alloc | apply pw_below_drewN | apply below_drew1 | refine below_set ?_ GE335.out) | exact HB.out)) hb); clear HO339; clear BK335; clear HB; have HO339 := n0_; have BK335 := n1_; have HB := n2_; clear n0_ n1_ n2_; (try clear hb); (try clear hb2); (try clear hk); (try clear hi)) | (go_at_call 13; (with_reducible refine (flywheellaw27_wakes.calls k  t341 _ A58.out).mono ?_); rintro e w63 ⟨rfl, hb⟩; have n0_ := Aside0.mk (Kd.R_below (by (with_reducible repeat (first | apply Kd.R_alloc | apply Kd.R_drewN | apply Kd.R_drew)); exact HO339.out) hb); have n1_ := Aside0.mk (blk_below (g := gb335) (o := .cells #[.int .i64 a2_0, .int .i64 a2_1] 57 (0, 0)) (by (with_reducible repeat (first | refine blk_drewN ?_ _ | refine blk_drew ?_ | refine blk_alloc ?_ _)); exact BK335.out) hb); have n2_ := Aside0.mk (below_step (by repeat (first | (with_reducible first | exact HB.out | apply below_alloc | apply pw_below_drewN | apply below_drew1 | refine below_set ?_ GE335.out) | exact HB.out)) hb); clear HO339; clear BK335; clear HB; have HO339 := n0_; have BK335 := n1_; have HB := n2_; clear n0_ n1_ n2_; (try clear hb); (try clear hb2); (try clear hk); (try clear hi)))
  go_ret
  exact ⟨by first | rfl | (simp [errW_none, errW_some] <;> rfl) | (simp [*, errW_none, errW_some] <;> rfl), by repeat (first | (with_reducible first | exact HB.out | apply below_alloc | apply pw_below_drewN | apply below_drew1 | refine below_set ?_ GE335.out) | exact HB.out)⟩
def flywheellaw27_AllocSums.Pure : Prop := ∀ (a0 : Int) (l1 : List (S31)) (a2_0 : Int) (a2_1 : Int), (Lit.int .i64 a0).wf = true → l1.length ≤ maxLen → l1.length * 24 ≤ 140737488351232 → (∀ x ∈ l1, (Lit.int .i64 x.f0).wf = true ∧ (Lit.int .i64 x.f1).wf = true ∧ (Lit.int .i64 x.f2).wf = true) → (Lit.int .i64 a2_0).wf = true → (Lit.int .i64 a2_1).wf = true → ∃ k, flywheellaw27_AllocSums.f k a0 l1 a2_0 a2_1 = some true
theorem flywheellaw27_AllocSums.walk (P : flywheellaw27_AllocSums.Pure) (a0 : Int) (A1 : Option Addr) (c1 : Nat) (l1 : List (S31)) (a2_0 : Int) (a2_1 : Int) (w : World) (w0 : (Lit.int .i64 a0).wf = true) (hm1 : l1.length ≤ maxLen) (y1 : l1.length * 24 ≤ 140737488351232) (hw1 : (∀ x ∈ l1, (Lit.int .i64 x.f0).wf = true ∧ (Lit.int .i64 x.f1).wf = true ∧ (Lit.int .i64 x.f2).wf = true)) (w2_0 : (Lit.int .i64 a2_0).wf = true) (w2_1 : (Lit.int .i64 a2_1).wf = true) (hr1 : Kd.C k31 w A1 l1.length l1) (hc1 : l1.length ≤ c1) :
  Calls Try.prog 11 #[.int .i64 a0, .slice A1 l1.length c1, .agg #[.int .i64 a2_0, .int .i64 a2_1]] w fun e w' => e = .returned (.bool true) ∧ Below w.heap.size w w' := by
 obtain ⟨k, h⟩ := P a0 l1 a2_0 a2_1 w0 hm1 y1 hw1 w2_0 w2_1
 refine (flywheellaw27_AllocSums.calls k a0 A1 c1 l1 a2_0 a2_1 true w hr1 hc1 h).mono ?_
 rintro e w' ⟨rfl, hd⟩
 exact ⟨rfl, hd⟩
end Go.Proofs.Ytlgfnclgkhfhpaa.P
end

section
namespace Go.Proofs.Ytlgfnclgkhfhpaa.P
open Go.RowKit Go.Proofs.YtlgfnclgkhfhpaaW.PrintWords Go.Proofs.YtlgfnclgkhfhpaaW.PrintLast Go.Proofs.YtlgfnclgkhfhpaaW.PrintMore
attribute [local go_sem] max2_int min2_int max_two min_two max_three min_three max_four min_four   -- for this text's walks alone
set_option linter.unusedVariables false
set_option linter.unusedSimpArgs false
end Go.Proofs.Ytlgfnclgkhfhpaa.P
end

section
namespace Go.Proofs.Ytlgfnclgkhfhpaa.P
open Go.RowKit Go.Proofs.YtlgfnclgkhfhpaaW.PrintWords Go.Proofs.YtlgfnclgkhfhpaaW.PrintLast Go.Proofs.YtlgfnclgkhfhpaaW.PrintMore
attribute [local go_sem] max2_int min2_int max_two min_two max_three min_three max_four min_four   -- for this text's walks alone
set_option linter.unusedVariables false
set_option linter.unusedSimpArgs false
end Go.Proofs.Ytlgfnclgkhfhpaa.P
end

section
namespace Go.Proofs.Ytlgfnclgkhfhpaa.P
open Go.RowKit Go.Proofs.YtlgfnclgkhfhpaaW.PrintWords Go.Proofs.YtlgfnclgkhfhpaaW.PrintLast Go.Proofs.YtlgfnclgkhfhpaaW.PrintMore
attribute [local go_sem] max2_int min2_int max_two min_two max_three min_three max_four min_four   -- for this text's walks alone
set_option linter.unusedVariables false
set_option linter.unusedSimpArgs false
end Go.Proofs.Ytlgfnclgkhfhpaa.P
end

section
namespace Go.Proofs.Ytlgfnclgkhfhpaa.P
open Go.RowKit
set_option linter.unusedVariables false
set_option linter.unusedSimpArgs false
end Go.Proofs.Ytlgfnclgkhfhpaa.P
end

section
namespace Go.Proofs.Ytlgfnclgkhfhpaa.P
open Go.RowKit
set_option linter.unusedVariables false
set_option linter.unusedSimpArgs false
theorem clamp_eq (a lo hi : Int) : sat_Clamp.f a lo hi = some (if a < lo then lo else if a > hi then hi else a) := by
  unfold sat_Clamp.f
  split
  · rfl
  · split <;> rfl
end Go.Proofs.Ytlgfnclgkhfhpaa.P
end

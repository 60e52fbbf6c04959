-- PUT TOGETHER by a program of this session: of the claim's texts, what is used
import Derived.Test.YtlgfnclgkhfhpaaKAllocOne7
section
namespace Go.Proofs.Ytlgfnclgkhfhpaa.P
open Go.RowKit Go.Proofs.YtlgfnclgkhfhpaaW.PrintWords Go.Proofs.YtlgfnclgkhfhpaaW.PrintLast Go.Proofs.YtlgfnclgkhfhpaaW.PrintMore
attribute [local go_sem] max2_int min2_int max_two min_two max_three min_three max_four min_four   -- for this text's walks alone
set_option linter.unusedVariables false
set_option linter.unusedSimpArgs false
mutual
def alloc_Split.l0 : Nat → List (S31) → Int → List Int → List (S31) → Int → Int → Option (List Int)
 | 0, _, _, _, _, _, _ => none
 | k + 1, x1, x5, x6, x17, x18, x19 => if x19 < x18 then (if 0 ≤ x19 then (if x19 < (x17.length : Int) then (if x6.length < 17592186044416 then (alloc_Split.l0 k x1 (wrap64 (x5 - (mn ((rd_T31 x17 x19).f1) x5))) (x6 ++ [mn ((rd_T31 x17 x19).f1) x5]) x17 x18 (wrap64 (x19 + 1))) else (none)) else (none)) else (none)) else (alloc_Split.l1 k x1 x5 x6)
def alloc_Split.l1 : Nat → List (S31) → Int → List Int → Option (List Int)
 | 0, _, _, _ => none
 | k + 1, x1, x5, x6 => (alloc_round.f k x5 x1 x6).bind fun bt137 => (if bt137.2.1 = true then (if (wrap64 (x5 - bt137.1)) > 0 then (alloc_Split.l1 k x1 (wrap64 (x5 - bt137.1)) bt137.2.2) else (some bt137.2.2)) else (some bt137.2.2))
end
def alloc_Split.f (k : Nat) (a0 : Int) (l1 : List (S31)) : Option (List Int) := (alloc_Good.f k l1).bind fun t130 => (if t130 = true then ((sat_Clamp.f a0 0 17179869184).bind fun t131 => (alloc_Split.l0 k l1 t131 ([] : List Int) l1 (l1.length : Int) 0)) else (some ([] : List Int)))
theorem alloc_Split.mono_l : ∀ k, (∀ y0 y1 y2 y3 y4 y5, LeO (alloc_Split.l0 k y0 y1 y2 y3 y4 y5) (alloc_Split.l0 (k + 1) y0 y1 y2 y3 y4 y5)) ∧ (∀ y0 y1 y2, LeO (alloc_Split.l1 k y0 y1 y2) (alloc_Split.l1 (k + 1) y0 y1 y2))
 | 0 => ⟨fun _ _ _ _ _ _ r h => by simp [alloc_Split.l0] at h, fun _ _ _ r h => by simp [alloc_Split.l1] at h⟩
 | k + 1 => by
  obtain ⟨ih0, ih1⟩ := alloc_Split.mono_l k
  refine ⟨?_, ?_⟩
  ·intro y0 y1 y2 y3 y4 y5
   unfold alloc_Split.l0
   repeat' first
   | (with_reducible exact ih0 _ _ _ _ _ _)
   | (with_reducible exact ih1 _ _ _)
   | (with_reducible exact alloc_Good.mono _ _)
   | (with_reducible exact alloc_round.mono _ _ _ _)
   | (with_reducible exact LeO.refl _)
   | (with_reducible exact LeO.none _)
   | (with_reducible refine LeO.ite ?_ ?_)
   | (with_reducible refine LeO.bind ?_ (fun _ => ?_))
   | exact ih0 _ _ _ _ _ _
   | exact ih1 _ _ _
   | exact alloc_Good.mono _ _
   | exact alloc_round.mono _ _ _ _
   | exact LeO.none _
   | refine LeO.ite ?_ ?_
   | refine LeO.bind ?_ (fun _ => ?_)
  ·intro y0 y1 y2
   unfold alloc_Split.l1
   repeat' first
   | (with_reducible exact ih0 _ _ _ _ _ _)
   | (with_reducible exact ih1 _ _ _)
   | (with_reducible exact alloc_Good.mono _ _)
   | (with_reducible exact alloc_round.mono _ _ _ _)
   | (with_reducible exact LeO.refl _)
   | (with_reducible exact LeO.none _)
   | (with_reducible refine LeO.ite ?_ ?_)
   | (with_reducible refine LeO.bind ?_ (fun _ => ?_))
   | exact ih0 _ _ _ _ _ _
   | exact ih1 _ _ _
   | exact alloc_Good.mono _ _
   | exact alloc_round.mono _ _ _ _
   | exact LeO.none _
   | refine LeO.ite ?_ ?_
   | refine LeO.bind ?_ (fun _ => ?_)
theorem alloc_Split.mono : ∀ a0 a1 k, LeO (alloc_Split.f k a0 a1) (alloc_Split.f (k + 1) a0 a1) := by
 intro a0 a1 k
 obtain ⟨ih0, ih1⟩ := alloc_Split.mono_l k
 unfold alloc_Split.f
 repeat' first
   | (with_reducible exact ih0 _ _ _ _ _ _)
   | (with_reducible exact ih1 _ _ _)
   | (with_reducible exact alloc_Good.mono _ _)
   | (with_reducible exact alloc_round.mono _ _ _ _)
   | (with_reducible exact LeO.refl _)
   | (with_reducible exact LeO.none _)
   | (with_reducible refine LeO.ite ?_ ?_)
   | (with_reducible refine LeO.bind ?_ (fun _ => ?_))
   | exact ih0 _ _ _ _ _ _
   | exact ih1 _ _ _
   | exact alloc_Good.mono _ _
   | exact alloc_round.mono _ _ _ _
   | exact LeO.none _
   | refine LeO.ite ?_ ?_
   | refine LeO.bind ?_ (fun _ => ?_)
set_option maxHeartbeats 8000000 in
set_option maxRecDepth 100000 in
theorem alloc_Split.calls (k : Nat) (a0 : Int) (A1 : Option Addr) (c1 : Nat) (l1 : List (S31)) (r : List Int) (w : World) (hr1 : Kd.C k31 w A1 l1.length l1) (hc1 : l1.length ≤ c1) (h : alloc_Split.f k a0 l1 = some r) :
  Calls Try.prog 18 #[.int .i64 a0, .slice A1 l1.length c1] w fun e w' => ∃ v0_ : Value, e = .returned (v0_) ∧ Kd.R (Kd.int .i64) 2 w' w.heap.size (fun _ => True) v0_ r ∧ Below w.heap.size w w' := by
 have hu31 := Try.underlying31
 have HR1 := Aside0.mk hr1
 have HC1 := Aside0.mk hc1
 clear hr1 hc1
 have HB := Aside0.mk (Below.refl w.heap.size w)
 have H : ((alloc_Good.f k l1).bind fun t130 => (if t130 = true then ((sat_Clamp.f a0 0 17179869184).bind fun t131 => (alloc_Split.l0 k l1 t131 ([] : List Int) l1 (l1.length : Int) 0)) else (some ([] : List Int)))) = some r := h
 clear h
 replace H := Option.bind_eq_some_iff.mp H
 obtain ⟨t130, A30, H⟩ := H
 replace H : (if t130 = true then ((sat_Clamp.f a0 0 17179869184).bind fun t131 => (alloc_Split.l0 k l1 t131 ([] : List Int) l1 (l1.length : Int) 0)) else (some ([] : List Int))) = some r := H
 have A3 := Aside0.mk A30
 clear A30
 by_cases c4 : t130 = true
 ·subst c4
  have H1 : ((sat_Clamp.f a0 0 17179869184).bind fun t131 => (alloc_Split.l0 k l1 t131 ([] : List Int) l1 (l1.length : Int) 0)) = some r := by rw [if_pos rfl] at H; exact H
  clear H
  have H := H1
  clear H1
  replace H := Option.bind_eq_some_iff.mp H
  obtain ⟨t131, A50, H⟩ := H
  replace H : (alloc_Split.l0 k l1 t131 ([] : List Int) l1 (l1.length : Int) 0) = some r := H
  have A5 := Aside0.mk A50
  clear A50
  have H' := Aside0.mk H
  clear H
  go_enter Try.func18, Try.ntmps18
  go_wp2
  obtain ⟨J_, hJ_⟩ : ∃ J_ : Nat → Act → World → Prop, J_ = (fun kq a_ w' => ∃ (x5_2 : Int) (x6_2 : List Int) (u2 u3 u4 u6 u7 u8 u9 u10 u11 u12 u13 u14 u15 u16 u17 u18 u19 u20 u21 u22 u23 u24 u25 u26 u27 u28 u29 u30 u31 u32 u33 u34 u35 u36 u37 u38 u39 u40 u41 u42 u43 u44 u45 u46 u47 u48 : Value), a_ = { tmps := #[.int .i64 a0, .slice A1 l1.length c1, u2, u3, u4, .int .i64 x5_2, u6, u7, u8, u9, u10, u11, u12, u13, u14, u15, u16, u17, u18, u19, u20, u21, u22, u23, u24, u25, u26, u27, u28, u29, u30, u31, u32, u33, u34, u35, u36, u37, u38, u39, u40, u41, u42, u43, u44, u45, u46, u47, u48], defers := [] } ∧ Aside0 (alloc_Split.l1 kq l1 x5_2 x6_2 = some r) ∧ Aside0 (kq ≤ k) ∧ Aside0 (Kd.R (Kd.int .i64) 2 w' w.heap.size (fun _ => True) u6 x6_2) ∧ Aside0 (Below w.heap.size w w')) := ⟨_, rfl⟩
  refine wp_scope_ghost2 0 J_ rfl ?pass (fun PASS0 => ?first)
  case pass =>
   intro gk a_ wr hJ
   rw [hJ_] at hJ
   obtain ⟨x5_2, x6_2, u2, u3, u4, u6, u7, u8, u9, u10, u11, u12, u13, u14, u15, u16, u17, u18, u19, u20, u21, u22, u23, u24, u25, u26, u27, u28, u29, u30, u31, u32, u33, u34, u35, u36, u37, u38, u39, u40, u41, u42, u43, u44, u45, u46, u47, u48, rfl, HA, HK2, HO_6, HB⟩ := hJ
   cases gk with
   | zero => exact absurd HA.out (by simp [alloc_Split.l1])
   | succ k2 =>
    have H := HA.out
    clear HA
    simp only [alloc_Split.l1] at H
    replace H := Option.bind_eq_some_iff.mp H
    obtain ⟨⟨t137, t138, t139⟩, A150, H⟩ := H
    replace H : (if t138 = true then (if (wrap64 (x5_2 - t137)) > 0 then (alloc_Split.l1 k2 l1 (wrap64 (x5_2 - t137)) t139) else (some t139)) else (some t139)) = some r := H
    have A15 := Aside0.mk A150
    clear A150
    by_cases c16 : t138 = true
    ·subst c16
     have H1 : (if (wrap64 (x5_2 - t137)) > 0 then (alloc_Split.l1 k2 l1 (wrap64 (x5_2 - t137)) t139) else (some t139)) = some r := by rw [if_pos rfl] at H; exact H
     clear H
     have H := H1
     clear H1
     by_cases c17 : (wrap64 (x5_2 - t137)) > 0
     ·rw [if_pos c17] at H
      have c17b0 : decide (0 < (wrap64 (x5_2 - t137))) = true := decide_eq_true c17
      clear c17
      have H' := Aside0.mk H
      clear H
      obtain ⟨Ao18, co18, eo18⟩ := Kd.R_slice HO_6.out
      subst eo18
      go_wp2_with (first | ((with_reducible refine gate_callee (f := 40) rfl ?_); refine goesL_ (some 39) rfl rfl Try.func40 (by kernel_rfl) rfl #[.int .i64 x5_2, .slice A1 l1.length c1, .slice Ao18 x6_2.length co18] rfl (by (try simp only [List.map_toArray, List.map_cons, List.map_nil]); first | done | rfl | (simp only [List.length_drop, List.length_take]; rfl)) ?_; (with_reducible refine (alloc_round.calls k2 x5_2 _ _ l1 (fun k_ => some k_ = (.slice Ao18 x6_2.length co18 : Value).ownBlock) (.slice Ao18 x6_2.length co18) x6_2 t137 true t139 w _ ?side1 ?side2 ?side3 ?side4 A15.out).mono ?_); (case side1 => repeat (first | (with_reducible first | exact HB.out | apply below_alloc | apply pw_below_drewN | apply below_drew1) | exact HB.out)); (case side2 => exact Kd.C_kept_came k31_heap HR1.out (by repeat (first | (with_reducible first | exact HB.out | apply below_alloc | apply pw_below_drewN | apply below_drew1) | exact HB.out)) (fun k_ hs_ => (fun e_ => Kd.R_base HO_6.out k_ e_.symm) hs_)); (case side3 => exact HC1.out); (case side4 => exact Kd.R_tight rfl HO_6.out); rintro e w19 ⟨rfl, hy0, hb, hkp⟩; refine ⟨_, rfl, ?_⟩; have n0_ := Aside0.mk (Kd.R_reok rfl hy0 (fun k_ e_ => HO_6.out.1 k_ e_)); have n1_ := Aside0.mk (hb); clear HO_6; clear HB; have HO_6 := n0_; have HB := n1_; clear n0_ n1_; (try clear hb); (try clear hkp); (try clear hy0)))
      go_step3
      refine ⟨rfl, k2, by omega, ?_⟩
      rw [hJ_]
      exact ⟨(wrap64 (x5_2 - t137)), (t139), _, _, _, _, _, _, _, _, _, _, _, _, _, _, _, _, _, _, _, _, _, _, _, _, _, _, _, _, _, _, _, _, _, _, _, _, _, _, _, _, _, _, _, _, _, _, rfl, H', ⟨by have := HK2.out; omega⟩, ⟨by (with_reducible repeat (first | apply Kd.R_alloc | apply Kd.R_drewN | apply Kd.R_drew)); exact HO_6.out⟩, ⟨by repeat (first | (with_reducible first | exact HB.out | apply below_alloc | apply pw_below_drewN | apply below_drew1) | exact HB.out)⟩⟩
     ·rw [if_neg c17] at H
      have c17b0 : decide (0 < (wrap64 (x5_2 - t137))) = false := decide_eq_false c17
      clear c17
      obtain rfl := Option.some.inj H
      obtain ⟨Ao20, co20, eo20⟩ := Kd.R_slice HO_6.out
      subst eo20
      go_wp2_with (first | ((with_reducible refine gate_callee (f := 40) rfl ?_); refine goesL_ (some 39) rfl rfl Try.func40 (by kernel_rfl) rfl #[.int .i64 x5_2, .slice A1 l1.length c1, .slice Ao20 x6_2.length co20] rfl (by (try simp only [List.map_toArray, List.map_cons, List.map_nil]); first | done | rfl | (simp only [List.length_drop, List.length_take]; rfl)) ?_; (with_reducible refine (alloc_round.calls k2 x5_2 _ _ l1 (fun k_ => some k_ = (.slice Ao20 x6_2.length co20 : Value).ownBlock) (.slice Ao20 x6_2.length co20) x6_2 t137 true t139 w _ ?side1 ?side2 ?side3 ?side4 A15.out).mono ?_); (case side1 => repeat (first | (with_reducible first | exact HB.out | apply below_alloc | apply pw_below_drewN | apply below_drew1) | exact HB.out)); (case side2 => exact Kd.C_kept_came k31_heap HR1.out (by repeat (first | (with_reducible first | exact HB.out | apply below_alloc | apply pw_below_drewN | apply below_drew1) | exact HB.out)) (fun k_ hs_ => (fun e_ => Kd.R_base HO_6.out k_ e_.symm) hs_)); (case side3 => exact HC1.out); (case side4 => exact Kd.R_tight rfl HO_6.out); rintro e w21 ⟨rfl, hy0, hb, hkp⟩; refine ⟨_, rfl, ?_⟩; have n0_ := Aside0.mk (Kd.R_reok rfl hy0 (fun k_ e_ => HO_6.out.1 k_ e_)); have n1_ := Aside0.mk (hb); clear HO_6; clear HB; have HO_6 := n0_; have HB := n1_; clear n0_ n1_; (try clear hb); (try clear hkp); (try clear hy0)))
      simp only [Exit.jump]
      go_ret
      exact ⟨_, by first | rfl | (simp [errW_none, errW_some] <;> rfl) | (simp [*, errW_none, errW_some] <;> rfl), by (with_reducible repeat (first | apply Kd.R_alloc | apply Kd.R_drewN | apply Kd.R_drew)); exact HO_6.out, by repeat (first | (with_reducible first | exact HB.out | apply below_alloc | apply pw_below_drewN | apply below_drew1) | exact HB.out)⟩
    ·replace c16 := Bool.eq_false_iff.mpr c16
     subst c16
     have H1 : (some t139) = some r := by rw [if_neg (show ¬ (false = true) by decide)] at H; exact H
     clear H
     have H := H1
     clear H1
     obtain rfl := Option.some.inj H
     obtain ⟨Ao22, co22, eo22⟩ := Kd.R_slice HO_6.out
     subst eo22
     go_wp2_with (first | ((with_reducible refine gate_callee (f := 40) rfl ?_); refine goesL_ (some 39) rfl rfl Try.func40 (by kernel_rfl) rfl #[.int .i64 x5_2, .slice A1 l1.length c1, .slice Ao22 x6_2.length co22] rfl (by (try simp only [List.map_toArray, List.map_cons, List.map_nil]); first | done | rfl | (simp only [List.length_drop, List.length_take]; rfl)) ?_; (with_reducible refine (alloc_round.calls k2 x5_2 _ _ l1 (fun k_ => some k_ = (.slice Ao22 x6_2.length co22 : Value).ownBlock) (.slice Ao22 x6_2.length co22) x6_2 t137 false t139 w _ ?side1 ?side2 ?side3 ?side4 A15.out).mono ?_); (case side1 => repeat (first | (with_reducible first | exact HB.out | apply below_alloc | apply pw_below_drewN | apply below_drew1) | exact HB.out)); (case side2 => exact Kd.C_kept_came k31_heap HR1.out (by repeat (first | (with_reducible first | exact HB.out | apply below_alloc | apply pw_below_drewN | apply below_drew1) | exact HB.out)) (fun k_ hs_ => (fun e_ => Kd.R_base HO_6.out k_ e_.symm) hs_)); (case side3 => exact HC1.out); (case side4 => exact Kd.R_tight rfl HO_6.out); rintro e w23 ⟨rfl, hy0, hb, hkp⟩; refine ⟨_, rfl, ?_⟩; have n0_ := Aside0.mk (Kd.R_reok rfl hy0 (fun k_ e_ => HO_6.out.1 k_ e_)); have n1_ := Aside0.mk (hb); clear HO_6; clear HB; have HO_6 := n0_; have HB := n1_; clear n0_ n1_; (try clear hb); (try clear hkp); (try clear hy0)))
     simp only [Exit.jump]
     go_ret
     exact ⟨_, by first | rfl | (simp [errW_none, errW_some] <;> rfl) | (simp [*, errW_none, errW_some] <;> rfl), by (with_reducible repeat (first | apply Kd.R_alloc | apply Kd.R_drewN | apply Kd.R_drew)); exact HO_6.out, by repeat (first | (with_reducible first | exact HB.out | apply below_alloc | apply pw_below_drewN | apply below_drew1) | exact HB.out)⟩
  case first =>
   have PASS := Aside0.mk PASS0
   clear PASS0
   go_wp2_with (first | ((with_reducible refine gate_callee (f := 14) rfl ?_); refine goesL_ (some 13) rfl rfl Try.func14 (by kernel_rfl) rfl #[.slice A1 l1.length c1] rfl (by (try simp only [List.map_toArray, List.map_cons, List.map_nil]); first | done | rfl | (simp only [List.length_drop, List.length_take]; rfl)) ?_; (with_reducible refine (alloc_Good.calls k _ _ l1 true _ ?side1 ?side2 A3.out).mono ?_); (case side1 => repeat (first | exact HR1.out | (with_reducible refine Kd.C_alloc ?_ _) | (with_reducible refine Kd.C_drewN ?_ _) | (with_reducible refine Kd.C_drew ?_))); (case side2 => exact HC1.out); rintro e w6 ⟨rfl, hb⟩; refine ⟨_, rfl, ?_⟩; have n0_ := Aside0.mk (below_step (by repeat (first | (with_reducible first | exact HB.out | apply below_alloc | apply pw_below_drewN | apply below_drew1) | exact HB.out)) hb); clear HB; have HB := n0_; clear n0_; (try clear hb); (try clear hb2); (try clear hk); (try clear hi)) | ((with_reducible refine gate_callee (f := 39) rfl ?_); refine goesL_ (some 16) rfl rfl Try.func39 (by kernel_rfl) rfl #[.int .i64 a0, .int .i64 0, .int .i64 17179869184] rfl (by (try simp only [List.map_toArray, List.map_cons, List.map_nil]); first | done | rfl | (simp only [List.length_drop, List.length_take]; rfl)) ?_; (with_reducible refine (sat_Clamp.calls a0 0 17179869184 t131 _ A5.out).mono ?_); rintro e w' ⟨rfl, ⟨nd, rfl⟩⟩; refine ⟨_, rfl, ?_⟩))
   go_loopg [5, 6, 19] k (fun kq v5 v6 v19 w' => ∃ (x5_1 : Int) (x6_1 : List Int) (x19_1 : Int), v5 = .int .i64 x5_1 ∧ v19 = .int .i64 x19_1 ∧ Aside0 (alloc_Split.l0 kq l1 x5_1 x6_1 l1 (l1.length : Int) x19_1 = some r) ∧ Aside0 (kq ≤ k) ∧ Aside0 (Kd.R (Kd.int .i64) 2 w' w.heap.size (fun _ => True) v6 x6_1) ∧ Aside0 (Below w.heap.size w w'))
   case atStart => exact ⟨(t131), (([] : List Int)), (0), (by first | rfl | (simp; done) | (simp [*]; done)), (by first | rfl | (simp; done) | (simp [*]; done)), H', ⟨Nat.le_refl _⟩, ⟨by first | exact Kd.R_nil _ _ _ _ _ | exact Kd.N_nil _ _ _ _ _ | exact Kd.V_nil _ _ _ _ _ | exact Kd.Q_nil _ _ _ _ _ | exact Kd.S_nil _ _ _ _ _⟩, ⟨by repeat (first | (with_reducible first | exact HB.out | apply below_alloc | apply pw_below_drewN | apply below_drew1) | exact HB.out)⟩⟩
   case round =>
    clear H'
    try clear c1
    try clear p2
    try clear c3
    try clear c4
    obtain ⟨x5_1, x6_1, x19_1, rfl, rfl, HA, HK1, HO_6, HB⟩ := hrel
    cases gk with
    | zero => exact absurd HA.out (by simp [alloc_Split.l0])
    | succ k1 =>
     have H := HA.out
     clear HA
     simp only [alloc_Split.l0] at H
     by_cases c7 : x19_1 < (l1.length : Int)
     ·rw [if_pos c7] at H
      have c7b0 : decide (x19_1 < (l1.length : Int)) = true := decide_eq_true c7
      clear c7
      by_cases c8 : 0 ≤ x19_1
      ·rw [if_pos c8] at H
       have c8b0 : decide (0 ≤ x19_1) = true := decide_eq_true c8
       clear c8
       by_cases c9 : x19_1 < (l1.length : Int)
       ·rw [if_pos c9] at H
        have c9b0 : decide (x19_1 < (l1.length : Int)) = true := decide_eq_true c9
        clear c9
        obtain ⟨ji10, hji10⟩ : ∃ j_ : Int, (mn ((rd_T31 l1 x19_1).f1) x5_1) = j_ := ⟨_, rfl⟩
        replace H : (if x6_1.length < 17592186044416 then (alloc_Split.l0 k1 l1 (wrap64 (x5_1 - (ji10))) (x6_1 ++ [ji10]) l1 (l1.length : Int) (wrap64 (x19_1 + 1))) else (none)) = some r := by first | (rw [hji10] at H; exact H) | (simp only [hji10] at H ⊢; exact H)
        have hji10_ : (if x5_1 < ((rd_T31 l1 x19_1).f1) then x5_1 else ((rd_T31 l1 x19_1).f1)) = ji10 := hji10
        by_cases c11 : x6_1.length < 17592186044416
        ·rw [if_pos c11] at H
         have LMc11 := Aside0.mk c11
         clear c11
         obtain ⟨y134, hy134⟩ : ∃ y_ : List Int, y_ = (x6_1 ++ [ji10]) := ⟨_, rfl⟩
         replace H : (alloc_Split.l0 k1 l1 (wrap64 (x5_1 - (ji10))) y134 l1 (l1.length : Int) (wrap64 (x19_1 + 1))) = some r := by first | (rw [hy134]; with_reducible exact H) | (have H2_ := (Option.bind_some _ _).symm.trans H; rw [hy134]; with_reducible exact H2_) | (have H2_ := (Option.bind_some _ _).symm.trans H; with_reducible exact H2_) | with_reducible exact H | (rw [hy134]; exact H) | exact H
         have Ny134 := Aside0.mk hy134
         clear hy134
         have H' := Aside0.mk H
         clear H
         have p132 : 0 ≤ (x19_1 : Int) := of_decide_eq_true (by first | (with_reducible assumption) | assumption)
         have q132 : x19_1 < (l1.length : Int) := of_decide_eq_true (by first | (with_reducible assumption) | assumption)
         obtain ⟨ad132, e132, hx132_0, hx132_1, hx132_2⟩ := at_T31 HR1.out x19_1 p132 q132
         cases e132
         replace hx132_0 := (HB.out.cell (World.block_lt_of_cell? w _ hx132_0)).trans hx132_0
         replace hx132_1 := (HB.out.cell (World.block_lt_of_cell? w _ hx132_1)).trans hx132_1
         replace hx132_2 := (HB.out.cell (World.block_lt_of_cell? w _ hx132_2)).trans hx132_2
         replace p132 := eq_true p132
         replace q132 := eq_true q132
         go_wp2_with (first | ((with_reducible refine gate_dst (N := 8) rfl ?_); refine box_event ?hg (N := 8) ?hd (cs := #[.int .i64 0, .int .i64 0, .int .i64 0]) (t := 31) ?hr ?_; (case hd => rfl); (case hg => rfl); (case hr => first | (go_simp; done) | (go_simp; rfl)); intro gb133 hg w12 hbox hb; have n0_ := Aside0.mk (Kd.R_below (by (with_reducible repeat (first | apply Kd.R_alloc | apply Kd.R_drewN | apply Kd.R_drew)); exact HO_6.out) hb); have n1_ := Aside0.mk (below_step (by repeat (first | (with_reducible first | exact HB.out | apply below_alloc | apply pw_below_drewN | apply below_drew1) | exact HB.out)) hb); have n2_ := Aside0.mk (hbox); have n3_ := Aside0.mk ((by rw [hg]; exact (below_size (by repeat (first | (with_reducible first | exact HB.out | apply below_alloc | apply pw_below_drewN | apply below_drew1) | exact HB.out))) : w.heap.size ≤ gb133)); have n4_ := Aside0.mk ((by rw [hg]; exact (below_size (by repeat (first | (with_reducible first | exact HB.out | apply below_alloc | apply pw_below_drewN | apply below_drew1) | exact HB.out))) : w.heap.size ≤ gb133)); clear HO_6; clear HB; have HO_6 := n0_; have HB := n1_; have BK133 := n2_; have GW133 := n3_; have GE133 := n4_; clear n0_ n1_ n2_ n3_ n4_; clear hb hbox hg; have hcz13_0 : w12.cell? ⟨gb133, 0, none⟩ = some (.int .i64 0) := (blk_cell BK133.out 0).trans rfl; have hcz13_1 : w12.cell? ⟨gb133, 1, none⟩ = some (.int .i64 0) := (blk_cell BK133.out 1).trans rfl; have hcz13_2 : w12.cell? ⟨gb133, 2, none⟩ = some (.int .i64 0) := (blk_cell BK133.out 2).trans rfl; have hfz13_0 := blk_frozen BK133.out 0; have hfz13_1 := blk_frozen BK133.out 1; have hfz13_2 := blk_frozen BK133.out 2) | ((with_reducible refine gate_builtin (b := .append) (xs := #[.tmp 27, .tmp 29]) rfl ?_); at_builtin; refine Kd.R_append (Kd.int .i64) (w0 := w) w.heap.size rfl (.tmp 27) (.tmp 29) 27 2 (.int .i64 0) 8 rfl Try.underlying27 info2 rfl (by decide) (by omega) u6 x6_1 ji10 [.int .i64 ji10] (fun _ => True) (fun _ => False) rfl (by first | (go_simp; done) | (go_simp; rfl)) ?aP (fun _ hk => hk.elim) ?aF ?aO ?aB ?aS ?aL ?_; (case aP => exact rfl); (case aB => exact (by repeat (first | (with_reducible first | exact HB.out | apply below_alloc | apply pw_below_drewN | apply below_drew1 | refine below_set ?_ GE133.out) | exact HB.out))); (case aF => exact (fun _ _ => trivial)); (case aO => exact (by (with_reducible repeat (first | apply Kd.R_alloc | apply Kd.R_drewN | apply Kd.R_drew)); exact Kd.R_mono (Kd.R_far (p := ⟨gb133, 2, none⟩) (Kd.R_far (p := ⟨gb133, 1, none⟩) (Kd.R_far (p := ⟨gb133, 0, none⟩) (Kd.R_types HO_6.out BK133.out (by decide)) (fun _ hk => hk.2) (.int .i64 ((rd_T31 l1 x19_1).f0))) (fun _ hk => hk.2) (.int .i64 ((rd_T31 l1 x19_1).f1))) (fun _ hk => hk.2) (.int .i64 ((rd_T31 l1 x19_1).f2))) (fun _ hk => trivial))); (case aS => exact (below_size (by repeat (first | (with_reducible first | exact HB.out | apply below_alloc | apply pw_below_drewN | apply below_drew1 | refine below_set ?_ GE133.out) | exact HB.out)))); (case aL => have := LMc11.out; omega); intro v135 w14 ho hb hg hat; rw [← Ny134.out] at ho; have n0_ := Aside0.mk (blk_grown (g := gb133) (o := .cells #[.int .i64 ((rd_T31 l1 x19_1).f0), .int .i64 ((rd_T31 l1 x19_1).f1), .int .i64 ((rd_T31 l1 x19_1).f2)] 31 (0, 0)) (by (with_reducible repeat (first | refine blk_drewN ?_ _ | refine blk_drew ?_ | refine blk_alloc ?_ _)); refine blk_put (cs := #[.int .i64 ((rd_T31 l1 x19_1).f0), .int .i64 ((rd_T31 l1 x19_1).f1), .int .i64 0]) ?_ 2 _ rfl; (with_reducible repeat (first | refine blk_drewN ?_ _ | refine blk_drew ?_ | refine blk_alloc ?_ _)); refine blk_put (cs := #[.int .i64 ((rd_T31 l1 x19_1).f0), .int .i64 0, .int .i64 0]) ?_ 1 _ rfl; (with_reducible repeat (first | refine blk_drewN ?_ _ | refine blk_drew ?_ | refine blk_alloc ?_ _)); refine blk_put (cs := #[.int .i64 0, .int .i64 0, .int .i64 0]) ?_ 0 _ rfl; (with_reducible repeat (first | refine blk_drewN ?_ _ | refine blk_drew ?_ | refine blk_alloc ?_ _)); exact BK133.out) hg (Kd.R_ne HO_6.out BK133.out (by decide))); have n1_ := Aside0.mk (hb); have n2_ := Aside0.mk (ho); clear BK133; clear HB; clear HO_6; have BK133 := n0_; have HB := n1_; have HO136 := n2_; clear n0_ n1_ n2_; clear ho hb hg hat))
         go_roundg k1
         case measure => have := HK1.out; omega
         case rel => exact ⟨(wrap64 (x5_1 - (ji10))), (y134), (wrap64 (x19_1 + 1)), (by first | rfl | (simp; done) | (simp only [← hji10] <;> (first | rfl | simp)) | (simp [*]; done)), (by first | rfl | (simp; done) | (simp [*]; done)), H', ⟨by have := HK1.out; omega⟩, ⟨by (with_reducible repeat (first | apply Kd.R_alloc | apply Kd.R_drewN | apply Kd.R_drew)); exact HO136.out⟩, ⟨by repeat (first | (with_reducible first | exact HB.out | apply below_alloc | apply pw_below_drewN | apply below_drew1 | refine below_set ?_ GE133.out) | exact HB.out)⟩⟩
        ·rw [if_neg c11] at H
         exact absurd H (by simp)
       ·rw [if_neg c9] at H
        exact absurd H (by simp)
      ·rw [if_neg c8] at H
       exact absurd H (by simp)
     ·rw [if_neg c7] at H
      have c7b0 : decide (x19_1 < (l1.length : Int)) = false := decide_eq_false c7
      clear c7
      have H' := Aside0.mk H
      clear H
      go_wp2
      (first | refine wp_label_then (PASS.out k1 _ _ ?_) | (refine wp_label ?_; rename ∀ (a : Act) (w : World), Code.wp _ _ _ a w → _ => hK_; refine hK_ _ _ (PASS.out k1 _ _ ?_)))
      rw [hJ_]
      exact ⟨(x5_1), (x6_1), _, _, _, _, _, _, _, _, _, _, _, _, _, _, _, _, _, _, _, _, _, _, _, _, _, _, _, _, _, _, _, _, _, _, _, _, _, _, _, _, _, _, _, _, _, _, rfl, H', ⟨by have := HK1.out; omega⟩, ⟨by (with_reducible repeat (first | apply Kd.R_alloc | apply Kd.R_drewN | apply Kd.R_drew)); exact HO_6.out⟩, ⟨by repeat (first | (with_reducible first | exact HB.out | apply below_alloc | apply pw_below_drewN | apply below_drew1) | exact HB.out)⟩⟩
 ·replace c4 := Bool.eq_false_iff.mpr c4
  subst c4
  have H1 : (some ([] : List Int)) = some r := by rw [if_neg (show ¬ (false = true) by decide)] at H; exact H
  clear H
  have H := H1
  clear H1
  obtain rfl := Option.some.inj H
  go_enter Try.func18, Try.ntmps18
  go_wp2
  go_step3
  go_wp2_with (first | ((with_reducible refine gate_callee (f := 14) rfl ?_); refine goesL_ (some 13) rfl rfl Try.func14 (by kernel_rfl) rfl #[.slice A1 l1.length c1] rfl (by (try simp only [List.map_toArray, List.map_cons, List.map_nil]); first | done | rfl | (simp only [List.length_drop, List.length_take]; rfl)) ?_; (with_reducible refine (alloc_Good.calls k _ _ l1 false _ ?side1 ?side2 A3.out).mono ?_); (case side1 => repeat (first | exact HR1.out | (with_reducible refine Kd.C_alloc ?_ _) | (with_reducible refine Kd.C_drewN ?_ _) | (with_reducible refine Kd.C_drew ?_))); (case side2 => exact HC1.out); rintro e w24 ⟨rfl, hb⟩; refine ⟨_, rfl, ?_⟩; have n0_ := Aside0.mk (below_step (by repeat (first | (with_reducible first | exact HB.out | apply below_alloc | apply pw_below_drewN | apply below_drew1) | exact HB.out)) hb); clear HB; have HB := n0_; clear n0_; (try clear hb); (try clear hb2); (try clear hk); (try clear hi)))
  (try rw [Exit.noGoto_ret])
  go_ret
  exact ⟨_, by first | rfl | (simp [errW_none, errW_some] <;> rfl) | (simp [*, errW_none, errW_some] <;> rfl), by first | exact Kd.R_nil _ _ _ _ _ | exact Kd.N_nil _ _ _ _ _ | exact Kd.V_nil _ _ _ _ _ | exact Kd.Q_nil _ _ _ _ _ | exact Kd.S_nil _ _ _ _ _, by repeat (first | (with_reducible first | exact HB.out | apply below_alloc | apply pw_below_drewN | apply below_drew1) | exact HB.out)⟩
def flywheellaw27_wakes.f (k : Nat)  : Option (Bool) := (alloc_Split.f k 1000 (([(⟨1, 0, 10000⟩ : S31), (⟨3, 0, 10000⟩ : S31)] : List (S31)))).bind fun t143 => (if (t143.length : Int) = 2 then (if 0 < (t143.length : Int) then (if (rd t143 0) = 250 then (if 1 < (t143.length : Int) then (some ((rd t143 1) == 750)) else (none)) else (some false)) else (none)) else (some false))
theorem flywheellaw27_wakes.mono : ∀ k, LeO (flywheellaw27_wakes.f k ) (flywheellaw27_wakes.f (k + 1) ) := by
 intro  k
 unfold flywheellaw27_wakes.f
 repeat' first
   | (with_reducible exact alloc_Split.mono _ _ _)
   | (with_reducible exact LeO.refl _)
   | (with_reducible exact LeO.none _)
   | (with_reducible refine LeO.ite ?_ ?_)
   | (with_reducible refine LeO.bind ?_ (fun _ => ?_))
   | exact alloc_Split.mono _ _ _
   | exact LeO.none _
   | refine LeO.ite ?_ ?_
   | refine LeO.bind ?_ (fun _ => ?_)
set_option maxHeartbeats 8000000 in
set_option maxRecDepth 100000 in
theorem flywheellaw27_wakes.calls (k : Nat)  (r : Bool) (w : World) (h : flywheellaw27_wakes.f k  = some r) :
  Calls Try.prog 13 #[] w fun e w' => e = .returned (.bool r) ∧ Below w.heap.size w w' := by
 have hu31 := Try.underlying31
 have HB := Aside0.mk (Below.refl w.heap.size w)
 have H : ((alloc_Split.f k 1000 (([(⟨1, 0, 10000⟩ : S31), (⟨3, 0, 10000⟩ : S31)] : List (S31)))).bind fun t143 => (if (t143.length : Int) = 2 then (if 0 < (t143.length : Int) then (if (rd t143 0) = 250 then (if 1 < (t143.length : Int) then (some ((rd t143 1) == 750)) else (none)) else (some false)) else (none)) else (some false))) = some r := h
 clear h
 obtain ⟨y140, hy140⟩ : ∃ y_ : List (S31), y_ = (([(⟨1, 0, 10000⟩ : S31), (⟨3, 0, 10000⟩ : S31)] : List (S31))) := ⟨_, rfl⟩
 replace H : ((alloc_Split.f k 1000 y140).bind fun t143 => (if (t143.length : Int) = 2 then (if 0 < (t143.length : Int) then (if (rd t143 0) = 250 then (if 1 < (t143.length : Int) then (some ((rd t143 1) == 750)) else (none)) else (some false)) else (none)) else (some false))) = some r := by first | (rw [hy140]; with_reducible exact H) | (have H2_ := (Option.bind_some _ _).symm.trans H; rw [hy140]; with_reducible exact H2_) | (have H2_ := (Option.bind_some _ _).symm.trans H; with_reducible exact H2_) | with_reducible exact H | (rw [hy140]; exact H) | exact H
 have Ny140 := Aside0.mk hy140
 clear hy140
 replace H := Option.bind_eq_some_iff.mp H
 obtain ⟨t143, A10, H⟩ := H
 replace H : (if (t143.length : Int) = 2 then (if 0 < (t143.length : Int) then (if (rd t143 0) = 250 then (if 1 < (t143.length : Int) then (some ((rd t143 1) == 750)) else (none)) else (some false)) else (none)) else (some false)) = some r := H
 have A1 := Aside0.mk A10
 clear A10
 by_cases c2 : (t143.length : Int) = 2
 ·rw [if_pos c2] at H
  have c2b0 : ((t143.length : Int) == 2) = true := beq_iff_eq.mpr c2
  have c2b1 : ((t143.length : Int) != 2) = false := bne_eq_false_iff_eq.mpr c2
  clear c2
  by_cases c3 : 0 < (t143.length : Int)
  ·rw [if_pos c3] at H
   have c3b0 : decide (0 < (t143.length : Int)) = true := decide_eq_true c3
   have c3b1 : decide (0 < t143.length) = true := decide_eq_true (by omega)
   clear c3
   by_cases c4 : (rd t143 0) = 250
   ·rw [if_pos c4] at H
    have c4b0 : ((rd t143 0) == 250) = true := beq_iff_eq.mpr c4
    have c4b1 : ((rd t143 0) != 250) = false := bne_eq_false_iff_eq.mpr c4
    clear c4
    by_cases c5 : 1 < (t143.length : Int)
    ·rw [if_pos c5] at H
     have c5b0 : decide (1 < (t143.length : Int)) = true := decide_eq_true c5
     have c5b1 : decide (1 < t143.length) = true := decide_eq_true (by omega)
     clear c5
     obtain rfl := Option.some.inj H
     go_enter Try.func13, Try.ntmps13
     go_wp2_with (first | ((with_reducible refine gate_dst (N := 4) rfl ?_); refine Kd.R_lit k31 _ 31 ?hg (N := 4) ?hd (xs := ([(⟨1, 0, 10000⟩ : S31), (⟨3, 0, 10000⟩ : S31)] : List (S31))) (inner := [.int .i64 1, .int .i64 0, .int .i64 10000, .int .i64 3, .int .i64 0, .int .i64 10000]) (ok := fun _ => True) (okp := fun _ => True) ?hr ?hp (fun _ hk => hk) trivial (Below.refl _ _) (Nat.le_refl _) (by simp) ?_; (case hd => rfl); (case hg => rfl); (case hr => first | (go_simp; done) | (go_simp; rfl)); (case hp => exact (Reps.c3 (show Kd.M k31 _ _ _ (⟨1, 0, 10000⟩ : S31) [.int .i64 1, .int .i64 0, .int .i64 10000] from (k31_mkM _ _ _ (⟨1, 0, 10000⟩ : S31) )) (Reps.c3 (show Kd.M k31 _ _ _ (⟨3, 0, 10000⟩ : S31) [.int .i64 3, .int .i64 0, .int .i64 10000] from (k31_mkM _ _ _ (⟨3, 0, 10000⟩ : S31) )) (Reps.none _ _)))); intro v141 w6 ho7 hb hg_ hnew_; clear hg_ hnew_; (first | rw [← Ny140.out] at ho7 | (simp only [Int.reduceToNat] at ho7; rw [← Ny140.out] at ho7)); have n0_ := Aside0.mk (Kd.R_lower ho7 (below_size (by repeat (first | (with_reducible first | exact HB.out | apply below_alloc | apply pw_below_drewN | apply below_drew1) | exact HB.out)))); have n1_ := Aside0.mk (below_step (by repeat (first | (with_reducible first | exact HB.out | apply below_alloc | apply pw_below_drewN | apply below_drew1) | exact HB.out)) hb); clear HB; have HO142 := n0_; have HB := n1_; clear n0_ n1_; clear hb ho7; obtain ⟨Ao8, co8, eo8⟩ := Kd.R_slice HO142.out; subst eo8) | ((with_reducible refine gate_callee (f := 18) rfl ?_); refine goesL_ (some 5) rfl rfl Try.func18 (by kernel_rfl) rfl #[.int .i64 1000, .slice Ao8 y140.length co8] rfl (by (try simp only [List.map_toArray, List.map_cons, List.map_nil]); first | done | rfl | (simp only [List.length_drop, List.length_take]; rfl)) ?_; (with_reducible refine (alloc_Split.calls k 1000 _ _ y140 t143 _ ?side1 ?side2 A1.out).mono ?_); (case side1 => repeat (first | exact (Kd.R_reads' HO142.out).2.2 | (with_reducible refine Kd.C_alloc ?_ _) | (with_reducible refine Kd.C_drewN ?_ _) | (with_reducible refine Kd.C_drew ?_))); (case side2 => exact (Kd.R_reads' HO142.out).2.1); rintro e w9 ⟨v144, rfl, ho0, hb⟩; refine ⟨_, rfl, ?_⟩; have n0_ := Aside0.mk (Kd.R_below (by (with_reducible repeat (first | apply Kd.R_alloc | apply Kd.R_drewN | apply Kd.R_drew)); exact HO142.out) hb); have n1_ := Aside0.mk (Kd.R_lower ho0 (below_size (by repeat (first | (with_reducible first | exact HB.out | apply below_alloc | apply pw_below_drewN | apply below_drew1) | exact HB.out)))); have n2_ := Aside0.mk (below_step (by repeat (first | (with_reducible first | exact HB.out | apply below_alloc | apply pw_below_drewN | apply below_drew1) | exact HB.out)) hb); clear HO142; clear HB; have HO142 := n0_; have HO145 := n1_; have HB := n2_; clear n0_ n1_ n2_; (try clear hb); (try clear hb2); (try clear hk); (try clear hi); (try clear ho0); obtain ⟨Ao10, co10, eo10⟩ := Kd.R_slice HO145.out; subst eo10; have p146 : 0 ≤ (0 : Int) := (by omega); have q146 : 0 < (t143.length : Int) := of_decide_eq_true (by first | (with_reducible assumption) | assumption); obtain ⟨ad146, e146, hx146_0⟩ := Kd.at_int (Kd.R_reads' HO145.out).2.2 0 p146 q146; cases e146; have qi146 : (0 < t143.length) = True := eq_true (by omega); (try rw [show ((0 : Int)).toNat = 0 from rfl] at hx146_0); (try rw [Addr.add_zero'] at hx146_0); replace p146 := eq_true p146; replace q146 := eq_true q146; have p147 : 0 ≤ (1 : Int) := (by omega); have q147 : 1 < (t143.length : Int) := of_decide_eq_true (by first | (with_reducible assumption) | assumption); obtain ⟨ad147, e147, hx147_0⟩ := Kd.at_int (Kd.R_reads' HO145.out).2.2 1 p147 q147; obtain rfl : ad146 = ad147 := (by injection e147); (try simp only [show (1 : Int).toNat = 1 from rfl, Nat.reduceMul, Nat.reduceEqDiff, Go.Addr.add, ↓reduceIte] at hx147_0); have qi147 : (1 < t143.length) = True := eq_true (by omega); (try rw [show ((1 : Int)).toNat = 1 from rfl] at hx147_0); replace p147 := eq_true p147; replace q147 := eq_true q147))
     go_ret
     exact ⟨by first | rfl | (simp [errW_none, errW_some] <;> rfl) | (simp [*, errW_none, errW_some] <;> rfl), by repeat (first | (with_reducible first | exact HB.out | apply below_alloc | apply pw_below_drewN | apply below_drew1) | exact HB.out)⟩
    ·rw [if_neg c5] at H
     exact absurd H (by simp)
   ·rw [if_neg c4] at H
    have c4b0 : ((rd t143 0) == 250) = false := beq_eq_false_iff_ne.mpr c4
    have c4b1 : ((rd t143 0) != 250) = true := bne_iff_ne.mpr c4
    obtain rfl := Option.some.inj H
    go_enter Try.func13, Try.ntmps13
    go_wp2_with (first | ((with_reducible refine gate_dst (N := 4) rfl ?_); refine Kd.R_lit k31 _ 31 ?hg (N := 4) ?hd (xs := ([(⟨1, 0, 10000⟩ : S31), (⟨3, 0, 10000⟩ : S31)] : List (S31))) (inner := [.int .i64 1, .int .i64 0, .int .i64 10000, .int .i64 3, .int .i64 0, .int .i64 10000]) (ok := fun _ => True) (okp := fun _ => True) ?hr ?hp (fun _ hk => hk) trivial (Below.refl _ _) (Nat.le_refl _) (by simp) ?_; (case hd => rfl); (case hg => rfl); (case hr => first | (go_simp; done) | (go_simp; rfl)); (case hp => exact (Reps.c3 (show Kd.M k31 _ _ _ (⟨1, 0, 10000⟩ : S31) [.int .i64 1, .int .i64 0, .int .i64 10000] from (k31_mkM _ _ _ (⟨1, 0, 10000⟩ : S31) )) (Reps.c3 (show Kd.M k31 _ _ _ (⟨3, 0, 10000⟩ : S31) [.int .i64 3, .int .i64 0, .int .i64 10000] from (k31_mkM _ _ _ (⟨3, 0, 10000⟩ : S31) )) (Reps.none _ _)))); intro v141 w11 ho12 hb hg_ hnew_; clear hg_ hnew_; (first | rw [← Ny140.out] at ho12 | (simp only [Int.reduceToNat] at ho12; rw [← Ny140.out] at ho12)); have n0_ := Aside0.mk (Kd.R_lower ho12 (below_size (by repeat (first | (with_reducible first | exact HB.out | apply below_alloc | apply pw_below_drewN | apply below_drew1) | exact HB.out)))); have n1_ := Aside0.mk (below_step (by repeat (first | (with_reducible first | exact HB.out | apply below_alloc | apply pw_below_drewN | apply below_drew1) | exact HB.out)) hb); clear HB; have HO142 := n0_; have HB := n1_; clear n0_ n1_; clear hb ho12; obtain ⟨Ao13, co13, eo13⟩ := Kd.R_slice HO142.out; subst eo13) | ((with_reducible refine gate_callee (f := 18) rfl ?_); refine goesL_ (some 5) rfl rfl Try.func18 (by kernel_rfl) rfl #[.int .i64 1000, .slice Ao13 y140.length co13] rfl (by (try simp only [List.map_toArray, List.map_cons, List.map_nil]); first | done | rfl | (simp only [List.length_drop, List.length_take]; rfl)) ?_; (with_reducible refine (alloc_Split.calls k 1000 _ _ y140 t143 _ ?side1 ?side2 A1.out).mono ?_); (case side1 => repeat (first | exact (Kd.R_reads' HO142.out).2.2 | (with_reducible refine Kd.C_alloc ?_ _) | (with_reducible refine Kd.C_drewN ?_ _) | (with_reducible refine Kd.C_drew ?_))); (case side2 => exact (Kd.R_reads' HO142.out).2.1); rintro e w14 ⟨v144, rfl, ho0, hb⟩; refine ⟨_, rfl, ?_⟩; have n0_ := Aside0.mk (Kd.R_below (by (with_reducible repeat (first | apply Kd.R_alloc | apply Kd.R_drewN | apply Kd.R_drew)); exact HO142.out) hb); have n1_ := Aside0.mk (Kd.R_lower ho0 (below_size (by repeat (first | (with_reducible first | exact HB.out | apply below_alloc | apply pw_below_drewN | apply below_drew1) | exact HB.out)))); have n2_ := Aside0.mk (below_step (by repeat (first | (with_reducible first | exact HB.out | apply below_alloc | apply pw_below_drewN | apply below_drew1) | exact HB.out)) hb); clear HO142; clear HB; have HO142 := n0_; have HO145 := n1_; have HB := n2_; clear n0_ n1_ n2_; (try clear hb); (try clear hb2); (try clear hk); (try clear hi); (try clear ho0); obtain ⟨Ao15, co15, eo15⟩ := Kd.R_slice HO145.out; subst eo15; have p146 : 0 ≤ (0 : Int) := (by omega); have q146 : 0 < (t143.length : Int) := of_decide_eq_true (by first | (with_reducible assumption) | assumption); obtain ⟨ad146, e146, hx146_0⟩ := Kd.at_int (Kd.R_reads' HO145.out).2.2 0 p146 q146; cases e146; have qi146 : (0 < t143.length) = True := eq_true (by omega); (try rw [show ((0 : Int)).toNat = 0 from rfl] at hx146_0); (try rw [Addr.add_zero'] at hx146_0); replace p146 := eq_true p146; replace q146 := eq_true q146))
    go_ret
    exact ⟨by first | rfl | (simp [errW_none, errW_some] <;> rfl) | (simp [*, errW_none, errW_some] <;> rfl), by repeat (first | (with_reducible first | exact HB.out | apply below_alloc | apply pw_below_drewN | apply below_drew1) | exact HB.out)⟩
  ·rw [if_neg c3] at H
   exact absurd H (by simp)
 ·rw [if_neg c2] at H
  have c2b0 : ((t143.length : Int) == 2) = false := beq_eq_false_iff_ne.mpr c2
  have c2b1 : ((t143.length : Int) != 2) = true := bne_iff_ne.mpr c2
  obtain rfl := Option.some.inj H
  go_enter Try.func13, Try.ntmps13
  go_wp2_with (first | ((with_reducible refine gate_dst (N := 4) rfl ?_); refine Kd.R_lit k31 _ 31 ?hg (N := 4) ?hd (xs := ([(⟨1, 0, 10000⟩ : S31), (⟨3, 0, 10000⟩ : S31)] : List (S31))) (inner := [.int .i64 1, .int .i64 0, .int .i64 10000, .int .i64 3, .int .i64 0, .int .i64 10000]) (ok := fun _ => True) (okp := fun _ => True) ?hr ?hp (fun _ hk => hk) trivial (Below.refl _ _) (Nat.le_refl _) (by simp) ?_; (case hd => rfl); (case hg => rfl); (case hr => first | (go_simp; done) | (go_simp; rfl)); (case hp => exact (Reps.c3 (show Kd.M k31 _ _ _ (⟨1, 0, 10000⟩ : S31) [.int .i64 1, .int .i64 0, .int .i64 10000] from (k31_mkM _ _ _ (⟨1, 0, 10000⟩ : S31) )) (Reps.c3 (show Kd.M k31 _ _ _ (⟨3, 0, 10000⟩ : S31) [.int .i64 3, .int .i64 0, .int .i64 10000] from (k31_mkM _ _ _ (⟨3, 0, 10000⟩ : S31) )) (Reps.none _ _)))); intro v141 w16 ho17 hb hg_ hnew_; clear hg_ hnew_; (first | rw [← Ny140.out] at ho17 | (simp only [Int.reduceToNat] at ho17; rw [← Ny140.out] at ho17)); have n0_ := Aside0.mk (Kd.R_lower ho17 (below_size (by repeat (first | (with_reducible first | exact HB.out | apply below_alloc | apply pw_below_drewN | apply below_drew1) | exact HB.out)))); have n1_ := Aside0.mk (below_step (by repeat (first | (with_reducible first | exact HB.out | apply below_alloc | apply pw_below_drewN | apply below_drew1) | exact HB.out)) hb); clear HB; have HO142 := n0_; have HB := n1_; clear n0_ n1_; clear hb ho17; obtain ⟨Ao18, co18, eo18⟩ := Kd.R_slice HO142.out; subst eo18) | ((with_reducible refine gate_callee (f := 18) rfl ?_); refine goesL_ (some 5) rfl rfl Try.func18 (by kernel_rfl) rfl #[.int .i64 1000, .slice Ao18 y140.length co18] rfl (by (try simp only [List.map_toArray, List.map_cons, List.map_nil]); first | done | rfl | (simp only [List.length_drop, List.length_take]; rfl)) ?_; (with_reducible refine (alloc_Split.calls k 1000 _ _ y140 t143 _ ?side1 ?side2 A1.out).mono ?_); (case side1 => repeat (first | exact (Kd.R_reads' HO142.out).2.2 | (with_reducible refine Kd.C_alloc ?_ _) | (with_reducible refine Kd.C_drewN ?_ _) | (with_reducible refine Kd.C_drew ?_))); (case side2 => exact (Kd.R_reads' HO142.out).2.1); rintro e w19 ⟨v144, rfl, ho0, hb⟩; refine ⟨_, rfl, ?_⟩; have n0_ := Aside0.mk (Kd.R_below (by (with_reducible repeat (first | apply Kd.R_alloc | apply Kd.R_drewN | apply Kd.R_drew)); exact HO142.out) hb); have n1_ := Aside0.mk (Kd.R_lower ho0 (below_size (by repeat (first | (with_reducible first | exact HB.out | apply below_alloc | apply pw_below_drewN | apply below_drew1) | exact HB.out)))); have n2_ := Aside0.mk (below_step (by repeat (first | (with_reducible first | exact HB.out | apply below_alloc | apply pw_below_drewN | apply below_drew1) | exact HB.out)) hb); clear HO142; clear HB; have HO142 := n0_; have HO145 := n1_; have HB := n2_; clear n0_ n1_ n2_; (try clear hb); (try clear hb2); (try clear hk); (try clear hi); (try clear ho0); obtain ⟨Ao20, co20, eo20⟩ := Kd.R_slice HO145.out; subst eo20))
  go_ret
  exact ⟨by first | rfl | (simp [errW_none, errW_some] <;> rfl) | (simp [*, errW_none, errW_some] <;> rfl), by repeat (first | (with_reducible first | exact HB.out | apply below_alloc | apply pw_below_drewN | apply below_drew1) | exact HB.out)⟩
def flywheelref27_Good.l0 : Nat → List (S31) → Int → Option (Bool)
 | 0, _, _ => none
 | k + 1, x0, x3 => if x3 < (x0.length : Int) then (if 0 ≤ x3 then (if ((rd_T31 x0 x3).f0) < 1 then (some false) else (if ((rd_T31 x0 x3).f0) > 1000 then (some false) else (if ((rd_T31 x0 x3).f1) < 0 then (some false) else (if ((rd_T31 x0 x3).f1) > ((rd_T31 x0 x3).f2) then (some false) else (if ((rd_T31 x0 x3).f2) > 17179869184 then (some false) else (flywheelref27_Good.l0 k x0 (wrap64 (x3 + 1)))))))) else (none)) else (some true)
def flywheelref27_Good.f (k : Nat) (l0 : List (S31)) : Option (Bool) := if (l0.length : Int) > 8 then (some false) else (flywheelref27_Good.l0 k l0 0)
set_option maxHeartbeats 8000000 in
set_option maxRecDepth 100000 in
theorem flywheelref27_Good.calls (k : Nat) (A0 : Option Addr) (c0 : Nat) (l0 : List (S31)) (r : Bool) (w : World) (hr0 : Kd.C k31 w A0 l0.length l0) (hc0 : l0.length ≤ c0) (h : flywheelref27_Good.f k l0 = some r) :
  Calls Try.prog 16 #[.slice A0 l0.length c0] w fun e w' => e = .returned (.bool r) ∧ Drawn0 w w' := by
 have HR0 := Aside0.mk hr0
 have HC0 := Aside0.mk hc0
 clear hr0 hc0
 have H : (if (l0.length : Int) > 8 then (some false) else (flywheelref27_Good.l0 k l0 0)) = some r := h
 clear h
 by_cases c2 : (l0.length : Int) > 8
 ·rw [if_pos c2] at H
  have c2b0 : decide (8 < (l0.length : Int)) = true := decide_eq_true c2
  have c2b1 : decide (8 < l0.length) = true := decide_eq_true (by omega)
  clear c2
  obtain rfl := Option.some.inj H
  go_enter Try.func16, Try.ntmps16
  go_wp2
  repeat (go_quiet (fail); try go_wp2)
  go_ret
  exact ⟨by first | rfl | (simp; done) | (simp [*]; done), by repeat (first | exact Drawn0.refl _ | apply Drawn0.step)⟩
 ·rw [if_neg c2] at H
  have c2b0 : decide (8 < (l0.length : Int)) = false := decide_eq_false c2
  have c2b1 : decide (8 < l0.length) = false := decide_eq_false (by omega)
  clear c2
  have H' := Aside0.mk H
  clear H
  go_enter Try.func16, Try.ntmps16
  go_wp2
  repeat (go_quiet (fail); try go_wp2)
  go_loopg [3] k (fun kq v3 w' => ∃ (x3_1 : Int), v3 = .int .i64 x3_1 ∧ Aside0 (flywheelref27_Good.l0 kq l0 x3_1 = some r) ∧ Aside0 (kq ≤ k) ∧ Drawn0 w w')
  case atStart => exact ⟨(0), (by first | rfl | (simp; done) | (simp [*]; done)), H', ⟨Nat.le_refl _⟩, by repeat (first | exact Drawn0.refl _ | apply Drawn0.step)⟩
  case round =>
   clear H'
   try clear c1
   try clear c2
   try clear c2b0
   try clear c2b1
   try clear p2
   obtain ⟨x3_1, rfl, HA, HK1, ⟨m1, rfl⟩⟩ := hrel
   cases gk with
   | zero => exact absurd HA.out (by simp [flywheelref27_Good.l0])
   | succ k1 =>
    have H := HA.out
    clear HA
    simp only [flywheelref27_Good.l0] at H
    by_cases c3 : x3_1 < (l0.length : Int)
    ·rw [if_pos c3] at H
     have c3b0 : decide (x3_1 < (l0.length : Int)) = true := decide_eq_true c3
     clear c3
     by_cases c4 : 0 ≤ x3_1
     ·rw [if_pos c4] at H
      have c4b0 : decide (0 ≤ x3_1) = true := decide_eq_true c4
      clear c4
      by_cases c5 : ((rd_T31 l0 x3_1).f0) < 1
      ·rw [if_pos c5] at H
       have c5b0 : decide (((rd_T31 l0 x3_1).f0) < 1) = true := decide_eq_true c5
       clear c5
       obtain rfl := Option.some.inj H
       have p154 : 0 ≤ (x3_1 : Int) := of_decide_eq_true (by first | (with_reducible assumption) | assumption)
       have q154 : x3_1 < (l0.length : Int) := of_decide_eq_true (by first | (with_reducible assumption) | assumption)
       obtain ⟨ad154, e154, hx154_0, hx154_1, hx154_2⟩ := at_T31 HR0.out x3_1 p154 q154
       cases e154
       replace p154 := eq_true p154
       replace q154 := eq_true q154
       go_wp2
       repeat (go_quiet (fail); try go_wp2)
       go_ret
       exact ⟨by first | rfl | (simp; done) | (simp [*]; done), by repeat (first | exact Drawn0.refl _ | apply Drawn0.step)⟩
      ·rw [if_neg c5] at H
       have c5b0 : decide (((rd_T31 l0 x3_1).f0) < 1) = false := decide_eq_false c5
       clear c5
       by_cases c6 : ((rd_T31 l0 x3_1).f0) > 1000
       ·rw [if_pos c6] at H
        have c6b0 : decide (1000 < ((rd_T31 l0 x3_1).f0)) = true := decide_eq_true c6
        clear c6
        obtain rfl := Option.some.inj H
        have p154 : 0 ≤ (x3_1 : Int) := of_decide_eq_true (by first | (with_reducible assumption) | assumption)
        have q154 : x3_1 < (l0.length : Int) := of_decide_eq_true (by first | (with_reducible assumption) | assumption)
        obtain ⟨ad154, e154, hx154_0, hx154_1, hx154_2⟩ := at_T31 HR0.out x3_1 p154 q154
        cases e154
        replace p154 := eq_true p154
        replace q154 := eq_true q154
        have p155 : 0 ≤ (x3_1 : Int) := of_decide_eq_true (by first | (with_reducible assumption) | assumption)
        have q155 : x3_1 < (l0.length : Int) := of_decide_eq_true (by first | (with_reducible assumption) | assumption)
        obtain ⟨ad155, e155, hx155_0, hx155_1, hx155_2⟩ := at_T31 HR0.out x3_1 p155 q155
        obtain rfl : ad154 = ad155 := (by injection e155)
        replace p155 := eq_true p155
        replace q155 := eq_true q155
        go_wp2
        repeat (go_quiet (fail); try go_wp2)
        go_ret
        exact ⟨by first | rfl | (simp; done) | (simp [*]; done), by repeat (first | exact Drawn0.refl _ | apply Drawn0.step)⟩
       ·rw [if_neg c6] at H
        have c6b0 : decide (1000 < ((rd_T31 l0 x3_1).f0)) = false := decide_eq_false c6
        clear c6
        by_cases c7 : ((rd_T31 l0 x3_1).f1) < 0
        ·rw [if_pos c7] at H
         have c7b0 : decide (((rd_T31 l0 x3_1).f1) < 0) = true := decide_eq_true c7
         clear c7
         obtain rfl := Option.some.inj H
         have p154 : 0 ≤ (x3_1 : Int) := of_decide_eq_true (by first | (with_reducible assumption) | assumption)
         have q154 : x3_1 < (l0.length : Int) := of_decide_eq_true (by first | (with_reducible assumption) | assumption)
         obtain ⟨ad154, e154, hx154_0, hx154_1, hx154_2⟩ := at_T31 HR0.out x3_1 p154 q154
         cases e154
         replace p154 := eq_true p154
         replace q154 := eq_true q154
         have p155 : 0 ≤ (x3_1 : Int) := of_decide_eq_true (by first | (with_reducible assumption) | assumption)
         have q155 : x3_1 < (l0.length : Int) := of_decide_eq_true (by first | (with_reducible assumption) | assumption)
         obtain ⟨ad155, e155, hx155_0, hx155_1, hx155_2⟩ := at_T31 HR0.out x3_1 p155 q155
         obtain rfl : ad154 = ad155 := (by injection e155)
         replace p155 := eq_true p155
         replace q155 := eq_true q155
         have p156 : 0 ≤ (x3_1 : Int) := of_decide_eq_true (by first | (with_reducible assumption) | assumption)
         have q156 : x3_1 < (l0.length : Int) := of_decide_eq_true (by first | (with_reducible assumption) | assumption)
         obtain ⟨ad156, e156, hx156_0, hx156_1, hx156_2⟩ := at_T31 HR0.out x3_1 p156 q156
         obtain rfl : ad154 = ad156 := (by injection e156)
         replace p156 := eq_true p156
         replace q156 := eq_true q156
         go_wp2
         repeat (go_quiet (fail); try go_wp2)
         go_ret
         exact ⟨by first | rfl | (simp; done) | (simp [*]; done), by repeat (first | exact Drawn0.refl _ | apply Drawn0.step)⟩
        ·rw [if_neg c7] at H
         have c7b0 : decide (((rd_T31 l0 x3_1).f1) < 0) = false := decide_eq_false c7
         clear c7
         by_cases c8 : ((rd_T31 l0 x3_1).f1) > ((rd_T31 l0 x3_1).f2)
         ·rw [if_pos c8] at H
          have c8b0 : decide (((rd_T31 l0 x3_1).f2) < ((rd_T31 l0 x3_1).f1)) = true := decide_eq_true c8
          clear c8
          obtain rfl := Option.some.inj H
          have p154 : 0 ≤ (x3_1 : Int) := of_decide_eq_true (by first | (with_reducible assumption) | assumption)
          have q154 : x3_1 < (l0.length : Int) := of_decide_eq_true (by first | (with_reducible assumption) | assumption)
          obtain ⟨ad154, e154, hx154_0, hx154_1, hx154_2⟩ := at_T31 HR0.out x3_1 p154 q154
          cases e154
          replace p154 := eq_true p154
          replace q154 := eq_true q154
          have p155 : 0 ≤ (x3_1 : Int) := of_decide_eq_true (by first | (with_reducible assumption) | assumption)
          have q155 : x3_1 < (l0.length : Int) := of_decide_eq_true (by first | (with_reducible assumption) | assumption)
          obtain ⟨ad155, e155, hx155_0, hx155_1, hx155_2⟩ := at_T31 HR0.out x3_1 p155 q155
          obtain rfl : ad154 = ad155 := (by injection e155)
          replace p155 := eq_true p155
          replace q155 := eq_true q155
          have p156 : 0 ≤ (x3_1 : Int) := of_decide_eq_true (by first | (with_reducible assumption) | assumption)
          have q156 : x3_1 < (l0.length : Int) := of_decide_eq_true (by first | (with_reducible assumption) | assumption)
          obtain ⟨ad156, e156, hx156_0, hx156_1, hx156_2⟩ := at_T31 HR0.out x3_1 p156 q156
          obtain rfl : ad154 = ad156 := (by injection e156)
          replace p156 := eq_true p156
          replace q156 := eq_true q156
          have p157 : 0 ≤ (x3_1 : Int) := of_decide_eq_true (by first | (with_reducible assumption) | assumption)
          have q157 : x3_1 < (l0.length : Int) := of_decide_eq_true (by first | (with_reducible assumption) | assumption)
          obtain ⟨ad157, e157, hx157_0, hx157_1, hx157_2⟩ := at_T31 HR0.out x3_1 p157 q157
          obtain rfl : ad154 = ad157 := (by injection e157)
          replace p157 := eq_true p157
          replace q157 := eq_true q157
          have p158 : 0 ≤ (x3_1 : Int) := of_decide_eq_true (by first | (with_reducible assumption) | assumption)
          have q158 : x3_1 < (l0.length : Int) := of_decide_eq_true (by first | (with_reducible assumption) | assumption)
          obtain ⟨ad158, e158, hx158_0, hx158_1, hx158_2⟩ := at_T31 HR0.out x3_1 p158 q158
          obtain rfl : ad154 = ad158 := (by injection e158)
          replace p158 := eq_true p158
          replace q158 := eq_true q158
          go_wp2
          repeat (go_quiet (fail); try go_wp2)
          go_ret
          exact ⟨by first | rfl | (simp; done) | (simp [*]; done), by repeat (first | exact Drawn0.refl _ | apply Drawn0.step)⟩
         ·rw [if_neg c8] at H
          have c8b0 : decide (((rd_T31 l0 x3_1).f2) < ((rd_T31 l0 x3_1).f1)) = false := decide_eq_false c8
          clear c8
          by_cases c9 : ((rd_T31 l0 x3_1).f2) > 17179869184
          ·rw [if_pos c9] at H
           have c9b0 : decide (17179869184 < ((rd_T31 l0 x3_1).f2)) = true := decide_eq_true c9
           clear c9
           obtain rfl := Option.some.inj H
           have p154 : 0 ≤ (x3_1 : Int) := of_decide_eq_true (by first | (with_reducible assumption) | assumption)
           have q154 : x3_1 < (l0.length : Int) := of_decide_eq_true (by first | (with_reducible assumption) | assumption)
           obtain ⟨ad154, e154, hx154_0, hx154_1, hx154_2⟩ := at_T31 HR0.out x3_1 p154 q154
           cases e154
           replace p154 := eq_true p154
           replace q154 := eq_true q154
           have p155 : 0 ≤ (x3_1 : Int) := of_decide_eq_true (by first | (with_reducible assumption) | assumption)
           have q155 : x3_1 < (l0.length : Int) := of_decide_eq_true (by first | (with_reducible assumption) | assumption)
           obtain ⟨ad155, e155, hx155_0, hx155_1, hx155_2⟩ := at_T31 HR0.out x3_1 p155 q155
           obtain rfl : ad154 = ad155 := (by injection e155)
           replace p155 := eq_true p155
           replace q155 := eq_true q155
           have p156 : 0 ≤ (x3_1 : Int) := of_decide_eq_true (by first | (with_reducible assumption) | assumption)
           have q156 : x3_1 < (l0.length : Int) := of_decide_eq_true (by first | (with_reducible assumption) | assumption)
           obtain ⟨ad156, e156, hx156_0, hx156_1, hx156_2⟩ := at_T31 HR0.out x3_1 p156 q156
           obtain rfl : ad154 = ad156 := (by injection e156)
           replace p156 := eq_true p156
           replace q156 := eq_true q156
           have p157 : 0 ≤ (x3_1 : Int) := of_decide_eq_true (by first | (with_reducible assumption) | assumption)
           have q157 : x3_1 < (l0.length : Int) := of_decide_eq_true (by first | (with_reducible assumption) | assumption)
           obtain ⟨ad157, e157, hx157_0, hx157_1, hx157_2⟩ := at_T31 HR0.out x3_1 p157 q157
           obtain rfl : ad154 = ad157 := (by injection e157)
           replace p157 := eq_true p157
           replace q157 := eq_true q157
           have p158 : 0 ≤ (x3_1 : Int) := of_decide_eq_true (by first | (with_reducible assumption) | assumption)
           have q158 : x3_1 < (l0.length : Int) := of_decide_eq_true (by first | (with_reducible assumption) | assumption)
           obtain ⟨ad158, e158, hx158_0, hx158_1, hx158_2⟩ := at_T31 HR0.out x3_1 p158 q158
           obtain rfl : ad154 = ad158 := (by injection e158)
           replace p158 := eq_true p158
           replace q158 := eq_true q158
           have p159 : 0 ≤ (x3_1 : Int) := of_decide_eq_true (by first | (with_reducible assumption) | assumption)
           have q159 : x3_1 < (l0.length : Int) := of_decide_eq_true (by first | (with_reducible assumption) | assumption)
           obtain ⟨ad159, e159, hx159_0, hx159_1, hx159_2⟩ := at_T31 HR0.out x3_1 p159 q159
           obtain rfl : ad154 = ad159 := (by injection e159)
           replace p159 := eq_true p159
           replace q159 := eq_true q159
           go_wp2
           repeat (go_quiet (fail); try go_wp2)
           go_ret
           exact ⟨by first | rfl | (simp; done) | (simp [*]; done), by repeat (first | exact Drawn0.refl _ | apply Drawn0.step)⟩
          ·rw [if_neg c9] at H
           have c9b0 : decide (17179869184 < ((rd_T31 l0 x3_1).f2)) = false := decide_eq_false c9
           clear c9
           have H' := Aside0.mk H
           clear H
           have p154 : 0 ≤ (x3_1 : Int) := of_decide_eq_true (by first | (with_reducible assumption) | assumption)
           have q154 : x3_1 < (l0.length : Int) := of_decide_eq_true (by first | (with_reducible assumption) | assumption)
           obtain ⟨ad154, e154, hx154_0, hx154_1, hx154_2⟩ := at_T31 HR0.out x3_1 p154 q154
           cases e154
           replace p154 := eq_true p154
           replace q154 := eq_true q154
           have p155 : 0 ≤ (x3_1 : Int) := of_decide_eq_true (by first | (with_reducible assumption) | assumption)
           have q155 : x3_1 < (l0.length : Int) := of_decide_eq_true (by first | (with_reducible assumption) | assumption)
           obtain ⟨ad155, e155, hx155_0, hx155_1, hx155_2⟩ := at_T31 HR0.out x3_1 p155 q155
           obtain rfl : ad154 = ad155 := (by injection e155)
           replace p155 := eq_true p155
           replace q155 := eq_true q155
           have p156 : 0 ≤ (x3_1 : Int) := of_decide_eq_true (by first | (with_reducible assumption) | assumption)
           have q156 : x3_1 < (l0.length : Int) := of_decide_eq_true (by first | (with_reducible assumption) | assumption)
           obtain ⟨ad156, e156, hx156_0, hx156_1, hx156_2⟩ := at_T31 HR0.out x3_1 p156 q156
           obtain rfl : ad154 = ad156 := (by injection e156)
           replace p156 := eq_true p156
           replace q156 := eq_true q156
           have p157 : 0 ≤ (x3_1 : Int) := of_decide_eq_true (by first | (with_reducible assumption) | assumption)
           have q157 : x3_1 < (l0.length : Int) := of_decide_eq_true (by first | (with_reducible assumption) | assumption)
           obtain ⟨ad157, e157, hx157_0, hx157_1, hx157_2⟩ := at_T31 HR0.out x3_1 p157 q157
           obtain rfl : ad154 = ad157 := (by injection e157)
           replace p157 := eq_true p157
           replace q157 := eq_true q157
           have p158 : 0 ≤ (x3_1 : Int) := of_decide_eq_true (by first | (with_reducible assumption) | assumption)
           have q158 : x3_1 < (l0.length : Int) := of_decide_eq_true (by first | (with_reducible assumption) | assumption)
           obtain ⟨ad158, e158, hx158_0, hx158_1, hx158_2⟩ := at_T31 HR0.out x3_1 p158 q158
           obtain rfl : ad154 = ad158 := (by injection e158)
           replace p158 := eq_true p158
           replace q158 := eq_true q158
           have p159 : 0 ≤ (x3_1 : Int) := of_decide_eq_true (by first | (with_reducible assumption) | assumption)
           have q159 : x3_1 < (l0.length : Int) := of_decide_eq_true (by first | (with_reducible assumption) | assumption)
           obtain ⟨ad159, e159, hx159_0, hx159_1, hx159_2⟩ := at_T31 HR0.out x3_1 p159 q159
           obtain rfl : ad154 = ad159 := (by injection e159)
           replace p159 := eq_true p159
           replace q159 := eq_true q159
           go_wp2
           repeat (go_quiet (fail); try go_wp2)
           go_roundg k1
           case measure => have := HK1.out; omega
           case rel => exact ⟨(wrap64 (x3_1 + 1)), (by first | rfl | (simp; done) | (simp [*]; done)), H', ⟨by have := HK1.out; omega⟩, by repeat (first | exact Drawn0.refl _ | apply Drawn0.step)⟩
     ·rw [if_neg c4] at H
      exact absurd H (by simp)
    ·rw [if_neg c3] at H
     have c3b0 : decide (x3_1 < (l0.length : Int)) = false := decide_eq_false c3
     clear c3
     obtain rfl := Option.some.inj H
     go_wp2
     repeat (go_quiet (fail); try go_wp2)
     go_ret
     exact ⟨by first | rfl | (simp; done) | (simp [*]; done), by repeat (first | exact Drawn0.refl _ | apply Drawn0.step)⟩
def flywheelref01_Clamp.f (a0 : Int) (a1 : Int) (a2 : Int) : Option (Int) := if a0 < a1 then (some a1) else (if a0 > a2 then (some a2) else (some a0))
end Go.Proofs.Ytlgfnclgkhfhpaa.P
end

section
namespace Go.Proofs.Ytlgfnclgkhfhpaa.P
open Go.RowKit Go.Proofs.YtlgfnclgkhfhpaaW.PrintWords Go.Proofs.YtlgfnclgkhfhpaaW.PrintLast Go.Proofs.YtlgfnclgkhfhpaaW.PrintMore
attribute [local go_sem] max2_int min2_int max_two min_two max_three min_three max_four min_four   -- for this text's walks alone
set_option linter.unusedVariables false
set_option linter.unusedSimpArgs false
end Go.Proofs.Ytlgfnclgkhfhpaa.P
end

section
namespace Go.Proofs.Ytlgfnclgkhfhpaa.P
open Go.RowKit Go.Proofs.YtlgfnclgkhfhpaaW.PrintWords Go.Proofs.YtlgfnclgkhfhpaaW.PrintLast Go.Proofs.YtlgfnclgkhfhpaaW.PrintMore
attribute [local go_sem] max2_int min2_int max_two min_two max_three min_three max_four min_four   -- for this text's walks alone
set_option linter.unusedVariables false
set_option linter.unusedSimpArgs false
end Go.Proofs.Ytlgfnclgkhfhpaa.P
end

section
namespace Go.Proofs.Ytlgfnclgkhfhpaa.P
open Go.RowKit Go.Proofs.YtlgfnclgkhfhpaaW.PrintWords Go.Proofs.YtlgfnclgkhfhpaaW.PrintLast Go.Proofs.YtlgfnclgkhfhpaaW.PrintMore
attribute [local go_sem] max2_int min2_int max_two min_two max_three min_three max_four min_four   -- for this text's walks alone
set_option linter.unusedVariables false
set_option linter.unusedSimpArgs false
def flywheelref02_Did_s.f (a0 : Int) (a1 : Int) (a2 : Int) (a3 : Int) : Option (Int × Bool) := if isI64 a0 ∧ isI64 a1 ∧ isI64 a2 then some (mdq a0 a1 a2 a3) else none
def flywheelref02_Do.f (a0 : Int) (a1 : Int) (a2 : Int) (a3 : Int) : Option (Int) := (flywheelref02_Did_s.f a0 a1 a2 a3).bind fun bt178 => (some bt178.1)
end Go.Proofs.Ytlgfnclgkhfhpaa.P
end

section
namespace Go.Proofs.Ytlgfnclgkhfhpaa.P
open Go.RowKit Go.Proofs.YtlgfnclgkhfhpaaW.PrintWords Go.Proofs.YtlgfnclgkhfhpaaW.PrintLast Go.Proofs.YtlgfnclgkhfhpaaW.PrintMore
attribute [local go_sem] max2_int min2_int max_two min_two max_three min_three max_four min_four   -- for this text's walks alone
set_option linter.unusedVariables false
set_option linter.unusedSimpArgs false
mutual
def flywheelref27_Split.l0 : Nat → List (S31) → Int → List Int → Int → Option (List Int)
 | 0, _, _, _, _ => none
 | k + 1, x1, x5, x6, x7 => if x7 < (x1.length : Int) then (if 0 ≤ x7 then (if x6.length < 17592186044416 then (flywheelref27_Split.l0 k x1 (wrap64 (x5 - (mn ((rd_T31 x1 x7).f1) x5))) (x6 ++ [mn ((rd_T31 x1 x7).f1) x5]) (wrap64 (x7 + 1))) else (none)) else (none)) else (flywheelref27_Split.l1 k x1 x5 x6)
def flywheelref27_Split.l1 : Nat → List (S31) → Int → List Int → Option (List Int)
 | 0, _, _, _ => none
 | k + 1, x1, x5, x6 => if x5 > 0 then (flywheelref27_Split.l2 k x1 x5 x6 0 (-1) (wrap64 ((x1.length : Int) - 1))) else (some x6)
def flywheelref27_Split.l2 : Nat → List (S31) → Int → List Int → Int → Int → Int → Option (List Int)
 | 0, _, _, _, _, _, _ => none
 | k + 1, x1, x5, x6, x9, x10, x11 => if x11 ≥ 0 then (if 0 ≤ x11 then (if x11 < (x6.length : Int) then (if x11 < (x1.length : Int) then (if (rd x6 x11) < ((rd_T31 x1 x11).f2) then (flywheelref27_Split.l2 k x1 x5 x6 (wrap64 (x9 + ((rd_T31 x1 x11).f0))) x11 (wrap64 (x11 - 1))) else (flywheelref27_Split.l2 k x1 x5 x6 x9 x10 (wrap64 (x11 - 1)))) else (none)) else (none)) else (none)) else (if x10 < 0 then (some x6) else (flywheelref27_Split.l3 k x1 x5 x6 x9 x10 0 0))
def flywheelref27_Split.l3 : Nat → List (S31) → Int → List Int → Int → Int → Int → Int → Option (List Int)
 | 0, _, _, _, _, _, _, _ => none
 | k + 1, x1, x5, x6, x9, x10, x12, x13 => if x13 < (x1.length : Int) then (if 0 ≤ x13 then (if x13 < (x6.length : Int) then (if (rd x6 x13) < ((rd_T31 x1 x13).f2) then ((flywheelref02_Do.f x5 ((rd_T31 x1 x13).f0) x9 1).bind fun t192 => (flywheelref27_Split.l3 k x1 x5 (x6.set (x13 : Int).toNat (wrap64 ((rd x6 x13) + (mn t192 (wrap64 (((rd_T31 x1 x13).f2) - (rd x6 x13))))))) x9 x10 (wrap64 (x12 + (mn t192 (wrap64 (((rd_T31 x1 x13).f2) - (rd x6 x13)))))) (wrap64 (x13 + 1)))) else (flywheelref27_Split.l3 k x1 x5 x6 x9 x10 x12 (wrap64 (x13 + 1)))) else (none)) else (none)) else (if x12 = 0 then (if 0 ≤ x10 then (if x10 < (x6.length : Int) then (flywheelref27_Split.l1 k x1 (wrap64 (x5 - 1)) (x6.set (x10 : Int).toNat (wrap64 ((rd x6 x10) + 1)))) else (none)) else (none)) else (flywheelref27_Split.l1 k x1 (wrap64 (x5 - x12)) x6))
end
def flywheelref27_Split.f (k : Nat) (a0 : Int) (l1 : List (S31)) : Option (List Int) := (flywheelref27_Good.f k l1).bind fun t180 => (if t180 = true then ((flywheelref01_Clamp.f a0 0 17179869184).bind fun t181 => (flywheelref27_Split.l0 k l1 t181 ([] : List Int) 0)) else (some ([] : List Int)))
end Go.Proofs.Ytlgfnclgkhfhpaa.P
end

section
namespace Go.Proofs.Ytlgfnclgkhfhpaa.P
open Go.RowKit Go.Proofs.YtlgfnclgkhfhpaaW.PrintWords Go.Proofs.YtlgfnclgkhfhpaaW.PrintLast Go.Proofs.YtlgfnclgkhfhpaaW.PrintMore
attribute [local go_sem] max2_int min2_int max_two min_two max_three min_three max_four min_four   -- for this text's walks alone
set_option linter.unusedVariables false
set_option linter.unusedSimpArgs false
def alloc_Share.l0 : Nat → Int → Int → List (S67) → List Int → Int → Int → Option ((List (S67)) × Int)
 | 0, _, _, _, _, _, _ => none
 | k + 1, x3, x10, x11, x30, x31, x32 => if x32 < x31 then (if 0 ≤ x32 then (if x32 < (x30.length : Int) then ((muldiv_Do.f (rd x30 x32) x10 256 1).bind fun t297 => (if x11.length < 8796093022208 then (alloc_Share.l0 k x3 x10 (x11 ++ [(⟨wrap64 ((rd x30 x32) - t297), t297⟩ : S67)]) x30 x31 (wrap64 (x32 + 1))) else (none))) else (none)) else (none)) else (some (x11, x3))
def alloc_Share.f (k : Nat) (a0 : Int) (l1 : List (S31)) (a2 : Int) (a3 : Int) : Option ((List (S67)) × Int) := (alloc_Good.f k l1).bind fun t289 => (if t289 = true then ((sat_Clamp.f a0 0 17179869184).bind fun t290 => ((sat_Clamp.f a3 0 (wrap64 (Int.tdiv t290 4))).bind fun t291 => ((sat_Clamp.f a2 0 128).bind fun t292 => ((alloc_Split.f k (wrap64 (t290 - t291)) l1).bind fun t293 => (alloc_Share.l0 k t291 t292 ([] : List (S67)) t293 (t293.length : Int) 0))))) else (some (([] : List (S67)), 0)))
set_option maxHeartbeats 8000000 in
set_option maxRecDepth 100000 in
theorem alloc_Share.calls (k : Nat) (a0 : Int) (A1 : Option Addr) (c1 : Nat) (l1 : List (S31)) (a2 : Int) (a3 : Int) (r1 : List (S67)) (r2 : Int) (w : World) (hr1 : Kd.C k31 w A1 l1.length l1) (hc1 : l1.length ≤ c1) (h : alloc_Share.f k a0 l1 a2 a3 = some (r1, r2)) :
  Calls Try.prog 36 #[.int .i64 a0, .slice A1 l1.length c1, .int .i64 a2, .int .i64 a3] w fun e w' => ∃ v0_ : Value, e = .returned (.tuple #[v0_, .int .i64 r2]) ∧ Kd.R k67 67 w' w.heap.size (fun _ => True) v0_ r1 ∧ Below w.heap.size w w' := by
 have hu67 := Try.underlying67
 have HR1 := Aside0.mk hr1
 have HC1 := Aside0.mk hc1
 clear hr1 hc1
 have HB := Aside0.mk (Below.refl w.heap.size w)
 have H : ((alloc_Good.f k l1).bind fun t289 => (if t289 = true then ((sat_Clamp.f a0 0 17179869184).bind fun t290 => ((sat_Clamp.f a3 0 (wrap64 (Int.tdiv t290 4))).bind fun t291 => ((sat_Clamp.f a2 0 128).bind fun t292 => ((alloc_Split.f k (wrap64 (t290 - t291)) l1).bind fun t293 => (alloc_Share.l0 k t291 t292 ([] : List (S67)) t293 (t293.length : Int) 0))))) else (some (([] : List (S67)), 0)))) = some (r1, r2) := h
 clear h
 replace H := Option.bind_eq_some_iff.mp H
 obtain ⟨t289, A50, H⟩ := H
 replace H : (if t289 = true then ((sat_Clamp.f a0 0 17179869184).bind fun t290 => ((sat_Clamp.f a3 0 (wrap64 (Int.tdiv t290 4))).bind fun t291 => ((sat_Clamp.f a2 0 128).bind fun t292 => ((alloc_Split.f k (wrap64 (t290 - t291)) l1).bind fun t293 => (alloc_Share.l0 k t291 t292 ([] : List (S67)) t293 (t293.length : Int) 0))))) else (some (([] : List (S67)), 0))) = some (r1, r2) := H
 have A5 := Aside0.mk A50
 clear A50
 by_cases c6 : t289 = true
 ·subst c6
  have H1 : ((sat_Clamp.f a0 0 17179869184).bind fun t290 => ((sat_Clamp.f a3 0 (wrap64 (Int.tdiv t290 4))).bind fun t291 => ((sat_Clamp.f a2 0 128).bind fun t292 => ((alloc_Split.f k (wrap64 (t290 - t291)) l1).bind fun t293 => (alloc_Share.l0 k t291 t292 ([] : List (S67)) t293 (t293.length : Int) 0))))) = some (r1, r2) := by rw [if_pos rfl] at H; exact H
  clear H
  have H := H1
  clear H1
  replace H := Option.bind_eq_some_iff.mp H
  obtain ⟨t290, A70, H⟩ := H
  replace H : ((sat_Clamp.f a3 0 (wrap64 (Int.tdiv t290 4))).bind fun t291 => ((sat_Clamp.f a2 0 128).bind fun t292 => ((alloc_Split.f k (wrap64 (t290 - t291)) l1).bind fun t293 => (alloc_Share.l0 k t291 t292 ([] : List (S67)) t293 (t293.length : Int) 0)))) = some (r1, r2) := H
  have A7 := Aside0.mk A70
  clear A70
  replace H := Option.bind_eq_some_iff.mp H
  obtain ⟨t291, A80, H⟩ := H
  replace H : ((sat_Clamp.f a2 0 128).bind fun t292 => ((alloc_Split.f k (wrap64 (t290 - t291)) l1).bind fun t293 => (alloc_Share.l0 k t291 t292 ([] : List (S67)) t293 (t293.length : Int) 0))) = some (r1, r2) := H
  have A8 := Aside0.mk A80
  clear A80
  replace H := Option.bind_eq_some_iff.mp H
  obtain ⟨t292, A90, H⟩ := H
  replace H : ((alloc_Split.f k (wrap64 (t290 - t291)) l1).bind fun t293 => (alloc_Share.l0 k t291 t292 ([] : List (S67)) t293 (t293.length : Int) 0)) = some (r1, r2) := H
  have A9 := Aside0.mk A90
  clear A90
  replace H := Option.bind_eq_some_iff.mp H
  obtain ⟨t293, A100, H⟩ := H
  replace H : (alloc_Share.l0 k t291 t292 ([] : List (S67)) t293 (t293.length : Int) 0) = some (r1, r2) := H
  have A10 := Aside0.mk A100
  clear A100
  have H' := Aside0.mk H
  clear H
  go_enter Try.func36, Try.ntmps36
  go_wp2_with (first | ((with_reducible refine gate_callee (f := 14) rfl ?_); refine goesL_ (some 16) rfl rfl Try.func14 (by kernel_rfl) rfl #[.slice A1 l1.length c1] rfl (by (try simp only [List.map_toArray, List.map_cons, List.map_nil]); first | done | rfl | (simp only [List.length_drop, List.length_take]; rfl)) ?_; (with_reducible refine (alloc_Good.calls k _ _ l1 true _ ?side1 ?side2 A5.out).mono ?_); (case side1 => repeat (first | exact HR1.out | (with_reducible refine Kd.C_alloc ?_ _) | (with_reducible refine Kd.C_drewN ?_ _) | (with_reducible refine Kd.C_drew ?_))); (case side2 => exact HC1.out); rintro e w11 ⟨rfl, hb⟩; refine ⟨_, rfl, ?_⟩; have n0_ := Aside0.mk (below_step (by repeat (first | (with_reducible first | exact HB.out | apply below_alloc | apply pw_below_drewN | apply below_drew1) | exact HB.out)) hb); clear HB; have HB := n0_; clear n0_; (try clear hb); (try clear hb2); (try clear hk); (try clear hi)) | ((with_reducible refine gate_callee (f := 39) rfl ?_); refine goesL_ (some 19) rfl rfl Try.func39 (by kernel_rfl) rfl #[.int .i64 a0, .int .i64 0, .int .i64 17179869184] rfl (by (try simp only [List.map_toArray, List.map_cons, List.map_nil]); first | done | rfl | (simp only [List.length_drop, List.length_take]; rfl)) ?_; (with_reducible refine (sat_Clamp.calls a0 0 17179869184 t290 _ A7.out).mono ?_); rintro e w' ⟨rfl, ⟨nd, rfl⟩⟩; refine ⟨_, rfl, ?_⟩) | ((with_reducible refine gate_callee (f := 39) rfl ?_); refine goesL_ (some 23) rfl rfl Try.func39 (by kernel_rfl) rfl #[.int .i64 a3, .int .i64 0, .int .i64 (wrap64 (Int.tdiv t290 4))] rfl (by (try simp only [List.map_toArray, List.map_cons, List.map_nil]); first | done | rfl | (simp only [List.length_drop, List.length_take]; rfl)) ?_; (with_reducible refine (sat_Clamp.calls a3 0 (wrap64 (Int.tdiv t290 4)) t291 _ A8.out).mono ?_); rintro e w' ⟨rfl, ⟨nd, rfl⟩⟩; refine ⟨_, rfl, ?_⟩) | ((with_reducible refine gate_callee (f := 39) rfl ?_); refine goesL_ (some 25) rfl rfl Try.func39 (by kernel_rfl) rfl #[.int .i64 a2, .int .i64 0, .int .i64 128] rfl (by (try simp only [List.map_toArray, List.map_cons, List.map_nil]); first | done | rfl | (simp only [List.length_drop, List.length_take]; rfl)) ?_; (with_reducible refine (sat_Clamp.calls a2 0 128 t292 _ A9.out).mono ?_); rintro e w' ⟨rfl, ⟨nd, rfl⟩⟩; refine ⟨_, rfl, ?_⟩) | ((with_reducible refine gate_callee (f := 18) rfl ?_); refine goesL_ (some 30) rfl rfl Try.func18 (by kernel_rfl) rfl #[.int .i64 (wrap64 (t290 - t291)), .slice A1 l1.length c1] rfl (by (try simp only [List.map_toArray, List.map_cons, List.map_nil]); first | done | rfl | (simp only [List.length_drop, List.length_take]; rfl)) ?_; (with_reducible refine (alloc_Split.calls k (wrap64 (t290 - t291)) _ _ l1 t293 _ ?side1 ?side2 A10.out).mono ?_); (case side1 => repeat (first | exact (Kd.C_below HR1.out (by repeat (first | (with_reducible first | exact HB.out | apply below_alloc | apply pw_below_drewN | apply below_drew1) | exact HB.out))) | (with_reducible refine Kd.C_alloc ?_ _) | (with_reducible refine Kd.C_drewN ?_ _) | (with_reducible refine Kd.C_drew ?_))); (case side2 => exact HC1.out); rintro e w12 ⟨v294, rfl, ho0, hb⟩; refine ⟨_, rfl, ?_⟩; have n0_ := Aside0.mk (Kd.R_lower ho0 (below_size (by repeat (first | (with_reducible first | exact HB.out | apply below_alloc | apply pw_below_drewN | apply below_drew1) | exact HB.out)))); have n1_ := Aside0.mk (below_step (by repeat (first | (with_reducible first | exact HB.out | apply below_alloc | apply pw_below_drewN | apply below_drew1) | exact HB.out)) hb); clear HB; have HO295 := n0_; have HB := n1_; clear n0_ n1_; (try clear hb); (try clear hb2); (try clear hk); (try clear hi); (try clear ho0); obtain ⟨Ao13, co13, eo13⟩ := Kd.R_slice HO295.out; subst eo13))
  go_loopg [11, 32] k (fun kq v11 v32 w' => ∃ (x11_1 : List (S67)) (x32_1 : Int), v32 = .int .i64 x32_1 ∧ Aside0 (alloc_Share.l0 kq t291 t292 x11_1 t293 (t293.length : Int) x32_1 = some (r1, r2)) ∧ Aside0 (kq ≤ k) ∧ Aside0 (Kd.R k67 67 w' w.heap.size (fun _ => True) v11 x11_1) ∧ Aside0 (Kd.R (Kd.int .i64) 2 w' w.heap.size (fun _ => True) (.slice Ao13 t293.length co13) t293) ∧ Aside0 (Below w.heap.size w w'))
  case atStart => exact ⟨(([] : List (S67))), (0), (by first | rfl | (simp; done) | (simp [*]; done)), H', ⟨Nat.le_refl _⟩, ⟨by first | exact Kd.R_nil _ _ _ _ _ | exact Kd.N_nil _ _ _ _ _ | exact Kd.V_nil _ _ _ _ _ | exact Kd.Q_nil _ _ _ _ _ | exact Kd.S_nil _ _ _ _ _⟩, ⟨by (with_reducible repeat (first | apply Kd.R_alloc | apply Kd.R_drewN | apply Kd.R_drew)); exact HO295.out⟩, ⟨by repeat (first | (with_reducible first | exact HB.out | apply below_alloc | apply pw_below_drewN | apply below_drew1) | exact HB.out)⟩⟩
  case round =>
   clear H'
   try clear c1
   try clear p2
   try clear c3
   try clear c6
   try clear p6
   obtain ⟨x11_1, x32_1, rfl, HA, HK1, HO_11, HO_30, HB⟩ := hrel
   cases gk with
   | zero => exact absurd HA.out (by simp [alloc_Share.l0])
   | succ k1 =>
    have H := HA.out
    clear HA
    simp only [alloc_Share.l0] at H
    by_cases c14 : x32_1 < (t293.length : Int)
    ·rw [if_pos c14] at H
     have c14b0 : decide (x32_1 < (t293.length : Int)) = true := decide_eq_true c14
     clear c14
     by_cases c15 : 0 ≤ x32_1
     ·rw [if_pos c15] at H
      have c15b0 : decide (0 ≤ x32_1) = true := decide_eq_true c15
      clear c15
      by_cases c16 : x32_1 < (t293.length : Int)
      ·rw [if_pos c16] at H
       have c16b0 : decide (x32_1 < (t293.length : Int)) = true := decide_eq_true c16
       clear c16
       replace H := Option.bind_eq_some_iff.mp H
       obtain ⟨t297, A170, H⟩ := H
       replace H : (if x11_1.length < 8796093022208 then (alloc_Share.l0 k1 t291 t292 (x11_1 ++ [(⟨wrap64 ((rd t293 x32_1) - t297), t297⟩ : S67)]) t293 (t293.length : Int) (wrap64 (x32_1 + 1))) else (none)) = some (r1, r2) := H
       have A17 := Aside0.mk A170
       clear A170
       by_cases c18 : x11_1.length < 8796093022208
       ·rw [if_pos c18] at H
        have LMc18 := Aside0.mk c18
        clear c18
        obtain ⟨y298, hy298⟩ : ∃ y_ : List (S67), y_ = (x11_1 ++ [(⟨wrap64 ((rd t293 x32_1) - t297), t297⟩ : S67)]) := ⟨_, rfl⟩
        replace H : (alloc_Share.l0 k1 t291 t292 y298 t293 (t293.length : Int) (wrap64 (x32_1 + 1))) = some (r1, r2) := by first | (rw [hy298]; with_reducible exact H) | (have H2_ := (Option.bind_some _ _).symm.trans H; rw [hy298]; with_reducible exact H2_) | (have H2_ := (Option.bind_some _ _).symm.trans H; with_reducible exact H2_) | with_reducible exact H | (rw [hy298]; exact H) | exact H
        have Ny298 := Aside0.mk hy298
        clear hy298
        have H' := Aside0.mk H
        clear H
        have p296 : 0 ≤ (x32_1 : Int) := of_decide_eq_true (by first | (with_reducible assumption) | assumption)
        have q296 : x32_1 < (t293.length : Int) := of_decide_eq_true (by first | (with_reducible assumption) | assumption)
        obtain ⟨ad296, e296, hx296_0⟩ := Kd.at_int (Kd.R_reads' HO_30.out).2.2 x32_1 p296 q296
        cases e296
        replace p296 := eq_true p296
        replace q296 := eq_true q296
        go_wp2_with (first | ((with_reducible refine gate_callee (f := 50) rfl ?_); refine goesL_ (some 38) rfl rfl Try.func50 (by kernel_rfl) rfl #[.int .i64 (rd t293 x32_1), .int .i64 t292, .int .i64 256, .int .i64 1] rfl (by (try simp only [List.map_toArray, List.map_cons, List.map_nil]); first | done | rfl | (simp only [List.length_drop, List.length_take]; rfl)) ?_; (with_reducible refine (muldiv_Do.calls (rd t293 x32_1) t292 256 1 t297 _ A17.out).mono ?_); rintro e w19 ⟨rfl, hb⟩; refine ⟨_, rfl, ?_⟩; have n0_ := Aside0.mk (Kd.R_below (by (with_reducible repeat (first | apply Kd.R_alloc | apply Kd.R_drewN | apply Kd.R_drew)); exact HO_11.out) hb); have n1_ := Aside0.mk (Kd.R_below (by (with_reducible repeat (first | apply Kd.R_alloc | apply Kd.R_drewN | apply Kd.R_drew)); exact HO_30.out) hb); have n2_ := Aside0.mk (below_step (by repeat (first | (with_reducible first | exact HB.out | apply below_alloc | apply pw_below_drewN | apply below_drew1) | exact HB.out)) hb); clear HO_11; clear HO_30; clear HB; have HO_11 := n0_; have HO_30 := n1_; have HB := n2_; clear n0_ n1_ n2_; (try clear hb); (try clear hb2); (try clear hk); (try clear hi)) | ((with_reducible refine gate_builtin (b := .append) (xs := #[.tmp 39, .tmp 45]) rfl ?_); at_builtin; refine Kd.R_append k67 (w0 := w) w.heap.size rfl (.tmp 39) (.tmp 45) 58 67 (.agg #[(.int .i64 0), (.int .i64 0)]) 16 rfl Try.underlying58 info67 rfl (by decide) (by omega) u11 x11_1 (⟨wrap64 ((rd t293 x32_1) - t297), t297⟩ : S67) [.int .i64 (wrap64 ((rd t293 x32_1) - t297)), .int .i64 t297] (fun _ => True) (fun _ => False) rfl rfl ?aP (fun _ hk => hk.elim) ?aF ?aO ?aB ?aS ?aL ?_; (case aP => exact k67_mkM _ _ _ (⟨wrap64 ((rd t293 x32_1) - t297), t297⟩ : S67)); (case aB => exact (by repeat (first | (with_reducible first | exact HB.out | apply below_alloc | apply pw_below_drewN | apply below_drew1) | exact HB.out))); (case aF => exact (fun _ _ => trivial)); (case aO => exact (by (with_reducible repeat (first | apply Kd.R_alloc | apply Kd.R_drewN | apply Kd.R_drew)); exact HO_11.out)); (case aS => exact (below_size (by repeat (first | (with_reducible first | exact HB.out | apply below_alloc | apply pw_below_drewN | apply below_drew1) | exact HB.out)))); (case aL => have := LMc18.out; omega); intro v299 w20 ho hb hg hat; rw [← Ny298.out] at ho; have n0_ := Aside0.mk (Kd.R_over' (by (with_reducible repeat (first | apply Kd.R_alloc | apply Kd.R_drewN | apply Kd.R_drew)); exact HO_30.out) (Kd.R_typed (by (with_reducible repeat (first | apply Kd.R_alloc | apply Kd.R_drewN | apply Kd.R_drew)); exact HO_11.out)) (by decide) hg); have n1_ := Aside0.mk (hb); have n2_ := Aside0.mk (ho); clear HO_30; clear HB; clear HO_11; have HO_30 := n0_; have HB := n1_; have HO300 := n2_; clear n0_ n1_ n2_; clear ho hb hg hat))
        go_roundg k1
        case measure => have := HK1.out; omega
        case rel => exact ⟨(y298), (wrap64 (x32_1 + 1)), (by first | rfl | (simp; done) | (simp [*]; done)), H', ⟨by have := HK1.out; omega⟩, ⟨by (with_reducible repeat (first | apply Kd.R_alloc | apply Kd.R_drewN | apply Kd.R_drew)); exact HO300.out⟩, ⟨by (with_reducible repeat (first | apply Kd.R_alloc | apply Kd.R_drewN | apply Kd.R_drew)); exact HO_30.out⟩, ⟨by repeat (first | (with_reducible first | exact HB.out | apply below_alloc | apply pw_below_drewN | apply below_drew1) | exact HB.out)⟩⟩
       ·rw [if_neg c18] at H
        exact absurd H (by simp)
      ·rw [if_neg c16] at H
       exact absurd H (by simp)
     ·rw [if_neg c15] at H
      exact absurd H (by simp)
    ·rw [if_neg c14] at H
     have c14b0 : decide (x32_1 < (t293.length : Int)) = false := decide_eq_false c14
     clear c14
     simp only [Option.some.injEq, Prod.mk.injEq] at H
     obtain ⟨rfl, rfl⟩ := H
     go_wp2
     go_ret2
     exact ⟨_, by first | rfl | (simp [errW_none, errW_some] <;> rfl) | (simp [*, errW_none, errW_some] <;> rfl), by (with_reducible repeat (first | apply Kd.R_alloc | apply Kd.R_drewN | apply Kd.R_drew)); exact HO_11.out, by repeat (first | (with_reducible first | exact HB.out | apply below_alloc | apply pw_below_drewN | apply below_drew1) | exact HB.out)⟩
 ·replace c6 := Bool.eq_false_iff.mpr c6
  subst c6
  have H1 : (some (([] : List (S67)), 0)) = some (r1, r2) := by rw [if_neg (show ¬ (false = true) by decide)] at H; exact H
  clear H
  have H := H1
  clear H1
  simp only [Option.some.injEq, Prod.mk.injEq] at H
  obtain ⟨rfl, rfl⟩ := H
  go_enter Try.func36, Try.ntmps36
  go_wp2_with (first | ((with_reducible refine gate_callee (f := 14) rfl ?_); refine goesL_ (some 16) rfl rfl Try.func14 (by kernel_rfl) rfl #[.slice A1 l1.length c1] rfl (by (try simp only [List.map_toArray, List.map_cons, List.map_nil]); first | done | rfl | (simp only [List.length_drop, List.length_take]; rfl)) ?_; (with_reducible refine (alloc_Good.calls k _ _ l1 false _ ?side1 ?side2 A5.out).mono ?_); (case side1 => repeat (first | exact HR1.out | (with_reducible refine Kd.C_alloc ?_ _) | (with_reducible refine Kd.C_drewN ?_ _) | (with_reducible refine Kd.C_drew ?_))); (case side2 => exact HC1.out); rintro e w21 ⟨rfl, hb⟩; refine ⟨_, rfl, ?_⟩; have n0_ := Aside0.mk (below_step (by repeat (first | (with_reducible first | exact HB.out | apply below_alloc | apply pw_below_drewN | apply below_drew1) | exact HB.out)) hb); clear HB; have HB := n0_; clear n0_; (try clear hb); (try clear hb2); (try clear hk); (try clear hi)))
  go_ret2
  exact ⟨_, by first | rfl | (simp [errW_none, errW_some] <;> rfl) | (simp [*, errW_none, errW_some] <;> rfl), by first | exact Kd.R_nil _ _ _ _ _ | exact Kd.N_nil _ _ _ _ _ | exact Kd.V_nil _ _ _ _ _ | exact Kd.Q_nil _ _ _ _ _ | exact Kd.S_nil _ _ _ _ _, by repeat (first | (with_reducible first | exact HB.out | apply below_alloc | apply pw_below_drewN | apply below_drew1) | exact HB.out)⟩
end Go.Proofs.Ytlgfnclgkhfhpaa.P
end
